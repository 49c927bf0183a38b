/- A part of the proof. -/
import Derived.Test.YtndifkmolciiaaaGreatDoorX03
set_option linter.all false
set_option maxRecDepth 8000
set_option maxHeartbeats 1000000
open Array renaming replicate->ak1
open Go.Extern.AbiNoEscape renaming same->amb
open Go.Instr renaming typeAssert->alv
open Go.IntKind renaming i64->adW
open Go.Lib renaming BuilderAt->akc,IsBuilder->alL,byteCells->alp,indexByte->alK
open Go.Proofs.Lays renaming n138->amI,n169->amH
open Go.Proofs.Tryz renaming prog->aaG
open Go.Result renaming andThen->ajd
open Go.RowKit renaming Below->ajb
open Go.Shelf renaming Ren->aml
open Go.Value renaming int->ajo,oneCell'->aiw
open Int renaming natCast_add->ad0
open List renaming append_assoc->aiu,getElem?_set_self->ahr,length_append->agc,length_drop->aj0,map_append->aid,map_map->ajc,map_set->aiC,map_take->akL,range->aiZ,replicate->ahv
open Nat renaming beq->ajx
open UInt8 renaming ofNat->al1
namespace Go.Nx
open Go Go.Proofs Tryz
section
def sW(H:List Ob)(q:ab)(l:List cY):Prop:=(l=[]/\q=ap)\/∃(h v a:Nat) (rows:List (List ab)),q= .sl h v a l.length/\H[h]?=some (.live v 3 rows)/\(rows.drop a).take l.length=l.map br/\a+l.length=rows.length
def sW.lt{H:List Ob}{q:ab}{l:List cY}(h:sW H q l):∀m∈rf q,m<H.length:=by
 rcases h with⟨_,rfl⟩|⟨h,v,b,rows,rfl,a,_⟩
 .intro m hm;simp[rf]at hm
 .intro m hm;simp[rf]at hm;subst hm;exact bf a
def sW.same{H a:List Ob}{q:ab}{l:List cY}(h:sW H q l)(b:∀m∈rf q,a[m]?=H[m]?):sW a q l:=by
 rcases h with h|⟨h,v,c,rows,rfl,d,e⟩
 .exact .inl h
 .exact .inr ⟨h,v,c,rows,rfl,by rw[b h (by simp[rf])];exact d,e⟩
def oj(H:List Ob)(c:Nat->aU)(k:aU)(t:Nat)(T:Tr):Prop:= ∃q,H[t]?=some (ah 2 [[q,I T.bN]])/\sW H q T.left/\c t=k/\∀m∈rf q,c m=k
def oj.aK{H H':List Ob}{c e:Nat->aU}{k:aU}{K:aU->Prop}{t:Nat}{T:Tr}(h:oj H c k t T)(a:aH K c e H H')(f:¬K k):oj H' e k t T:=by
 have⟨q,b,d,g,i⟩:=h;refine⟨q,?_,d.same fun m hm=>a.aK m (d.lt m hm) (by rw[i m hm];exact f),?_,fun m hm=>by rw[a.jK m (d.lt m hm)];exact i m hm⟩
 .rw[a.aK t (bf b) (by rw[g];exact f)];exact b
 .rw[a.jK t (bf b)];exact g
def eD.aK{H H':List Ob}{c a:Nat->aU}{g:Nat->aU}{K:aU->Prop}{p:Nat}{P:Pp}(h:eD H c g p P)(b:aH K c a H H')(d:∀i,i<=7-> ¬K (g i)):eD H' a g p P:=by have⟨e,f,j,room,h⟩:=h;exact⟨e,f,j,room,h.aK b d⟩
def eD.ob{H:List Ob}{c:Nat->aU}{g:Nat->aU}{p:Nat}{P:Pp}(h:eD H c g p P):∃r,H[p]?=some (ah 5 [r]):=by have⟨e,a,b,room,h⟩:=h;exact⟨_,h.hp⟩
def sZ(H:List Ob)(c:Nat->aU)(q:ab)(l:List Nd):Prop:=(l=[]/\q= .aj [])\/∃h v,q= .sl h v 0 l.length/\H[h]?=some (.live v 10 (l.map aT))/\c h= .cl 1
def sZ.aK{H H':List Ob}{c a:Nat->aU}{K:aU->Prop}{q:ab}{l:List Nd}(h:sZ H c q l)(d:aH K c a H H')(e:¬K (.cl 1)):sZ H' a q l:=by
 rcases h with h|⟨h,v,f,g,b⟩
 .exact .inl h
 .have ⟨i,j⟩:=d.get g (by rw[b];exact e);exact .inr ⟨h,v,f,i,j.trans b⟩
abbrev gP(x y:Nat):Nat->aU:= .pp x y
def rK(x y:Nat):fL (gP x y):=⟨fun i j h=>by cases h;rfl,fun i h=>by cases h⟩
abbrev Lw(k:aU):Prop:=k= .none\/∃j,9<=j/\k= .cl j
structure jo(H:List Ob)(c:Nat->aU)(b:Nat)(q:ab)(mp mt:Nat)(es et:List (List ab×ab))(K:Cl):Prop where
 hb:H[b]?=some (ah 8 [[I K.win,I K.fy,I K.wait,I K.room,I K.hold,q,.mr mp,.mr mt]])
 hn:sZ H c q K.nodes
 hp:H[mp]?=some (.mp es)
 ht:H[mt]?=some (.mp et)
 kp:nz es=true
 kt:nz et=true
 cb:c b= .cl 0
 cp:c mp= .cl 2
 ct:c mt= .cl 3
 pp:∀x y:Nat,(dY es [(x:Int),(y:Int)]=none/\K.pp x y=wO K.win K.fy K.wait K.room)\/∃p,dY es [(x:Int),(y:Int)]=some (.ptr p 0 0 0)/\eD H c (gP x y) p (K.pp x y)
 tr:∀x y:Nat,(dY et [(x:Int),(y:Int)]=none/\K.tr x y=⟨[],0⟩)\/∃t,dY et [(x:Int),(y:Int)]=some (.ptr t 0 0 0)/\oj H c (.tr x y) t (K.tr x y)
def bJ(H:List Ob)(c:Nat->aU)(b:Nat)(K:Cl):Prop:= ∃q mp mt es et,jo H c b q mp mt es et K
section
variable{H:List Ob}{c:Nat->aU}{b mp mt:Nat}{q:ab}{es et:List (List ab×ab)}{K:Cl}
def jo.aK{H':List Ob}{j:Nat->aU}{X:aU->Prop}(h:jo H c b q mp mt es et K)(a:aH X c j H H')(l:∀k,X k->Lw k):jo H' j b q mp mt es et K:=by
 have d:∀ {k:aU}, ¬Lw k-> ¬X k:=fun hn m=>hn (l _ m);have⟨n,o⟩:=a.get h.hb (by rw[h.cb];exact d (by simp));have⟨r,s⟩:=a.get h.hp (by rw[h.cp];exact d (by simp));have⟨t1,t2⟩:=a.get h.ht (by rw[h.ct];exact d (by simp));refine⟨n,h.hn.aK a (d (by simp)),r,t1,h.kp,h.kt,o.trans h.cb,s.trans h.cp,t2.trans h.ct,fun x y=>?_,fun x y=>?_⟩
 .rcases h.pp x y with g|⟨p,e,f⟩
  .exact .inl g
  .exact .inr ⟨p,e,f.aK a fun i _=>d (by simp)⟩
 .rcases h.tr x y with g|⟨p,e,f⟩
  .exact .inl g
  .exact .inr ⟨p,e,f.aK a (d (by simp))⟩
def bJ.aK{H':List Ob}{a:Nat->aU}{X:aU->Prop}(h:bJ H c b K)(d:aH X c a H H')(e:∀k,X k->Lw k):bJ H' a b K:=by have⟨q,mp,mt,es,et,h⟩:=h;exact⟨q,mp,mt,es,et,h.aK d e⟩
def jo.RU{f:List Ob}{l:Nat->aU}{x y p:Nat}{o:Pp}(h:jo H c b q mp mt es et K)(F:x<=y)(a:aH (Gp (gP x y)) c l H f)(r:dY es [(x:Int),(y:Int)]=some (.ptr p 0 0 0))(s:eD f l (gP x y) p o):jo f l b q mp mt es et (K.eR x y o):=by
 have d:∀ {k:aU},(∀i,k≠ .pp x y i)-> ¬Gp (gP x y) k:=fun hn ⟨i,_,t⟩=>hn i t;have⟨w,z⟩:=a.get h.hb (by rw[h.cb];exact d (by simp));have⟨A,B⟩:=a.get h.hp (by rw[h.cp];exact d (by simp));have⟨t1,t2⟩:=a.get h.ht (by rw[h.ct];exact d (by simp));refine⟨w,h.hn.aK a (d (by simp)),A,t1,h.kp,h.kt,z.trans h.cb,B.trans h.cp,t2.trans h.ct,fun u v=>?_,fun u v=>?_⟩
 .have C:min x y=x:=by omega
  have D:max x y=y:=by omega
  simp only[Cl.eR,C,D];by_cases e:u=x/\v=y
  .obtain ⟨rfl,rfl⟩:=e;rw[if_pos ⟨rfl,rfl⟩];exact .inr ⟨p,r,s⟩
  .rw[if_neg e];rcases h.pp u v with g|⟨p,m,n⟩
   .exact .inl g
   .exact .inr ⟨p,m,n.aK a fun i _=>d fun j E=>e (by cases E;exact⟨rfl,rfl⟩)⟩
 .rcases h.tr u v with g|⟨p,m,n⟩
  .exact .inl g
  .exact .inr ⟨p,m,n.aK a (d (by simp))⟩
def jo.xj{d:List Ob}{f:Nat->aU}{x y t:Nat}{l:Tr}(h:jo H c b q mp mt es et K)(a:aH (· = .tr x y) c f H d)(m:dY et [(x:Int),(y:Int)]=some (.ptr t 0 0 0))(n:oj d f (.tr x y) t l):jo d f b q mp mt es et (K.mO x y l):=by
 have⟨o,r⟩:=a.get h.hb (by rw[h.cb];simp);have⟨s,w⟩:=a.get h.hp (by rw[h.cp];simp);have⟨t1,t2⟩:=a.get h.ht (by rw[h.ct];simp);refine⟨o,h.hn.aK a (by simp),s,t1,h.kp,h.kt,r.trans h.cb,w.trans h.cp,t2.trans h.ct,fun u v=>?_,fun u v=>?_⟩
 .rcases h.pp u v with g|⟨p,j,k⟩
  .exact .inl g
  .exact .inr ⟨p,j,k.aK a fun i _=>by simp⟩
 .simp only[Cl.mO];by_cases e:u=x/\v=y
  .obtain ⟨rfl,rfl⟩:=e;rw[if_pos ⟨rfl,rfl⟩];exact .inr ⟨t,m,n⟩
  .rw[if_neg e];rcases h.tr u v with g|⟨p,j,k⟩
   .exact .inl g
   .exact .inr ⟨p,j,k.aK a fun z=>e (by cases z;exact⟨rfl,rfl⟩)⟩
def P1(h:sZ H c q K.nodes):(∃n:Nat,n=K.nodes.length/\((q= .aj []/\n=0)\/∃h v,q= .sl h v 0 n/\H[h]?=some (.live v 10 (K.nodes.map aT)))):=by
 rcases h with⟨a,b⟩|⟨h,v,a,b,d⟩
 .exact ⟨0,by rw[a];rfl,.inl ⟨b,rfl⟩⟩
 .exact ⟨_,rfl,.inr ⟨h,v,a,b⟩⟩
def og(h:bJ H c b K)(a:Int):aO tz ay 34 [au b,aa a] H=some (aR (decide (K.there a)),H):=by
 have⟨q,mp,mt,es,et,h⟩:=h;have d:=h.hb;have⟨n,hn,g⟩:=P1 h.hn;have i:decide (K.there a)=(decide (0<=a)&&decide (a< (n:Int))):=by rw[aj3];simp only[decide_eq_true_iff,abR];rw[hn];exact alc
 rw[i]
 obtain⟨r,e,j,rfl,rfl⟩:=cG (C:=tz) (f:=34) (args:=[au b,aa a]) (H:=H) (fun x e=>x=aR (decide (0<=a)&&decide (a< (n:Int)))/\e=H) func34 rfl (by
  by_cases c1:0<=a
  .rcases g with⟨rfl,rfl⟩|⟨h,v,rfl,k⟩
   .simp[f34,d,c1]
   .have l:n<=K.nodes.length:=by omega
    simp[f34,d,c1]
  .simp[f34,c1])
 exact dK (by simp) j
def uK(h:bJ H c b K)(x y:Int):aO tz ay 56 [au b,aa x,aa y] H=some (aR (decide (K.two x y)),H):=by
 have a:=og h x;have d:=og h y
 obtain⟨r,e,a,rfl,rfl⟩:=cG (C:=tz) (f:=56) (args:=[au b,aa x,aa y]) (H:=H) (fun r e=>r=aR (decide (K.two x y))/\e=H) func56 rfl (by
  unfold Cl.two;by_cases c1:K.there x
  .rw[decide_eq_true c1]at a;by_cases c2:K.there y
   .rw[decide_eq_true c2]at d;simp[-aD,f56,a,d,c1,c2]
   .rw[decide_eq_false c2]at d;simp[-aD,f56,a,d,c1,c2]
  .rw[decide_eq_false c1]at a;simp[-aD,f56,a,c1])
 exact dK (by simp) a
end
end
section
def nm(H:List Ob)(q:ab)(l:List Int):Prop:=(l=[]/\q=ap)\/∃h v,l≠ []/\q= .sl h v 0 l.length/\H[h]?=some (.live v 1 (l.map aC))
def nm.aK{H H':List Ob}{q:ab}{l:List Int}(h:nm H q l)(a:∀m∈rf q,H'[m]?=H[m]?):nm H' q l:=by
 rcases h with h|⟨h,v,b,rfl,c⟩
 .exact .inl h
 .exact .inr ⟨h,v,b,rfl,by rw[a h (by simp[rf])];exact c⟩
def oa(n a:Nat):List Int:=(others n a).map fun i:Nat=>(i:Int)
def Wq(n a:Nat):oa (n+1) a=if n=a then oa n a else oa n a++[(n:Int)]:=by unfold oa others;rw[aj2,ajl,aid];by_cases h:n=a;all_goals simp[h]
def ye(n a:Nat):(oa n a).length<=n:=by unfold oa others;rw[aio];exact ai5 (aiq _ _) (by simp)
section
variable{H:List Ob}{c:Nat->aU}{b:Nat}{K:Cl}
def Qo(h:bJ H c b K)(a:Nat)(hn:K.nodes.length<=1000):∃q I o,aO tz ay 77 [au b,aa a] H=some (.c q,o)/\nm o q (oa K.nodes.length a)/\(∀m∈rf q,I m= .none)/\aH (fun _=>False) c I H o:=by
 have⟨q,mp,mt,es,et,h⟩:=h;have J:=h.hb;have⟨n,R,T⟩:=P1 h.hn;rw[<-R]at hn|-
 obtain⟨ae,o,U,i,rfl,V,L,W,X⟩:=cG (C:=tz) (f:=77) (args:=[au b,aa a]) (H:=H) (fun x o=>∃i,x= .c i/\nm o i (oa n a)/\(∀m∈rf i,H.length<=m)/\H.length<=o.length/\∀m,m<H.length->o[m]?=H[m]?) func77 rfl (by
  simp only[f77,cr];rw[fQ];refine bp [(5,.c ap),(0,au b),(1,aa a)] (fun G=>G=H) ?_ ?_
  .simp
  rintro A G⟨M,N,O,_⟩B;obtain rfl:H=G:=B.symm;refine eh (fun S=>S.bG=[]/\∃i,S.env.get 5=some (.c i)/\nm S.heap i (oa n a)/\(∀m∈rf i,H.length<=m)/\H.length<=S.heap.length/\∀m,m<H.length->S.heap[m]?=H[m]?) ?_ ?_
  .refine bp [(1,aa a),(11,aa n),(12,aa (0:Nat)),(5,.c ap)] (fun G=>G=H) ?_ ?_
   .rcases T with⟨rfl,rfl⟩|⟨h,v,rfl,D⟩
    .simp[J,N,O,M]
    .have af:n<=K.nodes.length:=by omega
     simp[J,N,O,M]
   rintro A G Y B;obtain rfl:H=G:=B.symm;rw[eC];refine iv (fun p:Nat×ab=>[(1,aa a),(11,aa n),(12,aa p.1),(5,.c p.2)]) (fun p G=>p.1<=n/\nm G p.2 (oa p.1 a)/\(∀m∈rf p.2,H.length<=m)/\H.length<=G.length/\∀m,m<H.length->G[m]?=H[m]?) (fun p=>n-p.1) ?_ (0,ap) Y ⟨by omega,.inl ⟨rfl,rfl⟩,by simp[rf],ad3 _,fun _ _=>rfl⟩ fun _=>rfl;rintro⟨j,i⟩ A G ⟨y,s,t,r,_⟩ ⟨Z,u,z,E,w⟩;simp only at y s t r Z u z E w;by_cases d:j<n
   .have F:adW.wrap ((j:Int)+1)=((j+1:Nat):Int):=cv (by omega);have k:=Wq j a;by_cases e:j=a
    .rw[if_pos e]at k;subst e;simp[-ad0,y,s,t,r,d,F];exact⟨j+1,by omega,i,⟨rfl,rfl⟩,by omega,by rw[k];exact u,z,E,w⟩
    .rw[if_neg e]at k;have P:¬(j:Int)=a:=by omega
     have ad:=ye j a;have⟨l,hl⟩:=ak (oa j a);rw[hl]at u k ad;rcases u with⟨rfl,rfl⟩|⟨h,v,ag,rfl,D⟩
     .simp[-ad0,y,s,t,r,d,F,P];refine⟨j+1,by omega,_,⟨rfl,rfl⟩,by omega,.inr ⟨G.length+1,0,by rw[k];simp,by rw[k];rfl,by rw[k,jh];rfl⟩,?_,by omega,fun m hm=>by rw[abE (by omega)];exact w m hm⟩;intro m hm;simp[rf]at hm;omega
     .have m1:l.length+1<=maxLen:=by unfold maxLen;omega
      have m2:(l.length+1)*8<=140737488355328:=by omega
      have Q:∀K,(G++K)[h]?=some (.live v 1 (l.map aC)):=fun K=>by rw[abE (bf D)];exact D
      simp[-ad0,y,s,t,r,d,F,P,Q,m1,m2];have L:H.length<=h:=z h (by simp[rf]);refine⟨j+1,by omega,_,⟨rfl,rfl⟩,by omega,.inr ⟨h,v+1,by rw[k];simp,by rw[k];simp,by rw[k,ba (Q _)];simp[aC]⟩,?_,by omega,fun m hm=>by rw[aat (by omega),abE (by omega)];exact w m hm⟩;intro m hm;simp[rf]at hm;omega
   .simp[s,t,r,d];have hj:j=n:=by omega
    rw[<-hj];exact⟨u,z,E,w⟩
  rintro⟨A,G,ds⟩⟨rfl,i,r,g⟩;simp only at r g;simp[r];exact g)
 exact⟨i,ext c H.length .none,o,dK (by simp) U,V,fun m hm=>jr (L m hm),aH.of _ W fun m hm _=>X m hm⟩
def zp:sw aaG 101=true:=by kernel_rfl
def zM:sw aaG 102=true:=by kernel_rfl
def KI:ry aaG 186=true:=by kernel_rfl
def QC:ry aaG 159=true:=by kernel_rfl
def oj.ob{k:aU}{t:Nat}{T:Tr}(h:oj H c k t T):∃r,H[t]?=some (ah 2 [r]):=by have⟨q,a,_⟩:=h;exact⟨_,a⟩
structure ZB(b:Nat)(K:Cl)(x y t:Nat)(c':Nat->aU)(H':List Ob):Prop where
 n:∃q mp mt es et,jo H' c' b q mp mt es et K/\dY et [(x:Int),(y:Int)]=some (.ptr t 0 0 0)
 r:oj H' c' (.tr x y) t (K.tr x y)
def Di(b:Nat)(q:ab)(mp mt:Nat)(e:List (List ab×ab))(K:Cl)(x y t:Nat)(a:Nat->aU)(c:List Ob):Prop:=
 (∃d,jo c a b q mp mt e d K/\dY d [(x:Int),(y:Int)]=some (.ptr t 0 0 0))/\oj c a (.tr x y) t (K.tr x y)
def Ha{q:ab}{mp mt:Nat}{s k:List (List ab×ab)}(d:jo H c b q mp mt s k K)(x y:Nat):∃t m l,aO tz ay 58 [au b,aa x,aa y] H=some (au t,l)/\Di b q mp mt s K x y t m l/\aH (· = .cl 3) c m H l:=by
 obtain⟨r,l,G,t,m,rfl,w,Z⟩:=cG (C:=tz) (f:=58) (args:=[au b,aa x,aa y]) (H:=H) (fun r l=>∃t m,r=au t/\Di b q mp mt s K x y t m l/\aH (· = .cl 3) c m H l) func58 rfl (by
  have J:=d.hb;have hm:=d.ht;have L:=d.kt;have P:=bf J;have Q:=bf hm;have z:∀K,(H++K)[b]?=H[b]?:=fun K=>abE P;have A:∀K,(H++K)[mt]?=H[mt]?:=fun K=>abE Q;rw[J]at z;rw[hm]at A;rcases d.tr x y with⟨B,D⟩|⟨t,B,D⟩
  .have ⟨X,n⟩:=ak (H++[ah 2 [[I x,I y]],ah 2 [[ap,I 0]]]:List Ob);have E:dY (gQ k [(x:Int),(y:Int)] (.ptr (H.length+1) 0 0 0)) [(x:Int),(y:Int)]=some (.ptr (H.length+1) 0 0 0):=JS _ _ _ rfl;have M:=EN (a:=(x:Int)) (b:=(y:Int)) k (.ptr (H.length+1) 0 0 0) L;have R:∀u v:Nat, ¬(u=x/\v=y)->dY (gQ k [(x:Int),(y:Int)] (.ptr (H.length+1) 0 0 0)) [(u:Int),(v:Int)]=dY k [(u:Int),(v:Int)]:=fun u v ad=>Et _ _ rfl fun e=>ad (by simp at e;omega);have⟨F,S⟩:=ak (gQ k [(x:Int),(y:Int)] (.ptr (H.length+1) 0 0 0));rw[S]at E M R;have nb:b≠mt:=fun e=>by subst e;rw[J]at hm;cases hm
   have np:mt≠mp:=fun e=>by have G:=d.cp;have w:=d.ct;rw[e,G]at w;cases w
   have x1:X[b]?=some (ah 8 [[I K.win,I K.fy,I K.wait,I K.room,I K.hold,q,.mr mp,.mr mt]]):=by rw[<-n];exact z _
   have T:X[mt]?=some (.mp k):=by rw[<-n];exact A _
   have x3:X[H.length]?=some (ah 2 [[I x,I y]]):=by rw[<-n];simp
   have x4:X[H.length+1]?=some (ah 2 [[ap,I 0]]):=by rw[<-n];simp
   have U:∀o,(X.set mt o)[b]?=some (ah 8 [[I K.win,I K.fy,I K.wait,I K.room,I K.hold,q,.mr mp,.mr mt]]):=fun o=>by rw[aat (ait nb)];exact x1
   have V:∀o,(X.set mt o)[mt]?=some o:=fun o=>ba T;have y3:∀o,(X.set mt o)[H.length]?=some (ah 2 [[I x,I y]]):=fun o=>by rw[aat (by omega)];exact x3
   have y4:∀o,(X.set mt o)[H.length+1]?=some (ah 2 [[ap,I 0]]):=fun o=>by rw[aat (by omega)];exact x4
   have j:aH (· = .cl 3) c (ext c H.length (.tr x y)) H (X.set mt (.mp F)):=by refine aH.of _ (by rw[<-n];simp) fun ae hm hk=>?_;rw[aat (fun e=>hk (by rw[<-e];exact d.ct)), <-n,abE hm]
   have hq:Di b q mp mt s K x y (H.length+1) (ext c H.length (.tr x y)) (X.set mt (.mp F)):=by
    have W:oj (X.set mt (.mp F)) (ext c H.length (.tr x y)) (.tr x y) (H.length+1) (K.tr x y):=by rw[D];exact⟨ap,y4 _,.inl ⟨rfl,rfl⟩,jr (by omega),by simp[rf]⟩
    have⟨p1,p2⟩:=j.get d.hp (by rw[d.cp];simp);refine⟨⟨F,⟨U _,d.hn.aK j (by simp),p1,V _,d.kp,M,by rw[jf P];exact d.cb,p2.trans d.cp,by rw[jf Q];exact d.ct,fun u v=>?_,fun u v=>?_⟩,E⟩,W⟩
    .rcases d.pp u v with g|⟨p,N,O⟩
     .exact .inl g
     .exact .inr ⟨p,N,O.aK j fun i _=>by simp⟩
    .by_cases e:u=x/\v=y
     .obtain ⟨rfl,rfl⟩:=e;exact .inr ⟨_,E,W⟩
     .rw[R u v e];rcases d.tr u v with g|⟨p,N,O⟩
      .exact .inl g
      .exact .inr ⟨p,N,O.aK j (by simp)⟩
   simp[f58,z,A,T,zM,QC,nK,qW,iF,L,B,ll,n,U,V,y3,S,E,M];exact⟨_,hq,j⟩
  .have ⟨r,hp⟩:=D.ob;have Y:∀K,(H++K)[t]?=H[t]?:=fun K=>abE (bf hp);rw[hp]at Y;simp[f58,z,A,zM,QC,nK,iF,L,B,Y,ll];have j:aH (fun _=>False) c (ext c H.length .none) H (H++[ah 2 [[I x,I y]]]):=aH.of _ (by simp) fun ae hm _=>abE hm;exact⟨_,⟨⟨k,d.aK j fun _ h=>h.elim,B⟩,D.aK j fun h=>h⟩,j.mono fun _ h=>h.elim⟩)
 exact⟨t,m,l,dK (by simp) G,w,Z⟩
def Ox(h:bJ H c b K)(x y:Nat):∃t d a,aO tz ay 58 [au b,aa x,aa y] H=some (au t,a)/\ZB b K x y t d a/\aH (· = .cl 3) c d H a:=by have⟨q,mp,mt,e,n,f⟩:=h;have⟨t,d,a,g,⟨⟨i,j,k⟩,l⟩,m⟩:=Ha f x y;exact⟨t,d,a,g,⟨⟨q,mp,mt,e,i,j,k⟩,l⟩,m⟩
end
end
section
variable{x y:Nat}
def ag5(a b x y:Int):eL [Sh.int,Sh.int] [I a,I b] [I x,I y]=some (decide (a=x)&&decide (b=y)):=by
 have h:∀a b:Int,lR Sh.int (I a) (I b)=some (decide (a=b)):=fun a b=>by
  simp only[lR];by_cases h:a=b
  .subst h;simp
  .simp[h]
 simp[eL,h]
structure J3(b:Nat)(K:Cl)(x y p:Nat)(c':Nat->aU)(H':List Ob):Prop where
 n:∃q mp mt es et,jo H' c' b q mp mt es et K/\dY es [((min x y:Nat):Int),((max x y:Nat):Int)]=some (.ptr p 0 0 0)
 r:eD H' c' (gP (min x y) (max x y)) p (K.pipe x y)
def J3.bH{b:Nat}{K:Cl}{p:Nat}{c d:Nat->aU}{H f:List Ob}{a:Pp}(h:J3 b K x y p c H)(g:aH (Gp (gP (min x y) (max x y))) c d H f)(i:eD f d (gP (min x y) (max x y)) p a):bJ f d b (K.eR x y a):=by
 have⟨q,mp,mt,j,k,l,m⟩:=h.n;have:=l.RU (by omega) g m i;refine⟨q,mp,mt,j,k,?_⟩;have e:K.eR (min x y) (max x y) a=K.eR x y a:=by unfold Cl.eR;rw[show min (min x y) (max x y)=min x y by omega,show max (min x y) (max x y)=max x y by omega]
 rw[<-e];exact this
section
variable{H:List Ob}{c:Nat->aU}{b:Nat}{K:Cl}
def zP(b:Nat)(q:ab)(mp mt:Nat)(e:List (List ab×ab))(K:Cl)(x y p:Nat)(a:Nat->aU)(c:List Ob):Prop:=
 (∃d,jo c a b q mp mt d e K/\dY d [((min x y:Nat):Int),((max x y:Nat):Int)]=some (.ptr p 0 0 0))/\eD c a (gP (min x y) (max x y)) p (K.pipe x y)
def Mt{q:ab}{mp mt:Nat}{n t:List (List ab×ab)}(w:jo H c b q mp mt n t K)(al:x≠y):∃p m k,aO tz ay 78 [au b,aa x,aa y] H=some (.aM [au p,aa (bI (cT x y))],k)/\zP b q mp mt t K x y p m k/\aH (· = .cl 2) c m H k:=by
 obtain⟨r,k,O,p,m,rfl,P,h3⟩:=cG (C:=tz) (f:=78) (args:=[au b,aa x,aa y]) (H:=H) (fun r k=>∃p m,r= .aM [au p,aa (bI (cT x y))]/\zP b q mp mt t K x y p m k/\aH (· = .cl 2) c m H k) func78 rfl (by
  have⟨u,hu⟩:=ak (min x y);have⟨v,hv⟩:=ak (max x y);have W:min (x:Int) y=(u:Int):=by omega
  have Y:max (x:Int) y=(v:Int):=by omega
  have F:eL [Sh.int,Sh.int] [I u,I v] [I x,I y]=some (!cT x y):=by
   rw[ag5];unfold cT;by_cases d:y<x
   .rw[decide_eq_true d,decide_eq_false (by omega)];rfl
   .rw[decide_eq_false d,decide_eq_true (by omega),decide_eq_true (by omega)];rfl
  have Z:∀ {p:Nat} {m:Nat->aU} {k:List Ob},(∃n,jo k m b q mp mt n t K/\dY n [(u:Int),(v:Int)]=some (.ptr p 0 0 0))->eD k m (gP u v) p (K.pp u v)->zP b q mp mt t K x y p m k:=fun O P=>by subst hu hv;exact⟨O,P⟩
  have Q:=w.hb;have hm:=w.hp;have R:=w.kp;have lb:=bf Q;have lm:=bf hm;have gb:∀K,(H++K)[b]?=H[b]?:=fun K=>abE lb;have gm:∀K,(H++K)[mp]?=H[mp]?:=fun K=>abE lm;rw[Q]at gb;rw[hm]at gm;rcases w.pp u v with⟨J,L⟩|⟨p,J,L⟩
  .have ⟨X,M⟩:=ak (H++[ah 2 [[I u,I v]]]:List Ob);have⟨c1,ai⟩:=ak (ext c H.length .none);have ad:aH (fun _=>False) c c1 H X:=by rw[<-ai, <-M];exact aH.of _ (by simp) fun ae hm _=>abE hm
   have⟨s,c2,G,r1,r2,S,r4⟩:=VC (g:=gP u v) X c1 K.win K.fy K.wait K.room;have lX:X.length=H.length+1:=by rw[<-M];simp
   have T:=w.aK ad fun _ h=>h.elim;have l:=T.aK S fun _ h=>h.elim;have nb:b≠mp:=fun e=>by subst e;rw[Q]at hm;cases hm
   have N:dY (gQ n [(u:Int),(v:Int)] (.ptr s 0 0 0)) [(u:Int),(v:Int)]=some (.ptr s 0 0 0):=JS _ _ _ rfl;have U:=EN (a:=(u:Int)) (b:=(v:Int)) n (.ptr s 0 0 0) R;have e3:∀i j:Nat, ¬(i=u/\j=v)->dY (gQ n [(u:Int),(v:Int)] (.ptr s 0 0 0)) [(i:Int),(j:Int)]=dY n [(i:Int),(j:Int)]:=fun i j aj=>Et _ _ rfl fun e=>aj (by simp at e;omega);have⟨B,af⟩:=ak (gQ n [(u:Int),(v:Int)] (.ptr s 0 0 0));rw[af]at N U e3;have x3:X[H.length]?=some (ah 2 [[I u,I v]]):=by rw[<-M];simp
   have D:=l.hb;have z:=l.hp;have g3:G[H.length]?=some (ah 2 [[I u,I v]]):=by rw[S.aK _ (by omega) fun h=>h];exact x3
   have y1:∀o,(G.set mp o)[b]?=some (ah 8 [[I K.win,I K.fy,I K.wait,I K.room,I K.hold,q,.mr mp,.mr mt]]):=fun o=>by rw[aat (ait nb)];exact D
   have y2:∀o,(G.set mp o)[mp]?=some o:=fun o=>ba z;have y3:∀o,(G.set mp o)[H.length]?=some (ah 2 [[I u,I v]]):=fun o=>by rw[aat (by omega)];exact g3
   have ag:c2 mp= .cl 2:=l.cp;have A:aH (· = .cl 2) c2 c2 G (G.set mp (.mp B)):=pD (b:=mp) (h:=mp) (by simp) ag ag fun ae h _=>aat (ait h);have E:aH (· = .cl 2) c c2 H (G.set mp (.mp B)):=((ad.mono fun _ h=>h.elim).trans (S.mono fun _ h=>h.elim)).trans A;have rr:eD (G.set mp (.mp B)) c2 (gP u v) s (K.pp u v):=by rw[L];exact r2.aK A fun i _=>by simp
   have hq:zP b q mp mt t K x y s c2 (G.set mp (.mp B)):=by
    have⟨p1,p2⟩:=A.get l.ht (by rw[l.ct];simp);refine Z ⟨B,⟨y1 _,l.hn.aK A (by simp),y2 _,p1,U,l.kt,l.cb,l.cp,l.ct,fun i j=>?_,fun i j=>?_⟩,N⟩ rr
    .by_cases e:i=u/\j=v
     .obtain ⟨rfl,rfl⟩:=e;exact .inr ⟨_,N,rr⟩
     .rw[e3 i j e];rcases l.pp i j with g|⟨p,D,z⟩
      .exact .inl g
      .exact .inr ⟨p,D,z.aK A fun i _=>by simp⟩
    .rcases l.tr i j with g|⟨p,D,z⟩
     .exact .inl g
     .exact .inr ⟨p,D,z.aK A (by simp)⟩
   have x1:=T.hb;have x2:=T.hp;cases V:cT x y<;>rw[V]at F<;>simp[-aD,f78,W,Y,F,x1,x2,x3,zp,KI,nK,qW,iF,R,J,ll,M,r1,z,y1,y2,y3,af,N,U,bI];all_goals exact⟨_,hq,E⟩
  .have ⟨r,hp⟩:=L.ob;have gp:∀K,(H++K)[p]?=H[p]?:=fun K=>abE (bf hp);rw[hp]at gp;have E:aH (fun _=>False) c (ext c H.length .none) H (H++[ah 2 [[I u,I v]]]):=aH.of _ (by simp) fun ae hm _=>abE hm;have fin:=Z ⟨n,w.aK E fun _ h=>h.elim,J⟩ (L.aK E fun _ _ h=>h);cases V:cT x y<;>rw[V]at F<;>simp[f78,W,Y,F,gb,gm,zp,KI,nK,iF,R,J,gp,ll,bI];all_goals exact⟨_,fin,E.mono fun _ h=>h.elim⟩)
 exact⟨p,m,k,dK (by simp) O,P,h3⟩
def ub(h:bJ H c b K)(e:x≠y):∃p d a,aO tz ay 78 [au b,aa x,aa y] H=some (.aM [au p,aa (bI (cT x y))],a)/\J3 b K x y p d a/\aH (· = .cl 2) c d H a:=by have⟨q,mp,mt,o,f,g⟩:=h;have⟨p,d,a,i,⟨⟨j,k,l⟩,m⟩,n⟩:=Mt g e;exact⟨p,d,a,i,⟨⟨q,mp,mt,j,f,k,l⟩,m⟩,n⟩
end
end
section
abbrev Gx:aU->Prop:=fun k=> ¬Lw k
def ma{k:Nat}(a:k<9)(x:aU)(h:x= .cl k):Gx x:=by subst h;simp;omega
def D7{i j:Nat}(x:aU)(h:x= .tr i j):Gx x:=by subst h;simp
def rA{i j:Nat}(x:aU)(h:Gp (gP i j) x):Gx x:=by obtain⟨k,_,rfl⟩:=h;simp
def OI(K:Cl)(x y:Nat):K.eR x y (K.pipe x y)=K:=by
 unfold Cl.eR Cl.pipe;congr 1
 funext u v
 split
 .rename_i h;rw[h.1,h.2]
 .rfl
structure dM(K:Cl):Prop where
 pp:∀x y,dO (K.pp x y)
 n:K.nodes.length<=1000
 ts:∀x y,(K.tr x y).bN<=(K.tr x y).left.length
 tl:∀x y,(K.tr x y).left.length<=1000000000
def dM.pipe{K:Cl}(h:dM K)(x y:Nat):dO (K.pipe x y):=h.pp _ _
def Gd(H:List Ob)(x:Bool):aO tz ay 100 [aR x] H=some (aa (if x=true then 0 else 211),H):=by
 have h:aS tz ay 0 100 [aR x]=some (aa (if x=true then 0 else 211),[]):=by refine be func100 rfl ?_;cases x<;>simp[f100]
 cases x<;>simp[h]<;>exact h
section
variable{H:List Ob}{c:Nat->aU}{b:Nat}{K:Cl}
def qO{x y:Int}(h:K.two x y):∃u v:Nat,x=u/\y=v/\u≠v:=by have⟨a,b,c⟩:=h;exact⟨x.toNat,y.toNat,by have:=a.1;omega,by have:=b.1;omega,by have:=a.1;have:=b.1;omega⟩
def zi(h:bJ H c b K)(x y k:Int):∃i a,aO tz ay 53 [au b,aa x,aa y,aa k] H=some (eF (K.look x y k),a)/\bJ a i b K/\aH Gx c i H a:=by
 have e:=uK h x y;unfold Cl.look;by_cases d:K.two x y
 .obtain ⟨u,v,rfl,rfl,o⟩:=qO d;rw[if_pos d];rw[decide_eq_true d]at e;simp only[ais];have⟨p,c1,z,q,j,s⟩:=ub h (ait o);have⟨c2,t,l,w,m⟩:=YL (rK _ _) j.r (cT v u) k;have n:=j.bH m w;rw[OI]at n;unfold eF at l|-;obtain⟨r,a,g,rfl,rfl⟩:=cG (C:=tz) (f:=53) (args:=[au b,aa u,aa v,aa k]) (H:=H) (fun r a=>r= .aM [.c (Sg (((K.pipe v u).look (cT v u) k).getD [])),aR ((K.pipe v u).look (cT v u) k).isSome]/\a=t) func53 rfl (by simp[-aD,f53,e,q,l])
  exact⟨c2,_,dK (by simp) g,n,(s.mono (ma (by omega))).trans (m.mono rA)⟩
 .rw[if_neg d];rw[decide_eq_false d]at e;unfold eF;obtain⟨r,a,g,rfl,rfl⟩:=cG (C:=tz) (f:=53) (args:=[au b,aa x,aa y,aa k]) (H:=H) (fun r a=>r= .aM [.c (Sg []),aR false]/\a=H) func53 rfl (by simp[-aD,f53,e])
  exact⟨c,_,dK (by simp) g,h,aH.refl _ _ _⟩
def c62(h:bJ H c b K)(x y k:Int):∃i a,aO tz ay 62 [au b,aa x,aa y,aa k] H=some (aa (K.je x y k).2,a)/\bJ a i b (K.je x y k).1/\aH Gx c i H a:=by
 have e:=uK h x y;unfold Cl.je Cl.qY;by_cases d:K.two x y
 .obtain ⟨u,v,rfl,rfl,n⟩:=qO d;simp only[if_pos d];rw[decide_eq_true d]at e;simp only[ais];have⟨p,c1,D,o,j,q⟩:=ub h (ait n);have⟨c2,s,t,w,l⟩:=ag7 (rK _ _) j.r (cT v u) k;have A:=j.bH l w;have m:=fun H=>Gd H ((K.pipe v u).je (cT v u) k).2;have⟨z,B⟩:=ak (if((K.pipe v u).je (cT v u) k).2=true then(0:Int)else 211);rw[B]at m|-;obtain⟨r,a,g,rfl,rfl⟩:=cG (C:=tz) (f:=62) (args:=[au b,aa u,aa v,aa k]) (H:=H) (fun r a=>r=aa z/\a=s) func62 rfl (by simp[-aD,f62,e,o,t,m])
  exact⟨c2,_,dK (by simp) g,A,(q.mono (ma (by omega))).trans (l.mono rA)⟩
 .simp only[if_neg d];rw[decide_eq_false d]at e;obtain⟨r,a,g,rfl,rfl⟩:=cG (C:=tz) (f:=62) (args:=[au b,aa x,aa y,aa k]) (H:=H) (fun r a=>r=aa 211/\a=H) func62 rfl (by simp[-aD,f62,e])
  exact⟨c,_,dK (by simp) g,h,aH.refl _ _ _⟩
def UQ(h:bJ H c b K)(x y k:Int):∃i a,aO tz ay 63 [au b,aa x,aa y,aa k] H=some (aa (K.double x y k).2,a)/\bJ a i b (K.double x y k).1/\aH Gx c i H a:=by
 have e:=uK h x y;unfold Cl.double Cl.qY;by_cases d:K.two x y
 .obtain ⟨u,v,rfl,rfl,n⟩:=qO d;simp only[if_pos d];rw[decide_eq_true d]at e;simp only[ais];have⟨p,c1,D,o,j,q⟩:=ub h (ait n);have⟨c2,s,t,w,l⟩:=TV (rK _ _) j.r (cT v u) k;have A:=j.bH l w;have m:=fun H=>Gd H ((K.pipe v u).double (cT v u) k).2;have⟨z,B⟩:=ak (if((K.pipe v u).double (cT v u) k).2=true then(0:Int)else 211);rw[B]at m|-;obtain⟨r,a,g,rfl,rfl⟩:=cG (C:=tz) (f:=63) (args:=[au b,aa u,aa v,aa k]) (H:=H) (fun r a=>r=aa z/\a=s) func63 rfl (by simp[-aD,f63,e,o,t,m])
  exact⟨c2,_,dK (by simp) g,A,(q.mono (ma (by omega))).trans (l.mono rA)⟩
 .simp only[if_neg d];rw[decide_eq_false d]at e;obtain⟨r,a,g,rfl,rfl⟩:=cG (C:=tz) (f:=63) (args:=[au b,aa x,aa y,aa k]) (H:=H) (fun r a=>r=aa 211/\a=H) func63 rfl (by simp[-aD,f63,e])
  exact⟨c,_,dK (by simp) g,h,aH.refl _ _ _⟩
def VZ(h:bJ H c b K)(o:dM K)(x y k d:Int):∃j a,aO tz ay 64 [au b,aa x,aa y,aa k,aa d] H=some (aa (K.flip x y k d).2,a)/\bJ a j b (K.flip x y k d).1/\aH Gx c j H a:=by
 have g:=uK h x y;unfold Cl.flip Cl.qY;by_cases e:K.two x y
 .obtain ⟨u,v,rfl,rfl,q⟩:=qO e;simp only[if_pos e];rw[decide_eq_true e]at g;simp only[ais];have⟨p,c1,F,s,l,t⟩:=ub h (ait q);have⟨c2,w,A,B,m⟩:=aao (rK _ _) l.r (o.pipe v u) (cT v u) k d;have D:=l.bH m B;have n:=fun H=>Gd H ((K.pipe v u).flip (cT v u) k d).2;have⟨z,E⟩:=ak (if((K.pipe v u).flip (cT v u) k d).2=true then(0:Int)else 211);rw[E]at n|-;obtain⟨r,a,i,rfl,rfl⟩:=cG (C:=tz) (f:=64) (args:=[au b,aa u,aa v,aa k,aa d]) (H:=H) (fun r a=>r=aa z/\a=w) func64 rfl (by simp[-aD,f64,g,s,A,n])
  exact⟨c2,_,dK (by simp) i,D,(t.mono (ma (by omega))).trans (m.mono rA)⟩
 .simp only[if_neg e];rw[decide_eq_false e]at g;obtain⟨r,a,i,rfl,rfl⟩:=cG (C:=tz) (f:=64) (args:=[au b,aa x,aa y,aa k,aa d]) (H:=H) (fun r a=>r=aa 211/\a=H) func64 rfl (by simp[-aD,f64,g])
  exact⟨c,_,dK (by simp) i,h,aH.refl _ _ _⟩
end
end
section
def JT{P:Pp}(h:dO P)(s:Bool)(b:bx):dO (P.send s b).1:=by
 refine⟨fun t=>?_,h.q,h.b,h.r⟩;by_cases e:t=s
 .subst e;show ib (up P.e t _ t);rw[pO];exact VQ (h.l t) b
 .show ib (up P.e s _ t);rw[qn _ _ e];exact h.l t
def c80(H:List Ob)(m:cY):aO tz ay 80 [.agg (br m)] H=some (.aM [.c (Sg (jv m).1),aa (jv m).2],H):=by have h:=XI m;simp only[br]at h|-;simp[h]
def me(s:Bool)(l:List cY)(P:Pp)(k:Nat):Pp:=(l.take k).foldl (fun P m=>(P.send s (jv m).1).1) P
def nE(s:Bool)(l:List cY)(P:Pp)(k:Nat)(m:cY):Bool:=!decide (((me s l P k).send s (jv m).1).2=0)
def M7{s:Bool}{l:List cY}{P:Pp}{k:Nat}(h:k<l.length):me s l P (k+1)=((me s l P k).send s (jv l[k]).1).1:=by unfold me;rw[aiH,abM h,ajh];rfl
def aeC{s:Bool}{P:Pp}(h:dO P):∀(l:List cY) (k:Nat),dO (me s l P k):=fun l k=>by
 unfold me
 have a:∀(r:List cY) (P:Pp),dO P->dO (r.foldl (fun P m=>(P.send s (jv m).1).1) P):=by
  intro r;induction r with
  |nil=>exact fun P h=>h
  |cons m r b=>exact fun P h=>b _ (JT h s _)
 exact a _ P h
def Dk(s:Bool)(l:List cY)(P:Pp):∀(r:List cY) (k:Nat),l.drop k=r->sendAll s r (me s l P k)=(me s l P (jc (nE s l P) k r),if fY (nE s l P) k r<0 then r.length else(fY (nE s l P) k r).toNat-k)/\(0<=fY (nE s l P) k r->(k:Int)<=fY (nE s l P) k r)
 |[],k,h=>by simp[sendAll,jc,fY]
 |m::r,k,h=>by
  have e:k<l.length:=by
   rcases aj7 k l.length with a|a
   .exact a
   .rw[aiv a]at h;cases h
  have i:l.drop k=l[k]::l.drop (k+1):=agO e
  rw[i]at h
  injection h with a j
  have⟨n,f⟩:=Dk s l P r (k+1) j
  have g:me s l P (k+1)=((me s l P k).send s (jv m).1).1:=by rw[M7 e,a]
  unfold sendAll fY jc
  by_cases c:((me s l P k).send s (jv m).1).2=0
  .have b:nE s l P k m=false:=by unfold nE;rw[decide_eq_true c];rfl
   rw[if_pos c,b, <-g,n]
   simp only[aes,if_false]
   refine⟨?_,fun h=>by have:=f h;omega⟩
   by_cases d:fY (nE s l P) (k+1) r<0
   .rw[if_pos d,if_pos d];rfl
   .rw[if_neg d,if_neg d]
    have:=f (by omega)
    congr 1
    omega
  .have b:nE s l P k m=true:=by unfold nE;rw[decide_eq_false c];rfl
   rw[if_neg c,b, <-g]
   simp only[if_true]
   refine⟨?_,fun _=>aka _⟩
   rw[if_neg (by omega)]
   congr 1
   omega
section
variable{H:List Ob}{c:Nat->aU}{g:Nat->aU}{p:Nat}{P:Pp}
def c79(i:fL g)(h:eD H c g p P)(j:dO P)(s:Bool)(m:cY){t7 t8:Nat}(k:H[t7]?=some (ah 1 [[.ptr p 0 0 0]]))(l:H[t8]?=some (ah 1 [[I (bI s)]])):∃b a,aO tz ay 79 [.agg (br m),au t7,au t8] H=some (aR (!decide ((P.send s (jv m).1).2=0)),a)/\eD a b g p (P.send s (jv m).1).1/\aH (Gp g) c b H a:=by
 have⟨c1,n,d,o,q⟩:=Us i h j s (jv m).1;have e:=fun H=>c80 H m;simp only[br]at e|-;have⟨z,t⟩:=ak ((P.send s (jv m).1).2);rw[t]at d|-;obtain⟨r,a,u,rfl,rfl⟩:=cG (C:=tz) (f:=79) (args:=[.agg [I m.kind,I m.aP,I m.num],au t7,au t8]) (H:=H) (fun r a=>r=aR (!decide (z=0))/\a=n) func79 rfl (by simp[-aD,f79,e,d,k,l])
 exact⟨c1,_,dK (by simp) u,o,q⟩
end
end
section
def aco{K:Cl}{a b:Nat}(h:(K.tr a b).bN=(K.tr a b).left.length):K.oV a b=K:=by
 unfold Cl.oV;rw[h,List.drop_length];simp only[sendAll,aiB];rw[OI];unfold Cl.mO
 have e:(fun x y=>if x=a/\y=b then(⟨(K.tr a b).left,(K.tr a b).left.length⟩:Tr)else K.tr x y)=K.tr:=by
  funext x y
  split
  .rename_i c;rw[c.1,c.2, <-h]
  .rfl
 show({K with tr:=fun x y=>if x=a/\y=b then _ else K.tr x y}:Cl)=K;rw[e]
def BC{s:Bool}:∀(l:List cY) {P:Pp},dO P->dO (sendAll s l P).1/\(sendAll s l P).2<=l.length
 |[],P,h=>⟨h,ad3 _⟩
 |m::r,P,h=>by
  unfold sendAll
  split
  .obtain ⟨a,b⟩:=BC r (JT h s (jv m).1)
   exact⟨a,by simp;omega⟩
  .exact ⟨JT h s _,by simp⟩
def Ps{K:Cl}(h:dM K)(a b:Nat):dM (K.oV a b):=by
 have⟨c,d⟩:=BC ((K.tr a b).left.drop (K.tr a b).bN) (s:=cT a b) (h.pipe a b);refine⟨fun x y=>?_,h.n,fun x y=>?_,fun x y=>?_⟩
 .show dO (if x=min a b/\y=max a b then _ else K.pp x y);split
  .exact c
  .exact h.pp x y
 .show (if x=a/\y=b then(⟨_,_⟩:Tr)else K.tr x y).bN<=(if x=a/\y=b then(⟨_,_⟩:Tr)else K.tr x y).left.length;split
  .have:=h.ts a b;rw[aj0]at d;simp only;omega
  .exact h.ts x y
 .show (if x=a/\y=b then(⟨_,_⟩:Tr)else K.tr x y).left.length<=_;split
  .exact h.tl a b
  .exact h.tl x y
def wu{a:Nat}:∀(l:List Nat) {K:Cl},dM K->dM (l.foldl (fun c b=>c.oV a b) K)/\(l.foldl (fun c b=>c.oV a b) K).nodes=K.nodes
 |[],K,h=>⟨h,rfl⟩
 |b::l,K,h=>wu l (Ps h a b)
def R5{K:Cl}(h:dM K)(a:Nat):dM (K.flush a):=(wu _ h).1
section
variable{H:List Ob}{c:Nat->aU}{b:Nat}{K:Cl}
def abg{g:Nat->aU}{p:Nat}{P:Pp}{h v f:Nat}{rows:List (List ab)}{t7 t8:Nat}{s:Bool}(m:fL g)(n:eD H c g p P)(o:dO P)(l:List cY)(hm:l.length<=maxLen)(q:H[h]?=some (.live v 3 rows))(r:∀j (L:j<l.length),rows[f+j]?=some (br l[j]))(t:H[t7]?=some (ah 1 [[.ptr p 0 0 0]]))(u:H[t8]?=some (ah 1 [[I (bI s)]]))
  (w:¬Gp g (c h)) (x:¬Gp g (c t7)) (y:¬Gp g (c t8)):∃a b,aO tz ay 82 [bd h v f l.length,.c (.bF 79 [.ptr t7 0 0 0,.ptr t8 0 0 0])] H=some (aa (fY (nE s l P) 0 l),b)/\eD b a g p (sendAll s l P).1/\aH (Gp g) c a H b:=by
 have⟨b,z,a,A,B⟩:=agE (g:=79) (caps:=[.ptr t7 0 0 0,.ptr t8 0 0 0]) l hm h v f (fun k G=>∃a,eD G a g p (me s l P k)/\aH (Gp g) c a H G) (nE s l P)
  (fun k G i=>by
   have⟨a,_,d⟩:=i
   exact⟨rows,(d.get q w).1,r⟩)
  (fun k C G i=>by
   have⟨a,j1,d⟩:=i
   have⟨c2,D,E,F,J⟩:=c79 m j1 (aeC o l k) s l[k] (d.get t x).1 (d.get u y).1
   exact⟨D,E,c2,by rw[M7 C];exact F,d.trans J⟩) H ⟨c,n,aH.refl _ _ _⟩
 have e:=(Dk s l P l 0 rfl).1
 have K:me s l P 0=P:=rfl
 rw[K]at e
 refine⟨a,b,?_,by rw[e];exact A,B⟩
 rw[aD,if_pos (.inr (by simp[eO])),ay,z]
def Fl(K:Cl)(a:Nat)(l:List Nat):Cl:=l.foldl (fun c b=>c.oV a b) K
def xO(n a:Nat):oa n a=(others n a).map fun i:Nat=>(i:Int):=rfl
def FO{n a i:Nat}(h:i∈others n a):a≠i:=by unfold others at h;simp at h;exact fun e=>h.2 e.symm
def IK(h:bJ H c b K)(m:dM K)(a:Nat):∃e o,bB tz (ev tz) 36 [au b,aa a] H=some (.aM [],o)/\lW tz (ev tz) 36 [au b,aa a] H=some (.aM [],o)/\bJ o e b (K.flush a)/\aH Gx c e H o:=by
 have⟨Q,c1,r,ay,S,i2,s1⟩:=Qo h a m.n;have u:=h.aK s1 fun _ h=>h.elim;have⟨L,U⟩:=ak (others K.nodes.length a);have aP:∀i∈L,a≠i:=fun i m=>FO (by rw[U];exact m);have bc:L.length<=1000:=by have:=ye K.nodes.length a;rw[xO,U,aio]at this;have:=m.n;omega
 rw[xO,U]at S
 obtain⟨az,o,e1,e2,e,rfl,g,h3⟩:=aeg (C:=tz) (f:=36) (args:=[au b,aa a]) (H:=H) (fun az o=>∃e,az= .aM []/\bJ o e b (K.flush a)/\aH Gx c e H o) func36 rfl (by
  have hf:K.flush a=Fl K a L:=by unfold Cl.flush Fl;rw[U]
  rw[hf];simp only[f36,cr];have⟨n,hn⟩:=ak L.length;have⟨R,hR⟩:=ak ((L.map fun i:Nat=>(i:Int)).map aC);have bd:R.length=n:=by rw[<-hR];simpa using hn
  have aQ:∀j (hj:j<L.length),R[j]?=some [I (L[j]:Int)]:=fun j hj=>by rw[<-hR,adf,adf,abM hj];rfl
  unfold nm at S;simp only[hR]at S
  have hq:(Q=ap/\n=0)\/∃h v,Q= .sl h v 0 n/\r[h]?=some (.live v 1 R)/\c1 h= .none:=by
   rcases S with⟨u,g⟩|⟨h,v,u,rfl,g⟩
   .exact .inl ⟨g,by rw[<-hn];simpa using u⟩
   .exact .inr ⟨h,v,by rw[aio,hn],g,i2 h (by simp[rf])⟩
  refine bp [(0,au b),(1,aa a),(13,.c Q),(14,aa n),(15,aa (0:Nat))] (fun G=>G=r) ?_ ?_
  .rcases hq with⟨rfl,rfl⟩|⟨h,v,rfl,hh,_⟩
   .simp[-aD,ay]
   .have aA:n<=R.length:=by omega
    simp[-aD,ay]
  rintro en G g1 hG;obtain rfl:r=G:=hG.symm;rw[eC];refine iv (fun j:Nat=>[(0,au b),(1,aa a),(13,.c Q),(14,aa n),(15,aa j)]) (fun j G=>j<=n/\∃e,bJ G e b (Fl K a (L.take j))/\aH Gx c1 e r G) (fun j=>n-j) ?_ 0 g1 ⟨by omega,c1,u,aH.refl _ _ _⟩ fun _=>rfl;rintro j en G ⟨V,W,X,E,F,_⟩ ⟨g2,c2,Y,Z⟩;by_cases d:j<n
  .have am:j<L.length:=by omega
   have⟨w,an⟩:=ak L[j];have aR:a≠w:=aP w (by rw[<-an];exact aix am);have ao:Fl K a (L.take (j+1))=(Fl K a (L.take j)).oV a w:=by unfold Fl;rw[aiH,abM am,an,ajh];rfl
   have ab:dM (Fl K a (L.take j)):=(wu _ m).1;have⟨p,aS⟩:=ak (Fl K a (L.take j));rw[aS]at Y ao ab;obtain⟨h,v,rfl,hh,hc⟩:=hq.resolve_left fun ad=>by omega
   have gh:G[h]?=some (.live v 1 R):=(Z.get hh (by rw[hc];simp)).1;have m1:R[j]?=some [I (w:Int)]:=by rw[aQ j am,an]
   have ae:j<R.length:=by omega
   have hw:adW.wrap ((j:Int)+1)=((j+1:Nat):Int):=cv (by omega);have⟨aB,mp,mt,es,et,hr⟩:=Y;have⟨t,c3,H3,af,⟨⟨aE,aF,aT⟩,aG⟩,s3⟩:=Ha hr a w;have aq:=ab.ts a w;have aV:=ab.tl a w;have⟨T,hT⟩:=ak (p.tr a w);rw[hT]at aG aq aV;have⟨qt,k1,k2,k3,k4⟩:=aG;by_cases c0:T.bN=T.left.length
   .have aW:=aco (K:=p) (a:=a) (b:=w) (by rw[hT];exact c0)
    have fin:∃q,n-q<n-j/\((j+1:Nat):Int)=(q:Int)/\q<=n/\∃e,bJ H3 e b (Fl K a (L.take q))/\aH Gx c1 e r H3:=
     ⟨j+1,by omega,rfl,by omega,c3,by rw[ao,aW];exact⟨aB,mp,mt,es,aE,aF⟩,Z.trans (s3.mono (ma (by omega)))⟩
    have x:=k1;rw[c0]at x;rcases k2 with⟨h5,rfl⟩|⟨g,v2,k,rows,rfl,h6,h7,h8⟩
    .rw[h5]at x;simp[-aD,-getElem?_pos,-ad0,V,W,X,E,F,d,gh,ae,m1,af,x,hw];exact fin
    .have aA:k+T.left.length<=rows.length:=by omega
     simp[-aD,-getElem?_pos,-ad0,V,W,X,E,F,d,gh,ae,m1,af,x,hw];exact fin
   .have aI:¬(T.bN:Int)=T.left.length:=by omega
    obtain⟨g,v2,k,rows,rfl,h6,h7,h8⟩:=k2.resolve_left fun ad=>by rw[ad.1]at c0 aq;simp at c0 aq;omega
    have aA:k+T.left.length<=rows.length:=by omega
    have⟨aJ,c4,J,ar,⟨⟨aX,aY,aZ⟩,a0⟩,s4⟩:=Mt aF aR;have ag:c3 g= .tr a w:=k4 g (by simp[rf]);have t4:=s4.get k1 (by rw[k3];simp);have r4:=s4.get h6 (by rw[ag];simp);have⟨s,hs⟩:=ak (cT a w);rw[hs]at ar;have⟨G5,M⟩:=ak (J++[ah 1 [[.ptr aJ 0 0 0]],ah 1 [[I (bI s)]]]);have⟨c5,av⟩:=ak (ext c4 J.length .none);have N:aH (fun _=>False) c4 c5 J G5:=by rw[<-av, <-M];exact aH.of _ (by simp) fun aL hm _=>abE hm
    have a1:=aY.aK N fun _ h=>h.elim;have a2:=a0.aK N fun _ _ h=>h;have t5:=N.get t4.1 fun h=>h;have y:=N.get r4.1 fun h=>h;have x7:G5[J.length]?=some (ah 1 [[.ptr aJ 0 0 0]]):=by rw[<-M];simp
    have x8:G5[J.length+1]?=some (ah 1 [[I (bI s)]]):=by rw[<-M];simp
    have⟨l,hl⟩:=ak (T.left.drop T.bN);have a3:l.length=T.left.length-T.bN:=by rw[<-hl,aj0]
    have a4:∀i (m:i<l.length),rows[k+T.bN+i]?=some (br l[i]):=fun i m=>by
     have h9:((rows.drop k).take T.left.length)[T.bN+i]?=(T.left.map br)[T.bN+i]?:=by rw[h7]
     rw[aj6 (by omega),ai3,adf,abM (l:=T.left) (by omega)]at h9;rw[show k+T.bN+i=k+(T.bN+i)by omega,h9];simp only[<-hl,List.getElem_drop,ajO]
    have gp:=rK (min a w) (max a w);have O:∀ai:aU,ai= .none\/ai= .tr a w-> ¬Gp (gP (min a w) (max a w)) ai:=fun ai hk ⟨i,_,m⟩=>by rcases hk with rfl|rfl<;>simp at m
    have pi:=ab.pipe a w;have⟨z,H6,aj,a5,s6⟩:=abg gp a2 pi l (by unfold maxLen;omega) y.1 a4 x7 x8 (O _ (.inr (by rw[y.2,r4.2];exact ag))) (O _ (.inl (by rw[<-av];exact jr (ad3 _)))) (O _ (.inl (by rw[<-av];exact jr (by omega))));have aN:=a1.RU (by omega) s6 aZ a5;have t6:=s6.get t5.1 (O _ (.inr (by rw[t5.2,t4.2];exact k3)));have r6:=s6.get y.1 (O _ (.inr (by rw[y.2,r4.2];exact ag)));have ct:z t= .tr a w:=by rw[t6.2,t5.2,t4.2];exact k3
    have a6:z g= .tr a w:=by rw[r6.2,y.2,r4.2];exact ag
    have sA:aH Gx c1 z r H6:=(((Z.trans (s3.mono (ma (by omega)))).trans (s4.mono (ma (by omega)))).trans (N.mono fun _ h=>h.elim)).trans (s6.mono rA);have⟨A,P⟩:=ak (sendAll (cT a w) l (p.pipe a w))
    have a7:p.oV a w=(p.eR (min a w) (max a w) A.1).mO a w ⟨T.left,T.bN+A.2⟩:=by
     unfold Cl.oV;simp only[hT,hl,P];congr 1
     unfold Cl.eR;rw[show min (min a w) (max a w)=min a w by omega,show max (min a w) (max a w)=max a w by omega]
    rw[hs]at P;have aw:=(Dk s l (p.pipe a w) l 0 rfl).1;have e0:me s l (p.pipe a w) 0=p.pipe a w:=rfl;rw[e0,P]at aw;rw[P]at aN;have sl:=(BC l (s:=s) pi).2;rw[P]at sl
    have fin:∀B,B=H6.set t (ah 2 [[.sl g v2 k T.left.length,I ((T.bN+A.2:Nat):Int)]])->∃q,n-q<n-j/\((j+1:Nat):Int)=(q:Int)/\q<=n/\∃e,bJ B e b (Fl K a (L.take q))/\aH Gx c1 e r B:=fun B ax=>by
     have s7:aH (· = .tr a w) z z H6 B:=by rw[ax];exact pD (b:=t) (h:=t) (by simp) ct ct fun aL h _=>aat (ait h)
     have tt:oj B z (.tr a w) t ⟨T.left,T.bN+A.2⟩:=by refine⟨.sl g v2 k T.left.length,by rw[ax];exact ba t6.1,.inr ⟨g,v2,k,rows,rfl,?_,h7,h8⟩,ct,fun aL hm=>by simp[rf]at hm;rw[hm];exact a6⟩;rw[ax,aat (fun ad=>by have u:=r6.1;rw[<-ad,t6.1]at u;cases u)];exact r6.1
     refine⟨j+1,by omega,rfl,by omega,z,?_,sA.trans (s7.mono D7)⟩;rw[ao,a7];exact⟨aB,mp,mt,aX,aE,aN.xj s7 aT tt⟩
    have⟨D,a8⟩:=ak (fY (nE s l (p.pipe a w)) 0 l);rw[a8]at aj aw;rw[a3]at aj;have x:=k1;have aO:=t6.1;have al:A.2=if D<0 then l.length else D.toNat-0:=by rw[aw]
    have q1:(0:Int)<=T.bN:=by omega
    have q2:(T.bN:Int)<=T.left.length:=by omega
    have q3:((T.left.length:Int)-T.bN).toNat=T.left.length-T.bN:=by omega
    have q4:k+T.bN<=rows.length:=by omega
    by_cases d2:D<0
    .have d3:¬0<=D:=by omega
     rw[if_pos d2]at al;have a9:T.bN+A.2=T.left.length:=by omega
     rw[a9]at fin;simp[-aD,-getElem?_pos,-ad0,V,W,X,E,F,d,gh,ae,m1,af,x,hw,aI,ar,M,t5.1,y.1,aj,aO,d3,q1,q2];exact fin _ rfl
    .obtain ⟨i,rfl⟩:∃i:Nat,D=i:=⟨D.toNat,by omega⟩;rw[if_neg d2]at al;simp only[ais,Nat.sub_zero]at al;rw[al]at fin;have bb:adW.wrap ((T.bN:Int)+i)=((T.bN+i:Nat):Int):=by rw[fw (by omega) (by omega)];omega
     simp[-aD,-getElem?_pos,-ad0,V,W,X,E,F,d,gh,ae,m1,af,x,hw,aI,ar,M,t5.1,y.1,aj,aO,q1,q2,bb];exact fin _ rfl
  .simp[E,F,d];rw[acu (by omega)]at Y;exact⟨c2,Y,(s1.mono fun _ h=>h.elim).trans Z⟩)
 exact⟨e,o,e1,e2,g,h3⟩
def Bu(h:bJ H c b K)(f:dM K)(a:Nat):∃e d,aO tz ay 36 [au b,aa a] H=some (.aM [],d)/\bJ d e b (K.flush a)/\aH Gx c e H d:=by have⟨e,d,g,_,i,j⟩:=IK h f a;exact⟨e,d,dK (by simp) g,i,j⟩
end
end
section
variable{P:Pp}
def abc(f:Fm):(jW f).1.length<=f.body.length+27:=by
 unfold jW;split
 .simp
 .simp[vg,nZ,qH];omega
def I5(R:Nat):∀(a:List Fm) (l:List bx) (n:Nat),(∀f∈a,f.body.length<=64)->(∀t∈l,t.length<=1000)->∀t∈(gL R a l n).1,t.length<=1000
 |[],l,n,_,b=>b
 |f::a,l,n,c,b=>by
  unfold gL
  split
  .refine I5 R a _ _ (fun g d=>c g (aiO _ d)) fun t e=>?_
   rcases ain.1 e with h|h
   .exact b t h
   .simp at h
    subst h
    have:=abc f
    have:=c f (ajz ..)
    omega
  .exact I5 R a _ _ (fun g d=>c g (aiO _ d)) b
def FM(h:dO P)(s:Bool){x:Lk}(a:ib x):dO (P.jO s x):=by
 refine⟨fun t=>?_,h.q,h.b,h.r⟩;by_cases e:t=s
 .subst e;show ib (up P.e t _ t);rw[pO];exact a
 .show ib (up P.e s _ t);rw[qn _ _ e];exact h.l t
def DP(h:dO P)(s:Bool){l:List bx}(a:l.length<=P.room)(c:∀t∈l,t.length<=1000):dO (P.ud s l):=by
 refine⟨h.l,fun t=>?_,fun t=>?_,h.r⟩
 .show (up P.q s l t).length<=P.room;by_cases e:t=s
  .subst e;rw[pO];exact a
  .rw[qn _ _ e];exact h.q t
 .show ∀x∈up P.q s l t,_;by_cases e:t=s
  .subst e;rw[pO];exact c
  .rw[qn _ _ e];exact h.b t
def BS(h:dO P)(s:Bool):dO (P.go s).1/\(P.go s).2<=8:=by have⟨c,a⟩:=Nf (h.l s);have d:=Au P.room (iK (P.e s)).2 (P.q s) 0;refine⟨?_,by show(gL P.room (iK (P.e s)).2 (P.q s) 0).2<=8;omega⟩;exact DP (FM h s (Tf (h.l s))) s (Dy _ _ _ _ (h.q s)).1 (I5 _ _ _ _ a (h.b s))
def O7(h:dO P)(s:Bool):dO (P.tick s):=FM h s (WA (h.l s))
def dM.eR{K:Cl}(h:dM K)(a b:Nat)(hp:dO P):dM (K.eR a b P):=by
 refine⟨fun x y=>?_,h.n,h.ts,h.tl⟩;show dO (if x=min a b/\y=max a b then P else K.pp x y);split
 .exact hp
 .exact h.pp x y
def iq(a:Nat)(l:List Nat)(r:Cl×Nat):Cl×Nat:=l.foldl (fun r b=>(r.1.vT a b,r.2+((r.1.pipe a b).go (cT a b)).2)) r
def wY(a:Nat):∀(l:List Nat) (K:Cl) (n:Nat),Aq a l K n=iq a l (K,n)
 |[],K,n=>rfl
 |b::l,K,n=>wY a l _ _
def Fx(a:Nat):∀(l:List Nat) (r:Cl×Nat),dM r.1->dM (iq a l r).1/\(iq a l r).1.nodes=r.1.nodes/\(iq a l r).2<=r.2+8*l.length
 |[],r,h=>⟨h,rfl,ad3 _⟩
 |b::l,r,h=>by
  have⟨c,g⟩:=BS (h.pipe a b) (cT a b)
  have⟨d,e,f⟩:=Fx a l (r.1.vT a b,r.2+((r.1.pipe a b).go (cT a b)).2) (h.eR a b c)
  refine⟨d,e,?_⟩
  have:(iq a (b::l) r).2=(iq a l (r.1.vT a b,r.2+((r.1.pipe a b).go (cT a b)).2)).2:=rfl
  rw[this]
  simp only[aip]at f|-
  omega
structure acC(H:List Ob)(c:Nat->aU)(qo:ab)(L:List Nat)(n:Nat)(R:List (List ab)):Prop where
 l:L.length=n
 r:R.length=n
 j:∀j (hj:j<L.length),R[j]?=some [I (L[j]:Int)]
 q:(qo=ap/\n=0)\/∃h v,qo= .sl h v 0 n/\H[h]?=some (.live v 1 R)/\c h= .none
section
variable{H:List Ob}{c:Nat->aU}{b:Nat}{K:Cl}
def Sf(h:bJ H c b K)(o:dM K)(a:Nat):∃d k e n R,aO tz ay 77 [au b,aa a] H=some (.c d,e)/\acC e k d (others K.nodes.length a) n R/\n<=1000/\bJ e k b K/\aH (fun _=>False) c k H e:=by
 have⟨d,c1,s,t,f,u,p⟩:=Qo h a o.n;have⟨L,g⟩:=ak (others K.nodes.length a);have y:L.length<=1000:=by have:=ye K.nodes.length a;rw[xO,g,aio]at this;have:=o.n;omega
 rw[xO,g]at f;have⟨n,hn⟩:=ak L.length;have⟨R,l⟩:=ak ((L.map fun i:Nat=>(i:Int)).map aC);have w:R.length=n:=by rw[<-l];simpa using hn
 have x:∀j (q:j<L.length),R[j]?=some [I (L[j]:Int)]:=fun j q=>by rw[<-l,adf,adf,abM q];rfl
 unfold nm at f;simp only[l]at f;refine⟨d,c1,s,n,R,t,⟨by rw[g];exact hn,w,by rw[g];exact x,?_⟩,by omega,h.aK p fun _ h=>h.elim,p⟩;rcases f with⟨r,m⟩|⟨h,v,r,rfl,m⟩
 .exact .inl ⟨m,by rw[<-hn];simpa using r⟩
 .exact .inr ⟨h,v,by rw[aio,hn],m,u h (by simp[rf])⟩
def VE(h:bJ H c b K)(p:dM K)(a:Int):∃d k,aO tz ay 41 [au b,aa a] H=some (.aM [aa (K.goes a).2.1,aa (K.goes a).2.2],k)/\bJ k d b (K.goes a).1/\aH Gx c d H k:=by
 have y:=og h a;by_cases q:K.there a
 case neg=>
  have hg:K.goes a=(K,0,210):=by unfold Cl.goes;rw[if_pos q]
  rw[hg];rw[decide_eq_false q]at y;obtain⟨r,k,z,rfl,rfl⟩:=cG (C:=tz) (f:=41) (args:=[au b,aa a]) (H:=H) (fun r k=>r= .aM [aa 0,aa 210]/\k=H) func41 rfl (by simp[-aD,f41,y])
  exact⟨c,_,dK (by simp) z,h,aH.refl _ _ _⟩
 obtain⟨a,rfl⟩:∃n:Nat,a=n:=⟨a.toNat,by have:=q.1;omega⟩;have⟨c0,T,ai,h0,s0⟩:=Bu h p a;have B:=R5 p a;have⟨U,c1,t,n,R,V,D,nl,z,s1⟩:=Sf h0 B a;have aj:(K.flush a).nodes=K.nodes:=(wu _ p).2;rw[aj]at D;have⟨L,E⟩:=ak (others K.nodes.length a);have al:∀i∈L,a≠i:=fun i p=>FO (by rw[E];exact p);rw[E]at D;have⟨aw,ax,am,W⟩:=D;have an:K.goes a=((iq a L (K.flush a,0)).1,(iq a L (K.flush a,0)).2,0):=by unfold Cl.goes;rw[if_neg (fun e=>e q)];simp only[ais,E,wY]
 rw[an];rw[decide_eq_true q]at y;have⟨g,ao⟩:=ak (K.flush a);rw[ao]at z B|-
 obtain⟨r,k,e1,d,rfl,h2,h3⟩:=cG (C:=tz) (f:=41) (args:=[au b,aa a]) (H:=H) (fun r k=>∃d,r= .aM [aa (iq a L (g,0)).2,aa 0]/\bJ k d b (iq a L (g,0)).1/\aH Gx c d H k) func41 rfl (by
  simp only[f41,cr];rw[fQ,fQ,fQ];refine bp [(0,au b),(1,aa a),(6,aa 0)] (fun G=>G=T) ?_ ?_
  .simp[-aD,y,ai]
  rintro F G⟨X,Y,Z,_⟩A;obtain rfl:T=G:=A.symm;refine bp [(6,aa (iq a L (g,0)).2)] (fun G=>∃d,bJ G d b (iq a L (g,0)).1/\aH Gx c1 d t G) ?_ ?_
  .refine eh (fun S=>Has S.env [(0,au b),(1,aa a),(20,.c U),(21,aa n),(22,aa (0:Nat)),(6,aa (0:Nat))]/\S.bG=[]/\S.heap=t) ?_ ?_
   .rcases W with⟨rfl,rfl⟩|⟨h,v,rfl,hh,_⟩
    .simp[-aD,V,X,Y,Z]
    .have az:n<=R.length:=by omega
     simp[-aD,V,X,Y,Z]
   rintro⟨F,G,ds⟩⟨m,rfl,A⟩;simp only at m A;obtain rfl:t=G:=A.symm;rw[eC];refine Ends.bl (gM (fun j:Nat=>[(0,au b),(1,aa a),(20,.c U),(21,aa n),(22,aa j),(6,aa (iq a (L.take j) (g,0)).2)]) (fun j G=>j<=n/\∃d,bJ G d b (iq a (L.take j) (g,0)).1/\aH Gx c1 d t G) [] (fun j=>n-j) _ [0,1,20,21,22,6] (fun _=>rfl) ?_ 0 _ m ⟨by omega,c1,z,aH.refl _ _ _⟩ rfl);rintro j ⟨F,G,ds⟩ m ⟨g2,c2,l,o⟩ g5;simp only at m g2 l o g5;subst g5;simp at m;have⟨b0,b1,ap,ab,ad,u⟩:=m;by_cases ae:j<n
   .have J:j<L.length:=by omega
    have⟨w,M⟩:=ak L[j];have aq:a≠w:=al w (by rw[<-M];exact aix J);have N:iq a (L.take (j+1)) (g,0)=((iq a (L.take j) (g,0)).1.vT a w,(iq a (L.take j) (g,0)).2+(((iq a (L.take j) (g,0)).1.pipe a w).go (cT a w)).2):=by unfold iq;rw[aiH,abM J,M,ajh];rfl
    have⟨O,_,P⟩:=Fx a (L.take j) (g,0) B;have⟨r,hr⟩:=ak (iq a (L.take j) (g,0));rw[hr]at l N O P u;rw[ai1]at P;simp only at P;obtain⟨h,v,rfl,hh,hc⟩:=W.resolve_left fun e=>by omega
    have gh:G[h]?=some (.live v 1 R):=(o.get hh (by rw[hc];simp)).1;have m1:R[j]?=some [I (w:Int)]:=by rw[am j J,M]
    have ar:j<R.length:=by omega
    have hw:adW.wrap ((j:Int)+1)=((j+1:Nat):Int):=cv (by omega);have⟨aA,c3,H3,af,r3,s3⟩:=ub l aq;have⟨s,hs⟩:=ak (cT a w);have⟨aB,ag⟩:=BS (O.pipe a w) (cT a w);have⟨c4,H4,Q,r4,s4⟩:=aaL (rK _ _) r3.r (O.pipe a w) (cT a w);have r5:=r3.bH s4 r4
    have fin:∃x,n-x<n-j/\(((j+1:Nat):Int)=(x:Int)/\((r.2+((r.1.pipe a w).go (cT a w)).2:Nat):Int)=((iq a (L.take x) (g,0)).2:Int))/\x<=n/\∃d,bJ H4 d b (iq a (L.take x) (g,0)).1/\aH Gx c1 d t H4:=
     ⟨j+1,by omega,⟨rfl,by rw[N]⟩,by omega,c4,by rw[N];exact r5,(o.trans (s3.mono (ma (by omega)))).trans (s4.mono rA)⟩
    rw[hs]at af Q fin ag;have⟨ah,hz⟩:=ak (((r.1.pipe a w).go s).2);rw[hz]at Q fin ag;have av:adW.wrap ((r.2:Int)+ah)=((r.2+ah:Nat):Int):=by rw[fw (by omega) (by omega)];omega
    simp[-aD,-getElem?_pos,-ad0,b0,b1,ap,ab,ad,u,ae,gh,ar,m1,af,Q,hw,av];exact fin
   .simp[ab,ad,u,ae];rw[acu (by omega)]at l;exact⟨by rw[acu (by omega)],c2,l,o⟩
  rintro F G⟨u,_⟩⟨c2,l,o⟩;simp[u];exact⟨c2,l,(s0.trans (s1.mono fun _ h=>h.elim)).trans o⟩)
 exact⟨d,k,dK (by simp) e1,h2,h3⟩
end
end
section
variable{t:Tr}{T:Nat}
def lL(T:Nat)(K:Cl):Prop:= ∀x y,(K.tr x y).left.length<=T
def R1{K:Cl}(h:dM K){x y:Nat}(a:t.bN<=t.left.length)(b:t.left.length<=1000000000):dM (K.mO x y t):=by
 refine⟨h.pp,h.n,fun u v=>?_,fun u v=>?_⟩
 .show (if u=x/\v=y then t else K.tr u v).bN<=(if u=x/\v=y then t else K.tr u v).left.length;split
  .exact a
  .exact h.ts u v
 .show (if u=x/\v=y then t else K.tr u v).left.length<=_;split
  .exact b
  .exact h.tl u v
def O3{K:Cl}(h:lL T K){x y:Nat}(a:t.left.length<=T):lL T (K.mO x y t):=by
 intro u v;show(if u=x/\v=y then t else K.tr u v).left.length<=T;split
 .exact a
 .exact h u v
def Vk{K:Cl}(h:dM K)(a:lL T K)(b:T+1<=1000000000)(m:cB):dM (K.il m)/\lL (T+1) (K.il m)/\(K.il m).nodes=K.nodes:=by
 unfold Cl.il;split
 .have c:=a m.src.toNat m.dst.toNat;have d:=h.ts m.src.toNat m.dst.toNat;exact⟨R1 h (by simp;omega) (by simp;omega),O3 (fun x y=>Nat.le_succ_of_le (a x y)) (by simp;omega),rfl⟩
 .exact ⟨h,fun x y=>Nat.le_succ_of_le (a x y),rfl⟩
def Ac:∀(l:List cB) {K:Cl} {T:Nat},dM K->lL T K->T+l.length<=1000000000->dM (l.foldl Cl.il K)/\lL (T+l.length) (l.foldl Cl.il K)/\(l.foldl Cl.il K).nodes=K.nodes
 |[],K,T,h,a,_=>⟨h,a,rfl⟩
 |m::l,K,T,h,a,b=>by
  simp only[aip]at b
  have⟨c,d,e⟩:=Vk h a (by omega) m
  have⟨f,g,i⟩:=Ac l c d (by omega)
  refine⟨f,fun x y=>?_,i.trans e⟩
  have:=g x y
  simp only[aip,ai2]
  omega
def OQ{K:Cl}(h:dM K)(n:Nd):dM (K.pc n):=⟨h.pp,by show(K.nodes.set _ n).length<=_;rw[aiP];exact h.n,h.ts,h.tl⟩
section
variable{H:List Ob}{c:Nat->aU}{b:Nat}{K:Cl}
def jo.sg{d:List Ob}{e:Nat->aU}{q:ab}{mp mt:Nat}{k l:List (List ab×ab)}{n:Nd}(h:jo H c b q mp mt k l K)(a:aH (· = .cl 1) c e H d)(hn:sZ d e q (K.pc n).nodes):jo d e b q mp mt k l (K.pc n):=by
 have⟨m,o⟩:=a.get h.hb (by rw[h.cb];simp);have⟨r,s⟩:=a.get h.hp (by rw[h.cp];simp);have⟨t1,t2⟩:=a.get h.ht (by rw[h.ct];simp);refine⟨m,hn,r,t1,h.kp,h.kt,o.trans h.cb,s.trans h.cp,t2.trans h.ct,fun u v=>?_,fun u v=>?_⟩
 .rcases h.pp u v with g|⟨p,f,j⟩
  .exact .inl g
  .exact .inr ⟨p,f,j.aK a fun i _=>by simp⟩
 .rcases h.tr u v with g|⟨p,f,j⟩
  .exact .inl g
  .exact .inr ⟨p,f,j.aK a (by simp)⟩
def Pj(h:bJ H c b K)(hi:dM K)(hT:lL T K)(n:Nd)(l:List cB){lf:ab}(hid:0<=n.dr.ai.id/\n.dr.ai.id<K.nodes.length)(hl:T+l.length<=1000000000)(aV:(lf=ap/\l=[])\/lf= .aj (l.map dW)):
  ∃a p,aO tz ay 37 [au b,.agg (aT n),.c lf] H=some (.aM [],p)/\bJ p a b (K.take n l)/\aH Gx c a H p:=by
 have⟨aA,mp,mt,es,et,J⟩:=h
 obtain⟨aB,p,e1,a,rfl,d,h3⟩:=cG (C:=tz) (f:=37) (args:=[au b,.agg (aT n),.c lf]) (H:=H) (fun aB p=>∃a,aB= .aM []/\bJ p a b (K.take n l)/\aH Gx c a H p) func37 rfl (by
  have hb:=J.hb
  obtain⟨h,v,rfl,hh,hc⟩:=J.hn.resolve_left fun e=>by rw[e.1]at hid;simp at hid;omega
  obtain⟨i,U⟩:∃i:Nat,n.dr.ai.id=i:=⟨n.dr.ai.id.toNat,by omega⟩
  have ag:i<K.nodes.length:=by omega
  have⟨R,o⟩:=ak (K.nodes.map aT)
  obtain⟨nd,aC⟩:∃nd,R[i]?=some (aT nd):=by rw[<-o,adf,abM ag];exact⟨_,rfl⟩
  have aW:i<R.length:=by rw[<-o];simpa using ag
  have aE:R.set i (aT n)=(K.pc n).nodes.map aT:=by
   show _=(K.nodes.set n.dr.ai.id.toNat n).map aT
   rw[U,aiC,o];rfl
  have aX:(K.pc n).nodes.length=K.nodes.length:=aiP ..
  have⟨Y,hY⟩:=ak (H.set h (.live v 10 ((K.pc n).nodes.map aT)))
  have aF:aH (· = .cl 1) c c H Y:=by rw[<-hY];exact pD (b:=h) (h:=h) (by simp) hc hc fun m h _=>aat (ait h)
  have rY:=J.sg (n:=n) aF (.inr ⟨h,v,by rw[aX],by rw[<-hY];exact ba hh,hc⟩)
  have tk:K.take n l=(l.foldl Cl.il (K.pc n)).flush i:=by unfold Cl.take;simp only[U];rfl
  rw[tk]
  have sY:aH Gx c c H Y:=aF.mono (ma (by omega))
  simp only[f37,cr]
  rw[fQ]
  refine bp [(0,au b),(2,.c lf),(4,.c (.aJ [aT n] 0 0))] (fun G=>G=Y) ?_ ?_
  .simp only[o]at hh
   simp only[aT,U,aG]at aE aC|-
   simp[-getElem?_pos,hb,hh,aW,aC,ag,aE,hY]
  rintro en G⟨a0,a2,a4,_⟩V
  obtain rfl:Y=G:=V.symm
  have al:=OQ hi n
  have am:lL T (K.pc n):=hT
  have⟨x,aY⟩:=ak (K.pc n)
  rw[aY]at rY al am|-
  have⟨N,hN⟩:=ak l.length
  have aI:(lf=ap/\N=0)\/lf= .aj (l.map dW):=by
   rcases aV with⟨h1,d⟩|h
   .exact .inl ⟨h1,by rw[<-hN,d];rfl⟩
   .exact .inr h
  refine bp [(0,au b),(4,.c (.aJ [aT n] 0 0))] (fun G=>∃a,bJ G a b (l.foldl Cl.il x)/\aH Gx c a Y G) ?_ ?_
  .refine eh (fun an=>Has an.env [(0,au b),(4,.c (.aJ [aT n] 0 0)),(19,.c lf),(20,aa N),(21,aa (0:Nat))]/\an.bG=[]/\an.heap=Y) ?_ ?_
   .rcases aI with⟨rfl,rfl⟩|rfl
    .simp[-getElem?_pos,a0,a2,a4]
    .simp[-getElem?_pos,a0,a2,a4,hN]
   rintro⟨en,G,ds⟩⟨y,rfl,V⟩
   simp only at y V
   obtain rfl:Y=G:=V.symm
   rw[eC]
   refine Ends.bl (gM (fun j:Nat=>[(0,au b),(4,.c (.aJ [aT n] 0 0)),(19,.c lf),(20,aa N),(21,aa j)]) (fun j G=>j<=N/\∃a,bJ G a b ((l.take j).foldl Cl.il x)/\aH Gx c a Y G) [] (fun j=>N-j) _ [0,4,19,20,21] (fun _=>rfl) ?_ 0 _ y ⟨by omega,c,⟨_,_,_,_,_,rY⟩,aH.refl _ _ _⟩ rfl)
   rintro j⟨en,G,ds⟩y⟨g2,c2,r,z⟩g5
   simp only at y g2 r z g5
   subst g5
   simp at y
   have⟨A,s,W,Z,ad⟩:=y
   by_cases ae:j<N
   .have ao:j<l.length:=by omega
    have⟨m,hm⟩:=ak l[j]
    have aq:(l.take (j+1)).foldl Cl.il x=((l.take j).foldl Cl.il x).il m:=by
     rw[aiH,abM ao,hm,ajh]
     rfl
    have⟨ar,af,_⟩:=Ac (l.take j) al am (by rw[ai1];omega)
    rw[ai1]at af
    have⟨q,aZ⟩:=ak ((l.take j).foldl Cl.il x)
    rw[aZ]at r aq ar af
    obtain rfl:=aI.resolve_left fun e=>by omega
    have L:(l.map dW)[j]?=some [I m.src,I m.dst,I m.fN.kind,I m.fN.aP,I m.fN.num]:=by rw[adf,abM ao,hm];rfl
    have⟨R,o⟩:=ak (l.map dW)
    rw[o]at L W
    have av:j<R.length:=by rw[<-o];simpa using ao
    have hw:adW.wrap ((j:Int)+1)=((j+1:Nat):Int):=cv (by omega)
    have⟨X,B⟩:=ak (G++[ah 5 [[I m.src,I m.dst,I m.fN.kind,I m.fN.aP,I m.fN.num]]]:List Ob)
    have⟨c3,aL⟩:=ak (ext c2 G.length .none)
    have aw:aH (fun _=>False) c2 c3 G X:=by rw[<-aL, <-B];exact aH.of _ (by simp) fun m hm _=>abE hm
    have cX:=r.aK aw fun _ h=>h.elim
    have M:X[G.length]?=some (ah 5 [[I m.src,I m.dst,I m.fN.kind,I m.fN.aP,I m.fN.num]]):=by rw[<-B];simp
    have D:=uK cX m.src m.dst
    by_cases O:q.two m.src m.dst
    case neg=>
     have E:q.il m=q:=by unfold Cl.il;rw[if_neg O]
     rw[decide_eq_false O]at D
     simp[-aD,-getElem?_pos,-ad0,A,s,W,Z,ad,ae,L,av,B,M,D,hw]
     exact⟨j+1,by omega,⟨o.symm,rfl⟩,by omega,c3,by rw[aq,E];exact cX,z.trans (aw.mono fun _ h=>h.elim)⟩
    rw[decide_eq_true O]at D
    have E:q.il m=q.mO m.src.toNat m.dst.toNat ⟨(q.tr m.src.toNat m.dst.toNat).left++[m.fN],(q.tr m.src.toNat m.dst.toNat).bN⟩:=by unfold Cl.il;rw[if_pos O]
    have⟨u,w,hu,a1,be⟩:=qO O
    rw[hu,a1]at E D M B L
    simp only[ais]at E
    have⟨aA,mp,mt,es,et,J⟩:=cX
    have⟨t,c4,k,aN,⟨⟨a3,a5,a6⟩,aQ⟩,s4⟩:=Ha J u w
    have a7:=af u w
    have⟨g,a8⟩:=ak (q.tr u w)
    rw[a8]at aQ E a7
    have⟨qt,P,k2,k3,k4⟩:=aQ
    have a9:c3 G.length= .none:=by rw[<-aL];exact jr (ad3 _)
    have x2:=s4.get M (by rw[a9];simp)
    have sA:aH Gx c c4 Y k:=(z.trans (aw.mono fun _ h=>h.elim)).trans (s4.mono (ma (by omega)))
    have fin:∀(Q:List Ob) (c7:Nat->aU),aH (· = .tr u w) c4 c7 k Q->oj Q c7 (.tr u w) t ⟨g.left++[m.fN],g.bN⟩->∃b',N-b'<N-j/\(R=l.map dW/\((j+1:Nat):Int)=(b':Int))/\b'<=N/\∃a,bJ Q a b ((l.take b').foldl Cl.il x)/\aH Gx c a Y Q:=fun Q c7 s7 tt=>
     ⟨j+1,by omega,⟨o.symm,rfl⟩,by omega,c7,by rw[aq,E];exact⟨aA,mp,mt,es,a3,a5.xj s7 a6 tt⟩,sA.trans (s7.mono D7)⟩
    have lt:=bf P
    have ax:∀K,(k++K)[t]?=some (ah 2 [[qt,I g.bN]]):=fun K=>by rw[abE lt];exact P
    rcases k2 with⟨h5,rfl⟩|⟨d,F,lo,rows,rfl,S,h7,h8⟩
    .have az:=fin ((k++[Ob.live 0 3 [[I m.fN.kind,I m.fN.aP,I m.fN.num]],Ob.live 0 3 [[I m.fN.kind,I m.fN.aP,I m.fN.num]]]).set t (Ob.live 0 2 [[.sl (k.length+1) 0 0 1,I g.bN]])) (ext c4 k.length (.tr u w)) (aH.of _ (by simp) fun m hm hk=>by
      rw[aat (fun e=>hk (by rw[<-e];exact k3)),abE hm]) ⟨.sl (k.length+1) 0 0 1,ba (ax _),.inr ⟨k.length+1,0,0,[br m.fN],by rw[h5];rfl,by rw[aat (by omega),jh];rfl,by rw[h5];rfl,by rw[h5];rfl⟩,by rw[jf lt];exact k3,fun m hm=>by simp[rf]at hm;exact jr (by omega)⟩
     simp[-aD,-getElem?_pos,-ad0,A,s,W,Z,ad,ae,L,av,B,M,x2.1,D,aN,P,ax,hw]
     exact az
    .have aR:c4 d= .tr u w:=k4 d (by simp[rf])
     have gh:∀K,(k++K)[d]?=some (.live F 3 rows):=fun K=>by rw[abE (bf S)];exact S
     have aS:d≠t:=fun e=>by rw[e,P]at S;cases S
     have gs:∀K X,((k++K).set d X)[t]?=some (ah 2 [[.sl d F lo g.left.length,I g.bN]]):=fun K X=>by rw[aat aS];exact ax K
     have bb:lo+g.left.length<=rows.length:=by omega
     have bc:¬lo+g.left.length+1<=rows.length:=by omega
     have q1:g.left.length+1<=maxLen:=by unfold maxLen;omega
     have q2:(g.left.length+1)*24<=140737488355328:=by omega
     have az:=fin (((k++[Ob.live 0 3 [[I m.fN.kind,I m.fN.aP,I m.fN.num]]]).set d (Ob.live (F+1) 3 (g.left.map br++[[I m.fN.kind,I m.fN.aP,I m.fN.num]]))).set t (Ob.live 0 2 [[.sl d (F+1) 0 (g.left.length+1),I g.bN]])) (ext c4 k.length (.tr u w)) (aH.of _ (by simp) fun m hm hk=>by
      rw[aat (fun e=>hk (by rw[<-e];exact k3)),aat (fun e=>hk (by rw[<-e];exact aR)),abE hm]) ⟨.sl d (F+1) 0 (g.left.length+1),ba (gs _ _),.inr ⟨d,F+1,0,_,by simp,by rw[aat (ait aS),ba (gh _)],by simp[br],by simp⟩,by rw[jf lt];exact k3,fun m hm=>by simp[rf]at hm;rw[hm,jf (bf S)];exact aR⟩
     simp[-aD,-getElem?_pos,-ad0,A,s,W,Z,ad,ae,L,av,B,M,x2.1,D,aN,P,hw,h7,bb,bc,gh,gs,q1,q2]
     exact az
   .simp[-getElem?_pos,A,s,Z,ad,ae]
    rw[acu (by omega)]at r
    exact⟨c2,r,z⟩
  rintro en G⟨A,s,_⟩⟨c2,r,z⟩
  have⟨ar,af,_⟩:=Ac l al am hl
  have⟨c3,H3,bd,h3,s3⟩:=Bu r ar i
  simp only[aT,U]at s
  simp[-aD,-getElem?_pos,A,s,bd]
  exact⟨c3,h3,(sY.trans z).trans s3⟩)
 exact⟨a,p,dK (by simp) e1,d,h3⟩
end
end
section
def agt{n:Nd}{a:Act}(h:(cO n a).e=0):dm n=true:=by
 cases hn:dm n with
 |true=>rfl
 |false=>
  have b:(bg n).e=180:=by unfold bg;rw[hn];rfl
  unfold cO at h;rw[hn]at h;simp only[aes,if_false]at h;repeat' split at h
  all_goals rw[b]at h;cases h
def mR{H:List Ob}{n:Nat}:∀ {l:List ab},cy l=true->eX (bU H (n+1)) l=some (l,[])
 |[],_=>rfl
 |x::l,h=>by
  simp only[cy,abR]at h
  simp only[eX,yS h.1,mR h.2]
  rfl
def yh(n:Nd):cy (aT n)=true:=by simp[aT,cy,bC,bK,bV,bR]
def MZ(n:Nd):(aT n).map da=aT n:=rfl
def LK{n:Nat}:∀ {l:List ab},cy l=true->l.map (dZ n)=l
 |[],_=>rfl
 |x::l,h=>by
  simp only[cy,abR]at h
  rw[ag9,LK h.2]
  congr 1
  cases x<;>first|rfl|(simp[bC]at h)
def mH.sh{w:Wk}{o:aw}(h:mH w o)(n:Nat):eN n o=o:=by
 unfold mH at h;split at h
 .obtain ⟨v,a,le,rfl,_,b,c⟩:=h;have d:=LK (n:=n) (yh v.n);have e:dZ n a=a:=by rcases b with⟨rfl,_⟩|rfl<;>rfl
  have f:dZ n le=le:=by rcases c with⟨rfl,_⟩|rfl<;>rfl
  simp only[eN,ag9,aiU,d,e,f];rfl
 .subst h;rfl
def lY(le:ab)(s:List Ev):Prop:=(le=ap/\s=[])\/le= .aj (s.map gw)
def VM(H:List Ob){n:Nd}(hn:fu n)(d:Act){a:ab}(b:bC a=true)(f:d.kind=0->da a=aG d.need/\d.need.length<=100000):∃o,aO tz ay 35 [.agg (aT n),.agg [I d.kind,I d.id,I d.peer,I d.hold,a]] H=some (o,H)/\mH (cO n d) o:=by
 have g:bC (da a)=true:=by
  unfold da;split
  .rfl
  .exact b
 have⟨o,h,c⟩:=VI n d (da a) (Rk hn) g f fun e=>Sd (agt e) e;refine⟨o,?_,c⟩;have i:df H (.agg (aT n))=some (.agg (aT n),[]):=by simp only[df,mR (yh n),MZ]
 have j:df H (.agg [I d.kind,I d.id,I d.peer,I d.hold,a])=some (.agg [I d.kind,I d.id,I d.peer,I d.hold,da a],[]):=by
  have:cy [I d.kind,I d.id,I d.peer,I d.hold,a]=true:=by simp[cy,bC,b]
  simp only[df,mR this];rfl
 rw[aD,if_neg (by simp[eO])];simp only[dy,i,j,kU,show tz.md 35=1 from rfl,aeU];rw[h,jP,c.sh];simp[ei]
structure AL(K:Cl):Prop where
 s:∀i (h:i<K.nodes.length),fu K.nodes[i]
 id:∀i (h:i<K.nodes.length),K.nodes[i].dr.ai.id=(i:Int)
def eY.s{v:Wk}(h:eY v):fu v.n:=by
 have a:=h.i;have b:=h.t;unfold ij at b;have d:=a.af;have e:=a.need;have f:=Jb a.ad fun k c=>by have:=a.ask k c;have:=a.id;exact⟨by omega,by omega⟩
 exact⟨by omega,by omega,yp a.bk,by omega,by omega,by omega⟩
def jt.jS{w v:Wk}(h:jt w v):eY v:=by obtain⟨u,_,a,_,rfl⟩:=h;exact a.iw
def jt.out{w v:Wk}(h:jt w v):v.out.length<=9000/\v.seen.length<=9000:=by have:=h.jS.t;unfold ij at this;omega
section
variable{H:List Ob}{c:Nat->aU}{b:Nat}{K:Cl}
def Rt{T:Nat}(h:bJ H c b K)(O:dM K)(P:AL K)(hT:lL T K)(aw:T<=900000000)(a:Int)(d:Act){nl:ab}(ag:bC nl=true)(h0:d.kind=0->da nl=aG d.need/\d.need.length<=100000)(hid:∀n v,jt (cO n d) v->v.n.dr.ai.id=n.dr.ai.id):
  ∃l j o s e le,aO tz ay 18 [au b,aa a,.agg [I d.kind,I d.id,I d.peer,I d.hold,nl]] H=some (.aM [.c le,aa e],j)/\K.bP a d o s e/\lY le s/\bJ j l b o/\aH Gx c l H j:=by
 have t:=og h a
 have A:=og h d.peer
 obtain⟨r,j,h1,l,o,s,e,le,rfl,h2⟩:=cG (C:=tz) (f:=18) (args:=[au b,aa a,.agg [I d.kind,I d.id,I d.peer,I d.hold,nl]]) (H:=H) (fun r j=>∃l o s e le,r= .aM [.c le,aa e]/\K.bP a d o s e/\lY le s/\bJ j l b o/\aH Gx c l H j) func18 rfl (by
  have hA:¬K.there a\/(d.kind=4/\ ¬K.there d.peer)->K.bP a d K [] 210:=fun h=>by unfold Cl.bP;rw[if_pos h];exact⟨rfl,rfl,rfl⟩
  by_cases u:K.there a
  case neg=>
   rw[decide_eq_false u]at t
   simp[-aD,f18,t]
   exact⟨c,K,[],210,ap,⟨rfl,rfl⟩,hA (.inl u),.inl ⟨rfl,rfl⟩,h,aH.refl _ _ _⟩
  rw[decide_eq_true u]at t
  by_cases x:d.kind=4/\ ¬K.there d.peer
  .rw[decide_eq_false x.2]at A
   simp[-aD,f18,t,A,x.1]
   exact⟨c,K,[],210,ap,⟨rfl,rfl⟩,hA (.inr x),.inl ⟨rfl,rfl⟩,h,aH.refl _ _ _⟩
  have Q:¬(¬K.there a\/(d.kind=4/\ ¬K.there d.peer)):=fun h=>h.elim (fun h=>h u) x
  obtain⟨i,rfl⟩:∃i:Nat,a=i:=⟨a.toNat,by have:=u.1;omega⟩
  have g:i<K.nodes.length:=by have:=u.2;omega
  have⟨n,hn⟩:=ak K.nodes[i]
  have S:K.nodes.getD i .zero=n:=by rw[ae5,abM g,hn];rfl
  have B:(cO n d).e≠0->K.bP i d (K.flush i) [] (cO n d).e:=fun h=>by
   unfold Cl.bP
   rw[if_neg Q]
   simp only[ais,S]
   rw[if_pos h]
   refine⟨?_,?_,?_⟩<;>first|rfl|trivial
  have hC:(cO n d).e=0->∀v,jt (cO n d) v->K.bP i d (K.take v.n v.out) v.seen 0:=fun h v p=>by
   unfold Cl.bP
   rw[if_neg Q]
   simp only[ais,S]
   rw[if_neg (fun hn=>hn h)]
   refine⟨v,p,?_,?_,?_⟩<;>first|rfl|trivial
  have ah:fu n:=by rw[<-hn];exact P.s i g
  have al:n.dr.ai.id=i:=by rw[<-hn];exact P.id i g
  have⟨ax,y,p⟩:=VM (H++[.dead]) ah d ag h0
  simp only[f18,cr]
  rw[fQ]
  refine bp [(0,au b),(1,aa i),(5,.c (.aJ [[I d.kind,I d.id,I d.peer,I d.hold,nl]] 0 0))] (fun G=>G=H) ?_ ?_
  .by_cases E:d.kind=4
   .have hp:K.there d.peer:=akp fun h=>x ⟨E,h⟩
    rw[decide_eq_true hp]at A
    simp[-aD,t,A,E]
   .simp[-aD,t,E]
  rintro en G⟨U,V,W,_⟩hG
  obtain rfl:H=G:=hG.symm
  have⟨az,mp,mt,es,et,F⟩:=h
  have hb:=F.hb
  obtain⟨hh,v,rfl,Y,hc⟩:=F.hn.resolve_left fun e=>by rw[e.1]at g;simp at g
  have⟨R,J⟩:=ak (K.nodes.map aT)
  have D:R[i]?=some (aT n):=by rw[<-J,adf,abM g,hn];rfl
  have Z:i<R.length:=by rw[<-J];simpa using g
  rw[J]at Y
  have ad:bJ H c b K:=⟨_,_,_,_,_,F⟩
  have gb:=fun K=>aV (m:=K) hb
  have gr:=fun K=>aV (m:=K) Y
  unfold mH at p
  by_cases w:(cO n d).e=0
  .rw[if_pos w]at p
   obtain⟨k,lo,le,rfl,L,am,an⟩:=p
   have⟨X,q⟩:=ak (H++[.live 1 10 [aT k.n]]:List Ob)
   have z:aH (fun _=>False) c (ext c H.length .none) H X:=by rw[<-q];exact aH.of _ (by simp) fun m hm _=>abE hm
   have ae:X[H.length]?=some (.live 1 10 [aT k.n]):=by rw[<-q];simp
   have ao:=hid n k L
   have⟨c2,H2,af,M,N⟩:=Pj (T:=T) (ad.aK z fun _ h=>h.elim) O hT k.n k.out (lf:=lo) (by rw[ao,al];omega) (by have:=L.out.1;omega) am
   have aq:lY le k.seen:=by
    rcases an with h|h
    .exact .inl h
    .exact .inr h
   simp only[aT,aG]at D y q ae af
   simp[-aD,-getElem?_pos,ny,gO,iQ,U,V,W,gb,gr,g,D,Z,y,q,ae,af]
   exact⟨c2,_,k.seen,0,le,⟨rfl,rfl⟩,hC w k L,aq,M,(z.mono fun _ h=>h.elim).trans N⟩
  .rw[if_neg w]at p
   have B:=B w
   subst p
   have⟨X,q⟩:=ak (H++[.live 1 10 [[I 0,I 0,.aj [],I 0,.aj [],I 0,.aj [],.aj [],.aj [],.aj []]]]:List Ob)
   have z:aH (fun _=>False) c (ext c H.length .none) H X:=by rw[<-q];exact aH.of _ (by simp) fun m hm _=>abE hm
   have⟨c2,H2,ar,M,N⟩:=Bu (ad.aK z fun _ h=>h.elim) O i
   have⟨av,hz⟩:=ak ((cO n d).e)
   rw[hz]at y w B
   simp only[aT,aG]at D y
   simp[-aD,-getElem?_pos,ny,gO,iQ,U,V,W,gb,gr,g,D,Z,y,q,w,ar]
   exact⟨c2,_,[],av,ap,⟨rfl,rfl⟩,B,.inl ⟨rfl,rfl⟩,M,(z.mono fun _ h=>h.elim).trans N⟩)
 exact⟨l,j,o,s,e,le,dK (by simp) h1,h2⟩
end
end
section
def kY(a:Nat)(l:List Nat)(K:Cl):Cl:=l.foldl (fun c b=>c.eR a b ((c.pipe a b).tick (cT a b))) K
def DA(a:Nat):∀(l:List Nat) (K:Cl),dM K->dM (kY a l K)/\(kY a l K).nodes=K.nodes/\(kY a l K).hold=K.hold/\(kY a l K).tr=K.tr
 |[],K,h=>⟨h,rfl,rfl,rfl⟩
 |b::l,K,h=>DA a l _ (h.eR a b (O7 (h.pipe a b) (cT a b)))
section
variable{H:List Ob}{c:Nat->aU}{b:Nat}{K:Cl}
def c61{T:Nat}(h:bJ H c b K)(p:dM K)(Q:AL K)(hT:lL T K)(al:T<=900000000)(a:Int)(hid:∀n v,jt (cO n ⟨3,0,0,K.hold,[]⟩) v->v.n.dr.ai.id=n.dr.ai.id):
  ∃d g k s e le,aO tz ay 61 [au b,aa a] H=some (.aM [.c le,aa e],g)/\K.tP a k s e/\lY le s/\bJ g d b k/\aH Gx c d H g:=by
 have u:=og h a
 by_cases q:K.there a
 case neg=>
  rw[decide_eq_false q]at u
  obtain⟨r,g,D,rfl,rfl⟩:=cG (C:=tz) (f:=61) (args:=[au b,aa a]) (H:=H) (fun r g=>r= .aM [.c ap,aa 210]/\g=H) func61 rfl (by
   simp[-aD,f61,u])
  exact⟨c,_,K,[],210,ap,dK (by simp) D,by unfold Cl.tP;rw[if_pos q];exact⟨rfl,rfl,rfl⟩,.inl ⟨rfl,rfl⟩,h,aH.refl _ _ _⟩
 obtain⟨a,rfl⟩:∃n:Nat,a=n:=⟨a.toNat,by have:=q.1;omega⟩
 have⟨U,c1,t,n,R,V,W,nl,D,s1⟩:=Sf h p a
 have⟨L,E⟩:=ak (others K.nodes.length a)
 have am:∀i∈L,a≠i:=fun i p=>FO (by rw[E];exact p)
 rw[E]at W
 have⟨az,aA,an,X⟩:=W
 have⟨ti,Y,th,tt⟩:=DA a L K p
 have ao:K.yz a=kY a L K:=by unfold Cl.yz kY;rw[E]
 rw[decide_eq_true q]at u
 obtain⟨r,g,e1,d,k,s,e,le,rfl,F,h2,h3,h4⟩:=cG (C:=tz) (f:=61) (args:=[au b,aa a]) (H:=H) (fun r g=>∃d k s e le,r= .aM [.c le,aa e]/\Cl.bP (K.yz a) a ⟨3,0,0,K.hold,[]⟩ k s e/\lY le s/\bJ g d b k/\aH Gx c d H g) func61 rfl (by
  simp only[f61,cr]
  rw[fQ]
  refine bp [(0,au b),(1,aa a)] (fun G=>G=H) ?_ ?_
  .simp[-aD,u]
  rintro J G⟨Z,a1,_⟩x
  obtain rfl:H=G:=x.symm
  refine bp [(0,au b),(1,aa a)] (fun G=>∃d,bJ G d b (kY a L K)/\aH Gx c1 d t G) ?_ ?_
  .refine eh (fun S=>Has S.env [(0,au b),(1,aa a),(16,.c U),(17,aa n),(18,aa (0:Nat))]/\S.bG=[]/\S.heap=t) ?_ ?_
   .rcases X with⟨rfl,rfl⟩|⟨h,v,rfl,hh,_⟩
    .simp[-aD,V,Z,a1]
    .have aB:n<=R.length:=by omega
     simp[-aD,V,Z,a1]
   rintro⟨J,G,ds⟩⟨m,rfl,x⟩
   simp only at m x
   obtain rfl:t=G:=x.symm
   rw[eC]
   refine Ends.bl (gM (fun j:Nat=>[(0,au b),(1,aa a),(16,.c U),(17,aa n),(18,aa j)]) (fun j G=>j<=n/\∃d,bJ G d b (kY a (L.take j) K)/\aH Gx c1 d t G) [] (fun j=>n-j) _ [0,1,16,17,18] (fun _=>rfl) ?_ 0 _ m ⟨by omega,c1,D,aH.refl _ _ _⟩ rfl)
   rintro j⟨J,G,ds⟩m⟨g2,c2,l,o⟩g5
   simp only at m g2 l o g5
   subst g5
   simp at m
   have⟨y,z,aq,ab,ad⟩:=m
   by_cases ae:j<n
   .have M:j<L.length:=by omega
    have⟨w,N⟩:=ak L[j]
    have ar:a≠w:=am w (by rw[<-N];exact aix M)
    have af:kY a (L.take (j+1)) K=(kY a (L.take j) K).eR a w (((kY a (L.take j) K).pipe a w).tick (cT a w)):=by
     unfold kY
     rw[aiH,abM M,N,ajh]
     rfl
    have⟨ag,_⟩:=DA a (L.take j) K p
    have⟨r,O⟩:=ak (kY a (L.take j) K)
    rw[O]at l af ag
    obtain⟨h,v,rfl,hh,hc⟩:=X.resolve_left fun e=>by omega
    have gh:G[h]?=some (.live v 1 R):=(o.get hh (by rw[hc];simp)).1
    have m1:R[j]?=some [I (w:Int)]:=by rw[an j M,N]
    have av:j<R.length:=by omega
    have hw:adW.wrap ((j:Int)+1)=((j+1:Nat):Int):=cv (by omega)
    have⟨aC,c3,H3,ah,A,P⟩:=ub l ar
    have⟨s,hs⟩:=ak (cT a w)
    have⟨c4,H4,aj,r4,s4⟩:=Za (rK _ _) A.r (ag.pipe a w) (cT a w)
    have r5:=A.bH s4 r4
    have fin:∃B,n-B<n-j/\((j+1:Nat):Int)=(B:Int)/\B<=n/\∃d,bJ H4 d b (kY a (L.take B) K)/\aH Gx c1 d t H4:=
     ⟨j+1,by omega,rfl,by omega,c4,by rw[af];exact r5,(o.trans (P.mono (ma (by omega)))).trans (s4.mono rA)⟩
    rw[hs]at ah aj
    simp[-aD,-getElem?_pos,-ad0,y,z,aq,ab,ad,ae,gh,av,m1,ah,aj,hw]
    exact fin
   .simp[y,z,ab,ad,ae]
    rw[acu (by omega)]at l
    exact⟨c2,l,o⟩
  rintro J G⟨y,z,_⟩⟨c2,l,o⟩
  rw[ao]
  have⟨c3,H3,k,s,e,le,aw,F,ax,A,P⟩:=Rt (T:=T) l ti ⟨by rw[Y];exact Q.s,by rw[Y];exact Q.id⟩ (by unfold lL;rw[tt];exact hT) al a ⟨3,0,0,K.hold,[]⟩ (nl:=ap) rfl (fun h=>by cases h) hid
  have⟨aE,mp,mt,es,et,O⟩:=l
  have hb:=O.hb
  rw[th]at hb
  simp[-aD,y,z,hb,aw]
  exact⟨c3,k,s,e,le,⟨rfl,rfl⟩,F,ax,A,((s1.mono fun _ h=>h.elim).trans o).trans P⟩)
 refine⟨d,g,k,s,e,le,dK (by simp) e1,?_,h2,h3,h4⟩
 unfold Cl.tP
 rw[if_neg (fun h=>h q)]
 exact F
def MsL(H:List Ob)(c:Nat->aU)(q:ab)(l:List cY):Prop:=(l=[]/\q=ap)\/∃h v,q= .sl h v 0 l.length/\H[h]?=some (.live v 3 (l.map br))/\c h= .none
def c57(H:List Ob){q:ab}{l:List cY}(f:sW H q l)(g:l.length<=1000000):aO tz ay 57 [.c q] H=some (bd H.length 0 0 l.length,H++[ah 3 (l.map br)]):=by
 have b:bA (l.map br)=true:=aeS l;have i:lH [3] (ah 3 (l.map br))=true:=by simp[lH,cW,fW,br]
 have j:dX H.length (ah 3 (l.map br))=ah 3 (l.map br):=qy b;rcases f with⟨rfl,rfl⟩|⟨h,v,lo,rows,rfl,d,k,o⟩
 .have h:=Qx (a:=ap) (l:=[]) rfl (by simp);simp[h,ei,bU,bC,eN,dZ,dX]
 .have e:=um (lo:=lo) (len:=l.length) d (by omega);rw[k]at e;have m:=zF (n:=5) d e b;have h:=Qx (a:= .aj (l.map br)) (l:=l) rfl g;simp[-bU,-lH,h,m,ei,i,j,kj,fW,eN,dZ]
def Nj(h:bJ H c b K)(x y:Int)(g:(K.oY x y).length<=1000000):∃q j a,aO tz ay 28 [au b,aa x,aa y] H=some (.c q,a)/\MsL a j q (K.oY x y)/\bJ a j b K/\aH Gx c j H a:=by
 have i:=uK h x y;unfold Cl.oY at g|-;by_cases e:K.two x y
 .obtain ⟨u,v,rfl,rfl,I⟩:=qO e;rw[if_pos e]at g|-;rw[decide_eq_true e]at i;simp only[ais]at g|-;have⟨t,c1,d,w,o,z⟩:=Ox h u v;have⟨J,A,B,L,M⟩:=o.r;have p:=c57 d B g;have⟨l,D⟩:=ak ((K.tr u v).left);rw[D]at p|-;have s:aH (fun _=>False) c1 (ext c1 d.length .none) d (d++[ah 3 (l.map br)]):=aH.of _ (by simp) fun m hm _=>abE hm;have⟨q,mp,mt,E,F,G,_⟩:=o.n;obtain⟨r,a,k,rfl,rfl⟩:=cG (C:=tz) (f:=28) (args:=[au b,aa u,aa v]) (H:=H) (fun r a=>r=bd d.length 0 0 l.length/\a=d++[ah 3 (l.map br)]) func28 rfl (by simp[-aD,f28,i,w,A,p])
  exact⟨_,_,_,dK (by simp) k,.inr ⟨d.length,0,rfl,by simp,jr (ad3 _)⟩,⟨q,mp,mt,E,F,G.aK s fun _ h=>h.elim⟩,(z.mono (ma (by omega))).trans (s.mono fun _ h=>h.elim)⟩
 .rw[if_neg e];rw[decide_eq_false e]at i;obtain⟨r,a,k,rfl,rfl⟩:=cG (C:=tz) (f:=28) (args:=[au b,aa x,aa y]) (H:=H) (fun r a=>r= .c ap/\a=H) func28 rfl (by simp[-aD,f28,i])
  exact⟨_,c,_,dK (by simp) k,.inl ⟨rfl,rfl⟩,h,aH.refl _ _ _⟩
end
end
section
variable{n:Nd}{T:Nat}
def aaJ{p:Int}{m:cY}(h:(fK n p m).e=0):dm n=true:=by
 unfold fK at h;split at h
 .rename_i a;exact vD a
 .exact vD h
def Y3(H:List Ob)(hn:fu n)(p:Int)(m:cY):∃o,aO tz ay 142 [.agg (aT n),aa p,.agg (br m)] H=some (o,H)/\mH (fK n p m) o:=by
 have⟨o,c,a⟩:=aeG n p m (Rk hn) fun b=>PI (aaJ b) b;refine⟨o,?_,a⟩;have d:df H (.agg (aT n))=some (.agg (aT n),[]):=by simp only[df,mR (yh n),MZ]
 have e:df H (.agg (br m))=some (.agg (br m),[]):=by have:cy (br m)=true:=rfl;simp only[df,mR this];rfl
 have f:df H (aa p)=some (aa p,[]):=by simp only[df,vI]
 rw[aD,if_neg (by simp[eO])];simp only[dy,d,e,f,kU,show tz.md 142=1 from rfl,aeU];rw[c,jP,a.sh];simp[ei]
def Ym(H:List Ob)(l:bx)(a:l.length<=1000000):aO tz ay 141 [.c (Sg l)] H=some (.aM [.agg (br (ln l).1),aa (ln l).2],H):=by have h:=Xn l a;simp[h,br]
def Oi(K:Cl)(x y:Nat):K.mO x y (K.tr x y)=K:=by
 unfold Cl.mO;congr 1
 funext u v
 split
 .rename_i h;rw[h.1,h.2]
 .rfl
def As{K:Cl}(h:dM K)(c:lL T K)(a b:Nat):dM (K.tell a b)/\lL T (K.tell a b)/\(K.tell a b).nodes=K.nodes:=by
 unfold Cl.tell;split
 .rw[Oi];exact⟨h,c,rfl⟩
 .have d:=h.ts a b;have e:=c a b;have f:=h.tl a b;exact⟨R1 h (by simp;omega) (by simp;omega),O3 c (by simp;omega),rfl⟩
section
variable{H:List Ob}{c:Nat->aU}{b:Nat}{K:Cl}
def Vm(h:bJ H c b K)(hi:dM K)(hN:AL K)(hT:lL T K)(aU:T<=900000000)(a i:Nat)(r:i<K.nodes.length)(s:bx)(hs:s.length<=1000000)(hid:∀n ax m v,jt (fK n ax m) v->v.n.dr.ai.id=n.dr.ai.id):
  ∃d u z l e le,aO tz ay 85 [au b,aa a,aa i,.c (Sg s)] H=some (.aM [.c le,aa e],u)/\K.Told a i s z l e/\lY le l/\bJ u d b z/\aH Gx c d H u:=by
 have⟨t,c1,N,ad,r1,s1⟩:=Ox h a i
 have⟨n,hn⟩:=ak K.nodes[i]
 have ag:K.nodes.getD i .zero=n:=by rw[ae5,abM r,hn];rfl
 have az:fu n:=by rw[<-hn];exact hN.s i r
 have aA:n.dr.ai.id=i:=by rw[<-hn];exact hN.id i r
 have⟨ti,tT,F⟩:=As hi hT a i
 have hA:(ln s).2≠0->K.Told a i s (K.tell a i) [] 212:=fun h=>by
  unfold Cl.Told
  rw[if_pos h]
  exact⟨rfl,rfl,rfl⟩
 have A:(ln s).2=0->(fK n a (ln s).1).e≠0->K.Told a i s (K.tell a i) [] 212:=fun h j=>by
  unfold Cl.Told
  rw[if_neg (fun e=>e h),ag,if_pos j]
  exact⟨rfl,rfl,rfl⟩
 have O:(ln s).2=0->(fK n a (ln s).1).e=0->∀v,jt (fK n a (ln s).1) v->K.Told a i s ((K.tell a i).take v.n v.out) v.seen 0:=fun h j v B=>by
  unfold Cl.Told
  rw[if_neg (fun e=>e h),ag,if_neg (fun e=>e j)]
  exact⟨v,B,rfl,rfl,rfl⟩
 have⟨q0,mp,mt,es,et,J,aB⟩:=r1.n
 have⟨aC,o,k2,k3,k4⟩:=r1.r
 obtain⟨al,u,h1,d,z,l,e,le,rfl,j⟩:=cG (C:=tz) (f:=85) (args:=[au b,aa a,aa i,.c (Sg s)]) (H:=H) (fun al u=>∃d z l e le,al= .aM [.c le,aa e]/\K.Told a i s z l e/\lY le l/\bJ u d b z/\aH Gx c d H u) func85 rfl (by
  simp only[f85,cr]
  rw[fQ,fQ]
  refine bp [(0,au b),(1,aa a),(2,aa i),(3,.c (Sg s))] (fun G=>∃d,bJ G d b (K.tell a i)/\aH Gx c d H G) ?_ ?_
  .have ⟨g,P⟩:=ak (K.tr a i)
   rw[P]at o k2
   have aE:=hi.ts a i
   have aF:=hi.tl a i
   rw[P]at aE aF
   by_cases k:g.left=[]
   .have ae:K.tell a i=K:=by unfold Cl.tell;rw[P,if_pos k, <-P,Oi]
    have fin:∃d,bJ N d b (K.tell a i)/\aH Gx c d H N:=⟨c1,by rw[ae];exact⟨_,_,_,_,_,J⟩,s1.mono (ma (by omega))⟩
    rcases k2 with⟨_,rfl⟩|⟨j,v,p,rows,rfl,Q,L,R⟩
    .simp[-aD,ad,o]
     exact fin
    .rw[k]at o R
     simp only[aiQ,aiB]at o R
     have af:p<=rows.length:=by omega
     simp[-aD,ad,o]
     exact fin
   .obtain ⟨j,v,p,rows,rfl,Q,L,R⟩:=k2.resolve_left fun e=>k e.1
    obtain⟨q,S⟩:∃q,g.left.length=q+1:=⟨g.left.length-1,by cases aI:g.left with|nil=>exact absurd aI k|cons _ _=>simp⟩
    have ae:K.tell a i=K.mO a i ⟨g.left.tail,g.bN-1⟩:=by unfold Cl.tell;rw[P,if_neg k]
    have af:p+g.left.length<=rows.length:=by omega
    have hw:adW.wrap ((g.bN:Int)-1)=(g.bN:Int)-1:=fw (by omega) (by omega)
    have aJ:max ((g.bN:Int)-1) 0=((g.bN-1:Nat):Int):=by omega
    have aL:j≠t:=fun e=>by rw[e,o]at Q;cases Q
    have fin:∀G,G=N.set t (ah 2 [[.sl j v (p+1) q,I ((g.bN-1:Nat):Int)]])->∃d,bJ G d b (K.tell a i)/\aH Gx c d H G:=fun G hG=>by
     have U:aH (· = .tr a i) c1 c1 N G:=by rw[hG];exact pD (b:=t) (h:=t) (by simp) k3 k3 fun m h _=>aat (ait h)
     refine⟨c1,?_,(s1.mono (ma (by omega))).trans (U.mono D7)⟩
     rw[ae]
     refine⟨_,_,_,_,_,J.xj U aB ⟨.sl j v (p+1) q,by rw[hG];exact ba o,.inr ⟨j,v,p+1,rows,?_,?_,?_,?_⟩,k3,fun m hm=>k4 m (by simpa[rf]using hm)⟩⟩
     .simp[S]
     .rw[hG,aat (ait aL)];exact Q
     .rw[S]at L
      have:=congrArg List.tail L
      simp only[List.length_tail,S,alU, <-List.map_tail]at this|-
      rw[<-this]
      rw[<-List.drop_one,alC,akd]
      rfl
     .simp only[List.length_tail,S,alU];omega
    have q1:(0:Int)< ((q+1:Nat):Int):=by omega
    have q2:(((q+1:Nat):Int)-1).toNat=q:=by omega
    have q3:(1:Int)<=((q+1:Nat):Int):=by omega
    have q4:p+(q+1)<=rows.length:=by omega
    have q5:p+1<=rows.length:=by omega
    rw[S]at o
    have V:∀X,(N.set t X)[t]?=some X:=fun X=>ba o
    simp[-aD,-ad0,ad,o,Q,q3,V,hw,aJ]
    exact fin _ rfl
  rintro en G⟨a0,a1,a2,a3,_⟩⟨c2,L,R⟩
  have⟨W,aN⟩:=ak (K.tell a i)
  rw[aN]at L hA A O ti tT F
  have w:=Ym G s hs
  have⟨m,hm⟩:=ak ((ln s).1)
  rw[hm]at w A O
  have⟨X,x⟩:=ak (G++[ah 3 [br m]]:List Ob)
  have U:aH (fun _=>False) c2 (ext c2 G.length .none) G X:=by rw[<-x];exact aH.of _ (by simp) fun m hm _=>abE hm
  have gX:=L.aK U fun _ h=>h.elim
  have aP:X[G.length]?=some (ah 3 [br m]):=by rw[<-x];simp
  have sX:aH Gx c (ext c2 G.length .none) H X:=R.trans (U.mono fun _ h=>h.elim)
  by_cases k:(ln s).2=0
  case neg=>
   have hA:=hA k
   simp only[br]at w x
   simp[-aD,a3,w,x,k]
   exact⟨_,W,[],212,ap,⟨rfl,rfl⟩,hA,.inl ⟨rfl,rfl⟩,gX,sX⟩
  rw[k]at w
  have A:=A k
  have O:=O k
  have⟨aC,mp,mt,es,et,J⟩:=gX
  have hb:=J.hb
  obtain⟨hh,v,rfl,am,hc⟩:=J.hn.resolve_left fun e=>by rw[F]at e;rw[e.1]at r;simp at r
  have⟨an,hR⟩:=ak (W.nodes.map aT)
  have Z:an[i]?=some (aT n):=by rw[<-hR,F,adf,abM r,hn];rfl
  have ao:i<an.length:=by rw[<-hR,F];simpa using r
  have aq:i<W.nodes.length:=by rw[F];exact r
  rw[hR]at am
  have ar:bJ X (ext c2 G.length .none) b W:=⟨_,_,_,_,_,J⟩
  have⟨aW,D,B⟩:=Y3 (X++[.dead]) az a m
  have gb:=fun K=>aV (m:=K) hb
  have gr:=fun K=>aV (m:=K) am
  have gm:=fun K=>aV (m:=K) aP
  unfold mH at B
  by_cases M:(fK n a m).e=0
  .rw[if_pos M]at B
   obtain⟨y,p,le,rfl,V,aQ,af⟩:=B
   have aR:lY le y.seen:=by
    rcases af with h|h
    .exact .inl h
    .exact .inr h
   have⟨ab,E⟩:=ak (X++[.live 1 10 [aT y.n]]:List Ob)
   have Y:aH (fun _=>False) (ext c2 G.length .none) (ext (ext c2 G.length .none) X.length .none) X ab:=by rw[<-E];exact aH.of _ (by simp) fun m hm _=>abE hm
   have av:ab[X.length]?=some (.live 1 10 [aT y.n]):=by rw[<-E];simp
   have aS:=hid n a m y V
   have⟨c3,H2,aw,r2,s2⟩:=Pj (T:=T) (ar.aK Y fun _ h=>h.elim) ti tT y.n y.out (lf:=p) (by rw[aS,aA,F];omega) (by have:=V.out.1;omega) aQ
   simp only[aT,aG]at Z D E av aw
   simp only[br]at w D x gm
   simp[-aD,-getElem?_pos,ny,gO,iQ,a0,a1,a2,a3,w,x,gb,gr,gm,aq,Z,ao,D,E,av,aw]
   exact⟨c3,_,y.seen,0,le,⟨rfl,rfl⟩,O M y V,aR,r2,(sX.trans (Y.mono fun _ h=>h.elim)).trans s2⟩
  .rw[if_neg M]at B
   have A:=A M
   subst B
   have⟨ab,E⟩:=ak (X++[.live 1 10 [[I 0,I 0,.aj [],I 0,.aj [],I 0,.aj [],.aj [],.aj [],.aj []]]]:List Ob)
   have Y:aH (fun _=>False) (ext c2 G.length .none) (ext (ext c2 G.length .none) X.length .none) X ab:=by rw[<-E];exact aH.of _ (by simp) fun m hm _=>abE hm
   have⟨aX,hz⟩:=ak ((fK n a m).e)
   rw[hz]at D M
   simp only[aT,aG]at Z D
   simp only[br]at w D x gm
   simp[-aD,-getElem?_pos,ny,gO,iQ,a0,a1,a2,a3,w,x,gb,gr,gm,aq,Z,ao,D,E,M]
   exact⟨_,W,[],212,ap,⟨rfl,rfl⟩,A,.inl ⟨rfl,rfl⟩,ar.aK Y fun _ h=>h.elim,sX.trans (Y.mono fun _ h=>h.elim)⟩)
 exact⟨d,u,z,l,e,le,dK (by simp) h1,j⟩
end
end
section
variable{T:Nat}{l:List Ev}{P:Pp}{e:Int}
structure x9:Prop where
 a:∀n d v,jt (cO n d) v->v.n.dr.ai.id=n.dr.ai.id
 g:∀n p m v,jt (fK n p m) v->v.n.dr.ai.id=n.dr.ai.id
structure dL(T:Nat)(K:Cl):Prop where
 i:dM K
 n:AL K
 t:lL T K
 g:∀x y s,(K.pp x y).dR s<=T
def dL.mono{a:Nat}{K:Cl}(h:dL T K)(b:T<=a):dL a K:=⟨h.i,h.n,fun x y=>ai5 (h.t x y) b,fun x y s=>ai5 (h.g x y s) b⟩
def NM{s:Bool}:∀(l:List cY) (P:Pp),(sendAll s l P).1.dR=P.dR
 |[],P=>rfl
 |m::r,P=>by
  unfold sendAll
  split
  .exact NM r _
  .rfl
def ZS{K:Cl}(h:dL T K)(a b:Nat):dL T (K.oV a b):=by
 refine⟨Ps h.i a b,⟨h.n.s,h.n.id⟩,fun x y=>?_,fun x y s=>?_⟩
 .show (if x=a/\y=b then(⟨_,_⟩:Tr)else K.tr x y).left.length<=T;split
  .exact h.t a b
  .exact h.t x y
 .show (if x=min a b/\y=max a b then _ else K.pp x y).dR s<=T;split
  .rw[NM];exact h.g _ _ s
  .exact h.g x y s
def qT{K:Cl}(h:dL T K)(a:Nat):dL T (K.flush a)/\(K.flush a).nodes=K.nodes:=by
 refine⟨?_,(wu _ h.i).2⟩;unfold Cl.flush;generalize others K.nodes.length a=l;induction l generalizing K with
 |nil=>exact h
 |cons b l c=>exact c (ZS h a b)
def abv:∀(l:List cB) {K:Cl},dL T K->T+l.length<=1000000000->dL (T+l.length) (l.foldl Cl.il K)/\(l.foldl Cl.il K).nodes=K.nodes:=fun l K h b=>by
 have⟨c,d,a⟩:=Ac l h.i h.t b
 have hp:(l.foldl Cl.il K).pp=K.pp:=by
  clear c d a h b;induction l generalizing K with
  |nil=>rfl
  |cons m l e=>rw[ai2,e];unfold Cl.il;split<;>rfl
 exact⟨⟨c,⟨by rw[a];exact h.n.s,by rw[a];exact h.n.id⟩,d,fun x y s=>by rw[hp];have:=h.g x y s;omega⟩,a⟩
def AK{K:Cl}(h:dL T K){n:Nd}{l:List cB}(hn:fu n)(hid:0<=n.dr.ai.id/\n.dr.ai.id<K.nodes.length)(b:T+l.length<=1000000000):dL (T+l.length) (K.take n l)/\(K.take n l).nodes=K.nodes.set n.dr.ai.id.toNat n:=by
 have c:dL T (K.pc n):=by
  refine⟨OQ h.i n,⟨fun i a=>?_,fun i a=>?_⟩,h.t,h.g⟩
  .have d:i< (K.nodes.set n.dr.ai.id.toNat n).length:=a;show fu ((K.nodes.set n.dr.ai.id.toNat n)[i]);rw[amk];split
   .exact hn
   .exact h.n.s i _
  .have d:i< (K.nodes.set n.dr.ai.id.toNat n).length:=a;show((K.nodes.set n.dr.ai.id.toNat n)[i]).dr.ai.id=_;rw[amk];split
   .rename_i e;omega
   .exact h.n.id i _
 have⟨f,j⟩:=abv l c b;have⟨k,m⟩:=qT f n.id.toNat;exact⟨k,m.trans j⟩
def Nl{K:Cl}(h:dL T K)(a b:Nat):dL T (K.tell a b):=by have⟨d,e,c⟩:=As h.i h.t a b;refine⟨d,⟨by rw[c];exact h.n.s,by rw[c];exact h.n.id⟩,e,h.g⟩
def Dc(h:dO P)(s:Bool)(k:Int):dO (P.jk s k).1:=by
 unfold Pp.jk;split
 .exact h
 .rename_i b c;split
  .have a:=FM (h.cut s k) s (UA ((h.cut s k).l s) (lF (jV b)).1);simp only;unfold Pp.zN;split
   .exact a
   .exact ⟨a.l,a.q,a.b,a.r⟩
  .exact h.cut s k
def HC(P:Pp)(s:Bool)(k:Int)(t:Bool):(P.jk s k).1.dR t<=P.dR t+1:=by
 unfold Pp.jk;split
 .exact ams _
 .split
  .simp only;unfold Pp.zN;split
   .exact ams _
   .show up P.dR s (P.dR s+1) t<=_;unfold up;split
    .rename_i e;rw[e];exact ad3 _
    .exact ams _
  .exact ams _
def Ao{K:Cl}(h:dL T K)(a b:Nat)(hp:dO P)(c:∀s,P.dR s<=T):dL T (K.eR a b P):=by
 refine⟨h.i.eR a b hp,⟨h.n.s,h.n.id⟩,h.t,fun x y s=>?_⟩;show(if x=min a b/\y=max a b then P else K.pp x y).dR s<=T;split
 .exact c s
 .exact h.g x y s
def CP{K d:Cl}(m:x9)(h:dL T K)(r:T<=900000000){a i:Nat}(j:i<K.nodes.length){s:bx}(b:K.Told a i s d l e):dL (T+9000) d/\d.nodes.length=K.nodes.length:=by
 unfold Cl.Told at b;have f:=Nl h a i;have hn:(K.tell a i).nodes=K.nodes:=(As h.i h.t a i).2.2;split at b
 .obtain ⟨rfl,_⟩:=b;exact⟨f.mono (by omega),by rw[hn]⟩
 .split at b
  .obtain ⟨rfl,_⟩:=b;exact⟨f.mono (by omega),by rw[hn]⟩
  .obtain ⟨v,c,rfl,_⟩:=b;have o:K.nodes.getD i .zero=K.nodes[i]:=by rw[ae5,abM j];rfl
   have k:=m.g _ _ _ _ c;rw[o,h.n.id i j]at k;have⟨p,q⟩:=AK f (l:=v.out) c.jS.s (by rw[k,hn];omega) (by have:=c.out.1;omega);exact⟨p.mono (by have:=c.out.1;omega),by rw[q,aiP,hn]⟩
def Lm{K f:Cl}(o:x9)(h:dL T K)(q:T<=900000000){a:Int}{d:Act}(b:K.bP a d f l e):dL (T+9000) f/\f.nodes.length=K.nodes.length:=by
 unfold Cl.bP at b;split at b
 .obtain ⟨rfl,_⟩:=b;exact⟨h.mono (by omega),rfl⟩
 rename_i hc;have hth:K.there a:=akp fun hn=>hc (.inl hn);obtain⟨i,rfl⟩:∃i:Nat,a=i:=⟨a.toNat,by have:=hth.1;omega⟩;have k:i<K.nodes.length:=by have:=hth.2;omega
 simp only[ais]at b;split at b
 .obtain ⟨rfl,_⟩:=b;have⟨g,j⟩:=qT h i;exact⟨g.mono (by omega),by rw[j]⟩
 .obtain ⟨v,c,rfl,_⟩:=b;have p:K.nodes.getD i .zero=K.nodes[i]:=by rw[ae5,abM k];rfl
  have m:=o.a _ _ _ c;rw[p,h.n.id i k]at m;have⟨g,j⟩:=AK h (l:=v.out) c.jS.s (by rw[m];omega) (by have:=c.out.1;omega);exact⟨g.mono (by have:=c.out.1;omega),by rw[j,aiP]⟩
section
variable{H:List Ob}{c:Nat->aU}{b:Nat}{K:Cl}
def vp{K:Cl}(h:dM K){x y k:Int}{s:bx}(a:K.look x y k=some s):K.two x y/\s.length<=1000:=by
 unfold Cl.look at a;split at a
 .rename_i c;refine⟨c,?_⟩;unfold Pp.look dV at a;split at a
  .cases a
  .exact (h.pipe _ _).b _ _ (aiJ a)
 .cases a
def Wu{e:Lk}{f:Fm}{s:bx}(h:(iY e f).2=some s):s.length<=64:=by
 unfold iY at h;split at h
 .cases h
 .rename_i b;split at h
  .cases h
  split at h
  .cases h
  .simp only[ab1]at h;subst h;have a:ni f=true:=by cases c:ni f with|true=>rfl|false=>exact absurd (.inl c) b
   simp only[ni,abR,decide_eq_true_eq]at a;exact a.1.2
def Uh{s:Bool}{k:Int}{t:bx}(h:(P.jk s k).2=some t):t.length<=64:=by
 unfold Pp.jk at h;split at h
 .cases h
 .split at h
  .exact Wu h
  .cases h
def YR(N:x9)(h:bJ H c b K)(m:dL T K)(ah:T<=800000000)(x y k:Int):
  ∃p a q l e le,aO tz ay 42 [au b,aa x,aa y,aa k] H=some (.aM [.c le,aa e],a)/\K.Comes x y k q l e/\lY le l/\bJ a p b q/\aH Gx c p H a:=by
 obtain⟨c1,W,j,O,P⟩:=zi h x y k
 unfold eF at j
 cases w:K.look x y k with
 |none=>
  rw[w]at j
  simp only[ajm,ajk]at j
  obtain⟨r,a,G,rfl,rfl⟩:=cG (C:=tz) (f:=42) (args:=[au b,aa x,aa y,aa k]) (H:=H) (fun r a=>r= .aM [.c ap,aa 211]/\a=W) func42 rfl (by
   simp[-aD,f42,j])
  exact⟨c1,_,K,[],211,ap,dK (by simp) G,by unfold Cl.Comes;rw[if_pos w];exact⟨rfl,rfl,rfl⟩,.inl ⟨rfl,rfl⟩,O,P⟩
 |some s0=>
 rw[w]at j
 simp only[ai0,ajj]at j
 obtain⟨u,v,rfl,rfl,X⟩:=qO (vp m.i w).1
 have Q:v<K.nodes.length:=by have:=(vp m.i w).1.2.1.2;omega
 obtain⟨ai,c2,H2,R,S,Y⟩:=ub O (ait X)
 obtain⟨c3,Z,z,r3,U⟩:=Z7 (rK _ _) S.r (m.i.pipe v u) (cT v u) k (by have:=m.g (min v u) (max v u) (cT v u);show(K.pipe v u).dR _<=_;unfold Cl.pipe;omega)
 have I:=S.bH U r3
 obtain⟨D,A⟩:=ak (((K.pipe v u).jk (cT v u) k).1)
 obtain⟨o,E⟩:=ak (((K.pipe v u).jk (cT v u) k).2)
 have B:dL (T+1) (K.eR v u D):=Ao (m.mono (by omega)) v u (by rw[<-A];exact Dc (m.i.pipe v u) _ _) fun s=>by
  rw[<-A]
  exact ai5 (HC _ _ _ _) (by have:=m.g (min v u) (max v u) s;show(K.pp _ _).dR s+1<=_;omega)
 have ab:o=none->K.Comes u v k ((K.eR v u D).flush v) [] 0:=fun h=>by
  unfold Cl.Comes
  rw[if_neg (by rw[w];simp)]
  simp only[ais,E,h,A]
  refine⟨?_,?_,?_⟩<;>first|rfl|trivial
 have ad:∀s,o=some s->∀d l e,Cl.Told (K.eR v u D) u v s d l e->K.Comes u v k (d.flush v) l e:=fun s h d l e F=>by
  unfold Cl.Comes
  rw[if_neg (by rw[w];simp)]
  simp only[ais,E,h,A]
  exact⟨d,F,rfl⟩
 rw[A]at I
 rw[E]at z
 have V:aH Gx c c3 H Z:=(P.trans (Y.mono (ma (by omega)))).trans (U.mono rA)
 obtain⟨r,a,G,p,q,l,e,le,rfl,g2⟩:=af1 (C:=tz) (f:=42) (args:=[au b,aa u,aa v,aa k]) (H:=H) (fun r a=>∃p q l e le,r= .aM [.c le,aa e]/\K.Comes u v k q l e/\lY le l/\bJ a p b q/\aH Gx c p H a) func42 rfl (by
  have aj:tz.kR 36=false:=rfl
  unfold eF at z
  cases o with
  |none=>
   simp only[ajm,ajk]at z
   obtain⟨c4,H4,_,J,L,M⟩:=IK I B.i v
   simp[-aD,f42,j,R,z,qx]
   exact⟨_,_,⟨rfl,rfl⟩,rfl,rfl,_,_,J,c4,_,[],0,ap,⟨rfl,rfl⟩,ab rfl,.inl ⟨rfl,rfl⟩,L,V.trans M⟩
  |some s=>
   simp only[ai0,ajj]at z
   obtain⟨c4,H4,K4,l,e,le,ae,F,af,L,M⟩:=Vm (T:=T+1) I B.i B.n B.t (by omega) u v Q s (by have:=Uh E;omega) N.g
   obtain⟨ag,_⟩:=CP N B (by omega) (show v< (K.eR v u D).nodes.length from Q) F
   obtain⟨c5,H5,_,J,h5,s5⟩:=IK L ag.i v
   simp[-aD,f42,j,R,z,ae,qx]
   exact⟨_,_,⟨rfl,rfl⟩,rfl,rfl,_,_,J,c5,_,l,e,le,⟨rfl,rfl⟩,ad s rfl _ _ _ F,af,h5,(V.trans M).trans s5⟩)
 exact⟨p,a,q,l,e,le,dK (by simp) G,g2⟩
end
end
section
variable{k:aU}{q:ab}
def Cl.jD(K:Cl)(x y:Int):List bx:=if K.two x y then(K.pipe y.toNat x.toNat).q (!cT y.toNat x.toNat)else []
def Rn(K:Cl)(x y k:Int):K.look x y k=dV (K.jD x y) k:=by
 unfold Cl.look Cl.jD Pp.look;split
 .rfl
 .unfold dV;split<;>rfl
def Ks{K:Cl}(h:dM K)(x y:Int):(K.jD x y).length<=1000/\∀t∈K.jD x y,t.length<=1000:=by
 unfold Cl.jD;split
 .have hp:=h.pipe y.toNat x.toNat;exact⟨by have:=hp.q (!cT y.toNat x.toNat);have:=hp.r;omega,hp.b _⟩
 .exact ⟨by simp,by simp⟩
section
variable{H:List Ob}{c:Nat->aU}{b:Nat}{K:Cl}
def Ol(h:bJ H c b K)(z:dM K)(x y:Int):∃a e,aO tz ay 59 [au b,aa x,aa y] H=some (aa (K.jD x y).length,e)/\bJ e a b K/\aH Gx c a H e:=by
 have⟨n,hn⟩:=ak ((K.jD x y).length);have A:=(Ks z x y).1;rw[hn]at A|-
 obtain⟨r,e,B,a,rfl,D⟩:=cG (C:=tz) (f:=59) (args:=[au b,aa x,aa y]) (H:=H) (fun r e=>∃a,r=aa n/\bJ e a b K/\aH Gx c a H e) func59 rfl (by
  simp only[f59,cr];refine bp [(0,au b),(1,aa x),(2,aa y)] (fun G=>G=H) ?_ ?_
  .simp
  rintro l G⟨E,F,I,_⟩k;obtain rfl:H=G:=k.symm;rw[iM];refine Ends.sq ?_;refine bp [(0,au b),(1,aa x),(2,aa y),(7,aa (0:Nat))] (fun G=>G=H) ?_ ?_
  .simp[E,F,I]
  rintro l G J k;obtain rfl:H=G:=k.symm;rw[eC];refine iv (fun j:Nat=>[(0,au b),(1,aa x),(2,aa y),(7,aa j)]) (fun j G=>j<=n/\∃a,bJ G a b K/\aH Gx c a H G) (fun j=>n-j) ?_ 0 J ⟨by omega,c,h,aH.refl _ _ _⟩ fun _=>rfl;rintro j l G ⟨m,o,p,q,_⟩ ⟨N,c2,L,t⟩;have u:(j:Int)<1001:=by omega
  have⟨c3,O,g,v,w⟩:=zi L x y j;rw[Rn]at g;unfold eF at g;have M:adW.wrap ((j:Int)+1)=((j+1:Nat):Int):=cv (by omega);by_cases d:j<n
  .have i:∃s,dV (K.jD x y) (j:Int)=some s:=by unfold dV;rw[if_neg (by omega)];exact⟨_,abM (by rw[hn];omega)⟩
   have⟨s,i⟩:=i;rw[i]at g;simp only[ai0,ajj]at g;simp[-aD,-getElem?_pos,-ad0,m,o,p,q,u,g,M];exact⟨j+1,by omega,rfl,by omega,c3,v,t.trans w⟩
  .have P:j=n:=by omega
   have i:dV (K.jD x y) (j:Int)=none:=by unfold dV;rw[if_neg (by omega)];exact aiE (by rw[hn];omega)
   rw[i]at g;simp only[ajm,ajk]at g;simp[-aD,-getElem?_pos,-ad0,m,o,p,q,u,g];exact⟨by omega,c3,v,t.trans w⟩)
 exact⟨a,e,dK (by simp) B,D⟩
def iH(H:List Ob)(c:Nat->aU)(k:aU)(z:Nat)(q:ab)(rows:List (List ab)):Prop:= ∃h v,q= .sl h v 0 rows.length/\H[h]?=some (.live v z rows)/\c h=k
def iH.aK{H':List Ob}{a:Nat->aU}{X:aU->Prop}{z:Nat}{rows:List (List ab)}(h:iH H c k z q rows)(d:aH X c a H H')(e:¬X k):iH H' a k z q rows:=by have⟨h,v,f,g,b⟩:=h;have⟨i,j⟩:=d.get g (by rw[b];exact e);exact⟨h,v,f,i,j.trans b⟩
def Cl.lN(K:Cl)(x:Int)(n:Nat):List Int:=(aiZ n).map fun(i:Nat)=>((K.jD x (i:Int)).length:Int)
def aa3(K:Cl)(x:Int)(n:Nat):K.lN x (n+1)=K.lN x n++[((K.jD x (n:Int)).length:Int)]:=by unfold Cl.lN;rw[aj2,aid];rfl
def c29(h:bJ H c b K)(X:dM K)(x:Int)(n:Nat)(hn:n<=1000):∃q a e,aO tz ay 29 [au b,aa x,aa n] H=some (.c q,e)/\iH e a .none 1 q ((K.lN x n).map aC)/\bJ e a b K/\aH Gx c a H e:=by
 obtain⟨r,e,Y,q,a,rfl,Z⟩:=cG (C:=tz) (f:=29) (args:=[au b,aa x,aa n]) (H:=H) (fun r e=>∃q a,r= .c q/\iH e a .none 1 q ((K.lN x n).map aC)/\bJ e a b K/\aH Gx c a H e) func29 rfl (by
  simp only[f29,cr];rw[fQ];have L:aH (fun _=>False) c (ext c H.length .none) H (H++[ah 1 []]):=aH.of _ (by simp) fun m hm _=>abE hm;refine bp [(0,au b),(1,aa x),(2,aa n),(7,bd H.length 0 0 0)] (fun G=>G=H++[ah 1 []]) ?_ ?_
  .simp
  rintro t G⟨a0,a1,a2,a7,_⟩u;refine eh (fun S=>S.bG=[]/\∃q a,S.env.get 7=some (.c q)/\iH S.heap a .none 1 q ((K.lN x n).map aC)/\bJ S.heap a b K/\aH Gx c a H S.heap) ?_ ?_
  .refine bp [(0,au b),(1,aa x),(2,aa n),(8,aa (0:Nat)),(7,bd H.length 0 0 0)] (fun ad=>ad=G) ?_ ?_
   .simp[a0,a1,a2,a7]
   rintro t G2 g1 ae;obtain rfl:G=G2:=ae.symm;rw[eC];refine iv (fun p:Nat×ab=>[(0,au b),(1,aa x),(2,aa n),(8,aa p.1),(7,.c p.2)]) (fun p G=>p.1<=n/\(∀m∈rf p.2,H.length<=m)/\∃a,iH G a .none 1 p.2 ((K.lN x p.1).map aC)/\bJ G a b K/\aH Gx c a H G) (fun p=>n-p.1) ?_ (0,.sl H.length 0 0 0) g1 ⟨by omega,by simp[rf],_,⟨H.length,0,rfl,by rw[u];simp[Cl.lN],jr (ad3 _)⟩,by rw[u];exact h.aK L fun _ h=>h.elim,by rw[u];exact L.mono fun _ h=>h.elim⟩ fun _=>rfl;rintro⟨j,q⟩ t G ⟨M,N,w,y,k,_⟩ ⟨g2,O,c2,A,B,D⟩;simp only at M N w y k g2 O A B D;by_cases d:j<n
   .have ⟨c3,l,P,h3,Q⟩:=Ol B X x j;have af:=A.aK Q (by simp);obtain⟨i,v,rfl,o,T⟩:=af;have E:((K.lN x j).map aC).length=j:=by simp[Cl.lN]
    have U:=aa3 K x j;have⟨z,hz⟩:=ak ((K.jD x (j:Int)).length);rw[hz]at P U;have⟨R,V⟩:=ak ((K.lN x j).map aC);rw[V]at o E k;rw[E]at k;have m1:j+1<=maxLen:=by unfold maxLen;omega
    have m2:(j+1)*8<=140737488355328:=by omega
    have W:∀K,(l++K)[i]?=some (.live v 1 R):=fun K=>by rw[abE (bf o)];exact o
    have hw:adW.wrap ((j:Int)+1)=((j+1:Nat):Int):=cv (by omega);have ht:R.take j=R:=acu (by omega)
    have fin:∃s,n-s<n-j/\∃q,(((j+1:Nat):Int)=(s:Int)/\ab.sl i (v+1) 0 (j+1)=q)/\s<=n/\(∀m∈rf q,H.length<=m)/\∃a,iH ((l++[Ob.live 0 1 [[I z]]]).set i (Ob.live (v+1) 1 (R++[[I z]]))) a .none 1 q ((K.lN x s).map aC)/\bJ ((l++[Ob.live 0 1 [[I z]]]).set i (Ob.live (v+1) 1 (R++[[I z]]))) a b K/\aH Gx c a H ((l++[Ob.live 0 1 [[I z]]]).set i (Ob.live (v+1) 1 (R++[[I z]]))):=by
     have st:aH (· = .none) c3 (ext c3 l.length .none) l ((l++[Ob.live 0 1 [[I z]]]).set i (Ob.live (v+1) 1 (R++[[I z]]))):=aH.of _ (by simp) fun m hm F=>by rw[aat (fun ag=>F (by rw[<-ag];exact T)),abE hm]
     have ai:H.length<=i:=O i (by simp[rf]);refine⟨j+1,by omega,_,⟨rfl,rfl⟩,by omega,by simp[rf];exact ai,ext c3 l.length .none,⟨i,v+1,?_,?_,?_⟩,h3.aK st fun _ h=> .inl h,?_⟩
     .simp[Cl.lN]
     .rw[ba (W _),U,aid,V];rfl
     .rw[jf (bf o)];exact T
     .have J:=D.trans Q;have sl:=J.len;exact⟨by simp;omega,fun m hm=>by rw[jf (by omega)];exact J.jK m hm,fun m hm F=>by rw[aat (by omega),abE (by omega)];exact J.aK m hm F⟩
    simp[-aD,-getElem?_pos,-ad0,M,N,w,y,k,d,P,W,m1,m2,hw,ht,E];exact fin
   .simp[-getElem?_pos,w,y,k,d];have hj:j=n:=by omega
    rw[<-hj];exact⟨c2,A,B,D⟩
  rintro⟨t,G,ds⟩⟨rfl,q,a,k,g⟩;simp only at k g;simp[k];exact⟨a,g⟩)
 exact⟨q,a,e,dK (by simp) Y,Z⟩
end
structure jj where
 f:Int
 t:Int
 b:bx
deriving DecidableEq
def eW(x:jj):List ab:=[I x.f,I x.t,Sg x.b]
def Tb(l:List jj):bA (l.map eW)=true:=jg _ (fun _=>rfl) l
def Y7(l:List UInt8):(⟨l.toArray⟩:ByteArray).toList=l:=by rw[DJ]
def eqW(x y:jj):eL [Sh.int,Sh.int,Sh.str] [I x.f,I x.t,Sg x.b] [I y.f,I y.t,Sg y.b]=some (decide (x=y)):=by
 have h:∀a b:Int,lR Sh.int (I a) (I b)=some (decide (a=b)):=fun a b=>by
  simp only[lR];by_cases h:a=b
  .subst h;simp
  .simp[h]
 have c:∀a b:bx,lR Sh.str (Sg a) (Sg b)=some (decide (a=b)):=fun a b=>by
  simp only[lR,Y7];by_cases h:a=b
  .subst h;simp
  .simp[h]
 simp only[eL,h,c];congr 1
 have⟨a,b,s⟩:=x;have⟨d,e,g⟩:=y;by_cases i:a=d<;>by_cases j:b=e<;>by_cases k:s=g<;>simp[i,j,k]
def p55(l:List jj)(D:l.length<=1000000000)(x:jj):aS tz ay 0 55 [bh (l.map eW),.agg (eW x)]=some (aR (decide (x∈l)),[]):=by
 refine be func55 rfl ?_;simp only[f55,cr];have⟨n,hn⟩:=ak l.length;have⟨R,g⟩:=ak (l.map eW);have i:R.length=n:=by rw[<-g];simpa using hn
 have w:∀j (t:j<l.length),R[j]?=some (eW l[j]):=fun j t=>by rw[<-g,adf,abM t];rfl
 rw[g];refine bp [(0,bh R),(3,.c (.aJ [eW x] 0 0))] (fun G=>G=[]) ?_ ?_
 .simp[eW]
 rintro u G a rfl;simp at a;have⟨A,B⟩:=a;rw[iM];refine Ends.sq ?_;refine bp [(0,bh R),(3,.c (.aJ [eW x] 0 0)),(5,aa (0:Nat))] (fun G=>G=[]) ?_ ?_
 .simp[A,B]
 rintro u G a rfl;rw[eC];refine iv (fun j:Nat=>[(0,bh R),(3,.c (.aJ [eW x] 0 0)),(5,aa j)]) (fun j G=>j<=n/\G=[]/\∀y∈l.take j, ¬y=x) (fun j=>n-j) ?_ 0 a ⟨by omega,rfl,by simp⟩ fun _=>rfl;rintro j u G ⟨k,m,o,_⟩ ⟨E,rfl,p⟩;by_cases d:j<n
 .have q:j<l.length:=by omega
  have F:j<R.length:=by omega
  have C:adW.wrap ((j:Int)+1)=((j+1:Nat):Int):=cv (by omega);have b:=w j q;have⟨y,r⟩:=ak l[j];rw[r]at b;have f:=eqW y x;simp only[eW]at b m;by_cases e:y=x
  .rw[decide_eq_true e]at f;have s:x∈l:=by rw[<-e, <-r];exact aix q
   simp[-getElem?_pos,-ad0,k,m,o,d,i,b,f,s]
  .rw[decide_eq_false e]at f;simp[-getElem?_pos,-ad0,k,m,o,d,i,b,f,C];refine⟨j+1,by omega,⟨rfl,rfl⟩,by omega,fun z v=>?_⟩;rw[aiH,abM q,r]at v;rcases ain.1 v with h|h
   .exact p z h
   .simp at h;rw[h];exact e
 .have s:¬x∈l:=fun h=>by rw[acu (by omega)]at p;exact p x h rfl
  simp[-getElem?_pos,k,o,d,i,s]
def VJ{H:List Ob}{c:Nat->aU}{l:List jj}(g:iH H c k 3 q (l.map eW))(i:l.length<=1000000000)(x:jj):aO tz ay 55 [.c q,.agg (eW x)] H=some (aR (decide (x∈l)),H):=by
 obtain⟨h,v,rfl,a,p⟩:=g;have b:=p55 l i x;have d:=um (lo:=0) (len:=(l.map eW).length) a (by simp);rw[akn,aiF]at d;have e:=zF (n:=5) a d (Tb l);have f:df H (.agg (eW x))=some (.agg (eW x),[]):=by have:cy (eW x)=true:=rfl;simp only[df,mR this];rfl
 simp only[eW]at f b|-;rw[aio]at e
 have j:df H (bd h v 0 (l.map eW).length)=some (bh (l.map eW),[3]):=by
  rw[aio]
  show(match bU H 6 (.sl h v 0 l.length)with
   |some (m,o)=>some (aw.c m,o)
   |none=>none)=_
  rw[e]
 rw[aD,if_neg (by simp[eO])];simp only[dy,f,j,kU,show tz.md 55=0 from rfl,aeU];rw[b,jP];simp[ei,eN,dZ]
end
section
structure LA where
 K:Int
 A:Int
 B:Int
 N:Int
 X:Int
 d:Act
def cM(x:LA):List ab:=[I x.K,I x.A,I x.B,I x.N,I x.X,I x.d.kind,I x.d.id,I x.d.peer,I x.d.hold,aG x.d.need]
def Lg(x:LA):cy (cM x)=true:=by simp[cM,cy,bC]
def xq(K:Cl)(x:Int)(i k:Nat):List jj:=((K.jD x (i:Int)).drop k).map fun b=>⟨x,(i:Int),b⟩
def wB(K:Cl)(x:Int)(a:List Nat):List jj:=(aiZ a.length).flatMap fun i=>xq K x i (a.getD i 0)
section
variable{H:List Ob}{c:Nat->aU}{b:Nat}{K:Cl}
abbrev G9:aU->Prop:=fun k=>Gx k\/k= .cl 9
def Q7(x:aU)(h:Gx x):G9 x:= .inl h
def ku(K:Cl)(x:Int)(a:List Nat)(i:Nat):List jj:=(aiZ i).flatMap fun j=>xq K x j (a.getD j 0)
def NQ(K:Cl)(x:Int)(a:List Nat)(i:Nat):ku K x a (i+1)=ku K x a i++xq K x i (a.getD i 0):=by unfold ku;rw[aj2,aku];simp
def P2{K:Cl}(a:dM K)(x:Int)(b:List Nat)(i:Nat):(ku K x b i).length<=1000*i:=by
 induction i with
 |zero=>simp[ku]
 |succ i c=>rw[NQ,agc];have:=(Ks a x (i:Int)).1;simp only[xq,aio,aj0];omega
def xp(h:bJ H c b K)(hi:dM K)(x:Int){q qw:ab}(l:List jj)(e:List Nat)(hq:iH H c (.cl 9) 3 q (l.map eW))(O:iH H c .none 1 qw (e.map fun n:Nat=>aC n))(hn:e.length<=1000)(hl:l.length+1000000<=1000000000):
  ∃U a o,aO tz ay 31 [au b,.c q,aa x,.c qw] H=some (.c U,o)/\iH o a (.cl 9) 3 U ((l++wB K x e).map eW)/\bJ o a b K/\aH G9 c a H o:=by
 have⟨n,ae⟩:=ak e.length
 have hM:wB K x e=ku K x e n:=by rw[<-ae];rfl
 rw[hM]
 obtain⟨z,A,rfl,wb,cb⟩:=O
 rw[aio,ae]
 have ah:∀j,j<n->(e.map fun n:Nat=>aC n)[j]?=some [I ((e.getD j 0:Nat):Int)]:=fun j hj=>by
  rw[adf,abM (by omega),ae5,abM (by omega)];rfl
 have ai:(e.map fun n:Nat=>aC n).length=n:=by simpa using ae
 have⟨W,hW⟩:=ak (e.map fun n:Nat=>aC n)
 rw[hW]at wb ah ai
 obtain⟨aj,o,h1,U,a,rfl,h2⟩:=cG (C:=tz) (f:=31) (args:=[au b,.c q,aa x,bd z A 0 n]) (H:=H) (fun aj o=>∃q a,aj= .c q/\iH o a (.cl 9) 3 q ((l++ku K x e n).map eW)/\bJ o a b K/\aH G9 c a H o) func31 rfl (by
  simp only[f31,cr]
  refine bp [(0,au b),(1,.c q),(2,aa x),(3,bd z A 0 n)] (fun G=>G=H) ?_ ?_
  .simp
  rintro E G⟨a0,a1,a2,a3,_⟩hG
  obtain rfl:H=G:=hG.symm
  refine eh (fun S=>S.bG=[]/\∃q a,S.env.get 1=some (.c q)/\iH S.heap a (.cl 9) 3 q ((l++ku K x e n).map eW)/\bJ S.heap a b K/\aH G9 c a H S.heap) ?_ ?_
  .refine bp [(0,au b),(2,aa x),(3,bd z A 0 n),(9,aa (0:Nat)),(1,.c q)] (fun G=>G=H) ?_ ?_
   .simp[a0,a1,a2,a3]
   rintro E P m Q
   obtain rfl:H=P:=Q.symm
   rw[eC]
   refine iv (fun p:Nat×ab=>[(0,au b),(2,aa x),(3,bd z A 0 n),(9,aa p.1),(1,.c p.2)]) (fun p G=>p.1<=n/\∃a,iH G a (.cl 9) 3 p.2 ((l++ku K x e p.1).map eW)/\bJ G a b K/\aH G9 c a H G) (fun p=>n-p.1) ?_ (0,q) m ⟨by omega,c,by simpa[ku]using hq,h,aH.refl _ _ _⟩ fun _=>rfl
   rintro⟨j,q⟩E G⟨u,y,r,t,i,_⟩⟨g2,c2,F,M,B⟩
   simp only at u y r t i g2 F M B
   by_cases d:j<n
   .refine bp [(0,au b),(2,aa x),(3,bd z A 0 n),(9,aa j),(1,.c q)] (fun af=>af=G) ?_ ?_
    .simp[u,i,y,r,t,d]
    rintro E P m Q
    obtain rfl:G=P:=Q.symm
    simp at m
    have⟨u,y,r,t,i⟩:=m
    have⟨w,al⟩:=ak (e.getD j 0)
    have wr:=ah j d
    rw[al]at wr
    have ao:=(B.get wb (by rw[cb];simp)).1
    have⟨L,hL⟩:=ak ((K.jD x (j:Int)).map (fun b=>(⟨x,(j:Int),b⟩:jj)))
    have ap:(K.jD x (j:Int)).length=L.length:=by rw[<-hL];simp
    have aq:ku K x e (j+1)=ku K x e j++L.drop w:=by
     rw[NQ,al, <-hL];unfold xq;rw[List.map_drop]
    have aB:=P2 hi x e j
    have aE:=(Ks hi x (j:Int)).1
    refine eh (fun S=>S.bG=[]/\∃q a,Has S.env [(0,au b),(2,aa x),(3,bd z A 0 n),(9,aa j),(1,.c q)]/\iH S.heap a (.cl 9) 3 q ((l++ku K x e (j+1)).map eW)/\bJ S.heap a b K/\aH G9 c a H S.heap) ?_ ?_
    .rw[eC]
     refine Ends.bl ?_
     refine bp [(0,au b),(2,aa x),(3,bd z A 0 n),(9,aa j),(10,aa (w:Nat)),(1,.c q)] (fun af=>af=G) ?_ ?_
     .simp[-getElem?_pos,u,i,y,r,t,ao,wr,ai,d]
     rintro E P m Q
     obtain rfl:G=P:=Q.symm
     rw[eC]
     refine Ends.bl (gM (fun p:Nat×ab=>[(0,au b),(2,aa x),(3,bd z A 0 n),(9,aa j),(10,aa p.1),(1,.c p.2)]) (fun p G=>w<=p.1/\(p.1=w\/p.1<=L.length)/\∃a,iH G a (.cl 9) 3 p.2 ((l++ku K x e j++(L.drop w).take (p.1-w)).map eW)/\bJ G a b K/\aH G9 c a H G) [] (fun p=>L.length-p.1) _ [0,2,3,9,10,1] (fun _=>rfl) ?_ (w,q) _ m ⟨ad3 _,.inl rfl,c2,by simpa using F,M,B⟩ rfl)
     rintro⟨k,q⟩⟨E,G,ds⟩m⟨ar,av,c2,F,M,B⟩g6
     simp only at m ar av F M B g6
     subst g6
     simp at m
     have⟨u,y,r,t,am,i⟩:=m
     have⟨c3,H3,ag,h3,V⟩:=Ol M hi x j
     rw[ap]at ag
     by_cases dk:k<L.length
     .have ⟨c4,D,T,h4,s4⟩:=zi h3 x j k
      rw[Rn]at T
      unfold eF at T
      have hs:∃s,dV (K.jD x j) (k:Int)=some s/\L[k]?=some ⟨x,(j:Int),s⟩:=by
       have X:k< (K.jD x j).length:=by omega
       refine⟨(K.jD x j)[k],?_,?_⟩
       .unfold dV
        rw[if_neg (by omega)]
        exact abM X
       .rw[<-hL,adf,abM X];rfl
      have⟨s,hs,aw⟩:=hs
      rw[hs]at T
      simp only[ai0,ajj]at T
      have ax:=F.aK (V.trans s4) (by simp)
      obtain⟨J,v,rfl,Y,k2⟩:=ax
      have⟨R,Z⟩:=ak ((l++ku K x e j++(L.drop w).take (k-w)).map eW)
      have az:R.length<=l.length+1000*j+1000:=by
       rw[<-Z,aio,agc,agc,ai1,aj0]
       omega
      rw[Z]at Y i
      have⟨ad,hu⟩:=ak R.length
      rw[hu]at i az
      have m1:ad+1<=maxLen:=by unfold maxLen;omega
      have m2:(ad+1)*32<=140737488355328:=by omega
      have gh:∀K,(D++K)[J]?=some (.live v 3 R):=fun K=>by rw[abE (bf Y)];exact Y
      have O:adW.wrap ((k:Int)+1)=((k+1:Nat):Int):=cv (by omega)
      have ht:R.take ad=R:=acu (by omega)
      have an:(L.drop w).take (k+1-w)=(L.drop w).take (k-w)++[⟨x,(j:Int),s⟩]:=by
       rw[show k+1-w=k-w+1 from by omega,aiH,ai3,show w+(k-w)=k from by omega,aw]
       rfl
      have fin:∃N,L.length-N<L.length-k/\∃q,(((k+1:Nat):Int)=(N:Int)/\ab.sl J (v+1) 0 (ad+1)=q)/\w<=N/\(N=w\/N<=L.length)/\∃a,iH ((D++[Ob.live 0 3 [[I x,I j,Sg s]]]).set J (Ob.live (v+1) 3 (R++[[I x,I j,Sg s]]))) a (.cl 9) 3 q ((l++ku K x e j++(L.drop w).take (N-w)).map eW)/\bJ ((D++[Ob.live 0 3 [[I x,I j,Sg s]]]).set J (Ob.live (v+1) 3 (R++[[I x,I j,Sg s]]))) a b K/\aH G9 c a H ((D++[Ob.live 0 3 [[I x,I j,Sg s]]]).set J (Ob.live (v+1) 3 (R++[[I x,I j,Sg s]]))):=by
       have st:aH (· = .cl 9) c4 (ext c4 D.length .none) D ((D++[Ob.live 0 3 [[I x,I j,Sg s]]]).set J (Ob.live (v+1) 3 (R++[[I x,I j,Sg s]]))):=aH.of _ (by simp) fun aF hm X=>by
        rw[aat (fun aA=>X (by rw[<-aA];exact k2)),abE hm]
       refine⟨k+1,by omega,_,⟨rfl,rfl⟩,by omega,by omega,ext c4 D.length .none,⟨J,v+1,?_,?_,?_⟩,h4.aK st fun k h=>by subst h;simp[Lw],?_⟩
       .rw[an, <-aiu,aid,Z,agc,hu];rfl
       .rw[ba (gh _),an, <-aiu,aid,Z];rfl
       .rw[jf (bf Y)];exact k2
       .exact B.trans (((V.trans s4).mono Q7).trans (st.mono fun k h=> .inr h))
      simp[-aD,-ad0,-aid,-aiu,u,i,y,r,t,am,dk,ag,T,gh,m1,m2,O,ht,hu]
      exact fin
     .simp[-aD,-ad0,-aid,-aiu,u,i,y,r,t,am,dk,ag]
      refine⟨c3,?_,h3,B.trans (V.mono Q7)⟩
      have:=F.aK V (by simp)
      rw[acu (by rw[aj0];omega),aiu, <-aq]at this
      exact this
    rintro⟨E,G3,ds⟩⟨rfl,q,c4,m,g⟩
    simp only at m g
    simp at m
    have⟨u,y,r,t,i⟩:=m
    have O:adW.wrap ((j:Int)+1)=((j+1:Nat):Int):=cv (by omega)
    simp[-aid,-ad0,u,i,y,r,t,O]
    exact⟨j+1,by omega,_,⟨rfl,rfl⟩,by omega,c4,g⟩
   .simp[-aid,r,t,i,d]
    have hj:j=n:=by omega
    rw[<-hj]
    exact⟨c2,F,M,B⟩
  rintro⟨E,G,ds⟩⟨rfl,q,a,i,g⟩
  simp only at i g
  simp[-aid,i]
  exact⟨a,g⟩)
 exact⟨U,a,o,dK (by simp) h1,h2⟩
def rL(K:Cl)(l:List jj)(x:LA):Bool:=
 match K.look x.A x.B x.N with
 |none=>false
 |some s=>decide ((lF (jV s)).2=0)&&!decide ((⟨x.A,x.B,s⟩:jj)∈l)
def Pc(h:bJ H c b K)(E:dM K)(x:LA){q:ab}(l:List jj)(F:iH H c (.cl 9) 3 q (l.map eW))(G:l.length<=1000000000):
  ∃u e,aO tz ay 27 [au b,.c q,.agg (cM x)] H=some (aR (rL K l x),e)/\bJ e u b K/\aH Gx c u H e:=by
 have⟨c1,g,a,k,v⟩:=zi h x.A x.B x.N
 have J:∀s,K.look x.A x.B x.N=some s->s.length<=1000000:=fun s i=>by have:=(vp E i).2;omega
 unfold eF at a
 have L:=F.aK v (by simp)
 have⟨o,n⟩:=ak (K.look x.A x.B x.N)
 have M:(o.getD []).length<=1000000:=by
  cases o with
  |none=>simp
  |some s=>exact J s n
 rw[n]at a
 have d:=ON g (o.getD []) M
 have⟨s,i⟩:=ak (o.getD [])
 rw[i]at a d
 have⟨f,O⟩:=ak ((lF (jV s)).1)
 rw[O]at d
 simp only[bY]at d
 have⟨X,j⟩:=ak (g++[ah 5 [[I f.kind,I f.link,U8 f.seq,U8 f.qD,Sg f.body]]]:List Ob)
 have p:aH (fun _=>False) c1 (ext c1 g.length .none) g X:=by rw[<-j];exact aH.of _ (by simp) fun m hm _=>abE hm
 have w:=VJ (L.aK p fun h=>h) G ⟨x.A,x.B,s⟩
 simp only[eW]at w
 have fin:bJ X (ext c1 g.length .none) b K/\aH Gx c (ext c1 g.length .none) H X:=⟨k.aK p fun _ h=>h.elim,v.trans (p.mono fun _ h=>h.elim)⟩
 have P:rL K l x=(o.isSome&&(decide ((lF (jV s)).2=0)&&!decide ((⟨x.A,x.B,s⟩:jj)∈l))):=by
  unfold rL
  rw[n]
  cases o with
  |none=>rfl
  |some Q=>simp only[ai0]at i;rw[i];rfl
 have⟨z,y⟩:=ak ((lF (jV s)).2)
 obtain⟨r,e,k,rfl,rfl⟩:=cG (C:=tz) (f:=27) (args:=[au b,.c q,.agg (cM x)]) (H:=H) (fun r e=>r=aR (rL K l x)/\e=X) func27 rfl (by
  rw[P,y]
  rw[y]at d
  cases D:o.isSome with
  |false=>
   rw[D]at a
   simp[-aD,f27,cM,a,d,j]
  |true=>
   rw[D]at a
   by_cases t:z=0
   .rw[t]at d
    simp[-aD,f27,cM,a,d,j,w,t]
   .simp[-aD,f27,cM,a,d,j,t])
 exact⟨_,_,dK (by simp) k,fin⟩
def Zq(x:LA)(hn:x.d.need.length<=100000):aS tz ay 1 60 [.agg (cM x)]=some (.agg [I x.d.kind,I x.d.id,I x.d.peer,I x.d.hold,aG x.d.need],[]):=by
 refine be func60 rfl ?_;have c:x.d.need.length<=maxLen:=by unfold maxLen;omega
 have e:x.d.need.length*8<=140737488355328:=by omega
 have f:(x.d.need=[]/\0<x.d.need.length)=False:=eq_false fun⟨a,b⟩=>by rw[a]at b;simp at b
 simp[f60,cM,c,e,f]
def c60(H:List Ob)(x:LA)(hn:x.d.need.length<=100000):aO tz ay 60 [.agg (cM x)] H=some (.agg [I x.d.kind,I x.d.id,I x.d.peer,I x.d.hold,aG x.d.need],H):=by
 have a:=Zq x hn;have b:df H (.agg (cM x))=some (.agg (cM x),[]):=by simp only[df,mR (Lg x)];rfl
 rw[aD,if_neg (by simp[eO])];simp only[dy,b,kU,show tz.md 60=1 from rfl,aeU];rw[a,jP];simp[ei,eN,dZ]
def Cl.rE(K:Cl)(x:LA)(a:Cl)(s:List Ev)(e:Int):Prop:=
 if x.K=0 then K.bP x.A x.d a s e
 else if x.K=1 then K.tP x.A a s e
 else if x.K=2 then a=(K.goes x.A).1/\s=[]/\e=(K.goes x.A).2.2+1000*((K.goes x.A).2.1:Int)
 else if x.K=3 then K.Comes x.A x.B x.N a s e
 else if x.K=4 then a=(K.je x.A x.B x.N).1/\s=[]/\e=(K.je x.A x.B x.N).2
 else if x.K=5 then a=(K.double x.A x.B x.N).1/\s=[]/\e=(K.double x.A x.B x.N).2
 else a=(K.flip x.A x.B x.N x.X).1/\s=[]/\e=(K.flip x.A x.B x.N x.X).2
def aaj{K:Cl}(b:dM K)(a:Int):0<=(K.goes a).2.2/\(K.goes a).2.2<=210/\(K.goes a).2.1<=8000:=by
 unfold Cl.goes;split
 .exact ⟨by simp,by simp,by simp⟩
 .refine ⟨by simp,by simp,?_⟩;simp only;rw[wY];have c:=(Fx a.toNat (others K.nodes.length a.toNat) (K.flush a.toNat,0) (R5 b _)).2.2;have d:=ye K.nodes.length a.toNat;rw[xO,aio]at d;have:=b.n;simp only at c;omega
def xF{T:Nat}(F:x9)(h:bJ H c b K)(m:dL T K)(Q:T<=800000000)(x:LA)(hn:x.d.need.length<=100000):
  ∃k l j s e le,aO tz ay 30 [au b,.agg (cM x)] H=some (.aM [.c le,aa e],l)/\K.rE x j s e/\lY le s/\bJ l k b j/\aH Gx c k H l:=by
 obtain⟨r,l,R,k,j,s,e,le,rfl,S⟩:=cG (C:=tz) (f:=30) (args:=[au b,.agg (cM x)]) (H:=H) (fun r l=>∃k j s e le,r= .aM [.c le,aa e]/\K.rE x j s e/\lY le s/\bJ l k b j/\aH Gx c k H l) func30 rfl (by
  have hA:∀j s e,(if x.K=0 then K.bP x.A x.d j s e else if x.K=1 then K.tP x.A j s e else if x.K=2 then j=(K.goes x.A).1/\s=[]/\e=(K.goes x.A).2.2+1000*((K.goes x.A).2.1:Int)else if x.K=3 then K.Comes x.A x.B x.N j s e else if x.K=4 then j=(K.je x.A x.B x.N).1/\s=[]/\e=(K.je x.A x.B x.N).2 else if x.K=5 then j=(K.double x.A x.B x.N).1/\s=[]/\e=(K.double x.A x.B x.N).2 else j=(K.flip x.A x.B x.N x.X).1/\s=[]/\e=(K.flip x.A x.B x.N x.X).2)->K.rE x j s e:=fun _ _ _ h=>h
  by_cases o:x.K=0
  .have I:=c60 H x hn
   have⟨k,l,j,s,e,le,J,z,g⟩:=Rt (T:=T) h m.i m.n m.t (by omega) x.A x.d (nl:=aG x.d.need) (bi _) (fun _=>⟨rfl,hn⟩) fun n v G=>F.a n _ v G
   simp only[cM,aG,o]at I J|-
   simp[-aD,f30,I,J]
   exact⟨k,j,s,e,le,⟨rfl,rfl⟩,hA _ _ _ (by rw[if_pos o];exact z),g⟩
  by_cases p:x.K=1
  .have ⟨k,l,j,s,e,le,U,z,g⟩:=c61 (T:=T) h m.i m.n m.t (by omega) x.A fun n v G=>F.a n _ v G
   simp[-aD,f30,cM,p,U]
   exact⟨k,j,s,e,le,⟨rfl,rfl⟩,hA _ _ _ (by rw[if_neg o,if_pos p];exact z),g⟩
  by_cases q:x.K=2
  .have ⟨k,l,L,g⟩:=VE h m.i x.A
   have⟨V,W,Y⟩:=aaj m.i x.A
   have M:=hA (K.goes x.A).1 [] ((K.goes x.A).2.2+1000*((K.goes x.A).2.1:Int)) (by rw[if_neg o,if_neg p,if_pos q];exact⟨rfl,rfl,rfl⟩)
   have⟨u,O⟩:=ak ((K.goes x.A).2.1)
   have⟨w,P⟩:=ak ((K.goes x.A).2.2)
   rw[O,P]at L M
   rw[O]at Y
   rw[P]at V W
   have w1:adW.wrap (1000*(u:Int))=1000*(u:Int):=fw (by omega) (by omega)
   have w2:adW.wrap (w+1000*(u:Int))=w+1000*(u:Int):=fw (by omega) (by omega)
   simp[-aD,f30,cM,q,L,w1,w2]
   exact⟨k,_,[],_,ap,⟨rfl,rfl⟩,M,.inl ⟨rfl,rfl⟩,g⟩
  by_cases y:x.K=3
  .have ⟨k,l,j,s,e,le,Z,z,g⟩:=YR F h m Q x.A x.B x.N
   simp[-aD,f30,cM,y,Z]
   exact⟨k,j,s,e,le,⟨rfl,rfl⟩,hA _ _ _ (by rw[if_neg o,if_neg p,if_neg q,if_pos y];exact z),g⟩
  by_cases D:x.K=4
  .have ⟨k,l,ab,g⟩:=c62 h x.A x.B x.N
   simp[-aD,f30,cM,D,ab]
   exact⟨k,_,[],_,ap,⟨rfl,rfl⟩,hA _ _ _ (by rw[if_neg o,if_neg p,if_neg q,if_neg y,if_pos D];exact⟨rfl,rfl,rfl⟩),.inl ⟨rfl,rfl⟩,g⟩
  by_cases E:x.K=5
  .have ⟨k,l,ad,g⟩:=UQ h x.A x.B x.N
   simp[-aD,f30,cM,E,ad]
   exact⟨k,_,[],_,ap,⟨rfl,rfl⟩,hA _ _ _ (by rw[if_neg o,if_neg p,if_neg q,if_neg y,if_neg D,if_pos E];exact⟨rfl,rfl,rfl⟩),.inl ⟨rfl,rfl⟩,g⟩
  .have ⟨k,l,ae,g⟩:=VZ h m.i x.A x.B x.N x.X
   simp[-aD,f30,cM,o,p,q,y,D,E,ae]
   exact⟨k,_,[],_,ap,⟨rfl,rfl⟩,hA _ _ _ (by rw[if_neg o,if_neg p,if_neg q,if_neg y,if_neg D,if_neg E];exact⟨rfl,rfl,rfl⟩),.inl ⟨rfl,rfl⟩,g⟩)
 exact⟨k,l,j,s,e,le,dK (by simp) R,S⟩
end
end
section
variable{es:List Ev}{w:Wk}{n:Nd}{a:Act}{p:Int}{m:cY}
inductive ow (id:Int):cd->List Ev->cd->Prop
 |quiet (b:cd) (es:List Ev) (h:∀e∈es,6<=e.kind/\e.node=id):ow id b es b
 |Mv (b:cd) (s:bW) (r:List bW) (hb:b.aA=s::r) (h0:s.state=0):ow id b [⟨1,id,s.id,0,[]⟩] ⟨b.last,{s with state:=1}::r⟩
 |fin (b:cd) (s:bW) (k:Int) (hs:b.aA.find? (fun x=>decide (x.id=s.id))=some s) (hk:(k=2/\s.state=1)\/(k=3/\s.state=0)):ow id b [⟨k,id,s.id,0,[]⟩] ⟨b.last,ej s.id b.aA⟩
 |exp (b:cd) (s:bW) (r:List bW) (hb:b.aA=s::r) (h1:s.state=1):ow id b [⟨4,id,s.id,0,[]⟩] ⟨b.last,r⟩
 |cH (b:cd) (s:bW) (r:List bW) (a:Int) (hb:b.aA=s::r) (h1:s.state=1):ow id b [] ⟨b.last,{s with cH:=a}::r⟩
 |opens (b:cd) (i:Int) (need:List Int) (hi:b.last<i):ow id b [⟨0,id,i,0,need⟩] ⟨i,b.aA++[⟨i,need,0,0⟩]⟩
 |gone (b:cd) (p:Int):ow id b ((b.aA.filter (bZ p)).map fun s=>⟨5,id,s.id,0,[]⟩) ⟨b.last,b.aA.filter fun s=>!bZ p s⟩
inductive kV (id:Int):cd->List Ev->cd->Prop
 |nil (b:cd):kV id b [] b
 |step {b b' b'':cd} {es es':List Ev}:kV id b es b'->ow id b' es' b''->kV id b (es++es') b''
def kV.trans{id:Int}{b a c:cd}{d:List Ev}(h:kV id b es a)(e:kV id a d c):kV id b (es++d) c:=by
 induction e with
 |nil=>rw[aeU];exact h
 |step i f g=>rw[<-aiu];exact .step g f
def kV.one{id:Int}{b a:cd}(h:ow id b es a):kV id b es a:=by have:=kV.step (.nil b) h;exact this
def BW(w w':Wk):Prop:=w'.n.dr.ai.id=w.n.dr.ai.id/\∃es,w'.seen=w.seen++es/\kV w.n.dr.ai.id w.n.book es w'.n.book
def BW.refl(w:Wk):BW w w:=⟨rfl,[],by simp,.nil _⟩
def BW.trans{w a b:Wk}(h:BW w a)(e:BW a b):BW w b:=by have⟨f,es,g,i⟩:=h;have⟨c,j,k,d⟩:=e;rw[f]at d c;exact⟨c,es++j,by rw[k,g,aiu],i.trans d⟩
def BW.same{w':Wk}(a:w'.n.dr.ai.id=w.n.dr.ai.id)(b:w'.seen=w.seen)(c:w'.n.book=w.n.book):BW w w':=⟨a,[],by simp[b],by rw[c];exact .nil _⟩
def BW.ey(w:Wk){k:Int}(b:6<=k)(p:Int):BW w (w.ey k p):=⟨rfl,[⟨k,w.n.dr.ai.id,0,p,[]⟩],rfl,.one (.quiet _ _ fun e a=>by simp at a;subst a;exact⟨b,rfl⟩)⟩
def BW.one{w:Wk}{a:cd}{es:List Ev}(h:ow w.n.dr.ai.id w.n.book es a):BW w ⟨{w.n with book:=a},w.out,w.seen++es,w.e⟩:=⟨rfl,es,rfl,.one h⟩
def IH(h:dC w.n.dr=true):BW w w.dg:=by
 unfold Wk.dg;split
 .refine .same ?_ rfl rfl;show(kH w.n.dr).1.ai.id=_;unfold kH;rw[if_neg (by simp[h])];rename_i hc;unfold kH at hc;rw[if_neg (by simp[h])]at hc;split
  .rename_i a;rw[if_pos a]at hc;cases hc
  .rfl
 .exact .refl w
def acJ(l:List cj):∀w:Wk,BW w (l.foldl Wk.iz w):=by
 induction l with
 |nil=>exact fun w=> .refl w
 |cons k r a=>exact fun w=>((BW.same (w':=(w.oq ⟨k.peer,k.aP,0,false,false,true,false,true⟩).send ⟨k.peer,k.aP,0,false,false,true,false,true⟩ 6) rfl rfl rfl).trans (.ey _ (by omega) k.peer)).trans (a _)
def acM(w:Wk):BW w (dA w):=by
 unfold dA;split
 .exact (acJ w.n.asked w).trans (.same rfl rfl rfl)
 .exact .refl w
def abV(w:Wk):BW w (dq w):=by
 unfold dq;split
 .split
  .exact .same rfl rfl rfl
  .exact .refl w
 .exact .refl w
def ael(w:Wk):BW w (dG w):=by
 unfold dG;split
 .exact .same rfl rfl rfl
 .exact .refl w
def ahe(h:dd w.n)(a:¬(w.n.dr.aQ=0/\jB w.n.book=true)):BW w (fF w):=by have r:=Pq (told:=w.n.told) h.dr a;exact .same r.id rfl rfl
def afh(h:dd w.n):BW w (fe w):=by
 unfold fe waits;cases b:w.n.book.aA with
 |nil=>exact .refl w
 |cons s r=>
  simp only;by_cases a:s.state=0
  .rw[if_pos a];simp only;split
   .have c:(kD w.n.book).1=⟨w.n.book.last,{s with state:=1}::r⟩:=by unfold kD;rw[if_neg (by simp[h.bk]),b];simp only;rw[if_neg (by rw[a];decide)]
    rw[c];exact .one (.Mv _ s r b a)
   .exact .refl w
  .rw[if_neg a];exact .refl w
def ZM(w:Wk):BW w (iN w):=by
 unfold iN;split
 .exact .same rfl rfl rfl
 .exact .refl w
def OA(h:dd w.n):BW w w.iw:=by
 have⟨b,f,g,i⟩:=GZ h;have⟨c,j,d,e⟩:=Eu b;have⟨c1,c2,c3,c4⟩:=IL c;have a:¬((dG (dq (dA w))).n.dr.aQ=0/\jB (dG (dq (dA w))).n.book=true):=by rw[c3,c4,d];exact e
 have⟨d1,d2,d3⟩:=IC c1 a;exact(((((acM w).trans (abV _)).trans (ael _)).trans (ahe c1 a)).trans (afh d1)).trans ((ZM _).trans (.same rfl rfl rfl))
def Ww{u:Wk}(h:Reach w u)(b:dd w.n):BW w u/\dd u.n:=by
 induction h with
 |refl=>exact⟨.refl w,b⟩
 |step h a=>exact⟨a.1.trans (OA a.2),(zD a.2).1⟩
def RO{v:Wk}(h:jt w v)(a:dd w.n):BW w v:=by obtain⟨u,b,e,_,rfl⟩:=h;have⟨c,d⟩:=Ww b a;exact c.trans (OA d)
def ww(b:w.e=0)(a:cd):w.eS a 0=w.put {w.n with book:=a}:=by unfold Wk.eS Wk.need;simp[b]
def OW(f:dC w.n.dr=true)(h:w.e=0){id a k:Int}(i:(k=2/\a=1)\/(k=3/\a=0))(b:(de w.n.book id a).2=0):BW w ((w.eS (de w.n.book id a).1 (de w.n.book id a).2).dJ k id)/\BW w ((w.eS (de w.n.book id a).1 (de w.n.book id a).2).dJ k id).dg:=by
 have⟨m,⟨s,c,j⟩,l⟩:=FC b;have d:s.id=id:=by have:=akS c;simpa using this
 rw[l,b,ww h];have g:BW w ((w.put {w.n with book:=⟨w.n.book.last,ej id w.n.book.aA⟩}).dJ k id):=by have:=BW.one (w:=w) (.fin w.n.book s k (by rw[d];exact c) (by rw[j];exact i));rw[d]at this;exact this
 exact⟨g,g.trans (IH f)⟩
def Xb(w:Wk)(p:Int)(a:cN w.n.book=true):BW w ((w.put {w.n with book:=(iS w.n.book p).1}).mT 5 (iS w.n.book p).2.1):=by
 have b:iS w.n.book p=(⟨w.n.book.last,w.n.book.aA.filter fun s=>!bZ p s⟩,(w.n.book.aA.filter (bZ p)).map (·.id),0):=by unfold iS;rw[if_neg (by simp[a])]
 rw[b];have:=BW.one (w:=w) (.gone w.n.book p);have e:(w.put {w.n with book:=⟨w.n.book.last,w.n.book.aA.filter fun s=>!bZ p s⟩}).mT 5 ((w.n.book.aA.filter (bZ p)).map (·.id))=⟨{w.n with book:=⟨w.n.book.last,w.n.book.aA.filter fun s=>!bZ p s⟩},w.out,w.seen++(w.n.book.aA.filter (bZ p)).map (fun s=>⟨5,w.n.dr.ai.id,s.id,0,[]⟩),w.e⟩:=by unfold Wk.mT Wk.put;simp only[ajc];rfl
 rw[e];exact this
def Lr(c:dd w.n)(p:Int):BW w (w.shut p):=by
 have⟨w1,a⟩:=ak ((w.put (w.n.eK (setAt (cP p) (fun x=>{x with state:=2}) w.n.af))).ey 7 p);have e:BW w w1:=by rw[<-a];exact(BW.same (w':=w.put (w.n.eK (setAt (cP p) (fun x=>{x with state:=2}) w.n.af))) rfl rfl rfl).trans (.ey _ (by omega) p)
 have f:cN w1.n.book=true:=by rw[<-a];exact c.bk
 have g:dC w1.n.dr=true:=by rw[<-a];exact Jc c.dr fun x j=>⟨rfl,fun k h=>by simp only[cS,abR,afa,decide_eq_false_iff_not,decide_eq_true_eq]at h|-;simp only[h];simp⟩
 unfold Wk.shut;simp only[a];have b:∀w2:Wk,BW w1 w2->w2.n.book=w1.n.book->BW w ((w2.put {w2.n with book:=(iS w1.n.book p).1}).mT 5 (iS w1.n.book p).2.1):=fun w2 i d=>by rw[<-d];exact(e.trans i).trans (Xb w2 p (by rw[d];exact f))
 cases l:w1.n.book.aA with
 |nil=>exact b w1 (.refl w1) rfl
 |cons s r=>
  simp only;split
  .refine b _ (IH g) ?_;unfold Wk.dg;split<;>rfl
  .exact b w1 (.refl w1) rfl
def KK(h:dm n=true):(bg n).e=0:=by unfold bg;rw[h];rfl
def Zj(b:(cO n a).e=0):BW (bg n) (cO n a):=by
 have hn:dm n=true:=by
  cases hn:dm n with
  |true=>rfl
  |false=>
   have c:(bg n).e=180:=by unfold bg;rw[hn];rfl
   unfold cO at b;rw[hn]at b;simp only[aes,if_false]at b;repeat' split at b
   all_goals rw[c]at b;cases b
 have i:=KK hn;have l:dd n:=(JE hn).1;have E:∀e:Int,e≠0->((bg n).fail e).e≠0:=fun e h=>h;unfold cO at b|-;rw[hn]at b|-;simp only[if_true]at b|-;split at b
 .rename_i k;rw[if_pos k];unfold Wk.opens at b|-;split at b
  .rename_i hc;exact absurd b hc
  rename_i hc;rw[if_neg hc];split at b
  .cases b
  rename_i o;rw[if_neg o];have m:(ia (bg n).n.book a.id a.need).2=0:=akp fun h=>hc h;have⟨u,v,F⟩:=MY m;rw[v];refine BW.one (w:=bg n) (.opens _ _ _ ?_);unfold ia at m;rw[if_neg (by simp[u])]at m;split at m
  .cases m
  .rename_i h;exact Int.not_le.1 h
 rename_i y;rw[if_neg y];split at b
 .rename_i k;rw[if_pos k];unfold Wk.release at b|-;split at b
  case isFalse hc=>exact absurd b hc
  rename_i hc;rw[if_pos hc];exact(OW (w:=bg n) l.dr i (.inl ⟨rfl,rfl⟩) hc).2
 rename_i z;rw[if_neg z];split at b
 .rename_i k;rw[if_pos k];unfold Wk.cancel at b|-;split at b
  case isFalse hc=>exact absurd b hc
  rename_i hc;rw[if_pos hc];have g:=OW (w:=bg n) l.dr i (.inr ⟨rfl,rfl⟩) hc;split
  .exact g.2
  .exact g.1
 rename_i A;rw[if_neg A];split at b
 .rename_i k;rw[if_pos k];unfold Wk.tick at b|-;split at b
  case isFalse hc=>exact absurd b hc
  rename_i hc;rw[if_pos hc];clear hc b;have j:=l.bk;show BW (bg n) (if(dN n.book a.hold).2.1≠0 then(((bg n).eS (dN n.book a.hold).1 0).dJ 4 (dN n.book a.hold).2.1).dg else(bg n).eS (dN n.book a.hold).1 0);cases d:n.book.aA with
  |nil=>
   have f:dN n.book a.hold=(n.book,0,0):=by unfold dN;rw[if_neg (by simp[j]),d]
   rw[f,if_neg (by simp),ww i];exact .same rfl rfl rfl
  |cons s r=>
   by_cases c:s.state=1
   case neg=>
    have f:dN n.book a.hold=(n.book,0,0):=by unfold dN;rw[if_neg (by simp[j]),d];simp only;rw[if_neg c]
    rw[f,if_neg (by simp),ww i];exact .same rfl rfl rfl
   by_cases q:max s.cH (min s.cH (4611686018427387904-1)+1)<a.hold
   .have f:dN n.book a.hold=(⟨n.book.last,{s with cH:=max s.cH (min s.cH (4611686018427387904-1)+1)}::r⟩,0,0):=by unfold dN;rw[if_neg (by simp[j]),d];simp only;rw[if_pos c,if_pos q]
    rw[f,if_neg (by simp),ww i];refine⟨rfl,[],by simp[Wk.put],.one (.cH n.book s r _ d c)⟩
   .have f:dN n.book a.hold=(⟨n.book.last,r⟩,s.id,0):=by unfold dN;rw[if_neg (by simp[j]),d];simp only;rw[if_pos c,if_neg q]
    have B:s.id≠0:=by simp only[cN,abR]at j;have t:=j.2;rw[d]at t;simp only[dS,dw,abR,afa,aiX,decide_eq_false_iff_not]at t;omega
    rw[f,if_pos B,ww i];exact(BW.one (w:=bg n) (.exp n.book s r d c)).trans (IH (w:=((bg n).put {n with book:=⟨n.book.last,r⟩}).dJ 4 s.id) l.dr)
 rename_i C;rw[if_neg C];split at b
 .rename_i k;rw[if_pos k];split at b
  .cases b
  rename_i hc;rw[if_neg hc];split at b
  .cases b
  rename_i o;rw[if_neg o];split at b
  case isFalse hc=>cases b
  rename_i p;rw[if_pos p];exact .same rfl rfl rfl
 rename_i D;rw[if_neg D];split at b
 .rename_i k;rw[if_pos k];split at b
  .cases b
  rename_i hc;rw[if_neg hc];split at b
  .cases b
  rename_i x G;split at b
  case isFalse hc=>cases b
  rename_i p;rw[if_pos p];exact Lr (w:=bg n) l a.peer
 .cases b
def XY(a:(fK n p m).e=0):BW (bg n) (fK n p m):=by
 unfold fK at a|-;split at a
 case isFalse hc=>exact absurd a hc
 rename_i hc;rw[if_pos hc];have hn:=vD hc;have g:=KK hn;have i:dd n:=(JE hn).1
 have j:iU n m=bg n:=by
  unfold iU at hc|-;rw[if_pos hn]at hc|-;split at hc
  .rename_i h;rw[if_pos h]
  .cases hc
 rw[j]at a|-;unfold lr at a|-;split at a
 .rename_i k;rw[if_pos k];cases l:n.dr.ai.af.find? (cP p)with
  |none=>exact .refl _
  |some x=>
   rw[l]at a;simp only at a|-;split at a
   .rename_i b;rw[if_pos b];unfold Wk.sC at a|-;by_cases c:(gS (bg n).n.dr p m).2=0
    .have d:(bg n).need (decide ((gS (bg n).n.dr p m).2=0)) 187=bg n:=by unfold Wk.need;simp[c]
     rw[d,if_pos g];have⟨f,o,_⟩:=RY c;refine .same ?_ rfl rfl;show(gS (bg n).n.dr p m).1.ai.id=_;rw[o]
    .exfalso
     have d:(bg n).need (decide ((gS (bg n).n.dr p m).2=0)) 187=(bg n).fail 187:=by unfold Wk.need Wk.fail;simp[c,g]
     rw[d,if_neg (by simp[Wk.fail])]at a;cases a
   .rename_i b;rw[if_neg b];exact .refl _
 rename_i q;rw[if_neg q];split at a
 .rename_i k;rw[if_pos k];split at a
  case isFalse hc=>cases a
  rename_i hc;rw[if_pos hc];exact .same rfl rfl rfl
 rename_i r;rw[if_neg r];split at a
 .rename_i k;rw[if_pos k];split at a
  case isFalse hc=>cases a
  rename_i hc;rw[if_pos hc];unfold rN;exact(BW.same (w':=(bg n).put _) rfl rfl rfl).trans (.ey _ (by omega) p)
 rename_i s;rw[if_neg s];split at a
 .rename_i k;rw[if_pos k];split at a
  case isFalse hc=>cases a
  rename_i hc;rw[if_pos hc];exact Lr (w:=bg n) i p
 rename_i t;rw[if_neg t];split at a
 .rename_i k;rw[if_pos k];split at a
  case isFalse hc=>cases a
  rename_i hc;rw[if_pos hc];exact(BW.same (w':=(bg n).drop p) rfl rfl rfl).trans (.ey _ (by omega) p)
 .cases a
def afW(l:List cj):∀w:Wk,(l.foldl Wk.iz w).e=w.e:=by
 induction l with
 |nil=>exact fun w=>rfl
 |cons k r a=>exact fun w=>a _
def O6(w:Wk):w.iw.e=w.e:=by
 have hA:(dA w).e=w.e:=by
  unfold dA;split
  .exact afW w.n.asked w
  .rfl
 have a:∀w,(dq w).e=w.e:=fun w=>by
  unfold dq;split
  .split<;>rfl
  .rfl
 have b:∀w,(dG w).e=w.e:=fun w=>by unfold dG;split<;>rfl
 have c:∀w,(fe w).e=w.e:=fun w=>by
  unfold fe;split
  .split<;>rfl
  .rfl
 have d:∀w,(iN w).e=w.e:=fun w=>by unfold iN;split<;>rfl
 show(iN (fe (fF (dG (dq (dA w)))))).e=w.e;rw[d,c];show(dG (dq (dA w))).e=w.e;rw[b,a,hA]
def SC{v:Wk}(h:jt w v):w.e=0/\v.e=0:=by
 obtain⟨u,b,a,_,rfl⟩:=h
 have c:∀ {u:Wk},Reach w u->u.e=w.e:=fun h=>by
  induction h with
  |refl=>rfl
  |step h d=>rw[O6];exact d
 have:=c b;exact⟨by rw[<-this];exact a.e,by rw[O6];exact a.e⟩
def Xa(b:(cO n a).e=0):dm n=true:=by
 cases hn:dm n with
 |true=>rfl
 |false=>
  have c:(bg n).e=180:=by unfold bg;rw[hn];rfl
  unfold cO at b;rw[hn]at b;simp only[aes,if_false]at b;repeat' split at b
  all_goals rw[c]at b;cases b
def X3(h:(fK n p m).e=0):dm n=true:=by
 unfold fK at h;split at h
 .rename_i a;exact vD a
 .exact vD h
def Ow{v:Wk}(h:jt (cO n a) v):dm n=true/\BW (bg n) v:=by have b:=(SC h).1;have hn:=Xa b;exact⟨hn,(Zj b).trans (RO h (Sd hn b).i)⟩
def PZ{v:Wk}(h:jt (fK n p m) v):dm n=true/\BW (bg n) v:=by have a:=(SC h).1;have hn:=X3 a;exact⟨hn,(XY a).trans (RO h (PI hn a).i)⟩
end
section
variable{C:List Ev->Ev->Prop}{E es:List Ev}{b b':cd}
def kg(C:List Ev->Ev->Prop)(E:List Ev):Prop:= ∀P e Q,E=P++e::Q->C P e
def kg.nil(C:List Ev->Ev->Prop):kg C []:=fun P e Q h=>by simp at h
def kg.L2(h:kg C E)(d:∀P e Q,es=P++e::Q->C (E++P) e):kg C (E++es):=by
 intro P e Q f;rcases List.append_eq_append_iff.1 f with⟨a,c,b⟩|⟨a,c,b⟩
 .subst c;exact d a e Q b
 .cases a with
  |nil=>simp only[aeU,aiD]at c b;subst c;have:=d [] e Q b.symm;simpa using this
  |cons x a=>simp only[ai7,aiA]at b;obtain⟨rfl,rfl⟩:=b;exact h P e a c
def kg.one{e:Ev}(h:kg C E)(c:C E e):kg C (E++[e]):=h.L2 fun P x Q b=>by
 cases P with
 |nil=>simp only[aiD,aiA]at b;rw[<-b.1,aeU];exact c
 |cons a P=>simp at b
def kg.pre(h:kg C (E++es)):kg C E:=fun P e Q a=>h P e (Q++es) (by rw[a];simp)
def mC:List Ev->Int->Int
 |[],g=>g
 |e::r,g=>mC r (if e.kind=1 then e.id else g)
def nv(E es:List Ev)(g:Int):mC (E++es) g=mC es (mC E g):=by
 induction E generalizing g with
 |nil=>rfl
 |cons e r a=>exact a _
def pf(h:∀e∈es,e.kind≠1)(g:Int):mC es g=g:=by
 induction es with
 |nil=>rfl
 |cons e r a=>simp only[mC];rw[if_neg (h e (ajz ..))];exact a fun e b=>h e (aiO _ b)
def CG(P:List Ev)(e:Ev):Prop:=e.kind=1->mC P 0<e.id
def kg.quiet(h:kg CG E)(a:∀e∈es,e.kind≠1):kg CG (E++es):=h.L2 fun P e Q b c=>absurd c (a e (by rw[b];simp))
structure GI(E:List Ev)(b:cd):Prop where
 o:kg CG E
 p:b.aA.Pairwise fun s t=>s.id<t.id
 l:∀s∈b.aA,s.id<=b.last
 w:∀s∈b.aA,s.state=0->mC E 0<s.id
 g:mC E 0<=b.last
def Mk{id:Int}:∀l:List bW,(ej id l).Sublist l
 |[]=> .slnil
 |s::r=>by
  unfold ej
  split
  .exact List.sublist_cons_self _ _
  .exact (Mk r).cons_cons _
def gi_step{id:Int}(h:GI E b)(o:ow id b es b'):GI (E++es) b':=by
 have⟨n,j,f,l,q⟩:=h;cases o with
 |quiet _ y=>
  have v:∀e∈es,e.kind≠1:=fun e g h=>by have:=(y e g).1;omega
  exact⟨n.quiet v,j,f,by rw[nv,pf v];exact l,by rw[nv,pf v];exact q⟩
 |Mv s r u m=>
  rw[u]at j f l;have o:=l s (ajz ..) m;have w:=f s (ajz ..);have hp:=ahg.1 j;refine⟨n.one fun _=>o,ahg.2 ⟨hp.1,hp.2⟩,fun t c=>?_,fun t c m=>?_,?_⟩
  .rcases aeM.1 c with rfl|c
   .exact w
   .exact f t (aiO _ c)
  .rw[nv];rcases aeM.1 c with rfl|c
   .cases m
   .exact hp.1 t c
  .rw[nv];exact w
 |fin s k z v=>
  have d:∀e∈ [(⟨k,id,s.id,0,[]⟩:Ev)],e.kind≠1:=fun e g=>by simp at g;subst g;simp only;omega
  have sub:=Mk (id:=s.id) b.aA;exact⟨n.quiet d,j.sublist sub,fun t c=>f t (sub.subset c),fun t c=>by rw[nv,pf d];exact l t (sub.subset c),by rw[nv,pf d];exact q⟩
 |exp s r u x=>
  have d:∀e∈ [(⟨4,id,s.id,0,[]⟩:Ev)],e.kind≠1:=fun e g=>by simp at g;subst g;simp
  rw[u]at j f l;exact⟨n.quiet d,(ahg.1 j).2,fun t c=>f t (aiO _ c),fun t c=>by rw[nv,pf d];exact l t (aiO _ c),by rw[nv,pf d];exact q⟩
 |cH s r a u x=>
  rw[aeU];rw[u]at j f l;have hp:=ahg.1 j;refine⟨n,ahg.2 ⟨hp.1,hp.2⟩,fun t c=>?_,fun t c m=>?_,q⟩
  .rcases aeM.1 c with rfl|c
   .exact f s (ajz ..)
   .exact f t (aiO _ c)
  .rcases aeM.1 c with rfl|c
   .rw[x]at m;cases m
   .exact l t (aiO _ c) m
 |opens i need A=>
  have d:∀e∈ [(⟨0,id,i,0,need⟩:Ev)],e.kind≠1:=fun e g=>by simp at g;subst g;simp
  refine⟨n.quiet d,?_,fun t c=>?_,fun t c m=>?_,by rw[nv,pf d];show _<=i;omega⟩
  .refine List.pairwise_append.2 ⟨j,by simp,fun s o t c=>?_⟩;simp at c;subst c;have:=f s o;simp only;omega
  .rcases ain.1 c with c|c
   .have:=f t c;show _<=i;omega
   .simp at c;subst c;exact aka _
  .rw[nv,pf d];rcases ain.1 c with c|c
   .exact l t c m
   .simp at c;subst c;simp only;omega
 |gone p=>
  have d:∀e∈((b.aA.filter (bZ p)).map fun s=>(⟨5,id,s.id,0,[]⟩:Ev)),e.kind≠1:=fun e g=>by obtain⟨s,_,rfl⟩:=aiK.1 g;simp
  have sub:(b.aA.filter fun s=>!bZ p s).Sublist b.aA:=List.filter_sublist;exact⟨n.quiet d,j.sublist sub,fun t c=>f t (sub.subset c),fun t c=>by rw[nv,pf d];exact l t (sub.subset c),by rw[nv,pf d];exact q⟩
def abe{id:Int}(h:GI E b)(a:kV id b es b'):GI (E++es) b':=by
 induction a with
 |nil=>rw[aeU];exact h
 |step e c d=>rw[<-aiu];exact gi_step d c
def qv(k:Int->Bool)(i:Int)(E:List Ev):Nat:=E.countP fun e=>k e.kind&&decide (e.id=i)
def Br(k:Int):Bool:=decide (k=0)
def GK(k:Int):Bool:=decide (k=1)
def AT(k:Int):Bool:=decide (2<=k)&&decide (k<=5)
def CA(P:List Ev)(e:Ev):Prop:=1<=e.kind->e.kind<=5->qv Br e.id P=1/\qv AT e.id P=0/\qv GK e.id P=(if e.kind=2\/e.kind=4 then 1 else 0)
structure AI(E:List Ev)(b:cd):Prop where
 o:kg CA E
 p:b.aA.Pairwise fun s t=>s.id<t.id
 l:∀s∈b.aA,s.id<=b.last
 s:∀s∈b.aA,qv Br s.id E=1/\qv AT s.id E=0/\qv GK s.id E=(if s.state=1 then 1 else 0)
 z:∀i,b.last<i->qv Br i E=0/\qv AT i E=0/\qv GK i E=0
def aei{id:Int}(h:ow id b es b'):∀e∈es,e.node=id:=by
 cases h with
 |quiet _ c=>exact fun e a=>(c e a).2
 |gone p=>exact fun e a=>by obtain⟨s,_,rfl⟩:=aiK.1 a;rfl
 |cH=>exact fun e a=>by simp at a
 |_=>exact fun e a=>by simp at a;subst a;rfl
def Sc{id:Int}(h:kV id b es b'):∀e∈es,e.node=id:=by
 induction h with
 |nil=>exact fun e a=>by simp at a
 |step f c d=>
   intro e a;rcases ain.1 a with h|h
   .exact d e h
   .exact aei c e h
end
section
variable{P:Pp}{T:Nat}{K:Cl}{e:Int}
def wG:x9:=⟨fun _ _ _ h=>(Ow h).2.1,fun _ _ _ _ h=>(PZ h).2.1⟩
def MM{s:Bool}{k:Int}{b:bx}(h:P.look s k=some b):b∈P.q (!s):=by
 unfold Pp.look dV at h;split at h
 .cases h
 .exact aiJ h
def Nk(h:dO P)(s:Bool)(k:Int):dO (P.je s k).1/\(P.je s k).1.dR=P.dR:=by
 unfold Pp.je;split
 .exact ⟨h,rfl⟩
 .exact ⟨h.cut s k,rfl⟩
def PO(h:dO P)(s:Bool)(k:Int):dO (P.double s k).1/\(P.double s k).1.dR=P.dR:=by
 unfold Pp.double;split
 .exact ⟨h,rfl⟩
 .rename_i b c;refine⟨DP h _ ?_ ?_,rfl⟩
  .unfold nP;have:=h.q (!s);split
   .simp;omega
   .exact this
  .unfold nP;split
   .intro t d;rcases ain.1 d with a|a
    .exact h.b _ t a
    .simp at a;rw[a];exact h.b _ b (MM c)
   .exact h.b _
def acN(s:bx)(k:Int):(xQ s k).length=s.length:=by simp[xQ]
def Mw(h:dO P)(s:Bool)(k c:Int):dO (P.flip s k c).1/\(P.flip s k c).1.dR=P.dR:=by
 unfold Pp.flip;split
 .exact ⟨h,rfl⟩
 .rename_i b d;split
  .exact ⟨h,rfl⟩
  .refine ⟨DP h _ (by simpa using h.q (!s)) fun t e=>?_,rfl⟩;rcases ak4 e with a|a
   .exact h.b _ t a
   .rw[a,acN];exact h.b _ b (MM d)
def EW(h:dL T K)(a b:Nat)(hp:dO P)(c:P.dR=(K.pipe a b).dR):dL T (K.eR a b P):=Ao h a b hp fun s=>by rw[c];exact h.g _ _ s
def JL{T:Nat}(a:Nat):∀(l:List Nat) (K:Cl),dL T K->dL T (kY a l K)/\(kY a l K).nodes=K.nodes
 |[],K,h=>⟨h,rfl⟩
 |b::l,K,h=>JL a l _ (EW h a b (O7 (h.i.pipe a b) (cT a b)) rfl)
def Jy{T:Nat}(a:Nat):∀(l:List Nat) (r:Cl×Nat),dL T r.1->dL T (iq a l r).1/\(iq a l r).1.nodes=r.1.nodes
 |[],r,h=>⟨h,rfl⟩
 |b::l,r,h=>Jy a l (r.1.vT a b,_) (EW h a b (BS (h.i.pipe a b) (cT a b)).1 rfl)
def vR(h:dL T K)(a b:Int)(f:Pp->Bool->Pp×Bool)(c:∀P s,dO P->dO (f P s).1/\(f P s).1.dR=P.dR):dL T (K.qY a b f).1/\(K.qY a b f).1.nodes=K.nodes:=by
 unfold Cl.qY;split
 .have ⟨d,e⟩:=c (K.pipe b.toNat a.toNat) (cT b.toNat a.toNat) (h.i.pipe _ _);exact⟨EW h _ _ d e,rfl⟩
 .exact ⟨h,rfl⟩
def TC{b:Cl}(h:dL T K)(z:T<=800000000){x y k:Int}{l:List Ev}(a:K.Comes x y k b l e):dL (T+9001) b/\b.nodes.length=K.nodes.length:=by
 unfold Cl.Comes at a;split at a
 .obtain ⟨rfl,_⟩:=a;exact⟨h.mono (by omega),rfl⟩
 rename_i o
 obtain⟨j,m⟩:∃j,K.look x y k=some j:=by
  cases p:K.look x y k with
  |none=>exact absurd p o
  |some s=>exact⟨s,rfl⟩
 obtain⟨u,v,rfl,rfl,A⟩:=qO (vp h.i m).1;have q:v<K.nodes.length:=by have:=(vp h.i m).1.2.1.2;omega
 have n:dL (T+1) (K.eR v u ((K.pipe v u).jk (cT v u) k).1):=Ao (h.mono (by omega)) v u (Dc (h.i.pipe v u) _ _) fun s=>ai5 (HC _ _ _ _) (by have:=h.g (min v u) (max v u) s;show(K.pp _ _).dR s+1<=_;omega);simp only[ais]at a;split at a
 .obtain ⟨rfl,_⟩:=a;have⟨c,f⟩:=qT n v;exact⟨c.mono (by omega),by rw[f];rfl⟩
 .obtain ⟨d,r,rfl⟩:=a;have⟨c,f⟩:=CP wG n (by omega) (show v< (K.eR v u _).nodes.length from q) r;have⟨t,w⟩:=qT c v;exact⟨t.mono (by omega),by rw[w,f];rfl⟩
def agW{d:Cl}(h:dL T K)(i:T<=800000000){x:LA}{s:List Ev}(a:K.rE x d s e):dL (T+9001) d/\d.nodes.length=K.nodes.length:=by
 unfold Cl.rE at a;split at a
 .have ⟨b,c⟩:=Lm wG h (by omega) a;exact⟨b.mono (by omega),c⟩
 split at a
 .unfold Cl.tP at a;split at a
  .obtain ⟨rfl,_⟩:=a;exact⟨h.mono (by omega),rfl⟩
  .have ⟨b,c⟩:=JL x.A.toNat (others K.nodes.length x.A.toNat) K h;have⟨f,g⟩:=Lm wG b (by omega) a;exact⟨f.mono (by omega),by rw[g,c]⟩
 split at a
 .obtain ⟨rfl,_⟩:=a;unfold Cl.goes;split
  .exact ⟨h.mono (by omega),rfl⟩
  .simp only;rw[wY];have⟨b,c⟩:=qT h x.A.toNat;have⟨f,g⟩:=Jy x.A.toNat (others K.nodes.length x.A.toNat) (K.flush x.A.toNat,0) b;exact⟨f.mono (by omega),by rw[g,c]⟩
 split at a
 .exact TC h i a
 split at a
 .obtain ⟨rfl,_⟩:=a;have⟨b,c⟩:=vR h x.A x.B (fun p s=>p.je s x.N) fun P s hp=>Nk hp s _;exact⟨b.mono (by omega),congrArg _ c⟩
 split at a
 .obtain ⟨rfl,_⟩:=a;have⟨b,c⟩:=vR h x.A x.B (fun p s=>p.double s x.N) fun P s hp=>PO hp s _;exact⟨b.mono (by omega),congrArg _ c⟩
 .obtain ⟨rfl,_⟩:=a;have⟨b,c⟩:=vR h x.A x.B (fun p s=>p.flip s x.N x.X) fun P s hp=>Mw hp s _ _;exact⟨b.mono (by omega),congrArg _ c⟩
end
section
structure mZ where
 win:Int
 fy:Int
 wait:Int
 room:Int
 hold:Int
def fU(r:mZ):List ab:=[I r.win,I r.fy,I r.wait,I r.room,I r.hold]
def bQ(g:Gr):List ab:=[I g.n,.aj (g.bw.map du)]
def zx(g:Gr):cy (bQ g)=true:=by simp[bQ,cy,bC,jU]
def TW(r:mZ):cy (fU r)=true:=rfl
def Ng(g:Gr)(r:mZ)(K:Cl):Prop:= ∀H c, ∃b d a,aO tz ay 16 [.agg (bQ g),.agg (fU r)] H=some (.aM [au b,aa 0],a)/\bJ a d b K/\aH (fun _=>False) c d H a
def UK(g:Gr)(h:g.bw.length<=400):aS tz ay 1 17 [.agg (bQ g)]=some (.agg (bQ g),[]):=by
 refine be func17 rfl ?_;have c:g.bw.length<=maxLen:=by unfold maxLen;omega
 have d:g.bw.length*16<=140737488355328:=by omega
 have e:(g.bw=[]/\0<g.bw.length)=False:=eq_false fun⟨a,b⟩=>by rw[a]at b;simp at b
 have f:(∀a:Edge,a∈g.bw->(du a).length=2)=True:=eq_true fun _ _=>rfl;simp[f17,bQ,c,d,e,f]
def c17(H:List Ob)(g:Gr)(a:g.bw.length<=400):aO tz ay 17 [.agg (bQ g)] H=some (.agg (bQ g),H):=by
 have b:=UK g a;have c:df H (.agg (bQ g))=some (.agg (bQ g),[]):=by simp only[df,mR (zx g)];rfl
 rw[aD,if_neg (by simp[eO])];simp only[dy,c,kU,show tz.md 17=1 from rfl,aeU];rw[b,jP];simp[ei,eN,dZ,bQ]
def adY:ry aaG 31=true:=by kernel_rfl
def bJ.ob{H:List Ob}{c:Nat->aU}{b:Nat}{K:Cl}(h:bJ H c b K):∃r,H[b]?=some (ah 8 r):=by have⟨q,mp,mt,a,d,h⟩:=h;exact⟨_,h.hb⟩
def wz(K:Cl)(x:Int)(n:Nat):List Nat:=(aiZ n).map fun(i:Nat)=>(K.jD x (i:Int)).length
def aa4(K:Cl)(x:Int)(n:Nat):((wz K x n).map fun n:Nat=>aC n)=(K.lN x n).map aC:=by simp[wz,Cl.lN]
def zI(x:LA):LA:=⟨min (max x.K 0) 6,x.A,x.B,x.N,x.X,x.d⟩
def xE(K a:Cl)(x:LA)(n:Nat)(l:List jj):List jj:=l++wB a x.A (if x.K=2 then wz K x.A n else [])
abbrev GJ:aU->Prop:=fun k=>Gx k\/k= .cl 10
abbrev GA:aU->Prop:=fun k=>Gx k\/k= .cl 9\/k= .cl 10
def E9(g:Gr)(R:List (List ab))(gc:Nat)(caps:List ab)(b j:Nat)(q:ab)(h:Nat):Env:=[(4,.c (.aJ [bQ g] 0 0)),(2,bh R),(3,.c (.bF gc caps)),(11,au b),(14,aa j),(13,.c q),(15,au h)]
section
variable{σ:Type}{g:Gr}{r:mZ}{acts:List LA}{gc:Nat}{caps:List ab}{K0:Cl}
 {J:σ->List Ob->(Nat->aU)->Prop} {Inv:Nat->Cl->List jj->σ->Prop}
def c9(hN:Ng g r K0)(F:dL 0 K0)(hn:K0.nodes.length=g.n.toNat)(b2:0<=g.n)(bv:g.bw.length<=400)(ha:acts.length<=100)(bx:∀x∈acts,x.d.need.length<=20)
  (P:∀s H D c q,J s H c->aH G9 c q H D->J s D q)
  (hS:∀j K l s x w ev af le b z H c,j<100->Inv j K l s->dL 1000000 K->x∈acts.map zI-> ¬(x.K=3/\rL K l x=true)->K.rE x w ev af->lY le ev->bJ H c b w->J s H c->
   ∃s' q D,aO tz (bB tz (Go.Nx.ev tz)) gc ([au b,.agg (cM x),.c le,aa af,aR z]++caps.map .c) H=some (aR true,D)/\bJ D q b w/\aH GJ c q H D/\J s' D q/\Inv (j+1) w (xE K w x g.n.toNat l) s')
  (s0:σ) (h0:Inv 0 K0 [] s0) (H:List Ob) (c:Nat->aU) (a6:J s0 H c):
  ∃p z s q D,aO tz (bB tz (Go.Nx.ev tz)) 9 [.agg (bQ g),.agg (fU r),bh (acts.map cM),.c (.bF gc caps)] H=some (.aM [.c p,aR true,aR z],D)/\J s D q/\(∃j K l,j<=100/\Inv j K l s)/\aH GA c q H D:=by
 obtain⟨rr,D,h1,p,z,s,q,rfl,Y⟩:=cG (C:=tz) (f:=9) (args:=[.agg (bQ g),.agg (fU r),bh (acts.map cM),.c (.bF gc caps)]) (H:=H) (fun r D=>∃p z s q,r= .aM [.c p,aR true,aR z]/\J s D q/\(∃j K l,j<=100/\Inv j K l s)/\aH GA c q H D) func9 rfl (by
  simp only[f9,cr]
  have⟨R,hR⟩:=ak (acts.map cM)
  have a7:R.length=acts.length:=by rw[<-hR];simp
  have bz:∀j (hj:j<acts.length),R[j]?=some (cM acts[j]):=fun j hj=>by rw[<-hR,adf,abM hj];rfl
  rw[hR]
  refine bp [(4,.c (.aJ [bQ g] 0 0)),(5,.c (.aJ [fU r] 0 0)),(2,bh R),(3,.c (.bF gc caps))] (fun G=>G=H) ?_ ?_
  .simp[bQ,fU]
  rintro E G⟨d,a5,e,k,_⟩M
  obtain rfl:H=G:=M.symm
  have⟨b,c1,y,a8,k1,s1⟩:=hN H c
  have a9:=c17 H g bv
  have eg:=zx g
  refine bp [(4,.c (.aJ [bQ g] 0 0)),(2,bh R),(3,.c (.bF gc caps)),(11,au b),(12,aa 0)] (fun G=>G=y) ?_ ?_
  .simp only[bQ,fU]at a8 a9 d a5|-
   simp[-aD,d,a5,e,k,a8,a9]
  rintro E G⟨d,e,k,n,bA,_⟩M
  obtain rfl:y=G:=M.symm
  refine bp [(4,.c (.aJ [bQ g] 0 0)),(2,bh R),(3,.c (.bF gc caps)),(11,au b)] (fun G=>G=y) ?_ ?_
  .have ⟨rb,hb⟩:=k1.ob
   simp[-getElem?_pos,d,e,k,n,bA,adY,hb,ll]
  rintro E G⟨d,e,k,n,_⟩M
  obtain rfl:y=G:=M.symm
  have ax:aH (fun _=>False) c1 (ext c1 y.length (.cl 9)) y (y++[ah 3 []]):=aH.of _ (by simp) fun m hm _=>abE hm
  refine bp [(4,.c (.aJ [bQ g] 0 0)),(2,bh R),(3,.c (.bF gc caps)),(11,au b),(13,bd y.length 0 0 0)] (fun G=>G=y++[ah 3 []]) ?_ ?_
  .simp[d,e,k,n]
  rintro E G⟨d,e,k,n,o,_⟩M
  have k2:bJ G (ext c1 y.length (.cl 9)) b K0:=by rw[M];exact k1.aK ax fun _ h=>h.elim
  have r2:iH G (ext c1 y.length (.cl 9)) (.cl 9) 3 (.sl y.length 0 0 0) (([]:List jj).map eW):=⟨y.length,0,rfl,by rw[M];simp,jr (ad3 _)⟩
  have s2:aH GA c (ext c1 y.length (.cl 9)) H G:=by rw[M];exact(s1.trans ax).mono fun _ h=>h.elim
  have j2:J s0 G (ext c1 y.length (.cl 9)):=by rw[M];exact P _ _ _ _ _ a6 ((s1.trans ax).mono fun _ h=>h.elim)
  clear M ax
  rw[iM]
  refine Ends.sq ?_
  refine bp [(4,.c (.aJ [bQ g] 0 0)),(2,bh R),(3,.c (.bF gc caps)),(11,au b),(14,aa (0:Nat)),(13,bd y.length 0 0 0)] (fun aq=>aq=G) ?_ ?_
  .simp[d,e,k,n,o]
  rintro E G2 a aV
  obtain rfl:G=G2:=aV.symm
  rw[eC]
  refine Ends.bl (gM (fun p:Nat×ab=>[(4,.c (.aJ [bQ g] 0 0)),(2,bh R),(3,.c (.bF gc caps)),(11,au b),(14,aa p.1),(13,.c p.2)]) (fun p G=>p.1<=acts.length/\∃K l s q,Inv p.1 K l s/\dL (9001*p.1) K/\K.nodes.length=g.n.toNat/\l.length<=1000000*p.1/\iH G q (.cl 9) 3 p.2 (l.map eW)/\bJ G q b K/\J s G q/\aH GA c q H G) [] (fun p=>acts.length-p.1) _ [4,2,3,11,14,13] (fun _=>rfl) ?_ (0,.sl y.length 0 0 0) _ a ⟨by omega,K0,[],s0,_,h0,by simpa using F,hn,by simp,r2,k2,j2,s2⟩ rfl)
  clear a r2 k2 j2 s2 d e k n o F hn h0 a6
  rintro⟨j,am⟩⟨E,G,ds⟩a⟨g2,K,l,s,c2,hI,F,hn,hl,r2,k2,j2,s2⟩g6
  simp only at a g2 F hl r2 g6
  subst g6
  simp at a
  have⟨d,e,k,n,u,o⟩:=a
  by_cases ay:j<acts.length
  case neg=>
   simp[-getElem?_pos,d,e,k,n,u,o,ay,a7]
   exact⟨s,c2,j2,⟨j,by omega,K,l,hI⟩,s2⟩
  refine bp [(4,.c (.aJ [bQ g] 0 0)),(2,bh R),(3,.c (.bF gc caps)),(11,au b),(14,aa j),(13,.c am)] (fun aq=>aq=G) ?_ ?_
  .simp[d,e,k,n,u,o,ay,a7]
  rintro E G2 a aV
  obtain rfl:G=G2:=aV.symm
  simp at a
  have⟨d,e,k,n,u,o⟩:=a
  rw[iM]
  refine Ends.sq ?_
  rw[eC]
  refine Ends.bl ?_
  have⟨x,hx⟩:=ak acts[j]
  have ba:x∈acts:=by rw[<-hx];exact aix ay
  have bC:=bx x ba
  have aW:=bz j ay
  rw[hx]at aW
  have bD:j<R.length:=by omega
  have Z:aH (fun _=>False) c2 (ext c2 G.length .none) G (G++[ah 10 [cM (zI x)]]):=aH.of _ (by simp) fun m hm _=>abE hm
  rw[fQ]
  have⟨X,hX⟩:=ak (zI x)
  have bE:X∈acts.map zI:=by rw[<-hX];exact aks ba
  have b3:X.d.need.length<=20:=by rw[<-hX];exact bC
  have bH:[I (min (max x.K 0) 6),I x.A,I x.B,I x.N,I x.X,I x.d.kind,I x.d.id,I x.d.peer,I x.d.hold,aG x.d.need]=cM X:=by rw[<-hX];rfl
  have⟨h,hh⟩:=ak G.length
  rw[hX,hh]at Z
  have L:(G++[Ob.live 0 10 [cM X]])[h]?=some (ah 10 [cM X]):=by rw[<-hh];simp
  have az:ext c2 h .none h= .none:=jr (ad3 _)
  refine bp (E9 g R gc caps b j am h) (fun aq=>aq=G++[ah 10 [cM X]]) ?_ ?_
  .rw[<-bH, <-hh]
   simp only[cM]at aW
   simp[-getElem?_pos,E9,d,e,k,n,u,o,aW,bD]
  clear d e k n u o
  rintro E G1 a bb
  rw[<-bb]at Z L
  have⟨c3,bc⟩:=ak (ext c2 h .none)
  rw[bc]at Z az
  have k3:=k2.aK Z fun _ h=>h.elim
  have r3:=r2.aK Z fun h=>h
  have j3:=P _ _ _ _ _ j2 (Z.mono fun _ h=>h.elim)
  have s3:aH GA c c3 H G1:=s2.trans (Z.mono fun _ h=>h.elim)
  clear bb Z k2 r2 j2 s2 bc
  have be:l.length<=1000000000:=by omega
  have⟨nl,Q⟩:=ak (aG X.d.need)
  by_cases hf:X.K=3/\rL K l X=true
  .have ⟨c4,H4,T,k4,N⟩:=Pc k3 F.i X l r3 be
   rw[hf.2]at T
   simp only[cM]at T L
   rw[hf.1,Q]at T L
   simp[E9]at a
   have⟨d,e,k,n,u,o,v⟩:=a
   simp[-aD,-getElem?_pos,d,e,k,n,u,o,v,L,T]
   exact⟨s,c4,P _ _ _ _ _ j3 (N.mono fun _ h=> .inl h),⟨j,by omega,K,l,hI⟩,s3.trans (N.mono fun _ h=> .inl h)⟩
  refine bp (E9 g R gc caps b j am h) (fun G=>∃c4,bJ G c4 b K/\aH Gx c3 c4 G1 G) ?_ ?_
  .simp[E9]at a
   have⟨d,e,k,n,u,o,v⟩:=a
   by_cases h3:X.K=3
   .have ⟨c4,H4,T,k4,N⟩:=Pc k3 F.i X l r3 be
    have bI:rL K l X=false:=by
     cases hh:rL K l X with
     |false=>rfl
     |true=>exact absurd ⟨h3,hh⟩ hf
    rw[bI]at T
    simp only[cM]at T L
    rw[h3,Q]at T L
    simp[-aD,-getElem?_pos,E9,d,e,k,n,u,o,v,L,T]
    exact⟨c4,k4,N⟩
   .simp only[cM]at L
    rw[Q]at L
    simp[-aD,-getElem?_pos,E9,d,e,k,n,u,o,v,L,h3]
    exact⟨c3,k3,aH.refl _ _ _⟩
  rintro E G2 a⟨c4,k4,N⟩
  have⟨an,aA⟩:=N.get L (by rw[az];simp[Lw])
  rw[az]at aA
  have r4:=r3.aK N (by simp[Lw])
  have j4:=P _ _ _ _ _ j3 (N.mono fun _ h=> .inl h)
  have s5:aH GA c c4 H G2:=s3.trans (N.mono fun _ h=> .inl h)
  clear L az k3 r3 j3 s3 N
  have bK:(K.oY X.A X.B).length<=1000000:=by
   unfold Cl.oY
   split
   .have:=F.t X.A.toNat X.B.toNat;omega
   .simp
  have⟨bL,c5,U,ad,ms,k5,t5⟩:=Nj k4 X.A X.B bK
  have⟨m,hm⟩:=ak ((K.oY X.A X.B).length)
  have⟨aB,aX⟩:=t5.get an (by rw[aA];simp[Lw])
  rw[aA]at aX
  have t6:aH (fun _=>False) c5 (ext c5 U.length .none) U (U++[ah 1 []]):=aH.of _ (by simp) fun m hm _=>abE hm
  refine bp (E9 g R gc caps b j am h++[(16,aa m),(17,bd U.length 0 0 0)]) (fun G=>G=U++[ah 1 []]) ?_ ?_
  .simp[E9]at a
   have⟨d,e,k,n,u,o,v⟩:=a
   simp only[cM]at an
   rw[Q]at an
   rcases ms with⟨bg,rfl⟩|⟨hq,vq,rfl,aY,_⟩
   .have:m=0:=by rw[<-hm,bg];rfl
    subst this
    simp[-aD,-getElem?_pos,E9,d,e,k,n,u,o,v,an,ad]
   .rw[hm]at ad
    have bM:m<=((K.oY X.A X.B).map br).length:=by rw[aio,hm];exact ad3 _
    simp[-aD,-getElem?_pos,E9,d,e,k,n,u,o,v,an,ad,aY,hm]
  clear a
  rintro E G3 a aE
  have ag:G3[h]?=some (ah 10 [cM X]):=by rw[aE,abE (bf aB)];exact aB
  have⟨z5,aZ⟩:=ak U.length
  have w3:iH G3 (ext c5 U.length .none) .none 1 (.sl z5 0 0 0) (([]:List Nat).map fun a0:Nat=>aC a0):=⟨z5,0,rfl,by rw[aE, <-aZ];simp,by rw[<-aZ];exact jr (ad3 _)⟩
  rw[<-aE]at t6
  have aF:ext c5 U.length .none h= .none:=by rw[jf (bf aB)];exact aX
  have⟨c6,bi⟩:=ak (ext c5 U.length .none)
  rw[bi]at t6 w3 aF
  rw[aZ]at a
  have t7:aH Gx c4 c6 G2 G3:=t5.trans (t6.mono fun _ h=>h.elim)
  have k6:=k5.aK t6 fun _ h=>h.elim
  have r6:=r4.aK t7 (by simp[Lw])
  have j6:=P _ _ _ _ _ j4 (t7.mono fun _ h=> .inl h)
  have s6:aH GA c c6 H G3:=s5.trans (t7.mono fun _ h=> .inl h)
  clear an aA k4 r4 j4 s5 ad ms k5 t5 aB aX t6 t7 bi aE
  have⟨ai,bj⟩:=ak g.n.toNat
  have bk:g.n=(ai:Int):=by omega
  have bm:ai<=1000:=by rw[<-bj, <-hn];exact F.i.n
  have⟨V,ao⟩:=ak (if X.K=2 then wz K X.A ai else [])
  have bN:V.length<=1000:=by
   rw[<-ao];split
   .simpa[wz]using bm
   .simp
  refine eh (fun S=>S.bG=[]/\∃aI q,Has S.env (E9 g R gc caps b j am h++[(16,aa m),(17,.c aI)])/\iH S.heap q .none 1 aI (V.map fun a0:Nat=>aC a0)/\bJ S.heap q b K/\aH Gx c6 q G3 S.heap) ?_ ?_
  .simp[E9]at a
   have⟨d,e,k,n,u,o,v,O,ap⟩:=a
   simp only[cM]at ag
   rw[Q]at ag
   by_cases Y:X.K=2
   .have ⟨b4,c7,H7,bO,w7,k7,s7⟩:=c29 k6 F.i X.A ai bm
    rw[if_pos Y]at ao
    rw[<-aa4,ao]at w7
    simp only[bQ,bk]at d
    rw[Y]at ag
    simp[-aD,-getElem?_pos,-ajc,E9,d,e,k,n,u,o,v,O,ap,ag,bO,bQ,bk]
    exact⟨c7,w7,k7,s7⟩
   .rw[if_neg Y]at ao
    rw[ao]at w3
    simp[-aD,-getElem?_pos,-ajc,E9,d,e,k,n,u,o,v,O,ap,ag,Y]
    exact⟨c6,w3,k6,aH.refl _ _ _⟩
  clear a w3
  rintro⟨E,G4,ds⟩⟨rfl,aI,c7,a,w7,k7,s7⟩
  simp only at a w7 k7 s7
  have⟨ar,aL⟩:=s7.get ag (by rw[aF];simp[Lw])
  rw[aF]at aL
  have r7:=r6.aK s7 (by simp[Lw])
  have j7:=P _ _ _ _ _ j6 (s7.mono fun _ h=> .inl h)
  have s8:aH GA c c7 H G4:=s6.trans (s7.mono fun _ h=> .inl h)
  clear ag aF k6 r6 j6 s6 s7
  have hT:9001*j<=900100:=by omega
  have⟨c8,H8,w,sv,af,le,aN,hA,bP,k8,s9⟩:=xF wG k7 F (by omega) X (by omega)
  have⟨aP,bR⟩:=agW F (by omega) hA
  have⟨av,aQ⟩:=s9.get ar (by rw[aL];simp[Lw])
  rw[aL]at aQ
  have r8:=r7.aK s9 (by simp[Lw])
  have w8:=w7.aK s9 (by simp[Lw])
  have j8:=P _ _ _ _ _ j7 (s9.mono fun _ h=> .inl h)
  have bn:aH GA c c8 H H8:=s8.trans (s9.mono fun _ h=> .inl h)
  refine bp (E9 g R gc caps b j am h++[(16,aa m),(17,.c aI),(18,.c le),(19,aa af)]) (fun G=>G=H8) ?_ ?_
  .simp[E9]at a
   have⟨d,e,k,n,u,o,v,O,ap⟩:=a
   simp only[cM]at ar aN
   rw[Q]at ar aN
   simp[-aD,-getElem?_pos,-ajc,E9,d,e,k,n,u,o,v,O,ap,ar,aN]
  clear a ar aL k7 r7 w7 j7 s8 s9 aN
  rintro E G5 a a1
  obtain rfl:H8=G5:=a1.symm
  have⟨q9,c9,H9,bo,r9,k9,aS⟩:=xp k8 aP.i X.A l V r8 w8 bN (by omega)
  have⟨ae,aT⟩:=aS.get av (by rw[aQ];simp[Lw])
  rw[aQ]at aT
  have j9:=P _ _ _ _ _ j8 aS
  have bq:aH GA c c9 H H9:=bn.trans (aS.mono fun _ h=>by rcases h with h|h;exact .inl h;exact .inr (.inl h))
  have bs:xE K w X ai l=l++wB w X.A V:=by unfold xE;rw[ao]
  rw[<-bs]at r9
  refine bp (E9 g R gc caps b j q9 h++[(16,aa m),(18,.c le),(19,aa af)]) (fun G=>G=H9) ?_ ?_
  .simp[E9]at a
   have⟨d,e,k,n,u,o,v,O,ap,aj,al⟩:=a
   simp only[cM]at av
   rw[Q]at av
   simp[-aD,-getElem?_pos,-ajc,E9,d,e,k,n,u,o,v,O,ap,aj,al,av,bo]
  clear a av aQ k8 r8 w8 j8 bn aS bo
  rintro E G5 a a1
  obtain rfl:H9=G5:=a1.symm
  have bS:(w.oY X.A X.B).length<=1000000:=by
   unfold Cl.oY
   split
   .have:=aP.t X.A.toNat X.B.toNat;omega
   .simp
  refine eh (fun S=>S.bG=[]/\∃z q,Has S.env (E9 g R gc caps b j q9 h++[(18,.c le),(19,aa af),(20,aR z)])/\bJ S.heap q b w/\aH Gx c9 q H9 S.heap) ?_ ?_
  .simp[E9]at a
   have⟨d,e,k,n,u,o,v,O,aj,al⟩:=a
   simp only[cM]at ae
   rw[Q]at ae
   by_cases h3:X.K=3
   .have ⟨bL,oO,b5,ad,ms,aw,W⟩:=Nj k9 X.A X.B bS
    have⟨m',a2⟩:=ak ((w.oY X.A X.B).length)
    rw[h3]at ae
    rcases ms with⟨bg,rfl⟩|⟨hq,vq,rfl,aY,_⟩
    .simp[-aD,-getElem?_pos,-ajc,E9,d,e,k,n,u,o,v,O,aj,al,ae,ad]
     exact⟨by omega,oO,aw,W⟩
    .rw[a2]at ad
     have bM:m'<=((w.oY X.A X.B).map br).length:=by rw[aio,a2];exact ad3 _
     simp[-aD,-getElem?_pos,-ajc,E9,d,e,k,n,u,o,v,O,aj,al,ae,ad,aY,a2]
     exact⟨by omega,oO,aw,W⟩
   .simp[-aD,-getElem?_pos,-ajc,E9,d,e,k,n,u,o,v,O,aj,al,ae,h3]
    exact⟨c9,k9,aH.refl _ _ _⟩
  clear a
  rintro⟨E,G6,ds⟩⟨rfl,z,oO,a,aw,W⟩
  simp only at a aw W
  have⟨a3,bT⟩:=W.get ae (by rw[aT];simp[Lw])
  rw[aT]at bT
  have bU:=r9.aK W (by simp[Lw])
  have bV:=P _ _ _ _ _ j9 (W.mono fun _ h=> .inl h)
  have bW:aH GA c oO H G6:=bq.trans (W.mono fun _ h=> .inl h)
  clear ae aT k9 r9 j9 bq W
  have⟨s',ld,b6,a4,bX,bt,bY,bu⟩:=hS j K l s X w sv af le b z G6 oO (by omega) hI (F.mono (by omega)) bE hf hA bP aw bV
  have bZ:=bU.aK bt (by simp[Lw])
  rw[bj]at bu
  simp[E9]at a
  have⟨d,e,k,n,u,o,v,aj,al,b0⟩:=a
  simp only[cM,ai7,aiD]at a3 a4
  rw[Q]at a3 a4
  have hw:adW.wrap ((j:Int)+1)=((j+1:Nat):Int):=cv (by omega)
  simp[-aD,-getElem?_pos,-ajc,-ad0,E9,d,e,k,n,u,o,v,aj,al,b0,a3,a4,hw]
  have b1:(xE K w X ai l).length<=1000000*(j+1):=by
   rw[bs,agc]
   have:=P2 aP.i X.A V V.length
   have Y:wB w X.A V=ku w X.A V V.length:=rfl
   rw[Y]
   omega
  exact⟨j+1,by omega,q9,⟨rfl,rfl⟩,by omega,w,xE K w X ai l,s',bu,aP.mono (by omega),by rw[bR,hn],b1,ld,bZ,bX,bY,bW.trans (bt.mono fun _ h=>by rcases h with h|h;exact .inl h;exact .inr (.inr h))⟩)
 exact⟨p,z,s,q,D,dK (by simp) h1,Y⟩
end
end
section
variable [W]
def Zr(x y:Edge):aS tz ay 0 40 [.agg (du x),.agg (du y)]=some (aR (nX x y),[]):=by
 refine be func40 rfl ?_;unfold nX;by_cases b:x.a<y.a
 .simp[f40,du,b]
 by_cases c:x.a=y.a;all_goals simp[f40,du,b,c]
def oF(a b:Int):Int:=if a<b then -1 else if a>b then 1 else 0
def Mg(a:Int):aS tz ay 0 340 [aa a]=some (aR false,[]):=by refine be func340 rfl ?_;simp[f340]
def abo(a b:Int):aS tz ay 0 334 [aa a,aa b]=some (aa (oF a b),[]):=by
 refine be func334 rfl ?_;unfold oF;by_cases c:a<b
 .simp[f334,Mg,c]
 by_cases d:a>b;all_goals simp[f334,Mg,c,d]
def XT(a b:Int):aS tz ay 0 333 [bh [[I a],[I b]]]=some (aa (if a=0 then b else a),[]):=by
 refine be func333 rfl ?_;simp only[f333,cr];refine bp [(0,bh [[I a],[I b]]),(2,aa 0)] (fun G=>G=[]) ?_ ?_
 .simp
 rintro g G⟨i,k,_⟩rfl;refine bp [(0,bh [[I a],[I b]]),(2,aa 0),(3,aa 0)] (fun G=>G=[]) ?_ ?_
 .simp[i,k]
 rintro g G⟨i,k,l,_⟩rfl;rw[iM];refine Ends.sq ?_;refine bp [(3,aa 0),(6,bh [[I a],[I b]]),(7,aa 2),(8,aa (0:Nat))] (fun G=>G=[]) ?_ ?_
 .simp[i,k,l]
 rintro g G m rfl;rw[eC];refine iv (fun j:Nat=>[(3,aa 0),(6,bh [[I a],[I b]]),(7,aa 2),(8,aa j)]) (fun j G=>G=[]/\(j=0\/j=1/\a=0\/j=2/\a=0/\b=0)) (fun j=>2-j) ?_ 0 m ⟨rfl,.inl rfl⟩ fun _=>rfl;rintro j g G ⟨c,d,e,f,_⟩ ⟨rfl,n⟩;rcases n with rfl|⟨rfl,rfl⟩|⟨rfl,rfl,rfl⟩
 .by_cases h:a=0
  .subst h;simp[c,d,e,f];exact⟨1,by omega,rfl,by simp⟩
  .simp[c,d,e,f,h]
 .by_cases h:b=0
  .subst h;simp[c,d,e,f];exact⟨2,by omega,rfl,by simp⟩
  .simp[c,d,e,f,h]
 .simp[c,d,e,f]
def xe(x y:Edge):Int:=if oF x.a y.a=0 then oF x.b y.b else oF x.a y.a
def adV(x y:Edge):decide (0<=xe x y)=!nX x y:=by
 unfold xe oF nX;by_cases d:x.a<y.a
 .simp[d]
 by_cases c:x.a=y.a
 .by_cases e:x.b<y.b
  .simp[c,e]
  .by_cases f:x.b=y.b
   .simp[c,f]
   .have:y.b<x.b:=by omega
    simp[c,e,this]
 .have:y.a<x.a:=by omega
  simp[d,c,this]
def US(x y:Edge):aS tz ay 0 293 [.agg (du x),.agg (du y)]=some (aa (xe x y),[]):=by refine be func293 rfl ?_;have c:=XT (oF x.a y.a) (oF x.b y.b);have d:xe x y=if oF x.a y.a=0 then oF x.b y.b else oF x.a y.a:=rfl;rw[<-d]at c;simp[f293,du,abo,c]
def lK(g:Gr)(e:Edge):Bool:=decide (e.a<0)||decide (e.a>=e.b)||decide (e.b>=g.n)
def acL(g:Gr)(e:Edge):aS tz ay 0 291 [.agg (du e),.c (.aJ [bQ g] 0 0)]=some (aR (lK g e),[]):=by
 refine be func291 rfl ?_;unfold lK;by_cases d:e.a<0
 .simp[f291,du,bQ,d]
 by_cases f:e.a>=e.b
 .simp[f291,du,bQ,d,f]
 by_cases h:e.b>=g.n;all_goals simp[f291,du,bQ,d,f,h]
def LI:∀l:List Edge,uY l=true↔ ∀j (h:j+1<l.length),nX (l[j]'(by omega)) l[j+1]=true
 |[]=>by simp[uY]
 |[x]=>by simp[uY]
 |x::y::r=>by
  have b:=LI (y::r)
  unfold uY
  simp only[abR]
  rw[b]
  constructor
  .rintro⟨c,d⟩j a
   cases j with
   |zero=>exact c
   |succ j=>exact d j (by simp at a|-;omega)
  .intro h
   exact⟨h 0 (by simp),fun j a=>h (j+1) (by simp at a|-;omega)⟩
def nD(g:Gr):fa g=true↔0<=g.n/\g.n<=64/\g.bw.length<=400/\(∀j (h:j<g.bw.length),lK g g.bw[j]=false)/\∀j (h:j+1<g.bw.length),nX (g.bw[j]'(by omega)) g.bw[j+1]=true:=by
 unfold fa;simp only[abR,afa,decide_eq_false_iff_not,LI];constructor
 .rintro⟨⟨⟨⟨d,f⟩,i⟩,a⟩,b⟩;refine⟨by omega,by omega,by omega,fun j c=>?_,b⟩;rw[aja]at a;have:=a _ (aix c);unfold lK;simpa using this
 .rintro⟨d,f,i,a,b⟩;refine⟨⟨⟨⟨by omega,by omega⟩,by omega⟩,?_⟩,b⟩;rw[aja];intro e k;obtain⟨j,c,rfl⟩:=ajZ.1 k;have:=a j c;unfold lK at this;simpa using this
def uS{g:Gr}(h:¬(0<=g.n/\g.n<=64/\g.bw.length<=400/\(∀j (h:j<g.bw.length),lK g g.bw[j]=false)/\∀j (h:j+1<g.bw.length),nX (g.bw[j]'(by omega)) g.bw[j+1]=true)):fa g=false:=by
 cases a:fa g with
 |false=>rfl
 |true=>exact absurd ((nD g).1 a) h
def UU(g:Gr):aS tz ay 0 26 [.agg (bQ g)]=some (aR (fa g),[]):=by
 refine be func26 rfl ?_;simp only[f26,cr];have⟨R,A⟩:=ak (g.bw.map du);have⟨n,hn⟩:=ak g.bw.length;have l:R.length=n:=by rw[<-A];simpa using hn
 have H:∀j (B:j<g.bw.length),R[j]?=some (du g.bw[j]):=fun j B=>by rw[<-A,adf,abM B];rfl
 have P:bQ g=[I g.n,.aj R]:=by unfold bQ;rw[A]
 rw[P];refine bp [(1,.c (.aJ [[I g.n,.aj R]] 0 0)),(2,aR false)] (fun G=>G=[]) ?_ ?_
 .simp
 rintro C G⟨r,s,_⟩rfl;by_cases c:g.n<0\/64<g.n\/400<n
 .rw[uS (by omega)];by_cases c1:g.n<0
  .simp[r,s,c1]
  by_cases c2:64<g.n
  .simp[r,s,c1,c2]
  .have c3:(400:Int)<n:=by omega
   simp[r,s,c1,c2,l,c3]
 have c1:¬g.n<0:=by omega
 have c2:¬64<g.n:=by omega
 have c3:¬(400:Int)<n:=by omega
 refine bp [(1,.c (.aJ [[I g.n,.aj R]] 0 0)),(2,aR false)] (fun G=>G=[]) ?_ ?_
 .simp[r,s,c1,c2,l,c3]
 rintro C G⟨r,s,_⟩rfl;rw[iM];refine Ends.sq ?_;refine bp [(1,.c (.aJ [[I g.n,.aj R]] 0 0)),(3,aa (0:Nat))] (fun G=>G=[]) ?_ ?_
 .simp[r,s]
 rintro C G Q rfl;rw[eC];refine iv (fun j:Nat=>[(1,.c (.aJ [[I g.n,.aj R]] 0 0)),(3,aa j)]) (fun j _=>j<=n/\(∀i (h:i<g.bw.length),i<j->lK g g.bw[i]=false)/\∀i (h:i+1<g.bw.length),i+1<j->nX (g.bw[i]'(by omega)) g.bw[i+1]=true) (fun j=>n-j) ?_ 0 Q ⟨by omega,fun i _ h=>absurd h (by omega),fun i _ h=>absurd h (by omega)⟩ fun _=>rfl;rintro j C G ⟨o,p,_⟩ ⟨Z,J,K⟩;by_cases d:j<n
 case neg=>
  have B:j=n:=by omega
  have S:fa g=true:=(nD g).2 ⟨by omega,by omega,by omega,fun i q=>J i q (by omega),fun i q=>K i q (by omega)⟩;simp[o,p,d,l,S]
 have D:j<g.bw.length:=by omega
 have t:j<R.length:=by omega
 have m:=H j D;have⟨e,v⟩:=ak g.bw[j];rw[v]at m;simp only[du]at m;have T:adW.wrap ((j:Int)+1)=((j+1:Nat):Int):=cv (by omega);have E:lK g e=true->fa g=false:=fun h=>uS fun⟨_,_,_,U,_⟩=>by have:=U j D;rw[v,h]at this;cases this
 have x:lK g e=(decide (e.a<0)||decide (e.a>=e.b)||decide (e.b>=g.n)):=rfl;by_cases c4:e.a<0
 .rw[E (by rw[x];simp[c4])];simp[-getElem?_pos,-ad0,o,p,d,l,t,m,c4]
 by_cases c5:e.a>=e.b
 .rw[E (by rw[x];simp[c5])];simp[-getElem?_pos,-ad0,o,p,d,l,t,m,c4,c5]
 by_cases u:e.b>=g.n
 .rw[E (by rw[x];simp[u])];simp[-getElem?_pos,-ad0,o,p,d,l,t,m,c4,c5,u]
 have V:lK g e=false:=by rw[x];simp[c4,c5,u]
 have L:∀i (h:i<g.bw.length),i<j+1->lK g g.bw[i]=false:=fun i q W=>by
  by_cases h:i=j
  .subst h;rw[v];exact V
  .exact J i q (by omega)
 by_cases X:j=0
 .subst X;simp[-getElem?_pos,-ad0,o,p,d,l,t,m,c4,c5,u];exact⟨1,by omega,rfl,by omega,L,fun i _ h=>absurd h (by omega)⟩
 obtain⟨k,rfl⟩:∃k,j=k+1:=⟨j-1,by omega⟩;have y:=H k (by omega);have⟨f,F⟩:=ak (g.bw[k]'(by omega));rw[F]at y;simp only[du]at y;have M:adW.wrap (((k+1:Nat):Int)-1)=(k:Int):=by rw[fw (by omega) (by omega)];omega
 have N:k<n:=by omega
 have O:(0:Int)< ((k+1:Nat):Int):=by omega
 have w:=Zr f e;simp only[du]at w;cases z:nX f e with
 |false=>
  rw[uS fun⟨_,_,_,_,Y⟩=>by have:=Y k D;rw[v,F,z]at this;cases this]
  rw[z]at w;simp[-getElem?_pos,-ad0,o,p,d,l,t,m,y,c4,c5,u,O,M,N,w]
 |true=>
  rw[z]at w;simp[-getElem?_pos,-ad0,o,p,d,l,t,m,y,c4,c5,u,O,M,N,w,T];refine⟨k+1+1,by omega,rfl,by omega,L,fun i q W=>?_⟩;by_cases h:i=k
  .subst h;rw[v,F];exact z
  .exact K i q (by omega)
end
section
variable [W]
def Xm(H:List Ob)(g:Gr)(e:Edge):aO tz ay 291 [.agg (du e),.c (.aJ [bQ g] 0 0)] H=some (aR (lK g e),H):=by have h:=acL g e;have a:=jU g.bw;simp only[du,bQ]at h|-;simp[h,a]
def xW(g:Gr)(Z:g.bw.length<=1000000000):aS tz ay 0 245 [.agg (bQ g)]=some (aa (if fa g=true then 0 else 30),[]):=by
 refine be func245 rfl ?_;simp only[f245,cr];have⟨R,l⟩:=ak (g.bw.map du);have⟨n,hn⟩:=ak g.bw.length;have b:R.length=n:=by rw[<-l];simpa using hn
 have J:∀j (m:j<g.bw.length),R[j]?=some (du g.bw[j]):=fun j m=>by rw[<-l,adf,abM m];rfl
 have C:bQ g=[I g.n,.aj R]:=by unfold bQ;rw[l]
 have D:bA R=true:=by rw[<-l];exact jU _
 have o:=SB (g:=291) (caps:=[.aJ [bQ g] 0 0]) g.bw (by unfold maxLen;omega) (lK g) (by rw[(show tz.md 291=0 from rfl)];decide) (by rw[C];simp[cy,bC,bA,D]) (jU _) (fun x _=>Xm [] g x);rw[l,C]at o;rw[C];refine bp [(1,.c (.aJ [[I g.n,.aj R]] 0 0)),(2,aa 0)] (fun G=>G=[]) ?_ ?_
 .simp
 rintro s G⟨a,a2,_⟩rfl;refine bp [(1,.c (.aJ [[I g.n,.aj R]] 0 0)),(3,.c (.bF 291 [.aJ [[I g.n,.aj R]] 0 0]))] (fun G=>G=[]) ?_ ?_
 .simp[a]
 rintro s G⟨a,K,_⟩rfl;by_cases c:g.n<0\/64<g.n\/400<n
 .rw[uS (by omega)];by_cases c1:g.n<0
  .simp[a,c1]
  by_cases c2:64<g.n
  .simp[a,c1,c2]
  .have c3:(400:Int)<n:=by omega
   simp[a,c1,c2,b,c3]
 have c1:¬g.n<0:=by omega
 have c2:¬64<g.n:=by omega
 have c3:¬(400:Int)<n:=by omega
 cases t:g.bw.any (lK g)with
 |true=>
  rw[t]at o;rw[uS fun⟨_,_,_,Q,_⟩=>by have⟨e,p,L⟩:=akq.1 t;obtain⟨j,m,rfl⟩:=ajZ.1 p;rw[Q j m]at L;cases L]
  simp[a,K,c1,c2,c3,b,D,o]
 |false=>
 rw[t]at o;have S:∀i (h:i<g.bw.length),lK g g.bw[i]=false:=fun i q=>by have:=aja.1 t _ (aix q);simpa using this
 refine bp [(1,.c (.aJ [[I g.n,.aj R]] 0 0))] (fun G=>G=[]) ?_ ?_
 .simp[a,K,c1,c2,c3,b,D,o]
 rintro s G⟨a,_⟩rfl;rw[iM];refine Ends.sq ?_;refine bp [(1,.c (.aJ [[I g.n,.aj R]] 0 0)),(28,aa n),(29,aa (0:Nat))] (fun G=>G=[]) ?_ ?_
 .simp[a,b]
 rintro s G T rfl;rw[eC];refine iv (fun j:Nat=>[(1,.c (.aJ [[I g.n,.aj R]] 0 0)),(28,aa n),(29,aa j)]) (fun j G=>G=[]/\j<=n/\∀i (h:i+1<g.bw.length),i+1<j->nX (g.bw[i]'(by omega)) g.bw[i+1]=true) (fun j=>n-j) ?_ 0 T ⟨rfl,by omega,fun i _ h=>absurd h (by omega)⟩ fun _=>rfl;rintro j s G ⟨E,v,w,_⟩ ⟨rfl,g2,M⟩;by_cases d:j<n
 case neg=>
  have m:j=n:=by omega
  have U:fa g=true:=(nD g).2 ⟨by omega,by omega,by omega,S,fun i q=>M i q (by omega)⟩;simp[v,w,d,U]
 have N:j<g.bw.length:=by omega
 have V:adW.wrap ((j:Int)+1)=((j+1:Nat):Int):=cv (by omega);by_cases W:j=0
 .subst W;simp[-getElem?_pos,-ad0,E,v,w,d];exact⟨1,by omega,rfl,by omega,fun i _ h=>absurd h (by omega)⟩
 obtain⟨k,rfl⟩:∃k,j=k+1:=⟨j-1,by omega⟩;have y:=J (k+1) N;have z:=J k (by omega);have⟨e,p⟩:=ak g.bw[k+1];have⟨f,F⟩:=ak (g.bw[k]'(by omega));rw[p]at y;rw[F]at z;simp only[du]at y z;have O:adW.wrap (((k+1:Nat):Int)-1)=(k:Int):=by rw[fw (by omega) (by omega)];omega
 have P:k<n:=by omega
 have ab:(0:Int)< ((k+1:Nat):Int):=by omega
 have A:=US f e;have r:=adV f e;have⟨u,X⟩:=ak (xe f e);rw[X]at A r;simp only[du]at A;cases B:nX f e with
 |false=>
  rw[uS fun⟨_,_,_,_,Y⟩=>by have:=Y k N;rw[p,F,B]at this;cases this]
  rw[B]at r;have H:0<=u:=by simpa using r
  simp[-getElem?_pos,-ad0,E,v,w,d,b,y,z,O,P,A,H]
 |true=>
  rw[B]at r;have H:¬0<=u:=by simpa using r
  simp[-getElem?_pos,-ad0,E,v,w,d,b,y,z,O,P,A,H,V];refine⟨k+1+1,by omega,rfl,by omega,fun i q ad=>?_⟩;by_cases h:i=k
  .subst h;rw[p,F];exact B
  .exact M i q (by omega)
end
def rD(g:Gr)(l:List LA):Bool:=(l.take 101).all (fun x=>decide (x.d.need.length<=20))&&(fa g&&decide (g.n<=5)&&decide (l.length<=100))
def p8(g:Gr)(l:List LA):aS tz ay 0 8 [.agg (bQ g),bh (l.map cM)]=some (aR (rD g l),[]):=by
 refine be func8 rfl ?_;simp only[f8,cr];have⟨R,s⟩:=ak (l.map cM);have⟨n,hn⟩:=ak l.length;have a:R.length=n:=by rw[<-s];simpa using hn
 have F:∀j (v:j<l.length),R[j]?=some (cM l[j]):=fun j v=>by rw[<-s,adf,abM v];rfl
 have b:=UU g;have m:=jU g.bw;have⟨E,w⟩:=ak (g.bw.map du);have y:bQ g=[I g.n,.aj E]:=by unfold bQ;rw[w]
 rw[w]at m;rw[s,y];rw[y]at b;refine bp [(2,.c (.aJ [[I g.n,.aj E]] 0 0)),(1,bh R)] (fun G=>G=[]) ?_ ?_
 .simp
 rintro z G⟨H,J,_⟩rfl;rw[iM];refine Ends.sq ?_;refine bp [(2,.c (.aJ [[I g.n,.aj E]] 0 0)),(1,bh R),(5,aa (0:Nat))] (fun G=>G=[]) ?_ ?_
 .simp[J,H]
 rintro z G K rfl;rw[eC];refine iv (fun j:Nat=>[(2,.c (.aJ [[I g.n,.aj E]] 0 0)),(1,bh R),(5,aa j)]) (fun j G=>G=[]/\j<=101/\∀i (h:i<l.length),i<j->l[i].d.need.length<=20) (fun j=>101-j) ?_ 0 K ⟨rfl,by omega,fun i _ h=>absurd h (by omega)⟩ fun _=>rfl;rintro j z G ⟨e,f,k,_⟩ ⟨rfl,O,A⟩;by_cases d:j<n/\j<101
 case neg=>
  have L:(l.take 101).all (fun x=>decide (x.d.need.length<=20))=true:=by
   rw[ahI];intro x p;obtain⟨i,q,rfl⟩:=ajZ.1 p;rw[List.getElem_take];have:i<l.length:=by simp at q;omega
   have:=A i this (by simp at q;omega);simpa using this
  have⟨o,B⟩:=ak (fa g);have t:rD g l=(o&&decide (g.n<=5)&&decide (n<=100)):=by unfold rD;rw[L,B,hn];rfl
  rw[t];rw[B]at b
  have C:decide ((n:Int)<=100)=decide (n<=100):=by
   by_cases h:n<=100
   .rw[decide_eq_true h,decide_eq_true (by omega)]
   .rw[decide_eq_false h,decide_eq_false (by omega)]
  cases o with
  |false=>
   by_cases d1:j<n
   .have d2:¬(j:Int)<101:=by omega
    simp[f,e,k,d1,d2,a,b,m]
   .simp[f,e,k,d1,a,b,m]
  |true=>
   by_cases d5:g.n<=5
   .by_cases d1:j<n
    .have d2:¬(j:Int)<101:=by omega
     simp[f,e,k,d1,d2,a,b,m,d5,C]
    .simp[f,e,k,d1,a,b,m,d5,C]
   .by_cases d1:j<n
    .have d2:¬(j:Int)<101:=by omega
     simp[f,e,k,d1,d2,a,b,m,d5]
    .simp[f,e,k,d1,a,b,m,d5]
 have⟨d1,d2⟩:=d;have D:(j:Int)<101:=by omega
 have M:j<l.length:=by omega
 have r:=F j M;have⟨x,p⟩:=ak l[j];rw[p]at r;simp only[cM,aG]at r;have N:adW.wrap ((j:Int)+1)=((j+1:Nat):Int):=cv (by omega);by_cases c:20<x.d.need.length
 .have t:rD g l=false:=by
   have:(l.take 101).all (fun x=>decide (x.d.need.length<=20))=false:=by rw[List.all_eq_false];refine⟨x,?_,by simp;omega⟩;rw[<-p,ajZ];exact⟨j,by simp;omega,by rw[List.getElem_take]⟩
   unfold rD;rw[this];rfl
  rw[t];have u:(20:Int)< (x.d.need.length:Nat):=by omega
  simp[-getElem?_pos,-ad0,f,e,k,d1,D,a,r,u]
 .have u:¬(20:Int)< (x.d.need.length:Nat):=by omega
  simp[-getElem?_pos,-ad0,f,e,k,d1,D,a,r,u,N];refine⟨j+1,by omega,rfl,by omega,fun i q P=>?_⟩;by_cases h:i=j
  .subst h;rw[p];omega
  .exact A i q (by omega)
def Zx(a:Int)(l m:List Edge):eM a (l++m)=eM a l++eM a m:=by
 induction l with
 |nil=>rfl
 |cons e r b=>
  simp only[ai7,eM];split
  .rw[b];rfl
  .split
   .rw[b];rfl
   .exact b
def DY(a:Int)(l:List Edge):(eM a l).length<=l.length:=by
 induction l with
 |nil=>simp[eM]
 |cons e r b=>
  simp only[eM];split
  .simp;omega
  .split
   .simp;omega
   .simp;omega
def Yh:tz.dF 248=rh:=by kernel_rfl
def Ag(l:List (List ab)):rowsOf (.aj l)=some l:=rfl
def Jv(l:List Edge):rC (l.map du)=some l:=by
 induction l with
 |nil=>rfl
 |cons x r a=>simp[rC,du,a]
def abu(g:Gr)(b:fa g=true)(a:Int):aS tz ay 0 248 [.agg (bQ g),aa a]=some (cw (ec g a)):=by unfold aS ay;rw[gW Px,Yh];simp[rh,bQ,Ag,Jv,b,cw,bi]
def YT:tz.dH 168=true:=by kernel_rfl
def aaT:tz.dF 168=wi:=by kernel_rfl
def UR(g:Gr)(a:fa g=true){c:List Int}{k:Nat}(hc:pa g=some (c,k)):aS tz ay 0 168 [.agg (bQ g)]=some (.aM [bd 0 0 0 c.length,aa k,aa 0],[ah 1 (c.map aC)]):=by unfold aS ay;rw[gW YT,aaT];simp[wi,bQ,Ag,Jv,a,hc,bi]
instance iW8:W:=W2
section
variable{H H':List Ob}{r:aw}
def aa0:aO tz ay 114 [.c ap] H=some (bd H.length 0 0 0,H++[ah 1 []]):=by
 have a:aS tz ay 0 114 [.c ap]=some (bd 0 0 0 0,[ah 1 []]):=by unfold aS ay;rw[gW Nb,Rs];rfl
 simp[NW,a]
def X8(g:Gr)(F:fa g=true)(a:Int):aS tz ay 0 248 [.agg (bQ g),aa a]=some (cw (ec g a)):=by
 refine be func248 rfl ?_;simp only[f248,cr];have af:=((nD g).1 F).2.2.1;have H:=xW g (by omega);rw[if_pos F]at H;have⟨R,C⟩:=ak (g.bw.map du);have⟨n,hn⟩:=ak g.bw.length;have t:R.length=n:=by rw[<-C];simpa using hn
 have V:∀j (D:j<g.bw.length),R[j]?=some (du g.bw[j]):=fun j D=>by rw[<-C,adf,abM D];rfl
 have W:bA R=true:=by rw[<-C];exact jU _
 have X:bQ g=[I g.n,.aj R]:=by unfold bQ;rw[C]
 rw[X]at H|-;have Y:ec g a=cD (eM a g.bw):=by unfold ec;rw[if_pos F]
 rw[Y];refine bp [(2,.c (.aJ [[I g.n,.aj R]] 0 0)),(1,aa a)] (fun G=>G=[]) ?_ ?_
 .simp
 rintro E G⟨y,z,_⟩rfl;refine bp [(2,.c (.aJ [[I g.n,.aj R]] 0 0)),(1,aa a)] (fun G=>G=[]) ?_ ?_
 .simp[y,z,H,W]
 rintro E G⟨y,z,_⟩rfl;refine bp [(2,.c (.aJ [[I g.n,.aj R]] 0 0)),(1,aa a),(5,.c ap)] (fun G=>G=[]) ?_ ?_
 .simp[y,z]
 rintro E G⟨y,z,Z,_⟩rfl;rw[iM];refine Ends.sq ?_;refine bp [(1,aa a),(12,bh R),(13,aa n),(14,aa (0:Nat)),(5,.c ap)] (fun G=>G=[]) ?_ ?_
 .simp[z,y,Z,t]
 rintro E G g1 rfl;rw[eC];refine iv (fun p:Nat×ab=>[(1,aa a),(12,bh R),(13,aa n),(14,aa p.1),(5,.c p.2)]) (fun p G=>p.1<=n/\nm G p.2 (eM a (g.bw.take p.1))) (fun p=>n-p.1) ?_ (0,ap) g1 ⟨by omega,.inl ⟨rfl,rfl⟩⟩ fun _=>rfl;rintro⟨j,ad⟩ E G ⟨i,k,m,o,e,_⟩ ⟨g2,q⟩;simp only at i k m o e g2 q;by_cases d:j<n
 case neg=>
  have D:g.bw.take j=g.bw:=acu (by omega);rw[D]at q;have J:=DY a g.bw;have M:=bi (cD (eM a g.bw));rcases q with⟨h0,rfl⟩|⟨h,v,N,rfl,b⟩
  .rw[h0];simp[-aD,i,k,m,o,e,d,aa0,cw,cD,gv,dt]
  .have hc:=LQ b rfl (by omega);have⟨ag,hL⟩:=ak (eM a g.bw);rw[hL]at b hc e M|-;simp[-aD,i,k,m,o,e,d,hc,cw,M]
 have O:j<g.bw.length:=by omega
 have ah:j<R.length:=by omega
 have r:=V j O;have⟨ae,P⟩:=ak g.bw[j];have⟨u,w⟩:=ae;rw[P]at r;simp only[du]at r;have A:adW.wrap ((j:Int)+1)=((j+1:Nat):Int):=cv (by omega);have f:eM a (g.bw.take (j+1))=eM a (g.bw.take j)++eM a [⟨u,w⟩]:=by rw[aiH,abM O,P,Zx];rfl
 have J:=DY a (g.bw.take j);rw[ai1]at J;have⟨l,hl⟩:=ak (eM a (g.bw.take j));rw[hl]at q f J;have Q:l.length+1<=maxLen:=by unfold maxLen;omega
 have S:(l.length+1)*8<=140737488355328:=by omega
 have T:∀(x:Int) (K:Ob),eM a (g.bw.take (j+1))=[]++[x]->nm (G++[K,Ob.live 0 1 [[I x]],Ob.live 0 1 [[I x]]]) (.sl (G.length+2) 0 0 1) (eM a (g.bw.take (j+1))):=fun x K s=> .inr ⟨G.length+2,0,by rw[s];simp,by rw[s];rfl,by rw[s,aea (by omega),show G.length+2-G.length=2 from by omega];rfl⟩;have U:∀(x:Int) (K:Ob) (h v:Nat),G[h]?=some (.live v 1 (l.map aC))->eM a (g.bw.take (j+1))=l++[x]->nm ((G++[K,Ob.live 0 1 [[I x]]]).set h (Ob.live (v+1) 1 (l.map aC++[[I x]]))) (.sl h (v+1) 0 (l.length+1)) (eM a (g.bw.take (j+1))):=fun x K h v b s=> .inr ⟨h,v+1,by rw[s];simp,by rw[s];simp,by rw[s,ba (show(G++_)[h]?=some (.live v 1 (l.map aC))by rw[abE (bf b)];exact b)];simp[aC]⟩;by_cases c1:a=u
 .subst c1;have B:eM a [⟨a,w⟩]=[w]:=by simp[eM]
  rw[B]at f;rcases q with⟨rfl,rfl⟩|⟨h,v,N,rfl,b⟩
  .simp[-getElem?_pos,-ad0,i,k,m,o,e,d,t,r,A];exact⟨j+1,by omega,_,⟨rfl,rfl⟩,by omega,T _ _ f⟩
  .have L:∀K,(G++K)[h]?=some (.live v 1 (l.map aC)):=fun K=>by rw[abE (bf b)];exact b
   simp[-getElem?_pos,-ad0,i,k,m,o,e,d,t,r,A,L,Q,S];exact⟨j+1,by omega,_,⟨rfl,rfl⟩,by omega,U _ _ _ _ b f⟩
 by_cases c2:a=w
 .subst c2;have B:eM a [⟨u,a⟩]=[u]:=by simp[eM,c1]
  rw[B]at f;rcases q with⟨rfl,rfl⟩|⟨h,v,N,rfl,b⟩
  .simp[-getElem?_pos,-ad0,i,k,m,o,e,d,t,r,c1,A];exact⟨j+1,by omega,_,⟨rfl,rfl⟩,by omega,T _ _ f⟩
  .have L:∀K,(G++K)[h]?=some (.live v 1 (l.map aC)):=fun K=>by rw[abE (bf b)];exact b
   simp[-getElem?_pos,-ad0,i,k,m,o,e,d,t,r,c1,A,L,Q,S];exact⟨j+1,by omega,_,⟨rfl,rfl⟩,by omega,U _ _ _ _ b f⟩
 .have B:eM a [⟨u,w⟩]=[]:=by simp[eM,c1,c2]
  rw[B,aeU]at f;simp[-getElem?_pos,-ad0,i,k,m,o,e,d,t,r,c1,c2,A]
  have g4:nm (G++[Ob.live 0 2 [[I u,I w]]]) ad (eM a (g.bw.take (j+1))):=by
   rw[f];refine q.aK fun ai hm=>abE ?_;rcases q with⟨_,rfl⟩|⟨h,v,_,rfl,b⟩
   .simp[rf]at hm
   .simp[rf]at hm;subst hm;exact bf b
  exact⟨j+1,by omega,_,⟨rfl,rfl⟩,by omega,g4⟩
def GU:∀(rows:List (List ab)) (l:List Edge),rC rows=some l->rows=l.map du
 |[],l,h=>by simp[rC]at h;subst h;rfl
 |r::e,l,h=>by
  unfold rC at h
  split at h
  .rename_i c;cases c
  .rename_i a b f c
   cases c
   split at h
   .rename_i g d
    cases h
    rw[GU _ _ d]
    rfl
   .cases h
  .cases h
def P8{P:Program}{f:FuncId}{n:Int}{l:ab}{rows:List (List ab)}(b:rowsOf l=some rows){args:List aw}(h:Call P f (.agg [I n,.aj rows]::args) H r H'):Call P f (.agg [I n,l]::args) H r H':=by refine N1 (fun p q a=>?_) h;simp only[bT,aL,aY]at a|-;obtain⟨y,t,rfl,⟨c,rfl,d,t1,e,g,i,t2,j,k,m⟩,o⟩:=a;exact⟨_,t,rfl,⟨c,rfl,d,t1,e,g,i,t2,j,PY b k,m⟩,o⟩
def MF(e:gU tz){c:List aw}(h:rh c H=some (r,H')):Call aaG 248 c H r H':=by
 unfold rh at h;split at h
 .rename_i n l a;split at h
  .rename_i rows d;split at h
   .rename_i b f;split at h
    .rename_i g;injection h with h;have i:(cw (ec ⟨n,b⟩ a)).1=r:=by rw[h]
     have j:(cw (ec ⟨n,b⟩ a)).2=H':=by rw[h]
     subst i j;rw[GU _ _ f]at d;refine P8 d (oP e ?_);have:=X8 ⟨n,b⟩ g a;simp only[bQ]at this;simp[this,cw,bi,jU]
    .cases h
   .cases h
  .cases h
 .cases h
end
instance iW9:W:=W1
section
variable{c:List Int}{g:Gr}{n:Nat}
def A6:∀(n:Nat) (k:Int) (l:List Int),(∀i:Nat,i<n->k+i∈l)->n<=l.length
 |0,_,_,_=>akg _
 |n+1,k,l,h=>by
  have a:=h n (by omega)
  have b:=A6 n k (l.erase (k+n)) fun i c=>by
   rw[List.mem_erase_of_ne (by omega)]
   exact h i (by omega)
  rw[List.length_erase_of_mem a]at b
  have:=List.length_pos_of_mem a
  omega
def zQ(l:List Int):∀(n:Nat) (k:Int),k<=mP l n k
 |0,k=>aka _
 |n+1,k=>by
  unfold mP
  split
  .have:=zQ l n (k+1);omega
  .exact aka _
def P9(l:List Int):∀(n:Nat) (k:Int),mP l n k∈l->∀i:Nat,i<=n->k+i∈l
 |0,k,h,i,b=>by
  have:i=0:=by omega
  subst this
  simpa[mP]using h
 |n+1,k,h,i,b=>by
  unfold mP at h
  split at h
  .rename_i a
   cases i with
   |zero=>simpa using a
   |succ i=>
    have:=P9 l n (k+1) h i (by omega)
    rw[show k+((i+1:Nat):Int)=k+1+(i:Int)from by omega]
    exact this
  .rename_i a
   exact absurd h a
def acQ(l:List Int)(n:Nat)(k:Int)(h:l.length<=n):¬mP l n k∈l:=fun hm=>by have:=A6 (n+1) k l fun i a=>P9 l n k hm i (by omega);omega
def NB{a b:Int}:∀ {l:List Edge},b∈eM a l↔ ∃e∈l,(a=e.a/\b=e.b)\/(a≠e.a/\a=e.b/\b=e.a)
 |[]=>by simp[eM]
 |e::r=>by
  have i:=@NB a b r
  unfold eM
  by_cases d:a=e.a
  .rw[if_pos d]
   simp only[aeM,i]
   constructor
   .rintro (h|⟨f,c,h⟩)
    .exact ⟨e,.inl rfl,.inl ⟨d,h⟩⟩
    .exact ⟨f,.inr c,h⟩
   .rintro⟨f,rfl|c,h⟩
    .rcases h with⟨_,h⟩|⟨h,_⟩
     .exact .inl h
     .exact absurd d h
    .exact .inr ⟨f,c,h⟩
  rw[if_neg d]
  by_cases g:a=e.b
  .rw[if_pos g]
   simp only[aeM,i]
   constructor
   .rintro (h|⟨f,c,h⟩)
    .exact ⟨e,.inl rfl,.inr ⟨d,g,h⟩⟩
    .exact ⟨f,.inr c,h⟩
   .rintro⟨f,rfl|c,h⟩
    .rcases h with⟨h,_⟩|⟨_,_,h⟩
     .exact absurd h d
     .exact .inl h
    .exact .inr ⟨f,c,h⟩
  .rw[if_neg g,i]
   simp only[aeM]
   constructor
   .rintro⟨f,c,h⟩;exact⟨f,.inr c,h⟩
   .rintro⟨f,rfl|c,h⟩
    .rcases h with⟨h,_⟩|⟨_,h,_⟩
     .exact absurd h d
     .exact absurd h g
    .exact ⟨f,c,h⟩
structure qI(g:Gr)(n:Nat):Prop where
 n:g.n=(n:Int)
 e:∀e∈g.bw,0<=e.a/\e.a<e.b/\e.b<g.n
 m:∀a b,b∈ec g a↔ ∃e∈g.bw,(a=e.a/\b=e.b)\/(a≠e.a/\a=e.b/\b=e.a)
 s:∀a,ek (ec g a)=true
def pz{b:Nat}(h:b<c.length):bD c (b:Int)=c[b]:=by unfold bD;rw[ais,ae5,abM h];rfl
structure Ax(g:Gr)(n k:Nat)(c:List Int):Prop where
 l:c.length=n
 nn:∀i:Nat,i<n->0<=bD c i
 z:∀i:Nat,n<=i+k->i<n->bD c i≠0
 p:∀e∈g.bw,bD c e.a≠0->bD c e.b≠0->bD c e.a≠bD c e.b
def tV(a:qI g n)(i:Nat)(b:i<n):bD (iW g c) (i:Int)=ke g c i:=by unfold bD iW;rw[ae5,adf,ais,a.n,ais,ajF b];rfl
def vo{i:Nat}(h:bD c i≠0):ke g c i=bD c i:=by unfold ke;simp only;rw[if_pos (.inl h)]
def YW{k:Nat}(d:qI g n)(h:Ax g n k c):Ax g n (k+1) (iW g c):=by
 have ne:∀i:Nat,i<n->bD (iW g c) i≠0->bD c i=0->(∀b∈ec g i, ¬(bD c b=0/\b>(i:Int)))/\ ¬bD (iW g c) i∈(ec g i).map (bD c):=fun i r hn q=>by
  rw[tV d i r]at hn|-;unfold ke at hn|-;simp only at hn|-;by_cases hc:bD c i≠0\/((ec g i).any fun b=>decide (bD c b=0)&&decide (b>(i:Int)))=true
  .rw[if_pos hc]at hn;exact absurd q hn
  .rw[if_neg hc];refine⟨fun b l f=>hc (.inr ?_),acQ _ _ _ (by simp)⟩;rw[akq];exact⟨b,l,by simp[f.1,f.2]⟩
 refine⟨by unfold iW;rw[d.n];simp,fun i r=>?_,fun i J E=>?_,fun e j B l=>?_⟩
 .rw[tV d i r];unfold ke;simp only;split
  .exact h.nn i r
  .have:=zQ ((ec g i).map (bD c)) ((ec g i).length+1) 1;omega
 .rw[tV d i E];by_cases q:bD c i=0
  .unfold ke;simp only;rw[if_neg]
   .have:=zQ ((ec g i).map (bD c)) ((ec g i).length+1) 1;omega
   .rintro (f|f)
    .exact f q
    .rw[akq]at f;have⟨b,l,f⟩:=f;simp only[abR,decide_eq_true_eq]at f;have⟨e,j,F⟩:=(d.m _ _).1 l;have G:=d.e e j;have H:=d.n;have K:b<n:=by rcases F with⟨_,h⟩|⟨_,_,h⟩<;>omega
     have:=h.z b.toNat (by omega) (by omega);rw[show((b.toNat:Nat):Int)=b from by omega]at this;exact this f.1
  .rw[vo q];exact q
 .have G:=d.e e j;have H:=d.n;obtain⟨x,t⟩:∃x:Nat,e.a=x:=⟨e.a.toNat,by omega⟩;obtain⟨y,u⟩:∃y:Nat,e.b=y:=⟨e.b.toNat,by omega⟩;have p:=h.p e j;have C:(y:Int)∈ec g x:=(d.m _ _).2 ⟨e,j,.inl ⟨t.symm,u.symm⟩⟩;have I:(x:Int)∈ec g y:=(d.m _ _).2 ⟨e,j,.inr ⟨by omega,u.symm,t.symm⟩⟩;simp only[t,u]at B l p|-;have v:x<n:=by omega
  have w:y<n:=by omega
  by_cases s:bD c x=0
  .have ⟨D,A⟩:=ne x v B s;by_cases o:bD c y=0
   .exact absurd ⟨o,by omega⟩ (D y C)
   .intro j;refine A ?_;rw[j,tV d y w,vo o];exact aks C
  .by_cases o:bD c y=0
   .have ⟨D,A⟩:=ne y w l o;intro j;refine A ?_;rw[<-j,tV d x v,vo s];exact aks I
   .rw[tV d x v,tV d y w,vo s,vo o];exact p s o
def LJ{g:Gr}{n:Nat}(o:qI g n):∀(m k:Nat) (c:List Int) (t:Nat),Ax g n k c->m+k=n+1->k<=n->∃f w,ul g m c t=some (f,w)/\f.length=n/\(∀i:Nat,i<n->1<=bD f i)/\∀e∈g.bw,bD f e.a≠bD f e.b
 |0,k,c,t,h,hm,r=>by omega
 |m+1,k,c,t,h,hm,y=>by
  unfold ul
  by_cases q:(0:Int)∈c
  .rw[if_pos q]
   have⟨i,d,e⟩:=ajZ.1 q
   have x:i<n:=by rw[<-h.l];exact d
   have:=pz d
   rw[e]at this
   have r:¬n<=i+k:=fun r=>h.z i r x this
   exact LJ o m (k+1) _ _ (YW o h) (by omega) (by omega)
  .rw[if_neg q]
   have s:∀i:Nat,i<n->bD c i≠0:=fun i d j=>q (by
    rw[pz (by rw[h.l];exact d)]at j
    rw[<-j];exact aix _)
   refine⟨c,t,rfl,h.l,fun i d=>?_,fun e j=>?_⟩
   .have:=s i d;have:=h.nn i d;omega
   .have A:=o.e e j
    have B:=o.n
    have u:=s e.a.toNat (by omega)
    have v:=s e.b.toNat (by omega)
    rw[show((e.a.toNat:Nat):Int)=e.a from by omega]at u
    rw[show((e.b.toNat:Nat):Int)=e.b from by omega]at v
    exact h.p e j u v
def S9(d:qI g n):∃c t,pa g=some (c,t)/\c.length=n/\(∀i:Nat,i<n->1<=bD c i)/\∀e∈g.bw,bD c e.a≠bD c e.b:=by
 have j:Ax g n 0 (ahv n 0):=by
  have f:∀i:Int,bD (ahv n 0) i=0:=fun i=>by unfold bD;rw[ae5,List.getElem?_replicate];split<;>rfl
  exact⟨by simp,fun i _=>by rw[f];exact aka _,fun i k l=>absurd k (by omega),fun e _ h=>absurd (f _) h⟩
 unfold pa;rw[show g.n.toNat=n from by rw[d.n];rfl];exact LJ d (n+1) 0 _ 0 j rfl (akg _)
def vX(h:fa g=true):qI g g.n.toNat:=by
 have c:∀e∈g.bw,0<=e.a/\e.a<e.b/\e.b<g.n:=fun e d=>by unfold fa at h;simp only[abR,afa,aja]at h;have:=h.1.2 e d;simp only[ai9,decide_eq_true_eq,not_or]at this;omega
 have hn:0<=g.n:=by unfold fa at h;simp only[abR,afa,decide_eq_false_iff_not]at h;omega
 refine⟨by omega,c,fun a b=>?_,fun a=>?_⟩
 .unfold ec;rw[if_pos h,vA,NB]
 .unfold ec;rw[if_pos h];exact QQ _
def io(c:List Int)(i:Int)(b:Int):aI:=⟨b,1,0,decide (bD c i>bD c b),decide (bD c i>bD c b),!decide (bD c i>bD c b),decide (bD c i>bD c b),!decide (bD c i>bD c b)⟩
def dx(g:Gr)(c:List Int)(i:Nat):cQ:=⟨i,0,(ec g i).map (io c i)⟩
def pP(g:Gr)(c:List Int)(i:Nat):Dr:=⟨dx g c i,0,[]⟩
def iD(g:Gr)(c:List Int)(i:Nat):Nd:=kC (pP g c i)
def QN:∀ {l:List Int},ek l=true->l.Pairwise (· < ·)
 |[],_=> .nil
 |[x],_=>by simp
 |x::y::r,h=>by
  have a:(decide (x<y)&&ek (y::r))=true:=h
  simp only[abR,decide_eq_true_eq]at a
  have c:=QN a.2
  refine ahg.2 ⟨fun z b=>?_,c⟩
  rcases aeM.1 b with rfl|b
  .exact a.1
  .have:=(ahg.1 c).1 z b;omega
def RN(c:List Int)(i:Int):∀(l:List Int) (a:Int),l.Pairwise (· < ·)->(∀b∈l,a<b/\b≠i)->dU i a (l.map (io c i))=true
 |[],_,_,_=>rfl
 |b::r,a,hp,h=>by
  have d:=ahg.1 hp
  have e:=h b (ajz ..)
  simp only[ag9,dU,abR]
  refine⟨?_,RN c i r b d.2 fun x f=>⟨d.1 x f,(h x (aiO _ f)).2⟩⟩
  simp[cS,io,e.1,e.2]
def PP(c:List Int)(i:Int):∀(l:List Int) (a:Int),l.Pairwise (· < ·)->(∀b∈l,a<b/\b<64)->mL a ((l.map (io c i)).map fun x=>⟨x.peer,x.aP⟩)=true
 |[],_,_,_=>rfl
 |b::r,a,hp,h=>by
  have d:=ahg.1 hp
  have e:=h b (ajz ..)
  simp only[ag9,mL,abR]
  refine⟨?_,PP c i r b d.2 fun x f=>⟨d.1 x f,(h x (aiO _ f)).2⟩⟩
  simp[io,e.1,e.2]
def L6(c:List Int)(i b:Int):∀(l:List Int),b∈l->gR ((l.map (io c i)).map fun x=>⟨x.peer,x.aP⟩) b=1
 |x::r,h=>by
  simp only[ag9,gR,io]
  split
  .rfl
  .rename_i a
   rcases aeM.1 h with rfl|h
   .exact absurd rfl a
   .exact L6 c i b r h
def F8{i:Nat}(a:qI g n)(k:i<n):∀b∈ec g i,0<=b/\b<n/\b≠i:=fun b c=>by have⟨e,d,h⟩:=(a.m _ _).1 c;have:=a.e e d;have:=a.n;rcases h with⟨f,j⟩|⟨_,f,j⟩<;>omega
def HK(e:qI g n)(hn:n<=64)(c:List Int){i:Nat}(m:i<n):dm (iD g c i)=true/\(pP g c i).ai.af.length<=100:=by
 have a:=F8 e m;have hp:=QN (e.s i);have f:=RN c i (ec g i) (-1) hp fun b h=>⟨by have:=a b h;omega,(a b h).2.2⟩;have o:=PP c i (ec g i) (-1) hp fun b h=>by have:=a b h;omega
 have j:∀x∈(ec g i).map (io c i),x.peer<64:=fun x d=>by obtain⟨b,h,rfl⟩:=aiK.1 d;have:=a b h;show b<64;omega
 have q:=wC (id:=(i:Int)) (by omega) f j (aka _) (by omega);have r:((ec g i).map (io c i)).length<64:=by rw[if_pos (by omega)]at q;omega
 refine⟨?_,by show((ec g i).map (io c i)).length<=100;omega⟩;have d1:eo (dx g c i)=true:=jn.2 ⟨by show(0:Int)<=(i:Int);omega,aka _,(show(0:Int)<=2 by omega),r,f⟩;have d2:dC (pP g c i)=true:=by rw[ic];refine⟨d1,aka _,(show(0:Int)<=2 by omega),rfl,fun _=>rfl,fun p hp=>absurd hp (by simp[pP])⟩
 have d3:sj (iD g c i)=true:=by
  unfold sj;have k:(iD g c i).known=((ec g i).map (io c i)).map fun x=>⟨x.peer,x.aP⟩:=rfl;have t:(iD g c i).af=(ec g i).map (io c i):=rfl;have u:(iD g c i).id=(i:Int):=rfl;have v:(iD g c i).told=[]:=rfl;have w:((iD g c i).af.any (lU (iD g c i)))=false:=by rw[t,aja];intro x d;have y:=j x d;obtain⟨b,h,rfl⟩:=aiK.1 d;have z:=L6 c i b _ h;unfold lU;rw[k];have l:(io c i b).peer=b:=rfl;have A:(io c i b).aP=1:=rfl;have B:(io c i b).state=0:=rfl;rw[l]at y;rw[l,A,B,z];simp;omega
  rw[w,k,u,v,o];simp[kZ,gJ,cD,gv,dt,ek];omega
 unfold dm;have d4:pF (iD g c i)=true:=by unfold pF;rw[d3];have:(iD g c i).asked=[]:=rfl;rw[this];rfl
 have d5:(iD g c i).dr=pP g c i:=rfl;rw[d5,d2,d4];rfl
end
instance iW10:W:=W3
section
variable{c:List Int}{b:Int}{g:Gr}{n:Nat}
def SX:tz.dH 248=true:=by kernel_rfl
def Xl:tz.dF 248=rh:=by kernel_rfl
def adR:tz.dH 45=true:=by kernel_rfl
def S5:tz.dF 45=fJ 1:=by kernel_rfl
def afK:tz.md 45=0:=by kernel_rfl
def Vt(x:Int):aO tz ay 294 [aa x] []=some (aR (decide (x<0)),[]):=by
 have h:aS tz ay 0 294 [aa x]=some (aR (decide (x<0)),[]):=by refine be func294 rfl ?_;simp[f294]
 simp[h]
def aav{a:Int}(l:0<=b)(m:b<c.length):aO tz ay 295 [aa b,.c (.aJ [[.aj (c.map aC)]] 0 0),.c (.aJ [[I a]] 0 0)] []=some (aR (decide (bD c b=0)&&decide (b>a)),[]):=by
 obtain⟨n,rfl⟩:∃n:Nat,b=n:=⟨b.toNat,by omega⟩;have hn:n<c.length:=by omega
 have j:bD c (n:Int)=c[n]:=pz hn;have f:=bi c;have e:(c.map aC)[n]?=some [I c[n]]:=by rw[adf,abM hn];rfl
 rw[j];have⟨x,k⟩:=ak c[n];rw[k]at e|-;have⟨C,g⟩:=ak (c.map aC);have i:n<C.length:=by rw[<-g];simpa using hn
 rw[g]at e f|-
 have h:aS tz ay 0 295 [aa n,.c (.aJ [[.aj C]] 0 0),.c (.aJ [[I a]] 0 0)]=some (aR (decide (x=0)&&decide ((n:Int)>a)),[]):=by
  refine be func295 rfl ?_;by_cases d:x=0
  .subst d;simp[-getElem?_pos,f295,e,i]
  .simp[-getElem?_pos,f295,e,i,d]
 simp[h,f]
def adF{o:List Int}{a:Nat}(s:0<=b)(t:b<c.length)(f:a<o.length):aO tz ay 296 [aa b,.c (.aJ [[.aj (c.map aC)]] 0 0),.c (.aJ [[.aj (o.map aC)]] 0 0),.c (.aJ [[I a]] 0 0)] []=some (aR (decide (bD c b=o[a])),[]):=by
 obtain⟨n,rfl⟩:∃n:Nat,b=n:=⟨b.toNat,by omega⟩;have hn:n<c.length:=by omega
 have l:bD c (n:Int)=c[n]:=pz hn;have g:=bi c;have i:=bi o;have d:(c.map aC)[n]?=some [I c[n]]:=by rw[adf,abM hn];rfl
 have e:(o.map aC)[a]?=some [I o[a]]:=by rw[adf,abM f];rfl
 rw[l];have⟨x,m⟩:=ak c[n];have⟨y,p⟩:=ak o[a];rw[m]at d|-;rw[p]at e|-;have⟨C,j⟩:=ak (c.map aC);have q:n<C.length:=by rw[<-j];simpa using hn
 have⟨O,k⟩:=ak (o.map aC);have r:a<O.length:=by rw[<-k];simpa using f
 rw[j]at d g|-;rw[k]at e i|-;have h:aS tz ay 0 296 [aa n,.c (.aJ [[.aj C]] 0 0),.c (.aJ [[.aj O]] 0 0),.c (.aJ [[I a]] 0 0)]=some (aR (decide (x=y)),[]):=by refine be func296 rfl ?_;simp[-getElem?_pos,f296,d,q,e,r]
 simp[h,g,i]
def NZ(l:List Int):∀(n k:Nat) (s:Int),(∀i:Nat,i<k->s+i∈l)-> ¬s+k∈l->k<=n->mP l n s=s+k
 |0,k,s,a,b,c=>by
  have:k=0:=by omega
  subst this
  simp[mP]
 |n+1,0,s,a,b,c=>by
  unfold mP
  rw[if_neg (by simpa using b)]
  simp
 |n+1,k+1,s,a,b,c=>by
  unfold mP
  rw[if_pos (by simpa using a 0 (by omega)),NZ l n k (s+1) (fun i d=>by
   have:=a (i+1) (by omega)
   rwa [show s+1+(i:Int)=s+((i+1:Nat):Int)from by omega]) (by rwa [show s+1+(k:Int)=s+((k+1:Nat):Int)from by omega]) (by omega)]
  omega
def nx(g:Gr)(n:Nat)(c:List Int)(i:Nat):List Int:=(aiZ n).map fun j=>if j<i then ke g c j else bD c j
def wV(g:Gr)(n:Nat)(c:List Int)(i:Nat):(nx g n c i).length=n:=by simp[nx]
def z7{i j:Nat}(h:j<n):(nx g n c i)[j]?=some (if j<i then ke g c j else bD c j):=by unfold nx;rw[adf,ajF h];rfl
def aeF(h:c.length=n):nx g n c 0=c:=by
 apply aju;intro j;by_cases a:j<n
 .rw[z7 a,if_neg (by omega),abM (by omega),pz (by omega)]
 .rw[aiE (by rw[wV];omega),aiE (by omega)]
def afR(h:g.n=n):nx g n c n=iW g c:=by unfold nx iW;rw[h,ais];apply ajp;intro j a;rw[if_pos (alB.1 a)]
def Zb{i:Nat}(h:i<n):nx g n c (i+1)=(nx g n c i).set i (ke g c i):=by
 apply aju;intro j;by_cases a:j<n
 .rw[z7 a];by_cases e:i=j
  .subst e;rw[ahr (by rw[wV];exact h),if_pos (by omega)]
  .rw[aat e,z7 a];congr 1
   by_cases q:j<i
   .rw[if_pos (by omega),if_pos q]
   .rw[if_neg (by omega),if_neg q]
 .rw[aiE (by rw[wV];omega),aiE (by rw[aiP,wV];omega)]
def XS(c:fa g=true)(a:Int)(H:List Ob):aO tz ay 248 [.agg (bQ g),aa a] H=some (bd H.length 0 0 (ec g a).length,H++[ah 1 ((ec g a).map aC)]):=by
 have b:aS tz ay 0 248 [.agg (bQ g),aa a]=some (cw (ec g a)):=by unfold aS ay;rw[gW SX,Xl];simp[rh,bQ,Ag,Jv,c,cw,bi]
 have d:=jU g.bw;have e:=bi (ec g a);simp only[bQ]at b|-;simp[b,d,e,cw]
def abn(hc:c.length<=1000000)(H:List Ob):aO tz ay 45 [bh (c.map aC)] H=some (bd H.length 0 0 c.length,H++[ah 1 (c.map aC)]):=by
 have a:=bi c;have b:aS tz ay 0 45 [bh (c.map aC)]=some (bd 0 0 0 c.length,[ah 1 (c.map aC)]):=by unfold aS ay;rw[gW adR,S5];have d:=u7 aC 1 (fun _=>rfl) c;simp[fJ,Ag,d,a,hc]
 simp[afK,b,a]
end
def Um{g:Gr}{n:Nat}{c:List Int}(Y:fa g=true)(hn:g.n=n)(hc:c.length=n)(hp:∀x∈c,0<=x):aS tz ay 0 246 [.agg (bQ g),bh (c.map aC)]=some (.aM [bd 0 0 0 n,aa 0],[ah 1 ((iW g c).map aC)]):=by
 refine be func246 rfl ?_;simp only[f246,cr];have hI:=vX Y;rw[hn,ais]at hI;have⟨q1,q2,q3,q4,q5⟩:=(nD g).1 Y;have bq:n<=64:=by omega
 have ap:=xW g (by omega);rw[if_pos Y]at ap;have aI:=fun a aq=>XS Y a aq;have ar:=fun aq=>abn (c:=c) (by omega) aq;have av:=vL (g:=294) (caps:=[]) c (by unfold maxLen;omega) (fun x=>decide (x<0)) (by rw[(show tz.md 294=0 from rfl)];decide) rfl (bi c) (fun x _=>Vt x);have a0:(c.any fun x=>decide (x<0))=false:=by rw[aja];intro x hx;have:=hp x hx;simp;omega
 rw[a0]at av;have M:=bi c;have aK:=jU g.bw;have⟨R,hR⟩:=ak (g.bw.map du);have H:bQ g=[I n,.aj R]:=by unfold bQ;rw[hn,hR]
 rw[hR]at aK;rw[H]at ap aI|-;have aL:(c.map aC).length=n:=by simpa using hc
 refine bp [(2,.c (.aJ [[I n,.aj R]] 0 0)),(3,.c (.aJ [[.aj (c.map aC)]] 0 0))] (fun G=>G=[]) ?_ ?_
 .simp
 rintro s G⟨J,B,_⟩rfl;have⟨C,Z⟩:=ak (c.map aC);rw[Z]at B M aL av ar;rw[hc]at ar;refine bp [(2,.c (.aJ [[I n,.aj R]] 0 0)),(3,.c (.aJ [[.aj C]] 0 0))] (fun G=>G=[]) ?_ ?_
 .simp[J,B,ap,aK]
 rintro s G⟨J,B,_⟩rfl;refine bp [(2,.c (.aJ [[I n,.aj R]] 0 0)),(3,.c (.aJ [[.aj C]] 0 0))] (fun G=>G=[]) ?_ ?_
 .simp[J,B,aL,av,M]
 rintro s G⟨J,B,_⟩rfl;refine bp [(2,.c (.aJ [[I n,.aj R]] 0 0)),(3,.c (.aJ [[.aj C]] 0 0)),(7,au 1)] (fun G=>G=[ah 1 C,ah 1 [[.sl 0 0 0 n]]]) ?_ ?_
 .simp[-aD,J,B,ar]
 rintro s G⟨J,B,a7,_⟩rfl;refine bp [(7,au 1)] (fun G=>G[0]?=some (ah 1 ((iW g c).map aC))/\G[1]?=some (ah 1 [[.sl 0 0 0 n]])) ?_ ?_
 .refine eh (fun S=>Has S.env [(2,.c (.aJ [[I n,.aj R]] 0 0)),(3,.c (.aJ [[.aj C]] 0 0)),(7,au 1),(27,aa n),(28,aa (0:Nat))]/\S.bG=[]/\S.heap=[ah 1 C,ah 1 [[.sl 0 0 0 n]]]) ?_ ?_
  .simp[J,B,a7]
  rintro⟨s,G,u⟩⟨e,rfl,rfl⟩;simp only at e;rw[eC];refine Ends.bl (gM (fun i:Nat=>[(2,.c (.aJ [[I n,.aj R]] 0 0)),(3,.c (.aJ [[.aj C]] 0 0)),(7,au 1),(27,aa n),(28,aa i)]) (fun i G=>i<=n/\G[0]?=some (ah 1 ((nx g n c i).map aC))/\G[1]?=some (ah 1 [[.sl 0 0 0 n]])) [] (fun i=>n-i) _ [2,3,7,27,28] (fun _=>rfl) ?_ 0 _ e ⟨by omega,by rw[aeF hc,Z];rfl,rfl⟩ rfl);rintro i ⟨s,G,u⟩ e ⟨i0,Q,af⟩ g5;simp only at e i0 Q af g5;subst g5;simp at e;have⟨f,h,j,l,p⟩:=e;by_cases d:i<n
  case neg=>
   have hi:i=n:=by omega
   rw[hi,afR hn]at Q;simp[-getElem?_pos,f,h,j,l,p,d,Q,af]
  refine eh (fun S=>Has S.env [(2,.c (.aJ [[I n,.aj R]] 0 0)),(3,.c (.aJ [[.aj C]] 0 0)),(7,au 1),(27,aa n),(28,aa i),(29,aR true)]/\S.bG=[]/\S.heap=G) ?_ ?_
  .simp[f,h,j,l,p,d]
  rintro⟨s,T,u⟩⟨e,rfl,H⟩;simp only at e H;obtain rfl:G=T:=H.symm;simp at e;have⟨f,h,j,l,p,a1⟩:=e;refine eh (fun S=>Has S.env [(2,.c (.aJ [[I n,.aj R]] 0 0)),(3,.c (.aJ [[.aj C]] 0 0)),(7,au 1),(27,aa n),(28,aa i)]/\S.bG=[]/\S.heap=G) ?_ ?_
  .simp[f,h,j,l,p,a1]
  rintro⟨s,T,u⟩⟨e,rfl,H⟩;simp only at e H;obtain rfl:G=T:=H.symm;simp at e;have⟨f,h,j,l,p⟩:=e;have hw:adW.wrap ((i:Int)+1)=((i+1:Nat):Int):=cv (by omega);refine eh (fun S=>Has S.env [(2,.c (.aJ [[I n,.aj R]] 0 0)),(3,.c (.aJ [[.aj C]] 0 0)),(7,au 1),(27,aa n),(28,aa i)]/\S.bG=[]/\S.heap[0]?=some (ah 1 ((nx g n c (i+1)).map aC))/\S.heap[1]?=some (ah 1 [[.sl 0 0 0 n]])) ?_ ?_
  case refine_2=>rintro⟨s,T,u⟩ ⟨e,rfl,D,v⟩;simp only at e D v;simp at e;have⟨f,h,j,l,p⟩:=e;simp[-getElem?_pos,-ad0,f,h,j,l,p,hw];exact⟨i+1,by omega,rfl,by omega,D,v⟩
  rw[eC];refine Ends.bl ?_;have l0:=bf Q;have l1:=bf af;have⟨N,hN⟩:=ak G.length;have⟨r,ab⟩:=ak (ec g (i:Int));have⟨O,hO⟩:=ak (nx g n c i);have a2:O.length=n:=by rw[<-hO];exact wV ..
  have aw:O[i]?=some (bD c i):=by rw[<-hO,z7 d,if_neg (by omega)]
  have a3:bD c (i:Int)=c[i]'(by omega):=pz (by omega);have ax:C[i]?=some [I (bD c i)]:=by rw[<-Z,adf,abM (by omega),a3];rfl
  have ag:∀b∈r,0<=b/\b<n/\b≠i:=fun b E=>by rw[<-ab]at E;exact F8 hI d b E
  have a4:r.length<=400:=by rw[<-ab];unfold ec;rw[if_pos Y];have v:=DW (eM i g.bw);have L:=DY i g.bw;omega
  have aN:=aI (i:Int);rw[ab]at aN;rw[hO]at Q;have ad:nx g n c (i+1)=O.set i (ke g c i):=by rw[Zb d,hO]
  have t0:∀K,(G++K)[0]?=some (ah 1 (O.map aC)):=fun K=>by rw[abE l0];exact Q
  have t1:∀K,(G++K)[1]?=some (ah 1 [[.sl 0 0 0 n]]):=fun K=>by rw[abE l1];exact af
  have tN:∀x K,(G++x::K)[N]?=some x:=fun x K=>by rw[aea (by omega),hN,ajB];rfl
  have a5:∀x y K,(G++x::y::K)[N+1]?=some y:=fun x y K=>by rw[aea (by omega),hN,akC];rfl
  have sN:∀x y,(G++[x]).set N y=G++[y]:=fun x y=>by rw[ajw _ _ (by omega),hN,ajB];rfl
  refine eh (fun S=>Has S.env [(2,.c (.aJ [[I n,.aj R]] 0 0)),(3,.c (.aJ [[.aj C]] 0 0)),(7,au 1),(27,aa n),(28,aa i),(8,au N)]/\S.bG=[]/\S.heap=G++[ah 1 [[I i]]]) ?_ ?_
  .simp[-getElem?_pos,f,h,j,l,p,hN,tN,sN]
  rintro⟨s,G1,u⟩⟨e,rfl,az⟩;simp only at e az;simp at e;have⟨f,h,j,l,p,t⟩:=e;refine eh (fun S=>Has S.env [(2,.c (.aJ [[I n,.aj R]] 0 0)),(3,.c (.aJ [[.aj C]] 0 0)),(7,au 1),(27,aa n),(28,aa i),(8,au N),(9,bd (N+1) 0 0 r.length)]/\S.bG=[]/\S.heap=G++[ah 1 [[I i]],ah 1 (r.map aC)]) ?_ ?_
  .simp[-aD,-getElem?_pos,f,h,j,l,p,t,az,tN,aN,hN]
  clear az;rintro⟨s,w,u⟩ ⟨e,rfl,U⟩;simp only at e U;simp at e;have⟨f,h,j,l,p,t,z⟩:=e;have D:w[0]?=some (ah 1 (O.map aC)):=by rw[U];exact t0 _
  have v:w[1]?=some (ah 1 [[.sl 0 0 0 n]]):=by rw[U];exact t1 _
  have L:w[N]?=some (ah 1 [[I i]]):=by rw[U];exact tN _ _
  have h3:w[N+1]?=some (ah 1 (r.map aC)):=by rw[U];exact a5 _ _ _
  have br:2<=N:=by omega
  clear U;have aA:=vL (g:=295) (caps:=[.aJ [[.aj C]] 0 0,.aJ [[I i]] 0 0]) r (by unfold maxLen;omega) (fun b=>decide (bD c b=0)&&decide (b>(i:Int))) (by rw[(show tz.md 295=0 from rfl)];decide) (by simp[cy,bC,bA,M]) (bi r) (fun b E=>by have:=aav (c:=c) (a:=i) (ag b E).1 (by rw[hc];exact(ag b E).2.1);rw[Z]at this;exact this)
  have aB:=bi r;have ai:(r.map aC).length=r.length:=aio ..;have⟨al,hL⟩:=ak (r.map aC);have⟨m,hm⟩:=ak r.length;rw[hL]at h3 aA aB ai;rw[hm]at z ai a4;have aP:al.take m=al:=acu (by omega);have bs:(((i:Int)).toNat)=i:=by omega
  have iC:i<C.length:=by omega
  by_cases V:bD c i=0
  case neg=>have ae:ke g c i=bD c i:=vo V;have aE:O.set i (bD c i)=O:=lJ aw;rw[ae,aE]at ad;rw[ad];simp[-getElem?_pos,f,h,j,l,p,t,z,D,v,L,h3,ax,iC,V]
  have⟨an,aF⟩:=ak (r.any fun b=>decide (bD c b=0)&&decide (b>(i:Int)));rw[aF]at aA;have aQ:aO tz ay 152 [bd (N+1) 0 0 m,.c (.bF 295 [.aJ [[.aj C]] 0 0,.ptr N 0 0 0])] w=some (aR an,w):=by simp[-getElem?_pos,L,h3,ai,aP,aB,M,aA]
  cases an with
  |true=>
   have ae:ke g c i=bD c i:=by unfold ke;simp only[ab];rw[if_pos (.inr aF)]
   have aE:O.set i (bD c i)=O:=lJ aw;rw[ae,aE]at ad;rw[ad];simp[-aD,-getElem?_pos,f,h,j,l,p,t,z,D,v,L,ax,iC,V,aQ]
  |false=>
  have⟨F,aG⟩:=ak (r.map (bD c));have bt:F.length=m:=by rw[<-aG];simpa using hm
  have ae:ke g c i=mP F (m+1) 1:=by unfold ke;simp only[ab];rw[if_neg (by rw[aF];simp[V]),aG,hm]
  refine eh (fun S=>Has S.env [(2,.c (.aJ [[I n,.aj R]] 0 0)),(3,.c (.aJ [[.aj C]] 0 0)),(7,au 1),(27,aa n),(28,aa i),(8,au N),(9,bd (N+1) 0 0 m)]/\S.bG=[]/\S.heap=w) ?_ ?_
  .simp[-aD,-getElem?_pos,f,h,j,l,p,t,z,D,v,L,ax,iC,V,aQ]
  rintro⟨s,T,u⟩⟨e,rfl,aT⟩;simp only at e aT;obtain rfl:w=T:=aT.symm;simp at e;have⟨f,h,j,l,p,t,z⟩:=e;have a6:(O.map aC)[i]?=some [I 0]:=by rw[adf,aw,V];rfl
  have a8:i< (O.map aC).length:=by rw[aio];omega
  have a9:i<O.length:=by omega
  have bb:(O.map aC).set i [I 1]=(O.set i 1).map aC:=by rw[aiC];rfl
  refine eh (fun S=>Has S.env [(2,.c (.aJ [[I n,.aj R]] 0 0)),(3,.c (.aJ [[.aj C]] 0 0)),(7,au 1),(27,aa n),(28,aa i),(8,au N),(9,bd (N+1) 0 0 m)]/\S.bG=[]/\S.heap=w.set 0 (ah 1 ((O.set i 1).map aC))) ?_ ?_
  .simp[-getElem?_pos,-aiC,f,h,j,l,p,t,z,D,v,L,a6,a8,a9,d,bb]
  rintro⟨s,G3,u⟩⟨e,rfl,W⟩;simp only at e W;simp at e;rw[eC];have A:G3[0]?=some (ah 1 ((O.set i 1).map aC)):=by rw[W];exact ba D
  have j1:G3[1]?=some (ah 1 [[.sl 0 0 0 n]]):=by rw[W,aat (by omega)];exact v
  have j2:G3[N]?=some (ah 1 [[I i]]):=by rw[W,aat (by omega)];exact L
  have j3:G3[N+1]?=some (ah 1 al):=by rw[W,aat (by omega)];exact h3
  clear W;refine Ends.bl (gM (fun k:Nat=>[(2,.c (.aJ [[I n,.aj R]] 0 0)),(3,.c (.aJ [[.aj C]] 0 0)),(7,au 1),(27,aa n),(28,aa i),(8,au N),(9,bd (N+1) 0 0 m)]) (fun k K=>(∀q:Nat,q<k->(1:Int)+q∈F)/\K[0]?=some (ah 1 ((O.set i ((1:Int)+k)).map aC))/\K[1]?=some (ah 1 [[.sl 0 0 0 n]])/\K[N]?=some (ah 1 [[I i]])/\K[N+1]?=some (ah 1 al)) [] (fun k=>m+1-k) _ [2,3,7,27,28,8,9] (fun _=>rfl) ?_ 0 _ (by simpa using e) ⟨fun q hq=>by omega,A,j1,j2,j3⟩ rfl);clear A j1 j2 j3 e;rintro k ⟨s,K,u⟩ e ⟨k1,A,j1,j2,j3⟩ g5;simp only at e k1 A j1 j2 j3 g5;subst g5;simp at e;have⟨f,h,j,l,p,t,z⟩:=e;have bu:k<=m:=by have:=A6 k 1 F k1;omega
  have aU:i< (O.set i ((1:Int)+k)).length:=by rw[aiP];omega
  have aV:(O.set i ((1:Int)+k))[i]=1+k:=by simp
  have aH:=vL (g:=296) (caps:=[.aJ [[.aj C]] 0 0,.aJ [[.aj ((O.set i ((1:Int)+k)).map aC)]] 0 0,.aJ [[I i]] 0 0]) r (by unfold maxLen;omega) (fun b=>decide (bD c b=1+k)) (by rw[(show tz.md 296=0 from rfl)];decide) (by simp[-aiC,cy,bC,bA,M,bi]) (bi r) (fun b E=>by have:=adF (c:=c) (o:=O.set i ((1:Int)+k)) (a:=i) (ag b E).1 (by rw[hc];exact(ag b E).2.1) aU;rw[Z,aV]at this;exact this)
  have bc:(r.any fun b=>decide (bD c b=1+k))=decide ((1:Int)+k∈F):=by rw[<-aG,aj3];simp
  rw[bc,hL]at aH;have⟨P,X⟩:=ak ((O.set i ((1:Int)+k)).map aC);have aW:P.length=n:=by rw[<-X];simp[a2]
  have bg:P[i]?=some [I (1+k)]:=by rw[<-X,adf,abM aU,aV];rfl
  have bj:bA P=true:=by rw[<-X];exact bi _
  have bk:P.take n=P:=acu (by omega);rw[X]at A aH;have am:aO tz ay 152 [bd (N+1) 0 0 m,.c (.bF 296 [.aJ [[.aj C]] 0 0,.ptr 1 0 0 0,.ptr N 0 0 0])] K=some (aR (decide ((1:Int)+k∈F)),K):=by simp[-getElem?_pos,A,j1,j2,j3,ai,aP,aW,bk,bj,aB,M,aH,jR]
  by_cases ao:(1:Int)+k∈F
  case neg=>have bm:=NZ F (m+1) k 1 k1 ao (by omega);rw[ad,ae,bm,X];rw[decide_eq_false ao]at am;simp[-aD,-getElem?_pos,f,h,j,l,p,t,z,A,j1,am]
  rw[decide_eq_true ao]at am;have bn:adW.wrap ((1:Int)+k+1)=1+((k+1:Nat):Int):=by rw[wrap_i64]<;>omega
  have bo:P.set i [I (1+((k+1:Nat):Int))]=(O.set i (1+((k+1:Nat):Int))).map aC:=by rw[<-X,aiC,ajN,aiC];rfl
  have iP:i<P.length:=by omega
  simp[-aD,-getElem?_pos,-ad0,-aiC,f,h,j,l,p,t,z,A,j1,j2,bg,iP,d,aW,am,bn,bo];refine⟨k+1,by omega,fun q hq=>?_,ba A,?_,j3⟩
  .by_cases e1:q=k
   .subst e1;exact ao
   .exact k1 q (by omega)
  .rw[aat (by omega)];exact j2
 rintro s G⟨a7,_⟩⟨g0,e⟩;have aX:=bi (iW g c);have aY:((iW g c).map aC).length=n:=by simp[iW,hn]
 have⟨aZ,hU⟩:=ak ((iW g c).map aC);rw[hU]at g0 aX aY|-;have hk:aZ.take n=aZ:=acu (by omega);simp[-getElem?_pos,a7,g0,e,aX,aY,hk]
def agf{c:List Int}(hp:∀x∈c,0<=x)(b:Int):0<=bD c b:=by
 unfold bD;rw[ae5];by_cases h:b.toNat<c.length
 .rw[abM h];exact hp _ (aix h)
 .rw[aiE (by omega)];exact aka _
def Ui{g:Gr}{c:List Int}(hp:∀x∈c,0<=x):∀x∈iW g c,0<=x:=by
 intro x b;unfold iW at b;obtain⟨a,_,rfl⟩:=aiK.1 b;unfold ke;simp only;split
 .exact agf hp _
 .have:=zQ ((ec g a).map (bD c)) ((ec g a).length+1) 1;omega
def Ux{g:Gr}(r:fa g=true){a:List Int}{j:Nat}(s:pa g=some (a,j)):aS tz ay 0 168 [.agg (bQ g)]=some (.aM [bd 0 0 0 a.length,aa j,aa 0],[ah 1 (a.map aC)]):=by
 refine be func168 rfl ?_;simp only[f168,cr];have⟨q1,q2,q3,q4,q5⟩:=(nD g).1 r;obtain⟨n,hn⟩:∃n:Nat,g.n=n:=⟨g.n.toNat,by omega⟩;have af:n<=64:=by omega
 have u:=xW g (by omega);rw[if_pos r]at u;have L:=fun(c:List Int) hc hp=>Um (c:=c) r hn hc hp;have w:=jU g.bw;have⟨R,M⟩:=ak (g.bw.map du);have U:bQ g=[I n,.aj R]:=by unfold bQ;rw[hn,M]
 rw[M]at w;rw[U]at u L|-;unfold pa at s;rw[hn,ais]at s;refine bp [(1,.c (.aJ [[I n,.aj R]] 0 0))] (fun G=>G=[]) ?_ ?_
 .simp
 rintro k G⟨z,_⟩rfl;refine bp [(1,.c (.aJ [[I n,.aj R]] 0 0))] (fun G=>G=[]) ?_ ?_
 .simp[z,u,w]
 rintro k G⟨z,_⟩rfl;refine bp [(1,.c (.aJ [[I n,.aj R]] 0 0)),(6,bd 0 0 0 n),(7,aa (0:Nat))] (fun G=>G=[ah 1 ((ahv n (0:Int)).map aC)]) ?_ ?_
 .have V:n<=maxLen:=by unfold maxLen;omega
  have W:n*8<=140737488355328:=by omega
  have X:8*(n:Int)<=281474976710656:=by omega
  simp[z,V,W,X]
 rintro k G Y rfl;refine eh (fun S=>∃h v,S.env.get 6=some (bd h v 0 n)/\S.env.get 7=some (aa j)/\S.bG=[]/\S.heap[h]?=some (.live v 1 (a.map aC))/\a.length=n) ?_ ?_
 .rw[eC];refine iv (fun x:Nat×List Int×Nat×Nat×Nat=>[(1,.c (.aJ [[I n,.aj R]] 0 0)),(6,bd x.2.2.2.1 x.2.2.2.2 0 n),(7,aa x.2.2.1)]) (fun x G=>ul g x.1 x.2.1 x.2.2.1=some (a,j)/\x.2.1.length=n/\(∀y∈x.2.1,0<=y)/\x.2.2.1+x.1<=n+1/\G[x.2.2.2.1]?=some (.live x.2.2.2.2 1 (x.2.1.map aC))) (fun x=>x.1) ?_ (n+1,ahv n 0,0,0,0) Y ⟨s,by simp,by simp,by simp,rfl⟩ fun _=>rfl;rintro⟨m,c,t,h,v⟩ k G ⟨A,B,D,_⟩ ⟨b,l,E,Z,d⟩;simp only at A B D b l E Z d;have F:=Hd c 0 (by unfold maxLen;omega);have H:=L c l E;have f:=bi c;have N:=bi (iW g c);have ab:(iW g c).length=n:=by simp[iW,hn]
  unfold aG at F;have⟨C,i⟩:=ak (c.map aC);have o:C.length=n:=by rw[<-i];simpa using l
  have p:C.take n=C:=acu (by omega);rw[i]at d F H f;have⟨ad,J⟩:=ak ((iW g c).map aC);rw[J]at H N;have q:aO tz ay 128 [bd h v 0 n,aa 0] G=some (aR (decide ((0:Int)∈c)),G):=by simp[d,o,p,f,F]
  cases m with
  |zero=>simp[ul]at b
  |succ m=>
  unfold ul at b;by_cases e:(0:Int)∈c
  case neg=>rw[if_neg e]at b;simp only[ab1,aca]at b;obtain⟨rfl,rfl⟩:=b;rw[decide_eq_false e]at q;simp[-aD,A,B,D,q,d,l,i];exact⟨_,_,⟨rfl,rfl⟩,d⟩
  rw[if_pos e]at b;rw[decide_eq_true e]at q;have ae:aO tz ay 246 [.agg [I n,.aj R],bd h v 0 n] G=some (.aM [bd G.length 0 0 n,aa 0],G++[ah 1 ad]):=by simp[d,o,p,f,w,N,H];intro x O;rw[<-J]at O;obtain⟨ag,_,rfl⟩:=aiK.1 O;rfl
  have hw:adW.wrap ((t:Int)+1)=((t+1:Nat):Int):=cv (by omega);simp[-aD,-ad0,A,B,D,q,ae,hw];exact⟨m,by omega,iW g c,t+1,G.length,0,⟨⟨rfl,rfl⟩,rfl⟩,b,ab,Ui E,by omega,by rw[aea (ad3 _),ajB,J];rfl⟩
 rintro⟨k,G,ds⟩⟨h,v,P,Q,rfl,K,T⟩;simp only at P Q K;have f:=bi a;have⟨C,i⟩:=ak (a.map aC);have o:C.length=n:=by rw[<-i];simpa using T
 have p:C.take n=C:=acu (by omega);rw[i]at K f|-;simp[P,Q,K,f,o,p,T]
def agM(e:gU tz){a:List aw}{H:List Ob}{r:aw}{b:List Ob}(h:wi a H=some (r,b)):Call aaG 168 a H r b:=by
 unfold wi at h;split at h
 .rename_i n l;split at h
  .rename_i rows d;split at h
   .rename_i i f;split at h
    .rename_i g;split at h
     .rename_i c k hc;cases h;rw[GU _ _ f]at d;refine P8 d (oP e ?_);have:=Ux g hc;simp only[bQ]at this;simp[this,bi,jU]
     .cases h
    .cases h
   .cases h
  .cases h
 .cases h
section
variable [W]
variable{f:FuncId}{vs:List aw}{H H':List Ob}{r:aw}
def gB(w:W){h:List aw->List Ob->Option (aw×List Ob)}(e:(@tz w).dF f=h)(a:(@tz w).dF f vs H=some (r,H')):h vs H=some (r,H'):=by rw[<-e];exact a
def wE(w:W)(b:f∈qj)(a:(@tz w).dF f vs H=some (r,H')):Call aaG f vs H r H':=by
 have c:f=52\/f=124\/f=191\/f=195\/f=200:=by simpa[qj]using b
 rcases c with rfl|rfl|rfl|rfl|rfl
 .exact absurd a (by simp[show(@tz w).dF 52=fun _ _=>none by kernel_rfl])
 .exact QM (gB w (h:=nw 8) (by kernel_rfl) a)
 .exact K7 (gB w (h:=uh) (by kernel_rfl) a)
 .exact M0 (gB w (h:=ue 4 [I 0,ap,I 0,I 0]) (by kernel_rfl) a)
 .exact Od (gB w (h:=nw 2) (by kernel_rfl) a)
def JO(w:W)(a:(@tz w).dH f=true):f∈qj\/f∈sT w.k:=by have b:(qj.contains f||(sT w.k).contains f)=true:=(Bool.and_eq_true_iff.1 a).2;simpa[ajJ]using b
def EF(w:W)(a:w.k≠4){g:FuncId}(h:(@tz w).kR g=true):False:=by have:(ajx g 147&&ajx w.k 4)=true:=h;simp at this;exact a this.2
def Bt:gU (@tz W2):={
 enters:=uI
 qS:=fun f vs H r H' b a=>by
  rcases JO W2 b with h|h
  .exact wE W2 h a
  .obtain rfl:f=114:=akz.1 h
   exact Ig ov (gB W2 (h:=ng) (by kernel_rfl) a)
 kR:=fun g vs h=>(EF W2 (by decide) h).elim
 follows:=wW
 code:=@yJ W2}
def acE:gU (@tz W3):={
 enters:=uI
 qS:=fun f vs H r H' b a=>by
  rcases JO W3 b with h|h
  .exact wE W3 h a
  .have c:f=114\/f=248\/f=45:=by
    have d:f∈ [114,248,45]:=h
    simpa using d
   rcases c with rfl|rfl|rfl
   .exact Ig ov (gB W3 (h:=ng) (by kernel_rfl) a)
   .exact MF Bt (gB W3 (h:=rh) (by kernel_rfl) a)
   .exact R7 ov (gB W3 (h:=fJ 1) (by kernel_rfl) a)
 kR:=fun g vs h=>(EF W3 (by decide) h).elim
 follows:=wW
 code:=@yJ W3}
def vK:List Nat:=[43,44,45,46,47,57,98,114,190,185,318,168,248]
def Qz(w:W)(b:f∈vK)(a:(@tz w).dF f vs H=some (r,H')):Call aaG f vs H r H':=by
 have c:f=43\/f=44\/f=45\/f=46\/f=47\/f=57\/f=98\/f=114\/f=190\/f=185\/f=318\/f=168\/f=248:=by simpa[vK]using b
 rcases c with rfl|rfl|rfl|rfl|rfl|rfl|rfl|rfl|rfl|rfl|rfl|rfl|rfl
 .exact Wa ov (gB w (h:=fJ 10) (by kernel_rfl) a)
 .exact Vl ov (gB w (h:=fJ 8) (by kernel_rfl) a)
 .exact R7 ov (gB w (h:=fJ 1) (by kernel_rfl) a)
 .exact SM ov (gB w (h:=fJ 2) (by kernel_rfl) a)
 .exact Z4 ov (gB w (h:=fJ 4) (by kernel_rfl) a)
 .exact o57 ov (gB w (h:=fJ 3) (by kernel_rfl) a)
 .exact V9 (gB w (h:=vj) (by kernel_rfl) a)
 .exact Ig ov (gB w (h:=ng) (by kernel_rfl) a)
 .exact ZD ov (gB w (h:=jX gJ) (by kernel_rfl) a)
 .exact WI ov (gB w (h:=jX jZ) (by kernel_rfl) a)
 .exact Zg Bt (gB w (h:=jX gD) (by kernel_rfl) a)
 .exact agM acE (gB w (h:=wi) (by kernel_rfl) a)
 .exact MF Bt (gB w (h:=rh) (by kernel_rfl) a)
def SO(hA:Call aaG 7 [] [] (aR true) []):gU (@tz W1):={
 enters:=uI
 qS:=fun f vs H r H' i b=>by
  rcases JO W1 i with h|h
  .exact wE W1 h b
  .have c:f∈vK\/f=7:=by
    have d:f∈sT 1:=h
    by_cases e:f=7
    .exact .inr e
    .left
     simp only[sT,vK,aeM,aiV,or_false,e]at d|-
     exact d
   rcases c with c|rfl
   .exact Qz W1 c b
   .have a:=gB W1 (h:=Aj) (by kernel_rfl) b
    unfold Aj at a
    split at a
    .cases a
     exact hA
    .cases a
 kR:=fun g vs h=>(EF W1 (by decide) h).elim
 follows:=wW
 code:=@yJ W1}
end
end Go.Nx
namespace Go.Nx
open Go Go.Proofs Tryz
def nO{a:Go.Act}{t:Nat}(h:t<a.tmps.size)(v:Value):(a.put (some t) v).eval (.tmp t)=v:=by simp[Go.Act.put,Go.Act.eval,aiR,h]
set_option maxHeartbeats 1000000 in
def aga(args:Array Value)(w:World):CallsD aaG 147 args .returning w fun e u j=>u= .returning/\e= .returned (.tuple #[])/\j=(w.alloc (.cells #[.int .i64 0] 269)).setCell ⟨w.heap.size,0,none⟩ (.int .i64 0):=by
 refine callsD_of_wpS func147 rfl fun k cs l=>?_;have m:∀w,(alv .nilIface 20 269 true).run aaG w= .ok (.tuple #[.agg #[.int .i64 0],.bool false]) w:=fun w=>by kernel_rfl
 have n:13<=(args++ak1 (f147.ntmps-args.size) undef).size:=by rw[ntmps147];simp;omega
 generalize args++ak1 (f147.ntmps-args.size) undef=T at n;have i:2<T.size:=by omega
 have a:3<T.size:=by omega
 have b:4<T.size:=by omega
 have c:5<T.size:=by omega
 have d:6<T.size:=by omega
 have f:7<T.size:=by omega
 have g:8<T.size:=by omega
 have h:9<T.size:=by omega
 apply wpS_seq;apply wpS_region;simp[wpOpsS,go_sem,recoverD,l,m,Exit.thenS,i,a,b,c,d,f,g,h];apply wpS_seq;apply wpS_region;simp[wpOpsS,go_sem,Exit.thenS,a,b,c,d,f,g,h];refine wpS_cond (t:=false) (by simp[Go.Act.eval,i,a,b,c,d,f,g,h]) ?_;simp only[aes,if_false];refine wpS_of_wp (wp_skip ?_);cases k;simp_all[bodyPostS,results,Tryz.results147]
end Go.Nx
namespace Go.Nx
open Go Go.Proofs Go.RowKit Go.Lib
variable{Γ:az}{H:List Ob}{w:World}
def az.to(Γ:az)(w:World):az:={Γ with w:=w}
def zJ(a:aZ Γ H)(c:Below Γ.w.heap.size Γ.w w):Γ.Le (Γ.to w)where
 F _ _ h:=h
 mem b z h:=c.block b (a.F b z h)
 hs _ i v d:=⟨i,v,d,ad3 _,fun _=>rfl⟩
def Q3(c:aZ Γ H)(a:Below Γ.w.heap.size Γ.w w):Γ.cL (Γ.to w)where
 le:=zJ c a
 os:=a.os
 tape:=a.tape
 output:=a.output
 size:=a.size
 frame b h _:=a.block b h
 mF _ _ h:= .inl h
 lj _ h:= .inl h
def vw(a:aZ Γ H)(c:Below Γ.w.heap.size Γ.w w):aZ (Γ.to w) H where
 len:=a.len
 ob h o e:=(a.ob h o e).aK (zJ a c) rfl (fun _ _ _ _ _ _ d f=>⟨c.block _ (a.X _ d),f,d⟩)
 apart:=a.apart
 F b z h:=aiS (a.F b z h) c.size
 X b h:=aiS (a.X b h) c.size
 G:=a.G.le (zJ a c)
def az.bare(Γ:az):az:=⟨Γ.w,Γ.F,fun _=>False,[]⟩
def wJ(a:aZ Γ H):aZ Γ.bare []where
 len:=rfl
 ob h o b:=by simp at b
 apart h _ _ _ o _ _ _ _ b:=by simp at b
 F:=a.F
 X _ h:=h.elim
 G:=fun p hp=>⟨(a.G p hp).1,by
  have h:=a.G p hp
  simp only[sK,aeM,aiV,or_false]at hp
  rcases hp with rfl|rfl
  .have ⟨_,h⟩:=h
   simp only[li,ag9,aiU,bE,cR,aB]at h|-
   exact h
  .have ⟨_,h⟩:=h
   simp only[bE,cR,aB]at h|-
   exact h⟩
def HM{a:az}(h:Γ.bare.cL a):Below Γ.w.heap.size Γ.w a.w:=⟨h.os,h.tape,h.output,h.size,fun k b=>h.frame k b (fun h=>h)⟩
def GF{P:Program}{f:FuncId}{args:List aw}{r:aw}{c:List Ob}(hc:Call P f args [] r c)(g:aZ Γ H){args':Array Value}(h:bT Γ.bare args args'.toList):
  Calls P f args' Γ.w fun e b=>∃y a,e= .returned y/\a.w=b/\Below Γ.w.heap.size Γ.w b/\aZ a c/\aL a r y:=
 (hc.2 _ (wJ g) _ h).mono fun e b ⟨y,a,i,d,j,k,l⟩=>⟨y,a,i,d,d▸HM j,k,l⟩
def aeD(f:List aw):enters aaG 147=true/\∀Γ H,aZ Γ H->∀args:Array Value,bT Γ f args.toList->CallsD aaG 147 args .returning Γ.w fun e u a=>u= .returning/\∃y b,e= .returned y/\b.w=a/\Γ.cL b/\aZ b H:=by
 refine⟨by kernel_rfl,fun Γ H c args _=>(aga args Γ.w).mono fun e u a ⟨g,h,i⟩=>?_⟩;have d:Below Γ.w.heap.size Γ.w a:=by rw[i];exact((Below.refl _ _).alloc (ad3 _) _).setCell (p:=⟨Γ.w.heap.size,0,none⟩) (ad3 _) _
 exact⟨g,_,Γ.to a,h,rfl,Q3 c d,vw c d⟩
end Go.Nx
namespace Go.Proofs
open Go.Shelf
def Tryz.MX:aml:=⟨fun|169=>52|n=>n,fun|70=>134|9=>9|0=>0|72=>137|37=>135|127=>210|3=>3|5=>5|n=>n,fun|n=>n⟩
def Tryz.Te:amH aaG Tryz.MX:={
 mixed:=by kernel_rfl
 f169:=Tryz.func52.trans (congrArg some (by kernel_rfl))
 t0:=amg
 a0:=Tryz.isAgg0
 z0:=Tryz.sizeOf0
 v0:=amw
 t3:=amf
 a3:=Tryz.isAgg3
 z3:=Tryz.sizeOf3
 v3:=amv
 t9:=alf
 a9:=Tryz.isAgg9
 z9:=Tryz.sizeOf9
 v9:=amt
 t37:=Tryz.underlying135
 a37:=Tryz.isAgg135
 z37:=Tryz.sizeOf135
 v37:=Tryz.zeroValue135
 t70:=akY
 a70:=Tryz.isAgg134
 z70:=Tryz.sizeOf134
 v70:=Tryz.zeroValue134
 t72:=Tryz.underlying137
 a72:=Tryz.isAgg137
 z72:=Tryz.sizeOf137
 v72:=Tryz.zeroValue137
 t127:=Tryz.underlying210
 a127:=Tryz.isAgg210
 z127:=Tryz.sizeOf210
 v127:=Tryz.zeroValue210}
def Tryz.YF:aml:=⟨fun|138=>86|195=>143|218=>144|143=>145|219=>229|217=>280|225=>281|224=>282|267=>283|266=>322|314=>323|n=>n,fun|9=>9|3=>3|4=>4|5=>5|0=>0|46=>248|146=>439|51=>349|n=>n,fun|1=>1|n=>n⟩
def Tryz.P3:amI aaG Tryz.YF:={
 mixed:=by kernel_rfl
 f138:=Tryz.func86.trans (congrArg some (by kernel_rfl))
 f143:=Tryz.func145.trans (congrArg some (by kernel_rfl))
 f195:=Tryz.func143.trans (congrArg some (by kernel_rfl))
 f217:=Tryz.func280.trans (congrArg some (by kernel_rfl))
 f218:=Tryz.func144.trans (congrArg some (by kernel_rfl))
 f219:=Tryz.func229.trans (congrArg some (by kernel_rfl))
 f224:=Tryz.func282.trans (congrArg some (by kernel_rfl))
 f225:=Tryz.func281.trans (congrArg some (by kernel_rfl))
 f266:=Tryz.func322.trans (congrArg some (by kernel_rfl))
 f267:=Tryz.func283.trans (congrArg some (by kernel_rfl))
 f314:=Tryz.func323.trans (congrArg some (by kernel_rfl))
 t0:=amg
 a0:=Tryz.isAgg0
 z0:=Tryz.sizeOf0
 v0:=amw
 t3:=amf
 a3:=Tryz.isAgg3
 z3:=Tryz.sizeOf3
 v3:=amv
 t4:=ame
 a4:=Tryz.isAgg4
 z4:=Tryz.sizeOf4
 v4:=Tryz.zeroValue4
 t5:=amd
 a5:=Tryz.isAgg5
 z5:=Tryz.sizeOf5
 v5:=amu
 t9:=alf
 a9:=Tryz.isAgg9
 z9:=Tryz.sizeOf9
 v9:=amt
 t46:=Tryz.underlying248
 a46:=Tryz.isAgg248
 z46:=Tryz.sizeOf248
 v46:=Tryz.zeroValue248
 t51:=alT
 a51:=Tryz.isAgg349
 z51:=Tryz.sizeOf349
 v51:=Tryz.zeroValue349
 t146:=Tryz.underlying439
 a146:=Tryz.isAgg439
 z146:=Tryz.sizeOf439
 v146:=Tryz.zeroValue439
 g1:=by kernel_rfl}
end Go.Proofs
namespace Go.Nx
open Go Go.Proofs Tryz
instance iW11:W:=W4
abbrev oK:=FuncId->List aw->List Ob->Option (aw×List Ob)
noncomputable def ky(l:List Nat)(a:oK):bu:={tz with dH:=fun f=>l.contains f,dF:=a}
def aeo(l:List Nat)(a:oK):ly (ky l a) 0 60=true:=by kernel_rfl
def aaH(l:List Nat)(a:oK):ly (ky l a) 60 60=true:=by kernel_rfl
def Xw(l:List Nat)(a:oK):ly (ky l a) 120 60=true:=by kernel_rfl
def aaZ(l:List Nat)(a:oK):ly (ky l a) 180 60=true:=by kernel_rfl
def ago(l:List Nat)(a:oK):ly (ky l a) 240 60=true:=by kernel_rfl
def S8(l:List Nat)(a:oK):ly (ky l a) 300 60=true:=by kernel_rfl
def WV(l:List Nat)(a:oK):ly (ky l a) 360 60=true:=by kernel_rfl
def U3(l:List Nat)(b:oK)(f:Nat)(h:Func)(c:Code)(e:f≠52)(d:(ky l b).P.funcs[f]?=some h)(g:h.body=some c):codeOk (ky l b) f (h.params.size+h.nfree) h.ntmps c=true:=by
 have i:f<417:=by have:=(ajC.1 d).1;change f<aaG.funcs.size at this;rwa [Rw]at this
 by_cases j:f<60
 .exact mB (a:=0) (n:=60) (aeo l b) (by omega) (by omega) e d g
 by_cases k:f<120
 .exact mB (a:=60) (n:=60) (aaH l b) (by omega) (by omega) e d g
 by_cases m:f<180
 .exact mB (a:=120) (n:=60) (Xw l b) (by omega) (by omega) e d g
 by_cases o:f<240
 .exact mB (a:=180) (n:=60) (aaZ l b) (by omega) (by omega) e d g
 by_cases p:f<300
 .exact mB (a:=240) (n:=60) (ago l b) (by omega) (by omega) e d g
 by_cases q:f<360
 .exact mB (a:=300) (n:=60) (S8 l b) (by omega) (by omega) e d g
 .exact mB (a:=360) (n:=60) (WV l b) (by omega) (by omega) e d g
def zL(l:List Nat)(d:oK)(k:52∈l)(m:∀f a H r b,f∈l->d f a H=some (r,b)->Call aaG f a H r b):gU (ky l d):={
 enters:=uI
 qS:=fun f a H r b i n=>m f a H r b (by simpa[ky,ajJ]using i) n
 kR:=fun g a h=>by
  have o:(ajx g 147&&ajx 4 4)=true:=h
  obtain rfl:g=147:=by simpa using o
  exact aeD a
 follows:=wW
 code:=fun f p c i q s=>U3 l d f p c (fun e=>by
  subst e
  have j:l.contains 52=false:=i
  rw[ajJ.2 k]at j
  cases j) q s}
end Go.Nx
namespace Go.Nx
open Go Go.Proofs Go.RowKit
variable{vs:List aw}{H H':List Ob}{r:aw}
def wq{l:ab}{s:List UInt8}(h:strOf l=some s):∃b:ByteArray,l= .v (.string b)/\b.data.toList=s:=by
 unfold strOf at h;split at h
 .cases h;exact⟨_,rfl,rfl⟩
 .cases h
def Qp(c:UInt8):∀s:List UInt8,yt c s=s.count c
 |[]=>rfl
 |x::r=>by
  simp only[yt,List.count_cons,Qp c r,beq_iff_eq]
  omega
def Mu(c:UInt8):∀(s:List UInt8) (i:Nat),yM c i s=if alK s c= -1 then -1 else alK s c+i
 |[],i=>rfl
 |x::r,i=>by
  have a:=Lib.indexByte_ge r c
  simp only[yM,alK,Mu c r,beq_iff_eq]
  split<;>split<;>simp_all<;>omega
def Qy{b:ByteArray}{c:UInt8}(h:b.data.toList=[c]):b=⟨#[c]⟩:=by
 have⟨d⟩:=b;simp at h;have:d= #[c]:=by rw[<-amm];simpa using h
 rw[this]
def T0(h:AF vs H=some (r,H')):Call aaG 86 vs H r H':=by
 unfold AF at h;split at h
 .split at h
  .rename_i a b _ _ s c i j;cases h;obtain⟨f,rfl,rfl⟩:=wq i;obtain⟨p,rfl,k⟩:=wq j;obtain rfl:=Qy k;refine⟨by kernel_rfl,fun d l g hc=>?_⟩;simp only[bT,aL,aB]at hc;obtain⟨y,q,t,⟨rfl,_⟩,u,v,m,⟨rfl,_⟩,rfl⟩:=hc;subst m;obtain rfl:g= #[.string f,.string ⟨#[c]⟩]:=by cases g;simp_all
   exact(Any.strings_Count_one Tryz.P3 f c d.w).mono fun e x ⟨n,o⟩=>⟨_,d,n,o.symm,.refl d,l,by
    simp only[aL,aB,Qp,Lib.countByte]
    exact⟨trivial,rfl⟩⟩
  .cases h
 .cases h
def agv(h:AO vs H=some (r,H')):Call aaG 280 vs H r H':=by
 unfold AO at h;split at h
 .split at h
  .rename_i a c _ s g;split at h
   .rename_i p;cases h;obtain⟨b,rfl,rfl⟩:=wq g;refine⟨by kernel_rfl,fun d i f hc=>?_⟩;simp only[bT,aL,aB]at hc;obtain⟨y,q,t,⟨rfl,_⟩,u,v,j,⟨rfl,_⟩,rfl⟩:=hc;subst j;obtain rfl:f= #[.string b,.int .u8 c]:=by cases f;simp_all
    exact(Any.stringslite_IndexByte {Tryz.P3 with} b c d.w).mono fun e x ⟨k,l⟩=>⟨_,d,k,l.symm,.refl d,i,by
     have m:=Mu (al1 c.toNat) b.data.toList 0
     have n:c.toNat.toUInt8=al1 c.toNat:=rfl
     simp only[aL,aB,n,m]
     refine⟨?_,rfl⟩
     split
     .rename_i o;rw[o]
     .simp⟩
   .cases h
  .cases h
 .cases h
end Go.Nx
namespace Go.Nx
open Go Go.Proofs Tryz
def J9:List Nat:=qj++vK++[86,280]
noncomputable abbrev tz0:bu:=ky J9 tz.dF
def JM:gU tz0:=zL J9 tz.dF (by decide) (fun f e H r g b a=>by
 have c:f∈qj\/f∈vK\/f∈ [86,280]:=by
  rcases ain.1 b with h|h
  .rcases ain.1 h with h|h
   .exact .inl h
   .exact .inr (.inl h)
  .exact .inr (.inr h)
 rcases c with h|h|h
 .exact wE W4 h a
 .exact Qz W4 h a
 .have d:f=86\/f=280:=by simpa using h
  rcases d with rfl|rfl
  .exact T0 (gB W4 (h:=AF) (by kernel_rfl) a)
  .exact agv (gB W4 (h:=AO) (by kernel_rfl) a))
def call285:Call aaG 285 [.c (Sg [49]),.c (Sg [44])] [] (bd 0 0 0 1) [ah 1 [[Sg [49]]]]:=xH (n:=60) JM (by kernel_rfl)
def call233(p:Option Addr):Call aaG 233 [.c (.v (.pointer p)),.c (Sg [49])] [] (aa 1) []:=xH (n:=60) JM (by kernel_rfl)
section
variable{Γ:az}{H:List Ob}{w:World}
def SJ(k:aZ Γ H)(l:ajb Γ.w.heap.size Γ.w w):Calls aaG 285 #[.string ⟨#[49]⟩,.string ⟨#[44]⟩] w fun e d=>∃b o cap,e= .returned (.slice (some ⟨b,o,none⟩) 1 cap)/\d.cell? ⟨b,o,none⟩=some (.string ⟨#[49]⟩)/\ajb w.heap.size w d:=by
 refine(GF call285 (Γ:=Γ.to w) (vw k l) (args':= #[.string ⟨#[49]⟩,.string ⟨#[44]⟩]) ?_).mono ?_
 .simp only[bT,aL,aB];exact⟨_,_,rfl,⟨rfl,rfl⟩,_,_,rfl,⟨rfl,rfl⟩,rfl⟩
 .rintro e d⟨y,s,rfl,rfl,m,n,g⟩;simp only[aL,aB]at g;obtain⟨t,ver,a,cap,p,_,rfl,q⟩:=g;have⟨u,i,v,c⟩:=n.obj (h:=0) (ver:=0) (z:=1) (rows:=[[Sg [49]]]) rfl;rw[p]at i;cases i;rcases q rfl with⟨f,_⟩|⟨b,x,f,rfl,rfl,A,r⟩
  .simp only[f]at c;cases c
  .simp only[f]at c;have⟨_,_,_,_,_,cells,T,B,C,j⟩:=c;obtain rfl:=r (by omega);simp only[bE,cR,aB,and_true]at j;obtain⟨_,D,c1,rfl,_⟩:=j;exact⟨b,_,_,rfl,by simpa using c1,m⟩
def S4(c:aZ Γ H)(d:ajb Γ.w.heap.size Γ.w w)(p:Option Addr):Calls aaG 233 #[.pointer p,.string ⟨#[49]⟩] w fun e a=>e= .returned (.int .i64 1)/\ajb w.heap.size w a:=by
 refine(GF (call233 p) (Γ:=Γ.to w) (vw c d) (args':= #[.pointer p,.string ⟨#[49]⟩]) ?_).mono ?_
 .simp only[bT,aL,aB];exact⟨_,_,rfl,⟨rfl,rfl⟩,_,_,rfl,⟨rfl,rfl⟩,rfl⟩
 .rintro e a⟨y,g,rfl,rfl,f,h,b⟩;simp only[aL,aB]at b;obtain⟨rfl,_⟩:=b;exact⟨rfl,f⟩
def Ws:(aaG.info? 3).map (fun i=>(i.zero,i.size,i.bytes))=some (some (.int .i64 0),1,8):=by kernel_rfl
set_option maxRecDepth 100000 in
def WX(h:aZ Γ H)(p:Option Addr):Calls aaG 234 #[.pointer p,.string ⟨#[49]⟩] Γ.w fun e i=>∃b cap a,e= .returned (.slice (some ⟨b,0,none⟩) 1 cap)/\Γ.w.heap.size<=b/\i.heap[b]?=some (.cells a 3 (0,0))/\a[0]?=some (.int .i64 1)/\1<=cap/\cap<=maxLen/\a.size=cap/\ajb Γ.w.heap.size Γ.w i:=by
 have⟨r,s,t,v,x⟩:=info_parts Ws;have M:∀(l:Go.Fn) (first cap:Array Value) (w:World),(Instr.makeFunc l first cap).run aaG w= .ok (.func l first cap) w:=fun _ _ _ _=>rfl;go_enter func234,ntmps234
 go_wp2_with fail
 refine(SJ h (aj4 _ _)).mono ?_;rintro e w1 ⟨b,o,cap,rfl,N,d⟩;go_wp2_with fail
 refine wp_loop_rounds 2 ?_;rw[rounds_succ];go_wp2_with fail
 refine(S4 h d p).mono ?_;rintro e w2 ⟨rfl,y⟩;have c:ajb Γ.w.heap.size Γ.w w2:=d.trans (y.mono d.size);go_wp2_with (at_builtin;refine wpList_append_own _ rfl _ _ 30 rfl Γ.w.heap.size 3 r (.int .i64 0) 1 8 underlying30 s t v x rfl (by decide) _ 0 [] rfl ⟨rfl,.inl ⟨rfl,rfl⟩⟩ ⟨w2.heap.size,0,none⟩ 1 1 [.int .i64 1] rfl rfl ?c1 ?c2 ?c3 ?c4 ?c5 ?_)
 case c1=>
  intro j u f;match j with
  |0=>simp at f;subst f;rw[show(⟨w2.heap.size,0,none⟩:Addr).add 0=⟨w2.heap.size,0,none⟩from rfl,aly _ _ _ _ rfl];rfl
  |j+1=>simp at f
 case c2=>intro u m;simp at m;subst m;rfl
 case c3=>unfold maxLen;omega
 case c4=>omega
 case c5=>have:=c.size;simp;omega
 intro O w3 z A _;have B:ajb Γ.w.heap.size Γ.w w3:=(c.alloc c.size _).grown A (by have:=c.size;simp;omega) (fun k C=>by cases C);obtain⟨P,⟨rfl,D⟩|⟨g,E,a,rfl,F,G,I,J,K,n⟩⟩:=z
 .cases D
 have L:a[0]?=some (.int .i64 1):=by
  have q:(a.toList.take 1)[0]?=some (.int .i64 1):=by have e:0+1=1:=rfl;simp only[Nat.mul_one]at n;rw[n];rfl
  rw[aj6 (by omega)]at q;simpa using q
 go_wp2
 rw[rounds_succ];go_wp2
 go_end0
 go_wp2
 go_ret
 exact⟨g,E,a,rfl,F,G,L,I,J,by simpa using K,B⟩
def az.pY(Γ:az)(w:World)(b cap:Nat):az:=⟨w,Γ.F,fun k=>Γ.X k\/k=b,Γ.hs++[(⟨some b,0,cap,1⟩,0)]⟩
def agV(a:aZ Γ H)(c:ajb Γ.w.heap.size Γ.w w){b cap:Nat}{e:Array Value}{T:TypeId}{l:ab}{y:Value}(r:Γ.w.heap.size<=b)(g:w.heap[b]?=some (.cells e T (0,0)))(x:e[0]?=some y)(A:∀Γ,aB Γ l y)(B:1<=cap)(C:cap<=maxLen)(D:e.size=cap):
  Γ.cL (Γ.pY w b cap)/\aZ (Γ.pY w b cap) (H++[ah 1 [[l]]]):=by
 have j:b<w.heap.size:=by
  rcases aj7 b w.heap.size with h|h
  .exact h
  .simp[ajE h]at g
 have s:Γ.Le (Γ.pY w b cap):=⟨fun _ _ h=>h,fun k z h=>c.block k (a.F k z h),fun h i v t=>⟨i,v,by
  have j:h<Γ.hs.length:=(abW.1 t).1
  simp only[az.pY]
  rw[abE j];exact t,ad3 _,fun _=>rfl⟩⟩
 refine⟨⟨s,c.os,c.tape,c.output,c.size,fun k m _=>c.block k m,fun k z h=> .inl h,fun k h=>?_⟩,?_⟩
 .rcases h with h|rfl
  .exact .inl h
  .exact .inr r
 refine a.put s H.length (by simp[az.pY,a.len]) (fun n hn=>⟨ot _ _ _ hn,by simp only[az.pY];exact ot _ _ _ (by rw[<-a.len];exact hn)⟩) (fun o p=>?_) (fun o E v G p _ f u=>?_) (fun k m _=>c.block k m)
  (fun b z d=> .inl d) (fun b q=> .inl q) (fun k z d=>aiS (a.F k z d) c.size) (fun k q=>?_)
 .simp at p
  subst p
  refine⟨⟨some b,0,cap,1⟩,by simp[az.pY,a.len],C,rfl,.inr rfl,fun z d=>?_,by simpa using B,by simp,e,T,.fresh g,by simp[D],?_⟩
  .have:=a.F _ _ d
   omega
  .simp only[bE,cR,and_true]
   refine⟨rfl,y,?_,A _⟩
   rw[cell_of (w:=(Γ.pY w b cap).w) g]
   exact x
 .simp only[az.pY]at f
  rw[a.len]at f
  simp at f
  rw[<-f.1]at u
  cases u
  exact .inl r
 .rcases q with h|rfl
  .exact aiS (a.X k h) c.size
  .exact j
def adw{d:List aw}{r:aw}{f:List Ob}(h:zu d H=some (r,f)):Call aaG 234 d H r f:=by
 unfold zu at h;split at h
 .split at h
  .rename_i x z a _ j;cases h;obtain⟨A,rfl,k⟩:=wq j;obtain rfl:=Qy k;refine⟨by kernel_rfl,fun Γ c g hc=>?_⟩;simp only[bT,aL,aB]at hc;obtain⟨y,B,C,⟨D,E,p,F,G,rfl,J⟩,K,L,m,⟨rfl,_⟩,rfl⟩:=hc;subst m;obtain rfl:g= #[.pointer p,.string ⟨#[49]⟩]:=by cases g;simp_all
   refine(WX c p).mono ?_;rintro e M ⟨b,cap,N,rfl,n,o,q,i,s,t,u⟩;have⟨v,w⟩:=agV c u n o q (l:=I 1) (fun _=>⟨rfl,rfl⟩) i s t;refine⟨_,_,rfl,rfl,v,w,?_⟩;simp only[aL,aB];refine⟨⟨some b,0,cap,1⟩,0,some ⟨b,0,none⟩,cap,by simp[az.pY,c.len],ad3 _,rfl,fun _=> .inr ⟨b,_,rfl,rfl,by simp,by simpa using i,fun _=>by simp⟩⟩
  .cases h
 .cases h
end
end Go.Nx
namespace Go.Nx
open Go Go.Proofs Go.RowKit
def Av:List UInt8->List UInt8->Bool
 |[],[]=>true
 |a::l,b::m=>ajx a.toNat b.toNat&&Av l m
 |_,_=>false
def Mm:∀ {l m:List UInt8},Av l m=true->l=m
 |[],[],_=>rfl
 |a::l,b::m,h=>by
  simp only[Av,abR,akv]at h
  rw[UInt8.toNat_inj.1 h.1,Mm h.2]
def DU:Int->Int->Bool
 | .ofNat a,.ofNat b=>ajx a b
 | .negSucc a,.negSucc b=>ajx a b
 |_,_=>false
def Nc:∀ {a b:Int},DU a b=true->a=b
 | .ofNat a,.ofNat b,h=>by rw[ajv h]
 | .negSucc a,.negSucc b,h=>by rw[ajv h]
def FV:Value->Value->Bool
 | .int .i64 n,.int .i64 m=>DU n m
 | .int .u64 n,.int .u64 m=>DU n m
 | .bool true,.bool true=>true
 | .bool false,.bool false=>true
 | .slice none 0 0,.slice none 0 0=>true
 | .string s,.string t=>Av s.data.toList t.data.toList
 |_,_=>false
def SN{x y:Value}(h:FV x y=true):x=y:=by
 unfold FV at h;split at h
 .rw[Nc h]
 .rw[Nc h]
 .rfl
 .rfl
 .rfl
 .rename_i s t;have a:=Mm h;have⟨⟨s⟩⟩:=s;have⟨⟨t⟩⟩:=t;simp at a;rw[a]
 .cases h
mutual
def mq:ab->ab->Bool
 | .v x,.v y=>FV x y
 | .aj r,.aj s=>tf r s
 | .ptr a b c d,.ptr e f g h=>ajx a e&&ajx b f&&ajx c g&&ajx d h
 | .sl a b c d,.sl e f g h=>ajx a e&&ajx b f&&ajx c g&&ajx d h
 | .mr a,.mr b=>ajx a b
 |_,_=>false
def sH:List ab->List ab->Bool
 |[],[]=>true
 |a::l,b::m=>mq a b&&sH l m
 |_,_=>false
def tf:List (List ab)->List (List ab)->Bool
 |[],[]=>true
 |a::l,b::m=>sH a b&&tf l m
 |_,_=>false
end
mutual
def Hb:∀ {a b:ab},mq a b=true->a=b
 | .v x,b,h=>by
  cases b<;>simp only[mq]at h<;>first|cases h|rw[SN h]
 | .aj r,b,h=>by
  cases b<;>simp only[mq]at h<;>first|cases h|rw[Cu h]
 | .ptr a b c d,x,h=>by
  cases x<;>simp only[mq,abR,akv]at h<;>first|cases h;done|(obtain⟨⟨⟨rfl,rfl⟩,rfl⟩,rfl⟩:=h;rfl)
 | .sl a b c d,x,h=>by
  cases x<;>simp only[mq,abR,akv]at h<;>first|cases h;done|(obtain⟨⟨⟨rfl,rfl⟩,rfl⟩,rfl⟩:=h;rfl)
 | .mr a,x,h=>by
  cases x<;>simp only[mq,akv]at h<;>first|cases h;done|(subst h;rfl)
 | .aJ ..,_,h=>by simp[mq]at h
 | .eU ..,_,h=>by simp[mq]at h
 | .bF ..,_,h=>by simp[mq]at h
 | .ig ..,_,h=>by simp[mq]at h
 | .mG ..,_,h=>by simp[mq]at h
def Ae:∀ {a b:List ab},sH a b=true->a=b
 |[],[],_=>rfl
 |a::l,b::m,h=>by
  simp only[sH,abR]at h
  rw[Hb h.1,Ae h.2]
 |[],_::_,h=>by simp[sH]at h
 |_::_,[],h=>by simp[sH]at h
def Cu:∀ {a b:List (List ab)},tf a b=true->a=b
 |[],[],_=>rfl
 |a::l,b::m,h=>by
  simp only[tf,abR]at h
  rw[Ae h.1,Cu h.2]
 |[],_::_,h=>by simp[tf]at h
 |_::_,[],h=>by simp[tf]at h
end
def zj:List (List ab×ab)->List (List ab×ab)->Bool
 |[],[]=>true
 |(a,x)::l,(b,y)::m=>sH a b&&mq x y&&zj l m
 |_,_=>false
def LG:∀ {l m:List (List ab×ab)},zj l m=true->l=m
 |[],[],_=>rfl
 |(a,x)::l,(b,y)::m,h=>by
  simp only[zj,abR]at h
  rw[Ae h.1.1,Hb h.1.2,LG h.2]
def Cc:Ob->Ob->Bool
 | .live v z r,.live a b c=>ajx v a&&ajx z b&&tf r c
 | .dead,.dead=>true
 | .mp e,.mp f=>zj e f
 |_,_=>false
def agq{a b:Ob}(h:Cc a b=true):a=b:=by
 unfold Cc at h;split at h
 .simp only[abR,akv]at h;rw[h.1.1,h.1.2,Cu h.2]
 .rfl
 .rw[LG h]
 .cases h
def xC:List Ob->List Ob->Bool
 |[],[]=>true
 |a::l,b::m=>Cc a b&&xC l m
 |_,_=>false
def NN:∀ {l m:List Ob},xC l m=true->l=m
 |[],[],_=>rfl
 |a::l,b::m,h=>by
  simp only[xC,abR]at h
  rw[agq h.1,NN h.2]
def sJ:List aw->List aw->Bool
 |[],[]=>true
 | .c a::l,.c b::m=>mq a b&&sJ l m
 | .agg a::l,.agg b::m=>sH a b&&sJ l m
 |_,_=>false
def Cy:∀ {l m:List aw},sJ l m=true->l=m
 |[],[],_=>rfl
 | .c a::l,.c b::m,h=>by
  simp only[sJ,abR]at h
  rw[Hb h.1,Cy h.2]
 | .agg a::l,.agg b::m,h=>by
  simp only[sJ,abR]at h
  rw[Ae h.1,Cy h.2]
def zK:Ob->Ob->Ob
 | .live v z _,.live _ _ []=> .live v z []
 |o,_=>o
def nF:List Ob->List Ob->List Ob
 |o::H,x::R=>zK o x::nF H R
 |H,_=>H
def ab3(o x:Ob):zK o x=o\/∃v z rows,o= .live v z rows/\zK o x= .live v z []:=by
 unfold zK;split
 .exact .inr ⟨_,_,_,rfl,rfl⟩
 .exact .inl rfl
def Jf:∀(H R:List Ob) (i:Nat),(nF H R)[i]?=H[i]?\/∃v z rows,H[i]?=some (.live v z rows)/\(nF H R)[i]?=some (.live v z [])
 |[],R,i=>by cases R<;>exact .inl rfl
 |o::H,[],i=> .inl rfl
 |o::H,x::R,i=>by
  cases i with
  |zero=>
   simp only[nF,ale,ab1]
   exact ab3 o x
  |succ i=>
   simp only[nF,List.getElem?_cons_succ]
   exact Jf H R i
def KX:∀(H R:List Ob),(nF H R).length=H.length
 |[],R=>by cases R<;>rfl
 |o::H,[]=>rfl
 |o::H,x::R=>by simp only[nF,aip,KX H R]
def Nw{H R:List Ob}{i:Nat}{o:Ob}(h:(nF H R)[i]?=some o):∃a,H[i]?=some a/\a.there=o.there:=by
 rcases Jf H R i with e|⟨v,z,rows,c,b⟩
 .rw[e]at h;exact⟨o,h,rfl⟩
 .rw[h]at b;cases b;exact⟨_,c,rfl⟩
def ahj{g:az}{H:List Ob}(a:aZ g H)(R:List Ob):aZ g (nF H R)where
 len:=by rw[KX];exact a.len
 ob i o h:=by
  rcases Jf H R i with e|⟨v,z,rows,f,c⟩
  .rw[e]at h
   exact a.ob i o h
  .rw[h]at c
   cases c
   have⟨d,l,m,k⟩:=a.ob i _ f
   refine⟨d,l,m,?_⟩
   cases n:d.base with
   |none=>simp
   |some b=>
    simp only[n]at k
    have⟨r,s,t,O,u,cells,T,w,x,P⟩:=k
    exact⟨r,s,t,by simp,u,cells,T,w,x,by simp[bE]⟩
 apart i j v y o Q d A b f c B C D E I J:=by
  have⟨p,K,L⟩:=Nw f
  have⟨q,M,N⟩:=Nw c
  exact a.apart i j v y p q d A b K M (by rw[L];exact B) (by rw[N];exact C) D E I J
 F:=a.F
 X:=a.X
 G:=a.G
def Call.nF{P:Program}{f:FuncId}{args:List aw}{H b R:List Ob}{r:aw}(h:Call P f args H r b)(e:Nx.nF b R=R):Call P f args H r R:=
 ⟨h.1,fun c d a hc=>(h.2 c d a hc).mono fun _ _ ⟨y,g,i,j,k,l,m⟩=>⟨y,g,i,j,k,e▸ahj l R,m⟩⟩
abbrev EI:=List (List aw×List Ob×aw×List Ob)
def xR:EI->List aw->List Ob->Option (aw×List Ob)
 |[],_,_=>none
 |(a,h,r)::t,b,H=>cond (sJ a b&&xC h H) (some r) (xR t b H)
def KU{P:Program}{f:FuncId}:∀ {T:EI} {b:List aw} {H:List Ob} {r:aw} {c:List Ob},xR T b H=some (r,c)->(∀e∈T,Call P f e.1 e.2.1 e.2.2.1 e.2.2.2)->Call P f b H r c
 |(a,h,g)::t,b,H,r,c,e,d=>by
  unfold xR at e
  cases hc:(sJ a b&&xC h H)with
  |true=>
   rw[hc]at e
   cases e
   simp only[abR]at hc
   have:=d _ (ajz ..)
   rw[Cy hc.1,NN hc.2]at this
   exact this
  |false=>
   rw[hc]at e
   exact KU e fun e h=>d e (aiO _ h)
end Go.Nx
namespace Go.Nx
open Go Go.Proofs Tryz
def D6:List Nat:=J9++[234]
noncomputable abbrev tz1:bu:=ky D6 tz.dF
def od:gU tz1:=zL D6 tz.dF (by decide) (fun f b H r c d a=>by
 rcases ain.1 d with h|h
 .exact JM.qS f b H r c (by simpa[ky,ajJ]using h) a
 .obtain rfl:f=234:=by simpa using h
  exact adw (gB W4 (h:=zu) (by kernel_rfl) a))
def fit{C:bu}(b:gU C)(n:Nat){f:FuncId}{a:List aw}{G R:List Ob}{r:aw}(h:(bB C (run C n) f a G).map (fun p=>(p.1,nF p.2 R))=some (r,R)):Call C.P f a G r R:=by have⟨⟨x,H⟩,c,d⟩:=ab4.1 h;injection d with e g;subst e;exact(xH b c).nF g
def oT:List Ob:=[ah 1 [],ah 2 [],ah 6 [],ah 5 [],ah 3 [],ah 1 [[I 0]],.live 1 10 [],ah 1 [[Sg [5,0,1]]],.live 5 6 [[I 3,I 0,I 1,I 0,I 0,.aj []],[I 6,I 0,I 0,I 0,I 0,.aj []],[I 7,I 0,I 1,I 0,I 0,.aj []],[I 6,I 1,I 0,I 0,I 0,.aj []],[I 7,I 1,I 0,I 0,I 0,.aj []],[I 0,I 0,I 0,I 1,I 0,.aj [[I 1]]]],ah 8 [[I 2,I 8,I 1,I 8,I 9,.sl 13 0 0 2,.mr 15,.mr 16]],ah 6 [[I 3,I 0,I 1,I 0,I 0,.aj []]],.mp [([I 0,I 1],.ptr 31 0 0 0)],ah 3 [[I 5,I 1,I 0]],ah 3 [[I 2,I 8,.mr 29]],ah 6 [[I 6,I 0,I 0,I 0,I 0,.aj []]],ah 1 [[Sg [6,0,1]]],ah 1 [[Sg [78,1,1,0,1,0,0,0,0,0,0,0,0,0,0,0,0,0,0,0,0,0,3,5,0,1,81,62,229,102]],[Sg []],[Sg []],[Sg []],[Sg []],[Sg []],[Sg []],[Sg []]],ah 6 [[I 7,I 0,I 1,I 0,I 0,.aj []]],.mp [([I 0,I 1],.ptr 22 0 0 0),([I 1,I 0],.ptr 70 0 0 0)],ah 2 [[.sl 24 0 1 0,I 0]],ah 3 [[.sl 54 0 0 8,I 0,I 0]],ah 3 [[I 6,I 1,I 0]],ah 11 [[I 1,I 2,I 8,I 1,.sl 37 0 0 1,.v (.int .u64 0),I 1,I 1,.v (.int .u64 0),B false,I 0]],ah 6 [[I 6,I 1,I 0,I 0,I 0,.aj []]],.mp [([I 0,I 1],.ptr 55 0 0 0),([I 1,I 0],.ptr 99 0 0 0)],ah 11 [[I 1,I 2,I 8,I 1,.sl 80 0 0 1,.v (.int .u64 0),I 1,I 1,.v (.int .u64 1),B false,I 0]],ah 1 [[Sg [78,1,1,0,1,0,0,0,0,0,0,0,0,0,0,0,0,0,0,0,1,0,3,6,0,1,152,36,136,154]],[Sg []],[Sg []],[Sg []],[Sg []],[Sg []],[Sg []],[Sg []]],.mp [],ah 10 [[I 0,I 2,.aj [[I 1,I 1,I 1,B true,B true,B false,B true,B false]],I 0,.aj [],I 0,.aj [],.aj [[I 1,I 1]],.aj [[I 1]],.aj []],[I 1,I 0,.aj [],I 0,.aj [],I 0,.aj [],.aj [],.aj [],.aj []]],.mp [([I 0,I 1],.ptr 22 0 0 0)],ah 2 [[.sl 24 0 0 1,I 1]],ah 5 [[.ptr 32 0 0 0,.ptr 33 0 0 0,ap,ap,.ptr 30 0 0 0]],ah 11 [[I 1,I 2,I 8,I 1,ap,.v (.int .u64 0),I 0,I 0,.v (.int .u64 0),B false,I 0]],.mp [([I 0,I 1],.ptr 55 0 0 0)],ah 10 [[I 0,I 2,.aj [[I 1,I 1,I 1,B true,B true,B false,B true,B false]],I 0,.aj [],I 0,.aj [],.aj [[I 1,I 1]],.aj [[I 1]],.aj []],[I 1,I 0,.aj [[I 0,I 1,I 0,B false,B false,B true,B false,B true]],I 0,.aj [],I 0,.aj [],.aj [[I 0,I 1]],.aj [],.aj []]],ah 5 [[.ptr 32 0 0 0,.ptr 33 0 0 0,ap,.sl 64 0 0 1,.ptr 30 0 0 0]],ah 2 [[.sl 72 0 0 1,I 1]],ah 6 [[I 7,I 1,I 0,I 0,I 0,.aj []]],ah 5 [[.ptr 32 0 0 0,.ptr 33 0 0 0,.sl 108 0 0 1,.sl 64 0 0 1,.ptr 30 0 0 0]],ah 11 [[I 1,I 2,I 8,I 1,.sl 37 0 1 0,.v (.int .u64 1),I 0,I 0,.v (.int .u64 1),B true,I 0]],ah 2 [[.sl 72 0 1 0,I 0]],ah 3 [[.sl 98 0 0 8,I 0,I 0]],ah 11 [[I 1,I 2,I 8,I 1,.sl 37 0 0 1,.v (.int .u64 0),I 0,I 0,.v (.int .u64 0),B false,I 0]],ah 3 [[.sl 54 0 0 8,I 0,I 1]],.live 1 5 [],.live 1 1 [[I 0],[I 0]],ah 11 [[I 1,I 2,I 8,I 1,.sl 80 0 0 1,.v (.int .u64 0),I 0,I 0,.v (.int .u64 1),B true,I 0]],.live 2 5 [[I 6,I 1,I 0,I 0,ap]],.live 2 1 [[I 0],[I 0],[I 0]],ah 3 [[.sl 98 0 0 8,I 0,I 1]],.live 3 5 [[I 6,I 1,I 0,I 0,ap]],.live 3 1 [[I 0],[I 0],[I 0],[I 0]],ah 10 [[I 0,I 0,.aj [[I 1,I 1,I 0,B true,B true,B false,B true,B false]],I 0,.aj [],I 0,.aj [],.aj [[I 1,I 1]],.aj [],.aj []],[I 1,I 0,.aj [[I 0,I 1,I 0,B false,B false,B true,B false,B true]],I 0,.aj [],I 0,.aj [],.aj [[I 0,I 1]],.aj [],.aj []]],.live 4 5 [[I 6,I 1,I 0,I 0,ap],[I 6,I 0,I 0,I 1,ap]],.live 4 1 [[I 0],[I 0],[I 0],[I 0],[I 0]],ah 6 [[I 0,I 0,I 0,I 1,I 0,.aj [[I 1]]]],ah 11 [],ah 10 [[I 0,I 0,.aj [],I 0,.aj [],I 0,.aj [],.aj [],.aj [],.aj []],[I 1,I 0,.aj [],I 0,.aj [],I 0,.aj [],.aj [],.aj [],.aj []]],ah 2 [[.sl 13 0 0 2,.aj []]],ah 10 [[I 0,I 0,.aj [[I 1,I 1,I 0,B true,B true,B false,B true,B false]],I 2,.aj [[I 1]],I 1,.aj [[I 1,.aj [[I 1]],I 1,I 0]],.aj [[I 1,I 1]],.aj [],.aj []],[I 1,I 0,.aj [[I 0,I 1,I 0,B false,B false,B true,B false,B true]],I 0,.aj [],I 0,.aj [],.aj [[I 0,I 1]],.aj [],.aj []]],.live 5 6 [],ah 10 [],ah 8 [],.live 5 5 [[I 6,I 1,I 0,I 0,ap],[I 6,I 0,I 0,I 1,ap],[I 0,I 0,I 1,I 0,.aj [[I 1]]],[I 1,I 0,I 1,I 0,ap]],.live 5 1 [[I 0],[I 0],[I 0],[I 0],[I 0],[I 0]]]
def hp:List Nat->List Ob
 |[]=>[]
 |i::r=>oT.getD i .dead::hp r
def zn:List Ob:=hp [2,2,8,2,2,2,2,2,2,2,2,2,2]
def call48:Call aaG 48 [.c (Sg te)] [] (.aM [bd 2 5 0 6,aa 0,aa 0]) zn:=fit od 100 (by kernel_rfl)
def OT:List Ob:=hp [2,2,8,2,2,2,2,2,2,2,2,2,2,57,58,27,27,9,10]
def Nz:List Ob:=hp [2,2,8,2,2,2,2,2,2,2,2,2,2,28,1,11,29,9,10,6,3,1,30,4,12,0,0,1,1,27,13,31,42,32,0,0,0,7]
def UG:Call aaG 92 [au 17,.agg [I 3,I 0,I 1,I 0,I 0,.aj []]] OT (.aM [.c (ap),aa 0]) Nz:=fit od 200 (by kernel_rfl)
def OR:List Ob:=hp [2,2,8,2,2,2,2,2,2,2,2,2,2,28,1,11,29,9,10,6,3,1,30,4,12,0,0,1,1,27,13,31,42,32,0,0,0,7,3,5,5,14]
def Og:List Ob:=hp [2,2,8,2,2,2,2,2,2,2,2,2,2,28,1,11,29,9,10,6,3,1,30,4,12,0,0,1,1,33,13,31,22,32,0,0,0,7,3,5,5,14,0,0,1,0,0,1,0,0,3,3,3,1,16,43]
def adg:Call aaG 92 [au 17,.agg [I 6,I 0,I 0,I 0,I 0,.aj []]] OR (.aM [.c (ap),aa 0]) Og:=fit od 200 (by kernel_rfl)
def O2:List Ob:=hp [2,2,8,2,2,2,2,2,2,2,2,2,2,28,1,11,29,9,10,6,3,1,30,4,12,0,0,1,1,33,13,31,22,32,0,0,0,7,44,5,45,14,0,0,1,0,0,1,0,0,3,3,3,1,16,43,5,17]
def Ma:List Ob:=hp [2,2,8,2,2,2,2,2,2,2,2,2,2,34,1,11,18,9,10,6,3,1,19,4,12,0,0,1,1,33,13,35,22,46,0,0,0,7,44,5,45,14,0,0,1,0,0,1,0,0,3,3,3,1,16,20,5,17,1,1,1,1,3,0,7,1,4,6,3,1,36,4,21,0,0,1,1,0,0,0,15,0,0,1]
def Tq:Call aaG 92 [au 17,.agg [I 7,I 0,I 1,I 0,I 0,.aj []]] O2 (.aM [bh [[I 6,I 1,I 0,I 0,ap]],aa 0]) Ma:=fit od 200 (by kernel_rfl)
def Qd:List Ob:=hp [2,2,8,2,2,2,2,2,2,2,2,2,2,34,1,11,18,9,10,6,3,1,19,4,12,0,0,1,1,33,13,35,22,46,0,0,0,7,47,5,48,14,0,0,1,0,0,1,0,0,3,3,3,1,16,20,5,17,1,1,1,1,3,0,7,1,4,6,3,1,36,4,21,0,0,1,1,0,0,0,15,0,0,1,5,23]
def Sq:List Ob:=hp [2,2,8,2,2,2,2,2,2,2,2,2,2,34,1,11,18,9,10,6,3,1,19,4,12,0,0,1,1,24,13,35,22,25,0,0,0,7,47,5,48,14,0,0,1,0,0,1,0,0,3,3,3,1,16,20,5,17,1,1,1,1,3,0,7,1,4,6,3,1,36,4,21,0,0,1,1,0,0,0,15,0,0,1,5,23,0,0,1,0,0,1,0,0,3,3,3,1,26,49]
def adh:Call aaG 92 [au 17,.agg [I 6,I 1,I 0,I 0,I 0,.aj []]] Qd (.aM [.c (ap),aa 0]) Sq:=fit od 200 (by kernel_rfl)
def N3:List Ob:=hp [2,2,8,2,2,2,2,2,2,2,2,2,2,34,1,11,18,9,10,6,3,1,19,4,12,0,0,1,1,24,13,35,22,25,0,0,0,7,50,5,51,14,0,0,1,0,0,1,0,0,3,3,3,1,16,20,5,17,1,1,1,1,3,0,7,1,4,6,3,1,36,4,21,0,0,1,1,0,0,0,15,0,0,1,5,23,0,0,1,0,0,1,0,0,3,3,3,1,26,49,5,37]
def RV:List Ob:=hp [2,2,8,2,2,2,2,2,2,2,2,2,2,52,1,11,18,9,10,6,3,1,19,4,12,0,0,1,1,24,13,38,39,25,0,0,0,7,50,5,51,14,0,0,1,0,0,1,0,0,3,3,3,1,16,20,5,17,1,1,1,1,3,0,7,1,4,6,3,1,40,4,21,0,0,1,1,0,0,0,15,0,0,1,5,23,0,0,1,0,0,1,0,0,3,3,3,1,26,41,5,37,1,1,1,1,3,0,15,1,4,6,0,0,1,0,0,1]
def agB:Call aaG 92 [au 17,.agg [I 7,I 1,I 0,I 0,I 0,.aj []]] N3 (.aM [bh [[I 6,I 0,I 0,I 1,ap]],aa 0]) RV:=fit od 200 (by kernel_rfl)
def OO:List Ob:=hp [2,2,8,2,2,2,2,2,2,2,2,2,2,52,1,11,18,9,10,6,3,1,19,4,12,0,0,1,1,24,13,38,39,25,0,0,0,7,53,5,54,14,0,0,1,0,0,1,0,0,3,3,3,1,16,20,5,17,1,1,1,1,3,0,7,1,4,6,3,1,40,4,21,0,0,1,1,0,0,0,15,0,0,1,5,23,0,0,1,0,0,1,0,0,3,3,3,1,26,41,5,37,1,1,1,1,3,0,15,1,4,6,0,0,1,0,0,1,5,55]
def Sk:List Ob:=hp [2,2,8,2,2,2,2,2,2,2,2,2,2,59,1,11,18,9,10,6,3,1,19,4,12,0,0,1,1,24,13,38,39,25,0,0,0,7,53,5,54,14,0,0,1,0,0,1,0,0,3,3,3,1,16,20,5,17,1,1,1,1,3,0,7,1,4,6,3,1,40,4,21,0,0,1,1,0,0,0,15,0,0,1,5,23,0,0,1,0,0,1,0,0,3,3,3,1,26,41,5,37,1,1,1,1,3,0,15,1,4,6,0,0,1,0,0,1,5,55,6,0,0,1]
def VX:Call aaG 92 [au 17,.agg [I 0,I 0,I 0,I 1,I 0,.aj [[I 1]]]] OO (.aM [bh [[I 0,I 0,I 1,I 0,.aj [[I 1]]],[I 1,I 0,I 1,I 0,ap]],aa 0]) Sk:=fit od 200 (by kernel_rfl)
def Ah:EI:=[([au 17,.agg [I 3,I 0,I 1,I 0,I 0,.aj []]],OT,.aM [.c (ap),aa 0],Nz),([au 17,.agg [I 6,I 0,I 0,I 0,I 0,.aj []]],OR,.aM [.c (ap),aa 0],Og),([au 17,.agg [I 7,I 0,I 1,I 0,I 0,.aj []]],O2,.aM [bh [[I 6,I 1,I 0,I 0,ap]],aa 0],Ma),([au 17,.agg [I 6,I 1,I 0,I 0,I 0,.aj []]],Qd,.aM [.c (ap),aa 0],Sq),([au 17,.agg [I 7,I 1,I 0,I 0,I 0,.aj []]],N3,.aM [bh [[I 6,I 0,I 0,I 1,ap]],aa 0],RV),([au 17,.agg [I 0,I 0,I 0,I 1,I 0,.aj [[I 1]]]],OO,.aM [bh [[I 0,I 0,I 1,I 0,.aj [[I 1]]],[I 1,I 0,I 1,I 0,ap]],aa 0],Sk)]
def afo:∀e∈Ah,Call aaG 92 e.1 e.2.1 e.2.2.1 e.2.2.2:=by
 intro e a;simp only[Ah,aeM,aiV,or_false]at a;rcases a with rfl|rfl|rfl|rfl|rfl|rfl
 .exact UG
 .exact adg
 .exact Tq
 .exact adh
 .exact agB
 .exact VX
def Ru:List Nat:=D6++[92]
noncomputable abbrev zZ:oK:=fun f a H=>cond (ajx f 92) (xR Ah a H) (tz.dF f a H)
noncomputable abbrev XA:bu:=ky Ru zZ
def aal:gU XA:=zL Ru zZ (by decide) (fun f b H r c g e=>by
 cases a:ajx f 92 with
 |true=>
  have d:xR Ah b H=some (r,c):=by simpa[zZ,a]using e
  rw[ajv a];exact KU d afo
 |false=>
  have d:tz.dF f b H=some (r,c):=by simpa[zZ,a]using e
  rcases ain.1 g with h|h
  .exact od.qS f b H r c (by simpa[ky,ajJ]using h) d
  .rw[akz.1 h]at a;cases a)
def Ct:List Ob:=hp [2,2,60,2,2,2,2,2,2,2,2,2,2,61,1,11,18,62,2,6,3,1,1,4,4,0,0,1,1,24,4,3,56,56,0,0,0,0,63,0,64,2,0,0,1,0,0,1,0,0,3,3,3,1,0,4,0,2,1,1,1,1,3,0,0,1,4,6,3,1,1,4,4,0,0,1,1,0,0,0,0,0,0,1,0,2,0,0,1,0,0,1,0,0,3,3,3,1,0,4,0,2,1,1,1,1,3,0,0,1,4,6,0,0,1,0,0,1,0,2,6,0,0,1,0]
def call49:Call aaG 49 [.agg [I 2,.aj []],.agg [I 2,I 8,I 1,I 8,I 9],bd 2 5 0 6] zn (.aM [bd 38 5 0 4,bd 40 5 0 6,aa 0]) Ct:=fit aal 200 (by kernel_rfl)
def Rb:List (List ab):=[[I 6,I 1,I 0,I 0,ap],[I 6,I 0,I 0,I 1,ap],[I 0,I 0,I 1,I 0,.aj [[I 1]]],[I 1,I 0,I 1,I 0,ap]]
def WT:obj Ct 38 5=some (5,Rb):=by kernel_rfl
def yu:List UInt8:=[108,105,118,101,32,49,32,48,10]
def JF:List UInt8:=[108,105,118,101,32,48,32,49,10]
def Mj:List UInt8:=[111,112,101,110,101,100,32,48,32,49,32,49,10]
def X9:List UInt8:=[103,114,97,110,116,101,100,32,48,32,49,10]
def ZQ:Call aaG 51 [.agg [I 6,I 1,I 0,I 0,ap]] [] (.c (Sg yu)) [ah 9 []]:=fit od 100 (by kernel_rfl)
def Y5:Call aaG 51 [.agg [I 6,I 0,I 0,I 1,ap]] [] (.c (Sg JF)) [ah 9 []]:=fit od 100 (by kernel_rfl)
def YJ:Call aaG 51 [.agg [I 0,I 0,I 1,I 0,.aj [[I 1]]]] [] (.c (Sg Mj)) [ah 9 []]:=fit od 100 (by kernel_rfl)
def Ts:Call aaG 51 [.agg [I 1,I 0,I 1,I 0,ap]] [] (.c (Sg X9)) [ah 9 []]:=fit od 100 (by kernel_rfl)
end Go.Nx
namespace Go.Proofs.BuQ
open Go Go.Proofs Go.RowKit
def Hc:(aaG.info? 137).map (·.size)=some 2:=by kernel_rfl
def OF:liesAt aaG aaG.depth 137 (2 / aaG.cellsOf 137) 0 137 1=true:=by kernel_rfl
def MD:(aaG.info? 5).map (fun i=>(i.zero,i.size,i.bytes))=some (some (.int .u8 0),1,1):=by kernel_rfl
set_option maxRecDepth 8000 in
def abQ:Builder.Extra aaG Tryz.MX:={
 sizeBuilder:=Hc
 liesBuilder:=OF
 t5:=amd
 a5:=Tryz.isAgg5
 z5:=Tryz.sizeOf5
 v5:=amu
 infoByte:=MD
 cellsByte:=by kernel_rfl
 sizeByte:=by kernel_rfl
 neB5:=Nat.ne_of_beq_eq_false (by kernel_rfl)}
def string(B b:Nat)(l:List UInt8)(w:World)(h:alL 137 5 B b (alp l) w)(a:B<=w.heap.size):Calls aaG 52 #[.pointer (some ⟨b,0,none⟩)] w fun e c=>e= .returned (.string ⟨l.toArray⟩)/\Below B w c:=
 Any.Builder_String_any Tryz.Te abQ B b l w h a
set_option maxHeartbeats 1000000 in
set_option maxRecDepth 100000 in
def aaf(b:Nat)(w:World)(d:w.cell? ⟨b,0,none⟩=some (.pointer (some ⟨b,0,none⟩))):Calls aaG 93 #[.pointer (some ⟨b,0,none⟩)] w fun e a=>e= .returned (.tuple #[])/\a=w:=by
 have⟨j,c,_⟩:=ab4.1 Hc;go_enter Tryz.func93,Tryz.ntmps93
 go_wp2
 rw[Lib.run_neq_ptr_same w _ akY c];go_wp2
 go_end0
 exact⟨rfl,rfl⟩
set_option maxHeartbeats 1000000 in
set_option maxRecDepth 100000 in
def Zu(b:Nat)(w:World)(g:w.cell? ⟨b,0,none⟩=some (.pointer none))(a:w.shape? b=some (137,2))(h:w.frozen? ⟨b,0,none⟩=false):Calls aaG 93 #[.pointer (some ⟨b,0,none⟩)] w fun e d=>e= .returned (.tuple #[])/\d=w.setCell ⟨b,0,none⟩ (.pointer (some ⟨b,0,none⟩)):=by
 have⟨j,c,f⟩:=ab4.1 Hc;go_enter Tryz.func93,Tryz.ntmps93
 go_wp2
 rw[Lib.run_to_unsafe w ⟨b,0,none⟩ akY Tryz.underlying285 c (by rw[f];decide) a (Nat.zero_lt_succ 1)];simp only[ajd];rw[aky];go_wp2
 rw[run_callFunc_extern Tryz.func154 (by kernel_rfl) (by kernel_rfl) (by kernel_rfl) (e:=amb) (by kernel_rfl)];rw[Lib.run_noEscape];simp only[ajd];rw[aky];go_wp2
 rw[Lib.run_from_unsafe w ⟨b,0,none⟩ Tryz.underlying285 akY c a OF];simp only[ajd];rw[aky];go_wp2
 go_end0
 exact⟨rfl,rfl⟩
def check(B b:Nat)(c:List Value)(w:World)(h:alL 137 5 B b c w):Calls aaG 93 #[.pointer (some ⟨b,0,none⟩)] w fun e a=>e= .returned (.tuple #[])/\(akc 137 5 B b (.pointer (some ⟨b,0,none⟩)) c a/\Below B w a):=by
 rcases h with h|h
 .refine (Zu b w h.cell0 h.shape h.frozen0).mono ?_;rintro e a ⟨rfl,rfl⟩;exact⟨rfl,h.used _,(Below.refl B w).setCell (p:=⟨b,0,none⟩) h.1 _⟩
 .refine (aaf b w h.cell0).mono ?_;rintro e a ⟨rfl,rfl⟩;exact⟨rfl,h,Below.refl B _⟩
set_option maxHeartbeats 2000000 in
set_option maxRecDepth 100000 in
def write(B b:Nat)(a:List Value)(s:ByteArray)(w:World)(h:alL 137 5 B b a w)(H:a.length+s.size<=140737488355328)(I:B<=w.heap.size):
  Calls aaG 50 #[.pointer (some ⟨b,0,none⟩),.string s] w fun e l=>e= .returned (.tuple #[.int .i64 s.size,.nilIface])/\(akc 137 5 B b (.pointer (some ⟨b,0,none⟩)) (a++Lib.strCells s) l/\Below B w l):=by
 have⟨u,x,y,z,A⟩:=info_parts MD
 go_enter Tryz.func50,Tryz.ntmps50
 go_wp2_with fail
 refine(check B b a _ h).mono ?_
 rintro e w1⟨rfl,C,f⟩
 have⟨m,v,c,n,D⟩:=C
 have J:w1.cell? ⟨b,0,none⟩=some (.pointer (some ⟨b,0,none⟩)):=by rw[alh c];rfl
 have c1:w1.cell? ⟨b,1,none⟩=some v:=by rw[alh c];rfl
 go_wp2_with (at_builtin;refine Lib.wpList_append_own_string _ rfl _ _ 135 9 rfl B 5 u Tryz.underlying135 alf x y z A _ _ _ rfl n s rfl ?c3 ?c4 ?c5 ?_)
 case c3=>unfold maxLen;omega
 case c4=>omega
 case c5=>have:=f.size;omega
 intro E w2 o q _
 have F:b<w1.heap.size:=by
  rcases aj7 b w1.heap.size with i|i
  .exact i
  .simp[ajE i]at c
 have d:w2.heap[b]?=some (.cells #[.pointer (some ⟨b,0,none⟩),v] 137 (0,0)):=by
  rw[q.block b F (fun e=>D e.symm)]
  exact c
 have d0:w2.cell? ⟨b,0,none⟩=some (.pointer (some ⟨b,0,none⟩)):=by rw[alh d];rfl
 have d1:w2.cell? ⟨b,1,none⟩=some v:=by rw[alh d];rfl
 have f1:w2.frozen? ⟨b,1,none⟩=false:=Lib.frozen_of_heap d 1
 obtain⟨r,t,cap,rfl⟩:∃r t cap,E= .slice r t cap:=by
  rcases o.2 with⟨j,_⟩|⟨g,cap,K,j,_⟩
  .exact ⟨_,_,_,j⟩
  .exact ⟨_,_,_,j⟩
 go_wp2
 go_ret2
 refine⟨rfl,?_,?_⟩
 .exact Lib.BuilderAt.put (T:=137) (e:=5) m d (bs':=a++Lib.strCells s) (by simpa[Lib.strCells_length]using o) (by decide)
 .exact (f.grown q (by have:=f.size;omega) (fun k G=>(n.lt k G).1)).setCell (p:=⟨b,1,none⟩) m _
end Go.Proofs.BuQ
namespace Go.Nx
open Go Go.Proofs Tryz
section
def Uf{b:az}(h:aZ b []){w:World}(i:ajb b.w.heap.size b.w w):Calls aaG 48 #[.string ⟨te.toArray⟩] w fun e c=>∃y a,e= .returned (.tuple #[y,.int .i64 0,.int .i64 0])/\a.w=c/\(b.to w).bare.cL a/\aZ a zn/\aB a (.sl 2 5 0 6) y:=by
 refine(call48.2 _ (wJ (vw h i)) #[.string ⟨te.toArray⟩] ?_).mono ?_
 .simp only[bT,aL,aB];exact⟨_,_,rfl,⟨rfl,rfl⟩,rfl⟩
 .rintro e c⟨y,a,rfl,rfl,j,k,d⟩;simp only[aL,bT,aB]at d;obtain⟨f,rfl,g,m,n,l,o,p,rfl,⟨rfl,_⟩,q,r,rfl,⟨rfl,_⟩,rfl⟩:=d;obtain rfl:f= #[g,.int .i64 0,.int .i64 0]:=by cases f;simp_all
  refine⟨g,a,rfl,rfl,j,k,?_⟩;simp only[aB];exact l
def Told(w:World)(b o:Nat)(y:Value):Prop:=
 w.cell? ⟨b,o,none⟩=some (.int .i64 6)/\w.cell? ⟨b,o+1,none⟩=some (.int .i64 1)/\w.cell? ⟨b,o+2,none⟩=some (.int .i64 0)/\w.cell? ⟨b,o+3,none⟩=some (.int .i64 0)/\w.cell? ⟨b,o+4,none⟩=some (.slice none 0 0)/\
 w.cell? ⟨b,o+5,none⟩=some (.int .i64 6)/\w.cell? ⟨b,o+6,none⟩=some (.int .i64 0)/\w.cell? ⟨b,o+7,none⟩=some (.int .i64 0)/\w.cell? ⟨b,o+8,none⟩=some (.int .i64 1)/\w.cell? ⟨b,o+9,none⟩=some (.slice none 0 0)/\
 w.cell? ⟨b,o+10,none⟩=some (.int .i64 0)/\w.cell? ⟨b,o+11,none⟩=some (.int .i64 0)/\w.cell? ⟨b,o+12,none⟩=some (.int .i64 1)/\w.cell? ⟨b,o+13,none⟩=some (.int .i64 0)/\w.cell? ⟨b,o+14,none⟩=some y/\
 w.cell? ⟨b,o+15,none⟩=some (.int .i64 1)/\w.cell? ⟨b,o+16,none⟩=some (.int .i64 0)/\w.cell? ⟨b,o+17,none⟩=some (.int .i64 1)/\w.cell? ⟨b,o+18,none⟩=some (.int .i64 0)/\w.cell? ⟨b,o+19,none⟩=some (.slice none 0 0)
def Uw{c:az}(s:aZ c zn){y g:Value}(t:aB c (.sl 2 5 0 6) y)(u:aB c (.aj []) g):Calls aaG 49 #[.agg #[.int .i64 2,g],.agg #[.int .i64 2,.int .i64 8,.int .i64 1,.int .i64 8,.int .i64 9],y] c.w fun e h=>∃b o cap z d a,e= .returned (.tuple #[.slice (some ⟨b,o,none⟩) 4 cap,z,.int .i64 0])/\a.w=h/\c.cL a/\aZ a Ct/\Told h b o d/\aB a.bare (.aj [[I 1]]) d:=by
 refine(call49.2 _ s #[.agg #[.int .i64 2,g],.agg #[.int .i64 2,.int .i64 8,.int .i64 1,.int .i64 8,.int .i64 9],y] ?_).mono ?_
 .simp only[bT,aL,aY];refine⟨_,_,rfl,⟨_,rfl,_,_,rfl,?_,_,_,rfl,u,rfl⟩,_,_,rfl,⟨_,rfl,_,_,rfl,?_,_,_,rfl,?_,_,_,rfl,?_,_,_,rfl,?_,_,_,rfl,?_,rfl⟩,_,_,rfl,t,rfl⟩<;>simp[aB,aiw]
 .rintro e h⟨r,a,rfl,rfl,v,k,l⟩;simp only[aL,bT]at l;obtain⟨m,rfl,x,V,W,n,A,X,rfl,_,Y,Z,rfl,p,rfl⟩:=l;simp only[aB]at p n;obtain⟨rfl,_⟩:=p;obtain rfl:m= #[x,A,.int .i64 0]:=by cases m;simp_all
  obtain⟨aa,ab,ad,cap,B,_,rfl,C⟩:=n;have⟨ae,q,k2,f⟩:=k.obj WT;rw[B]at q;cases q;rcases C rfl with⟨i,_⟩|⟨b,a',i,rfl,rfl,af,D⟩
  .simp only[i]at f;cases f
  .simp only[i]at f;have⟨E,_,_,_,_,cells,ag,m6,m7,j⟩:=f;obtain rfl:=D (by omega);rw[E]at j;simp only[Rb,bE,cR,aB,and_true,true_and,aip,aiQ]at j;obtain⟨⟨⟨_,F,rfl,_⟩,⟨_,G,rfl,_⟩,⟨_,H,rfl,_⟩,⟨_,J,rfl,_⟩,⟨_,K,rfl,_⟩⟩,⟨⟨_,oO,rfl,_⟩,⟨_,L,rfl,_⟩,⟨_,M,rfl,_⟩,⟨_,N,rfl,_⟩,⟨_,O,rfl,_⟩⟩,⟨⟨_,P,rfl,_⟩,⟨_,Q,rfl,_⟩,⟨_,R,rfl,_⟩,⟨_,S,rfl,_⟩,⟨d,T,U⟩⟩,⟨⟨_,xF,rfl,_⟩,⟨_,xp,rfl,_⟩,⟨_,yE,rfl,_⟩,⟨_,xY,rfl,_⟩,⟨_,og,rfl,_⟩⟩⟩:=j;rw[akX,aiB];refine⟨b,_,_,_,d,a,rfl,rfl,v,k,⟨F,G,H,J,K,oO,L,M,N,O,P,Q,R,S,T,xF,xp,yE,xY,og⟩,?_⟩;simp only[bE,cR,aB,and_true,true_and,aip,aiQ];exact U
def eZ{a:az}{i:List Ob}(d:aZ a i){w:World}(j:ajb a.w.heap.size a.w w){l:List ab}{s:List UInt8}{k:List Ob}(hc:Call aaG 51 [.agg l] [] (.c (Sg s)) k){b:Array Value}(m:aY a.bare l b.toList):Calls aaG 51 #[.agg b] w fun e f=>e= .returned (.string ⟨s.toArray⟩)/\ajb w.heap.size w f:=by
 have g:ajb a.bare.w.heap.size a.bare.w w:=j;refine(GF hc (Γ:=a.bare.to w) (vw (wJ d) g) (args':= #[.agg b]) ?_).mono ?_
 .simp only[bT,aL];exact⟨_,_,rfl,⟨_,rfl,kw (zJ (wJ d) g) _ _ m⟩,rfl⟩
 .rintro e f⟨y,o,rfl,rfl,n,p,h⟩;simp only[aL,aB]at h;obtain⟨rfl,_⟩:=h;exact⟨rfl,n⟩
def gu{w c:World}(d:ajb w.heap.size w c){a:Addr}{v:Value}(h:w.cell? a=some v):c.cell? a=some v:=by
 have e:a.block<w.heap.size:=by
  rcases aj7 a.block w.heap.size with b|b
  .exact b
  .simp[World.cell?,ajE b]at h
 rw[d.cell e];exact h
def rJ{T e:TypeId}{B b:Nat}{p:Value}{d:List Value}{w f:World}(h:akc T e B b p d w)(i:ajb w.heap.size w f):akc T e B b p d f:=by
 have k:=h.lt;have⟨l,v,m,⟨n,a⟩,o⟩:=h;refine⟨l,v,by rw[i.block _ k];exact m,⟨n,?_⟩,o⟩;rcases a with a|⟨g,cap,q,r,s,j,t⟩
 .exact .inl a
 .have u:g<w.heap.size:=by
   rcases aj7 g w.heap.size with c|c
   .exact c
   .simp[ajE c]at j
  exact .inr ⟨g,cap,q,r,s,by rw[i.block _ u];exact j,t⟩
set_option maxRecDepth 100000 in
def afp{b:az}(X:aZ b [])(n:Value)(Y:∀Z,aB Z (.aj []) n):Calls aaG 25 #[.agg #[.int .i64 2,n],.agg #[.int .i64 2,.int .i64 8,.int .i64 1,.int .i64 8,.int .i64 9],.string ⟨te.toArray⟩] b.w fun e w'=>e= .returned (.tuple #[.string ⟨wK.toArray⟩,.int .i64 0,.int .i64 0])/\ajb b.w.heap.size b.w w':=by
 go_enter func25,ntmps25
 go_wp2_with fail
 have t:ajb b.w.heap.size b.w ((b.w.alloc (Obj.cells #[ajo adW 2,n] 24)).alloc (Obj.cells #[ajo adW 2,ajo adW 8,ajo adW 1,ajo adW 8,ajo adW 9] 26)):=((aj4 _ _).alloc (ad3 _) _).alloc (by simp) _;refine(Uf X t).mono ?_;rintro e w1 ⟨aS,i,rfl,rfl,F,aa,hy⟩;have j:=HM F;have d0:i.w.cell? ⟨b.w.heap.size,0,none⟩=some (.int .i64 2):=gu j (by simp[go_sem,az.to]);have d1:i.w.cell? ⟨b.w.heap.size,1,none⟩=some n:=gu j (by simp[go_sem,az.to]);have e0:i.w.cell? ⟨b.w.heap.size+1,0,none⟩=some (.int .i64 2):=gu j (by simp[go_sem,az.to]);have e1:i.w.cell? ⟨b.w.heap.size+1,1,none⟩=some (.int .i64 8):=gu j (by simp[go_sem,az.to]);have e2:i.w.cell? ⟨b.w.heap.size+1,2,none⟩=some (.int .i64 1):=gu j (by simp[go_sem,az.to]);have e3:i.w.cell? ⟨b.w.heap.size+1,3,none⟩=some (.int .i64 8):=gu j (by simp[go_sem,az.to]);have e4:i.w.cell? ⟨b.w.heap.size+1,4,none⟩=some (.int .i64 9):=gu j (by simp[go_sem,az.to]);go_wp2_with fail
 refine(Uw aa hy (Y _)).mono ?_;rintro e w2 ⟨aT,aU,cap,aV,y3,a,rfl,rfl,ab,o,ht,k⟩;have G:ajb b.w.heap.size b.w a.w:=t.trans ((HM (F.trans ab)).mono t.size);go_wp2_with fail
 have u:akc 137 5 a.w.heap.size a.w.heap.size (.pointer none) [] (a.w.alloc (.cells #[.pointer none,.slice none 0 0] 137)):=⟨ad3 _,.slice none 0 0,heap_alloc_new _ _,⟨rfl,.inl ⟨rfl,rfl⟩⟩,by simp[Value.ownBlock]⟩;have c:ajb a.w.heap.size a.w (a.w.alloc (.cells #[.pointer none,.slice none 0 0] 137)):=(aj4 _ _).alloc (ad3 _) _;generalize(a.w.alloc (.cells #[.pointer none,.slice none 0 0] 137))=W0 at u c|-;have⟨ad,ae,af,ag,ah,oO,ld,ai,ak,al,am,an,ao,ap,aq,xF,xp,yE,xY,og⟩:=ht
 obtain⟨l,m,rfl⟩:∃l m,y3= .slice (some l) 1 m:=by
  simp only[aB]at k;rcases k with⟨_,h⟩|⟨l,m,_,h,_⟩
  .cases h
  .exact ⟨l,m,h⟩
 refine wp_loop_rounds 5 ?_;rw[rounds_succ];have ar:=gu c ad;have au:=gu c ae;have av:=gu c af;have aw:=gu c ag;have ax:=gu c ah;go_wp2_with fail
 have p:=c.alloc c.size (.cells #[.int .i64 6,.int .i64 1,.int .i64 0,.int .i64 0,.slice none 0 0] 43);refine(eZ o p ZQ ?_).mono ?_
 .simp only[aY];refine⟨_,_,rfl,?_,_,_,rfl,?_,_,_,rfl,?_,_,_,rfl,?_,_,_,rfl,?_,rfl⟩<;>first|exact k|simp[aB,aiw]
 rintro e u0⟨rfl,x⟩;have H:=rJ (rJ u ((aj4 _ _).alloc (ad3 _) _)) x;have y:=p.trans (x.mono p.size);go_wp2_with fail
 refine(BuQ.write _ _ _ _ _ (.inl H) (ajR (by kernel_rfl)) y.size).mono ?_;rintro e W1 ⟨rfl,I,J⟩;have K:akc 137 5 a.w.heap.size a.w.heap.size (.pointer (some ⟨a.w.heap.size,0,none⟩)) (alp (yu)) W1:=I;have d:=y.trans J;clear I H u x p y J c ar au av aw ax;go_wp2_with fail
 rw[rounds_succ];have ay:=gu d oO;have aA:=gu d ld;have aC:=gu d ai;have aD:=gu d ak;have aE:=gu d al;go_wp2_with fail
 have q:=d.alloc d.size (.cells #[.int .i64 6,.int .i64 0,.int .i64 0,.int .i64 1,.slice none 0 0] 43);refine(eZ o q Y5 ?_).mono ?_
 .simp only[aY];refine⟨_,_,rfl,?_,_,_,rfl,?_,_,_,rfl,?_,_,_,rfl,?_,_,_,rfl,?_,rfl⟩<;>first|exact k|simp[aB,aiw]
 rintro e u1⟨rfl,z⟩;have L:=rJ (rJ K ((aj4 _ _).alloc (ad3 _) _)) z;have A:=q.trans (z.mono q.size);go_wp2_with fail
 refine(BuQ.write _ _ _ _ _ (.inr L) (ajR (by kernel_rfl)) A.size).mono ?_;rintro e W2 ⟨rfl,M,N⟩;have O:akc 137 5 a.w.heap.size a.w.heap.size (.pointer (some ⟨a.w.heap.size,0,none⟩)) (alp (yu++JF)) W2:=M;have f:=A.trans N;clear M L K z q A N d ay aA aC aD aE;go_wp2_with fail
 rw[rounds_succ];have aF:=gu f am;have aG:=gu f an;have aH:=gu f ao;have aI:=gu f ap;have aJ:=gu f aq;go_wp2_with fail
 have r:=f.alloc f.size (.cells #[.int .i64 0,.int .i64 0,.int .i64 1,.int .i64 0,.slice (some l) 1 m] 43);refine(eZ o r YJ ?_).mono ?_
 .simp only[aY];refine⟨_,_,rfl,?_,_,_,rfl,?_,_,_,rfl,?_,_,_,rfl,?_,_,_,rfl,?_,rfl⟩<;>first|exact k|simp[aB,aiw]
 rintro e u2⟨rfl,B⟩;have P:=rJ (rJ O ((aj4 _ _).alloc (ad3 _) _)) B;have C:=r.trans (B.mono r.size);go_wp2_with fail
 refine(BuQ.write _ _ _ _ _ (.inr P) (ajR (by kernel_rfl)) C.size).mono ?_;rintro e W3 ⟨rfl,Q,R⟩;have S:akc 137 5 a.w.heap.size a.w.heap.size (.pointer (some ⟨a.w.heap.size,0,none⟩)) (alp (yu++JF++Mj)) W3:=Q;have g:=C.trans R;clear Q P O B r C R f aF aG aH aI aJ;go_wp2_with fail
 rw[rounds_succ];have aK:=gu g xF;have aL:=gu g xp;have aM:=gu g yE;have aN:=gu g xY;have aO:=gu g og;go_wp2_with fail
 have s:=g.alloc g.size (.cells #[.int .i64 1,.int .i64 0,.int .i64 1,.int .i64 0,.slice none 0 0] 43);refine(eZ o s Ts ?_).mono ?_
 .simp only[aY];refine⟨_,_,rfl,?_,_,_,rfl,?_,_,_,rfl,?_,_,_,rfl,?_,_,_,rfl,?_,rfl⟩<;>first|exact k|simp[aB,aiw]
 rintro e u3⟨rfl,D⟩;have T:=rJ (rJ S ((aj4 _ _).alloc (ad3 _) _)) D;have E:=s.trans (D.mono s.size);go_wp2_with fail
 refine(BuQ.write _ _ _ _ _ (.inr T) (ajR (by kernel_rfl)) E.size).mono ?_;rintro e W4 ⟨rfl,U,V⟩;have aP:akc 137 5 a.w.heap.size a.w.heap.size (.pointer (some ⟨a.w.heap.size,0,none⟩)) (alp (wK)) W4:=U;have W:=E.trans V;clear U T S D s E V g aK aL aM aN aO;go_wp2_with fail
 rw[rounds_succ];go_wp2_with fail
 refine(BuQ.string _ _ wK _ (.inr aP) W.size).mono ?_;rintro e w9 ⟨rfl,aQ⟩;have aR:ajb b.w.heap.size b.w w9:=G.trans ((W.trans aQ).mono G.size);go_wp2
 refine bodyPost_ret (v:= .tuple #[.string ⟨wK.toArray⟩,.int .i64 0,.int .i64 0]) ?_ rfl ?_
 .simp[results,Tryz.results25]
 .exact ⟨rfl,aR⟩
end
def TJ{f:List aw}{H:List Ob}{r:aw}{g:List Ob}(h:zV f H=some (r,g)):Call aaG 25 f H r g:=by
 unfold zV at h;split at h
 .split at h
  .rename_i a s A;split at h
   .rename_i B;cases h;obtain⟨i,rfl,j⟩:=wq A;obtain rfl:i=⟨te.toArray⟩:=by have⟨⟨x⟩⟩:=i;simp at j;rw[j,B]
    refine⟨by kernel_rfl,fun C d k hc=>?_⟩;simp only[bT,aL,aY]at hc;obtain⟨y,I,J,⟨z,rfl,K,L,M,l,b,N,rfl,c,rfl⟩,O,P,rfl,⟨m,rfl,Q,R,S,n,T,w1,rfl,o,U,w2,rfl,p,V,w3,rfl,q,W,w4,rfl,t,rfl⟩,X,Y,rfl,u,rfl⟩:=hc
    have hn:∀v,aB v (.aj []) b:=by
     intro v;simp only[aB,bE,aiQ]at c|-;rcases c with c|⟨a,cap,D,E,F,Z⟩
     .exact .inl c
     .exact .inr ⟨a,cap,D,E,F,.inl trivial⟩
    simp only[aB]at l n o p q t u;obtain⟨rfl,_⟩:=l;obtain⟨rfl,_⟩:=n;obtain⟨rfl,_⟩:=o;obtain⟨rfl,_⟩:=p;obtain⟨rfl,_⟩:=q;obtain⟨rfl,_⟩:=t;obtain⟨rfl,_⟩:=u;obtain rfl:z= #[.int .i64 2,b]:=by cases z;simp_all
    obtain rfl:m= #[.int .i64 2,.int .i64 8,.int .i64 1,.int .i64 8,.int .i64 9]:=by cases m;simp_all
    obtain rfl:k= #[.agg #[.int .i64 2,b],.agg #[.int .i64 2,.int .i64 8,.int .i64 1,.int .i64 8,.int .i64 9],.string ⟨te.toArray⟩]:=by cases k;simp_all
    refine(afp d b hn).mono ?_;rintro e G ⟨rfl,w⟩;refine⟨_,C.to G,rfl,rfl,Q3 d w,vw d w,?_⟩;simp only[aL,bT];exact⟨_,rfl,_,_,rfl,⟨rfl,rfl⟩,_,_,rfl,⟨rfl,rfl⟩,_,_,rfl,⟨rfl,rfl⟩,rfl⟩
   .cases h
  .cases h
 .cases h
noncomputable abbrev Kx:bu:=ky [52,25] tz.dF
def abF:gU Kx:=zL [52,25] tz.dF (by decide) (fun f d H r e b a=>by
 have c:f=52\/f=25:=by simpa using b
 rcases c with rfl|rfl
 .exact wE W4 (by decide) a
 .exact TJ (gB W4 (h:=zV) (by kernel_rfl) a))
noncomputable def Xk:List Ob:=((bB Kx (run Kx 60) 7 [] []).getD (.c ap,[])).2
def call7:Call aaG 7 [] [] (aR true) Xk:=xH (n:=60) abF (by kernel_rfl)
def o7:Call aaG 7 [] [] (aR true) []:=⟨call7.1,fun j l a hc=>(call7.2 j l a hc).mono fun e t ⟨y,f,n,q,b,d,m⟩=>by
 have r:j.hs=[]:=ae4 l.len.symm;have s:=wJ d
 refine⟨y,⟨f.w,f.F,f.X,[]⟩,n,q,⟨⟨b.le.F,b.le.mem,fun h i v k=>?_⟩,b.os,b.tape,b.output,b.size,b.frame,b.mF,b.lj⟩,⟨rfl,fun h o g=>by simp at g,fun h _ _ _ o _ _ _ _ g=>by simp at g,d.F,d.X,fun p hp=>⟨(d.G p hp).1,by
  have c:=s.G p hp
  simp only[sK,aeM,aiV,or_false]at hp
  rcases hp with rfl|rfl
  .have ⟨_,c⟩:=c
   simp only[li,ag9,aiU,bE,cR,aB]at c|-
   exact c
  .have ⟨_,c⟩:=c
   simp only[bE,cR,aB]at c|-
   exact c⟩⟩,?_⟩
 .rw[r]at k;simp at k
 .simp only[aL,aB]at m|-;exact m⟩
def abU:gU (@tz W1):=SO o7
def hA:aS (@tz W1) (bB (@tz W1) (ev (@tz W1))) 0 7 []=some (aR true,[]):=by unfold aS;rw[gW (show(@tz W1).dH 7=true by kernel_rfl),show(@tz W1).dF 7=Aj by kernel_rfl];rfl
instance iW12:W:=W1
def Vc(H:List Ob)(x:Int):aO tz ay 297 [aa x] H=some (aR (decide (x<1)),H):=by
 have h:aS tz ay 0 297 [aa x]=some (aR (decide (x<1)),[]):=by refine be func297 rfl ?_;simp[f297]
 simp[h]
def agN(H:List Ob)(c:List Int)(e:Edge)(r:0<=e.a/\e.a<c.length)(s:0<=e.b/\e.b<c.length):aO tz ay 298 [.agg (du e),.c (.aJ [[.aj (c.map aC)]] 0 0)] H=some (aR (decide (bD c e.a=bD c e.b)),H):=by
 obtain⟨x,d⟩:∃x:Nat,e.a=x:=⟨e.a.toNat,by omega⟩;obtain⟨y,f⟩:∃y:Nat,e.b=y:=⟨e.b.toNat,by omega⟩;have g:x<c.length:=by omega
 have i:y<c.length:=by omega
 have o:=bi c
 have h:aS tz ay 0 298 [.agg (du e),.c (.aJ [[.aj (c.map aC)]] 0 0)]=some (aR (decide (bD c e.a=bD c e.b)),[]):=by
  refine be func298 rfl ?_;have⟨u,j⟩:=ak (bD c e.a);have⟨v,k⟩:=ak (bD c e.b);have l:(c.map aC)[x]?=some [I u]:=by rw[adf,abM g, <-j,d,pz g];rfl
  have m:(c.map aC)[y]?=some [I v]:=by rw[adf,abM i, <-k,f,pz i];rfl
  have⟨R,n⟩:=ak (c.map aC);have t:R.length=c.length:=by rw[<-n];simp
  rw[n]at l m|-;rw[j,k];simp only[du,d,f];have p:x<R.length:=by omega
  have q:y<R.length:=by omega
  simp[-getElem?_pos,f298,l,m,p,q]
 simp only[du]at h|-;simp[h,o,bA]
def ZV{g:Gr}{c:List Int}(h:fa g=true)(v:c.length=g.n.toNat)(o:∀i:Nat,i<g.n.toNat->1<=bD c i)(hp:∀e∈g.bw,bD c e.a≠bD c e.b):aS tz ay 0 247 [.agg (bQ g),bh (c.map aC)]=some (aR true,[]):=by
 refine be func247 rfl ?_;have⟨w,y,z,_,_⟩:=(nD g).1 h;have k:=vX h;have d:=xW g (by omega);rw[if_pos h]at d;have p:c.any (fun x=>decide (x<1))=false:=by rw[aja];intro x q;obtain⟨i,r,rfl⟩:=ajZ.1 q;have:=o i (by omega);rw[pz r]at this;simp;omega
 have s:g.bw.any (fun e=>decide (bD c e.a=bD c e.b))=false:=by rw[aja];intro e f;simpa using hp e f
 have l:=vL (g:=297) (caps:=[]) c (by unfold maxLen;omega) (fun x=>decide (x<1)) (by rw[(show tz.md 297=0 from rfl)];decide) rfl (bi _) (fun x _=>Vc [] x);have j:=SB (g:=298) (caps:=[.aJ [[.aj (c.map aC)]] 0 0]) g.bw (by unfold maxLen;omega) (fun e=>decide (bD c e.a=bD c e.b)) (by rw[(show tz.md 298=0 from rfl)];decide) (by simp[cy,bC,bA,bi]) (jU _) (fun e f=>agN [] c e (by have:=k.e e f;omega) (by have:=k.e e f;omega));rw[p]at l;rw[s]at j;have t:=bi c;have m:=jU g.bw;have hn:(c.length:Int)=g.n:=by omega
 simp only[bQ]at d|-;have⟨E,u⟩:=ak (g.bw.map du);rw[u]at d j m|-;simp[-aD,f247,hn];simp[f247,d,l,j,t,m,hn,eO]
section
variable{H:List Ob}{q:ab}{l:List aI}{g:Gr}
def mz(H:List Ob)(q:ab)(l:List aI):Prop:=(l=[]/\q=ap)\/∃h v,l≠ []/\q= .sl h v 0 l.length/\H[h]?=some (.live v 8 (l.map ax))
def mz.aK{H':List Ob}(h:mz H q l)(a:∀m∈rf q,H'[m]?=H[m]?):mz H' q l:=by
 rcases h with h|⟨h,v,b,rfl,c⟩
 .exact .inl h
 .exact .inr ⟨h,v,b,rfl,by rw[a h (by simp[rf])];exact c⟩
def mz.lt(h:mz H q l):∀m∈rf q,m<H.length:=by
 rcases h with⟨_,rfl⟩|⟨h,v,b,rfl,a⟩
 .intro m hm;simp[rf]at hm
 .intro m hm;simp[rf]at hm;subst hm;exact bf a
def uv(H:List Ob)(q:ab)(D:Nat->cQ)(n:Nat):Prop:=(n=0/\q=ap)\/∃h v rows,n≠0/\q= .sl h v 0 n/\H[h]?=some (.live v 3 rows)/\rows.length=n/\∀k,k<n->∃r,rows[k]?=some [I (D k).id,I (D k).phase,r]/\mz H r (D k).af
def uv.aK{H H':List Ob}{q:ab}{D:Nat->cQ}{n:Nat}(h:uv H q D n)(a:∀m,m<H.length->H'[m]?=H[m]?):uv H' q D n:=by
 rcases h with h|⟨h,v,rows,d,rfl,b,e,f⟩
 .exact .inl h
 .refine .inr ⟨h,v,rows,d,rfl,by rw[a h (bf b)];exact b,e,fun k g=>?_⟩;have⟨r,i,c⟩:=f k g;exact⟨r,i,c.aK fun m hm=>a m (c.lt m hm)⟩
def mQ(l:List aI):ab:=if l=[]then ap else .aj (l.map ax)
def pL(d:cQ):List ab:=[I d.id,I d.phase,mQ d.af]
def nr(D:Nat->cQ)(n:Nat):ab:=if n=0 then ap else .aj ((aiZ n).map fun i=>pL (D i))
def xo(l:List aI):bC (mQ l)=true:=by
 unfold mQ;split
 .rfl
 .simp[bC,bK]
def mz.view(h:mz H q l)(m:Nat):∃c,bU H (m+1) q=some (mQ l,c):=by
 rcases h with⟨rfl,rfl⟩|⟨h,v,d,rfl,a⟩
 .exact ⟨[],by simp[mQ]⟩
 .have b:=um (lo:=0) (len:=(l.map ax).length) a (by simp);rw[akn,aiF,aio]at b;have:=zF (n:=m) a b (bK l);exact⟨[8],by unfold mQ;rw[if_neg d];exact this⟩
def Rv{g:ab->Option (ab×List Nat)}:∀(rows a:List (List ab)),rows.length=a.length->(∀k (h:k<rows.length) (m:k<a.length), ∃b,eX g rows[k]=some (a[k],b))->∃b,jR g rows=some (a,b)
 |[],[],_,_=>⟨[],rfl⟩
 |[],_::_,h,_=>by simp at h
 |_::_,[],h,_=>by simp at h
 |r::d,n::e,f,h=>by
  have⟨i,c⟩:=h 0 (by simp) (by simp)
  have⟨j,l⟩:=Rv d e (by simpa using f) fun k o p=>h (k+1) (by simp;omega) (by simp;omega)
  simp only[List.getElem_cons_zero]at c
  exact⟨i++j,by simp only[jR,c,l]⟩
def aet{rows rows':List (List ab)}(f:rows.length=rows'.length)(h:∀k (h:k<rows.length) (o:k<rows'.length), ∃c,eX (bU H 6) rows[k]=some (rows'[k],c)):∃c,jb (bU H 6) rows=some (rows',c):=by
 unfold jb;split
 .rename_i g
  have:rows=rows':=by
   refine List.ext_getElem f fun k b i=>?_;have⟨c,e⟩:=h k b i
   have j:cy rows[k]=true:=by
    have m:∀(l:List (List ab)) (k:Nat) (b:k<l.length),bA l=true->cy l[k]=true:=by
     intro l;induction l with
     |nil=>intro k b;simp at b
     |cons a r n=>
      intro k b d;simp only[bA,abR]at d;cases k with
      |zero=>exact d.1
      |succ k=>exact n k (by simpa using b) d.2
    exact m rows k b g
   rw[mR j]at e;injection e with e;injection e
  exact⟨[],by rw[this]⟩
 .exact Rv rows rows' f h
def uv.view{H:List Ob}{q:ab}{D:Nat->cQ}{n:Nat}(h:uv H q D n):fh true H ([],[]) q=some (nr D n,[],[]):=by
 rcases h with⟨rfl,rfl⟩|⟨h,v,rows,f,rfl,b,c,g⟩
 .rfl
 .have ⟨d,j⟩:=aet (H:=H) (rows:=rows) (rows':=(aiZ n).map fun i=>pL (D i)) (by simpa using c) fun k l s=>by have⟨r,a,m⟩:=g k (by omega);have⟨d,o⟩:=m.view 5;rw[abM l]at a;injection a with a;rw[a];simp only[List.getElem_map,List.getElem_range,pL];refine⟨d,?_⟩;simp only[eX];rw[o];simp
  have e:=um (lo:=0) (len:=rows.length) b (by simp);rw[akn,aiF,c]at e;have p:obj H h v=some (3,rows):=by unfold obj;rw[b];simp
  simp only[fh,bC,p,e,j,nr,if_neg f];simp
def acd{n i:Nat}(a:qI g n)(hn:n<=64)(b:i<n):(ec g i).length<64:=by have:=(HK a hn [] b).1;have:=(ic.1 (by unfold dm at this;simp only[abR]at this;exact this.1.1.1:dC (iD g [] i).dr=true)).1;have:=(jn.1 this).2.2.2.1;simpa[iD,kC,pP,dx]using this
def S7{c:List Int}(Y:fa g=true)(hl:c.length=g.n.toNat)(h1:∀i:Nat,i<g.n.toNat->1<=bD c i)(hp:∀aG∈g.bw,bD c aG.a≠bD c aG.b):
  aS tz ay 1 169 [.agg (bQ g),bh (c.map aC)]=some (.aM [.c (nr (dx g c) g.n.toNat),aa 0],[]):=by
 refine be func169 rfl ?_
 simp only[f169,cr]
 have⟨g0,bc,g4,_,_⟩:=(nD g).1 Y
 have gi:=vX Y
 have Z:=xW g (by omega)
 rw[if_pos Y]at Z
 have ad:=ZV Y hl h1 hp
 have ae:=fun i=>abu g Y i
 have hf:=bi c
 have hE:=jU g.bw
 have⟨n,hn⟩:=ak g.n.toNat
 have aX:g.n=(n:Int):=by omega
 rw[hn]at gi hl|-
 have aq:∀ag:Nat,ag<n->(c.map aC)[ag]?=some [I (bD c ag)]:=fun ag hx=>by
  rw[adf,abM (by omega),pz (by omega)];rfl
 simp only[bQ]at Z ad ae|-
 rw[aX]at Z ad ae|-
 have⟨E,aY⟩:=ak (g.bw.map du)
 rw[aY]at Z ad ae hE|-
 have⟨R,hR⟩:=ak (c.map aC)
 have aH:R.length=n:=by rw[<-hR];simpa using hl
 rw[hR]at ad hf aq|-
 refine bp [(2,.c (.aJ [[I n,.aj E]] 0 0)),(1,bh R)] (fun G=>G=[]) ?_ ?_
 .simp
 rintro A G⟨O,P,_⟩rfl
 refine bp [(2,.c (.aJ [[I n,.aj E]] 0 0)),(1,bh R)] (fun G=>G=[]) ?_ ?_
 .simp[O,P,Z,hE]
 rintro A G⟨O,P,_⟩rfl
 refine bp [(2,.c (.aJ [[I n,.aj E]] 0 0)),(1,bh R)] (fun G=>G=[]) ?_ ?_
 .simp[O,P,ad,hE,hf]
 rintro A G⟨O,P,_⟩rfl
 refine bp [(2,.c (.aJ [[I n,.aj E]] 0 0)),(1,bh R),(7,.c ap)] (fun G=>G=[]) ?_ ?_
 .simp[O,P]
 rintro A G⟨O,P,a7,_⟩rfl
 rw[iM]
 refine Ends.sq ?_
 refine bp [(1,bh R),(2,.c (.aJ [[I n,.aj E]] 0 0)),(23,aa n),(24,aa (0:Nat)),(7,.c ap)] (fun G=>G=[]) ?_ ?_
 .simp[P,O,a7]
 rintro A G e rfl
 rw[eC]
 refine iv (fun p:Nat×ab=>[(1,bh R),(2,.c (.aJ [[I n,.aj E]] 0 0)),(23,aa n),(24,aa p.1),(7,.c p.2)]) (fun p G=>p.1<=n/\uv G p.2 (dx g c) p.1) (fun p=>n-p.1) ?_ (0,ap) e ⟨by omega,.inl ⟨rfl,rfl⟩⟩ fun _=>rfl
 rintro⟨i,q⟩A G⟨s,t,w,o,x,_⟩⟨g2,g3⟩
 simp only at s t w o x g2 g3
 by_cases d:i<n
 case neg=>
  have hi:i=n:=by omega
  rw[hi]at g3 o
  simp[-fh,s,t,w,o,x]
  rw[g3.view]
  rfl
 rw[fQ]
 refine bp [(1,bh R),(2,.c (.aJ [[I n,.aj E]] 0 0)),(23,aa n),(24,aa i),(7,.c q)] (fun ar=>ar=G) ?_ ?_
 .simp[s,t,w,o,x,d]
 rintro A U e V
 obtain rfl:G=U:=V.symm
 simp at e
 have⟨s,t,w,o,x⟩:=e
 have hw:adW.wrap ((i:Int)+1)=((i+1:Nat):Int):=cv (by omega)
 have⟨b,hb⟩:=ak G.length
 have⟨f,aI⟩:=ak (ec g i)
 have av:=F8 gi d
 have aZ:=acd gi (by omega) d
 have aL:=ae i
 have a0:(dx g c i).af=f.map (io c i):=by rw[<-aI];rfl
 rw[aI]at av aZ aL
 refine eh (fun S=>S.bG=[]/\∃q',Has S.env [(1,bh R),(2,.c (.aJ [[I n,.aj E]] 0 0)),(23,aa n),(24,aa i),(7,.c q')]/\uv S.heap q' (dx g c) (i+1)) ?_ ?_
 .rw[eC]
  refine Ends.bl ?_
  rw[fQ]
  refine bp [(1,bh R),(2,.c (.aJ [[I n,.aj E]] 0 0)),(23,aa n),(24,aa i),(7,.c q),(8,aa i),(9,au b)] (fun ar=>ar=G++[ah 3 [[I i,I 0,ap]]]) ?_ ?_
  .simp[s,t,w,o,x,hb]
  rintro A U e V
  have t1:U[b]?=some (ah 3 [[I i,I 0,ap]]):=by rw[V, <-hb];simp
  have low:∀m,m<b->U[m]?=G[m]?:=fun m hm=>by rw[V,abE (by omega)]
  have ai:U.length=b+1:=by rw[V];simp;omega
  clear V
  refine eh (fun S=>S.bG=[]/\∃r,Has S.env [(1,bh R),(2,.c (.aJ [[I n,.aj E]] 0 0)),(23,aa n),(24,aa i),(7,.c q),(9,au b)]/\S.heap[b]?=some (ah 3 [[I i,I 0,r]])/\mz S.heap r (f.map (io c i))/\(∀m,m<b->S.heap[m]?=G[m]?)) ?_ ?_
  .refine bp [(1,bh R),(2,.c (.aJ [[I n,.aj E]] 0 0)),(23,aa n),(24,aa i),(7,.c q),(8,aa i),(9,au b),(31,bd (b+1) 0 0 f.length),(32,aa f.length),(33,aa (0:Nat))] (fun G=>G=U++[ah 1 (f.map aC)]) ?_ ?_
   .simp at e
    have⟨s,t,w,o,x,b8,J⟩:=e
    simp[s,t,w,o,x,b8,J,aL,cw,hE,ai]
   rintro A G3 e al
   have aN:G3[b]?=some (ah 3 [[I i,I 0,ap]]):=by rw[al,abE (by omega)];exact t1
   have aO:G3[b+1]?=some (ah 1 (f.map aC)):=by rw[al, <-ai];simp
   have aP:∀m,m<b->G3[m]?=G[m]?:=fun m hm=>by rw[al,abE (by omega)];exact low m hm
   clear al t1 low ai
   rw[eC]
   refine Ends.bl (gM (fun p:Nat×ab=>[(1,bh R),(2,.c (.aJ [[I n,.aj E]] 0 0)),(23,aa n),(24,aa i),(7,.c q),(8,aa i),(9,au b),(31,bd (b+1) 0 0 f.length),(32,aa f.length),(33,aa p.1)]) (fun p G'=>p.1<=f.length/\G'[b]?=some (ah 3 [[I i,I 0,p.2]])/\G'[b+1]?=some (ah 1 (f.map aC))/\mz G' p.2 ((f.take p.1).map (io c i))/\(∀m∈rf p.2,b+1<m)/\∀m,m<b->G'[m]?=G[m]?) [] (fun p=>f.length-p.1) _ [1,2,23,24,7,8,9,31,32,33] (fun _=>rfl) ?_ (0,ap) _ e ⟨by omega,aN,aO,.inl ⟨rfl,rfl⟩,by simp[rf],aP⟩ rfl)
   clear e aN aO aP s t w o x
   rintro⟨j,r⟩⟨A,G4,ds⟩e⟨g2,z,F,C,k4,M⟩g6
   simp only at e g2 z F C k4 M g6
   subst g6
   simp at e
   have⟨s,t,w,o,x,b8,J,aw,az,aA⟩:=e
   by_cases Q:j<f.length
   case neg=>
    have hj:f.take j=f:=acu (by omega)
    rw[hj]at C
    simp[-ajc,-akL,s,t,w,o,x,b8,J,aw,az,aA,Q]
    exact⟨r,z,C,M⟩
   obtain⟨y,hy⟩:∃y:Nat,f[j]=y:=⟨f[j].toNat,by have:=av _ (aix Q);omega⟩
   have aB:y<n:=by have:=av _ (aix Q);omega
   have m1:(f.map aC)[j]?=some [I y]:=by rw[adf,abM Q,hy];rfl
   have m2:=aq i d
   have m3:=aq y aB
   have aQ:adW.wrap ((j:Int)+1)=((j+1:Nat):Int):=cv (by omega)
   have⟨L,hL⟩:=ak ((f.take j).map (io c i))
   have bg:L.length<=64:=by rw[<-hL];simp;omega
   have ho:(f.take (j+1)).map (io c i)=L++[io c i y]:=by
    rw[aiH,abM Q,hy,aid,hL];rfl
   rw[hL]at C
   have⟨u,hu⟩:=ak (bD c (i:Int))
   have⟨v,hv⟩:=ak (bD c (y:Int))
   have am:ax (io c i y)=[I y,I 1,I 0,B (decide (u>v)),B (decide (u>v)),B (!decide (u>v)),B (decide (u>v)),B (!decide (u>v))]:=by simp only[io,ax,hu,hv]
   rw[hu]at m2
   rw[hv]at m3
   have⟨S1,aD⟩:=ak (ax (io c i y))
   rw[aD]at am
   have⟨NR,an⟩:=ak (f.map aC)
   have aR:NR.length=f.length:=by rw[<-an];simp
   rw[an]at F m1
   have aT:=bf F
   have bj:f.length<=NR.length:=by omega
   have iR:i<R.length:=by omega
   have yR:y<R.length:=by omega
   have gb:∀K,(G4++K)[b]?=some (ah 3 [[I i,I 0,r]]):=fun K=>by rw[abE (bf z)];exact z
   have⟨a1,ht⟩:=ak (decide (v<u))
   have a2:decide (u>v)=a1:=ht
   rw[a2]at am
   rcases C with⟨a3,rfl⟩|⟨h,H,a4,rfl,T⟩
   .simp[-ajc,-akL,-getElem?_pos,-ad0,s,t,w,o,x,b8,J,aw,az,aA,Q,m1,m2,m3,z,F,aQ,iR,yR,d,aB,aH,aR,gb,ht]
    rw[<-an]at F
    refine⟨j+1,by omega,rfl,by omega,.sl (G4.length+1) 0 0 1,ba (gb _),?_,?_,fun m hm=>?_,fun m hm=>?_⟩
    .rw[abE aT];exact F
    .rw[ho,a3]
     refine .inr ⟨G4.length+1,0,by simp,by simp,?_⟩
     rw[aat (by omega),jh]
     simp only[aiD,ag9,aiU,aD,am]
     rfl
    .simp[rf]at hm;omega
    .rw[aat (by omega),abE (by omega)];exact M m hm
   .have W:∀K,(G4++K)[h]?=some (.live H 8 (L.map ax)):=fun K=>by rw[abE (bf T)];exact T
    have bk:b+1<h:=k4 h (by simp[rf])
    have⟨LR,aE⟩:=ak (L.map ax)
    have a5:LR.length=L.length:=by rw[<-aE];simp
    rw[aE]at T W
    have n1:L.length+1<=maxLen:=by unfold maxLen;omega
    have n2:(L.length+1)*32<=140737488355328:=by omega
    have aU:∀K aV,((G4++K).set h aV)[b]?=some (ah 3 [[I i,I 0,.sl h H 0 L.length]]):=fun K aV=>by rw[aat (by omega)];exact gb K
    have aF:LR.take L.length=LR:=acu (by omega)
    simp[-ajc,-akL,-getElem?_pos,-ad0,s,t,w,o,x,b8,J,aw,az,aA,Q,m1,m2,m3,z,F,aQ,iR,yR,d,aB,aH,aR,gb,ht,W,T,n1,n2,aF,a5,aU]
    rw[<-an]at F
    refine⟨j+1,by omega,rfl,by omega,.sl h (H+1) 0 (L.length+1),ba (aU _ _),?_,?_,fun m hm=>?_,fun m hm=>?_⟩
    .rw[aat (by omega),abE aT];exact F
    .rw[ho]
     refine .inr ⟨h,H+1,by simp,by simp,?_⟩
     rw[aat (by omega),ba (W _),aid,aE]
     simp only[ag9,aiU,aD,am]
    .simp[rf]at hm;omega
    .rw[aat (by omega),aat (by omega),abE (by omega)];exact M m hm
  clear e t1 low ai
  rintro⟨A,N,ds⟩⟨rfl,r,e,z,C,M⟩
  simp only at e z C M
  simp at e
  have⟨s,t,w,o,x,J⟩:=e
  have lb:=bf z
  have gb:∀K,(N++K)[b]?=some (ah 3 [[I i,I 0,r]]):=fun K=>by rw[abE lb];exact z
  have a6:∀k,k<i->∀D,mz G D (dx g c k).af->mz N D (dx g c k).af:=fun k hk D X=>X.aK fun m hm=>M m (by have:=X.lt m hm;omega)
  have bm:∀k,(dx g c k).id=(k:Int)/\(dx g c k).phase=0:=fun k=>⟨rfl,rfl⟩
  rw[<-a0]at C
  rcases g3 with⟨rfl,rfl⟩|⟨h,H,rows,a4,rfl,T,aW,a8⟩
  .simp[-ajc,-akL,-ad0,s,t,w,o,x,J,z]
   refine .inr ⟨N.length+1,0,[[I 0,I 0,r]],by simp,rfl,by rw[jh];rfl,rfl,fun k hk=>⟨r,?_,?_⟩⟩
   .obtain rfl:k=0:=by omega
    rfl
   .obtain rfl:k=0:=by omega
    exact C.aK fun m hm=>abE (C.lt m hm)
  .have a9:h<b:=by rw[<-hb];exact bf T
   have ao:N[h]?=some (.live H 3 rows):=by rw[M h a9];exact T
   have W:∀K,(N++K)[h]?=some (.live H 3 rows):=fun K=>by rw[abE (bf ao)];exact ao
   have n1:i+1<=maxLen:=by unfold maxLen;omega
   have n2:(i+1)*40<=140737488355328:=by omega
   have aF:rows.take i=rows:=acu (by omega)
   simp[-ajc,-akL,-ad0,s,t,w,o,x,J,z,ao,W,n1,n2,aF,aW]
   refine .inr ⟨h,H+1,rows++[[I i,I 0,r]],by omega,rfl,ba (W _),by simp;omega,fun k hk=>?_⟩
   have up:∀D l,mz N D l->mz ((N++[Ob.live 0 3 [[I i,I 0,r]]]).set h (Ob.live (H+1) 3 (rows++[[I i,I 0,r]]))) D l:=fun D l X=>by
    refine X.aK fun m hm=>?_
    rw[aat,abE (X.lt m hm)]
    rintro rfl
    rcases X with⟨_,rfl⟩|⟨h',bn,_,rfl,hx⟩
    .simp[rf]at hm
    .simp[rf]at hm
     subst hm
     rw[ao]at hx
     cases hx
   by_cases bb:k=i
   .subst bb
    exact⟨r,by rw[aea (by omega),aW,ajB];rfl,up _ _ C⟩
   .have ⟨D,e1,e2⟩:=a8 k (by omega)
    exact⟨D,by rw[abE (by omega)];exact e1,up _ _ (a6 k (by omega) D e2)⟩
 clear s t w o x
 rintro⟨A,N,ds⟩⟨rfl,q',e,z⟩
 simp only at e z
 simp at e
 have⟨s,t,w,o,x⟩:=e
 simp[-ad0,s,t,w,o,x,hw]
 exact⟨i+1,by omega,q',⟨rfl,rfl⟩,by omega,z⟩
end
section
variable{g:Gr}{c:List Int}{k z n:Nat}{H:List Ob}{q:ab}{rows:List (List ab)}
def oH(D:Nat->cQ)(n:Nat):List (List ab):=(aiZ n).map fun i=>pL (D i)
def YY(D:Nat->cQ)(n:Nat):da (nr D n)= .aj (oH D n):=by
 unfold nr oH;split
 .rename_i h;subst h;rfl
 .rfl
def VA(D:Nat->cQ)(n:Nat):bC (nr D n)=true:=by
 unfold nr;split
 .rfl
 .exact jg _ (fun i=>by simp[pL,cy,xo,bC]) _
def Pf{b:Type}(f:b->List ab)(a:List Nat)(h:∀x,a.contains (f x).length=false/\cW a (f x)=true)(l:List b):gZ a (l.map f)=true:=by
 induction l with
 |nil=>rfl
 |cons x r c=>simp only[ag9,gZ,(h x).1,(h x).2,c];rfl
def abh(l:List aI):fW [1] (mQ l)=true:=by
 unfold mQ;split
 .rfl
 .exact Pf _ _ (fun x=>⟨rfl,rfl⟩) _
def acP(D:Nat->cQ)(n:Nat):fW [1] (nr D n)=true:=by
 unfold nr;split
 .rfl
 .exact Pf _ _ (fun i=>⟨rfl,by simp only[pL,cW,abh,fW];rfl⟩) _
def acq(m:fa g=true)(hc:pa g=some (c,k))(s:c.length=g.n.toNat)(t:∀i:Nat,i<g.n.toNat->1<=bD c i)(hp:∀e∈g.bw,bD c e.a≠bD c e.b):
  aS tz ay 1 104 [.agg (bQ g)]=some (.aM [.agg [.aj (oH (dx g c) g.n.toNat),.aj []],aa 0],[]):=by
 refine be func104 rfl ?_
 have f:=UR g m hc
 have d:=S7 m s t hp
 have h:=jU g.bw
 have⟨n,hn⟩:=ak g.n.toNat
 rw[hn]at d|-
 have t1:=YY (dx g c) n
 have t2:=VA (dx g c) n
 have t3:=acP (dx g c) n
 have t4:bA (oH (dx g c) n)=true:=jg _ (fun i=>by simp[pL,cy,xo,bC]) _
 have t0:nr (dx g c) n=ap\/∃r,nr (dx g c) n= .aj r:=by
  unfold nr
  split
  .exact .inl rfl
  .exact .inr ⟨_,rfl⟩
 have⟨Q,o⟩:=ak (nr (dx g c) n)
 rw[o]at t0
 have⟨T,u⟩:=ak (oH (dx g c) n)
 rw[o]at d t1 t2 t3
 rw[u]at t1 t4|-
 simp only[bQ]at f d|-
 have⟨E,v⟩:=ak (g.bw.map du)
 have⟨R,j⟩:=ak (c.map aC)
 have p:R.length=c.length:=by rw[<-j];simp
 have q:bA R=true:=by rw[<-j];exact bi c
 have tk:R.take c.length=R:=acu (by omega)
 rw[v]at f d h|-
 rw[j]at f d
 rcases t0 with rfl|⟨r,rfl⟩
 .simp only[SR]at t1
  simp[-ajc,f104,f,d,h,q,p,tk,t1,t2,t3,t4]
 .have l:ab.aj r= .aj T:=t1
  injection l with l
  subst l
  simp only[fW]at t3
  simp only[bC]at t2
  simp[-ajc,f104,f,d,h,q,p,tk,t2,t3,t4]
def nW(d:cQ):List ab:=[I d.id,I d.phase,mQ d.af,I 0,ap]
def nf(D:Nat->cQ)(n:Nat):List (List ab):=(aiZ n).map fun i=>nW (D i)
def Xy(D:Nat->cQ)(n:Nat):nf D (n+1)=nf D n++[nW (D n)]:=by unfold nf;rw[aj2,aid];rfl
def MN(D:Nat->cQ)(n:Nat):bA (nf D n)=true:=jg _ (fun i=>by simp[nW,cy,xo,bC]) _
def oR(H:List Ob)(z:Nat)(q:ab)(n:Nat)(rows:List (List ab)):Prop:=(n=0/\q=ap)\/∃h v,n≠0/\q= .sl h v 0 n/\H[h]?=some (.live v z rows)/\rows.length=n
def oR.view(h:oR H z q n rows)(c:bA rows=true)(d:n=0->rows=[]):fh true H ([],[]) (da q)=some (.aj rows,[],[]):=by
 rcases h with⟨rfl,rfl⟩|⟨h,v,g,rfl,a,e⟩
 .rw[d rfl];rfl
 .have b:=um (lo:=0) (len:=rows.length) a (by simp);rw[akn,aiF,e]at b;have f:obj H h v=some (z,rows):=by unfold obj;rw[a];simp
  show fh true H ([],[]) (.sl h v 0 n)=_;simp only[fh,bC,f,b,jb,c];simp
def oR.aK{H':List Ob}(h:oR H z q n rows)(a:∀m∈rf q,H'[m]?=H[m]?):oR H' z q n rows:=by
 rcases h with h|⟨h,v,b,rfl,c,d⟩
 .exact .inl h
 .exact .inr ⟨h,v,b,rfl,by rw[a h (by simp[rf])];exact c,d⟩
def Zy(J:fa g=true)(hc:pa g=some (c,k))(S:c.length=g.n.toNat)(U:∀i:Nat,i<g.n.toNat->1<=bD c i)(hp:∀e∈g.bw,bD c e.a≠bD c e.b):
  aS tz ay 1 65 [.agg (bQ g)]=some (.aM [.agg [.aj (nf (dx g c) g.n.toNat),.aj []],aa 0],[]):=by
 refine be func65 rfl ?_
 simp only[f65,cr]
 have l:=acq J hc S U hp
 have an:=((nD g).1 J).2.1
 have L:=jU g.bw
 have⟨n,hn⟩:=ak g.n.toNat
 rw[hn]at l|-
 have t4:bA (oH (dx g c) n)=true:=jg _ (fun i=>by simp[pL,cy,xo,bC]) _
 have t5:∀i,i<n->(oH (dx g c) n)[i]?=some (pL (dx g c i)):=fun i x=>by
  unfold oH
  rw[adf,ajF x];rfl
 have t6:(oH (dx g c) n).length=n:=by simp[oH]
 have⟨T,V⟩:=ak (oH (dx g c) n)
 rw[V]at l t4 t5 t6
 simp only[bQ]at l|-
 have⟨E,W⟩:=ak (g.bw.map du)
 rw[W]at l L|-
 refine bp [(1,.c (.aJ [[I g.n,.aj E]] 0 0)),(2,au 0)] (fun G=>G=[ah 2 [[ap,ap]]]) ?_ ?_
 .simp
 rintro o G⟨Y,f,_⟩rfl
 refine bp [(4,au 1),(5,aa 0),(2,au 0)] (fun G=>G=[ah 2 [[ap,ap]],ah 2 [[.aj T,.aj []]]]) ?_ ?_
 .simp[Y,f,l,L,t4]
 rintro o G⟨p,Z,f,_⟩rfl
 refine bp [(4,au 1),(2,au 0)] (fun G=>G=[ah 2 [[ap,ap]],ah 2 [[.aj T,.aj []]]]) ?_ ?_
 .simp[p,Z,f]
 rintro o G⟨p,f,_⟩rfl
 refine bp [(4,au 1),(6,au 2),(2,au 0)] (fun G=>G=[ah 2 [[ap,ap]],ah 2 [[.aj T,.aj []]],ah 2 [[ap,ap]]]) ?_ ?_
 .simp[p,f]
 rintro o G⟨p,a6,f,_⟩rfl
 rw[iM]
 refine Ends.sq ?_
 refine bp [(2,au 0),(6,au 2),(19,bh T),(20,aa n),(21,aa (0:Nat))] (fun G=>G=[ah 2 [[ap,ap]],ah 2 [[.aj T,.aj []]],ah 2 [[ap,ap]]]) ?_ ?_
 .simp[p,a6,f,t6]
 rintro o G g1 rfl
 rw[eC]
 refine iv (fun i:Nat=>[(2,au 0),(6,au 2),(19,bh T),(20,aa n),(21,aa i)]) (fun i G=>i<=n/\G[0]?=some (ah 2 [[ap,ap]])/\∃q,G[2]?=some (ah 2 [[q,ap]])/\oR G 5 q i (nf (dx g c) i)/\∀m∈rf q,2<m) (fun i=>n-i) ?_ 0 g1 ⟨by omega,rfl,ap,rfl,.inl ⟨rfl,rfl⟩,by simp[rf]⟩ fun _=>rfl
 rintro i o G⟨y,z,A,B,t,_⟩⟨g2,u,q,r,C,M⟩
 by_cases d:i<n
 case neg=>
  have x:i=n:=by omega
  rw[x]at C t
  have hv:=oR.view (C.aK (H':=G.set 0 (ah 2 [[q,ap]])) fun m hm=>by rw[aat (by have:=M m hm;omega)]) (MN _ _) (fun h=>by rw[h];rfl)
  have ab:(G.set 0 (ah 2 [[q,ap]]))[0]?=some (ah 2 [[q,ap]]):=ba u
  simp[-fh,y,z,A,B,t,u,r,ab]
  rw[hv]
  rfl
 have s:=t5 i d
 simp only[pL]at s
 have⟨ad,N⟩:=ak (mQ (dx g c i).af)
 have ae:nW (dx g c i)=[I (dx g c i).id,I (dx g c i).phase,ad,I 0,ap]:=by simp only[nW,N]
 have j:=Xy (dx g c) i
 rw[ae]at j
 rw[N]at s
 have O:adW.wrap ((i:Int)+1)=((i+1:Nat):Int):=cv (by omega)
 have⟨x1,ag⟩:=ak ((dx g c i).id)
 have⟨x2,ai⟩:=ak ((dx g c i).phase)
 rw[ag,ai]at s j
 have l3:=bf r
 have D:∀K,(G++K)[0]?=some (ah 2 [[ap,ap]]):=fun K=>by rw[abE (bf u)];exact u
 have F:∀K,(G++K)[2]?=some (ah 2 [[q,ap]]):=fun K=>by rw[abE l3];exact r
 rcases C with⟨rfl,rfl⟩|⟨h,v,ao,rfl,w,P⟩
 .simp[-fh,-getElem?_pos,-ad0,y,z,A,B,t,r,D,F,s,d,t6,O]
  refine⟨1,by omega,rfl,by omega,.inr ⟨G.length+2,0,by simp,rfl,?_,by simp[nf]⟩,fun m hm=>by simp[rf]at hm;omega⟩
  rw[aat (by omega),aea (by omega),show G.length+2-G.length=2 from by omega,j]
  rfl
 .have ⟨H,al⟩:=ak (nf (dx g c) i)
  rw[al]at w P j
  have aq:2<h:=M h (by simp[rf])
  have Q:∀K,(G++K)[h]?=some (.live v 5 H):=fun K=>by rw[abE (bf w)];exact w
  have R:∀K X,((G++K).set h X)[2]?=some (ah 2 [[.sl h v 0 i,ap]]):=fun K X=>by rw[aat (by omega)];exact F K
  have n1:i+1<=maxLen:=by unfold maxLen;omega
  have n2:(i+1)*72<=140737488355328:=by omega
  have am:H.take i=H:=acu (by omega)
  simp[-fh,-getElem?_pos,-ad0,y,z,A,B,t,r,D,F,R,Q,w,s,d,t6,O,n1,n2,am,P]
  refine⟨i+1,by omega,rfl,by omega,by rw[aat (by omega)];exact D _,_,ba (R _ _),.inr ⟨h,v+1,by omega,rfl,?_,by rw[j];simp;omega⟩,fun m hm=>by simp[rf]at hm;omega⟩
  rw[aat (by omega),ba (Q _),j]
end
section
variable{q:ab}{n k:Nat}{g:Gr}{c:List Int}
def oR.own{H:List Ob}{z:Nat}{rows:List (List ab)}(h:oR H z q n rows)(c:bA rows=true):(n=0/\fh false H ([],[]) (da q)=some (.aj [],[],[]))\/n≠0/\∃d,fh false H ([],[]) (da q)=some (.sl 0 0 0 n,d,[ah z rows]):=by
 rcases h with⟨rfl,rfl⟩|⟨h,v,e,rfl,a,f⟩
 .exact .inl ⟨rfl,rfl⟩
 .have b:=um (lo:=0) (len:=rows.length) a (by simp);rw[akn,aiF,f]at b;have g:obj H h v=some (z,rows):=by unfold obj;rw[a];simp
  refine .inr ⟨e,[h],?_⟩;show fh false H ([],[]) (.sl h v 0 n)=_;simp only[fh,bC,g,b,c];simp
def kO(g:Gr)(c:List Int)(n:Nat):List (List ab):=(aiZ n).map fun i=>aT (iD g c i)
def afS(g:Gr)(c:List Int)(n:Nat):kO g c (n+1)=kO g c n++[aT (iD g c n)]:=by unfold kO;rw[aj2,aid];rfl
def GB(g:Gr)(c:List Int)(n:Nat):bA (kO g c n)=true:=jg _ (fun i=>yh _) _
def c66(H:List Ob)(d:qI g n)(hn:n<=64)(c:List Int){i:Nat}(e:i<n):aO tz ay 66 [.agg (nW (dx g c i))] H=some (.aM [.agg (aT (iD g c i)),aa 0],H):=by
 have⟨f,j⟩:=HK d hn c e;have a:=p66 (pP g c i) j (by simp[pP]);have b:dm (kC (pP g c i))=true:=f;rw[if_pos b,if_pos b]at a
 have k:df H (.agg (nW (dx g c i)))=some (.agg (cU (pP g c i)),[]):=by
  have l:cy (nW (dx g c i))=true:=by simp[nW,cy,xo,bC]
  simp only[df,mR l]
  have:da (mQ (dx g c i).af)= .aj ((dx g c i).af.map ax):=by
   unfold mQ;split
   .rename_i h;rw[h];rfl
   .rfl
  simp only[nW,ag9,aiU,this];rfl
 rw[aD,if_neg (by simp[eO])];simp only[dy,k,kU,show tz.md 66=1 from rfl,aeU];rw[a,jP];simp[ei,eN,dZ,aT,iD]
def sP(n:Nat)(rows:List (List ab)):aw×List Ob:=if n=0 then(.aM [.agg [.aj [],.aj []],aa 0],[])else(.aM [.agg [.sl 0 0 0 n,.aj []],aa 0],[ah 10 rows])
def YX(A:fa g=true)(hc:pa g=some (c,k))(hl:c.length=g.n.toNat)(h1:∀i:Nat,i<g.n.toNat->1<=bD c i)(hp:∀e∈g.bw,bD c e.a≠bD c e.b):
  aS tz ay 0 33 [.agg (bQ g)]=some (sP g.n.toNat (kO g c g.n.toNat)):=by
 have⟨n,hn⟩:=ak g.n.toNat
 have o:=Zy A hc hl h1 hp
 rw[hn]at o|-
 have⟨V1,B⟩:=ak ((sP n (kO g c n)).1)
 have⟨V2,C⟩:=ak ((sP n (kO g c n)).2)
 have hV:sP n (kO g c n)=(V1,V2):=by rw[<-B, <-C]
 rw[hV]
 refine be func33 rfl ?_
 simp only[f33,cr]
 have av:=((nD g).1 A).2.1
 have Q:=vX A
 rw[hn]at Q
 have R:=jU g.bw
 have t4:=MN (dx g c) n
 have t5:∀i,i<n->(nf (dx g c) n)[i]?=some (nW (dx g c i)):=fun i D=>by
  unfold nf
  rw[adf,ajF D];rfl
 have t6:(nf (dx g c) n).length=n:=by simp[nf]
 have⟨T,hT⟩:=ak (nf (dx g c) n)
 rw[hT]at o t4 t5 t6
 simp only[bQ]at o|-
 have⟨ad,ae⟩:=ak (g.bw.map du)
 rw[ae]at o R|-
 refine bp [(1,.c (.aJ [[I g.n,.aj ad]] 0 0)),(2,au 0)] (fun G=>G=[ah 2 [[ap,ap]]]) ?_ ?_
 .simp
 rintro p G⟨a1,f,_⟩rfl
 refine bp [(4,au 1),(5,aa 0),(2,au 0)] (fun G=>G=[ah 2 [[ap,ap]],ah 2 [[.aj T,.aj []]]]) ?_ ?_
 .simp[a1,f,o,R,t4]
 rintro p G⟨r,a5,f,_⟩rfl
 refine bp [(4,au 1),(2,au 0)] (fun G=>G=[ah 2 [[ap,ap]],ah 2 [[.aj T,.aj []]]]) ?_ ?_
 .simp[r,a5,f]
 rintro p G⟨r,f,_⟩rfl
 refine bp [(4,au 1),(6,au 2),(2,au 0)] (fun G=>G=[ah 2 [[ap,ap]],ah 2 [[.aj T,.aj []]],ah 2 [[ap,ap]]]) ?_ ?_
 .simp[r,f]
 rintro p G⟨r,a6,f,_⟩rfl
 rw[iM]
 refine Ends.sq ?_
 refine bp [(2,au 0),(6,au 2),(21,bh T),(22,aa n),(23,aa (0:Nat))] (fun G=>G=[ah 2 [[ap,ap]],ah 2 [[.aj T,.aj []]],ah 2 [[ap,ap]]]) ?_ ?_
 .simp[r,a6,f,t6]
 rintro p G g1 rfl
 rw[eC]
 refine iv (fun i:Nat=>[(2,au 0),(6,au 2),(21,bh T),(22,aa n),(23,aa i)]) (fun i G=>i<=n/\G[0]?=some (ah 2 [[ap,ap]])/\∃q,G[2]?=some (ah 2 [[q,ap]])/\oR G 10 q i (kO g c i)/\∀m∈rf q,2<m) (fun i=>n-i) ?_ 0 g1 ⟨by omega,rfl,ap,rfl,.inl ⟨rfl,rfl⟩,by simp[rf]⟩ fun _=>rfl
 rintro i p G⟨E,F,H,J,u,_⟩⟨g2,w,q,s,L,S⟩
 by_cases d:i<n
 case neg=>
  have D:i=n:=by omega
  rw[D]at L u
  have t:=oR.own (L.aK (H':=G.set 0 (ah 2 [[q,ap]])) fun m hm=>by rw[aat (by have:=S m hm;omega)]) (GB _ _ _)
  have ag:(G.set 0 (ah 2 [[q,ap]]))[0]?=some (ah 2 [[q,ap]]):=ba w
  simp[-fh,E,F,H,J,u,w,s,ag]
  rcases t with⟨M,t⟩|⟨M,bs,t⟩
  .rw[t]
   rw[<-B, <-C]
   unfold sP
   rw[if_pos M]
   rfl
  .rw[t]
   rw[<-B, <-C]
   unfold sP
   rw[if_neg M]
   rfl
 have y:=t5 i d
 have j:=fun al=>c66 al Q (by omega) c d
 have⟨x,hx⟩:=ak (iD g c i)
 have l:=afS g c i
 rw[hx]at l j
 simp only[nW]at y j
 have⟨aw,hQ⟩:=ak (mQ (dx g c i).af)
 have⟨x1,am⟩:=ak ((dx g c i).id)
 have⟨x2,an⟩:=ak ((dx g c i).phase)
 simp only[aT]at l j
 rw[hQ,am,an]at y j
 have U:adW.wrap ((i:Int)+1)=((i+1:Nat):Int):=cv (by omega)
 have l3:=bf s
 have N:∀K,(G++K)[0]?=some (ah 2 [[ap,ap]]):=fun K=>by rw[abE (bf w)];exact w
 have O:∀K,(G++K)[2]?=some (ah 2 [[q,ap]]):=fun K=>by rw[abE l3];exact s
 have⟨y0,V⟩:=ak (I x.dr.ai.id)
 have⟨y1,w1⟩:=ak (I x.dr.ai.phase)
 have⟨y2,w2⟩:=ak (ab.aj (x.dr.ai.af.map ax))
 have⟨y3,w3⟩:=ak (I x.dr.aQ)
 have⟨y4,w4⟩:=ak (aG x.dr.need)
 have⟨y5,w5⟩:=ak (I x.book.last)
 have⟨y6,w6⟩:=ak (ab.aj (x.book.aA.map aN))
 have⟨y7,w7⟩:=ak (ab.aj (x.known.map aW))
 have⟨y8,w8⟩:=ak (aG x.told)
 have⟨y9,W⟩:=ak (ab.aj (x.asked.map aW))
 rw[V,w1,w2,w3,w4,w5,w6,w7,w8,W]at l j
 clear V w1 w2 w3 w4 w5 w6 w7 w8 W
 rcases L with⟨rfl,rfl⟩|⟨h,v,az,rfl,z,Y⟩
 .simp[-aD,-fh,-getElem?_pos,-ad0,E,F,H,J,u,s,N,O,y,d,t6,U,j]
  refine⟨1,by omega,rfl,by omega,.inr ⟨G.length+3,0,by simp,rfl,?_,by simp[kO]⟩,fun m hm=>by simp[rf]at hm;omega⟩
  rw[aat (by omega),aea (by omega),show G.length+3-G.length=3 from by omega,l]
  rfl
 .have ⟨P,ao⟩:=ak (kO g c i)
  rw[ao]at z Y l
  have aB:2<h:=S h (by simp[rf])
  have Z:∀K,(G++K)[h]?=some (.live v 10 P):=fun K=>by rw[abE (bf z)];exact z
  have aq:∀K X,((G++K).set h X)[2]?=some (ah 2 [[.sl h v 0 i,ap]]):=fun K X=>by rw[aat (by omega)];exact O K
  have n1:i+1<=maxLen:=by unfold maxLen;omega
  have n2:(i+1)*176<=140737488355328:=by omega
  have ar:P.take i=P:=acu (by omega)
  simp[-aD,-fh,-getElem?_pos,-ad0,E,F,H,J,u,s,N,O,aq,Z,z,y,d,t6,U,n1,n2,ar,Y,j]
  refine⟨i+1,by omega,rfl,by omega,by rw[aat (by omega)];exact N _,.inr ⟨h,v+1,by omega,rfl,?_,by rw[l];simp;omega⟩,fun m hm=>by simp[rf]at hm;omega⟩
  rw[aat (by omega),ba (Z _),l]
def kM(g:Gr)(c:List Int)(r:mZ):Cl:=⟨r.win,r.fy,r.wait,r.room,r.hold,(aiZ g.n.toNat).map (iD g c),fun _ _=>wO r.win r.fy r.wait r.room,fun _ _=>⟨[],0⟩⟩
def xY(H:List Ob)(j:fa g=true)(hc:pa g=some (c,k))(l:c.length=g.n.toNat)(m:∀i:Nat,i<g.n.toNat->1<=bD c i)(hp:∀e∈g.bw,bD c e.a≠bD c e.b):
  ∃q K,aO tz ay 33 [.agg (bQ g)] H=some (.aM [.agg [q,.aj []],aa 0],H++K)/\((g.n.toNat=0/\q= .aj []/\K=[])\/g.n.toNat≠0/\q= .sl H.length 0 0 g.n.toNat/\K=[ah 10 (kO g c g.n.toNat)]):=by
 have f:=YX j hc l m hp
 have h:=GB g c g.n.toNat
 have⟨n,hn⟩:=ak g.n.toNat
 rw[hn]at f h|-
 have⟨R,o⟩:=ak (kO g c n)
 rw[o]at f h|-
 have p:df H (.agg (bQ g))=some (.agg (bQ g),[]):=by simp only[df,mR (zx g)];rfl
 rw[aD,if_neg (by simp[eO])]
 simp only[dy,p,kU,show tz.md 33=0 from rfl,aeU]
 rw[f]
 unfold sP
 by_cases d:n=0
 .rw[if_pos d,jP]
  refine⟨.aj [],[],?_,.inl ⟨d,rfl,rfl⟩⟩
  simp[ei,eN,dZ]
 .rw[if_neg d,jP]
  refine⟨.sl H.length 0 0 n,[ah 10 R],?_,.inr ⟨d,rfl,rfl⟩⟩
  simp[ei,eN,dZ,h]
def abx(r:mZ){R:List (List ab)}(b:bA R=true)(a:aO tz ay 33 [.agg (bQ g)] []=some (.aM [.agg [.sl 0 0 0 n,.aj []],aa 0],[ah 10 R])):
  aS tz ay 2 16 [.agg (bQ g),.agg (fU r)]=some (.aM [au 4,aa 0],[ah 10 R,ah 2 [[.sl 0 0 0 n,.aj []]],.mp [],.mp [],ah 8 [[I r.win,I r.fy,I r.wait,I r.room,I r.hold,.sl 0 0 0 n,.mr 2,.mr 3]]]):=by
 refine be func16 rfl ?_
 simp only[bQ,fU]at a|-
 simp[-aD,f16,a,zp,zM]
def afq(r:mZ)(a:aO tz ay 33 [.agg (bQ g)] []=some (.aM [.agg [.aj [],.aj []],aa 0],[])):
  aS tz ay 2 16 [.agg (bQ g),.agg (fU r)]=some (.aM [au 3,aa 0],[ah 2 [[.aj [],.aj []]],.mp [],.mp [],ah 8 [[I r.win,I r.fy,I r.wait,I r.room,I r.hold,.aj [],.mr 1,.mr 2]]]):=by
 refine be func16 rfl ?_
 simp only[bQ,fU]at a|-
 simp[-aD,f16,a,zp,zM]
def My(r:mZ){K:List Ob}{mp mt b:Nat}{a:Nat->aU}(d:K[b]?=some (ah 8 [[I r.win,I r.fy,I r.wait,I r.room,I r.hold,q,.mr mp,.mr mt]]))(e:K[mp]?=some (.mp []))(f:K[mt]?=some (.mp []))
  (h:a b= .cl 0) (c1:a mp= .cl 2) (c2:a mt= .cl 3) (i:sZ K a q ((aiZ g.n.toNat).map (iD g c))):bJ K a b (kM g c r):=
 ⟨q,mp,mt,[],[],d,i,e,f,rfl,rfl,h,c1,c2,fun _ _=> .inl ⟨rfl,rfl⟩,fun _ _=> .inl ⟨rfl,rfl⟩⟩
def wo(c:Nat->aU)(n:Nat)(l:List aU):Nat->aU:=fun m=>if m<n then c m else l.getD (m-n) .none
def adK(r:mZ)(v:fa g=true)(hc:pa g=some (c,k))(w:c.length=g.n.toNat)(x:∀i:Nat,i<g.n.toNat->1<=bD c i)(hp:∀e∈g.bw,bD c e.a≠bD c e.b):Ng g r (kM g c r):=by
 intro H h;have j:=GB g c g.n.toNat;have y:df H (.agg (bQ g))=some (.agg (bQ g),[]):=by simp only[df,mR (zx g)];rfl
 have z:df H (.agg (fU r))=some (.agg (fU r),[]):=by simp only[df,mR (TW r)];rfl
 have p:((aiZ g.n.toNat).map (iD g c)).map aT=kO g c g.n.toNat:=by unfold kO;rw[ajc];rfl
 have⟨N,o⟩:=ak H.length;have d:∀(K:List Ob) k,(H++K)[k+N]?=K[k]?:=fun K k=>Qc _ _ o;have f:∀l k,wo h N l (k+N)=l.getD k .none:=fun l k=>by unfold wo;rw[if_neg (by omega),alU]
 have s:∀(K:List Ob) l,aH (fun _=>False) h (wo h N l) H (H++K):=fun K l=>⟨by simp,fun m hm=>by unfold wo;rw[if_pos (by omega)],fun m hm _=>abE hm⟩;have⟨q,K,t,A⟩:=xY [] v hc w x hp;rw[aD,if_neg (by simp[eO])];simp only[dy,y,z,kU,show tz.md 16=2 from rfl,aeU];rcases A with⟨u,rfl,rfl⟩|⟨u,rfl,rfl⟩
 .rw[afq r (by simpa using t),jP];refine⟨3+N,wo h N [.none,.cl 2,.cl 3,.cl 0],H++[ah 2 [[.aj [],.aj []]],.mp [],.mp [],ah 8 [[I r.win,I r.fy,I r.wait,I r.room,I r.hold,.aj [],.mr (1+N),.mr (2+N)]]],?_,?_,s _ _⟩
  .simp[ei,pB,jm,nT,rq,eN,dX,dZ,cy,bC,bA,o];exact⟨by omega,by omega,by omega⟩
  .refine My r (by rw[d];rfl) (by rw[d];rfl) (by rw[d];rfl) (f _ _) (f _ _) (f _ _) (.inl ⟨by rw[u];rfl,rfl⟩)
 .rw[abx r j (by simpa using t),jP];have⟨R,B⟩:=ak (kO g c g.n.toNat);rw[B]at j p|-;have C:dX N (ah 10 R)=ah 10 R:=qy j;have D:R.map (fun r=>r.map (dZ N))=R:=by simpa[dX]using C
  refine⟨4+N,wo h N [.cl 1,.none,.cl 2,.cl 3,.cl 0],H++[ah 10 R,ah 2 [[.sl N 0 0 g.n.toNat,.aj []]],.mp [],.mp [],ah 8 [[I r.win,I r.fy,I r.wait,I r.room,I r.hold,.sl N 0 0 g.n.toNat,.mr (2+N),.mr (3+N)]]],?_,?_,s _ _⟩
  .simp[ei,pB,jm,nT,rq,eN,dX,dZ,cy,bC,bA,o];exact⟨.inl j,by omega,D,by omega,by omega⟩
  .refine My r (by rw[d];rfl) (by rw[d];rfl) (by rw[d];rfl) (f _ _) (f _ _) (f _ _) (.inr ⟨N,0,by simp,?_,?_⟩)
   .have:=d [ah 10 R,ah 2 [[.sl N 0 0 g.n.toNat,.aj []]],.mp [],.mp [],ah 8 [[I r.win,I r.fy,I r.wait,I r.room,I r.hold,.sl N 0 0 g.n.toNat,.mr (2+N),.mr (3+N)]]] 0;rw[aiW]at this;rw[this,p];rfl
   .have:=f [.cl 1,.none,.cl 2,.cl 3,.cl 0] 0;rw[aiW]at this;exact this
end
section
variable{T:Nat}{K K':Cl}{l F:List Ev}{e:Int}
def Bk(K:Cl)(ev:List Ev)(K':Cl):Prop:=(K'.nodes=K.nodes/\ev=[])\/∃(i:Nat) (a:Nd) (h:i<K.nodes.length),K'.nodes=K.nodes.set i a/\kV (i:Int) K.nodes[i].book ev a.book/\ev.length<=9000
def Li{n:Nd}{v:Wk}{i:Nat}(h:BW (bg n) v)(hid:n.dr.ai.id=(i:Int)):v.n.dr.ai.id=(i:Int)/\kV (i:Int) n.book v.seen v.n.book:=by
 have⟨a,b,c,d⟩:=h;have e:v.seen=b:=by simpa[bg]using c
 rw[e];have f:v.n.dr.ai.id=n.dr.ai.id:=a;exact⟨f.trans hid,by rw[<-hid];exact d⟩
def aau(h:dL T K)(o:T<=900000000){a i:Nat}(d:i<K.nodes.length){s:bx}(b:K.Told a i s K' l e):Bk K l K':=by
 unfold Cl.Told at b;have g:=Nl h a i;have hn:(K.tell a i).nodes=K.nodes:=(As h.i h.t a i).2.2;split at b
 .obtain ⟨rfl,rfl,_⟩:=b;exact .inl ⟨hn,rfl⟩
 .split at b
  .obtain ⟨rfl,rfl,_⟩:=b;exact .inl ⟨hn,rfl⟩
  .obtain ⟨v,c,rfl,rfl,_⟩:=b;have j:K.nodes.getD i .zero=K.nodes[i]:=by rw[ae5,abM d];rfl
   rw[j]at c;have⟨f,k⟩:=Li (PZ c).2 (h.n.id i d);have⟨p,m⟩:=AK g (l:=v.out) c.jS.s (by rw[f,hn];omega) (by have:=c.out.1;omega);exact .inr ⟨i,v.n,d,by rw[m,hn,f];rfl,k,c.out.2⟩
def Nq(h:dL T K)(o:T<=900000000){a:Int}{d:Act}(b:K.bP a d K' l e):Bk K l K':=by
 unfold Cl.bP at b;split at b
 .obtain ⟨rfl,rfl,_⟩:=b;exact .inl ⟨rfl,rfl⟩
 rename_i hc;have hth:K.there a:=akp fun hn=>hc (.inl hn);obtain⟨i,rfl⟩:∃i:Nat,a=i:=⟨a.toNat,by have:=hth.1;omega⟩;have f:i<K.nodes.length:=by have:=hth.2;omega
 simp only[ais]at b;split at b
 .obtain ⟨rfl,rfl,_⟩:=b;exact .inl ⟨(qT h i).2,rfl⟩
 .obtain ⟨v,c,rfl,rfl,_⟩:=b;have j:K.nodes.getD i .zero=K.nodes[i]:=by rw[ae5,abM f];rfl
  rw[j]at c;have⟨g,k⟩:=Li (Ow c).2 (h.n.id i f);have⟨p,m⟩:=AK h (l:=v.out) c.jS.s (by rw[g];omega) (by have:=c.out.1;omega);exact .inr ⟨i,v.n,f,by rw[m,g];rfl,k,c.out.2⟩
def Bk.K6{a b:Cl}{ev:List Ev}(h:Bk a ev b)(c:a.nodes=K.nodes)(d:K'.nodes=b.nodes):Bk K ev K':=by unfold Bk at*;rw[d, <-c];exact h
def Ul(h:dL T K)(y:T<=800000000){x:LA}{s:List Ev}(a:K.rE x K' s e):Bk K s K':=by
 unfold Cl.rE at a;split at a
 .exact Nq h (by omega) a
 split at a
 .unfold Cl.tP at a;split at a
  .obtain ⟨rfl,rfl,_⟩:=a;exact .inl ⟨rfl,rfl⟩
  .have ⟨b,c⟩:=JL x.A.toNat (others K.nodes.length x.A.toNat) K h;exact(Nq b (by omega) a).K6 c rfl
 split at a
 .obtain ⟨rfl,rfl,_⟩:=a;refine .inl ⟨?_,rfl⟩;unfold Cl.goes;split
  .rfl
  .simp only;rw[wY];have⟨b,c⟩:=qT h x.A.toNat;have⟨z,n⟩:=Jy x.A.toNat (others K.nodes.length x.A.toNat) (K.flush x.A.toNat,0) b;rw[n,c]
 split at a
 .unfold Cl.Comes at a;split at a
  .obtain ⟨rfl,rfl,_⟩:=a;exact .inl ⟨rfl,rfl⟩
  rename_i o
  obtain⟨k,q⟩:∃k,K.look x.A x.B x.N=some k:=by
   cases r:K.look x.A x.B x.N with
   |none=>exact absurd r o
   |some s=>exact⟨s,rfl⟩
  have f:=vp h.i q;have⟨u,v,t,w,C⟩:=qO f.1;rw[t,w]at a f;have l:v<K.nodes.length:=by have:=f.1.2.1.2;omega
  have j:dL (T+1) (K.eR v u ((K.pipe v u).jk (cT v u) x.N).1):=Ao (h.mono (by omega)) v u (Dc (h.i.pipe v u) _ _) fun s=>ai5 (HC _ _ _ _) (by have:=h.g (min v u) (max v u) s;show(K.pp _ _).dR s+1<=_;omega);simp only[ais]at a;split at a
  .obtain ⟨rfl,rfl,_⟩:=a;exact .inl ⟨(qT j v).2,rfl⟩
  .obtain ⟨d,m,rfl⟩:=a;have⟨b,c⟩:=CP wG j (by omega) (show v< (K.eR v u _).nodes.length from l) m;exact(aau j (by omega) (show v< (K.eR v u _).nodes.length from l) m).K6 rfl (qT b v).2
 split at a
 .obtain ⟨rfl,rfl,_⟩:=a;exact .inl ⟨(vR h x.A x.B (fun p s=>p.je s x.N) fun P s hp=>Nk hp s _).2,rfl⟩
 split at a
 .obtain ⟨rfl,rfl,_⟩:=a;exact .inl ⟨(vR h x.A x.B (fun p s=>p.double s x.N) fun P s hp=>PO hp s _).2,rfl⟩
 .obtain ⟨rfl,rfl,_⟩:=a;exact .inl ⟨(vR h x.A x.B (fun p s=>p.flip s x.N x.X) fun P s hp=>Mw hp s _ _).2,rfl⟩
def rI(i:Int)(E:List Ev):List Ev:=E.filter fun e=>decide (e.node=i)
def yf(i:Int)(E F:List Ev):rI i (E++F)=rI i E++rI i F:=ajl ..
def Bs{i:Int}(h:∀e∈F,e.node=i):rI i F=F:=ajq.2 fun e a=>by simp[h e a]
def Mx{i j:Int}(h:∀e∈F,e.node=i)(a:i≠j):rI j F=[]:=alk.2 fun e b=>by simp[h e b,a]
structure wH(P:List Ev->cd->Prop)(K:Cl)(E:List Ev):Prop where
 b:∀i (h:i<K.nodes.length),P (rI (i:Int) E) K.nodes[i].book
 n:∀e∈E,0<=e.node/\e.node<K.nodes.length
def wH.step{P:List Ev->cd->Prop}(o:∀id E f b g,P E b->kV id b f g->P (E++f) g){E ev:List Ev}(h:wH P K E)(p:Bk K ev K'):wH P K' (E++ev):=by
 rcases p with⟨c,rfl⟩|⟨i,r,d,c,k,_⟩
 .rw[aeU];exact⟨fun i d=>by simp only[c];exact h.b i (by rw[<-c];exact d),fun e a=>by rw[c];exact h.n e a⟩
 .have hn:=Sc k;have l:K'.nodes.length=K.nodes.length:=by rw[c,aiP]
  refine⟨fun j q=>?_,fun e a=>?_⟩
  .simp only[c];rw[amk,yf];split
   .rename_i m;subst m;rw[Bs hn];exact o _ _ _ _ _ (h.b i d) k
   .rename_i m;rw[Mx (j:=(j:Int)) hn (by omega),aeU];exact h.b j (by rw[<-l];exact q)
  .rw[l];rcases ain.1 a with a|a
   .exact h.n e a
   .rw[hn e a];omega
def Bk.len{ev:List Ev}(h:Bk K ev K'):ev.length<=9000:=by
 rcases h with⟨_,rfl⟩|⟨_,_,_,_,_,h⟩
 .simp
 .exact h
end
end Go.Nx
