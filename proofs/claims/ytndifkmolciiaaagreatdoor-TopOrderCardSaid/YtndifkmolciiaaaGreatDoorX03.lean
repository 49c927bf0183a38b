/- A part of the proof. -/
import Derived.Test.YtndifkmolciiaaaGreatDoorX02
set_option linter.all false
set_option maxRecDepth 8000
set_option maxHeartbeats 1000000
open Go.IntKind renaming i64->adW,u64->aiY,u8->ajf
open Go.Proofs.Tryz renaming prog->aaG
open Int renaming natCast_add->ad0,natCast_emod->amo
open List renaming append_assoc->aiu,getElem?_set_self->ahr,length_append->agc,length_drop->aj0,map_append->aid,map_map->ajc,map_set->aiC,map_take->akL,range->aiZ,replicate->ahv
open List.Pairwise renaming nil->akr
open UInt8 renaming ofNat->al1
namespace Go.Nx
open Go Go.Proofs Tryz
def Ln(x:Int):∀l:List Int,(kB x l).length=l.length+1
 |[]=>rfl
 |y::r=>by
  unfold kB
  split
  .rfl
  .simp[Ln x r]
def QT:∀l:List Int,(gv l).length=l.length
 |[]=>rfl
 |x::r=>by simp[gv,Ln,QT r]
def Ll(l:List Int):(cD l).length<=l.length:=by have:=yw (gv l);rw[QT]at this;exact this
def gA(r:cd×Int):aw×List Ob:=if r.2=0 then(.aM [.agg [I r.1.last,.sl 0 0 0 r.1.aA.length],aa 0],[ah 4 (r.1.aA.map aN)])else(.aM [.agg [I 0,.aj []],aa r.2],[])
def Zn(b:cd)(id:Int)(need:List Int)(h:iI b)(hn:need.length<=100000):aS tz ay 0 111 [.agg (bO b),aa id,.c (aG need)]=some (gA (ia b id need)):=by
 obtain⟨⟨v,o⟩,d⟩:∃r,gA (ia b id need)=r:=⟨_,rfl⟩;rw[d];refine be func111 rfl ?_;have e:=vY b h.hm h.hn;have g:=Rq (a:=bh (need.map aC)) (l:=need) (rn need) (by omega);have i:=RH (cD need) (by have:=Ll need;unfold maxLen;omega);have j:=wF b h;simp only[bO,aG]at e g i j;cases f:cN b with
 |false=>simp[f]at e;rw[show ia b id need=(.zero,170)by simp[ia,f]]at d;simp[gA]at d;obtain⟨rfl,rfl⟩:=d;simp[f111,bO,e,g]
 |true=>
  simp[f]at e;by_cases c1:id<=b.last
  .rw[show ia b id need=(.zero,171)by simp[ia,f,c1]]at d;simp[gA]at d;obtain⟨rfl,rfl⟩:=d;simp[f111,bO,e,g,c1]
  cases c2:nh (cD need)with
  |true=>rw[show ia b id need=(.zero,172)by simp[ia,f,c1,c2]]at d;simp[gA]at d;obtain⟨rfl,rfl⟩:=d;simp[f111,bO,e,g,i,c1,c2]
  |false=>
   by_cases c3:b.aA.length=8
   .have k:(b.aA.length:Int)=8:=by omega
    rw[show ia b id need=(.zero,173)by simp[ia,f,c1,c2,c3]]at d;simp[gA]at d;obtain⟨rfl,rfl⟩:=d;simp[f111,bO,e,g,i,c1,c2,c3,underlying65]
   .have k:¬(b.aA.length:Int)=8:=by omega
    have n:b.aA.length+1<=maxLen:=by have:=h.1;unfold maxLen;omega
    have p:(b.aA.length+1)*48<=140737488355328:=by have:=h.1;omega
    rw[show ia b id need=(⟨id,b.aA++[⟨id,cD need,0,0⟩]⟩,0)by simp[ia,f,c1,c2,c3]]at d;simp[gA]at d;obtain⟨rfl,rfl⟩:=d;have m:=bV (b.aA++[⟨id,cD need,0,0⟩]);simp[aN]at m;simp[f111,bO,e,g,i,j,c1,c2,k,n,p,underlying65,aN,m]
def kS(r:cd×Int×Int):aw×List Ob:=if r.2.2=0 then(.aM [.agg [I r.1.last,.sl 0 0 0 r.1.aA.length],aa r.2.1,aa 0],[ah 4 (r.1.aA.map aN)])else(.aM [.agg [I 0,.aj []],aa 0,aa r.2.2],[])
def adO(b:cd)(g:iI b):aS tz ay 0 209 [.agg (bO b)]=some (kS (kD b)):=by
 obtain⟨⟨v,o⟩,a⟩:∃r,kS (kD b)=r:=⟨_,rfl⟩;rw[a];refine be func209 rfl ?_;have c:=vY b g.hm g.hn;have f:=wF b g;have⟨d,h⟩:=b;simp only[bO]at c f;cases e:cN ⟨d,h⟩with
 |false=>simp[e]at c;rw[show kD ⟨d,h⟩=(.zero,0,170)by simp[kD,e]]at a;simp[kS]at a;obtain⟨rfl,rfl⟩:=a;simp[f209,bO,c]
 |true=>
  simp[e]at c;cases h with
  |nil=>simp at c;rw[show kD ⟨d,[]⟩=(.zero,0,175)by simp[kD,e]]at a;simp[kS]at a;obtain⟨rfl,rfl⟩:=a;simp[f209,bO,c,underlying65]
  |cons s r=>
   simp at c f;by_cases c1:s.state=1
   .simp[aN,c1]at c;rw[show kD ⟨d,s::r⟩=(.zero,0,175)by simp[kD,e,c1]]at a;simp[kS]at a;obtain⟨rfl,rfl⟩:=a;simp[f209,bO,c,c1,underlying65,aN]
   .simp[aN]at c f;rw[show kD ⟨d,s::r⟩=(⟨d,{s with state:=1}::r⟩,s.id,0)by simp[kD,e,c1]]at a;simp[kS]at a;obtain⟨rfl,rfl⟩:=a;simp[f209,bO,c,f,c1,underlying65,aN]
def Wj:tz.dF 195=ue 4 [I 0,ap,I 0,I 0]:=by kernel_rfl
def KG{h ver:Nat}{H:List Ob}{l:List bW}{k:Nat}(a:H[h]?=some (.live ver 4 (l.map aN)))(g:k<l.length)(b:l.length<=1000000):
  bB tz (ev tz) 195 [bd h ver 0 l.length,aa k,aa ((k:Int)+1)] H=some (bd h ver 0 (l.length-1),H.set h (.live ver 4 ((l.take k++l.drop (k+1)).map aN++[[I 0,ap,I 0,I 0]]))):=by
 rw[gW RD,Wj]
 have c:((k:Int)+1-k).toNat=1:=by omega
 have d:((k:Int)+1).toNat=k+1:=by omega
 have e:(k:Int)< (k:Int)+1:=by omega
 have f:((k:Int)+1<=l.length):=by omega
 simp[ue,a,c,d,e,f,kG b,akL,List.map_drop]
def Bx{id:Int}{s:bW}:∀ {l:List bW} (a:Nat),l.find? (fun s=>decide (s.id=id))=some s->∃k:Nat,dv (fun s:bW=>decide (s.id=id)) a l=((a+k:Nat):Int)/\(∃f:k<l.length,l[k]=s)/\ej id l=l.take k++l.drop (k+1)
 |[],a,h=>by simp at h
 |x::r,a,h=>by
  rw[akh]at h
  by_cases b:x.id=id
  .simp[b]at h
   subst h
   exact⟨0,by simp[dv,b],⟨by simp,rfl⟩,by simp[ej,b]⟩
  .simp[b]at h
   have⟨k,c,⟨g,d⟩,e⟩:=Bx (a+1) h
   refine⟨k+1,?_,⟨by simp;omega,by simpa using d⟩,by simp[ej,b,e]⟩
   simp only[dv,b,decide_false,aes,if_false]
   rw[show a+(k+1)=a+1+k by omega]
   exact c
def Un{id:Int}{s:bW}{l:List bW}(h:l.find? (fun s=>decide (s.id=id))=some s):(ej id l).length=l.length-1/\0<l.length:=by have⟨k,_,⟨b,_⟩,a⟩:=Bx 0 h;rw[a];simp;omega
def Nr(b:cd)(id c:Int)(g:iI b):aS tz ay 0 193 [.agg (bO b),aa id,aa c]=some (gA (de b id c)):=by
 obtain⟨⟨v,o⟩,a⟩:∃r,gA (de b id c)=r:=⟨_,rfl⟩;rw[a];refine be func193 rfl ?_;have d:=aan b id g;have i:=R4 b id g.hm;have m:=wF b g;simp only[bO]at d i m;cases e:cN b with
 |false=>simp[e]at d;rw[show de b id c=(.zero,170)by simp[de,e]]at a;simp[gA]at a;obtain⟨rfl,rfl⟩:=a;simp[f193,bO,d]
 |true=>
  cases f:b.aA.find? (fun s=>decide (s.id=id))with
  |none=>simp[e,f]at d;rw[show de b id c=(.zero,174)by simp[de,e,f]]at a;simp[gA]at a;obtain⟨rfl,rfl⟩:=a;simp[f193,bO,d]
  |some s=>
   simp[e,f]at d;by_cases c1:s.state=c
   .rw[show de b id c=(⟨b.last,ej id b.aA⟩,0)by simp[de,e,f,c1]]at a;simp[gA]at a;obtain⟨rfl,rfl⟩:=a;have⟨k,n,⟨q,x⟩,t⟩:=Bx 0 f;have⟨p,y⟩:=Un f;rw[aiW]at n;rw[n]at i;have u:adW.wrap ((k:Int)+1)=(k:Int)+1:=by have:=cv (k:=k) (by have:=g.1;omega);simpa using this
    have j:=KG (h:=2) (ver:=0) (H:=[ah 2 [[I b.last,.sl 2 0 0 b.aA.length]],ah 2 [[I 0,ap]],ah 4 (b.aA.map aN)]) (l:=b.aA) rfl q (by have:=g.1;omega);rw[<-t]at j;simp at j;have z:=bV (ej id b.aA);have w:((ej id b.aA).map aN++[[I 0,ap,I 0,I 0]]).take (b.aA.length-1)=(ej id b.aA).map aN:=by rw[ai8 (by simp[p])]
    simp[f193,bO,d,i,m,c1,u,j,w,p]
   .rw[show de b id c=(.zero,175)by simp[de,e,f,c1]]at a;simp[gA]at a;obtain⟨rfl,rfl⟩:=a;simp[f193,bO,d,c1]
def acG(b:cd)(id:Int)(d:iI b):aS tz ay 0 116 [.agg (bO b),aa id]=some (gA (de b id 1)):=by
 have c:=Nr b id 1 d;obtain⟨⟨v,o⟩,a⟩:∃r,gA (de b id 1)=r:=⟨_,rfl⟩;rw[a]at c|-;refine be func116 rfl ?_;simp only[bO]at c;by_cases h:(de b id 1).2=0
 .simp[gA,h]at a;obtain⟨rfl,rfl⟩:=a;have e:=bV (de b id 1).1.aA;simp[f116,bO,c,e]
 .simp[gA,h]at a;obtain⟨rfl,rfl⟩:=a;simp[f116,bO,c]
def ade(b:cd)(id:Int)(d:iI b):aS tz ay 0 120 [.agg (bO b),aa id]=some (gA (de b id 0)):=by
 have c:=Nr b id 0 d;obtain⟨⟨v,o⟩,a⟩:∃r,gA (de b id 0)=r:=⟨_,rfl⟩;rw[a]at c|-;refine be func120 rfl ?_;simp only[bO]at c;by_cases h:(de b id 0).2=0
 .simp[gA,h]at a;obtain⟨rfl,rfl⟩:=a;have e:=bV (de b id 0).1.aA;simp[f120,bO,c,e]
 .simp[gA,h]at a;obtain⟨rfl,rfl⟩:=a;simp[f120,bO,c]
def SQ(b:cd)(e:Int)(i:iI b):aS tz ay 0 121 [.agg (bO b),aa e]=some (kS (dN b e)):=by
 obtain⟨⟨v,o⟩,a⟩:∃r,kS (dN b e)=r:=⟨_,rfl⟩;rw[a];refine be func121 rfl ?_;have c:=vY b i.hm i.hn;have f:=wF b i;have⟨d,j⟩:=b;simp only[bO]at c f;cases g:cN ⟨d,j⟩with
 |false=>simp[g]at c;rw[show dN ⟨d,j⟩ e=(.zero,0,170)by simp[dN,g]]at a;simp[kS]at a;obtain⟨rfl,rfl⟩:=a;simp[f121,bO,c]
 |true=>
  simp[g]at c;cases j with
  |nil=>simp at c f;rw[show dN ⟨d,[]⟩ e=(⟨d,[]⟩,0,0)by simp[dN,g]]at a;simp[kS]at a;obtain⟨rfl,rfl⟩:=a;simp[f121,bO,c,f,underlying65]
  |cons s r=>
   have t:0<=s.cH:=by simp[cN,dS,dw]at g;omega
   simp at c f;by_cases c1:s.state=1
   .simp[aN,c1]at c f;have m:adW.wrap (min s.cH 4611686018427387903+1)=min s.cH 4611686018427387903+1:=wrap_i64 (by omega) (by omega);by_cases c2:max s.cH (min s.cH (4611686018427387904-1)+1)<e
    .rw[show dN ⟨d,s::r⟩ e=(⟨d,{s with cH:=max s.cH (min s.cH (4611686018427387904-1)+1)}::r⟩,0,0)by simp only[dN,g,c1,c2,if_true];simp]at a;simp[kS]at a;obtain⟨rfl,rfl⟩:=a;simp at c2;simp[f121,bO,c,f,c1,m,c2,underlying65,aN]
    .rw[show dN ⟨d,s::r⟩ e=(⟨d,r⟩,s.id,0)by simp only[dN,g,c1,c2,if_true,if_false];simp]at a;simp[kS]at a;obtain⟨rfl,rfl⟩:=a;simp at c2;have n:=KG (h:=2) (ver:=0) (H:=[ah 2 [[I d,.sl 2 0 0 (r.length+1)]],ah 2 [[I 0,ap]],ah 4 (({s with cH:=max s.cH (min s.cH 4611686018427387903+1)}::r).map aN)]) (l:={s with cH:=max s.cH (min s.cH 4611686018427387903+1)}::r) (k:=0) rfl (by simp) (by have:=i.1;simp at this|-;omega);simp[aN,c1]at n;have p:¬max s.cH (min s.cH 4611686018427387903+1)<e:=by omega
     have q:(r.map aN++[[I 0,ap,I 0,I 0]]).take r.length=r.map aN:=by rw[ai8 (by simp)]
     simp[f121,bO,c,f,c1,m,p,underlying65,aN,n,q]
   .simp[aN]at c f;rw[show dN ⟨d,s::r⟩ e=(⟨d,s::r⟩,0,0)by simp[dN,g,c1]]at a;simp[kS]at a;obtain⟨rfl,rfl⟩:=a;simp[f121,bO,c,f,c1,underlying65,aN]
section
structure On(H:List Ob)(b c:Nat)(v:Wk)(G:List Ob):Prop where
 w:bX G b v
 f:bq b H G
 c:Cell b G c (ah 1 [[.ptr b 0 0 0]])
def On.step{H G a:List Ob}{b c:Nat}{v d:Wk}(h:On H b c v G)(g:bX a b d)(e:bq b G a):On H b c d a:=⟨g,h.f.trans e,h.c.step e⟩
def tS:List bW->List ab
 |[]=>[I 0,.aj [],I 0,I 0]
 |s::_=>aN s
structure qh(H:List Ob)(b c m:Nat)(v:Wk)(l:List bW)(G:List Ob):Prop where
 o:On H b c v G
 m:Cell b G m (ah 4 [tS l])
def qh.step{H G a:List Ob}{b c m:Nat}{v d:Wk}{l:List bW}(h:qh H b c m v l G)(f:bX a b d)(e:bq b G a):qh H b c m d l a:=⟨h.o.step f e,h.m.step e⟩
def bX.cell{H x:List Ob}{b:Nat}{w:Wk}(h:bX H b w){i:Nat}{o:Ob}(a:x[i]?=some o):Cell b (H++x) (H.length+i) o:=by have⟨sl,c,d,e,f,se,h⟩:=h;exact h.cell a
def Cell.snoc{b m:Nat}{G x:List Ob}{o:Ob}(h:Cell b G m o)(a:b<G.length):Cell b (G++x) m o:=h.step (bq.snoc a)
def bX.lt{H:List Ob}{b:Nat}{w:Wk}(h:bX H b w):b<H.length:=by have⟨sl,a,c,d,e,se,h⟩:=h;exact bf h.hb
section
variable{H:List Ob}{b c:Nat}{v:Wk}{G:List Ob}
def bX.row(h:bX G b v):∃sl a c d f se,cF G b v sl a c d f se/\G[b]?=some (ah 13 [[I v.n.dr.ai.id,I v.n.dr.ai.phase,sl,I v.n.dr.aQ,.aj (v.n.dr.need.map aC),I v.n.book.last,a,c,.aj (v.n.told.map aC),d,f,se,I v.e]]):=by have⟨sl,a,c,d,f,se,h⟩:=h;exact⟨sl,a,c,d,f,se,h,h.hb⟩
end
structure OB(w:Wk):Prop where
 a1:w.n.phase≠2->∀k,k<w.n.asked.length->Rm w k
 a2:∀k∈w.n.asked,-1000000<=k.peer/\k.peer<=1000000
 a3:w.n.asked.length<=100000
 bk:iI w.n.book
 b0:cN w.n.book=true
 s1:(dG (dq (dA w))).n.dr.ai.af.length<=100
 d0:dC (dG (dq (dA w))).n.dr=true
 n1:(dG (dq (dA w))).n.dr.need.length<=1000
 t1:(dq (dA w)).n.told.length<=90000
 s0:(dq (dA w)).n.dr.ai.af.length<=100
 o1:(fF (dG (dq (dA w)))).out.length<=90000
 e1:(fF (dG (dq (dA w)))).seen.length<=90000
 bj:∀k,k< (fe (fF (dG (dq (dA w))))).n.dr.ai.af.length->(((fe (fF (dG (dq (dA w))))).n.dr.ai.af.take k).foldl Wk.eZ (fe (fF (dG (dq (dA w)))))).out.length<=90000/\(((fe (fF (dG (dq (dA w))))).n.dr.ai.af.take k).foldl Wk.eZ (fe (fF (dG (dq (dA w)))))).n.told.length<=90000
 bm:(fe (fF (dG (dq (dA w))))).n.dr.ai.af.length<=1000
 l1:pd (iN (fe (fF (dG (dq (dA w)))))).n.dr.ai.af
 l2:(iN (fe (fF (dG (dq (dA w)))))).n.dr.ai.af.length<=1000
 l3:(iN (fe (fF (dG (dq (dA w)))))).n.dr.need.length<=100000
 l4:w.iw.out.length<=90000
def afX(w:Wk):(dA w).n.book=w.n.book:=by
 unfold dA;split
 .have:∀(l:List cj) (w:Wk),(l.foldl Wk.iz w).n.book=w.n.book:=fun l=>by
   induction l with
   |nil=>intro _;rfl
   |cons k r a=>intro w;rw[ai2,a];rfl
  exact this _ _
 .rfl
def aaw(w:Wk):(dq w).n.book=w.n.book:=by
 unfold dq;split
 .split<;>rfl
 .rfl
def abC(w:Wk):(dG w).n.book=w.n.book:=by unfold dG;split<;>rfl
def afw(w:Wk):(fF w).n.book=w.n.book:=rfl
def afl{G:List Ob}{b c f:Nat}{a:ab}{d:List Nat}(e:G[c]?=some (ah 1 [[.ptr b 0 0 0]]))(g:bU G 4 (.ptr b 0 0 0)=some (a,d)):∃h,bU G 6 (.bF f [.ptr c 0 0 0])=some (.bF f [.aJ [[a]] 0 0],h):=by
 have i:obj G c 0=some (1,[[.ptr b 0 0 0]]):=by simp[e]
 have hp:bC (.ptr c 0 0 0)=false:=rfl;have j:bU G 5 (.ptr c 0 0 0)=some (.aJ [[a]] 0 0,1::((d++[])++[])):=by unfold bU;rw[hp];simp only[aes,if_false];rw[i];simp only;have k:bA [[ab.ptr b 0 0 0]]=false:=rfl;unfold jb;rw[k];simp only[aes,if_false,jR,eX,g]
 have hc:bC (.bF f [.ptr c 0 0 0])=false:=rfl;refine⟨(1::((d++[])++[]))++[],?_⟩;unfold bU;rw[hc];simp only[aes,if_false,eX,j]
def aaX{G:List Ob}{b c:Nat}{v:Wk}{sl j k l m se:ab}(g:cF G b v sl j k l m se)(o:G[c]?=some (ah 1 [[.ptr b 0 0 0]]))(A:v.n.dr.ai.af.length<=1000000)(B:v.n.told.length<=100000):
  aO tz ay 171 [.c sl,.c (.bF 206 [.ptr c 0 0 0])] G=some (aR (v.n.dr.ai.af.any (untold v.n)),G):=by
 have⟨a,d,le,C,p,q⟩:=g.HF 2
 have⟨t,i⟩:=g.hs
 have r:=i.view (bK _)
 have⟨s,u⟩:=afl (f:=206) o q
 have h:bC a=true/\bC d=true/\bC le=true:=by simpa using p
 have w:=xL (g:=206) (caps:=[.aJ [[.aJ [[I v.n.dr.ai.id,I v.n.dr.ai.phase,.aj (v.n.dr.ai.af.map ax),I v.n.dr.aQ,aG v.n.dr.need,I v.n.book.last,.aj (v.n.book.aA.map aN),.aj (v.n.known.map aW),aG v.n.told,a,d,le,I v.e]] 0 0]] 0 0]) v.n.dr.ai.af (by unfold maxLen;omega) (untold v.n) (by simp) (by simp[bK,bV,bR,bi,h]) (bK _) (fun x _=>by
  have:=Wm x (I v.n.dr.ai.id) (I v.n.dr.ai.phase) (.aj (v.n.dr.ai.af.map ax)) (I v.n.dr.aQ) (aG v.n.dr.need) (I v.n.book.last) (.aj (v.n.book.aA.map aN)) (.aj (v.n.known.map aW)) v.n.told a d le (I v.e) (by simp[bK,bV,bR,bi,h]) (by unfold maxLen;omega)
  simp only[aG]at this
  simp[this,aG,bK,bV,bR,bi,h,ax]at this|-
  simp[untold])
 have y:([aw.c sl,aw.c (.bF 206 [.ptr c 0 0 0])].any (eO tz))=false:=by
  obtain⟨D,E,rfl,_⟩:=i
  simp[eO]
 have z:dy G [.c sl,.c (.bF 206 [.ptr c 0 0 0])]=some ([bh (v.n.dr.ai.af.map ax),.c (.bF 206 [.aJ [[.aJ [[I v.n.dr.ai.id,I v.n.dr.ai.phase,.aj (v.n.dr.ai.af.map ax),I v.n.dr.aQ,aG v.n.dr.need,I v.n.book.last,.aj (v.n.book.aA.map aN),.aj (v.n.known.map aW),aG v.n.told,a,d,le,I v.e]] 0 0]] 0 0])],[8]++(s++[])):=by
  simp only[dy,df,r,u]
 rw[aD,y,z]
 simp only[show tz.md 171=0 from rfl,aes,or_false]
 rw[if_neg (by decide),kU,(show tz.md 171=0 from rfl),w,jP]
 simp
def cF.out{H G:List Ob}{b:Nat}{w:Wk}{sl k l p g se ol':ab}(h:cF H b w sl k l p g se)(q:List cB)(s:G[b]?=some (ah 13 [bM ⟨w.n,q,w.seen,w.e⟩ sl k l p ol' se]))(K:H.length<=G.length)
  (i:∀(m:Nat) (o:Ob),H[m]?=some o->m≠b->m∉rf g->G[m]?=some o) (A:lB G 5 ol' (q.map dW)) (u:∀m∈rf ol',m∈rf g\/H.length<=m):
  cF G b ⟨w.n,q,w.seen,w.e⟩ sl k l p ol' se/\bq b H G:=by
 obtain⟨j,⟨t,B⟩,C,D,E,F,x,d1,d2⟩:=h
 have I:∀m,m∈rf g->∃v r,H[m]?=some (.live v 5 r):=by
  rcases F with⟨_,rfl⟩|⟨M,N,rfl,d⟩
  .intro m hm;simp[rf]at hm
  .intro m hm;simp[rf]at hm;subst hm;exact⟨_,_,d⟩
 have f:∀(m v z:Nat) (r:List (List ab)),z≠13->z≠5->H[m]?=some (.live v z r)->G[m]?=some (.live v z r):=fun m v z r c d a=>i m _ a (fun e=>by subst e;rw[j]at a;cases a;exact c rfl) (fun hm=>by
  obtain⟨O,P,y⟩:=I m hm
  rw[y]at a;cases a;exact d rfl)
 refine⟨⟨s,⟨t,B.aK fun _ _ _ _ h=>f _ _ _ _ (by decide) (by decide) h⟩,C.aK fun _ _ _ _ h=>f _ _ _ _ (by decide) (by decide) h,D.aK fun _ _ _ _ h=>f _ _ _ _ (by decide) (by decide) h,E.aK fun _ _ _ _ h=>f _ _ _ _ (by decide) (by decide) h,A,x.aK fun m _ _ hm h=>i m _ h (fun e=>by subst e;rw[j]at h;cases h) (fun L=>d2 m L hm),d1,fun m hm J=>?_⟩,bq.bH j s K (fun m hm=>?_) (fun m o c d a=>i m o c d (fun y=>a ?_))⟩
 .rcases u m hm with c|c
  .exact d2 m c J
  .have:=x.lt m J
   omega
 .have Q:=u m
  clear I f B C D E F x d1 d2 j s i A u
  simp only[eu,bM,aiz,ajn,ain,qA,ql,aG]at hm|-
  simp at hm|-
  grind
 .simp only[eu,bM,aiz,ajn,ain,qA,ql,aG]
  simp[y]
def qs{H:List Ob}{b:ab}{l:List bW}{a:Int}{f:FuncId}{r:aw}{own:List Ob}{ex:List aw}(h:kv H b l)(c:tz.md f=0)(hex:dy H ex=some (ex,[]))(g:ex.any (eO tz)=false)
  (hp:aS tz ay 0 f (.agg [I a,.aj (l.map aN)]::ex)=some (r,own)) (i:ei false [4] r own=true):aO tz ay f (.agg [I a,b]::ex) H=some (eN H.length r,H++own.map (dX H.length)):=by
 have vI:bU H 6 (I a)=some (I a,[]):=rfl
 have e:((aw.agg [I a,b]::ex).any (eO tz))=false:=by simpa[eO]using g
 rcases h.view with v|v
 .have d:dy H (.agg [I a,b]::ex)=some (.agg [I a,.aj (l.map aN)]::ex,[]):=by simp only[dy,df,eX,vI,v,hex];rfl
  rw[aD,e,d]
  simp only[c,aes,or_false]
  rw[if_neg (by decide),kU,c,hp,jP]
  exact if_pos rfl
 .have d:dy H (.agg [I a,b]::ex)=some (.agg [I a,.aj (l.map aN)]::ex,[4]):=by simp only[dy,df,eX,vI,v,hex];rfl
  rw[aD,e,d]
  simp only[c,aes,or_false]
  rw[if_neg (by decide),kU,c,hp,jP]
  exact if_pos i
def IQ(x:bW):cW [4] (aN x)=true:=by have h:=vz aC [4] (fun x=>by simp[aC]) x.need;simp[aN,aG,h]
def QF(a i e:Int)(n:Nat)(l:List bW):ei false [4] (.aM [.agg [I a,.sl 0 0 0 n],aa i,aa e]) [ah 4 (l.map aN)]=true:=by
 have:((l.map aN).all fun r=>cW [4] r)=true:=by rw[aj9,ahI];intro x _;exact IQ x
 simp[ei,kj,lH,-cW]at this|-;exact⟨by simp[cW],this⟩
def Qh(a e:Int)(n:Nat)(l:List bW):ei false [4] (.aM [.agg [I a,.sl 0 0 0 n],aa e]) [ah 4 (l.map aN)]=true:=by
 have:((l.map aN).all fun r=>cW [4] r)=true:=by rw[aj9,ahI];intro x _;exact IQ x
 simp[ei,kj,lH,-cW]at this|-;exact⟨by simp[cW],this⟩
def uj(n:Nat)(l:List bW):dX n (ah 4 (l.map aN))=ah 4 (l.map aN):=qy (bV l)
end
def zR{id:Int}:∀ {l:List aI} {b:Int},dU id b l=true->(l.Pairwise fun x y=>x.peer<y.peer)/\∀x∈l,b<x.peer
 |[],_,_=>⟨akr,by simp⟩
 |x::r,b,h=>by
  simp only[dU,abR]at h
  have⟨d,c⟩:=zR h.2
  have e:b<x.peer:=by
   have:=h.1
   simp only[cS,abR,decide_eq_true_eq]at this
   omega
  refine⟨ahg.2 ⟨fun y a=>c y a,d⟩,fun y a=>?_⟩
  rcases aeM.1 a with rfl|a
  .exact e
  .have:=c y a;omega
def Sn{id:Int}{l:List aI}(hid:id<64)(h:dU id (-1) l=true)(hp:∀x∈l,x.peer<64):pd l:=by have⟨b,c⟩:=zR h;have d:=wC hid h hp (by omega) (by omega);refine⟨b,fun x a=>⟨by have:=c x a;omega,by have:=hp x a;omega⟩,?_⟩;split at d<;>omega
structure gN(l:List cj):Prop where
 s:l.Pairwise fun x y=>x.peer<y.peer
 b:∀x∈l,-1000000<=x.peer/\x.peer<=1000000
def Gi{p e:Int}{y:cj}:∀ {l:List cj},y∈fS p e l->y.peer=p\/y∈l
 |[],h=>by simp[fS]at h;exact .inl (by rw[h])
 |k::r,h=>by
  unfold fS at h
  split at h
  .rcases aeM.1 h with rfl|h
   .exact .inl rfl
   .exact .inr (by simp[h])
  .split at h
   .rcases aeM.1 h with rfl|h
    .exact .inl rfl
    .exact .inr h
   .rcases aeM.1 h with rfl|h
    .exact .inr (by simp)
    .rcases Gi h with h|h
     .exact .inl h
     .exact .inr (by simp[h])
def Q1{p e:Int}:∀ {l:List cj},(l.Pairwise fun x y=>x.peer<y.peer)->(fS p e l).Pairwise fun x y=>x.peer<y.peer
 |[],_=>by simp[fS]
 |k::r,h=>by
  have hp:=ahg.1 h
  unfold fS
  split
  .rename_i d
   refine ahg.2 ⟨fun y a=>?_,hp.2⟩
   have:=hp.1 y a
   show p<y.peer
   omega
  .rename_i d
   split
   .rename_i c
    refine ahg.2 ⟨fun y a=>?_,h⟩
    show p<y.peer
    rcases aeM.1 a with rfl|a
    .exact c
    .have:=hp.1 y a;omega
   .rename_i c
    refine ahg.2 ⟨fun y a=>?_,Q1 hp.2⟩
    rcases Gi a with b|b
    .rw[b];omega
    .exact hp.1 y b
def gN.td{l:List cj}(h:gN l){p e:Int}(c: -1000000<=p)(d:p<=1000000):gN (fS p e l):=⟨Q1 h.s,fun x f=>by
 rcases Gi f with a|a
 .rw[a];exact⟨c,d⟩
 .exact h.b x a⟩
def DR:∀(l:List cj) (w:Wk),gN w.n.known->(∀k∈l,-1000000<=k.peer/\k.peer<=1000000)->gN (l.foldl Wk.iz w).n.known
 |[],_,h,_=>h
 |k::r,w,h,hp=>by
  rw[ai2]
  have⟨a,b⟩:=hp k (by simp)
  exact DR r _ (h.td a b) fun y c=>hp y (by simp[c])
def Sp{a:Wk}(hid:a.n.id<64)(c:sS a a a.n.asked):∀k:Nat,k<=a.n.asked.length->sS a ((a.n.asked.take k).foldl Wk.iz a) (a.n.asked.drop k)
 |0,_=>by simpa using c
 |k+1,e=>by
  have b:=Sp hid c k (by omega)
  have d:k<a.n.asked.length:=by omega
  rw[agO d]at b
  rw[jC d,ajh]
  exact Qf b (by rw[b.id];exact hid)
def agL{w:Wk}(h:dd w.n):sS w w w.n.asked:=by have a:=ic.1 h.dr;have b:=jn.1 a.1;exact⟨rfl,rfl,rfl,rfl,rfl,rfl,rfl,rfl,fun _ h=>h,b.2.2.2.2,h.pe,h.ask,h.ad,rfl,rfl,rfl,by omega⟩
structure eY(v:Wk):Prop where
 i:dd v.n
 k:gN v.n.known
 t:ij v<=9000
 e:v.e=0
def acY{w:Wk}(h:dd w.n)(a:gN w.n.known):gN (dA w).n.known:=by
 unfold dA;split
 .exact DR _ _ a fun k a=>by have:=h.ask k a;have:=h.id;omega
 .exact a
def agG(w:Wk):(iN w).n.known=w.n.known:=by unfold iN;split<;>rfl
def VV(w:Wk):(fe w).n.known=w.n.known:=by
 unfold fe;split
 .split<;>rfl
 .rfl
def abr(w:Wk):(dG w).n.known=w.n.known:=by unfold dG;split<;>rfl
def ae1(w:Wk):(dq w).n.known=w.n.known:=by
 unfold dq;split
 .split<;>rfl
 .rfl
def eY.iw{v:Wk}(h:eY v):eY v.iw:=by
 have⟨a,d,f,b⟩:=zD h.i;have c:v.iw.n.known=(dA v).n.known:=by show(iN (fe (fF (dG (dq (dA v)))))).n.known=_;rw[agG,VV];show(dG (dq (dA v))).n.known=_;rw[abr,ae1]
 exact⟨a,by rw[c];exact acY h.i h.k,by have:=h.t;omega,by rw[b];exact h.e⟩
def RC:∀ {l:List Int} {a:Int},ek l=true->(∀p∈l,a<=p/\p<64)->a<=64->(l.length:Int)+a<=64
 |[],a,_,_,h=>by simp;omega
 |x::r,a,b,d,_=>by
  have j:=d x (by simp)
  simp only[ek,abR]at b
  have e:=RC (a:=x+1) b.2 (fun p hp=>?_) (by omega)
  .simp only[aip];omega
  .have g:=d p (by simp[hp])
   refine⟨?_,g.2⟩
   have i:∀(l:List Int) (x:Int),((match l with|[]=>true|y::_=>decide (x<y))=true)->ek l=true->∀p∈l,x<p:=by
    intro l
    induction l with
    |nil=>intro x _ _ p hp;simp at hp
    |cons y t e=>
     intro x f c p hp
     simp only[decide_eq_true_eq]at f
     simp only[ek,abR]at c
     rcases aeM.1 hp with rfl|hp
     .exact f
     .have:=e y c.1 c.2 p hp;omega
   have:=i r x b.1 b.2 p hp
   omega
def dd.need{n:Nd}(h:dd n):n.dr.need.length<=64:=by
 have b:=ic.1 h.dr;have d:=jn.1 b.1;have:=RC (a:=0) b.2.2.2.1 (fun p hp=>by obtain⟨x,c,rfl⟩:=lM.1 (b.2.2.2.2.2 p hp);have e:=(zR d.2.2.2.2).2 x c;exact⟨by omega,h.pe x c⟩) (by decide)
 omega
def dd.af{n:Nd}(h:dd n):n.dr.ai.af.length<64/\pd n.dr.ai.af:=by have b:=ic.1 h.dr;have a:=jn.1 b.1;exact⟨a.2.2.2.1,Sn h.id a.2.2.2.2 h.pe⟩
def yp{b:cd}(h:cN b=true):iI b:=by refine⟨?_,fun s a=>by have:=(Ry h s a).2;omega⟩;simp only[cN,abR,afa,decide_eq_false_iff_not]at h;omega
def PM(a:List Int):∀(l:List aI) (k:Nat),bS (dB a) (l.take k)<=bS (dB a) l
 |[],_=>by simp[bS]
 |x::r,0=>by simp[bS]
 |x::r,k+1=>by
  have:=PM a r k
  simp only[alF,bS]
  omega
def agy{w:Wk}(k:Nat):((w.n.dr.ai.af.take k).foldl Wk.eZ w).out.length<=ij w/\((w.n.dr.ai.af.take k).foldl Wk.eZ w).n.told.length<=ij w:=by
 rw[D5];have⟨m,a,b,c,d,e⟩:=Af w.n.id (w.n.dr.ai.af.take k) w.n.told w.out;have f:=PM w.n.told w.n.dr.ai.af k;have g:4*bS (dB w.n.told) w.n.dr.ai.af<=dP w.n:=by show 4*bS (dB w.n.told) w.n.af<=_;simp only[dP];omega
 simp only[ij];constructor
 .show (jq w.n.id (w.n.dr.ai.af.take k) w.n.told w.out).2.length<=_;omega
 .show (jq w.n.id (w.n.dr.ai.af.take k) w.n.told w.out).1.length<=_;omega
def eY.Wx{v:Wk}(h:eY v):OB v:=by
 have⟨l,m,A,B⟩:=GZ h.i;have⟨e,o,p,q⟩:=Eu l;have⟨c1,c2,c3,c4⟩:=IL e;have⟨d1,d2,d3⟩:=IC c1 (by rw[c3,c4,p];exact q);have⟨f,r⟩:=Qr d1;have⟨a,u⟩:=Lp f;have⟨C,x⟩:=Lf a;have D:=h.t;have E:=m.2.1;have F:=o.2.1;have G:=c2.2.1;have H:=d2.2.1;have I:=r.2.1;have J:=u.2.1;have K:=x.2.1;have L:10*v.n.asked.length<=dP v.n:=by simp only[dP];omega
 have c:∀w:Wk,w.out.length<=ij w/\w.seen.length<=ij w/\w.n.told.length<=ij w:=fun w=>by simp only[ij];omega
 have M:ij v=v.out.length+v.seen.length+v.n.told.length+v.n.known.length+dP v.n:=rfl;refine⟨fun _ k g=>?_,fun k g=>by have:=h.i.ask k g;have:=h.i.id;omega,by omega,yp h.i.bk,h.i.bk,by have:=c1.af.1;omega,c1.dr,by have:=c1.need;omega,?_,by have:=e.af.1;omega,?_,?_,fun k _=>?_,by have:=f.af.1;omega,a.af.2,by have:=a.af.1;omega,by have:=a.need;omega,?_⟩
 .have d:=Sp h.i.id (agL h.i) k (by omega);have j:=DR (v.n.asked.take k) v h.k fun y z=>by have:=h.i.ask y (ajA z);have:=h.i.id;omega
  have N:=d.t;exact⟨Sn (by rw[d.id];exact h.i.id) d.ok d.pe,⟨j.s,j.b,by omega⟩,by omega,by omega⟩
 .have:=(c (dq (dA v))).2.2;omega
 .have:=(c (fF (dG (dq (dA v))))).1;omega
 .have:=(c (fF (dG (dq (dA v))))).2.1;omega
 .have:=agy (w:=fe (fF (dG (dq (dA v))))) k;omega
 .have:=(c v.iw).1;show v.iw.out.length<=_;have O:ij v.iw<=ij v:=(zD h.i).2.2.1;omega
def KH{a b:List Int}:kZ a b=true↔ ∀x∈a,x∈b:=by unfold kZ gJ;rw[akM,alk];simp[vA]
def Iz:∀ {l ahead:List cj},kN ahead l=true->(l.Pairwise fun x y=>x.peer≠y.peer)/\∀x∈ahead, ∀k∈l,x.peer≠k.peer
 |[],_,_=>⟨akr,by simp⟩
 |k::r,ahead,h=>by
  simp only[kN,abR,afa,aja,decide_eq_true_eq]at h
  have⟨d,b⟩:=Iz h.2
  refine⟨ahg.2 ⟨fun y a=>b k (by simp) y a,d⟩,fun x c y a=>?_⟩
  rcases aeM.1 a with rfl|a
  .exact h.1 x c
  .exact b x (by simp[c]) y a
def yl:∀ {l:List cj} {a:Int},mL a l=true->(l.Pairwise fun x y=>x.peer<y.peer)/\∀x∈l,a<x.peer/\x.peer<64/\1<=x.aP/\x.aP<=65535
 |[],_,_=>⟨akr,by simp⟩
 |k::r,a,h=>by
  simp only[mL,abR,decide_eq_true_eq]at h
  have⟨⟨⟨⟨d,e⟩,f⟩,g⟩,i⟩:=h
  have⟨j,c⟩:=yl i
  refine⟨ahg.2 ⟨fun y m=>(c y m).1,j⟩,fun x b=>?_⟩
  rcases aeM.1 b with rfl|b
  .exact ⟨d,e,f,g⟩
  .have:=c x b
   exact⟨by omega,this.2⟩
def AB{l:List cj}{b:Int}(h:mL b l=true)(p:Int):0<=gR l p:=by
 have a:=(yl h).2;clear h;induction l with
 |nil=>simp[gR]
 |cons k r c=>
  unfold gR;split
  .have:=(a k (by simp)).2.2.1;omega
  .exact c fun x d=>a x (by simp[d])
def Pg{n:Nd}{p:Int}:p∈jY n↔qZ n p:=by
 simp only[jY,aiK,ajH,nR,decide_eq_true_eq,qZ];constructor
 .rintro⟨x,⟨a,b⟩,c⟩;exact⟨x,a,c,b⟩
 .rintro⟨x,a,b,c⟩;exact⟨x,⟨a,c⟩,b⟩
def Sw{bl:Int}:∀ {l:List bW} {b:Int} {f:Bool},dS bl b f l=true->∀s∈l,s.state=0\/s.state=1
 |[],_,_,_=>by simp
 |s::r,b,f,h=>by
  simp only[dS,abR]at h
  intro t a
  rcases aeM.1 a with rfl|a
  .have:=h.1
   simp only[dw,abR,ai9,decide_eq_true_eq]at this
   rcases this.2 with h|h
   .exact .inr h.1
   .exact .inl h.1
  .exact Sw h.2 t a
def Y1{b:cd}(h:cN b=true):∀s∈b.aA,s.state=0\/s.state=1:=by simp only[cN,abR]at h;exact Sw h.2
def JE{n:Nd}(h:dm n=true):dd n/\gN n.known/\mL (-1) n.known=true:=by
 simp only[dm,pF,sj,abR,afa,aja,decide_eq_true_eq]at h;obtain⟨⟨⟨l,g⟩,⟨m,o⟩,⟨⟨⟨hid,c⟩,q⟩,C⟩,D⟩,hth⟩:=h;have i:=yl c
 have j:(∀s∈n.book.aA,s.state=0->∀p∈s.need,qZ n p)/\(n.dr.aQ=1->∃s r,n.book.aA=s::r/\s.state=0/\s.need=n.dr.need):=by
  unfold sU at hth;cases d:n.book.aA with
  |nil=>rw[d]at hth;simp only[abR,decide_eq_true_eq]at hth;exact⟨by simp,fun h=>by rw[hth.1.2]at h;cases h⟩
  |cons s r=>
   rw[d]at hth;simp only[abR,ai9,decide_eq_true_eq,afa,aja,beq_iff_eq]at hth;have⟨⟨⟨b,a⟩,u⟩,v⟩:=hth;refine⟨fun t w y p hp=>?_,fun h=>?_⟩
   .have:=v t w;simp only[y]at this;have z:kZ t.need (jY n)=true:=by simpa using this
    exact Pg.1 (KH.1 z p hp)
   .refine ⟨s,r,rfl,?_,?_⟩
    .have A:=Y1 g s (by rw[d];simp);rcases A with e|e
     .exact e
     .rw[h,e]at b;simp at b
    .rcases a with a|a
     .rw[a]at h;cases h
     .exact a
 refine⟨⟨l,g,hid,fun x f=>?_,fun k B=>?_,(Iz o).1,j.1,j.2⟩,⟨i.1,fun x f=>by have:=i.2 x f;omega⟩,c⟩
 .have:=q x f;simp only[lU,ai9,not_or,decide_eq_true_eq]at this;omega
 .have b:=m k B;have a:ju n k=true:=by simpa using b
  simp only[ju,abR,afa,decide_eq_false_iff_not,decide_eq_true_eq]at a;have u:=AB c k.peer;exact⟨by omega,a.1.1.2,a.1.1.1.1,by omega,a.2⟩
def Rl{H:List Ob}{b:Nat}{w:Wk}(aa:bX H b w)(B:OB w):
  ∃H',bB tz (ev tz) 129 [au b] H=some (.aM [],H')/\bX H' b w.iw/\bq b H H':=by
 refine gj func129 rfl ?_
 simp only[f129,cr]
 refine eh (fun S=>∃c,S.env.get 1=some (au c)/\S.bG=[]/\On H b c w S.heap) ?_ ?_
 .simp
  have J:=aa.cell (x:=[ah 1 [[.ptr b 0 0 0]]]) (i:=0) rfl
  rw[aiB]at J
  exact⟨aa.snoc,bq.snoc aa.lt,J⟩
 rintro⟨e,G,ds⟩⟨c,j,rfl,o⟩
 simp only at j o
 refine bp [(1,au c)] (fun G=>On H b c (dA w) G) ?_ ?_
 .have ⟨sl,F,L,C,N,se,g,p⟩:=o.w.row
  have u:=o.c.at'
  by_cases c1:w.n.dr.ai.phase=2
  .have t:dA w=w:=by unfold dA;rw[if_neg (by simp[Nd.phase,c1])]
   rw[c1]at p
   rw[t]
   simp[j,u,p]
   exact o
  .have t:dA w=w.answer:=by unfold dA;rw[if_pos c1]
   have⟨G',O,w2,bm⟩:=Y6 o.w (B.a1 c1) B.a2 B.a3
   rw[t]
   simp[j,u,p,c1,O]
   exact o.step w2 bm
 have P:=afX w
 have aF:=B.bk
 have⟨D,Q⟩:=ak (dA w)
 clear j o
 rintro e G⟨j,_⟩o
 rw[Q]at o P
 refine eh (fun S=>∃m,S.env.get 1=some (au c)/\S.env.get 2=some (au m)/\S.env.get 3=some (aR (!w.n.book.aA.isEmpty))/\S.bG=[]/\qh H b c m D w.n.book.aA S.heap) ?_ ?_
 .have ⟨sl,F,L,C,N,se,g,p⟩:=o.w.row
  have u:=o.c.at'
  have Y:=o.w.lt
  cases E:w.n.book.aA with
  |nil=>
   have cl:=qJ g (f:=119) (r:= .aM [.agg [I 0,.aj [],I 0,I 0],aR false]) (own:=[]) (by simp) (fun aq M=>by rw[v8 _ aq M,P,E]) (fun bs hb=>by rcases hb with rfl|rfl|rfl|rfl<;>rfl)
   simp only[aG]at cl
   have J:=o.w.cell (x:=[ah 4 [[I 0,.aj [],I 0,I 0]]]) (i:=0) rfl
   rw[aiB]at J
   simp[-aD,j,u,p,cl]
   exact⟨o.step o.w.snoc (bq.snoc Y),J⟩
  |cons s r=>
   have cl:=qJ g (f:=119) (r:= .aM [.agg (aN s),aR true]) (own:=[]) (by simp) (fun aq M=>by rw[v8 _ aq M,P,E]) (fun bs hb=>by rcases hb with rfl|rfl|rfl|rfl<;>simp[aN,vz])
   simp only[aG]at cl
   have J:=o.w.cell (x:=[ah 4 [aN s]]) (i:=0) rfl
   rw[aiB]at J
   simp only[aN,aG]at J cl
   simp[-aD,j,u,p,cl]
   exact⟨o.step o.w.snoc (bq.snoc Y),J⟩
 clear j o
 rintro⟨e,G,ds⟩⟨m,j,v,k,rfl,o⟩
 simp only at j v k o
 refine bp [(1,au c),(2,au m),(3,aR (!w.n.book.aA.isEmpty))] (fun G=>qh H b c m (dq D) w.n.book.aA G) ?_ ?_
 .have ⟨sl,F,L,C,N,se,g,p⟩:=o.o.w.row
  have u:=o.o.c.at'
  have z:=o.m.at'
  cases E:w.n.book.aA with
  |nil=>
   rw[E]at k o
   simp at k
   have t:dq D=D:=by unfold dq waits;rw[P,E]
   rw[t]
   simp[j,v,k]
   exact o
  |cons s r=>
   rw[E]at k o z
   simp only[tS,aN,aG]at z
   simp at k
   by_cases c1:s.state=0
   case neg=>
    have t:dq D=D:=by unfold dq waits;rw[P,E];simp[c1]
    rw[t]
    simp[j,v,k,z,c1]
    exact o
   by_cases c2:D.n.dr.aQ=0
   case neg=>
    have t:dq D=D:=by unfold dq waits;rw[P,E];simp[c1,c2]
    rw[t]
    rw[c1]at z
    simp[j,v,k,u,z,p,c2]
    exact o
   have t:dq D=D.put (D.n.di ⟨D.n.dr.ai,1,s.need⟩):=by unfold dq waits;rw[P,E];simp[c1,c2]
   have q:=g.xX [] (D.put (D.n.di ⟨D.n.dr.ai,1,s.need⟩)) sl F C (.inl ⟨rfl,rfl⟩) (.inl ⟨rfl,rfl⟩) rfl (.inl ⟨rfl,rfl⟩) rfl rfl
   have aY:=uF (a:= .aj (s.need.map aC)) (l:=s.need) rfl (by have:=aF.2 s (by rw[E];simp);omega)
   rw[c1]at z
   rw[c2]at p
   rw[t]
   simp only[bM,Wk.put,Nd.di,aeU,aG]at q
   simp[j,v,k,u,z,p,aY,ba p,bi,o.o.c.ne]
   exact o.step q.1 q.2
 have aH:=(aaw D).trans P
 have⟨wb,R⟩:=ak (dq D)
 clear j v k o
 rintro e G⟨j,v,k,_⟩o
 rw[R]at o aH
 refine bp [(1,au c),(2,au m),(3,aR (!w.n.book.aA.isEmpty)),(4,.c (.bF 206 [.ptr c 0 0 0]))] (fun G=>qh H b c m wb w.n.book.aA G) ?_ ?_
 .simp[j,v,k]
  exact o
 clear j v k o
 rintro e G⟨j,v,k,a4,_⟩o
 refine bp [(1,au c),(2,au m),(3,aR (!w.n.book.aA.isEmpty))] (fun G=>qh H b c m (dG wb) w.n.book.aA G) ?_ ?_
 .have ⟨sl,F,L,C,N,se,g,p⟩:=o.o.w.row
  have u:=o.o.c.at'
  by_cases c1:wb.n.dr.ai.phase=0
  case neg=>
   have t:dG wb=wb:=by unfold dG;rw[if_neg (by simp[Nd.phase,c1])]
   rw[t]
   simp[j,v,k,u,p,c1]
   exact o
  have aZ:=B.s0
  have a0:=B.t1
  rw[Q,R]at aZ a0
  have cl:=aaX g u (by omega) (by omega)
  rw[c1]at p
  cases c2:wb.n.dr.ai.af.any (untold wb.n)with
  |false=>
   have t:dG wb=wb:=by
    unfold dG
    rw[if_neg]
    rintro⟨_,aa⟩
    rw[show wb.n.af=wb.n.dr.ai.af from rfl,c2]at aa
    cases aa
   rw[c2]at cl
   rw[t]
   simp[-aD,j,v,k,a4,u,p,cl]
   exact o
  |true=>
   have t:dG wb=wb.put (wb.n.di ⟨⟨wb.n.id,1,wb.n.af⟩,wb.n.dr.aQ,wb.n.dr.need⟩):=by
    unfold dG
    rw[if_pos ⟨c1,c2⟩]
   have q:=g.xX [] (wb.put (wb.n.di ⟨⟨wb.n.id,1,wb.n.af⟩,wb.n.dr.aQ,wb.n.dr.need⟩)) sl F C (.inl ⟨rfl,rfl⟩) (.inl ⟨rfl,rfl⟩) rfl (.inl ⟨rfl,rfl⟩) rfl rfl
   rw[c2]at cl
   rw[t]
   simp only[bM,Wk.put,Nd.di,aeU,aG]at q
   simp[-aD,j,v,k,a4,u,p,cl]
   exact o.step q.1 q.2
 have aI:=(abC wb).trans aH
 have ap:=B.s1
 have aJ:=B.n1
 rw[Q,R]at ap aJ
 have⟨h,ab⟩:=ak (dG wb)
 clear j v k a4 o
 rintro e G⟨j,v,k,_⟩o
 rw[ab]at o aI ap aJ
 have ag:=afi h.n.dr ap (by omega)
 have T:=B.o1
 have aK:=B.e1
 rw[Q,R,ab]at T aK
 have aL:=B.d0
 rw[Q,R,ab]at aL
 rw[if_neg (by rw[aL];simp)]at ag
 have ar:fF h=⟨h.n.di (lC h.n.dr).1,h.out++(lC h.n.dr).2.1,h.seen,h.e⟩:=rfl
 have⟨d,hd⟩:=ak ((lC h.n.dr).1)
 have⟨fo,a1⟩:=ak ((lC h.n.dr).2.1)
 rw[hd,a1]at ag ar
 have bf:h.out.length+fo.length<=90000:=by rw[ar]at T;simpa using T
 simp only[xG,cU,aG]at ag
 refine eh (fun S=>∃n0 mo,S.env.get 1=some (au c)/\S.env.get 2=some (au m)/\S.env.get 3=some (aR (!w.n.book.aA.isEmpty))/\S.env.get 5=some (au n0)/\S.env.get 6=some (bd mo 0 0 fo.length)/\S.bG=[]/\S.heap=G++[ah 8 (d.ai.af.map ax),ah 5 (fo.map dW),ah 5 [[I d.ai.id,I d.ai.phase,.sl G.length 0 0 d.ai.af.length,I d.aQ,.aj (d.need.map aC)]]]/\n0=G.length+2/\mo=G.length+1) ?_ ?_
 .have ⟨sl,F,L,C,N,se,g,p⟩:=o.o.w.row
  have u:=o.o.c.at'
  obtain⟨a2,M,Z,rfl,a3⟩:=g.hs
  have a6:((h.n.dr.ai.af.map ax)++a2).take h.n.dr.ai.af.length=h.n.dr.ai.af.map ax:=ai8 (by simp)
  simp[j,v,k,u,p,a3,a6,ag,xw,pS,Ni]
 have Y:=o.o.w.lt
 have J:=o.o.w.cell (x:=[ah 8 (d.ai.af.map ax),ah 5 (fo.map dW),ah 5 [[I d.ai.id,I d.ai.phase,.sl G.length 0 0 d.ai.af.length,I d.aQ,.aj (d.need.map aC)]]]) (i:=1) rfl
 have c2:=o.o.w.cell (x:=[ah 8 (d.ai.af.map ax),ah 5 (fo.map dW),ah 5 [[I d.ai.id,I d.ai.phase,.sl G.length 0 0 d.ai.af.length,I d.aQ,.aj (d.need.map aC)]]]) (i:=2) rfl
 have⟨sl,F,L,C,N,se,g,p⟩:=o.o.w.row
 have q:=(g.snoc (x:=[ah 8 (d.ai.af.map ax),ah 5 (fo.map dW),ah 5 [[I d.ai.id,I d.ai.phase,.sl G.length 0 0 d.ai.af.length,I d.aQ,.aj (d.need.map aC)]]])).vl (bq.snoc Y) [] (h.put (h.n.di d)) (.sl G.length 0 0 d.ai.af.length) F C (.inr ⟨by simp[rf],[],G.length,0,by simp[Wk.put,Nd.di],by rw[aeU,p5];simp[Wk.put,Nd.di]⟩) (.inl ⟨rfl,rfl⟩) rfl (.inl ⟨rfl,rfl⟩) rfl rfl
 have o2:=o.step o.o.w.snoc (bq.snoc (x:=[ah 8 (d.ai.af.map ax),ah 5 (fo.map dW),ah 5 [[I d.ai.id,I d.ai.phase,.sl G.length 0 0 d.ai.af.length,I d.aQ,.aj (d.need.map aC)]]]) Y)
 clear j v k
 rintro⟨e,K,ds⟩⟨n0,mo,j,v,k,a5,U,rfl,t,O,e3⟩
 simp only at j v k a5 U t
 refine bp [(1,au c),(2,au m),(3,aR (!w.n.book.aA.isEmpty)),(6,bd mo 0 0 fo.length)] (fun G=>qh H b c m (h.put (h.n.di d)) w.n.book.aA G/\Cell b G mo (ah 5 (fo.map dW))) ?_ ?_
 .have u:=o2.o.c.at'
  have ad:=c2.at'
  have av:=aV (m:=[ah 8 (d.ai.af.map ax),ah 5 (fo.map dW),ah 5 [[I d.ai.id,I d.ai.phase,.sl G.length 0 0 d.ai.af.length,I d.aQ,.aj (d.need.map aC)]]]) p
  rw[<-t]at u ad av q J
  rw[<-O]at ad
  rw[<-e3]at J
  simp only[bM,Wk.put,Nd.di,aeU,aG]at q
  simp[j,v,k,a5,U,u,ad,av]
  refine⟨o.step q.1 q.2,?_⟩
  refine⟨by rw[aat (ait J.ne)];exact J.at',J.ne,?_⟩
  rw[ba av]
  intro hm
  have al:=g.lt
  rw[p]at al
  simp only[oW,eu,aiz,ajn,ain,Go.Nx.rf]at hm al
  simp at hm al
  have h1:=al mo
  grind
 clear j v k a5 U t O e3 J c2 q o2 o g p Y
 rintro e K⟨j,v,k,U,_⟩⟨o,cm⟩
 refine bp [(1,au c),(2,au m),(3,aR (!w.n.book.aA.isEmpty))] (fun G=>qh H b c m (fF h) w.n.book.aA G) ?_ ?_
 .have hD:fF h=⟨(h.put (h.n.di d)).n,h.out++fo,(h.put (h.n.di d)).seen,(h.put (h.n.di d)).e⟩:=ar
  have⟨sl,F,L,C,N,se,g,p⟩:=o.o.w.row
  have u:=o.o.c.at'
  have z:=cm.at'
  have aO:=o.o.c.ne
  have Y:=o.o.w.lt
  have b1:h.out.length<=maxLen/\h.out.length*40<=140737488355328:=⟨by unfold maxLen;omega,by omega⟩
  have b2:fo.length<=maxLen/\fo.length*40<=140737488355328:=⟨by unfold maxLen;omega,by omega⟩
  have b3:h.out.length+fo.length<=maxLen/\(h.out.length+fo.length)*40<=140737488355328:=⟨by unfold maxLen;omega,by omega⟩
  have aP:∀x:cB,(dW x).length=5:=fun _=>rfl
  have aw:∀x,(K++x)[b]?=_:=fun x=>aV p
  have go:=g.ho
  have a7:(h.put (h.n.di d)).out=h.out:=rfl
  rw[a7]at go
  rcases go with⟨T,rfl⟩|⟨M,Z,rfl,V⟩
  .simp at T
   have q:=g.out (G:=(K++[Ob.live 0 5 (fo.map dW)]).set b (Ob.live 0 13 [bM ⟨(h.put (h.n.di d)).n,h.out++fo,(h.put (h.n.di d)).seen,(h.put (h.n.di d)).e⟩ sl F L C (.sl K.length 0 0 fo.length) se])) (h.out++fo) (ol':= .sl K.length 0 0 fo.length) (ba (aw _)) (by simp) (fun m o h1 h2 h3=>by rw[aat (ait h2)];exact aV h1) (.inr ⟨K.length,0,by simp[T],by rw[aat (by omega),p5];simp[T]⟩) (fun m hm=>by simp[Go.Nx.rf]at hm;exact .inr (by omega))
   rw[<-hD]at q
   have er:bM (fF h) sl F L C (.sl K.length 0 0 fo.length) se=[I d.ai.id,I d.ai.phase,sl,I d.aQ,.aj (d.need.map aC),I h.n.book.last,F,L,.aj (h.n.told.map aC),C,.sl K.length 0 0 fo.length,se,I h.e]:=by rw[hD];rfl
   rw[er]at q
   simp[j,v,k,U,u,z,p,aw,b2,aP,Wk.put,Nd.di]
   exact o.step q.1.at q.2
  .have aS:M≠b:=fun e=>by subst e;rw[p]at V;cases V
   have sb:∀y,(K.set M y)[b]?=_:=fun y=>(aat aS).trans p
   have aT:¬c=M:=fun e=>by subst e;rw[u]at V;cases V
   rw[aeU]at V
   have a8:(h.out.map dW).length=h.out.length:=by simp
   rw[a8]at g p aw sb
   have q:=g.out (G:=(K.set M (Ob.live (Z+1) 5 ((h.out++fo).map dW))).set b (Ob.live 0 13 [bM ⟨(h.put (h.n.di d)).n,h.out++fo,(h.put (h.n.di d)).seen,(h.put (h.n.di d)).e⟩ sl F L C (.sl M (Z+1) 0 (h.out.length+fo.length)) se])) (h.out++fo) (ol':= .sl M (Z+1) 0 (h.out.length+fo.length)) (ba (sb _)) (by simp) (fun m o h1 h2 h3=>by rw[aat (ait h2),aat (fun e=>h3 (by subst e;simp[Go.Nx.rf]))];exact h1) (.inr ⟨M,Z+1,by simp,by rw[aat (ait aS),ba V];simp⟩) (fun m hm=>by simp[Go.Nx.rf]at hm|-;exact .inl hm)
   rw[<-hD]at q
   have er:bM (fF h) sl F L C (.sl M (Z+1) 0 (h.out.length+fo.length)) se=[I d.ai.id,I d.ai.phase,sl,I d.aQ,.aj (d.need.map aC),I h.n.book.last,F,L,.aj (h.n.told.map aC),C,.sl M (Z+1) 0 (h.out.length+fo.length),se,I h.e]:=by rw[hD];rfl
   rw[er]at q
   by_cases qf:fo=[]
   .subst qf
    simp only[aeU,aiQ,aiB]at q
    simp[j,v,k,U,u,z,p,b1,aT,V,sb,Wk.put,Nd.di,aeU]
    exact o.step q.1.at q.2
   .have q1:0<fo.length:=akt.2 qf
    have q2:¬h.out.length+fo.length<=h.out.length:=by omega
    rw[aid]at q
    simp[j,v,k,U,u,z,p,b3,aP,aT,V,sb,Wk.put,Nd.di,q1,q2]
    exact o.step q.1.at q.2
 have W:=(afw h).trans aI
 have⟨A,am⟩:=ak (fF h)
 clear j v k U o cm
 rintro e G⟨j,v,k,_⟩o
 rw[am]at o W T aK
 have a9:=B.b0
 refine bp [(1,au c)] (fun G=>On H b c (fe A) G) ?_ ?_
 .have ⟨sl,F,L,C,N,se,g,p⟩:=o.o.w.row
  have u:=o.o.c.at'
  have z:=o.m.at'
  cases E:w.n.book.aA with
  |nil=>
   rw[E]at k o
   simp at k
   have t:fe A=A:=by unfold fe waits;rw[W,E]
   rw[t]
   simp[j,k]
   exact o.o
  |cons s r=>
   rw[E]at k o z
   simp only[tS,aN,aG]at z
   simp at k
   by_cases c1:s.state=0
   case neg=>
    have t:fe A=A:=by unfold fe waits;rw[W,E];simp[c1]
    rw[t]
    simp[j,v,k,z,c1]
    exact o.o
   by_cases c2:A.n.dr.aQ=2
   case neg=>
    have t:fe A=A:=by unfold fe waits;rw[W,E];simp[c1,c2]
    rw[t]
    rw[c1]at z
    simp[j,v,k,u,z,p,c2]
    exact o.o
   have aU:kD A.n.book=(⟨A.n.book.last,{s with state:=1}::r⟩,s.id,0):=by
    unfold kD
    rw[if_neg (by rw[W];simp[a9]),W,E]
    simp[c1]
   have t:fe A=(A.put {A.n with book:=⟨A.n.book.last,{s with state:=1}::r⟩}).dJ 1 s.id:=by
    unfold fe waits
    rw[aU,W,E]
    simp[c1,c2]
   have an:=adO A.n.book (by rw[W];exact aF)
   rw[aU]at an
   simp only[kS,bO,if_true]at an
   have⟨ae,hL⟩:=ak (({s with state:=1}:bW)::r)
   rw[hL]at an t
   have cl:=qs (ex:=[]) g.db (by simp) rfl rfl an (QF _ _ _ _ _)
   simp only[ag9,aiU,uj]at cl
   simp[-aD]at cl
   have q:=g.xX [ah 4 (ae.map aN)] (A.put {A.n with book:=⟨A.n.book.last,ae⟩}) sl (.sl G.length 0 0 ae.length) C (.inl ⟨rfl,rfl⟩) (.inr ⟨by simp[Go.Nx.rf],.inr ⟨G.length,0,by simp[Wk.put],by rw[p5];simp[Wk.put]⟩⟩) rfl (.inl ⟨rfl,rfl⟩) rfl rfl
   have⟨G',e3,w3,f3⟩:=xn q.1 1 s.id (by decide) (by show A.seen.length<=_;omega)
   simp only[bM,Wk.put,aG]at e3
   rw[c1]at z
   rw[c2]at p e3
   have aO:=o.o.c.ne
   have bb:∀y,((G++[Ob.live 0 4 (ae.map aN)]).set b y)[m]?=_:=fun y=>(aat (ait o.m.ne)).trans (aV z)
   have ad:∀y,((G++[Ob.live 0 4 (ae.map aN)]).set b y)[c]?=_:=fun y=>(aat (ait aO)).trans (aV u)
   rw[t]
   simp[-aD,j,v,k,u,z,bb,ad,p,aV p,cl]
   simp[j,e3]
   exact(o.o.step q.1 q.2).step w3 f3
 have aW:=B.bj
 have aX:=B.bm
 have⟨X,ao⟩:=ak (fe A)
 clear j v k o
 rintro e G⟨j,_⟩o
 rw[ao]at o
 rw[Q,R,ab,am,ao]at aW aX
 refine bp [(1,au c)] (fun G=>On H b c (iN X) G) ?_ ?_
 .have ⟨sl,F,L,C,N,se,g,p⟩:=o.w.row
  have u:=o.c.at'
  by_cases c1:X.n.dr.ai.phase=2
  .have t:iN X=X.tell:=by unfold iN;rw[if_pos c1]
   have⟨G',O,w2,bm⟩:=Yf o.w aX aW
   rw[c1]at p
   rw[t]
   simp[j,u,p,O]
   exact o.step w2 bm
  .have t:iN X=X:=by unfold iN;rw[if_neg c1]
   rw[t]
   simp[j,u,p,c1]
   exact o
 have ay:=B.l1
 have az:=B.l2
 have aB:=B.l3
 have aE:=B.l4
 have bc:w.iw=(iN X).lA:=by rw[<-ao, <-am, <-ab, <-R, <-Q];rfl
 rw[bc]at aE|-
 rw[Q,R,ab,am,ao]at ay az aB
 have⟨wf,be⟩:=ak (iN X)
 clear j o
 rintro e G⟨j,_⟩o
 rw[be]at o ay az aB aE|-
 have⟨G',O,w2,bm⟩:=WG o.w ay az aB aE
 have u:=o.c.at'
 simp[j,u,O]
 exact⟨w2,o.f.trans bm⟩
def ownRow(a:Nat)(n:Nd):List ab:=[I n.dr.ai.id,I n.dr.ai.phase,.sl a 0 0 n.dr.ai.af.length,I n.dr.aQ,aG n.dr.need,I n.book.last,.sl (a+1) 0 0 n.book.aA.length,.sl (a+2) 0 0 n.known.length,aG n.told,.sl (a+3) 0 0 n.asked.length]
structure Ak(G:List Ob)(n0:Nat)(n:Nd):Prop where
 s:G[n0]?=some (ah 8 (n.dr.ai.af.map ax))
 b:G[n0+1]?=some (ah 4 (n.book.aA.map aN))
 k:G[n0+2]?=some (ah 2 (n.known.map aW))
 a:G[n0+3]?=some (ah 2 (n.asked.map aW))
def Ak.view{G:List Ob}{c:Nat}{n:Nd}(h:Ak G c n):df G (.agg (ownRow c n))=some (.agg (aT n),[8,4,2,2]):=by
 have d:bU G 6 (.sl c 0 0 n.dr.ai.af.length)=some (.aj (n.dr.ai.af.map ax),[8]):=gI.view (t:=[]) ⟨c,0,by simp,by simpa using h.s⟩ (bK _);have e:bU G 6 (.sl (c+1) 0 0 n.book.aA.length)=some (.aj (n.book.aA.map aN),[4]):=gI.view (t:=[]) ⟨c+1,0,by simp,by simpa using h.b⟩ (bV _);have f:bU G 6 (.sl (c+2) 0 0 n.known.length)=some (.aj (n.known.map aW),[2]):=gI.view (t:=[]) ⟨c+2,0,by simp,by simpa using h.k⟩ (bR _);have g:bU G 6 (.sl (c+3) 0 0 n.asked.length)=some (.aj (n.asked.map aW),[2]):=gI.view (t:=[]) ⟨c+3,0,by simp,by simpa using h.a⟩ (bR _);have vI:∀n:Int,bU G 6 (I n)=some (I n,[]):=fun _=>rfl;have i:∀l:List Int,bU G 6 (.aj (l.map aC))=some (.aj (l.map aC),[]):=fun l=>by simp[bi]
 unfold df ownRow;simp only[eX,d,e,f,g,vI,i,aG];rfl
def aar{G:List Ob}{b a:Nat}{v:Wk}{n:Nd}{sl c d e i se:ab}(g:cF G b v sl c d e i se)(h:Ak G a n)(j:fu n):
  aO tz ay 130 [.agg (ownRow a n),.agg [I v.n.dr.ai.id,I v.n.dr.ai.phase,sl,I v.n.dr.aQ,aG v.n.dr.need,I v.n.book.last,c,d,aG v.n.told,e]] G=some (aR (decide (n=v.n)),G):=by
 have⟨f,k,l,m,q⟩:=g.view
 have o:dy G [.agg (ownRow a n),.agg [I v.n.dr.ai.id,I v.n.dr.ai.phase,sl,I v.n.dr.aQ,aG v.n.dr.need,I v.n.book.last,c,d,aG v.n.told,e]]=some ([.agg (aT n),.agg (oQ v.n f)],[8,4,2,2]++k):=by
  unfold dy
  rw[h.view,l]
 have p:([aw.agg (ownRow a n),aw.agg [I v.n.dr.ai.id,I v.n.dr.ai.phase,sl,I v.n.dr.aQ,aG v.n.dr.need,I v.n.book.last,c,d,aG v.n.told,e]].any (eO tz))=false:=rfl
 rw[aD,p,o]
 simp only[show tz.md 130=0 from rfl,aes,or_false]
 rw[if_neg (by decide),kU,(show tz.md 130=0 from rfl),ac5 n v.n f m j,jP]
 simp
def aef{G:List Ob}{b:Nat}{v:Wk}{sl c d e j se:ab}(g:cF G b v sl c d e j se)(k:fu v.n):
  aO tz ay 67 [.agg [I v.n.dr.ai.id,I v.n.dr.ai.phase,sl,I v.n.dr.aQ,aG v.n.dr.need,I v.n.book.last,c,d,aG v.n.told,e]] G=some (.agg (ownRow G.length v.n),G++[ah 8 (v.n.dr.ai.af.map ax),ah 4 (v.n.book.aA.map aN),ah 2 (v.n.known.map aW),ah 2 (v.n.asked.map aW)]):=by
 have:=qJ g (f:=67) (r:=(pU v.n).1) (own:=(pU v.n).2) (by simp) (fun m o=>Vq v.n m o k) (fun a p=>by
  have h:∀l:List Int,gZ a (l.map aC)=true:=vz aC a (fun x=>by rcases p with rfl|rfl|rfl|rfl<;>rfl)
  have q:∀x:aI,cW a (ax x)=true:=pS a
  have s:∀x:cj,cW a (aW x)=true:=YI a
  have t:∀x:bW,cW a (aN x)=true:=fun x=>by simp[aN,h]
  have u:∀l:List aI,((l.map ax).all fun r=>cW a r)=true:=fun l=>by rw[aj9,ahI];exact fun x _=>q x
  have w:∀l:List cj,((l.map aW).all fun r=>cW a r)=true:=fun l=>by rw[aj9,ahI];exact fun x _=>s x
  have y:∀l:List bW,((l.map aN).all fun r=>cW a r)=true:=fun l=>by rw[aj9,ahI];exact fun x _=>t x
  simp only[ei,pU,kj,cW,fW,akw,al7,lH,u,w,y,aG,h,akP,Bool.or_true])
 rw[this]
 simp only[pU,eN,ag9,aiU,dZ,aG,ownRow,uj]
 have z:dX G.length (ah 8 (v.n.dr.ai.af.map ax))=ah 8 (v.n.dr.ai.af.map ax):=qy (bK _)
 have i:∀l:List cj,dX G.length (ah 2 (l.map aW))=ah 2 (l.map aW):=fun l=>qy (bR _)
 rw[z,i,i]
 rfl
def eY.small{v:Wk}(h:eY v):fu v.n:=by
 have a:=h.i.af;have b:=h.i.need;have c:=h.t;have d:10*v.n.asked.length<=dP v.n:=by simp only[dP];omega
 have e:ij v=v.out.length+v.seen.length+v.n.told.length+v.n.known.length+dP v.n:=rfl;exact⟨by omega,by omega,yp h.i.bk,by omega,by omega,by omega⟩
section
variable{b:Nat}{H:List Ob}{w:Wk}
def cF.N7{G:List Ob}{m:Nat}{v:Wk}{sl f i j k se:ab}{o:Ob}(g:cF G b v sl f i j k se)(c:Cell b G m o)(y:Ob):cF (G.set m y) b v sl f i j k se:=by
 have⟨l,⟨t,p⟩,q,s,u,w,x,d1,d2⟩:=g;have hc:=c.rf;rw[l]at hc;simp only[oW,eu,bM,aiz,ajn,ain,qA,ql,aG]at hc;simp at hc;have⟨c1,c2,c3,c4,c5,A⟩:=hc;have a:∀(d:ab),m∉rf d->∀(n v z:Nat) (r:List (List ab)),n∈rf d->G[n]?=some (.live v z r)->(G.set m y)[n]?=some (.live v z r):=fun d B n v z r C D=>by rw[aat (fun e=>B (by rw[e];exact C))];exact D
 exact⟨by rw[aat c.ne];exact l,⟨t,p.aK fun _ _ _ hm h=>a _ c1 _ _ _ _ hm h⟩,q.aK fun _ _ _ hm h=>a _ c2 _ _ _ _ hm h,s.aK fun _ _ _ hm h=>a _ c3 _ _ _ _ hm h,u.aK fun _ _ _ hm h=>a _ c4 _ _ _ _ hm h,w.aK fun _ _ _ hm h=>a _ c5 _ _ _ _ hm h,x.aK fun _ _ _ hm h=>a _ A _ _ _ _ hm h,d1,d2⟩
inductive Reach:Wk->Wk->Prop
 |refl (w:Wk):Reach w w
 |step {w u:Wk}:Reach w u->Reach w u.iw
def jt(w v:Wk):Prop:= ∃u,Reach w u/\eY u/\u.iw.n=u.n/\v=u.iw
def jE:List ab:=[I 0,I 0,ap,I 0,ap,I 0,ap,ap,ap,ap]
def qK(v:Wk)(sl a b c:ab):List ab:=[I v.n.dr.ai.id,I v.n.dr.ai.phase,sl,I v.n.dr.aQ,aG v.n.dr.need,I v.n.book.last,a,b,aG v.n.told,c]
structure Zm(H:List Ob)(b n2:Nat)(w v:Wk)(G:List Ob):Prop where
 f:bq b H G
 i:eY v
 r:Reach w v
 w:bX G b v
 c:Cell b G n2 (ah 10 [jE])
def wR(b:Nat)(w:Wk)(r:aw)(g:List Ob):Prop:= ∃v sl a d e f se,r= .aM [.agg ((qK v sl a d e).map da),.c f,.c se,aa 0]/\cF g b v sl a d e f se/\jt w v
def VF{H:List Ob}{b:Nat}{w:Wk}(h:bX H b w)(F:eY w):
  ∃r e,bB tz (ev tz) 76 [au b] H=some (r,e)/\wR b w r e/\bq b H e:=by
 refine cG (C:=tz) (f:=76) (args:=[au b]) (H:=H) (fun r e=>wR b w r e/\bq b H e) func76 rfl ?_
 have T:=h.lt
 have c2:=h.cell (x:=[ah 10 [jE]]) (i:=0) rfl
 rw[aiB]at c2
 have I:=h.snoc (x:=[ah 10 [jE]])
 have⟨l,J⟩:=ak H.length
 rw[J]at c2
 have⟨sl,U,V,W,X,se,g,d⟩:=h.row
 rw[F.e]at d
 simp[f76,aV d]
 refine Ends.bl (gM (fun v:Wk=>[(0,au b),(2,au l)]) (fun v G=>Zm H b l w v G) [] (fun v=>dP v.n) _ [0,2] (fun _=>rfl) ?_ w _ (by simp[J]) ⟨bq.snoc T,F,.refl w,I,c2⟩ rfl)
 clear c2 I g d
 rintro v⟨ag,G,ds⟩j q L
 simp only at j q L
 subst L
 simp at j
 have⟨M,N⟩:=j
 have⟨sl,U,V,W,X,se,g,d⟩:=q.w.row
 have A:=bf d
 have co:=aef g q.i.small
 simp only[aG]at co
 have⟨x,k⟩:=ak ([Ob.live 0 8 (v.n.dr.ai.af.map ax),ah 4 (v.n.book.aA.map aN),ah 2 (v.n.known.map aW),ah 2 (v.n.asked.map aW),ah 10 [ownRow G.length v.n]])
 have Y:=q.w.cell (x:=x) (i:=0) (o:=ah 8 (v.n.dr.ai.af.map ax)) (by rw[<-k];rfl)
 have Z:=q.w.cell (x:=x) (i:=1) (o:=ah 4 (v.n.book.aA.map aN)) (by rw[<-k];rfl)
 have k2:=q.w.cell (x:=x) (i:=2) (o:=ah 2 (v.n.known.map aW)) (by rw[<-k];rfl)
 have k3:=q.w.cell (x:=x) (i:=3) (o:=ah 2 (v.n.asked.map aW)) (by rw[<-k];rfl)
 have k4:=q.w.cell (x:=x) (i:=4) (o:=ah 10 [ownRow G.length v.n]) (by rw[<-k];rfl)
 have⟨K,e1,w1,a⟩:=Rl (q.w.snoc (x:=x)) q.i.Wx
 have m:aO tz ay 129 [au b] (G++x)=some (.aM [],K):=by
  rw[dz (f:=129) rfl];exact e1
 have p:=(q.c.snoc (x:=x) A).step a
 have B:=(k4.step a).at'
 have own:Ak K G.length v.n:=⟨by have:=(Y.step a).at';rwa [aiB]at this,(Z.step a).at',(k2.step a).at',(k3.step a).at'⟩
 have⟨s,t,u,y,ab,ad,O,D⟩:=w1.row
 have cs:=aar O own q.i.small
 have P:=q.i.iw
 have E:=p.at'
 have Q:=p.ne
 rw[P.e]at D
 rw[<-k]at m
 simp only[ownRow,aG]at m B cs co
 by_cases z:v.n=v.iw.n
 .rw[decide_eq_true z]at cs
  have gz:=O.N7 p (ah 10 [qK v.iw s t u y])
  have fin:wR b w (.aM [.agg ((qK v.iw s t u y).map da),.c ab,.c ad,aa 0]) (K.set l (ah 10 [qK v.iw s t u y])):=⟨_,_,_,_,_,_,_,rfl,gz,v,q.r,q.i,z.symm,rfl⟩
  have R:=(q.f.trans (bq.snoc (x:=x) A)).trans a
  have S:bq b H (K.set l (ah 10 [qK v.iw s t u y])):=⟨by have:=R.1;simpa using this,fun ae o j h2 h3=>by
   have hm:=bf j
   have⟨g1,g2⟩:=R.2 ae o j h2 h3
   rw[aat (by omega),aat Q]
   exact⟨g1,g2⟩⟩
  simp only[qK,aG]at fin S
  simp only[jE]at E
  simp[-aD,M,N,d,co,m,B,D,cs,E,ait Q,ba E]
  exact⟨fin,S⟩
 .rw[decide_eq_false z]at cs
  simp[-aD,M,N,d,co,m,B,D,cs]
  refine⟨v.iw,?_,(q.f.trans (bq.snoc (x:=x) A)).trans a,P,.step q.r,w1,p⟩
  rcases(zD q.i.i).2.1 with h|h
  .exact absurd h.symm z
  .exact h
def ag2(h:bX H b w)(d:w.e≠0):
  ∃a,bB tz (ev tz) 76 [au b] H=some (.aM [.agg [I 0,I 0,.aj [],I 0,.aj [],I 0,.aj [],.aj [],.aj [],.aj []],.c ap,.c ap,aa w.e],a)/\∀(m:Nat) (o:Ob),H[m]?=some o->a[m]?=some o:=by
 obtain⟨r,a,i,rfl,j⟩:=cG (C:=tz) (f:=76) (args:=[au b]) (H:=H) (fun r a=>r= .aM [.agg [I 0,I 0,.aj [],I 0,.aj [],I 0,.aj [],.aj [],.aj [],.aj []],.c ap,.c ap,aa w.e]/\∀(m:Nat) (o:Ob),H[m]?=some o->a[m]?=some o) func76 rfl (by
  have p:=h.lt
  have⟨sl,q,s,t,u,se,g,k⟩:=h.row
  have l:¬b=H.length:=by omega
  have v:¬H.length=b:=by omega
  have n:∀(y:Ob) (m:Nat) (o:Ob),H[m]?=some o->(H++[y])[m]?=some o:=fun y m o h=>aV h
  simp[f76,aV k,d,l]
  exact fun m o h=>n _ m o h)
 exact⟨a,i,j⟩
def R0{a:Bool}{p:List Nat×List Ob}{l:ab}(h:bC l=true):fh a H p l=some (l,p):=by unfold fh;rw[if_pos h]
def gI.out{z:Nat}{lf:ab}{rows t:List (List ab)}(h:gI H z lf rows t)(a:bA rows=true)(p:List Nat×List Ob):fh true H p lf=some (.aj rows,p)/\da lf=lf:=by obtain⟨c,d,rfl,b⟩:=h;have:(rows++t).take rows.length=rows:=ai8 rfl;exact⟨by simp[b,this,a],rfl⟩
def adu{r:aw}{d:List Ob}(h:wR b w r d):∃v a le,dI true d r=some (.aM [.agg (aT v.n),.c a,.c le,aa 0],[])/\jt w v/\((a=ap/\v.out=[])\/a= .aj (v.out.map dW))/\((le=ap/\v.seen=[])\/le= .aj (v.seen.map gw)):=by
 obtain⟨v,sl,k,L,m,o,se,rfl,g,q⟩:=h;have⟨M,⟨t,s⟩,u,x,y,z,A,d1,d2⟩:=g;have i:=fun p=>s.out (bK _) p
 have B:∀p,fh true d p (da k)=some (.aj (v.n.book.aA.map aN),p):=by
  intro p;rcases u with rfl|h
  .exact R0 (bV _)
  .rw[(h.out (bV _) p).2];exact(h.out (bV _) p).1
 have j:=fun p=>x.out (bR _) p
 have C:∀p,fh true d p (da m)=some (.aj (v.n.asked.map aW),p):=by
  intro p;rcases y with⟨h,rfl⟩|h
  .rw[h];rfl
  .rw[(h.out (bR _) p).2];exact(h.out (bR _) p).1
 have vI:∀(n:Int) p,fh true d p (I n)=some (I n,p):=fun _ _=>rfl;have D:∀(l:List Int) p,fh true d p (.aj (l.map aC))=some (.aj (l.map aC),p):=fun l p=>R0 (by simp[bi])
 have e:∃a,(∀p,fh true d p o=some (a,p))/\((a=ap/\v.out=[])\/a= .aj (v.out.map dW)):=by
  rcases z with⟨h,rfl⟩|h
  .exact ⟨ap,fun p=>rfl,.inl ⟨rfl,by simpa using h⟩⟩
  .exact ⟨_,fun p=>(h.out (OD _) p).1,.inr rfl⟩
 have f:∃le,(∀p,fh true d p se=some (le,p))/\((le=ap/\v.seen=[])\/le= .aj (v.seen.map gw)):=by
  rcases A with⟨h,rfl⟩|h
  .exact ⟨ap,fun p=>rfl,.inl ⟨rfl,by simpa using h⟩⟩
  .exact ⟨_,fun p=>(h.out (LM _) p).1,.inr rfl⟩
 have⟨a,e,E⟩:=e;have⟨le,f,F⟩:=f;refine⟨v,a,le,?_,q,E,F⟩;have G:=(i ([],[])).1;have H:=(j ([],[])).1;have J:=(i ([],[])).2;have K:=(j ([],[])).2;simp only[dI,qK,ag9,aiU,aG,ZR,Zt,J,K,outs,uo,qk,G,H,B,C,e,f,vI,D];rfl
end
section
variable{G:List Ob}{b:Nat}{l:List aI}
def BN{v:Wk}{sl f h i j se:ab}(g:cF G b v sl f h i j se)(p:Int)(hm:v.n.dr.ai.af.length<=100000):
  aO tz ay 69 [au b,aa p] G=some (aa (dv (cP p) 0 v.n.dr.ai.af),G):=by
 have⟨a,d,le,k,l,m⟩:=g.HF 4
 have o:bC a=true/\bC d=true/\bC le=true:=by simpa using l
 have q:=Yo v.n.dr.ai.id v.n.dr.ai.phase v.n.dr.ai.af [I v.n.dr.aQ,aG v.n.dr.need,I v.n.book.last,.aj (v.n.book.aA.map aN),.aj (v.n.known.map aW),aG v.n.told,a,d,le,I v.e] (by simp[bV,bR,bi,o]) p (by unfold maxLen;omega)
 have vI:bU G 6 (I p)=some (I p,[]):=rfl
 have r:([aw.c (.ptr b 0 0 0),aw.c (I p)].any (eO tz))=false:=rfl
 have s:dy G [au b,aa p]=some ([.c (.aJ [[I v.n.dr.ai.id,I v.n.dr.ai.phase,.aj (v.n.dr.ai.af.map ax),I v.n.dr.aQ,aG v.n.dr.need,I v.n.book.last,.aj (v.n.book.aA.map aN),.aj (v.n.known.map aW),aG v.n.told,a,d,le,I v.e]] 0 0),aa p],k++([]++[])):=by
  simp only[dy,df,m,vI]
 rw[aD,r,s]
 simp only[show tz.md 69=0 from rfl,aes,or_false]
 rw[if_neg (by decide),kU,(show tz.md 69=0 from rfl),q,jP]
 simp
def UZ(x:Int):aS tz ay 0 204 [.c ap,aa x]=some (aa (-1),[]):=by refine be func204 rfl ?_;simp[f204,underlying30];refine iy (fun k:Unit=>[(7,aa 0),(8,aa 0)]) (fun k H=>H=[]) (fun k=>0) ?_ () (by simp) (by simp) fun _=>rfl;rintro _ e H ⟨a,b,_⟩ d;subst d;simp[a,b]
def Wt(x:Int):aS tz ay 0 128 [.c ap,aa x]=some (aR false,[]):=by refine be func128 rfl ?_;have:=UZ x;simp[f128,this]
structure Gn(b:Nat)(G:List Ob)(m4 n0:Nat)(idl:ab)(bk:cd)(ids:List Int):Prop where
 c:Cell b G m4 (ah 2 [[I bk.last,.sl n0 0 0 bk.aA.length]])
 s:Cell b G n0 (ah 4 (bk.aA.map aN))
 i:(ids=[]/\idl=ap)\/∃n1,idl= .sl n1 0 0 ids.length/\Cell b G n1 (ah 1 (ids.map aC))
def Gn.step{b:Nat}{G a:List Ob}{d e:Nat}{g:ab}{j:cd}{k:List Int}(h:Gn b G d e g j k)(f:bq b G a):Gn b a d e g j k:=⟨h.c.step f,h.s.step f,by
 rcases h.i with h|⟨l,m,n⟩
 .exact .inl h
 .exact .inr ⟨l,m,n.step f⟩⟩
def Lx{p:Int}(h:cJ l p=true):∃j:Nat,dv (cP p) 0 l=(j:Int)/\∃a:j<l.length, ∀f:aI->aI,setAt (cP p) f l=l.set j (f l[j]):=by
 have⟨x,c,d⟩:=lM.1 h;cases b:l.find? (cP p)with
 |none=>have:=alW.1 b x c;simp[cP,d]at this
 |some s=>have⟨j,e,⟨a,g⟩,i⟩:=Ar 0 b;exact⟨j,by simpa using e,a,fun f=>by rw[i f,g]⟩
def cF.PB{v:Wk}{d f h i se:ab}{a c n:Nat}(g:cF G b v (.sl a c 0 n) d f h i se)(p:v.n.dr.ai.af=l){t:List (List ab)}(k:G[a]?=some (.live c 8 (l.map ax++t)))(j:Nat)(y:aI):
  cF (G.set a (.live c 8 ((l.set j y).map ax++t))) b (v.put (v.n.eK (l.set j y))) (.sl a c 0 n) d f h i se/\bq b G (G.set a (.live c 8 ((l.set j y).map ax++t))):=by
 have m:=g.hb
 have r:a≠b:=fun e=>by subst e;rw[m]at k;cases k
 have hn:n=l.length:=by
  have⟨u,w,x,o,z⟩:=g.hs
  simp only[ab.sl.injEq]at o
  obtain⟨_,_,_,rfl⟩:=o
  rw[p];simp
 subst hn
 have q:=g.af [] c (l.set j y) t
 rw[aeU,aiP]at q
 have s:(G.set a (.live c 8 ((l.set j y).map ax++t)))[b]?=some (ah 13 [bM (v.put (v.n.eK (l.set j y))) (.sl a c 0 l.length) d f h i se]):=by
  rw[aat r,m];rfl
 rw[lJ s]at q
 exact q
def WQ{v:Wk}{a:Int}(hp:cJ v.n.dr.ai.af a=true):∃j:Nat,dv (cP a) 0 v.n.dr.ai.af=(j:Int)/\∃b:j<v.n.dr.ai.af.length,(v.put (v.n.eK (setAt (cP a) (fun x=>{x with state:=2}) v.n.af)))=v.put (v.n.eK (v.n.dr.ai.af.set j {v.n.dr.ai.af[j]with state:=2})):=by have⟨j,c,b,d⟩:=Lx hp;refine⟨j,c,b,?_⟩;show v.put (v.n.eK (setAt (cP a) (fun x=>{x with state:=2}) v.n.dr.ai.af))=_;rw[d]
def LO(l:List bW):((l.map aN).all fun r=>cW [4] r)=true:=by rw[aj9,ahI];intro x _;exact IQ x
def Zv(a:Int)(n:Nat)(l:List bW):ei false [4] (.aM [.agg [I a,.sl 0 0 0 n],.c ap,aa 0]) [ah 4 (l.map aN)]=true:=by have:=LO l;simp[ei,kj,lH,-cW]at this|-;exact⟨by simp[cW],this⟩
def ad7(a:Int)(n k:Nat)(l:List bW)(m:List Int):ei false [4] (.aM [.agg [I a,.sl 0 0 0 n],bd 1 0 0 k,aa 0]) [ah 4 (l.map aN),ah 1 (m.map aC)]=true:=by
 have:=LO l;have b:((m.map aC).all fun r=>cW [4] r)=true:=by rw[aj9,ahI];intro x _;rfl
 simp[ei,kj,lH,-cW]at this b|-;exact⟨by simp[cW],this,b⟩
def Wk.lP(w:Wk)(a:List Int):Wk:=match w.n.book.aA with
 |[]=>w
 |s::_=>if w.n.dr.aQ=1/\s.id∈a then w.dg else w
def X5(w:Wk):w.dg.seen=w.seen:=by unfold Wk.dg;split<;>rfl
def agX(w:Wk)(a:List Int):(w.lP a).seen=w.seen:=by
 unfold Wk.lP;split
 .rfl
 .split
  .exact X5 w
  .rfl
def ID(k:Int):∀(l:List Int) (w:Wk),l.foldl (fun w id=>w.dJ k id) w=w.mT k l
 |[],w=>by simp[Wk.mT]
 |x::r,w=>by
  rw[ai2,ID k r]
  simp[Wk.mT,Wk.dJ]
end
structure agZ(w:Wk)(peer:Int):Prop where
 p:cJ w.n.dr.ai.af peer=true
 s:fu w.n
 b:cN w.n.book=true
 e:w.seen.length<=20000
def Ss{H:List Ob}{b:Nat}{w:Wk}{peer:Int}(h:bX H b w)(O:agZ w peer):
  ∃H',bB tz (ev tz) 75 [au b,aa peer] H=some (.aM [],H')/\bX H' b (w.shut peer)/\bq b H H':=by
 refine gj func75 rfl ?_
 simp only[f75,cr]
 have⟨j,hj,al,hA⟩:=WQ O.p
 have⟨o,P⟩:=ak (w.put (w.n.eK (w.n.dr.ai.af.set j {w.n.dr.ai.af[j]with state:=2})))
 rw[P]at hA
 refine bp [(0,au b),(1,aa peer)] (fun G=>bX G b o/\bq b H G) ?_ ?_
 .have ⟨sl,ss,X,T,Y,se,g,m⟩:=h.row
  obtain⟨t,Z,va,rfl,aw⟩:=g.hs
  have cp:=BN g peer (by have:=O.s.si;omega)
  rw[hj]at cp
  have q:=g.PB rfl aw j {w.n.dr.ai.af[j]with state:=2}
  rw[P,aiC]at q
  have aX:(w.n.dr.ai.af.map ax).set j [I w.n.dr.ai.af[j].peer,I w.n.dr.ai.af[j].aP,I 2,B w.n.dr.ai.af[j].fork,B w.n.dr.ai.af[j].cK,B w.n.dr.ai.af[j].token,B w.n.dr.ai.af[j].dc,B w.n.dr.ai.af[j].ask]++t=(w.n.dr.ai.af.set j {w.n.dr.ai.af[j]with state:=2}).map ax++t:=by rw[aiC];rfl
  have aF:j<w.n.dr.ai.af.length+t.length:=by omega
  have aH:(w.n.dr.ai.af.map ax++t)[j]?=some [I w.n.dr.ai.af[j].peer,I w.n.dr.ai.af[j].aP,I w.n.dr.ai.af[j].state,B w.n.dr.ai.af[j].fork,B w.n.dr.ai.af[j].cK,B w.n.dr.ai.af[j].token,B w.n.dr.ai.af[j].dc,B w.n.dr.ai.af[j].ask]:=by
   rw[abE (by simpa using al),adf,abM al];rfl
  simp[-aD,-getElem?_pos,m,aw,cp,al,aF,aH]
  exact⟨q.1.at,q.2⟩
 rintro e G⟨l,Q,_⟩⟨wt,f⟩
 refine bp [(0,au b),(1,aa peer)] (fun G=>bX G b (o.ey 7 peer)/\bq b H G) ?_ ?_
 .have ⟨G',z,w1,bj⟩:=HU wt 7 peer (by decide) (by rw[<-P];have:=O.e;show w.seen.length<=_;omega)
  simp[l,Q,z]
  exact⟨w1,f.trans bj⟩
 have L:w.shut peer=(((o.ey 7 peer).lP (iS (o.ey 7 peer).n.book peer).2.1).put {((o.ey 7 peer).lP (iS (o.ey 7 peer).n.book peer).2.1).n with book:=(iS (o.ey 7 peer).n.book peer).1}).mT 5 (iS (o.ey 7 peer).n.book peer).2.1:=by
  unfold Wk.shut
  rw[hA]
  rfl
 have az:(o.ey 7 peer).n.book=w.n.book:=by rw[<-P];rfl
 have am:fu (o.ey 7 peer).n:=by
  have:=O.s
  rw[<-P]
  exact⟨by show(w.n.dr.ai.af.set j _).length<=_;simpa using this.si,this.nd,this.bk,this.kn,this.tl,this.aq⟩
 have aB:(o.ey 7 peer).seen.length<=20001:=by
  rw[<-P]
  have:=O.e
  show(w.seen++[_]).length<=_
  simp;omega
 have⟨w1,aI⟩:=ak (o.ey 7 peer)
 clear l Q wt f
 rintro e G⟨l,Q,_⟩⟨wt,f⟩
 rw[aI]at wt L az am aB
 have⟨d,an⟩:=ak ((iS w1.n.book peer).1)
 have⟨a,ao⟩:=ak ((iS w1.n.book peer).2.1)
 rw[an,ao]at L
 have U:=WD w1.n.book peer am.bk
 have ar:cN w1.n.book=true:=by rw[az];exact O.b
 rw[if_neg (by rw[ar];simp),an,ao]at U
 have aY:a.length<=8/\d.aA.length<=8:=by
  have h8:w1.n.book.aA.length<=8:=by
   simp only[cN,abR,afa,decide_eq_false_iff_not]at ar
   omega
  rw[<-ao, <-an]
  unfold iS
  rw[if_neg (by rw[ar];simp)]
  have z:=aiq (bZ peer) w1.n.book.aA
  have e2:=aiq (fun s=>!bZ peer s) w1.n.book.aA
  simp only[aio]
  omega
 refine eh (fun S=>∃V J y,S.env.get 0=some (au b)/\S.env.get 4=some (au V)/\S.env.get 5=some (.c y)/\S.bG=[]/\H.length<=J/\bX S.heap b w1/\bq b H S.heap/\Gn b S.heap V J y d a) ?_ ?_
 .have ⟨sl,ss,X,T,Y,se,g,m⟩:=wt.row
  have M:=wt.lt
  by_cases E:a=[]
  .simp only[xK,if_pos E]at U
   have cl:=qs (ex:=[aa peer]) g.db (by simp) (by simp[dy,df]) rfl U (Zv _ _ _)
   simp only[ag9,aiU,uj]at cl
   simp[-aD]at cl
   have A:=wt.cell (x:=[ah 4 (d.aA.map aN),ah 2 [[I d.last,.sl G.length 0 0 d.aA.length]]]) (i:=0) rfl
   have c1:=wt.cell (x:=[ah 4 (d.aA.map aN),ah 2 [[I d.last,.sl G.length 0 0 d.aA.length]]]) (i:=1) rfl
   rw[aiB]at A
   simp[-aD,l,Q,m,cl]
   exact⟨G.length,f.1,wt.snoc,f.trans (bq.snoc M),⟨c1,A,.inl ⟨E,rfl⟩⟩⟩
  .simp only[xK,if_neg E]at U
   have cl:=qs (ex:=[aa peer]) g.db (by simp) (by simp[dy,df]) rfl U (ad7 _ _ _ _ _)
   simp only[ag9,aiU,uj]at cl
   simp[-aD,bi]at cl
   have A:=wt.cell (x:=[ah 4 (d.aA.map aN),ah 1 (a.map aC),ah 2 [[I d.last,.sl G.length 0 0 d.aA.length]]]) (i:=0) rfl
   have c1:=wt.cell (x:=[ah 4 (d.aA.map aN),ah 1 (a.map aC),ah 2 [[I d.last,.sl G.length 0 0 d.aA.length]]]) (i:=1) rfl
   have c2:=wt.cell (x:=[ah 4 (d.aA.map aN),ah 1 (a.map aC),ah 2 [[I d.last,.sl G.length 0 0 d.aA.length]]]) (i:=2) rfl
   rw[aiB]at A
   simp[-aD,l,Q,m,cl]
   exact⟨G.length,f.1,wt.snoc,f.trans (bq.snoc M),⟨c2,A,.inr ⟨_,rfl,c1⟩⟩⟩
 have hT:(w1.lP a).seen.length<=20001:=by rw[agX];exact aB
 clear l Q wt f
 rintro⟨e,G,ds⟩⟨V,J,y,l,F,u,rfl,aJ,wt,f,C⟩
 simp only at l F u wt f C
 refine bp [(0,au b),(4,au V),(5,.c y)] (fun G=>bX G b (w1.lP a)/\bq b H G/\Gn b G V J y d a) ?_ ?_
 .have ⟨sl,ss,X,T,Y,se,g,m⟩:=wt.row
  have M:=wt.lt
  cases R:w1.n.book.aA with
  |nil=>
   have z:w1.lP a=w1:=by unfold Wk.lP;rw[R]
   have cl:=qJ g (f:=119) (r:= .aM [.agg [I 0,.aj [],I 0,I 0],aR false]) (own:=[]) (by simp) (fun aq Z=>by rw[v8 _ aq Z,R]) (fun bs hb=>by rcases hb with rfl|rfl|rfl|rfl<;>rfl)
   simp only[aG]at cl
   rw[z]
   simp[-aD,l,F,u,m,cl]
   exact⟨wt.snoc,f.trans (bq.snoc M),C.step (bq.snoc M)⟩
  |cons s r=>
   have cl:=qJ g (f:=119) (r:= .aM [.agg (aN s),aR true]) (own:=[]) (by simp) (fun aq Z=>by rw[v8 _ aq Z,R]) (fun bs hb=>by rcases hb with rfl|rfl|rfl|rfl<;>simp[aN,vz])
   simp only[aN,aG]at cl
   have A:=(wt.cell (x:=[ah 4 [aN s]]) (i:=0) rfl).at'
   rw[aiB]at A
   simp only[aN,aG]at A
   have ab:=wt.snoc (x:=[ah 4 [aN s]])
   have N:=f.trans (bq.snoc (x:=[ah 4 [aN s]]) M)
   have W:=C.step (bq.snoc (x:=[ah 4 [aN s]]) M)
   simp only[aN,aG]at ab N W
   by_cases c1:w1.n.dr.aQ=1
   case neg=>
    have z:w1.lP a=w1:=by unfold Wk.lP;rw[R];simp only;rw[if_neg (fun h=>c1 h.1)]
    rw[z]
    simp[-aD,l,F,u,m,aV m,cl,c1]
    exact⟨ab,N,W⟩
   have ad:aO tz ay 128 [.c y,aa s.id] (G++[ah 4 [[I s.id,.aj (s.need.map aC),I s.state,I s.cH]]])=some (aR (decide (s.id∈a)),G++[ah 4 [[I s.id,.aj (s.need.map aC),I s.state,I s.cH]]]):=by
    rcases W.i with⟨E,rfl⟩|⟨v,rfl,hc⟩
    .rw[E]
     have:=Wt s.id
     simp[this]
    .have h1:=Hd a s.id (by unfold maxLen;omega)
     have D:=hc.at'
     simp only[aG]at h1
     simp[h1,D,bi]
   rw[c1]at m cl
   by_cases c2:s.id∈a
   .have z:w1.lP a=w1.dg:=by unfold Wk.lP;rw[R];simp only;rw[if_pos ⟨c1,c2⟩]
    rw[decide_eq_true c2]at ad
    have⟨G',e2,w2,f3⟩:=AM ab am
    have aK:aO tz ay 118 [au b] (G++[ah 4 [[I s.id,.aj (s.need.map aC),I s.state,I s.cH]]])=some (.aM [],G'):=by
     rw[dz (f:=118) rfl];exact e2
    rw[z]
    simp[-aD,l,F,u,m,aV m,cl,A,ad,aK]
    exact⟨w2,N.trans f3,W.step f3⟩
   .have z:w1.lP a=w1:=by unfold Wk.lP;rw[R];simp only;rw[if_neg (fun h=>c2 h.2)]
    rw[decide_eq_false c2]at ad
    rw[z]
    simp[-aD,l,F,u,m,aV m,cl,A,ad]
    exact⟨ab,N,W⟩
 have⟨w2,aE⟩:=ak (w1.lP a)
 rw[aE]at hT L
 clear l F u wt f C
 rintro e G⟨l,F,u,_⟩⟨wt,f,C⟩
 rw[aE]at wt
 have⟨w3,av⟩:=ak (w2.put {w2.n with book:=d})
 rw[av, <-ID]at L
 have aZ:w3.seen.length<=20001:=by rw[<-av];exact hT
 refine bp [(0,au b),(5,.c y)] (fun G=>bX G b w3/\bq b H G/\((a=[]/\y=ap)\/∃v,y= .sl v 0 0 a.length/\Cell b G v (ah 1 (a.map aC)))) ?_ ?_
 .have ⟨sl,ss,X,T,Y,se,g,m⟩:=wt.row
  have q:=g.vl f [] (w2.put {w2.n with book:=d}) sl (.sl J 0 0 d.aA.length) T (.inl ⟨rfl,rfl⟩) (.inr ⟨by simp[rf];exact aJ,.inr ⟨J,0,by simp[Wk.put],by rw[aeU,C.s.at'];simp[Wk.put]⟩⟩) rfl (.inl ⟨rfl,rfl⟩) rfl rfl
  have hc:=C.c.at'
  simp only[bM,Wk.put,aeU,aG]at q
  have E:(a=[]/\y=ap)\/∃v,y= .sl v 0 0 a.length/\Cell b (G.set b (ah 13 [[I w2.n.dr.ai.id,I w2.n.dr.ai.phase,sl,I w2.n.dr.aQ,.aj (w2.n.dr.need.map aC),I d.last,.sl J 0 0 d.aA.length,X,.aj (w2.n.told.map aC),T,Y,se,I w2.e]])) v (ah 1 (a.map aC)):=by
   rcases C.i with h|⟨v,h1,D⟩
   .exact .inl h
   .refine .inr ⟨v,h1,by rw[aat (ait D.ne)];exact D.at',D.ne,?_⟩
    have a0:J≠v:=fun e=>by
     subst e
     have aL:=C.s.at'
     have b:=D.at'
     rw[aL]at b;cases b
    have h3:=D.rf
    rw[m]at h3
    rw[ba m]
    simp only[oW,eu,aiz,ajn,ain,Go.Nx.rf]at h3|-
    simp at h3|-
    grind
  simp[l,F,u,m,hc]
  rw[<-av]
  exact⟨q.1,q.2,E⟩
 clear l F u wt f C
 rintro e G⟨l,u,_⟩⟨wt,f,E⟩
 rcases E with⟨hn,rfl⟩|⟨v,rfl,hc⟩
 .rw[hn]at L
  simp[underlying30,u]
  refine iv (fun k:Unit=>[(69,aa 0),(70,aa 0)]) (fun k K=>K=G) (fun k=>0) ?_ () (by simp) (by simp) fun _=>rfl
  rintro _ e K⟨ae,ag,_⟩D
  subst D
  simp[ae,ag]
  rw[L]
  exact⟨wt,f⟩
 .simp[underlying30,u]
  refine iv (fun k:Nat=>[(69,aa a.length),(70,aa k),(68,bd v 0 0 a.length),(0,au b)]) (fun k K=>k<=a.length/\bX K b ((a.take k).foldl (fun w id=>w.dJ 5 id) w3)/\bq b H K/\Cell b K v (ah 1 (a.map aC))) (fun k=>a.length-k) ?_ 0 (by simp[l]) ⟨by simp,wt,f,hc⟩ fun _=>rfl
  rintro k e K⟨ae,ag,aS,l,_⟩⟨D,wt,f,hc⟩
  by_cases hk:k<a.length
  .have hw:adW.wrap ((k:Int)+1)=((k+1:Nat):Int):=cv (by omega)
   have aT:=hc.at'
   have ht:(a.take (k+1)).foldl (fun w id=>w.dJ 5 id) w3=((a.take k).foldl (fun w id=>w.dJ 5 id) w3).dJ 5 a[k]:=by rw[jC hk,ajh];rfl
   have a1:((a.take k).foldl (fun w id=>w.dJ 5 id) w3).seen.length<=20010:=by
    rw[ID]
    simp only[Wk.mT,agc,aio,ai1]
    omega
   have⟨K',e2,aU,N⟩:=xn wt 5 a[k] (by decide) (by omega)
   have aW:a[k]?=some a[k]:=abM hk
   simp[ae,ag,aS,l,hk,aT,hw,aW,e2]
   exact⟨k+1,by omega,by simp,by omega,by rw[ht];exact aU,f.trans N,hc.step N⟩
  .obtain rfl:k=a.length:=by omega
   simp[ae,ag]
   rw[aiF, <-L]at wt
   exact⟨wt,f⟩
section
variable{w:Wk}{H:List Ob}{b:Nat}
def Wk.fail(w:Wk)(e:Int):Wk:=⟨w.n,w.out,w.seen,e⟩
def Wk.opens(w:Wk)(id:Int)(need:List Int):Wk:=
 if(ia w.n.book id need).2≠0 then w.fail (ia w.n.book id need).2
 else if kZ need (jY w.n)=false then w.fail 181
 else⟨{w.n with book:=(ia w.n.book id need).1},w.out,w.seen++[⟨0,w.n.id,id,0,cD need⟩],w.e⟩
def tm(w:Wk)(e:Int):w.need true e=w:=by simp[Wk.need]
def yI(h:w.e=0)(e:Int):w.need false e=w.fail e:=by simp[Wk.need,h,Wk.fail]
def sE(h:bX H b w)(c:Bool)(e:Int):∃a,aO tz ay 72 [au b,aR c,aa e] H=some (aR (decide ((w.need c e).e=0)),a)/\bX a b (w.need c e)/\bq b H a/\∀m,m≠b->a[m]?=H[m]?:=by have⟨a,d,g⟩:=zg h c e;exact⟨a,by rw[dz (f:=72) rfl];exact d,g⟩
def abB{sl i j k q se:ab}(g:cF H b w sl i j k q se)(hm:w.n.dr.ai.af.length<=1000)(need:List Int)(l:need.length<=100000):
  ∃m K,aO tz ay 113 [.agg [I w.n.dr.ai.id,I w.n.dr.ai.phase,sl,I w.n.dr.aQ,aG w.n.dr.need,I w.n.book.last,i,j,aG w.n.told,k]] H=some (.c m,H++K)/\aO tz ay 112 [.c (aG need),.c m] (H++K)=some (aR (kZ need (jY w.n)),H++K):=by
 have s:(jY w.n).length<=10000:=by
  have:=aiq nR w.n.af
  have u:w.n.af.length=w.n.dr.ai.af.length:=rfl
  simp only[jY,aio]
  omega
 have⟨a,h⟩:=ak (jY w.n)
 rw[h]at s
 have hp:∀d,rZ w.n d->aS tz ay 0 113 [.agg (oQ w.n d)]=some (ir a):=by
  intro d e
  rw[<-h]
  rw[e]
  exact M2 w.n (by show w.n.dr.ai.af.length<=_;omega)
 by_cases hn:a=[]
 .have cl:=qJ g (f:=113) (r:= .c ap) (own:=[]) (by simp) (fun d e=>by rw[hp d e];simp[ir,hn]) (fun o p=>by rcases p with rfl|rfl|rfl|rfl<;>rfl)
  refine⟨ap,[],by rw[cl];rfl,?_⟩
  have:=BE need l
  simp only[aG]at this
  rw[h,hn]
  simp[aG,this,bi]
 .have cl:=qJ g (f:=113) (r:=bd 0 0 0 a.length) (own:=[ah 1 (a.map aC)]) (by simp) (fun d e=>by rw[hp d e];simp[ir,hn,cw]) (fun o p=>by
   have t:((a.map aC).all fun r=>cW o r)=true:=by rw[aj9,ahI];exact fun x _=>rfl
   simp only[ei,kj,fW,akw,al7,lH,t,akP,Bool.or_true])
  refine⟨.sl H.length 0 0 a.length,[ah 1 (a.map aC)],by rw[cl];simp[bi],?_⟩
  have:=Cd need a l (by omega)
  simp only[aG]at this
  rw[h]
  simp[aG,this,bi]
def cF.Lj{G:List Ob}{sl j k l p se se':ab}(h:cF H b w sl j k l p se)(q:List Ev)(s:G[b]?=some (ah 13 [bM ⟨w.n,w.out,q,w.e⟩ sl j k l p se']))(J:H.length<=G.length)
  (g:∀(m:Nat) (o:Ob),H[m]?=some o->m≠b->m∉rf se->G[m]?=some o) (A:lB G 5 se' (q.map gw)) (u:∀m∈rf se',m∈rf se\/H.length<=m):
  cF G b ⟨w.n,w.out,q,w.e⟩ sl j k l p se'/\bq b H G:=by
 obtain⟨i,⟨t,B⟩,C,D,E,x,F,d1,d2⟩:=h
 have I:∀m,m∈rf se->∃v r,H[m]?=some (.live v 5 r):=by
  rcases F with⟨_,rfl⟩|⟨M,N,rfl,d⟩
  .intro m hm;simp[rf]at hm
  .intro m hm;simp[rf]at hm;subst hm;exact⟨_,_,d⟩
 have f:∀(m v z:Nat) (r:List (List ab)),z≠13->z≠5->H[m]?=some (.live v z r)->G[m]?=some (.live v z r):=fun m v z r c d a=>g m _ a (fun e=>by subst e;rw[i]at a;cases a;exact c rfl) (fun hm=>by
  obtain⟨O,P,y⟩:=I m hm
  rw[y]at a;cases a;exact d rfl)
 refine⟨⟨s,⟨t,B.aK fun _ _ _ _ h=>f _ _ _ _ (by decide) (by decide) h⟩,C.aK fun _ _ _ _ h=>f _ _ _ _ (by decide) (by decide) h,D.aK fun _ _ _ _ h=>f _ _ _ _ (by decide) (by decide) h,E.aK fun _ _ _ _ h=>f _ _ _ _ (by decide) (by decide) h,x.aK fun m _ _ hm h=>g m _ h (fun e=>by subst e;rw[i]at h;cases h) (fun K=>d2 m hm K),A,d1,fun m hm L=>?_⟩,bq.bH i s J (fun m hm=>?_) (fun m o c d a=>g m o c d (fun y=>a ?_))⟩
 .rcases u m L with c|c
  .exact d2 m hm c
  .have:=x.lt m hm
   omega
 .have Q:=u m
  clear I f B C D E x F d1 d2 i s g A u
  simp only[eu,bM,aiz,ajn,ain,qA,ql,aG]at hm|-
  simp at hm|-
  grind
 .simp only[eu,bM,aiz,ajn,ain,qA,ql,aG]
  simp[y]
def ad1(h:bX H b w)(hn:fu w.n)(E:w.e=0)(ax:w.seen.length<=20000)(id an ao:Int)(need:List Int)(ab:need.length<=100000):
  ∃R,bB tz (ev tz) 71 [au b,.agg [I 0,I id,I an,I ao,aG need]] H=some (.aM [],R)/\bX R b (w.opens id need)/\bq b H R:=by
 refine gj func71 rfl ?_
 have⟨sl,ss,F,v,J,se,g,L⟩:=h.row
 have lb:=h.lt
 have q:=Zn w.n.book id need hn.bk ab
 have ad:kv (H++[.dead]) ss w.n.book.aA:=g.db.aK fun _ _ _ _ h=>aV h
 by_cases c1:(ia w.n.book id need).2=0
 case neg=>
  have s:w.opens id need=w.fail (ia w.n.book id need).2:=by unfold Wk.opens;rw[if_pos c1]
  have⟨er,ap⟩:=ak ((ia w.n.book id need).2)
  simp only[gA,if_neg c1]at q
  rw[ap]at q c1 s
  have cl:=qs (ex:=[aa id,.c (aG need)]) ad (by simp) (by simp[dy,df,bi,aG]) rfl q (by simp[ei,kj])
  simp only[aG]at cl
  simp[-aD]at cl
  have⟨H1,j,w1,y,S⟩:=sE (h.snoc (x:=[.live 1 2 [[I 0,.aj []]]])) false er
  rw[yI E]at j w1
  simp[-aD,Wk.fail,c1]at j
  rw[s]
  simp[-aD,f71,ny,gO,iQ,aV L,aG,cl,j,c1]
  exact⟨w1,(bq.snoc lb).trans y⟩
 simp only[gA,if_pos c1]at q
 have⟨d,ae⟩:=ak ((ia w.n.book id need).1)
 rw[ae]at q
 have cl:=qs (ex:=[aa id,.c (aG need)]) ad (by simp) (by simp[dy,df,bi,aG]) rfl q (Qh _ _ _ _)
 simp only[aG,ag9,aiU,uj]at cl
 simp[-aD]at cl
 have⟨x,T⟩:=ak ([Ob.live 1 2 [[I d.last,.sl (H.length+1) 0 0 d.aA.length]],ah 4 (d.aA.map aN)])
 have z:=h.cell (x:=x) (i:=0) (o:= .live 1 2 [[I d.last,.sl (H.length+1) 0 0 d.aA.length]]) (by rw[<-T];rfl)
 have U:=h.cell (x:=x) (i:=1) (o:=ah 4 (d.aA.map aN)) (by rw[<-T];rfl)
 rw[aiB]at z
 have⟨H1,j,w1,y,S⟩:=sE (h.snoc (x:=x)) true 0
 rw[tm,E]at j
 rw[tm]at w1
 have⟨ay,az,aB,aE,aF,aH,S,V⟩:=w1.row
 have⟨lf,K,M,t⟩:=abB S (by have:=hn.si;omega) need ab
 have W:=w1.lt
 have aq:=(z.step y).snoc (x:=K) W
 have ar:=(U.step y).snoc (x:=K) W
 have af:=((bq.snoc (x:=x) lb).trans y).trans (bq.snoc (x:=K) W)
 rw[<-T]at j
 simp only[aG]at M t
 simp[-aD]at j
 cases N:kZ need (jY w.n)with
 |false=>
  have s:w.opens id need=w.fail 181:=by unfold Wk.opens;rw[if_neg (by simp[c1]),if_pos N]
  have⟨H2,k,w2,A,g2⟩:=sE (w1.snoc (x:=K)) false 181
  rw[yI E]at k w2
  rw[N]at t
  simp[-aD,Wk.fail]at k
  rw[s]
  simp[-aD,f71,ny,gO,iQ,aV L,aG,cl,j,V,M,t,k]
  exact⟨w2,af.trans A⟩
 |true=>
  have s:w.opens id need=⟨{w.n with book:=d},w.out,w.seen++[(⟨0,w.n.id,id,0,cD need⟩:Ev)],w.e⟩:=by unfold Wk.opens;rw[if_neg (by simp[c1]),if_neg (by simp[N]),ae]
  have⟨H2,k,w2,A,g2⟩:=sE (w1.snoc (x:=K)) true 181
  rw[tm,E]at k
  rw[tm]at w2
  rw[N]at t
  simp[-aD]at k
  have⟨sl,ss,F,v,J,se,g,ag⟩:=w2.row
  have z:=(aq.step A).at'
  have U:=(ar.step A).at'
  have av:=g.Kr (af.trans A) [] (w.put {w.n with book:=d}) sl (.sl (H.length+1) 0 0 d.aA.length) v (.inl ⟨rfl,rfl⟩) (.inr ⟨by simp[rf],.inr ⟨H.length+1,0,by simp[Wk.put],by rw[aeU,U];simp[Wk.put]⟩⟩) rfl (.inl ⟨rfl,rfl⟩) rfl rfl
  have⟨p,O⟩:=av
  rw[aeU]at p O
  have f:=p.hb
  have X:=Rq (a:= .c (aG need)) (xx need) (by omega)
  simp only[aG]at X
  have⟨G,B⟩:=ak (H2.set b (ah 13 [bM (w.put {w.n with book:=d}) sl (.sl (H.length+1) 0 0 d.aA.length) F v J se]))
  rw[B]at p O f
  simp only[bM,Wk.put,aG]at B f
  have lG:=bf f
  have ai:∀l:List Ev,(l++[(⟨0,w.n.id,id,0,cD need⟩:Ev)]).map gw=l.map gw++[[I 0,I w.n.id,I id,I 0,.aj ((cD need).map aC)]]:=fun l=>by simp[gw,aG]
  rw[s]
  have al:=p.he
  have aw:(w.put {w.n with book:=d}).seen=w.seen:=rfl
  rw[aw]at al
  rcases al with⟨C,rfl⟩|⟨u,P,rfl,D⟩
  .simp at C
   have r:=p.Lj (G:=(G++[Ob.live 0 5 [[I 0,I w.n.id,I id,I 0,.aj ((cD need).map aC)]],Ob.live 0 5 [[I 0,I w.n.id,I id,I 0,.aj ((cD need).map aC)]]]).set b (Ob.live 0 13 [bM ⟨(w.put {w.n with book:=d}).n,w.out,w.seen++[(⟨0,w.n.id,id,0,cD need⟩:Ev)],w.e⟩ sl (.sl (H.length+1) 0 0 d.aA.length) F v J (.sl (G.length+1) 0 0 1)])) (w.seen++[(⟨0,w.n.id,id,0,cD need⟩:Ev)]) (se':= .sl (G.length+1) 0 0 1) (ba (aV f)) (by simp) (fun m o Y Z h3=>by rw[aat (ait Z)];exact aV Y) (.inr ⟨G.length+1,0,by simp[C],by rw[aat (by omega),jh,ai];simp[C]⟩) (fun m hm=>by simp[Go.Nx.rf]at hm;exact .inr (by omega))
   simp[-aD,f71,ny,gO,iQ,aV L,aG,cl,j,V,M,t,k,z,ag,B,f,C]
   simp[X,bi,aV f]
   rw[C,aiD]at r
   exact⟨r.1.at,O.trans r.2⟩
  .have Q:u≠b:=fun e=>by subst e;rw[f]at D;cases D
   rw[aeU]at D
   simp only[aio]at f p B
   have r:=p.Lj (G:=((G++[Ob.live 0 5 [[I 0,I w.n.id,I id,I 0,.aj ((cD need).map aC)]]]).set u (Ob.live (P+1) 5 (w.seen.map gw++[[I 0,I w.n.id,I id,I 0,.aj ((cD need).map aC)]]))).set b (Ob.live 0 13 [bM ⟨(w.put {w.n with book:=d}).n,w.out,w.seen++[(⟨0,w.n.id,id,0,cD need⟩:Ev)],w.e⟩ sl (.sl (H.length+1) 0 0 d.aA.length) F v J (.sl u (P+1) 0 (w.seen.length+1))])) (w.seen++[(⟨0,w.n.id,id,0,cD need⟩:Ev)]) (se':= .sl u (P+1) 0 (w.seen.length+1)) (ba (by rw[aat Q];exact aV f)) (by simp) (fun m o Y Z h3=>by rw[aat (ait Z),aat (fun e=>h3 (by subst e;simp[Go.Nx.rf]))];exact aV Y) (.inr ⟨u,P+1,by simp,by rw[aat (ait Q),ba (aV D),ai];simp⟩) (fun m hm=>by simp[Go.Nx.rf]at hm|-;exact .inl hm)
   have sb:∀am,(G.set u am)[b]?=_:=fun am=>(aat Q).trans f
   simp[-aD,f71,ny,gO,iQ,aV L,aG,cl,j,V,M,t,k,z,ag,B,f]
   simp[X,bi,aV f,Q,aV D,show w.seen.length+1<=maxLen/\(w.seen.length+1)*56<=140737488355328 from⟨by unfold maxLen;omega,by omega⟩]
   exact⟨r.1.at,O.trans r.2⟩
end
section
variable{w:Wk}{H:List Ob}{b:Nat}
def rP(a:cd):w.eS a 0=if w.e=0 then w.put {w.n with book:=a}else w:=by unfold Wk.eS;simp only[decide_true,tm]
def vn(h:w.e=0)(b:cd){e:Int}(a:e≠0):w.eS b e=w.fail e:=by
 unfold Wk.eS;have c:decide (e=0)=false:=by simp[a]
 rw[c,yI h];rw[if_neg (by simp[Wk.fail,a])]
def Sb{sl i q s t se:ab}(g:cF H b w sl i q s t se)(a:w.e=0){f:FuncId}{ex:List aw}{r:cd×Int}(j:tz.md f=0)(hex:dy H ex=some (ex,[]))(k:ex.any (eO tz)=false)
  (hp:aS tz ay 0 f (.agg (bO w.n.book)::ex)=some (gA r)):
  ∃l m x K,aO tz ay f (.agg [I w.n.book.last,i]::ex) H=some (.aM [.agg [I l,m],aa r.2],H++x)/\aO tz ay 115 [au b,.agg [I l,m],aa r.2] (H++x)=some (aR (decide (r.2=0)),K)/\bX K b (w.eS r.1 r.2)/\bq b H K:=by
 have o:=bf g.hb
 have p:decide ((w.eS r.1 r.2).e=0)=decide (r.2=0):=by
  by_cases c:r.2=0
  .rw[c,rP,if_pos a]
   simp[Wk.put,a]
  .rw[vn a _ c]
   simp[Wk.fail,c]
 by_cases c1:r.2=0
 .simp only[gA,if_pos c1]at hp
  have cl:=qs (ex:=ex) g.db j hex k hp (Qh _ _ _ _)
  have⟨K,d,w1,h⟩:=yA (g.snoc (x:=[ah 4 (r.1.aA.map aN)])).at (bq.snoc o) r.1 (.sl H.length 0 0 r.1.aA.length) (.inr ⟨H.length,0,by simp,by rw[p5];simp⟩) (by simp[rf]) r.2
  refine⟨r.1.last,.sl H.length 0 0 r.1.aA.length,[ah 4 (r.1.aA.map aN)],K,?_,?_,w1,h⟩
  .rw[cl,c1]
   simp only[ag9,aiU,uj]
   rfl
  .rw[dz (f:=115) rfl,d,p]
 .simp only[gA,if_neg c1]at hp
  have cl:=qs (ex:=ex) g.db j hex k hp (by simp[ei,kj])
  have⟨K,d,w1,h⟩:=yA (g.snoc (x:=[])).at (bq.snoc o) ⟨0,[]⟩ (.aj []) (.inl rfl) (by simp[rf]) r.2
  have u:w.eS ⟨0,[]⟩ r.2=w.eS r.1 r.2:=by rw[vn a _ c1,vn a _ c1]
  rw[u]at d w1
  refine⟨0,.aj [],[],K,?_,?_,w1,h⟩
  .rw[cl]
   rfl
  .rw[dz (f:=115) rfl,d,p]
def Wk.release(w:Wk)(id:Int):Wk:=if(de w.n.book id 1).2=0 then((w.eS (de w.n.book id 1).1 (de w.n.book id 1).2).dJ 2 id).dg else w.fail (de w.n.book id 1).2
def FA(h:w.e=0)(hn:fu w.n){a:cd}(b:iI a):fu (w.eS a 0).n:=by rw[rP,if_pos h];exact⟨hn.si,hn.nd,b,hn.kn,hn.tl,hn.aq⟩
def AR(h:w.e=0)(a:cd):(w.eS a 0).seen=w.seen:=by rw[rP,if_pos h];rfl
def SG{b:cd}(h:iI b)(id d:Int):iI (de b id d).1:=by
 unfold de;split
 .exact ⟨by simp,by simp⟩
 .split
  .exact ⟨by simp,by simp⟩
  .split
   .rename_i s a _
    have e:∀l:List bW,(ej id l).length<=l.length/\∀s∈ej id l,s∈l:=by
     intro l;induction l with
     |nil=>exact⟨by simp[ej],by simp[ej]⟩
     |cons x r c=>
      unfold ej;split
      .exact ⟨by simp,fun s a=>by simp[a]⟩
      .refine ⟨by simp;exact c.1,fun s a=>?_⟩;rcases aeM.1 a with rfl|a
       .simp
       .simp[c.2 s a]
    have⟨g,f⟩:=e b.aA;exact⟨by have:=h.1;show(ej id b.aA).length<=_;omega,fun s a=>h.2 s (f s a)⟩
   .exact ⟨by simp,by simp⟩
def Wf(h:bX H b w)(hn:fu w.n)(c:w.e=0)(y:w.seen.length<=20000)(id o p:Int)(j:ab)(z:bC j=true):
  ∃d,bB tz (ev tz) 71 [au b,.agg [I 1,I id,I o,I p,j]] H=some (.aM [],d)/\bX d b (w.release id)/\bq b H d:=by
 refine gj func71 rfl ?_
 have⟨sl,A,B,C,D,se,g,k⟩:=h.row
 have⟨E,F,x,K,i,a,w1,l⟩:=Sb g c (f:=116) (ex:=[aa id]) (by simp) (by simp[dy,df]) rfl (acG w.n.book id hn.bk)
 by_cases c1:(de w.n.book id 1).2=0
 .have em:w.release id=((w.eS (de w.n.book id 1).1 (de w.n.book id 1).2).dJ 2 id).dg:=by unfold Wk.release;rw[if_pos c1]
  rw[em]
  rw[c1]at i a w1|-
  have⟨m,q,w2,r⟩:=xn w1 2 id (by decide) (by rw[AR c];omega)
  have⟨s,t,w3,f3⟩:=AM w2 (FA c hn (SG hn.bk id 1))
  have u:aO tz ay 117 [au b,aa 2,aa id] K=some (.aM [],m):=by rw[dz (f:=117) rfl];exact q
  have v:aO tz ay 118 [au b] m=some (.aM [],s):=by rw[dz (f:=118) rfl];exact t
  simp[-aD]at a
  simp[-aD,f71,k,i,a,u,v]
  exact⟨w3,(l.trans r).trans f3⟩
 .have em:w.release id=w.fail (de w.n.book id 1).2:=by unfold Wk.release;rw[if_neg c1]
  rw[em]
  rw[vn c _ c1]at w1
  simp[-aD,c1]at a
  simp[-aD,f71,k,i,a]
  exact⟨w1,l⟩
end
section
variable{b:Nat}{H:List Ob}{w:Wk}
def pq(b:cd):Int:=match b.aA with
 |[]=>0
 |s::_=>s.id
def Wk.cancel(w:Wk)(id:Int):Wk:=if(de w.n.book id 0).2=0 then(if pq w.n.book=id/\w.n.dr.aQ=1 then((w.eS (de w.n.book id 0).1 (de w.n.book id 0).2).dJ 3 id).dg else(w.eS (de w.n.book id 0).1 (de w.n.book id 0).2).dJ 3 id)else w.fail (de w.n.book id 0).2
def aaQ{G:List Ob}{v:Wk}{sl e h i k se:ab}(g:cF G b v sl e h i k se):
  aO tz ay 119 [.agg [I v.n.dr.ai.id,I v.n.dr.ai.phase,sl,I v.n.dr.aQ,aG v.n.dr.need,I v.n.book.last,e,h,aG v.n.told,i]] G=some (.aM [.agg (tS v.n.book.aA),aR (!v.n.book.aA.isEmpty)],G):=by
 cases j:v.n.book.aA with
 |nil=>
  have cl:=qJ g (f:=119) (r:= .aM [.agg [I 0,.aj [],I 0,I 0],aR false]) (own:=[]) (by simp) (fun a c=>by rw[v8 _ a c,j]) (fun l d=>by rcases d with rfl|rfl|rfl|rfl<;>rfl)
  rw[cl]
  simp[tS]
 |cons s r=>
  have cl:=qJ g (f:=119) (r:= .aM [.agg (aN s),aR true]) (own:=[]) (by simp) (fun a c=>by rw[v8 _ a c,j]) (fun l d=>by rcases d with rfl|rfl|rfl|rfl<;>simp[aN,vz])
  rw[cl]
  simp[tS,aN]
def afY(l:List bW)(b:Int):∃a c d,tS l=[I (pq ⟨b,l⟩),a,I c,I d]/\bC a=true:=by
 cases l with
 |nil=>exact⟨.aj [],0,0,rfl,rfl⟩
 |cons s r=>exact⟨aG s.need,s.state,s.cH,rfl,by simp[aG,bi]⟩
def ac9(h:bX H b w)(hn:fu w.n)(o:w.e=0)(S:w.seen.length<=20000)(id G J:Int)(C:ab)(T:bC C=true):
  ∃y,bB tz (ev tz) 71 [au b,.agg [I 2,I id,I G,I J,C]] H=some (.aM [],y)/\bX y b (w.cancel id)/\bq b H y:=by
 refine gj func71 rfl ?_
 have⟨sl,U,V,W,X,se,D,k⟩:=h.row
 have L:=h.lt
 have a:=aaQ D
 have⟨q,r,s,E,Y⟩:=afY w.n.book.aA w.n.book.last
 have M:pq ⟨w.n.book.last,w.n.book.aA⟩=pq w.n.book:=rfl
 rw[M]at E
 rw[E]at a
 have z:=h.cell (x:=[ah 4 [[I (pq w.n.book),q,I r,I s]]]) (i:=0) rfl
 rw[aiB]at z
 have g:=D.snoc (x:=[ah 4 [[I (pq w.n.book),q,I r,I s]]])
 have d:=aV (m:=[ah 4 [[I (pq w.n.book),q,I r,I s]]]) k
 have⟨Z,lf,x,K,j,c,w1,p⟩:=Sb g o (f:=120) (ex:=[aa id]) (by simp) (by simp[dy,df]) rfl (ade w.n.book id hn.bk)
 have t:=bq.snoc (x:=[ah 4 [[I (pq w.n.book),q,I r,I s]]]) L
 simp only[aG]at a
 have⟨N,A⟩:=ak (pq w.n.book)
 by_cases c1:(de w.n.book id 0).2=0
 .rw[c1]at j c w1
  have⟨F,O,w2,u⟩:=xn w1 3 id (by decide) (by rw[AR o];omega)
  have B:aO tz ay 117 [au b,aa 3,aa id] K=some (.aM [],F):=by rw[dz (f:=117) rfl];exact O
  have l:=((z.step p).step u).at'
  have⟨ad,ae,af,ag,ai,aj,g2,v⟩:=w2.row
  have hth:((w.eS (de w.n.book id 0).1 0).dJ 3 id).n.dr.aQ=w.n.dr.aQ:=by rw[rP,if_pos o];rfl
  rw[hth]at v
  simp[-aD]at c
  rw[A]at a l d j c z
  by_cases c2:N=id
  .by_cases c3:w.n.dr.aQ=1
   .have em:w.cancel id=((w.eS (de w.n.book id 0).1 0).dJ 3 id).dg:=by unfold Wk.cancel;rw[if_pos c1,c1,if_pos ⟨A.trans c2,c3⟩]
    have⟨P,Q,w3,f3⟩:=AM w2 (FA o hn (SG hn.bk id 0))
    have R:aO tz ay 118 [au b] F=some (.aM [],P):=by rw[dz (f:=118) rfl];exact Q
    rw[em]
    rw[c2]at a l j c d
    rw[c3]at v a k d
    simp[-aD,f71,k,d,a,j,c,B,R,l,v]
    exact⟨w3,((t.trans p).trans u).trans f3⟩
   .have em:w.cancel id=(w.eS (de w.n.book id 0).1 0).dJ 3 id:=by unfold Wk.cancel;rw[if_pos c1,c1,if_neg (fun h=>c3 h.2)]
    rw[em]
    rw[c2]at a l j c d
    simp[-aD,f71,k,d,a,j,c,B,l,v,c3]
    exact⟨w2,(t.trans p).trans u⟩
  .have em:w.cancel id=(w.eS (de w.n.book id 0).1 0).dJ 3 id:=by unfold Wk.cancel;rw[if_pos c1,c1,if_neg (fun h=>c2 (A.symm.trans h.1))]
   rw[em]
   simp[-aD,f71,k,d,a,j,c,B,l,c2]
   exact⟨w2,(t.trans p).trans u⟩
 .have em:w.cancel id=w.fail (de w.n.book id 0).2:=by unfold Wk.cancel;rw[if_neg c1]
  rw[em]
  rw[vn o _ c1]at w1
  simp[-aD,c1]at c
  simp[-aD,f71,k,d,a,j,c]
  exact⟨w1,t.trans p⟩
def Wk.tick(w:Wk)(a:Int):Wk:=if(dN w.n.book a).2.2=0 then(if(dN w.n.book a).2.1≠0 then((w.eS (dN w.n.book a).1 0).dJ 4 (dN w.n.book a).2.1).dg else w.eS (dN w.n.book a).1 0)else w.fail (dN w.n.book a).2.2
def agh{b:cd}(h:iI b)(f:Int):iI (dN b f).1:=by
 unfold dN;split
 .exact ⟨by simp,by simp⟩
 .cases e:b.aA with
  |nil=>exact h
  |cons s r=>
   have⟨d,a⟩:=h;rw[e]at d a;simp only;split
   .split
    .refine ⟨by simpa using d,fun t c=>?_⟩;rcases aeM.1 c with rfl|c
     .exact a s (by simp)
     .exact a t (by simp[c])
    .refine ⟨by simp at d|-;omega,fun t c=>a t (by simp[c])⟩
   .exact ⟨by rw[e];exact d,by rw[e];exact a⟩
def ae0(h:bX H b w)(hn:fu w.n)(d:w.e=0)(P:w.seen.length<=20000)(id C c:Int)(u:ab)(Q:bC u=true):
  ∃p,bB tz (ev tz) 71 [au b,.agg [I 3,I id,I C,I c,u]] H=some (.aM [],p)/\bX p b (w.tick c)/\bq b H p:=by
 refine gj func71 rfl ?_
 have⟨sl,D,R,S,T,se,g,q⟩:=h.row
 have v:=h.lt
 have j:=SQ w.n.book c hn.bk
 have y:kv (H++[.dead]) D w.n.book.aA:=g.db.aK fun _ _ _ _ h=>aV h
 obtain⟨⟨a,i,e⟩,z⟩:∃r,dN w.n.book c=r:=⟨_,rfl⟩
 have s:=agh hn.bk c
 rw[z]at j s
 unfold Wk.tick
 rw[z]
 simp only at s|-
 by_cases c1:e=0
 case neg=>
  simp only[kS,if_neg c1]at j
  have cl:=qs (ex:=[aa c]) y (by simp) (by simp[dy,df]) rfl j (by simp[ei,kj])
  simp[-aD]at cl
  have A:=h.cell (x:=[.live 1 2 [[I 0,.aj []]]]) (i:=0) rfl
  have⟨K,k,w1,m⟩:=yA (h.snoc (x:=[.live 1 2 [[I 0,.aj []]]])) (bq.snoc v) ⟨0,[]⟩ (.aj []) (.inl rfl) (by simp[rf]) e
  rw[vn d _ c1]at k w1
  have l:aO tz ay 115 [au b,.agg [I 0,.aj []],aa e] (H++[.live 1 2 [[I 0,.aj []]]])=some (aR false,K):=by rw[dz (f:=115) rfl,k];simp[Wk.fail,c1]
  rw[if_neg c1]
  simp[-aD,f71,ny,gO,iQ,aV q,cl,l]
  exact⟨w1,m⟩
 subst c1
 simp only[kS,if_true]at j
 have cl:=qs (ex:=[aa c]) y (by simp) (by simp[dy,df]) rfl j (QF _ _ _ _ _)
 simp only[ag9,aiU,uj]at cl
 simp[-aD]at cl
 have⟨x,t⟩:=ak ([Ob.live 1 2 [[I a.last,.sl (H.length+1) 0 0 a.aA.length]],ah 4 (a.aA.map aN)])
 have A:=h.cell (x:=x) (i:=0) (o:= .live 1 2 [[I a.last,.sl (H.length+1) 0 0 a.aA.length]]) (by rw[<-t];rfl)
 have E:=h.cell (x:=x) (i:=1) (o:=ah 4 (a.aA.map aN)) (by rw[<-t];rfl)
 rw[aiB]at A
 have⟨K,k,w1,m⟩:=yA (h.snoc (x:=x)) (bq.snoc (x:=x) v) a (.sl (H.length+1) 0 0 a.aA.length) (.inr ⟨H.length+1,0,by simp,by rw[E.at'];simp⟩) (by simp[rf]) 0
 have F:decide ((w.eS a 0).e=0)=true:=by rw[rP,if_pos d];simp[Wk.put,d]
 rw[F]at k
 have l:aO tz ay 115 [au b,.agg [I a.last,.sl (H.length+1) 0 0 a.aA.length],aa 0] (H++x)=some (aR true,K):=by rw[dz (f:=115) rfl,k]
 rw[<-t]at l
 have U:=w1.lt
 rw[if_pos rfl]
 by_cases c2:i=0
 .rw[if_neg (by simp[c2])]
  rw[c2]at cl
  simp[-aD,f71,ny,gO,iQ,aV q,cl,l]
  exact⟨w1,m⟩
 .rw[if_pos c2]
  have⟨B,G,w2,J⟩:=xn w1 4 i (by decide) (by rw[AR d];omega)
  have⟨L,M,w3,f3⟩:=AM w2 (FA d hn s)
  have N:aO tz ay 117 [au b,aa 4,aa i] K=some (.aM [],B):=by rw[dz (f:=117) rfl];exact G
  have O:aO tz ay 118 [au b] B=some (.aM [],L):=by rw[dz (f:=118) rfl];exact M
  simp[-aD,f71,ny,gO,iQ,aV q,cl,l,N,O,c2]
  exact⟨w3,(m.trans J).trans f3⟩
end
section
variable{H:List Ob}{b:Nat}{w:Wk}
def bg(n:Nd):Wk:=⟨n,[],[],if dm n then 0 else 180⟩
structure Act where
 kind:Int
 id:Int
 peer:Int
 hold:Int
 need:List Int
def sF(a b:Int):aI:=⟨a,b+1,1,true,true,false,true,false⟩
def cO(n:Nd)(a:Act):Wk:=
 if a.kind=0 then(if dm n=true then(bg n).opens a.id a.need else bg n)
 else if a.kind=1 then(if dm n=true then(bg n).release a.id else bg n)
 else if a.kind=2 then(if dm n=true then(bg n).cancel a.id else bg n)
 else if a.kind=3 then(if dm n=true then(bg n).tick a.hold else bg n)
 else if a.kind=4 then(if dm n=true then(if(a.peer>n.dr.ai.id&&a.peer<64)=false then(bg n).fail 182 else if cJ n.dr.ai.af a.peer=true then(bg n).fail 183 else if gR n.known a.peer<65535 then(bg n).oq (sF a.peer (gR n.known a.peer))else(bg n).fail 186)else bg n)
 else if a.kind=5 then(if dm n=true then(if(a.peer>n.dr.ai.id&&a.peer<64)=false then(bg n).fail 182 else match n.dr.ai.af.find? (cP a.peer)with
  |none=>(bg n).fail 184
  |some x=>if nR x=true then(bg n).shut a.peer else(bg n).fail 185)else bg n)
 else(if dm n=true then(bg n).fail 188 else bg n)
structure KA(n:Nd):Prop where
 s:fu n
 sd:dm n=true->pd n.dr.ai.af
 kn:dm n=true->xr n.known
 bk:dm n=true->cN n.book=true
 id:dm n=true->0<=n.dr.ai.id
 ep:dm n=true->∀p,0<=gR n.known p
def pZ(n:Nd):List Ob:=[ah 10 [jE],ah 8 (n.dr.ai.af.map ax),ah 4 (n.book.aA.map aN),ah 2 (n.known.map aW),ah 2 (n.asked.map aW),ah 13 [bM (bg n) (.sl 1 0 0 n.dr.ai.af.length) (.sl 2 0 0 n.book.aA.length) (.sl 3 0 0 n.known.length) (.sl 4 0 0 n.asked.length) ap ap]]
def Vy(n:Nd):cF (pZ n) 5 (bg n) (.sl 1 0 0 n.dr.ai.af.length) (.sl 2 0 0 n.book.aA.length) (.sl 3 0 0 n.known.length) (.sl 4 0 0 n.asked.length) ap ap:=by
 refine⟨rfl,⟨[],1,0,by simp[bg],by simp[pZ,bg]⟩,.inr ⟨2,0,by simp[bg],by simp[pZ,bg]⟩,⟨3,0,by simp[bg],by simp[pZ,bg]⟩,.inr ⟨4,0,by simp[bg],by simp[pZ,bg]⟩,.inl ⟨rfl,rfl⟩,.inl ⟨rfl,rfl⟩,?_,?_⟩
 .intro m a b;simp[rf]at a b;omega
 .intro m a b;simp[rf]at a
def Yd(n:Nd):Cell 5 (pZ n) 0 (ah 10 [jE]):=⟨rfl,by decide,by simp[pZ,oW,eu,bM,rf,aG]⟩
def mH(w:Wk)(r:aw):Prop:=if w.e=0 then ∃v a le,r= .aM [.agg (aT v.n),.c a,.c le,aa 0]/\jt w v/\((a=ap/\v.out=[])\/a= .aj (v.out.map dW))/\((le=ap/\v.seen=[])\/le= .aj (v.seen.map gw))else r= .aM [.agg [I 0,I 0,.aj [],I 0,.aj [],I 0,.aj [],.aj [],.aj [],.aj []],.c ap,.c ap,aa w.e]
def XE(l:ab):da (da l)=da l:=by unfold da;split<;>first|rfl|(split<;>first|rfl|simp_all)
def RP{t:Nat}(h:bX H b w)(J:w.e=0->eY w)(hc:Cell b H t (ah 10 [jE])):∃j k l m p q s u x y d le e a,aO tz ay 76 [au b] H=some (.aM [.agg [j,k,l,m,p,q,s,u,x,y],.c d,.c le,aa e],a)/\a[t]?=some (ah 10 [jE])/\
  ∃o,dI true (a.set t (ah 10 [[j,k,l,m,p,q,s,u,x,y]])) (.aM [.agg [da j,da k,da l,da m,da p,da q,da s,da u,da x,da y],.c d,.c le,aa e])=some (o,[])/\mH w o:=by
 by_cases i:w.e=0
 .have ⟨r,a,z,A,K⟩:=VF h (J i)
  obtain⟨v,sl,B,C,D,E,se,rfl,g,L⟩:=A
  have F:=hc.step K
  have M:wR b w (.aM [.agg ((qK v sl B C D).map da),.c E,.c se,aa 0]) (a.set t (ah 10 [(qK v sl B C D).map da])):=⟨v,sl,B,C,D,E,se,rfl,g.N7 F _,L⟩
  have⟨G,d,le,N,O,P,Q⟩:=adu M
  refine⟨_,_,_,_,_,_,_,_,_,_,E,se,0,a,by rw[dz (f:=76) rfl,z];rfl,F.at',.aM [.agg (aT G.n),.c d,.c le,aa 0],?_,?_⟩
  .simp only[XE]
   exact N
  .unfold mH
   rw[if_pos i]
   exact⟨G,d,le,rfl,O,P,Q⟩
 .have ⟨a,z,A⟩:=ag2 h i
  refine⟨I 0,I 0,.aj [],I 0,.aj [],I 0,.aj [],.aj [],.aj [],.aj [],ap,ap,w.e,a,by rw[dz (f:=76) rfl];exact z,A _ _ hc.at',.aM [.agg [I 0,I 0,.aj [],I 0,.aj [],I 0,.aj [],.aj [],.aj [],.aj []],.c ap,.c ap,aa w.e],by simp,?_⟩
  unfold mH
  rw[if_neg i]
def Pd{f:FuncId}{args:List aw}{r o:aw}{a:List Ob}(b:bB tz (ev tz) f args []=some (r,a))(c:dI true a r=some (o,[])):aS tz ay 1 f args=some (o,[]):=by unfold aS ay;rw[b];exact c
def ae6(l:List aI)(p:Int):decide (dv (cP p) 0 l<0)=!cJ l p/\decide (dv (cP p) 0 l>=0)=cJ l p:=by
 have a:=zd (cP p) l 0;have b:l.any (cP p)=cJ l p:=rfl;rw[b]at a;constructor
 .rw[<-a];by_cases h:0<=dv (cP p) 0 l
  .have:¬dv (cP p) 0 l<0:=by omega
   simp[h,this]
  .have:dv (cP p) 0 l<0:=by omega
   simp[h,this]
 .exact a
def kW(h:bX H b w)(d:w.e≠0)(c:Bool)(e:Int):∃a,aO tz ay 72 [au b,aR c,aa e] H=some (aR false,a)/\bX a b w/\bq b H a:=by
 have⟨a,f,g,j,_⟩:=sE h c e;have i:w.need c e=w:=by simp[Wk.need,d]
 rw[i,decide_eq_false d]at f;rw[i]at g;exact⟨a,f,g,j⟩
def o8(h:bX H b w)(f:w.e=0)(e:Int):∃a,aO tz ay 72 [au b,aR true,aa e] H=some (aR true,a)/\bX a b w/\bq b H a:=by have⟨a,c,d,g,_⟩:=sE h true e;rw[tm,decide_eq_true f]at c;rw[tm]at d;exact⟨a,c,d,g⟩
def jM(h:bX H b w)(f:w.e=0){e:Int}(g:e≠0):∃a,aO tz ay 72 [au b,aR false,aa e] H=some (aR false,a)/\bX a b (w.fail e)/\bq b H a:=by
 have⟨a,c,d,i,_⟩:=sE h false e;rw[yI f]at c d;have:decide ((w.fail e).e=0)=false:=by simp[Wk.fail,g]
 rw[this]at c;exact⟨a,c,d,i⟩
def aa2(x:aI)(H:List Ob):aO tz ay 74 [.agg (ax x)] H=some (aR (nR x),H):=by have h:=Nu x;simp only[ax]at h;simp[h,ax]
def VI(n:Nd)(a:Act)(w:ab)(R:KA n)(ap:bC w=true)(h0:a.kind=0->w=aG a.need/\a.need.length<=100000)(hs:(cO n a).e=0->eY (cO n a)):
  ∃o,aS tz ay 1 35 [.agg (aT n),.agg [I a.kind,I a.id,I a.peer,I a.hold,w]]=some (o,[])/\mH (cO n a) o:=by
 have F:=R.s
 have az:=zw n F
 have aA:=EZ n F
 have aq:=ED n a.peer (by have:=F.kn;unfold maxLen;omega)
 simp only[aT,aG,pU]at az aA aq
 have⟨aB,J,S,o,X,h3⟩:=cG (C:=tz) (f:=35) (args:=[.agg (aT n),.agg [I a.kind,I a.id,I a.peer,I a.hold,w]]) (H:=[]) (fun aB J=>∃o,dI true J aB=some (o,[])/\mH (cO n a) o) func35 rfl (by
  simp only[f35,cr]
  refine bp [(2,.c (.aJ [aT n] 0 0)),(3,.c (.aJ [[I a.kind,I a.id,I a.peer,I a.hold,w]] 0 0)),(4,au 0)] (fun G=>G=[ah 10 [jE]]) ?_ ?_
  .simp[aT,jE]
  rintro e G⟨i,b,d,_⟩O
  subst O
  refine bp [(2,.c (.aJ [aT n] 0 0)),(3,.c (.aJ [[I a.kind,I a.id,I a.peer,I a.hold,w]] 0 0)),(4,au 0),(8,au 5)] (fun G=>G=pZ n) ?_ ?_
  .simp only[aT,aG]at i
   simp[i,b,d,az,aA,bK,bV,bR,aT,pZ,bM,bg]
  clear i b d
  rintro e G⟨i,b,d,h,_⟩O
  subst O
  have ae:=Vy n
  have M:=ae.hb
  have cp:=BN ae a.peer (by show n.dr.ai.af.length<=_;have:=F.si;omega)
  have aH:(bg n).n.dr.ai.af=n.dr.ai.af:=rfl
  rw[aH]at cp
  have⟨E,ag⟩:=ak (dv (cP a.peer) 0 n.dr.ai.af)
  have⟨x,aj⟩:=ak (gR n.known a.peer)
  rw[ag]at cp
  rw[aj]at aq
  have⟨HA,aI⟩:=ak (pZ n)
  have r:=Yd n
  have wt:=ae.at
  rw[aI]at cp r wt ae M|-
  refine bp [(2,.c (.aJ [aT n] 0 0)),(3,.c (.aJ [[I a.kind,I a.id,I a.peer,I a.hold,w]] 0 0)),(4,au 0),(8,au 5),(9,aa E)] (fun G=>G=HA) ?_ ?_
  .simp[-aD,i,b,d,h,cp]
  clear i b d h
  rintro e G⟨i,b,d,h,u,_⟩O
  subst O
  refine bp [(2,.c (.aJ [aT n] 0 0)),(3,.c (.aJ [[I a.kind,I a.id,I a.peer,I a.hold,w]] 0 0)),(4,au 0),(8,au 5),(9,aa E),(10,aa x)] (fun aK=>aK=G) ?_ ?_
  .simp only[aT,aG]at i
   simp[i,b,d,h,u,aq,bK,bV,bR,aT]
  clear i b d h u
  rintro e G⟨i,b,d,h,u,P,_⟩O
  subst O
  refine bp [(4,au 0),(8,au 5)] (fun G=>bX G 5 (cO n a)/\Cell 5 G 0 (ah 10 [jE])) ?_ ?_
  .have aX:(bg n).n=n:=rfl
   cases m:dm n with
   |false=>
    have l:(bg n).e=180:=by simp[bg,m]
    have hn:cO n a=bg n:=by unfold cO;simp[m]
    rw[hn]
    have T:∀(H:List Ob) (is:Bool) (e:Int),bX H 5 (bg n)->∃J,aO tz ay 72 [au 5,aR is,aa e] H=some (aR false,J)/\bX J 5 (bg n)/\bq 5 H J:=fun H is e hw=>by
     have⟨J,S,X,h3,_⟩:=sE hw is e
     have e1:(bg n).need is e=bg n:=by simp[Wk.need,l]
     rw[e1,l]at S
     rw[e1]at X
     exact⟨J,S,X,h3⟩
    simp only[bM,l,aG]at M
    simp only[aT,aG]at i
    by_cases v:a.kind=0\/a.kind=1\/a.kind=2\/a.kind=3
    .rcases v with v|v|v|v
     all_goals
      rw[v]at b
      simp[-aD,b,d,h,M]
      exact⟨wt,r⟩
    simp only[not_or]at v
    have⟨v,U,V,W⟩:=v
    by_cases y:a.kind=4
    .rw[y]at b
     have⟨z,d1,w1,g⟩:=T G (decide (a.peer>n.dr.ai.id)&&decide (a.peer<64)) 182 wt
     have⟨A,d2,w2,q⟩:=T z (decide (E<0)) 183 w1
     have⟨L,d3,w3,f3⟩:=T A (decide (x<65535)) 186 w2
     have c3:=((r.step g).step q).step f3
     by_cases k:a.peer>n.dr.ai.id
     all_goals
      simp[-aD,k]at d1
      simp[-aD,i,b,d,h,u,P,k,d1,d2,d3]
      exact⟨w3,c3⟩
    by_cases B:a.kind=5
    .rw[B]at b
     have⟨z,d1,w1,g⟩:=T G (decide (a.peer>n.dr.ai.id)&&decide (a.peer<64)) 182 wt
     have⟨A,d2,w2,q⟩:=T z (decide (E>=0)) 184 w1
     have c3:=(r.step g).step q
     by_cases k:a.peer>n.dr.ai.id
     all_goals
      simp[-aD,k]at d1
      simp[-aD,i,b,d,h,u,k,d1,d2]
      exact⟨w2,c3⟩
    have⟨z,d1,w1,g⟩:=T G false 188 wt
    simp[-aD,b,d,h,v,U,V,W,y,B,d1]
    exact⟨w1,r.step g⟩
   |true=>
    have l:(bg n).e=0:=by simp[bg,m]
    have Y:(bg n).seen.length<=20000:=by simp[bg]
    simp only[bM,l,aG]at M
    simp only[aT,aG]at i
    by_cases v:a.kind=0
    .have hn:cO n a=(bg n).opens a.id a.need:=by unfold cO;simp[v,m]
     have⟨aL,aN⟩:=h0 v
     subst aL
     have⟨K,d1,w1,g⟩:=ad1 wt F l Y a.id a.peer a.hold a.need aN
     have N:aO tz ay 71 [au 5,.agg [I 0,I a.id,I a.peer,I a.hold,aG a.need]] G=some (.aM [],K):=by rw[dz (f:=71) rfl];exact d1
     rw[v]at b
     simp only[aG]at b N
     rw[hn]
     simp[-aD,b,d,h,M,N]
     exact⟨w1,r.step g⟩
    by_cases U:a.kind=1
    .have hn:cO n a=(bg n).release a.id:=by unfold cO;simp[U,m]
     have⟨K,d1,w1,g⟩:=Wf wt F l Y a.id a.peer a.hold w ap
     have N:aO tz ay 71 [au 5,.agg [I 1,I a.id,I a.peer,I a.hold,w]] G=some (.aM [],K):=by rw[dz (f:=71) rfl];exact d1
     rw[U]at b
     rw[hn]
     simp[-aD,b,d,h,M,N]
     exact⟨w1,r.step g⟩
    by_cases V:a.kind=2
    .have hn:cO n a=(bg n).cancel a.id:=by unfold cO;simp[V,m]
     have⟨K,d1,w1,g⟩:=ac9 wt F l Y a.id a.peer a.hold w ap
     have N:aO tz ay 71 [au 5,.agg [I 2,I a.id,I a.peer,I a.hold,w]] G=some (.aM [],K):=by rw[dz (f:=71) rfl];exact d1
     rw[V]at b
     rw[hn]
     simp[-aD,b,d,h,M,N]
     exact⟨w1,r.step g⟩
    by_cases W:a.kind=3
    .have hn:cO n a=(bg n).tick a.hold:=by unfold cO;simp[W,m]
     have⟨K,d1,w1,g⟩:=ae0 wt F l Y a.id a.peer a.hold w ap
     have N:aO tz ay 71 [au 5,.agg [I 3,I a.id,I a.peer,I a.hold,w]] G=some (.aM [],K):=by rw[dz (f:=71) rfl];exact d1
     rw[W]at b
     rw[hn]
     simp[-aD,b,d,h,M,N]
     exact⟨w1,r.step g⟩
    have hid:=R.id m
    by_cases y:a.kind=4
    .rw[y]at b
     by_cases k:a.peer>n.dr.ai.id
     case neg=>
      have hn:cO n a=(bg n).fail 182:=by unfold cO;simp[y,m,k]
      have⟨z,d1,w1,g⟩:=jM wt l (e:=182) (by decide)
      have⟨A,d2,w2,q⟩:=kW w1 (by simp[Wk.fail]) (decide (E<0)) 183
      have⟨L,d3,w3,f3⟩:=kW w2 (by simp[Wk.fail]) (decide (x<65535)) 186
      rw[hn]
      simp[-aD,i,b,d,h,u,P,k,d1,d2,d3]
      exact⟨w3,((r.step g).step q).step f3⟩
     by_cases t:a.peer<64
     case neg=>
      have hn:cO n a=(bg n).fail 182:=by unfold cO;simp[y,m,t]
      have⟨z,d1,w1,g⟩:=jM wt l (e:=182) (by decide)
      have⟨A,d2,w2,q⟩:=kW w1 (by simp[Wk.fail]) (decide (E<0)) 183
      have⟨L,d3,w3,f3⟩:=kW w2 (by simp[Wk.fail]) (decide (x<65535)) 186
      rw[hn]
      simp[-aD,i,b,d,h,u,P,k,t,d1,d2,d3]
      exact⟨w3,((r.step g).step q).step f3⟩
     have⟨z,d1,w1,g⟩:=o8 wt l 182
     have D:=(ae6 n.dr.ai.af a.peer).1
     rw[ag]at D
     cases Z:cJ n.dr.ai.af a.peer with
     |true=>
      have hn:cO n a=(bg n).fail 183:=by unfold cO;simp[y,m,k,t,Z]
      rw[Z]at D
      have al:¬E<0:=by simpa using D
      have⟨A,d2,w2,q⟩:=jM w1 l (e:=183) (by decide)
      have⟨L,d3,w3,f3⟩:=kW w2 (by simp[Wk.fail]) (decide (x<65535)) 186
      rw[hn]
      simp[-aD,i,b,d,h,u,P,k,t,d1,al,d2,d3]
      exact⟨w3,((r.step g).step q).step f3⟩
     |false=>
      rw[Z]at D
      have al:E<0:=by simpa using D
      have⟨A,d2,w2,q⟩:=o8 w1 l 183
      by_cases p4:x<65535
      case neg=>
       have hn:cO n a=(bg n).fail 186:=by unfold cO;simp[y,m,k,t,Z,aj,p4]
       have⟨L,d3,w3,f3⟩:=jM w2 l (e:=186) (by decide)
       rw[hn]
       simp[-aD,i,b,d,h,u,P,k,t,d1,al,d2,p4,d3]
       exact⟨w3,((r.step g).step q).step f3⟩
      have hn:cO n a=(bg n).oq (sF a.peer x):=by unfold cO;simp[y,m,k,t,Z,aj,p4]
      have⟨L,d3,w3,f3⟩:=o8 w2 l 186
      have aY:0<=x:=by rw[<-aj];exact R.ep m a.peer
      have aP:adW.wrap (x+1)=x+1:=wrap_i64 (by omega) (by omega)
      have⟨H4,d4,w4,f4⟩:=aaD w3 (R.sd m) (R.kn m) (sF a.peer x) (by show -1000000<=a.peer;omega) (by show a.peer<=1000000;omega)
      have aC:aO tz ay 73 [au 5,.agg (ax (sF a.peer x))] L=some (.aM [],H4):=by rw[dz (f:=73) rfl];exact d4
      simp only[ax,sF]at aC
      rw[hn]
      simp[-aD,i,b,d,h,u,P,k,t,d1,al,d2,p4,d3,aP,aC]
      exact⟨w4,(((r.step g).step q).step f3).step f4⟩
    by_cases B:a.kind=5
    .rw[B]at b
     by_cases k:a.peer>n.dr.ai.id
     case neg=>
      have hn:cO n a=(bg n).fail 182:=by unfold cO;simp[B,m,k]
      have⟨z,d1,w1,g⟩:=jM wt l (e:=182) (by decide)
      have⟨A,d2,w2,q⟩:=kW w1 (by simp[Wk.fail]) (decide (E>=0)) 184
      rw[hn]
      simp[-aD,i,b,d,h,u,k,d1,d2]
      exact⟨w2,(r.step g).step q⟩
     by_cases t:a.peer<64
     case neg=>
      have hn:cO n a=(bg n).fail 182:=by unfold cO;simp[B,m,t]
      have⟨z,d1,w1,g⟩:=jM wt l (e:=182) (by decide)
      have⟨A,d2,w2,q⟩:=kW w1 (by simp[Wk.fail]) (decide (E>=0)) 184
      rw[hn]
      simp[-aD,i,b,d,h,u,k,t,d1,d2]
      exact⟨w2,(r.step g).step q⟩
     have⟨z,d1,w1,g⟩:=o8 wt l 182
     cases Q:n.dr.ai.af.find? (cP a.peer)with
     |none=>
      have hn:cO n a=(bg n).fail 184:=by unfold cO;simp[B,m,k,t,Q]
      have D:=qX (p:=cP a.peer) 0 Q
      rw[ag]at D
      subst D
      have⟨A,d2,w2,q⟩:=jM w1 l (e:=184) (by decide)
      rw[hn]
      simp[-aD,i,b,d,h,u,k,t,d1,d2]
      exact⟨w2,(r.step g).step q⟩
     |some am=>
      have⟨j,D,an,aQ⟩:=xI (p:=cP a.peer) 0 Q
      rw[ag,aiW]at D
      subst D
      have⟨A,d2,w2,q⟩:=o8 w1 l 184
      have⟨aZ,a0,a1,a2,a3,a4,g2,ar⟩:=w2.row
      obtain⟨aE,ha,va,rfl,av⟩:=g2.hs
      have aU:(bg n).n.dr.ai.af=n.dr.ai.af:=rfl
      rw[aU]at av ar
      have aw:(n.dr.ai.af.map ax++aE)[j]?=some (ax am):=by
       rw[abE (by simpa using an),adf,abM an,aQ];rfl
      have aF:j<n.dr.ai.af.length+aE.length:=by omega
      have ad:=aa2 am A
      simp only[ax]at aw ad
      have aV:cJ n.dr.ai.af a.peer=true:=by
       have⟨S,X⟩:=List.find?_eq_some_iff_append.1 Q
       exact lM.2 ⟨am,ajU Q,by simpa[cP]using S⟩
      cases ao:nR am with
      |false=>
       have hn:cO n a=(bg n).fail 185:=by unfold cO;simp[B,m,k,t,Q,ao]
       have⟨L,d3,w3,f3⟩:=jM w2 l (e:=185) (by decide)
       rw[ao]at ad
       rw[hn]
       simp[-aD,-getElem?_pos,i,b,d,h,u,k,t,d1,d2,ar,av,aw,an,aF,ad,d3]
       exact⟨w3,((r.step g).step q).step f3⟩
      |true=>
       have hn:cO n a=(bg n).shut a.peer:=by unfold cO;simp[B,m,k,t,Q,ao]
       have⟨L,d3,w3,f3⟩:=o8 w2 l 185
       have⟨H4,d4,w4,f4⟩:=Ss w3 ⟨aV,F,R.bk m,Y⟩
       have aW:aO tz ay 75 [au 5,aa a.peer] L=some (.aM [],H4):=by rw[dz (f:=75) rfl];exact d4
       rw[ao]at ad
       rw[hn]
       simp[-aD,-getElem?_pos,i,b,d,h,u,k,t,d1,d2,ar,av,aw,an,aF,ad,d3,aW]
       exact⟨w4,(((r.step g).step q).step f3).step f4⟩
    have hn:cO n a=(bg n).fail 188:=by unfold cO;simp[v,U,V,W,y,B,m]
    have⟨z,d1,w1,g⟩:=jM wt l (e:=188) (by decide)
    rw[hn]
    simp[-aD,b,d,h,v,U,V,W,y,B,d1]
    exact⟨w1,r.step g⟩
  clear i b d h u P
  rintro e K⟨d,h,_⟩⟨w2,c2⟩
  have⟨b0,b1,b2,b3,b4,b5,b6,b7,b8,b9,lo,le,er,J,d1,d2,d3⟩:=RP w2 hs c2
  simp only[jE]at d2
  simp[-aD,-dI,d,h,d1,d2,ba d2]
  exact d3)
 exact⟨o,Pd S X,h3⟩
end
section
variable{n:Nd}{b:cd}{w:Wk}{hold:Int}{r:List bW}
structure oX(n:Nd):Prop where
 dr:dC n.dr=true
 bk:cN n.book=true
 id:n.id<64
 pe:∀x∈n.af,x.peer<64
 ask:∀k∈n.asked,0<=k.peer/\k.peer<n.id/\cJ n.af k.peer=false/\0<=k.aP/\k.aP<=65535
 ad:n.asked.Pairwise fun x y=>x.peer≠y.peer
 wt:∀s∈n.book.aA,s.state=0->∀p∈s.need,qZ n p
def dd.j(h:dd n):oX n:=⟨h.dr,h.bk,h.id,h.pe,h.ask,h.ad,h.wt⟩
def oX.i(h:oX n)(a:n.dr.aQ=1->∃s r,n.book.aA=s::r/\s.state=0/\s.need=n.dr.need):dd n:=⟨h.dr,h.bk,h.id,h.pe,h.ask,h.ad,h.wt,a⟩
def oX.book(h:oX n)(a:cN b=true)(c:∀s∈b.aA,s.state=0->∀p∈s.need,qZ n p):oX {n with book:=b}:=⟨h.dr,a,h.id,h.pe,h.ask,h.ad,c⟩
def ze(h:oX w.n):dd w.dg.n/\w.dg.n.dr.aQ=0/\w.dg.e=w.e/\w.dg.out=w.out/\w.dg.seen=w.seen/\w.dg.n.told=w.n.told/\w.dg.n.known=w.n.known/\w.dg.n.asked=w.n.asked/\w.dg.n.book=w.n.book/\w.dg.n.dr.ai=w.n.dr.ai:=by
 have c:=ic.1 h.dr;by_cases a:w.n.dr.aQ=0
 .have e:w.dg=w:=by unfold Wk.dg kH;simp[h.dr,a]
  rw[e];exact⟨h.i fun b=>(by rw[a]at b;cases b),a,rfl,rfl,rfl,rfl,rfl,rfl,rfl,rfl⟩
 .have e:w.dg=w.put {w.n with dr:=⟨w.n.dr.ai,0,[]⟩}:=by unfold Wk.dg kH;simp[h.dr,a]
  rw[e];refine⟨⟨ic.2 ⟨c.1,by simp[Wk.put],by simp[Wk.put],by simp[Wk.put,ek],by simp[Wk.put],by simp[Wk.put]⟩,h.bk,h.id,h.pe,h.ask,h.ad,h.wt,?_⟩,rfl,rfl,rfl,rfl,rfl,rfl,rfl,rfl,rfl⟩;intro b;simp[Wk.put]at b
def Je(h:dd w.n)(a:gN w.n.known)(b:w.e=0)(i:w.out.length<=400)(j:w.seen.length<=400)(k:w.n.told.length<=400)(m:w.n.known.length<=400)(o:w.n.asked.length<=400):eY w:=by
 refine⟨h,a,?_,b⟩;have c:=h.af.1;have p:=CO w.n.af
 have d:∀l:List aI,bS jI l<=l.length:=by
  intro l;induction l with
  |nil=>exact ad3 _
  |cons x r f=>
   simp only[bS,aip];have:jI x<=1:=by unfold jI;split<;>omega
   omega
 have g:∀l:List aI,bS (dB w.n.told) l<=l.length:=by
  intro l;induction l with
  |nil=>exact ad3 _
  |cons x r f=>
   simp only[bS,aip];have:dB w.n.told x<=1:=by unfold dB;split<;>omega
   omega
 have q:=d w.n.af;have s:=g w.n.af;have t:w.n.af.length<64:=c
 have c1:nM w.n.dr.aQ (jB w.n.book)<=9:=by
  unfold nM ci;repeat' split
  all_goals omega
 have c2:mj w.n.phase w.n.dr.aQ (jB w.n.book) (bS (dB w.n.told) w.n.af)<=3:=by
  unfold mj;repeat' split
  all_goals omega
 simp only[ij,dP];omega
def Ov{bl bl':Int}(a:bl<=bl'):∀ {l:List bW} {last:Int} {f:Bool},dS bl last f l=true->dS bl' last f l=true
 |[],_,_,_=>rfl
 |s::r,last,f,h=>by
  simp only[dS,abR]at h|-
  refine⟨?_,Ov a h.2⟩
  have:=h.1
  simp only[dw,abR,afa,aiX,decide_eq_false_iff_not]at this|-
  obtain⟨⟨⟨⟨⟨b,i⟩,c⟩,d⟩,e⟩,g⟩:=this
  exact⟨⟨⟨⟨⟨b,by omega⟩,c⟩,d⟩,e⟩,g⟩
def YO{bl a b:Int}{f:Bool}{s:bW}(h:dw bl a f s=true)(j:b<=a):dw bl b f s=true:=by simp only[dw,abR,afa,aiX,decide_eq_false_iff_not]at h|-;obtain⟨⟨⟨⟨⟨k,c⟩,d⟩,e⟩,g⟩,i⟩:=h;exact⟨⟨⟨⟨⟨by omega,c⟩,d⟩,e⟩,g⟩,i⟩
def aff{bl a:Int}{s:bW}(h:dw bl a false s=true)(f:Bool):dw bl a f s=true:=by simp only[dw,abR,ai9,alD,aes,false_or]at h|-;exact⟨h.1,.inr h.2⟩
def B7{bl:Int}:∀ {l:List bW} {a b:Int} {f:Bool},dS bl a f l=true->b<=a->dS bl b f l=true
 |[],_,_,_,_,_=>rfl
 |s::r,a,b,f,h,c=>by
  simp only[dS,abR]at h|-
  exact⟨YO h.1 c,h.2⟩
def AW{bl:Int}:∀ {l:List bW} {a:Int} (f:Bool),dS bl a false l=true->dS bl a f l=true
 |[],_,_,_=>rfl
 |s::r,a,f,h=>by
  simp only[dS,abR]at h|-
  exact⟨aff h.1 f,h.2⟩
def LC{bl:Int}(p:bW->Bool):∀ {l:List bW} {a:Int} {f:Bool},dS bl a f l=true->dS bl a f (l.filter p)=true
 |[],_,_,_=>rfl
 |s::r,a,f,h=>by
  simp only[dS,abR]at h
  have b:=LC p h.2
  rw[akN]
  split
  .simp only[dS,abR]
   exact⟨h.1,b⟩
  .have c:a<=s.id:=by
    have:=h.1
    simp only[dw,abR,afa,aiX,decide_eq_false_iff_not]at this
    omega
   exact AW f (B7 b c)
def Tx(h:cN b=true)(p:bW->Bool):cN ⟨b.last,b.aA.filter p⟩=true:=by simp only[cN,abR,afa,decide_eq_false_iff_not]at h|-;have:=aiq p b.aA;exact⟨⟨h.1.1,by omega⟩,LC p h.2⟩
def LV{bl id:Int}:∀ {l:List bW} {a:Int} {f:Bool},dS bl a f l=true->dS bl a f (ej id l)=true
 |[],_,_,_=>rfl
 |s::r,a,f,h=>by
  simp only[dS,abR]at h
  have b:a<=s.id:=by
   have:=h.1
   simp only[dw,abR,afa,aiX,decide_eq_false_iff_not]at this
   omega
  unfold ej
  split
  .exact AW f (B7 h.2 b)
  .simp only[dS,abR]
   exact⟨h.1,LV h.2⟩
def F1{id:Int}:∀ {l:List bW} {s:bW},s∈ej id l->s∈l
 |[],_,h=>by simp[ej]at h
 |x::r,s,h=>by
  unfold ej at h
  split at h
  .simp[h]
  .rcases aeM.1 h with rfl|h
   .simp
   .simp[F1 h]
def N5{id:Int}:∀l:List bW,(ej id l).length<=l.length
 |[]=>ad3 _
 |x::r=>by
  unfold ej
  split
  .simp
  .have:=N5 (id:=id) r;simp;omega
def MH(h:cN b=true)(id:Int):cN ⟨b.last,ej id b.aA⟩=true:=by simp only[cN,abR,afa,decide_eq_false_iff_not]at h|-;have:=N5 (id:=id) b.aA;exact⟨⟨h.1.1,by omega⟩,LV h.2⟩
def FC{id a:Int}(h:(de b id a).2=0):cN b=true/\(∃s,b.aA.find? (fun s=>decide (s.id=id))=some s/\s.state=a)/\(de b id a).1=⟨b.last,ej id b.aA⟩:=by
 unfold de at h|-;split at h
 .cases h
 .rename_i c;rw[if_neg c];split at h
  .cases h
  .rename_i s e;split at h
   .rename_i d;rw[e];simp only[d,if_true];exact⟨by simpa using c,⟨s,rfl,d⟩,trivial⟩
   .cases h
structure iu(w:Wk):Prop where
 o:w.out.length<=100
 s:w.seen.length<=100
 t:w.n.told.length<=100
 k:w.n.known.length<=100
 a:w.n.asked.length<=100
def iu.jS(f:iu w)(h:dd w.n)(b:gN w.n.known)(c:w.e=0):eY w:=Je h b c (by have:=f.o;omega) (by have:=f.s;omega) (by have:=f.t;omega) (by have:=f.k;omega) (by have:=f.a;omega)
def Xi{id:Int}(h:dd w.n)(i:gN w.n.known)(c:iu w)(d:w.seen.length<=90)(f:w.e=0)(b:(w.release id).e=0):eY (w.release id):=by
 unfold Wk.release at b|-;split at b
 case isFalse hc=>exact absurd b hc
 rename_i hc;rw[if_pos hc];have⟨l,_,m⟩:=FC hc;have r:w.eS (de w.n.book id 1).1 (de w.n.book id 1).2=w.put {w.n with book:=⟨w.n.book.last,ej id w.n.book.aA⟩}:=by rw[hc,rP,if_pos f,m]
 rw[r];have u:=h.j.book (MH l id) (fun s d b p hp=>h.wt s (F1 d) b p hp);have⟨q,_,v,x,y,z,g,A,_⟩:=ze (w:=(w.put {w.n with book:=⟨w.n.book.last,ej id w.n.book.aA⟩}).dJ 2 id) u;have B:iu ((w.put {w.n with book:=⟨w.n.book.last,ej id w.n.book.aA⟩}).dJ 2 id).dg:=⟨by rw[x];exact c.o,by rw[y];simp[Wk.dJ,Wk.put];omega,by rw[z];exact c.t,by rw[g];exact c.k,by rw[A];exact c.a⟩;exact B.jS q (by rw[g];exact i) (by rw[v];exact f)
def YH{id:Int}(h:dd w.n)(g:gN w.n.known)(b:iu w)(l:w.seen.length<=90)(d:w.e=0)(c:(w.cancel id).e=0):eY (w.cancel id):=by
 unfold Wk.cancel at c|-;split at c
 case isFalse hc=>exact absurd c hc
 rename_i hc;rw[if_pos hc];have⟨y,_,z⟩:=FC hc;have A:w.eS (de w.n.book id 0).1 (de w.n.book id 0).2=w.put {w.n with book:=⟨w.n.book.last,ej id w.n.book.aA⟩}:=by rw[hc,rP,if_pos d,z]
 rw[A];have m:=h.j.book (MH y id) (fun s l c p hp=>h.wt s (F1 l) c p hp);split
 .have ⟨q,_,B,C,D,E,u,F,_⟩:=ze (w:=(w.put {w.n with book:=⟨w.n.book.last,ej id w.n.book.aA⟩}).dJ 3 id) m;have f:iu ((w.put {w.n with book:=⟨w.n.book.last,ej id w.n.book.aA⟩}).dJ 3 id).dg:=⟨by rw[C];exact b.o,by rw[D];simp[Wk.dJ,Wk.put];omega,by rw[E];exact b.t,by rw[u];exact b.k,by rw[F];exact b.a⟩;exact f.jS q (by rw[u];exact g) (by rw[B];exact d)
 .rename_i hn;have f:iu ((w.put {w.n with book:=⟨w.n.book.last,ej id w.n.book.aA⟩}).dJ 3 id):=⟨b.o,by simp[Wk.dJ,Wk.put];omega,b.t,b.k,b.a⟩;refine f.jS (m.i fun v=>?_) g d;have⟨s,r,x,G,H⟩:=h.th v;have I:¬s.id=id:=fun e=>hn ⟨by unfold pq;rw[x];exact e,v⟩;refine⟨s,ej id r,?_,G,H⟩;show ej id w.n.book.aA=_;rw[x];exact if_neg I
def Tj(h:(dN b hold).2.2=0):cN b=true/\((dN b hold).1=b\/∃s r,b.aA=s::r/\s.state=1/\((dN b hold).1=⟨b.last,r⟩\/∃a,0<=a/\(dN b hold).1=⟨b.last,{s with cH:=a}::r⟩)):=by
 unfold dN at h|-;split at h
 .cases h
 .rename_i e;have d:cN b=true:=by simpa using e
  rw[if_neg e];refine⟨d,?_⟩;cases f:b.aA with
  |nil=>exact .inl rfl
  |cons s r=>
   simp only;by_cases c:s.state=1
   .simp only[c,if_true];have g:0<=s.cH:=by simp only[cN,f,dS,dw,abR,afa,aiX,decide_eq_false_iff_not]at d;have:=d.2.1.1.2;omega
    refine .inr ⟨s,r,rfl,c,?_⟩;split
    .exact .inr ⟨max s.cH (min s.cH (4611686018427387904-1)+1),by omega,by rw[c]⟩
    .exact .inl rfl
   .simp only[c,if_false];exact .inl trivial
def agl{s:bW}(h:cN b=true)(a:b.aA=s::r):cN ⟨b.last,r⟩=true:=by
 simp only[cN,a,dS,abR,afa,decide_eq_false_iff_not,aip]at h|-;have c:(0:Int)<=s.id:=by have:=h.2.1;simp only[dw,abR,afa,aiX,decide_eq_false_iff_not]at this;omega
 exact⟨⟨h.1.1,by omega⟩,AW true (B7 h.2.2 c)⟩
def abL{s:bW}{a:Int}(h:cN b=true)(c:b.aA=s::r)(d:s.state=1)(j:0<=a):cN ⟨b.last,{s with cH:=a}::r⟩=true:=by simp only[cN,c,dS,abR,afa,decide_eq_false_iff_not,aip]at h|-;refine⟨h.1,?_,h.2.2⟩;have:=h.2.1;simp only[dw,abR,afa,aiX,decide_eq_false_iff_not]at this|-;obtain⟨⟨⟨⟨⟨e,f⟩,g⟩,i⟩,k⟩,l⟩:=this;exact⟨⟨⟨⟨⟨e,f⟩,g⟩,i⟩,by omega⟩,by simp[d]⟩
def ae2(h:dd w.n)(A:gN w.n.known)(b:iu w)(P:w.seen.length<=90)(x:w.e=0)(c:(w.tick hold).e=0):eY (w.tick hold):=by
 unfold Wk.tick at c|-;split at c
 case isFalse hc=>exact absurd c hc
 rename_i hc;rw[if_pos hc];have⟨B,C⟩:=Tj hc;have d:w.eS (dN w.n.book hold).1 0=w.put {w.n with book:=(dN w.n.book hold).1}:=by rw[rP,if_pos x]
 rw[d];have⟨f,F⟩:=ak ((dN w.n.book hold).1);rw[F]at C|-
 have y:oX {w.n with book:=f}/\(w.n.dr.aQ=1->f=w.n.book):=by
  rcases C with rfl|⟨s,r,g,v,rfl|⟨a,G,rfl⟩⟩
  .exact ⟨h.j,fun _=>rfl⟩
  .refine ⟨h.j.book (agl B g) (fun t d c p hp=>h.wt t (by rw[g];exact aiO _ d) c p hp),fun l=>?_⟩;have⟨H,I,m,u,_⟩:=h.th l;rw[g]at m;cases m;rw[v]at u;cases u
  .refine ⟨h.j.book (abL B g v G) (fun t d c p hp=>?_),fun l=>?_⟩
   .rcases aeM.1 d with rfl|d
    .have D:s.state=0:=c;rw[v]at D;cases D
    .exact h.wt t (by rw[g];exact aiO _ d) c p hp
   .have ⟨H,I,m,u,_⟩:=h.th l;rw[g]at m;cases m;rw[v]at u;cases u
 split
 .have ⟨q,_,J,K,L,M,E,N,_⟩:=ze (w:=(w.put {w.n with book:=f}).dJ 4 (dN w.n.book hold).2.1) y.1;have z:iu ((w.put {w.n with book:=f}).dJ 4 (dN w.n.book hold).2.1).dg:=⟨by rw[K];exact b.o,by rw[L];simp[Wk.dJ,Wk.put];omega,by rw[M];exact b.t,by rw[E];exact b.k,by rw[N];exact b.a⟩;exact z.jS q (by rw[E];exact A) (by rw[J];exact x)
 .have z:iu (w.put {w.n with book:=f}):=⟨b.o,b.s,b.t,b.k,b.a⟩;refine z.jS (y.1.i fun l=>?_) A x;have O:=y.2 l;show ∃s r,f.aA=s::r/\_;rw[O];exact h.th l
def Mb{x:Int}:∀ {l:List Int},l.Pairwise (· <= ·)->(kB x l).Pairwise (· <= ·)
 |[],_=>by simp[kB]
 |y::r,h=>by
  have hp:=ahg.1 h
  unfold kB
  split
  .rename_i b
   refine ahg.2 ⟨fun z a=>?_,h⟩
   rcases aeM.1 a with rfl|a
   .exact b
   .have:=hp.1 z a;omega
  .rename_i b
   refine ahg.2 ⟨fun z a=>?_,Mb hp.2⟩
   rcases FX.1 a with rfl|a
   .omega
   .exact hp.1 z a
def PC:∀l:List Int,(gv l).Pairwise (· <= ·)
 |[]=>akr
 |x::r=>Mb (PC r)
def MG:∀ {l:List Int},l.Pairwise (· <= ·)->(dt l).Pairwise (· < ·)
 |[],_=>akr
 |x::r,h=>by
  have hp:=ahg.1 h
  have a:=MG hp.2
  unfold dt
  cases c:dt r with
  |nil=>simp
  |cons y t=>
   rw[c]at a
   have d:y∈r:=Kv.1 (by rw[c];simp)
   have f:=hp.1 y d
   simp only
   split
   .exact a
   .rename_i g
    have e:=ahg.1 a
    refine ahg.2 ⟨fun z b=>?_,a⟩
    rcases aeM.1 b with rfl|b
    .omega
    .have:=e.1 z b;omega
def Oj:∀ {l:List Int},l.Pairwise (· < ·)->ek l=true
 |[],_=>rfl
 |[x],_=>rfl
 |x::y::r,h=>by
  have hp:=ahg.1 h
  simp only[ek,abR,decide_eq_true_eq]
  refine⟨hp.1 y (by simp),?_⟩
  have:=Oj hp.2
  simpa[ek]using this
def QQ(l:List Int):ek (cD l)=true:=Oj (MG (PC l))
def Mz{bl id:Int}{need:List Int}(c:bl<id)(a:nh need=false)(b:ek need=true):∀ {l:List bW} {last:Int} {f:Bool},dS bl last f l=true->last<=bl->dS id last f (l++[⟨id,need,0,0⟩])=true
 |[],last,f,_,d=>by
  simp only[aiD,dS,dw,a,b]
  have e:¬id<=last:=by omega
  simp[e]
 |s::r,last,f,h,d=>by
  simp only[dS,abR]at h
  have g:=h.1
  simp only[dw,abR,afa,aiX,decide_eq_false_iff_not]at g
  simp only[ai7,dS,abR]
  have hm:=Ov (bl:=bl) (bl':=id) (by omega) (l:=[s]) (last:=last) (f:=f) (by simp[dS,h.1])
  simp only[dS,akP]at hm
  exact⟨hm,Mz c a b h.2 (by omega)⟩
def MY{id:Int}{need:List Int}(h:(ia b id need).2=0):cN b=true/\(ia b id need).1=⟨id,b.aA++[⟨id,cD need,0,0⟩]⟩/\cN ⟨id,b.aA++[⟨id,cD need,0,0⟩]⟩=true:=by
 unfold ia at h|-;split at h
 .cases h
 rename_i c;rw[if_neg c];split at h
 .cases h
 rename_i e;rw[if_neg e];split at h
 .cases h
 rename_i d;rw[if_neg d];split at h
 .cases h
 rename_i f;rw[if_neg f];have a:cN b=true:=by simpa using c
 refine⟨a,rfl,?_⟩;simp only[cN,abR,afa,decide_eq_false_iff_not]at a|-;refine⟨⟨by omega,by simp;omega⟩,Mz (by omega) (by simpa using d) (QQ need) a.2 (by omega)⟩
def abA{id:Int}{need:List Int}(h:dd w.n)(g:gN w.n.known)(d:iu w)(b:w.seen.length<=90)(l:w.e=0)(c:(w.opens id need).e=0):eY (w.opens id need):=by
 unfold Wk.opens at c|-;split at c
 .rename_i hc;exact absurd c hc
 rename_i hc;rw[if_neg hc];split at c
 .cases c
 rename_i f;rw[if_neg f];obtain⟨C,m,q⟩:=MY (by simpa using hc);rw[m];have u:kZ need (jY w.n)=true:=by simpa using f
 have v:oX {w.n with book:=⟨id,w.n.book.aA++[⟨id,cD need,0,0⟩]⟩}:=h.j.book q (fun s b c p hp=>by
  rcases ain.1 b with b|b
  .exact h.wt s b c p hp
  .simp at b;subst b;exact Pg.1 (KH.1 u p (vA.1 hp)))
 have x:iu ⟨{w.n with book:=⟨id,w.n.book.aA++[⟨id,cD need,0,0⟩]⟩},w.out,w.seen++[⟨0,w.n.id,id,0,cD need⟩],w.e⟩:=⟨d.o,by simp;omega,d.t,d.k,d.a⟩;refine x.jS (v.i fun y=>?_) g l;have⟨s,r,z,A,B⟩:=h.th y;exact⟨s,r++[⟨id,cD need,0,0⟩],by show w.n.book.aA++_=_;rw[z];rfl,A,B⟩
def ag6{b:Int}(h:dd w.n)(l:gN w.n.known)(i:iu w)(M:w.n.known.length<=90)(v:w.e=0)(N:b>w.n.dr.ai.id)(z:b<64)(A:cJ w.n.dr.ai.af b=false)(O:gR w.n.known b<65535)(P:0<=gR w.n.known b):eY (w.oq (sF b (gR w.n.known b))):=by
 have c:=ic.1 h.dr;have d:=jn.1 c.1;have⟨x,m⟩:=ak (sF b (gR w.n.known b));have f:x.peer=b:=by rw[<-m];rfl
 have B:cS w.n.dr.ai.id (-1) x=true:=by
  rw[<-m];have q:¬b=w.n.dr.ai.id:=by omega
  have j:b> -1:=by omega
  have C:¬gR w.n.known b+1<0:=by omega
  have D:¬gR w.n.known b+1>65535:=by omega
  simp only[cS,sF,q,j,C,D];simp
 rw[m];have r:=Fh d.2.2.2.2 B (by rw[f];exact A)
 have u:∀y∈fR x w.n.dr.ai.af,y.peer<64:=fun y g=>by
  rcases v7.1 g with rfl|g
  .rw[f];exact z
  .exact h.pe y g
 have E:=wC h.id r u (by omega) (by omega);have F:∀p,qZ w.n p->qZ (w.oq x).n p:=fun p ⟨y,g,hp⟩=>⟨y,v7.2 (.inr g),hp⟩;have Q:=Ge x.peer x.aP w.n.known;have G:iu (w.oq x):=⟨i.o,i.s,i.t,by show(fS x.peer x.aP w.n.known).length<=_;omega,i.a⟩;refine G.jS ⟨?_,h.bk,h.id,u,fun k l=>?_,h.ad,fun s H I p hp=>F p (h.wt s H I p hp),h.th⟩ (l.td (by rw[f];omega) (by rw[f];omega)) v
 .refine ic.2 ⟨jn.2 ⟨d.1,d.2.1,d.2.2.1,?_,r⟩,c.2.1,c.2.2.1,c.2.2.2.1,c.2.2.2.2.1,fun p hp=>?_⟩
  .show (fR x w.n.dr.ai.af).length<64;have:0<=w.n.id:=d.1;split at E<;>omega
  .show cJ (fR x w.n.dr.ai.af) p=true;rw[JB,c.2.2.2.2.2 p hp];simp
 .have ⟨q,j,J,K⟩:=h.ask k l;refine⟨q,j,?_,K⟩;show cJ (fR x w.n.dr.ai.af) k.peer=false;rw[JB,f];have L:cJ w.n.dr.ai.af k.peer=false:=J;have:¬b=k.peer:=by have R:k.peer<w.n.dr.ai.id:=j;omega
  simp[L,this]
end
def iV(l:List aI)(a b s:Int):Bool:=match l.find? (cP a)with
 |none=>false
 |some x=>decide (x.aP=b)&&decide (x.state=s)
def aey(l:List aI)(a s:Int)(m:cY)(f g:ab)(r:List ab)(k:cy (f::g::r)=true)(n:r.length=10):
  aS tz ay 0 225 [aa s,.c (.aJ [[I (dv (cP a) 0 l)]] 0 0),.c (.aJ [[.aJ [f::g:: .aj (l.map ax)::r] 0 0]] 0 0),.c (.aJ [br m] 0 0)]=some (aR (iV l a m.aP s),[]):=by
 refine be func225 rfl ?_
 unfold iV
 cases h:l.find? (cP a)with
 |none=>
  have b:=qX (p:=cP a) 0 h
  rw[b]
  simp[f225]
 |some x=>
  have⟨j,b,d,e⟩:=xI (p:=cP a) 0 h
  rw[aiW]at b
  rw[b]
  have i:(l.map ax)[j]?=some (ax x):=by rw[adf,abM d,e];rfl
  simp only[ax]at i
  have o:l[j]?=some x:=by rw[abM d,e]
  by_cases c1:x.aP=m.aP
  all_goals simp[f225,br,d,e,ax,c1]
def oG(n:Nd):List Ob:=[ah 10 [jE],.live 1 1 [[.ptr 6 0 0 0]],ah 8 (n.dr.ai.af.map ax),ah 4 (n.book.aA.map aN),ah 2 (n.known.map aW),ah 2 (n.asked.map aW),ah 13 [bM (bg n) (.sl 2 0 0 n.dr.ai.af.length) (.sl 3 0 0 n.book.aA.length) (.sl 4 0 0 n.known.length) (.sl 5 0 0 n.asked.length) ap ap]]
def ag3(n:Nd):cF (oG n) 6 (bg n) (.sl 2 0 0 n.dr.ai.af.length) (.sl 3 0 0 n.book.aA.length) (.sl 4 0 0 n.known.length) (.sl 5 0 0 n.asked.length) ap ap:=by
 refine⟨rfl,⟨[],2,0,by simp[bg],by simp[oG,bg]⟩,.inr ⟨3,0,by simp[bg],by simp[oG,bg]⟩,⟨4,0,by simp[bg],by simp[oG,bg]⟩,.inr ⟨5,0,by simp[bg],by simp[oG,bg]⟩,.inl ⟨rfl,rfl⟩,.inl ⟨rfl,rfl⟩,?_,?_⟩
 .intro m a b;simp[rf]at a b;omega
 .intro m a b;simp[rf]at a
def Tc(n:Nd):Cell 6 (oG n) 0 (ah 10 [jE]):=⟨rfl,by decide,by simp[oG,oW,eu,bM,rf,aG]⟩
def adk(n:Nd):Cell 6 (oG n) 1 (.live 1 1 [[.ptr 6 0 0 0]]):=⟨rfl,by decide,by simp[oG,oW,eu,bM,rf,aG]⟩
def acg{K:List Ob}{b a:Nat}{v:Wk}{sl l o p q se:ab}(g:cF K b v sl l o p q se)(c1:K[1]?=some (.live 1 1 [[.ptr b 0 0 0]]))(d s:Int)(m:cY)(r:K[a]?=some (ah 1 [[I (dv (cP d) 0 v.n.dr.ai.af)]])):
  aO tz ay 225 [aa s,au a,kP 1 1 0 0,.c (.aJ [br m] 0 0)] K=some (aR (iV v.n.dr.ai.af d m.aP s),K):=by
 have⟨f,h,le,t,u,w⟩:=g.HF 3
 have x:bC f=true/\bC h=true/\bC le=true:=by simpa using u
 have y:=aey v.n.dr.ai.af d s m (I v.n.dr.ai.id) (I v.n.dr.ai.phase) [I v.n.dr.aQ,aG v.n.dr.need,I v.n.book.last,.aj (v.n.book.aA.map aN),.aj (v.n.known.map aW),aG v.n.told,f,h,le,I v.e] (by simp[bV,bR,bi,x]) rfl
 have z:bU K 6 (I s)=some (I s,[]):=rfl
 have A:bU K 6 (.ptr a 0 0 0)=some (.aJ [[I (dv (cP d) 0 v.n.dr.ai.af)]] 0 0,[1]):=by
  have i:obj K a 0=some (1,[[I (dv (cP d) 0 v.n.dr.ai.af)]]):=by simp[r]
  have hp:bC (.ptr a 0 0 0)=false:=rfl
  unfold bU
  rw[hp]
  simp only[aes,if_false]
  rw[i]
  rfl
 have B:bU K 6 (.aJ [br m] 0 0)=some (.aJ [br m] 0 0,[]):=rfl
 have j:∃k,bU K 6 (.ptr 1 1 0 0)=some (.aJ [[.aJ [[I v.n.dr.ai.id,I v.n.dr.ai.phase,.aj (v.n.dr.ai.af.map ax),I v.n.dr.aQ,aG v.n.dr.need,I v.n.book.last,.aj (v.n.book.aA.map aN),.aj (v.n.known.map aW),aG v.n.told,f,h,le,I v.e]] 0 0]] 0 0,k):=by
  have i:obj K 1 1=some (1,[[.ptr b 0 0 0]]):=by simp[c1]
  have C:bA [[ab.ptr b 0 0 0]]=false:=rfl
  have hp:bC (.ptr 1 1 0 0)=false:=rfl
  refine⟨1::((t++[])++[]),?_⟩
  unfold bU
  rw[hp]
  simp only[aes,if_false]
  rw[i]
  simp only
  unfold jb
  rw[C]
  simp only[aes,if_false,jR,eX,w]
 have⟨k,j⟩:=j
 have D:([aw.c (I s),au a,kP 1 1 0 0,.c (.aJ [br m] 0 0)].any (eO tz))=false:=rfl
 rw[aD,D]
 simp only[dy,df,z,A,j,B]
 rw[if_neg (by simp),kU,(show tz.md 225=0 from rfl),y,jP]
 simp
def iU(n:Nd)(m:cY):Wk:=if dm n=true then(if m.num=0 then bg n else(bg n).fail 187)else bg n
def rN(n:Nd)(a:Int)(w:Wk):Wk:=(w.put ⟨⟨⟨n.dr.ai.id,n.dr.ai.phase,setAt (cP a) (fun x=>{x with state:=0}) n.dr.ai.af⟩,n.dr.aQ,n.dr.need⟩,n.book,n.known,gJ n.told [a],n.asked⟩).ey 6 a
def lr(n:Nd)(a:Int)(m:cY)(w:Wk):Wk:=
 if m.kind=1\/m.kind=2\/m.kind=3\/m.kind=4 then(match n.dr.ai.af.find? (cP a)with
  |some x=>if x.aP=m.aP then w.sC a m else w
  |none=>w)
 else if m.kind=5 then(if(ju n ⟨a,m.aP⟩&&kN [] (n.asked++[⟨a,m.aP⟩]))=true then w.put {w.n with asked:=n.asked++[⟨a,m.aP⟩]}else w.fail 187)
 else if m.kind=6 then(if(iV n.dr.ai.af a m.aP 1&&decide (a∈n.told))=true then rN n a w else w.fail 187)
 else if m.kind=7 then(if(iV n.dr.ai.af a m.aP 0&&decide (a<n.dr.ai.id))=true then w.shut a else w.fail 187)
 else if m.kind=8 then(if iV n.dr.ai.af a m.aP 3=true then(w.drop a).ey 8 a else w.fail 187)
 else w.fail 187
def fK(n:Nd)(a:Int)(m:cY):Wk:=if(iU n m).e=0 then lr n a m (iU n m)else iU n m
def cF.Q8{H G:List Ob}{b:Nat}{w:Wk}{sl k l g p se ks':ab}(h:cF H b w sl k l g p se)(q:List cj)(s:G[b]?=some (ah 13 [bM (w.put {w.n with asked:=q}) sl k l ks' p se]))(J:H.length<=G.length)
  (i:∀(m:Nat) (o:Ob),H[m]?=some o->m≠b->m∉rf g->G[m]?=some o) (A:lB G 2 ks' (q.map aW)) (u:∀m∈rf ks',m∈rf g\/H.length<=m):
  cF G b (w.put {w.n with asked:=q}) sl k l ks' p se/\bq b H G:=by
 obtain⟨j,⟨t,B⟩,C,x,D,E,F,d1,d2⟩:=h
 have I:∀m,m∈rf g->∃v r,H[m]?=some (.live v 2 r):=by
  rcases D with⟨_,rfl⟩|⟨M,N,rfl,d⟩
  .intro m hm;simp[rf]at hm
  .intro m hm;simp[rf]at hm;subst hm;exact⟨_,_,d⟩
 have f:∀(m v z:Nat) (r:List (List ab)),z≠13->z≠2->H[m]?=some (.live v z r)->G[m]?=some (.live v z r):=fun m v z r c d a=>i m _ a (fun e=>by subst e;rw[j]at a;cases a;exact c rfl) (fun hm=>by
  obtain⟨O,P,y⟩:=I m hm
  rw[y]at a;cases a;exact d rfl)
 refine⟨⟨s,⟨t,B.aK fun _ _ _ _ h=>f _ _ _ _ (by decide) (by decide) h⟩,C.aK fun _ _ _ _ h=>f _ _ _ _ (by decide) (by decide) h,x.aK fun m _ _ hm h=>i m _ h (fun e=>by subst e;rw[j]at h;cases h) (fun K=>d1 m hm K),A,E.aK fun _ _ _ _ h=>f _ _ _ _ (by decide) (by decide) h,F.aK fun _ _ _ _ h=>f _ _ _ _ (by decide) (by decide) h,fun m hm L=>?_,d2⟩,bq.bH j s J (fun m hm=>?_) (fun m o c d a=>i m o c d (fun y=>a ?_))⟩
 .rcases u m L with c|c
  .exact d1 m hm c
  .have:=x.lt m hm
   omega
 .have Q:=u m
  clear I f B C x D E F d1 d2 j s i A u
  simp only[eu,bM,aiz,ajn,ain,qA,ql,aG]at hm|-
  simp at hm|-
  grind
 .simp only[eu,bM,aiz,ajn,ain,qA,ql,aG]
  simp[y]
def vD{n:Nd}{m:cY}(h:(iU n m).e=0):dm n=true:=by
 unfold iU at h;split at h
 .assumption
 .rename_i a;simp[bg,a]at h
def RW{l:List aI}{a b s:Int}(h:iV l a b s=true):∃x,l.find? (cP a)=some x/\x.aP=b/\x.state=s:=by
 unfold iV at h;split at h
 .cases h
 .rename_i x c;simp at h;exact⟨x,c,h.1,h.2⟩
structure uV(K:List Ob)(w:Wk)(m11:Nat)(ix:Int):Prop where
 w:bX K 6 w
 c0:Cell 6 K 0 (ah 10 [jE])
 c1:Cell 6 K 1 (.live 1 1 [[.ptr 6 0 0 0]])
 ld:Cell 6 K m11 (ah 1 [[I ix]])
def uV.step{K a:List Ob}{w b:Wk}{c:Nat}{d:Int}(h:uV K w c d)(e:bX a 6 b)(f:bq 6 K a):uV a b c d:=⟨e,h.c0.step f,h.c1.step f,h.ld.step f⟩
def abp(n:Nd)(m:cY):(iU n m).n=n:=by
 unfold iU;split
 .split<;>rfl
 .rfl
def Wn(n:Nd)(m:cY):(iU n m).seen=[]/\(iU n m).out=[]:=by
 unfold iU;split
 .split<;>exact⟨rfl,rfl⟩
 .exact ⟨rfl,rfl⟩
def aeG(n:Nd)(peer:Int)(m:cY)(hh:KA n)(hs:(fK n peer m).e=0->eY (fK n peer m)):
  ∃o,aS tz ay 1 142 [.agg (aT n),aa peer,.agg (br m)]=some (o,[])/\mH (fK n peer m) o:=by
 have N:=hh.s
 have bt:=zw n N
 have bu:=EZ n N
 simp only[aT,aG,pU]at bt bu
 have⟨r,H',h1,o,h2,h3⟩:=cG (C:=tz) (f:=142) (args:=[.agg (aT n),aa peer,.agg (br m)]) (H:=[]) (fun r H'=>∃o,dI true H' r=some (o,[])/\mH (fK n peer m) o) func142 rfl (by
  simp only[f142,cr]
  refine bp [(1,aa peer),(3,.c (.aJ [aT n] 0 0)),(5,.c (.aJ [br m] 0 0)),(6,au 0)] (fun G=>G=[ah 10 [jE]]) ?_ ?_
  .simp[aT,br,jE]
  rintro e G⟨q,u,d,g,_⟩hG
  subst hG
  refine bp [(1,aa peer),(3,.c (.aJ [aT n] 0 0)),(5,.c (.aJ [br m] 0 0)),(6,au 0),(10,kP 1 1 0 0)] (fun G=>G=oG n) ?_ ?_
  .simp only[aT,aG]at u
   simp[rV,gO,iQ,q,u,d,g,bt,bu,bK,bV,bR,aT,oG,bM,bg]
  clear q u d g
  rintro e G⟨q,u,d,g,h,_⟩hG
  subst hG
  have ad:=ag3 n
  have c0:=Tc n
  have c1:=adk n
  have wt:=ad.at
  refine bp [(1,aa peer),(3,.c (.aJ [aT n] 0 0)),(5,.c (.aJ [br m] 0 0)),(6,au 0),(10,kP 1 1 0 0)] (fun G=>bX G 6 (iU n m)/\Cell 6 G 0 (ah 10 [jE])/\Cell 6 G 1 (.live 1 1 [[.ptr 6 0 0 0]])) ?_ ?_
  .simp only[br]at d
   have av:=c1.at'
   by_cases ae:dm n=true
   .have we:(bg n).e=0:=by simp[bg,ae]
    by_cases az:m.num=0
    .have e1:iU n m=bg n:=by unfold iU;rw[if_pos ae,if_pos az]
     have⟨H1,d1,w1,V⟩:=o8 wt we 187
     rw[e1]
     rw[az]at d
     simp[-aD,q,u,d,g,h,av,d1,az,br]
     exact⟨w1,c0.step V,c1.step V⟩
    .have e1:iU n m=(bg n).fail 187:=by unfold iU;rw[if_pos ae,if_neg az]
     have⟨H1,d1,w1,V⟩:=jM wt we (e:=187) (by decide)
     rw[e1]
     simp[-aD,q,u,d,g,h,av,d1,az,br]
     exact⟨w1,c0.step V,c1.step V⟩
   .have we:(bg n).e≠0:=by simp[bg,ae]
    have e1:iU n m=bg n:=by unfold iU;rw[if_neg ae]
    have⟨H1,d1,w1,V⟩:=kW wt we (decide (m.num=0)) 187
    rw[e1]
    simp[-aD,q,u,d,g,h,av,d1,br]
    exact⟨w1,c0.step V,c1.step V⟩
  clear q u d g h ad c0 c1 wt
  have⟨ix,aB⟩:=ak (dv (cP peer) 0 n.dr.ai.af)
  have⟨w1,a4⟩:=ak (iU n m)
  have B:=abp n m
  have bv:=Wn n m
  have bP:fK n peer m=if w1.e=0 then lr n peer m w1 else w1:=by unfold fK;rw[a4]
  rintro e G⟨q,u,d,g,h,_⟩⟨wt,c0,c1⟩
  rw[a4]at wt B bv
  refine eh (fun S=>∃ag,S.env.get 1=some (aa peer)/\S.env.get 3=some (.c (.aJ [aT n] 0 0))/\S.env.get 5=some (.c (.aJ [br m] 0 0))/\S.env.get 6=some (au 0)/\S.env.get 10=some (kP 1 1 0 0)/\S.env.get 11=some (au ag)/\S.bG=[]/\uV S.heap w1 ag ix) ?_ ?_
  .have ⟨sl,ss,kn,ks,ol,se,ad,W⟩:=wt.row
   have cp:=BN ad peer (by rw[B];have:=N.si;omega)
   rw[B,aB]at cp
   have av:=c1.at'
   have k0:=wt.cell (x:=[ah 1 [[I ix]]]) (i:=0) rfl
   rw[aiB]at k0
   have lb:=wt.lt
   simp[-aD,q,u,d,g,h,av,cp]
   exact⟨wt.snoc,c0.snoc lb,c1.snoc lb,k0⟩
  clear q u d g h wt c0 c1
  rintro⟨e,G,ds⟩⟨ag,q,u,d,g,h,Q,rfl,b⟩
  simp only at q u d g h Q b
  refine bp [(1,aa peer),(3,.c (.aJ [aT n] 0 0)),(5,.c (.aJ [br m] 0 0)),(6,au 0),(10,kP 1 1 0 0),(11,au ag),(12,.c (.bF 225 [.ptr ag 0 0 0,.ptr 1 1 0 0,.aJ [br m] 0 0]))] (fun G=>uV G w1 ag ix) ?_ ?_
  .simp[q,u,d,g,h,Q]
   exact b
  clear q u d g h Q b
  rintro e G⟨q,u,d,g,h,Q,y,_⟩b
  refine bp [(6,au 0),(10,kP 1 1 0 0)] (fun G=>uV G (fK n peer m) ag ix) ?_ ?_
  .have ⟨sl,ss,kn,ks,ol,se,ad,W⟩:=b.w.row
   have c1:=b.c1.at'
   have ld:=b.ld.at'
   rw[B]at W
   have E:=fun s=>acg ad c1 peer s m (by rw[B,aB];exact ld)
   rw[B]at E
   simp only[aT,aG]at u
   simp only[br]at d y E
   rw[bP]
   obtain⟨D,aU⟩:∃bQ:cj,bQ=⟨peer,m.aP⟩:=⟨_,rfl⟩
   have cn:=N.aq
   have bw:=MS n D (by show n.dr.ai.af.length<=_;have:=N.si;omega) (by have:=N.kn;omega)
   have bS:=IW (a:= .aj (n.asked.map aW)) (l:=n.asked) rfl (by omega)
   have bT:=RJ (n.asked++[D]) (by simp;omega)
   have R:∀K,aO tz ay 180 [.agg [I n.dr.ai.id,I n.dr.ai.phase,.aj (n.dr.ai.af.map ax),I n.dr.aQ,.aj (n.dr.need.map aC),I n.book.last,.aj (n.book.aA.map aN),.aj (n.known.map aW),.aj (n.told.map aC),.aj (n.asked.map aW)],.agg [I peer,I m.aP]] K=some (aR (ju n D),K):=fun K=>by
    simp only[aT,aG,aW,aU]at bw
    simp[bw,bK,bV,bR,bi,aU]
   have a5:∀K,aO tz ay 46 [bh (n.asked.map aW)] K=some (bd K.length 0 0 n.asked.length,K++[ah 2 (n.asked.map aW)]):=fun K=>by
    simp[bS,bR]
   have bW:[I peer,I m.aP]=aW D:=by rw[aU];rfl
   have ao:n.asked.map aW++[[I peer,I m.aP]]=(n.asked++[D]).map aW:=by rw[aid,bW];rfl
   have bx:∀(K:List Ob) (ap v:Nat),K[ap]?=some (.live v 2 ((n.asked++[D]).map aW))->aO tz ay 181 [bd ap v 0 (n.asked.length+1)] K=some (aR (kN [] (n.asked++[D])),K):=fun K ap v hK=>by
    have hv:bU K 6 (.sl ap v 0 (n.asked.length+1))=some (.aj ((n.asked++[D]).map aW),[2]):=gI.view (t:=[]) ⟨ap,v,by simp,by simpa using hK⟩ (bR _)
    have e1:([aw.c (.sl ap v 0 (n.asked.length+1))].any (eO tz))=false:=rfl
    rw[aD,e1]
    simp only[dy,df,hv]
    rw[if_neg (by simp),kU,(show tz.md 181=0 from rfl),bT,jP]
    simp
   have⟨x,L⟩:=ak ([Ob.live 0 2 [[I peer,I m.aP]],.live 1 2 [[I peer,I m.aP]],.live 1 2 ((n.asked++[D]).map aW)])
   have sz:n.asked.length+1<=maxLen/\(n.asked.length+1)*16<=140737488355328:=⟨by unfold maxLen;omega,by omega⟩
   have lg:=b.w.lt
   by_cases z:w1.e=0
   case neg=>
    rw[if_neg z]
    by_cases A:m.kind=1\/m.kind=2\/m.kind=3\/m.kind=4
    .rcases A with A|A|A|A
     all_goals
      rw[A]at d y
      simp[-aD,d,g,h,W,c1,z]
      exact b
    simp only[not_or]at A
    have⟨A,k2,k3,k4⟩:=A
    by_cases P:m.kind=5
    .rw[P]at d y E
     cases aE:ju n D with
     |false=>
      have⟨K,d1,w2,k⟩:=kW (b.w.snoc (x:=[ah 2 [[I peer,I m.aP]],.dead])) z false 187
      rw[aE]at R
      simp[-aD,-getElem?_pos,rV,q,u,d,g,h,aV c1,R,d1]
      exact(b.step b.w.snoc (bq.snoc lg)).step w2 k
     |true=>
      have⟨K,d1,w2,k⟩:=kW (b.w.snoc (x:=x)) z (kN [] (n.asked++[D])) 187
      rw[aE]at R
      rw[<-L]at d1
      have X:=bx (G++[Ob.live 0 2 [[I peer,I m.aP]],.live 1 2 [[I peer,I m.aP]],.live 1 2 ((n.asked++[D]).map aW)]) (G.length+2) 1 (by rw[jh];rfl)
      rw[<-ao]at d1 X
      simp[-aD,-getElem?_pos,rV,gO,iQ,q,u,d,h,aV c1,R,a5,sz,X]
      rw[d1]
      simp only[EM,Bv,ee,FY]
      simp[-aD,g,h]
      exact(b.step b.w.snoc (bq.snoc lg)).step w2 k
    by_cases T:m.kind=6
    .rw[T]at d y E
     have aF:=qu n.told peer (by have:=N.tl;unfold maxLen;omega)
     simp only[aG]at aF
     have aX:∀K,aO tz ay 203 [bh (n.told.map aC),aa peer] K=some (aR (decide (peer∈n.told)),K):=fun K=>by simp[aF,bi]
     have cs:=E 1
     cases F:iV n.dr.ai.af peer m.aP 1 with
     |true=>
      have⟨K,d1,w2,k⟩:=kW b.w z (decide (peer∈n.told)) 187
      rw[F]at cs
      simp[-aD,q,u,d,g,h,y,c1,cs,aX,d1]
      exact b.step w2 k
     |false=>
      have⟨K,d1,w2,k⟩:=kW b.w z false 187
      rw[F]at cs
      simp[-aD,d,g,h,y,c1,cs,d1]
      exact b.step w2 k
    by_cases Y:m.kind=7
    .rw[Y]at d y E
     have cs:=E 0
     cases F:iV n.dr.ai.af peer m.aP 0 with
     |true=>
      have⟨K,d1,w2,k⟩:=kW b.w z (decide (peer<n.dr.ai.id)) 187
      rw[F]at cs
      simp[-aD,q,u,d,g,h,y,c1,cs,d1]
      exact b.step w2 k
     |false=>
      have⟨K,d1,w2,k⟩:=kW b.w z false 187
      rw[F]at cs
      simp[-aD,d,g,h,y,c1,cs,d1]
      exact b.step w2 k
    by_cases k8:m.kind=8
    .rw[k8]at d y E
     have cs:=E 3
     have⟨K,d1,w2,k⟩:=kW b.w z (iV n.dr.ai.af peer m.aP 3) 187
     simp[-aD,d,g,h,y,c1,cs,d1]
     exact b.step w2 k
    have⟨K,d1,w2,k⟩:=kW b.w z false 187
    simp[-aD,d,g,h,c1,A,k2,k3,k4,P,T,Y,k8,d1]
    exact b.step w2 k
   rw[if_pos z]
   have ae:dm n=true:=vD (by rw[a4];exact z)
   have⟨a6,cq⟩:=bv
   have bz:fu w1.n:=by rw[B];exact N
   rw[z]at W
   by_cases A:m.kind=1\/m.kind=2\/m.kind=3\/m.kind=4
   .rcases A with A|A|A|A
    all_goals
     have O:lr n peer m w1=(match n.dr.ai.af.find? (cP peer)with
       |some x=>if x.aP=m.aP then w1.sC peer m else w1
       |none=>w1):=by unfold lr;rw[if_pos (by simp[A])]
     rw[O]
     cases Z:n.dr.ai.af.find? (cP peer)with
     |none=>
      have L:=qX (p:=cP peer) 0 Z
      rw[aB]at L
      subst L
      rw[A]at d y
      simp[-aD,d,g,h,Q,W,c1,ld]
      exact b
     |some x=>
      have⟨j,L,ab,bY⟩:=xI (p:=cP peer) 0 Z
      rw[aB,aiW]at L
      subst L
      obtain⟨t,ha,va,rfl,al⟩:=ad.hs
      rw[B]at al W
      have am:(n.dr.ai.af.map ax++t)[j]?=some (ax x):=by
       rw[abE (by simpa using ab),adf,abM ab,bY];rfl
      have aY:j<n.dr.ai.af.length+t.length:=by omega
      simp only[ax]at am
      by_cases aZ:x.aP=m.aP
      .have ⟨K,d1,w2,k⟩:=Y9 b.w bz peer m z
       have a7:aO tz ay 226 [au 6,aa peer,.agg (br m)] G=some (.aM [],K):=by rw[dz (f:=226) rfl];exact d1
       simp only[br]at a7
       rw[aZ]at am
       simp only[aZ,if_true]
       rw[A]at d y a7
       simp[-aD,-getElem?_pos,q,d,g,h,Q,W,c1,ld,al,am,ab,aY,a7]
       exact b.step w2 k
      .simp only[aZ,if_false]
       rw[A]at d y
       simp[-aD,-getElem?_pos,d,g,h,Q,W,c1,ld,al,am,ab,aY,aZ]
       exact b
   simp only[not_or]at A
   have⟨A,k2,k3,k4⟩:=A
   have aH:¬(m.kind=1\/m.kind=2\/m.kind=3\/m.kind=4):=by simp[A,k2,k3,k4]
   by_cases P:m.kind=5
   .have O:lr n peer m w1=(if(ju n ⟨peer,m.aP⟩&&kN [] (n.asked++[⟨peer,m.aP⟩]))=true then w1.put {w1.n with asked:=n.asked++[⟨peer,m.aP⟩]}else w1.fail 187):=by unfold lr;rw[if_neg aH,if_pos P]
    rw[O]
    rw[P]at d y E
    rw[<-aU]
    cases aE:ju n D with
    |false=>
     have⟨K,d1,w2,k⟩:=jM (b.w.snoc (x:=[ah 2 [[I peer,I m.aP]],.dead])) z (e:=187) (by decide)
     rw[aE]at R
     simp only[ak2,if_false,aes]
     simp[-aD,-getElem?_pos,rV,q,u,d,g,h,aV c1,R,d1]
     exact(b.step b.w.snoc (bq.snoc lg)).step w2 k
    |true=>
     rw[aE]at R
     have X:=bx (G++[Ob.live 0 2 [[I peer,I m.aP]],.live 1 2 [[I peer,I m.aP]],.live 1 2 ((n.asked++[D]).map aW)]) (G.length+2) 1 (by rw[jh];rfl)
     rw[<-ao]at X
     have a0:=b.step (b.w.snoc (x:=x)) (bq.snoc lg)
     have bA:=b.w.cell (x:=x) (i:=0) (o:=ah 2 [[I peer,I m.aP]]) (by rw[<-L];rfl)
     rw[aiB]at bA
     cases bC:kN [] (n.asked++[D])with
     |false=>
      have⟨K,d1,w2,k⟩:=jM a0.w z (e:=187) (by decide)
      rw[<-L, <-ao]at d1
      rw[bC]at X
      simp only[alD,if_false,aes]
      simp[-aD,-getElem?_pos,rV,gO,iQ,q,u,d,h,aV c1,R,a5,sz,X]
      rw[d1]
      simp only[EM,Bv,ee,FY]
      simp[-aD,g,h]
      exact a0.step w2 k
     |true=>
      have⟨K,d1,w2,k⟩:=o8 a0.w z 187
      have M:=a0.step w2 k
      have bD:=(bA.step k).at'
      have aI:=M.c1.at'
      rw[<-L, <-ao]at d1
      rw[bC]at X
      have⟨a8,a1,a9,bE,bb,bc,g2,J⟩:=w2.row
      rw[B]at J
      simp only[ald,if_true]
      simp[-aD,-getElem?_pos,rV,gO,iQ,q,u,d,h,aV c1,R,a5,sz,X]
      rw[d1]
      simp only[EM,Bv,ee,FY]
      have bH:=g2.ha
      have bZ:w1.n.asked=n.asked:=by rw[B]
      rw[bZ]at bH
      have ct:(w1.put {w1.n with asked:=n.asked++[D]}).n.dr=n.dr:=by show w1.n.dr=_;rw[B]
      have cu:w1=⟨n,w1.out,w1.seen,w1.e⟩:=by rw[<-B]
      have lk:=bf J
      rcases bH with⟨be,rfl⟩|⟨hq,vq,rfl,an⟩
      .simp at be
       have r:=g2.Q8 (G:=(K++[Ob.live 0 2 [[I peer,I m.aP]],Ob.live 0 2 [[I peer,I m.aP]]]).set 6 (Ob.live 0 13 [bM (w1.put {w1.n with asked:=n.asked++[D]}) a8 a1 a9 (.sl (K.length+1) 0 0 1) bb bc])) (n.asked++[D]) (ks':= .sl (K.length+1) 0 0 1) (ba (aV J)) (by simp) (fun m o h1 h2 h3=>by rw[aat (ait h2)];exact aV h1) (.inr ⟨K.length+1,0,by simp[be],by rw[aat (by omega),jh, <-ao];simp[be]⟩) (fun m hm=>by simp[Go.Nx.rf]at hm;exact .inr (by omega))
       have aK:=M.step r.1.at r.2
       simp only[bM,Wk.put,B,aG]at aK
       simp[-aD,g,h,aI,J,aV J,bD]
       simp only[Wk.put,B]
       exact aK
      .have a2:hq≠6:=fun e=>by subst e;rw[J]at an;cases an
       have ca:¬1=hq:=fun e=>by subst e;rw[aI]at an;cases an
       have bj:(n.asked.map aW).length=n.asked.length:=by simp
       rw[bj]at g2 J
       rw[aeU]at an
       have sb:∀bI,(K.set hq bI)[6]?=_:=fun bI=>(aat a2).trans J
       have r:=g2.Q8 (G:=((K++[Ob.live 0 2 [[I peer,I m.aP]]]).set hq (Ob.live (vq+1) 2 (n.asked.map aW++[[I peer,I m.aP]]))).set 6 (Ob.live 0 13 [bM (w1.put {w1.n with asked:=n.asked++[D]}) a8 a1 a9 (.sl hq (vq+1) 0 (n.asked.length+1)) bb bc])) (n.asked++[D]) (ks':= .sl hq (vq+1) 0 (n.asked.length+1)) (ba (by rw[aat a2];exact aV J)) (by simp) (fun m o h1 h2 h3=>by rw[aat (ait h2),aat (fun e=>h3 (by subst e;simp[Go.Nx.rf]))];exact aV h1) (.inr ⟨hq,vq+1,by simp,by rw[aat (ait a2),ba (aV an),ao];simp⟩) (fun m hm=>by simp[Go.Nx.rf]at hm|-;exact .inl hm)
       have aK:=M.step r.1.at r.2
       simp only[bM,Wk.put,B,aG]at aK
       simp[-aD,g,h,aI,J,aV J,bD,a2,ca,aV an,sz]
       simp only[Wk.put,B]
       exact aK
   by_cases T:m.kind=6
   .have O:lr n peer m w1=(if(iV n.dr.ai.af peer m.aP 1&&decide (peer∈n.told))=true then rN n peer w1 else w1.fail 187):=by unfold lr;rw[if_neg aH,if_neg P,if_pos T]
    rw[O]
    rw[T]at d y E
    have aF:=qu n.told peer (by have:=N.tl;unfold maxLen;omega)
    simp only[aG]at aF
    have aX:∀K,aO tz ay 203 [bh (n.told.map aC),aa peer] K=some (aR (decide (peer∈n.told)),K):=fun K=>by simp[aF,bi]
    have cs:=E 1
    cases F:iV n.dr.ai.af peer m.aP 1 with
    |true=>
     rw[F]at cs
     by_cases U:peer∈n.told
     .have ⟨x0,Z,_,_⟩:=RW F
      have bl:cJ n.dr.ai.af peer=true:=lM.2 ⟨x0,ajU Z,by have:=akS Z;simpa[cP]using this⟩
      have⟨j,L,ab,cb⟩:=Lx bl
      rw[aB]at L
      subst L
      have⟨x,bJ⟩:=ak n.dr.ai.af[j]
      have⟨K,d1,w2,k⟩:=o8 b.w z 187
      have M:=b.step w2 k
      have⟨a8,a1,a9,bE,bb,bc,g2,J⟩:=w2.row
      obtain⟨t,ha,va,rfl,al⟩:=g2.hs
      have bj:(w1.n.dr.ai.af.map ax).length=n.dr.ai.af.length:=by rw[B];simp
      rw[bj]at g2 J
      rw[B]at al J
      have am:(n.dr.ai.af.map ax++t)[j]?=some (ax x):=by
       rw[abE (by simpa using ab),adf,abM ab,bJ];rfl
      have aY:j<n.dr.ai.af.length+t.length:=by omega
      have ar:=g2.PB (by rw[B]) al j {x with state:=0}
      have⟨w3,a3⟩:=ak (w1.put (w1.n.eK (n.dr.ai.af.set j {x with state:=0})))
      rw[a3,aiC]at ar
      have⟨K3,bm⟩:=ak (K.set ha (.live va 8 ((n.dr.ai.af.map ax).set j (ax {x with state:=0})++t)))
      rw[bm]at ar
      have aL:=M.step ar.1.at ar.2
      have bL:=ar.1.hb
      have q4:=ar.1.xX [] (w3.put {w3.n with told:=gJ n.told [peer]}) (.sl ha va 0 n.dr.ai.af.length) a1 bE (.inl ⟨rfl,rfl⟩) (.inl ⟨rfl,rfl⟩) rfl (.inl ⟨rfl,rfl⟩) rfl rfl
      have bn:=aL.step q4.1 q4.2
      have⟨K5,d5,w5,f5⟩:=HU q4.1 6 peer (by decide) (by rw[<-a3];show w1.seen.length<=_;rw[a6];simp)
      have bN:=bn.step w5 f5
      have cc:(w3.put {w3.n with told:=gJ n.told [peer]}).ey 6 peer=rN n peer w1:=by
       unfold rN
       rw[cb,bJ, <-a3]
       have cd:w1=⟨n,w1.out,w1.seen,w1.e⟩:=by
        rw[<-B]
       rw[cd]
       rfl
      rw[cc]at bN
      have bO:=ab7 n.told peer (by have:=N.tl;omega)
      have ce:w3.n.told=n.told:=by rw[<-a3];show w1.n.told=_;rw[B]
      simp only[aG]at bO
      have cf:∀K,aO tz ay 227 [bh (n.told.map aC),aa peer] K=some (bh ((gJ n.told [peer]).map aC),K):=fun K=>by simp[bO,bi]
      simp only[bM,aeU,Wk.put,ce,aG]at bL d5 bn
      have bo:=(aD (C:=tz) (eb:=bB tz (ev tz)) (f:=126)).trans ((if_pos (.inl (by simp))).trans d5)
      have aI:=M.c1.at'
      have cg:=M.ld.at'
      have ch:=aL.c1.at'
      have ci:=bn.c1.at'
      simp only[ax]at am bm
      simp only[U,decide_true,ald,if_true]
      simp[-aD,-getElem?_pos,q,u,d,g,h,Q,y,c1,cs,aX,U,d1,aI,cg,J,al,am,ab,aY,bm,ch,bL,cf,ci,bo]
      exact bN
     .have ⟨K,d1,w2,k⟩:=jM b.w z (e:=187) (by decide)
      simp only[U,decide_false,alD,if_false,aes]
      simp[-aD,q,u,d,g,h,y,c1,cs,aX,d1,U]
      exact b.step w2 k
    |false=>
     have⟨K,d1,w2,k⟩:=jM b.w z (e:=187) (by decide)
     rw[F]at cs
     simp only[ak2,if_false,aes]
     simp[-aD,d,g,h,y,c1,cs,d1]
     exact b.step w2 k
   by_cases Y:m.kind=7
   .have O:lr n peer m w1=(if(iV n.dr.ai.af peer m.aP 0&&decide (peer<n.dr.ai.id))=true then w1.shut peer else w1.fail 187):=by unfold lr;rw[if_neg aH,if_neg P,if_neg T,if_pos Y]
    rw[O]
    rw[Y]at d y E
    have cs:=E 0
    cases F:iV n.dr.ai.af peer m.aP 0 with
    |true=>
     rw[F]at cs
     by_cases U:peer<n.dr.ai.id
     .have ⟨x,Z,_,_⟩:=RW F
      have bl:cJ n.dr.ai.af peer=true:=lM.2 ⟨x,ajU Z,by have:=akS Z;simpa[cP]using this⟩
      have⟨K,d1,w2,k⟩:=o8 b.w z 187
      have⟨K2,d2,w3,f3⟩:=Ss (peer:=peer) w2 ⟨by rw[B];exact bl,bz,by rw[B];exact hh.bk ae,by rw[a6];simp⟩
      have ck:aO tz ay 75 [au 6,aa peer] K=some (.aM [],K2):=by rw[dz (f:=75) rfl];exact d2
      have M:=b.step w2 k
      have bs:=M.c1.at'
      simp only[U,decide_true,ald,if_true]
      simp[-aD,q,u,d,g,h,y,c1,cs,d1,U,ck,bs]
      exact M.step w3 f3
     .have ⟨K,d1,w2,k⟩:=jM b.w z (e:=187) (by decide)
      simp only[U,decide_false,alD,if_false,aes]
      simp[-aD,q,u,d,g,h,y,c1,cs,d1,U]
      exact b.step w2 k
    |false=>
     have⟨K,d1,w2,k⟩:=jM b.w z (e:=187) (by decide)
     rw[F]at cs
     simp only[ak2,if_false,aes]
     simp[-aD,d,g,h,y,c1,cs,d1]
     exact b.step w2 k
   by_cases k8:m.kind=8
   .have O:lr n peer m w1=(if iV n.dr.ai.af peer m.aP 3=true then(w1.drop peer).ey 8 peer else w1.fail 187):=by unfold lr;rw[if_neg aH,if_neg P,if_neg T,if_neg Y,if_pos k8]
    rw[O]
    rw[k8]at d y E
    have cs:=E 3
    cases F:iV n.dr.ai.af peer m.aP 3 with
    |true=>
     rw[F]at cs
     have⟨K,d1,w2,k⟩:=o8 b.w z 187
     have⟨K2,d2,w3,f3⟩:=NG w2 (by rw[B];have:=N.si;omega) peer
     have⟨K3,d3,w4,f4⟩:=HU w3 8 peer (by decide) (by show w1.seen.length<=_;rw[a6];simp)
     have cl:aO tz ay 228 [au 6,aa peer] K=some (.aM [],K2):=by rw[dz (f:=228) rfl];exact d2
     have bo:aO tz ay 126 [au 6,aa 8,aa peer] K2=some (.aM [],K3):=by rw[dz (f:=126) rfl];exact d3
     have M:=b.step w2 k
     have aL:=M.step w3 f3
     have bs:=M.c1.at'
     have cm:=aL.c1.at'
     simp only[if_true]
     simp[-aD,q,d,g,h,y,c1,cs,d1,cl,bo,bs,cm]
     exact aL.step w4 f4
    |false=>
     have⟨K,d1,w2,k⟩:=jM b.w z (e:=187) (by decide)
     rw[F]at cs
     simp only[if_false,aes]
     simp[-aD,d,g,h,y,c1,cs,d1]
     exact b.step w2 k
   have O:lr n peer m w1=w1.fail 187:=by unfold lr;rw[if_neg aH,if_neg P,if_neg T,if_neg Y,if_neg k8]
   have⟨K,d1,w2,k⟩:=jM b.w z (e:=187) (by decide)
   rw[O]
   simp[-aD,d,g,h,c1,A,k2,k3,k4,P,T,Y,k8,d1]
   exact b.step w2 k
  clear q u d g h Q y b
  rintro e K⟨g,h,_⟩b
  have⟨b0,b1,b2,b3,b4,b5,b6,b7,b8,b9,lo,le,er,H',d1,d2,d3⟩:=RP b.w hs b.c0
  have c1:=b.c1.at'
  simp only[jE]at d2
  simp[-aD,-dI,g,h,c1,d1,d2,ba d2]
  exact d3)
 exact⟨o,Pd h1 h2,h3⟩
def PK{id:Int}{p:aI->Bool}{f:aI->aI}(c:∀x,p x=true->(f x).peer=x.peer/\∀a,cS id a x=true->cS id a (f x)=true):∀ {l:List aI} {a:Int},dU id a l=true->dU id a (setAt p f l)=true
 |[],_,_=>rfl
 |x::r,a,b=>by
  simp only[dU,abR]at b
  unfold setAt
  split
  .rename_i hp
   have⟨d,e⟩:=c x hp
   simp only[dU,abR]
   rw[d]
   exact⟨e _ b.1,b.2⟩
  .simp only[dU,abR]
   exact⟨b.1,PK c b.2⟩
def R3{p:aI->Bool}{f:aI->aI}:∀ {l:List aI} {y:aI},y∈setAt p f l->y∈l\/∃x∈l,p x=true/\y=f x
 |[],y,h=>by simp[setAt]at h
 |x::r,y,h=>by
  unfold setAt at h
  split at h
  .rename_i hp
   rcases aeM.1 h with h|h
   .exact .inr ⟨x,by simp,hp,h⟩
   .exact .inl (by simp[h])
  .rcases aeM.1 h with h|h
   .exact .inl (by simp[h])
   .rcases R3 h with h|⟨z,a,b,c⟩
    .exact .inl (by simp[h])
    .exact .inr ⟨z,by simp[a],b,c⟩
def Io{p:aI->Bool}{f:aI->aI}:∀ {l:List aI} {x:aI},x∈l->x∈setAt p f l\/(p x=true/\f x∈setAt p f l)
 |[],_,h=>by simp at h
 |z::r,x,h=>by
  unfold setAt
  split
  .rename_i hp
   rcases aeM.1 h with h|h
   .subst h;exact .inr ⟨hp,by simp⟩
   .exact .inl (by simp[h])
  .rcases aeM.1 h with h|h
   .subst h;exact .inl (by simp)
   .rcases Io (p:=p) (f:=f) h with h|⟨a,b⟩
    .exact .inl (by simp[h])
    .exact .inr ⟨a,by simp[b]⟩
def Qn{p:aI->Bool}{f:aI->aI}:∀l:List aI,(setAt p f l).length=l.length
 |[]=>rfl
 |x::r=>by
  unfold setAt
  split
  .simp
  .simp[Qn r]
def zt{p:aI->Bool}{f:aI->aI}(a:∀x,p x=true->(f x).peer=x.peer)(q:Int):∀l:List aI,cJ (setAt p f l) q=cJ l q
 |[]=>rfl
 |x::r=>by
  unfold setAt
  split
  .rename_i hp
   simp only[cJ,alS,a x hp]
  .have:=zt a q r
   simp only[cJ,alS]at this|-
   rw[this]
def Pv{p:aI->Bool}{f:aI->aI}{l:List aI}(b:∀x,p x=true->(f x).peer=x.peer)(h:∀x∈l,x.peer<64):∀x∈setAt p f l,x.peer<64:=fun y c=>by
 rcases R3 c with a|⟨x,a,d,e⟩
 .exact h y a
 .rw[e,b x d];exact h x a
def Jc{d:Dr}{p:aI->Bool}{f:aI->aI}(h:dC d=true)(b:∀x,p x=true->(f x).peer=x.peer/\∀c,cS d.ai.id c x=true->cS d.ai.id c (f x)=true):dC ⟨⟨d.ai.id,d.ai.phase,setAt p f d.ai.af⟩,d.aQ,d.need⟩=true:=by have a:=ic.1 h;have hn:=jn.1 a.1;refine ic.2 ⟨jn.2 ⟨hn.1,hn.2.1,hn.2.2.1,by simpa[Qn]using hn.2.2.2.1,PK b hn.2.2.2.2⟩,a.2.1,a.2.2.1,a.2.2.2.1,a.2.2.2.2.1,fun q e=>?_⟩;rw[zt fun x g=>(b x g).1];exact a.2.2.2.2.2 q e
def Sa{n:Nd}{p:aI->Bool}{f:aI->aI}(h:dd n)(c:∀x,p x=true->(f x).peer=x.peer/\∀d,cS n.dr.ai.id d x=true->cS n.dr.ai.id d (f x)=true)(i:∀x,p x=true->x.state=0->(f x).state=0)(j:List Int):
  dd ⟨⟨⟨n.dr.ai.id,n.dr.ai.phase,setAt p f n.dr.ai.af⟩,n.dr.aQ,n.dr.need⟩,n.book,n.known,j,n.asked⟩:=by
 have b:=fun x l=>(c x l).1
 refine⟨Jc h.dr c,h.bk,h.id,Pv b h.pe,fun k m=>?_,h.ad,fun s o r q t=>?_,h.th⟩
 .have:=h.ask k m
  refine⟨this.1,this.2.1,?_,this.2.2.2⟩
  show cJ (setAt p f n.dr.ai.af) k.peer=false
  rw[zt b]
  exact this.2.2.1
 .have ⟨x,u,e,g⟩:=h.wt s o r q t
  rcases Io (p:=p) (f:=f) u with a|⟨a,v⟩
  .exact ⟨x,a,e,g⟩
  .exact ⟨f x,v,by rw[b x a];exact e,i x a g⟩
def RY{d:Dr}{c:Int}{m:cY}(h:(gS d c m).2=0):∃f:aI->aI,(gS d c m).1=⟨⟨d.ai.id,d.ai.phase,setAt (jN c m.aP) f d.ai.af⟩,d.aQ,d.need⟩/\(∀x,(f x).peer=x.peer/\∀b,cS d.ai.id b x=true->cS d.ai.id b (f x)=true)/\∀x,(f x).state=x.state:=by
 have i:∀ {e:cQ×Int},e=jT d.ai c m->e.2=0->∃f:aI->aI,e.1=⟨d.ai.id,d.ai.phase,setAt (jN c m.aP) f d.ai.af⟩/\(∀x,(f x).peer=x.peer/\∀b,cS d.ai.id b x=true->cS d.ai.id b (f x)=true)/\∀x,(f x).state=x.state:=by
  intro e a j;unfold jT at a;repeat' split at a
  all_goals subst a
  all_goals first
   |(exact absurd j (by decide))
   |(refine⟨_,rfl,fun x=>⟨rfl,fun b g=>?_⟩,fun x=>rfl⟩
     simp only[cS,abR,afa,decide_eq_true_eq,decide_eq_false_iff_not,aki,ake]at g|-
     simp_all)
 have⟨e,a⟩:=ak (gS d c m);rw[a]at h|-;unfold gS at a;repeat' split at a
 all_goals subst a
 all_goals first
  |(exact absurd h (by decide))
  |(have⟨f,k,l⟩:=i rfl ‹_›
    exact⟨f,by rw[k],l⟩)
  |(refine⟨_,rfl,fun x=>⟨rfl,fun b g=>?_⟩,fun x=>rfl⟩
    simp only[cS,abR,afa,decide_eq_true_eq,decide_eq_false_iff_not,aki,ake]at g|-
    simp_all)
  |(rename_i hc;exact absurd h hc)
def UB{w:Wk}{b:Int}{m:cY}(h:dd w.n)(j:gN w.n.known)(c:iu w)(d:w.e=0)(g:(w.sC b m).e=0):eY (w.sC b m):=by
 unfold Wk.sC at g|-;by_cases i:(gS w.n.dr b m).2=0
 .have hn:w.need (decide ((gS w.n.dr b m).2=0)) 187=w:=by unfold Wk.need;simp[i]
  rw[hn,if_pos d];have⟨f,l,p,q⟩:=RY i;have r:iu (w.put {w.n with dr:=(gS w.n.dr b m).1}):=⟨c.o,c.s,c.t,c.k,c.a⟩;refine r.jS ?_ j d;show dd {w.n with dr:=(gS w.n.dr b m).1};rw[l];exact Sa h (fun x _=>p x) (fun x _ u=>by rw[q];exact u) w.n.told
 .have hn:w.need (decide ((gS w.n.dr b m).2=0)) 187=⟨w.n,w.out,w.seen,187⟩:=by unfold Wk.need;simp[i,d]
  rw[hn]at g;simp at g
def Yi{w:Wk}{b:Int}(h:dd w.n)(g:gN w.n.known)(c:iu w)(d:w.seen.length<=90)(i:w.e=0):eY (rN w.n b w):=by
 have u:(gJ w.n.told [b]).length<=w.n.told.length:=by unfold gJ;exact ai5 (aiq _ _) (Ll _)
 have j:iu (rN w.n b w):=⟨c.o,by simp[rN,Wk.ey,Wk.put];omega,by have:=c.t;show(gJ w.n.told [b]).length<=_;omega,c.k,c.a⟩;refine j.jS ?_ g i;refine Sa (p:=cP b) (f:=fun x=>{x with state:=0}) h (fun x _=>⟨rfl,fun v d=>?_⟩) (fun x _ y=>rfl) _;simp only[cS,abR,afa,decide_eq_true_eq,decide_eq_false_iff_not,aki,ake]at d|-;obtain⟨⟨⟨⟨⟨⟨l,m⟩,q⟩,r⟩,z⟩,A⟩,s⟩:=d;exact⟨⟨⟨⟨⟨⟨l,m⟩,q⟩,r⟩,by decide⟩,by decide⟩,s⟩
def aeP(w:Wk)(b:cd):w.dg.put {w.dg.n with book:=b}=(w.put {w.n with book:=b}).dg:=by by_cases a:(kH w.n.dr).2=0<;>simp[Wk.dg,Wk.put,a]
def QV{w:Wk}{b:Int}(h:dd w.n)(v:gN w.n.known)(u:iu w)(T:w.e=0):eY (w.shut b):=by
 have U:∀x:aI,cP b x=true->x.peer=b:=fun x V=>by simpa[cP]using V
 have⟨n1,d⟩:=ak (w.n.eK (setAt (cP b) (fun x=>{x with state:=2}) w.n.af));have W:n1.book=w.n.book:=by rw[<-d];rfl
 have y:n1.known=w.n.known:=by rw[<-d];rfl
 have F:n1.told=w.n.told:=by rw[<-d];rfl
 have G:n1.asked=w.n.asked:=by rw[<-d];rfl
 have hth:n1.dr.aQ=w.n.dr.aQ:=by rw[<-d];rfl
 have X:n1.dr.need=w.n.dr.need:=by rw[<-d];rfl
 have H:iS w.n.book b=(⟨w.n.book.last,w.n.book.aA.filter fun s=>!bZ b s⟩,(w.n.book.aA.filter (bZ b)).map (·.id),0):=by unfold iS;rw[if_neg (by rw[h.bk];decide)]
 have⟨c,A⟩:=ak ((⟨w.n.book.last,w.n.book.aA.filter fun s=>!bZ b s⟩:cd):cd);have hl:w.n.book.aA.length<=100:=by have:=h.bk;simp only[cN,abR,afa,decide_eq_false_iff_not]at this;omega
 have Y:((w.n.book.aA.filter (bZ b)).map (·.id)).length<=100:=by have:=aiq (bZ b) w.n.book.aA;simp only[aio];omega
 have⟨g,B⟩:=ak ((w.n.book.aA.filter (bZ b)).map (·.id):List Int);rw[A,B]at H;rw[B]at Y
 have I:oX {n1 with book:=c}:=by
  rw[<-d, <-A];refine⟨Jc h.dr (fun x _=>⟨rfl,fun al J=>?_⟩),Tx h.bk _,h.id,Pv (fun _ _=>rfl) h.pe,fun k v=>?_,h.ad,fun s Z K q L=>?_⟩
  .simp only[cS,abR,afa,decide_eq_true_eq,decide_eq_false_iff_not,aki,ake]at J|-;obtain⟨⟨⟨⟨⟨⟨a1,a2⟩,a3⟩,a4⟩,a5⟩,a6⟩,a7⟩:=J;exact⟨⟨⟨⟨⟨⟨a1,a2⟩,a3⟩,a4⟩,by decide⟩,by decide⟩,a7⟩
  .have:=h.ask k v;refine⟨this.1,this.2.1,?_,this.2.2.2⟩;show cJ (setAt (cP b) _ w.n.dr.ai.af) k.peer=false;rw[zt (f:=fun x=>{x with state:=2}) (fun _ _=>rfl)];exact this.2.2.1
  .have M:s∈w.n.book.aA/\bZ b s=false:=by simpa using ajH.1 Z
   have aa:¬q=b:=fun ab=>by have:=M.2;subst ab;simp[bZ,K]at this;exact this L
   have⟨x,e,N,h3⟩:=h.wt s M.1 K q L;rcases Io (p:=cP b) (f:=fun x=>{x with state:=2}) e with C|⟨C,h5⟩
   .exact ⟨x,C,N,h3⟩
   .exact absurd (N.symm.trans (U x C)) aa
 have⟨w1,m⟩:=ak ((w.put n1).ey 7 b);have ae:w1.n.book=w.n.book:=by rw[<-m];exact W
 have am:=u.o;have an:=u.s;have ao:=u.t;have ap:=u.k;have aq:=u.a;have j:w1.n=n1:=by rw[<-m];rfl
 have O:w1.e=0:=by rw[<-m];exact T
 have P:w1.out=w.out:=by rw[<-m];rfl
 have ar:w1.seen.length<=101:=by rw[<-m];simp[Wk.ey,Wk.put];omega
 have Q:(w.n.dr.aQ=1->∃s r,c.aA=s::r/\s.state=0/\s.need=w.n.dr.need)->eY ((w1.put {w1.n with book:=c}).mT 5 g):=by intro ht;rw[j];refine Je (I.i fun e=>?_) (by show gN n1.known;rw[y];exact v) O (by show w1.out.length<=_;rw[P];omega) (by show(w1.seen++g.map _).length<=_;simp;omega) (by show n1.told.length<=_;rw[F];omega) (by show n1.known.length<=_;rw[y];omega) (by show n1.asked.length<=_;rw[G];omega);have R:n1.dr.aQ=1:=e;rw[hth]at R;have⟨s,r,l,D,E⟩:=ht R;exact⟨s,r,l,D,by rw[E];exact X.symm⟩
 have hb:eY ((w1.dg.put {w1.dg.n with book:=c}).mT 5 g):=by
  rw[aeP];have⟨q,_,q2,q3,q4,q5,S,q7,_⟩:=ze (w:=w1.put {w1.n with book:=c}) (by show oX {w1.n with book:=c};rw[j];exact I);refine Je q (by show gN (w1.put {w1.n with book:=c}).dg.n.known;rw[S];show gN w1.n.known;rw[j,y];exact v) (by show(w1.put {w1.n with book:=c}).dg.e=0;rw[q2];exact O) ?_ ?_ ?_ ?_ ?_
  .show (w1.put {w1.n with book:=c}).dg.out.length<=_;rw[q3];show w1.out.length<=_;rw[P];omega
  .show ((w1.put {w1.n with book:=c}).dg.seen++g.map _).length<=_;rw[q4];show(w1.seen++g.map _).length<=_;simp;omega
  .show (w1.put {w1.n with book:=c}).dg.n.told.length<=_;rw[q5];show w1.n.told.length<=_;rw[j,F];omega
  .show (w1.put {w1.n with book:=c}).dg.n.known.length<=_;rw[S];show w1.n.known.length<=_;rw[j,y];omega
  .show (w1.put {w1.n with book:=c}).dg.n.asked.length<=_;rw[q7];show w1.n.asked.length<=_;rw[j,G];omega
 have ag:w.shut b=(fun w2:Wk=>(w2.put {w2.n with book:=c}).mT 5 g) (match w.n.book.aA with
  |[]=>w1
  |s::_=>if n1.dr.aQ=1/\s.id∈g then w1.dg else w1):=by
  unfold Wk.shut
  rw[d,m]
  dsimp only
  rw[ae,H,j]
  cases w.n.book.aA<;>rfl
 rw[ag];cases z:w.n.book.aA with
 |nil=>refine Q fun e=>?_;have⟨s,r,l,_⟩:=h.th e;rw[z]at l;cases l
 |cons s r=>
  simp only;split
  .exact hb
  .rename_i hc;refine Q fun e=>?_;have⟨s',r',l,D,E⟩:=h.th e;rw[z]at l;cases l
   have ah:bZ b s=false:=by
    cases aj:bZ b s with
    |false=>rfl
    |true=>exact absurd ⟨by rw[hth];exact e,by rw[<-B,z];exact aiK.2 ⟨s,ajH.2 ⟨by simp,aj⟩,rfl⟩⟩ hc
   refine⟨s,r.filter fun s=>!bZ b s,?_,D,E⟩;rw[<-A,z,akN,if_pos (by rw[ah];rfl)]
def Oq{a:Int}:∀ {l:List Int},(l.Pairwise fun x y=>x≠y)->l.length<=(l.filter fun x=>!decide (x=a)).length+1
 |[],_=>by simp
 |x::r,h=>by
  have hp:=ahg.1 h
  rw[akN]
  by_cases b:x=a
  .subst b
   have:r.filter (fun y=>!decide (y=x))=r:=ajq.2 fun y c=>by
    have:=hp.1 y c
    simp;exact fun e=>this e.symm
   simp[this]
  .have:=Oq (a:=a) hp.2
   simp[b]at this|-
   omega
def Jz:∀(n:Nat) {l:List Int},(l.Pairwise fun x y=>x≠y)->(∀x∈l,0<=x/\x<n)->l.length<=n
 |0,l,_,c=>by
  cases l with
  |nil=>simp
  |cons x r=>have:=c x (by simp);omega
 |n+1,l,h,c=>by
  have e:=Oq (a:=(n:Int)) h
  have f:=Jz n (h.filter fun x=>!decide (x=(n:Int))) (fun x b=>by
   have b:=ajH.1 b
   have g:=c x b.1
   have d:=b.2
   simp at d
   omega)
  omega
def Jb{l:List cj}(h:l.Pairwise fun x y=>x.peer≠y.peer)(a:∀x∈l,0<=x.peer/\x.peer<64):l.length<=64:=by
 have:=Jz 64 (l:=l.map (·.peer)) (al2.2 h) (fun x b=>by obtain⟨k,c,rfl⟩:=aiK.1 b;have:=a k c;omega)
 simpa using this
def L8:∀ {l:List Int},ek l=true->l.Pairwise fun x y=>x≠y
 |[],_=>akr
 |x::r,h=>by
  refine ahg.2 ⟨fun y c=>?_,L8 (by simp only[ek,abR]at h;exact h.2)⟩
  have d:∀(l:List Int) (x:Int),((match l with|[]=>true|y::_=>decide (x<y))=true)->ek l=true->∀p∈l,x<p:=by
   intro l
   induction l with
   |nil=>intro x _ _ p hp;simp at hp
   |cons y t e=>
    intro x b a p hp
    simp only[decide_eq_true_eq]at b
    simp only[ek,abR]at a
    rcases aeM.1 hp with rfl|hp
    .exact b
    .have:=e y a.1 a.2 p hp;omega
  simp only[ek,abR]at h
  have:=d r x h.1 h.2 y c
  omega
structure Pz(n:Nd):Prop where
 i:dd n
 k:gN n.known
 ko:mL (-1) n.known=true
 kl:n.known.length<=64
 tl:n.told.length<=64
 al:n.asked.length<=64
 lv:∀p∈n.dr.need,p∉qV n
def Lv{a b:List Int}(h:(jZ a b).isEmpty=true):∀p∈a,p∉b:=by
 intro p hp c;unfold jZ at h;rw[akM]at h;have:p∈([]:List Int):=by rw[<-h];simp[vA,hp,c]
 simp at this
def rm{n:Nd}(h:dm n=true):Pz n:=by
 have⟨a,f,g⟩:=JE h;have i:=ic.1 a.dr;have j:=jn.1 i.1;simp only[dm,pF,sj,abR,afa,aja,decide_eq_true_eq]at h;obtain⟨⟨⟨o,q⟩,⟨t,u⟩,⟨⟨⟨hid,k⟩,v⟩,l⟩,m⟩,hth⟩:=h;have c:=yl k;refine⟨a,f,g,Jb (c.1.imp fun h=>by omega) (fun x b=>by have:=c.2 x b;omega),?_,Jb a.ad (fun x b=>by have:=a.ask x b;have:=a.id;omega),?_⟩
 .refine Jz 64 (L8 l) fun p hp=>?_;have d:=KH.1 m p hp;simp only[u9,aiK,ajH]at d;obtain⟨x,⟨b,_⟩,rfl⟩:=d;have w:=(zR j.2.2.2.2).2 x b;have y:=a.pe x b;omega
 .unfold sU at hth;cases e:n.book.aA with
  |nil=>rw[e]at hth;simp only[abR]at hth;exact Lv hth.2
  |cons s r=>rw[e]at hth;simp only[abR]at hth;exact Lv hth.1.2
def ZZ{n:Nd}(h:dm n=true):fu n:=by have a:=rm h;exact⟨by have:=a.i.af.1;omega,by have:=a.i.need;omega,yp a.i.bk,by have:=a.kl;omega,by have:=a.tl;omega,by have:=a.al;omega⟩
def Rj{n:Nd}(h:Pz n):iu (bg n):=⟨by simp[bg],by simp[bg],by have:=h.tl;show n.told.length<=_;omega,by have:=h.kl;show n.known.length<=_;omega,by have:=h.al;show n.asked.length<=_;omega⟩
def Rk{n:Nd}(h:fu n):KA n:=by refine⟨h,fun h=>(rm h).i.af.2,fun a=>⟨(rm a).k.s,(rm a).k.b,h.kn⟩,fun h=>(rm h).i.bk,fun h=>?_,fun h=>AB (rm h).ko⟩;exact(jn.1 (ic.1 (rm h).i.dr).1).1
def Wc{w:Wk}{b c:Int}(h:dd w.n)(a:gN w.n.known)(d:iu w)(m:w.n.asked.length<=90)(g:mL (-1) w.n.known=true)(i:w.e=0)(f:ju w.n ⟨b,c⟩=true)(j:kN [] (w.n.asked++[⟨b,c⟩])=true):eY (w.put {w.n with asked:=w.n.asked++[⟨b,c⟩]}):=by
 have l:iu (w.put {w.n with asked:=w.n.asked++[⟨b,c⟩]}):=⟨d.o,d.s,d.t,d.k,by show(w.n.asked++[_]).length<=_;simp;omega⟩;refine l.jS ⟨h.dr,h.bk,h.id,h.pe,fun k a=>?_,(Iz j).1,h.wt,h.th⟩ a i;rcases ain.1 a with a|a
 .exact h.ask k a
 .simp at a;subst a;simp only[ju,abR,afa,decide_eq_false_iff_not,decide_eq_true_eq]at f;have p:=AB g b;exact⟨by show 0<=b;omega,f.1.1.2,f.1.1.1.1,by show 0<=c;omega,f.2⟩
def Pt{id:Int}(p:aI->Bool):∀ {l:List aI} {a:Int},dU id a l=true->dU id a (l.filter p)=true
 |[],_,_=>rfl
 |x::r,a,h=>by
  simp only[dU,abR]at h
  have b:=Pt p h.2
  rw[akN]
  split
  .simp only[dU,abR]
   exact⟨h.1,b⟩
  .have c:=h.1
   simp only[cS,abR,decide_eq_true_eq]at c
   exact L3 b (by omega)
def acp{l:List aI}(h:l.Pairwise fun x y=>x.peer<y.peer){x y:aI}(a:x∈l)(b:y∈l)(d:x.peer=y.peer):x=y:=by
 induction l with
 |nil=>simp at a
 |cons z r c=>
  have hp:=ahg.1 h;rcases aeM.1 a with a|a<;>rcases aeM.1 b with b|b
  .rw[a,b]
  .have:=hp.1 y b;subst a;omega
  .have:=hp.1 x a;subst b;omega
  .exact c hp.2 a b
def VK{w:Wk}{b:Int}{x:aI}(h:dd w.n)(q:gN w.n.known)(j:iu w)(r:w.seen.length<=90)(C:w.e=0)(D:∀p∈w.n.dr.need,p∉qV w.n)(u:w.n.dr.ai.af.find? (cP b)=some x)(v:x.state=3):eY ((w.drop b).ey 8 b):=by
 have f:=ic.1 h.dr;have g:=jn.1 f.1;have z:=ajU u;have A:x.peer=b:=by simpa[cP]using akS u
 have E:=h.af.2.s;have F:iu ((w.drop b).ey 8 b):=⟨j.o,by simp[Wk.drop,Wk.ey,Wk.put];omega,j.t,j.k,j.a⟩;have l:∀y:aI,y∈n9 b w.n.dr.ai.af↔y∈w.n.dr.ai.af/\ ¬y.peer=b:=fun y=>by simp[n9]
 have B:∀p,cJ (n9 b w.n.dr.ai.af) p=true↔cJ w.n.dr.ai.af p=true/\ ¬p=b:=fun p=>by
  rw[lM,lM];constructor
  .rintro⟨y,c,d⟩;have c:=(l y).1 c;exact⟨⟨y,c.1,d⟩,by rw[<-d];exact c.2⟩
  .rintro⟨⟨y,c,d⟩,i⟩;exact⟨y,(l y).2 ⟨c,by rw[d];exact i⟩,d⟩
 have G:b∉w.n.dr.need:=fun hp=>D b hp (by simp only[qV,aiK,ajH,decide_eq_true_eq];exact⟨x,⟨z,v⟩,A⟩);refine F.jS ⟨ic.2 ⟨jn.2 ⟨g.1,g.2.1,g.2.2.1,?_,Pt _ g.2.2.2.2⟩,f.2.1,f.2.2.1,f.2.2.2.1,f.2.2.2.2.1,fun p hp=>(B p).2 ⟨f.2.2.2.2.2 p hp,fun e=>G (e▸hp)⟩⟩,h.bk,h.id,fun y H=>h.pe y ((l y).1 H).1,fun k q=>?_,h.ad,fun s r I p hp=>?_,h.th⟩ q C
 .have:=aiq (fun x:aI=>!decide (x.peer=b)) w.n.dr.ai.af;have:=g.2.2.2.1;show(n9 b w.n.dr.ai.af).length<64;unfold n9;omega
 .have m:=h.ask k q;refine⟨m.1,m.2.1,?_,m.2.2.2⟩;cases hc:cJ (n9 b w.n.dr.ai.af) k.peer with
  |false=>exact hc
  |true=>have:=((B k.peer).1 hc).1;have J:cJ w.n.dr.ai.af k.peer=false:=m.2.2.1;rw[J]at this;cases this
 .have ⟨y,c,d,i⟩:=h.wt s r I p hp;refine⟨y,(l y).2 ⟨c,fun e=>?_⟩,d,i⟩;have:=acp E c z (by rw[e,A]);subst this;rw[v]at i;cases i
def Sd{n:Nd}{a:Act}(h:dm n=true)(b:(cO n a).e=0):eY (cO n a):=by
 have c:=rm h;have d:=Rj c;have g:(bg n).seen.length<=90:=by simp[bg]
 have f:(bg n).e=0:=by simp[bg,h]
 unfold cO at b|-;simp only[h,if_true]at b|-;by_cases j:a.kind=0
 .rw[if_pos j]at b|-;exact abA c.i c.k d g f b
 rw[if_neg j]at b|-;by_cases l:a.kind=1
 .rw[if_pos l]at b|-;exact Xi c.i c.k d g f b
 rw[if_neg l]at b|-;by_cases m:a.kind=2
 .rw[if_pos m]at b|-;exact YH c.i c.k d g f b
 rw[if_neg m]at b|-;by_cases o:a.kind=3
 .rw[if_pos o]at b|-;exact ae2 c.i c.k d g f b
 rw[if_neg o]at b|-;by_cases p:a.kind=4
 .rw[if_pos p]at b|-;by_cases c1:(a.peer>n.dr.ai.id&&a.peer<64)=false
  .rw[if_pos c1]at b;exact absurd b (by simp[Wk.fail])
  rw[if_neg c1]at b|-;by_cases c2:cJ n.dr.ai.af a.peer=true
  .rw[if_pos c2]at b;exact absurd b (by simp[Wk.fail])
  rw[if_neg c2]at b|-;by_cases c3:gR n.known a.peer<65535
  .rw[if_pos c3]at b|-;simp at c1;exact ag6 (w:=bg n) c.i c.k d (by have:=c.kl;show n.known.length<=_;omega) f c1.1 c1.2 (by show cJ n.dr.ai.af a.peer=false;simpa using c2) c3 (AB c.ko _)
  .rw[if_neg c3]at b;exact absurd b (by simp[Wk.fail])
 rw[if_neg p]at b|-;by_cases q:a.kind=5
 .rw[if_pos q]at b|-;by_cases c1:(a.peer>n.dr.ai.id&&a.peer<64)=false
  .rw[if_pos c1]at b;exact absurd b (by simp[Wk.fail])
  rw[if_neg c1]at b|-;cases r:n.dr.ai.af.find? (cP a.peer)with
  |none=>rw[r]at b;exact absurd b (by simp[Wk.fail])
  |some x=>
   rw[r]at b;simp only at b|-;by_cases c2:nR x=true
   .rw[if_pos c2]at b|-;exact QV c.i c.k d f
   .rw[if_neg c2]at b;exact absurd b (by simp[Wk.fail])
 rw[if_neg q]at b;exact absurd b (by simp[Wk.fail])
def agC{l:List aI}{p a s:Int}(h:iV l p a s=true):∃x,l.find? (cP p)=some x/\x.aP=a/\x.state=s:=by
 unfold iV at h;cases b:l.find? (cP p)with
 |none=>rw[b]at h;cases h
 |some x=>rw[b]at h;simp at h;exact⟨x,rfl,h⟩
def xv(w:Wk):¬(w.fail 187).e=0:=by simp[Wk.fail]
def PI{n:Nd}{d:Int}{m:cY}(h:dm n=true)(a:(fK n d m).e=0):eY (fK n d m):=by
 have b:=rm h;have g:=Rj b;have j:(bg n).seen.length<=90:=by simp[bg]
 have f:(bg n).e=0:=by simp[bg,h]
 have l:iU n m=if m.num=0 then bg n else(bg n).fail 187:=by unfold iU;rw[if_pos h]
 unfold fK at a|-;by_cases hn:m.num=0
 case neg=>rw[l,if_neg hn]at a;simp[Wk.fail]at a
 rw[l,if_pos hn,if_pos f]at a|-;unfold lr at a|-;by_cases o:m.kind=1\/m.kind=2\/m.kind=3\/m.kind=4
 .rw[if_pos o]at a|-;have p:eY (bg n):=g.jS b.i b.k f;cases u:n.dr.ai.af.find? (cP d)with
  |none=>exact p
  |some x=>
   rw[u]at a;simp only at a|-;by_cases c2:x.aP=m.aP
   .rw[if_pos c2]at a|-;exact UB b.i b.k g f a
   .rw[if_neg c2];exact p
 rw[if_neg o]at a|-;by_cases q:m.kind=5
 .rw[if_pos q]at a|-;by_cases c:(ju n ⟨d,m.aP⟩&&kN [] (n.asked++[⟨d,m.aP⟩]))=true
  .rw[if_pos c];simp only[abR]at c;exact Wc (w:=bg n) b.i b.k g (by have:=b.al;show n.asked.length<=_;omega) b.ko f c.1 c.2
  .rw[if_neg c]at a;exact absurd a (xv _)
 rw[if_neg q]at a|-;by_cases r:m.kind=6
 .rw[if_pos r]at a|-;by_cases c:(iV n.dr.ai.af d m.aP 1&&decide (d∈n.told))=true
  .rw[if_pos c];exact Yi (w:=bg n) b.i b.k g j f
  .rw[if_neg c]at a;exact absurd a (xv _)
 rw[if_neg r]at a|-;by_cases s:m.kind=7
 .rw[if_pos s]at a|-;by_cases c:(iV n.dr.ai.af d m.aP 0&&decide (d<n.dr.ai.id))=true
  .rw[if_pos c];exact QV b.i b.k g f
  .rw[if_neg c]at a;exact absurd a (xv _)
 rw[if_neg s]at a|-;by_cases t:m.kind=8
 .rw[if_pos t]at a|-;by_cases c:iV n.dr.ai.af d m.aP 3=true
  .rw[if_pos c];have⟨x,v,z,y⟩:=agC c;exact VK (w:=bg n) b.i b.k g j f b.lv v y
  .rw[if_neg c]at a;exact absurd a (xv _)
 rw[if_neg t]at a;exact absurd a (xv _)
def kC(d:Dr):Nd:=⟨d,⟨0,[]⟩,d.ai.af.map (fun x=>⟨x.peer,x.aP⟩),[],[]⟩
def YK(d:Dr)(l:List aI)(q:Nat×ab)(H:List Ob):Prop:=q.1<=l.length/\2<=H.length/\H[0]?=some (ah 10 [[I 0,I 0,ap,I 0,ap,I 0,ap,ap,ap,ap]])/\H[1]?=some (ah 10 [[I d.ai.id,I d.ai.phase,.aj (l.map ax),I d.aQ,.aj (d.need.map aC),I 0,ap,q.2,ap,ap]])/\
 ((q.1=0/\q.2=ap)\/∃a b,2<=a/\q.2= .sl a b 0 q.1/\H[a]?=some (.live b 2 ((l.take q.1).map fun x=>aW ⟨x.peer,x.aP⟩)))
def RX{H:List Ob}{j:Nat}{X:Ob}(n:Nd)(f:j<H.length):dI true ((H++[Ob.live 0 8 (n.dr.ai.af.map ax),Ob.live 0 4 (n.book.aA.map aN),Ob.live 0 2 (n.known.map aW),Ob.live 0 2 (n.asked.map aW)]).set j X) (.aM [.agg [I n.dr.ai.id,I n.dr.ai.phase,.sl H.length 0 0 n.dr.ai.af.length,I n.dr.aQ,aG n.dr.need,I n.book.last,.sl (H.length+1) 0 0 n.book.aA.length,.sl (H.length+2) 0 0 n.known.length,aG n.told,.sl (H.length+3) 0 0 n.asked.length],aa 0])=some (.aM [.agg (aT n),aa 0],[]):=by
 have⟨G,a⟩:=ak ((H++[Ob.live 0 8 (n.dr.ai.af.map ax),Ob.live 0 4 (n.book.aA.map aN),Ob.live 0 2 (n.known.map aW),Ob.live 0 2 (n.asked.map aW)]).set j X)
 have g:∀k:Nat,G[H.length+k]?=[Ob.live 0 8 (n.dr.ai.af.map ax),Ob.live 0 4 (n.book.aA.map aN),Ob.live 0 2 (n.known.map aW),Ob.live 0 2 (n.asked.map aW)][k]?:=fun k=>by
  rw[<-a,aat (by omega),aea (by omega)];congr 1
  omega
 have b:G[H.length]?=some (Ob.live 0 8 (n.dr.ai.af.map ax)):=g 0;have c:G[H.length+1]?=some (Ob.live 0 4 (n.book.aA.map aN)):=g 1;have d:G[H.length+2]?=some (Ob.live 0 2 (n.known.map aW)):=g 2;have e:G[H.length+3]?=some (Ob.live 0 2 (n.asked.map aW)):=g 3;have t0:(n.dr.ai.af.map ax).take n.dr.ai.af.length=n.dr.ai.af.map ax:=acu (by simp);have t1:(n.book.aA.map aN).take n.book.aA.length=n.book.aA.map aN:=acu (by simp);have t2:(n.known.map aW).take n.known.length=n.known.map aW:=acu (by simp);have t3:(n.asked.map aW).take n.asked.length=n.asked.map aW:=acu (by simp);rw[a];simp[-akL,aT,b,c,d,e,t0,t1,t2,t3,bK,bV,bR,bi]
def p66(d:Dr)(E:d.ai.af.length<=100)(hn:d.need.length<=1000):aS tz ay 1 66 [.agg (cU d)]=some (.aM [.agg (if dm (kC d)then aT (kC d)else [I 0,I 0,.aj [],I 0,.aj [],I 0,.aj [],.aj [],.aj [],.aj []]),aa (if dm (kC d)then 0 else 180)],[]):=by
 refine be func66 rfl ?_;have⟨l,r⟩:=ak d.ai.af;have F:fu (kC d):=⟨E,hn,⟨by simp[kC],by simp[kC]⟩,by simp[kC];omega,by simp[kC],by simp[kC]⟩;have a:=EZ (kC d) F;have s:=zw (kC d) F;unfold pU at s;simp only[aT,aG,kC,aiU,aiQ,ajc,r,aio]at s a;simp only[aT,aG,kC,r,ajc,aiU];rw[r]at E;simp[-dI,f66,underlying59,cU,aG,r];refine iy (fun q:Nat×ab=>[(12,aa l.length),(13,aa q.1),(11,bh (l.map ax)),(4,au 1),(2,au 0),(3,aa 0)]) (YK d l) (fun q=>l.length-q.1) ?_ (0,ap) (by simp) ⟨by simp,by simp,rfl,rfl,.inl ⟨rfl,rfl⟩⟩ fun _=>rfl;rintro⟨k,lf⟩ ad H ⟨h,i,A,m,n,B,_⟩ ⟨P,Q,e,o,f⟩;simp only at h i A m n B P f e o Q;by_cases u:k<l.length
 .have C:l.take (k+1)=l.take k++[l[k]]:=jC u;have G:adW.wrap ((k:Int)+1)=((k+1:Nat):Int):=cv (by omega);have⟨x,t⟩:=ak l[k];rw[t]at C;have J:l[k]?=some x:=by rw[abM u,t]
  have b:∀K,(H++K)[1]?=H[1]?:=fun K=>abE (by omega);rw[o]at b;have ae:(fun x:aI=>aW ⟨x.peer,x.aP⟩) x=[I x.peer,I x.aP]:=rfl;rcases f with⟨f,rfl⟩|⟨p,v,L,rfl,g⟩
  .simp[-dI,-getElem?_pos,h,i,A,m,n,B,u,J,ax,b,G];refine⟨k+1,by omega,by simp,.sl (H.length+2) 0 0 1,by show k+1<=_;omega,by simp<;>omega,?_,?_,.inr ⟨H.length+2,0,by omega,by rw[f],?_⟩⟩
   .rw[aat (by decide),abE (by omega)];exact e
   .exact ba (b _)
   .rw[aat (by omega),C,f];simp[aW]
  .have lh:=bf g;have D:∀K,(H++K)[p]?=H[p]?:=fun K=>abE (by omega);rw[g]at D;have R:min k l.length=k:=by omega
   have S:(k+1)*16<=140737488355328:=by omega
   have M:∀K X,((H++K).set p X)[1]?=some (ah 10 [[I d.ai.id,I d.ai.phase,.aj (l.map ax),I d.aQ,.aj (d.need.map aC),I 0,ap,.sl p v 0 k,ap,ap]]):=fun K X=>by rw[aat (by omega)];exact b K
   have T:¬k+1<=k:=by omega
   have U:k+1<=maxLen:=by unfold maxLen;omega
   simp[-dI,-getElem?_pos,h,i,A,m,n,B,u,J,ax,b,G,D,R,S,U,M,T];refine⟨k+1,by omega,by simp,.sl p (v+1) 0 (k+1),by show k+1<=_;omega,by simp<;>omega,?_,?_,.inr ⟨p,v+1,L,rfl,?_⟩⟩
   .rw[aat (by decide),aat (by omega),abE (by omega)];exact e
   .exact ba (M _ _)
   .rw[aat (by omega),ba (D _),C];simp[aW,-akL];rw[List.take_take,Nat.min_self,akL]
 .obtain rfl:k=l.length:=by omega
  have w:bA (l.map fun x=>aW ⟨x.peer,x.aP⟩)=true:=jg _ (fun _=>rfl) l;rcases f with⟨f,rfl⟩|⟨p,v,L,rfl,g⟩
  .have V:l=[]:=List.length_eq_zero_iff.1 f;subst V;simp only[aiU,aiQ]at s a o|-;cases c:dm ⟨d,⟨0,[]⟩,[],[],[]⟩with
   |false=>rw[c]at a;simp[-dI,h,i,m,n,e,o,a,bi,ba e];simp
   |true=>rw[c]at a;have b:∀K,(H++K)[0]?=H[0]?:=fun K=>abE (by omega);rw[e]at b;simp[-dI,-getElem?_pos,h,i,m,n,o,s,a,bi,b];have q:=RX (H:=H) (j:=0) (X:=ah 10 [[I d.ai.id,I d.ai.phase,.sl H.length 0 0 0,I d.aQ,.aj (d.need.map aC),I 0,.sl (H.length+1) 0 0 0,.sl (H.length+2) 0 0 0,.aj [],.sl (H.length+3) 0 0 0]]) ⟨d,⟨0,[]⟩,[],[],[]⟩ (by omega);simp only[r,aT,aG,aiU,aiQ]at q;exact q
  .have b:∀K,(H++K)[0]?=H[0]?:=fun K=>abE (by omega);rw[e]at b;simp only[aiF]at g;have W:(l.map fun x=>aW ⟨x.peer,x.aP⟩)=l.map (aW ∘ fun x=>⟨x.peer,x.aP⟩):=rfl;rw[W]at g w;have⟨y,z⟩:=ak (l.map (aW ∘ fun x=>⟨x.peer,x.aP⟩));rw[z]at g w s a|-;have N:y.length=l.length:=by rw[<-z];simp
   have O:y.take l.length=y:=acu (by omega);cases c:dm ⟨d,⟨0,[]⟩,l.map (fun x=>⟨x.peer,x.aP⟩),[],[]⟩with
   |false=>rw[c]at a;simp[-dI,h,i,m,n,e,o,g,a,bi,bK,w,O,N,ba e];simp
   |true=>
    rw[c]at a
    have Y:gZ [2] (d.need.map aC)=true:=by
     induction d.need with
     |nil=>rfl
     |cons x ag Z=>simpa[gZ]using Z
    have n2:(∀x:aI,x∈l->cW [2] (ax x)=true)=True:=eq_true fun x _=>rfl;have n3:(∀x:List ab,x∈y->cW [2] x=true)=True:=eq_true fun x t=>by rw[<-z]at t;obtain⟨al,_,rfl⟩:=aiK.1 t;rfl
    simp[-dI,-getElem?_pos,h,i,m,n,o,g,s,a,bi,bK,w,O,N,b,Y,n2,n3];have q:=RX (H:=H) (j:=0) (X:=ah 10 [[I d.ai.id,I d.ai.phase,.sl H.length 0 0 l.length,I d.aQ,.aj (d.need.map aC),I 0,.sl (H.length+1) 0 0 0,.sl (H.length+2) 0 0 l.length,.aj [],.sl (H.length+3) 0 0 0]]) ⟨d,⟨0,[]⟩,l.map (fun x=>⟨x.peer,x.aP⟩),[],[]⟩ (by omega);simp only[r,aT,aG,aiU,aiQ,ajc,z,aio]at q;exact q
def iB(x:Int):Nat->List UInt8
 |0=>[]
 |n+1=>jx (x.fdiv (2 ^ (min (8*n) 64)))::iB x n
def nZ(x:Int):∀n,(iB x n).length=n
 |0=>rfl
 |n+1=>by simp[iB,nZ x n]
def Sr(x:Int):∀(n k:Nat),k<n->(iB x n)[n-1-k]?=some (jx (x.fdiv (2 ^ (min (8*k) 64))))
 |0,k,h=>by omega
 |n+1,k,h=>by
  by_cases a:k=n
  .subst a
   have:k+1-1-k=0:=by omega
   rw[this];rfl
  .have e:n+1-1-k=(n-1-k)+1:=by omega
   rw[e]
   show(iB x n)[n-1-k]?=_
   exact Sr x n k (by omega)
def Xx(H:List Ob)(h v:Nat)(rows:List (List ab))(x:Int)(n k:Nat)(G:List Ob):Prop:=k<=n/\∃K,G=H.set h (.live (v+(n-k)) 1 (rows++((iB x n).take (n-k)).map eA))++K
def Ca(z:Int):eA (jx z)=[.v (.int .u8 (ajf.wrap z))]:=by
 have h:ajf.wrap z=z % 256:=rfl;unfold eA jx;rw[h];have b:0<=z % 256:=Int.emod_nonneg _ (by decide);have c:z % 256<256:=Int.emod_lt_of_pos _ (by decide);have a:((al1 (z % 256).toNat).toNat:Int)=z % 256:=by rw[UInt8.toNat_ofNat'];omega
 rw[a]
def OS{H:List Ob}{h v:Nat}{rows:List (List ab)}(g:H[h]?=some (.live v 1 rows))(x:Int)(n:Nat)(Q:rows.length<=1000000)(hn:n<=8):
  ∃K,bB tz (ev tz) 218 [bd h v 0 rows.length,.c (U8 x),aa n] H=some (bd h (v+n) 0 (rows.length+n),H.set h (.live (v+n) 1 (rows++(iB x n).map eA))++K):=by
 have t:=cG (C:=tz) (f:=218) (args:=[bd h v 0 rows.length,.c (U8 x),aa n]) (H:=H) (fun r G=>r=bd h (v+n) 0 (rows.length+n)/\∃K,G=H.set h (.live (v+n) 1 (rows++(iB x n).map eA))++K) func218 rfl ?_
 .obtain ⟨r,G,u,rfl,K,rfl⟩:=t
  exact⟨K,u⟩
 have j:=bf g
 have i:adW.wrap ((n:Int)-1)=(n:Int)-1:=fw (by omega) (by omega)
 simp[f218,i]
 refine iy (fun k:Nat=>[(7,aa ((k:Int)-1)),(0,bd h (v+(n-k)) 0 (rows.length+(n-k))),(1,.c (U8 x))]) (Xx H h v rows x n) (fun k=>k) ?_ n (by simp) ⟨by omega,[],by simp;rw[lJ g]⟩ fun _=>rfl
 rintro k e G⟨l,m,w,_⟩⟨S,K,a⟩
 have⟨R,d⟩:=ak (rows++((iB x n).take (n-k)).map eA)
 rw[d]at a
 have y:R.length=rows.length+(n-k):=by
  rw[<-d]
  simp[nZ]<;>omega
 have o:G[h]?=some (.live (v+(n-k)) 1 R):=by
  rw[a,abE (by simpa using j),ba g]
 by_cases z:k=0
 .subst z
  simp[l,m]
  refine⟨K,?_⟩
  rw[a, <-d]
  have:(iB x n).take n=iB x n:=acu (by rw[nZ];omega)
  simp[this]
 .have c:(k:Int)-1>=0:=by omega
  have c1:(1:Int)<=k:=by omega
  have T:(0:Int)<=(k:Int)-1:=by omega
  have i:adW.wrap ((k:Int)-1-1)=(k:Int)-1-1:=fw (by omega) (by omega)
  have A:adW.wrap (8*((k:Int)-1))=8*((k:Int)-1):=fw (by omega) (by omega)
  have B:¬8*((k:Int)-1)<0:=by omega
  have D:(8*((k:Int)-1)).toNat=8*(k-1):=by omega
  have E:min (8*(k-1)) aiY.bits=min (8*(k-1)) 64:=rfl
  have⟨b,p⟩:=ak (ajf.wrap (x.fdiv (2 ^ min (8*(k-1)) 64)))
  have F:rows.length+(n-k)+1<=maxLen:=by unfold maxLen;omega
  have I:rows.length+(n-k)+1<=140737488355328:=by omega
  have J:∀q,(G++q)[h]?=some (.live (v+(n-k)) 1 R):=fun q=>by rw[abE (bf o)];exact o
  simp[l,m,w,c1,i,A,B,D,E,p,J,gV,F,I,y,-Int.reducePow]
  refine⟨k-1,by omega,⟨by omega,by omega,by omega⟩,?_⟩
  refine⟨by omega,K++[ah 1 [[.v (.int .u8 b)]]],?_⟩
  have L:n-(k-1)=n-k+1:=by omega
  have M:(iB x n).take (n-k+1)=(iB x n).take (n-k)++[jx (x.fdiv (2 ^ min (8*(k-1)) 64))]:=by
   have s:=Sr x n (k-1) (by omega)
   have N:n-1-(k-1)=n-k:=by omega
   rw[N]at s
   rw[aiH,s];rfl
  have O:rows++((iB x n).take (n-k)++[jx (x.fdiv (2 ^ min (8*(k-1)) 64))]).map eA=R++[eA (jx (x.fdiv (2 ^ min (8*(k-1)) 64)))]:=by rw[aid, <-aiu,d];rfl
  rw[L,M,O]
  simp only[Ca,p]
  have P:R.take (rows.length+(n-k))=R:=acu (by omega)
  rw[P,a,aiu,akk _ _ (by simpa using j),ajN]
  rfl
def QJ(s:List UInt8):da (Sg s)=Sg s:=rfl
def yX{H:List Ob}{h v L:Nat}{rows:List (List ab)}(a:H[h]?=some (.live v 1 rows))(b:rows.length=L)(x:Int)(n:Nat){m:Int}(hm:(n:Int)=m)(d:rows.length<=1000000)(hn:n<=8):
  ∃G,aO tz ay 218 [bd h v 0 L,.c (U8 x),aa m] H=some (bd h (v+n) 0 (L+n),G)/\G[h]?=some (.live (v+n) 1 (rows++(iB x n).map eA)):=by
 subst b hm
 have⟨K,e⟩:=OS a x n d hn
 refine⟨_,by rw[dz (f:=218) rfl];exact e,?_⟩
 rw[abE (by simpa using bf a),ba a]
def vg(f:Fm):List UInt8:=[78,1,jx f.kind]++iB (aiY.wrap f.link) 2++iB f.seq 8++iB f.qD 8++iB (aiY.wrap f.body.length) 2++f.body
def jW(f:Fm):List UInt8×Int:=if ni f=false then([],60)else(vg f++qH (ru (vg f)),0)
def Hw:∀l:List UInt8,bytesOf (l.map eA)=some l
 |[]=>rfl
 |b::r=>by
  have h:=Hw r
  simp only[ag9,eA,bytesOf,h]
  have:=b.toNat_lt
  simp
def Xc(H:List Ob)(s:List UInt8)(a:s.length<=1000000):aO tz ay 220 [.c (Sg s)] H=some (.c (U4 (ru s)),H):=by have h:=Qj s a;have⟨y,b⟩:=ak (ru s);rw[b]at h|-;simp[h]
def ad5(H:List Ob)(x:Int):aO tz ay 219 [.c (U4 x)] H=some (.c (Sg (qH x)),H):=by have h:=OY x;have⟨y,a⟩:=ak (qH x);rw[a]at h|-;simp[h]
def abP(H:List Ob)(f:Fm):aO tz ay 160 [.agg (bY f)] H=some (aR (ni f),H):=by have h:=yo f;simp only[bY]at h|-;simp[QJ,h]
def UL(P:Program)(H:List Ob)(a b bytes h v c n:Nat)(z:List ab)(s:List UInt8):sy P H a b bytes z (.sl h v c n) (Sg s)=none:=by
 unfold sy;split
 .rename_i d;cases d
 .rfl
def YE(a:UInt8):(eA a).length=1:=rfl
def ahh(f:Fm)(Q:f.body.length<=100000):aS tz ay 0 137 [.agg (bY f)]=some (.aM [.c (Sg (jW f).1),aa (jW f).2],[]):=by
 refine be func137 rfl ?_;have a:=yo f;unfold jW;cases e:ni f with
 |false=>rw[e]at a;simp only[bY]at a;simp[f137,bY,QJ,a]
 |true=>
  rw[e]at a;simp only[bY]at a;have a:=fun H=>abP H f;simp only[bY,e]at a;have⟨g,n⟩:=ak (ajf.wrap f.kind);have⟨o,p⟩:=ak (aiY.wrap f.link);have⟨q,r⟩:=ak (aiY.wrap (f.body.length:Int));have D:([[.v (.int .u8 78)],[.v (.int .u8 1)],[.v (.int .u8 g)]]:List (List ab))=[78,1,jx f.kind].map eA:=by simp only[ag9,aiU,Ca,n];rfl
  have⟨T,s,E⟩:=yX (H:=[ah 1 [[.v (.int .u8 78)],[.v (.int .u8 1)],[.v (.int .u8 g)]]]) (h:=0) (v:=0) (L:=3) rfl rfl o 2 (m:=2) rfl (by simp) (by decide);have⟨U,t,G⟩:=yX E (L:=5) (by simp[nZ]) f.seq 8 (m:=8) rfl (by simp[nZ]) (by decide);have⟨V,u,I⟩:=yX G (L:=13) (by simp[nZ]) f.qD 8 (m:=8) rfl (by simp[nZ]) (by decide);have⟨W,w,b⟩:=yX I (L:=21) (by simp[nZ]) q 2 (m:=2) rfl (by simp[nZ]) (by decide);simp only[aiW,Nat.reduceAdd]at s t u w b;have⟨R,i⟩:=ak ([[ab.v (.int .u8 78)],[.v (.int .u8 1)],[.v (.int .u8 g)]]++(iB o 2).map eA++(iB f.seq 8).map eA++(iB f.qD 8).map eA++(iB q 2).map eA);rw[i]at b;have j:R.length=23:=by rw[<-i];simp[nZ]
  have J:R.take 23=R:=acu (by omega);have⟨F,k⟩:=ak (vg f)
  have x:bytesOf (R++f.body.map eA)=some F:=by
   have:R++f.body.map eA=F.map eA:=by rw[<-i, <-k,D];simp only[vg,aid,p,r]
   rw[this,Hw]
  have X:F.length=23+f.body.length:=by rw[<-k];simp[vg,nZ];omega
  have⟨S,d⟩:=ak (R++f.body.map eA);rw[d]at x;have K:S.take (23+f.body.length)=S:=acu (by rw[<-d];simp[j]);have M:S.length=23+f.body.length:=by rw[<-d];simp[j]
  have⟨y,A⟩:=ak (ru F);have B:=fun H=>Xc H F (by omega);rw[A]at B;have C:=fun H=>ad5 H y;have⟨z,l⟩:=ak (qH y);rw[l]at C;rw[k,A,l];have N:23+f.body.length<=maxLen:=by unfold maxLen;omega
  have O:23+f.body.length<=140737488355328:=by omega
  have Y:z.length=4:=by rw[<-l];rfl
  have P:F.length+z.length<=maxLen:=by unfold maxLen;omega
  simp[-aD,f137,bY,a,n,p,r,s,t,u,w,XH,fX,gV,fv,tU,nH,uP,b,j,J,x,B,C,N,O,P,UL,YE,d,K,M,ba b]
def acV(x a b:Int):aS tz ay 0 272 [aa x,aa a,aa b]=some (aa (min (max x a) b),[]):=by refine be func272 rfl ?_;simp[f272]
structure Lk where
 link:Int
 win:Int
 room:Int
 wait:Int
 queue:List (List UInt8)
 base:Int
 bN:Int
 gH:Int
 next:Int
 due:Bool
 cH:Int
deriving DecidableEq,Inhabited
def cZ(s:List UInt8):List ab:=[Sg s]
def cg(e:Lk)(q:ab):List ab:=[I e.link,I e.win,I e.room,I e.wait,q,U8 e.base,I e.bN,I e.gH,U8 e.next,B e.due,I e.cH]
def oS(e:Lk):Lk:=if e.bN=0 then e else if e.cH+1>=e.wait then{e with bN:=0,cH:=0}else{e with cH:=e.cH+1}
def U5{H:List Ob}{b:Nat}{e:Lk}{q:ab}(a:H[b]?=some (ah 11 [cg e q]))(g:0<=e.cH)(h:e.cH<=1000000000):
  ∃c,bB tz (ev tz) 165 [au b] H=some (.aM [],c)/\c=H.set b (ah 11 [cg (oS e) q]):=by
 refine gj func165 rfl ?_
 have d:adW.wrap (e.cH+1)=e.cH+1:=fw (by omega) (by omega)
 have f:∀x:Ob,(H.set b x)[b]?=some x:=fun x=>ba a
 simp only[cg]at a
 unfold oS
 by_cases c1:e.bN=0
 .rw[c1]at a
  simp[f165,cg,a,c1]
  exact(lJ a).symm
 by_cases c2:e.cH+1>=e.wait
 .simp[f165,cg,a,f,c1,c2,d]
 .simp[f165,cg,a,f,c1,c2,d]
def mX(e:Lk)(n:Nat):Lk:={e with queue:=e.queue.drop n,base:=aiY.wrap (e.base+aiY.wrap n),bN:=max (e.bN-n) 0,gH:=e.gH-n,cH:=0}
def KZ{H:List Ob}{b h v a len n:Nat}{e:Lk}{rows:List (List ab)}(c:H[b]?=some (ah 11 [cg e (.sl h v a len)]))(d:H[h]?=some (.live v 1 rows))(g:h≠b)(l:a+len<=rows.length)(hn:n<=len)(m:len<=1000000)(o:0<=e.bN)(p:e.bN<=1000000)(q:0<=e.gH)(r:e.gH<=1000000):
  ∃f,bB tz (ev tz) 224 [au b,aa n] H=some (.aM [],f)/\f=H.set b (ah 11 [cg (mX e n) (.sl h v (a+n) (len-n))]):=by
 refine gj func224 rfl ?_
 have i:adW.wrap (e.bN-n)=e.bN-n:=fw (by omega) (by omega)
 have j:adW.wrap (e.gH-n)=e.gH-n:=fw (by omega) (by omega)
 have k:∀x:Ob,(H.set b x)[b]?=some x:=fun x=>ba c
 have s:∀x:Ob,(H.set b x)[h]?=some (.live v 1 rows):=fun x=>by rw[aat (ait g)];exact d
 have c1:(0:Int)<=n:=by omega
 have c2:(n:Int)<=len:=by omega
 have c3:(n:Int).toNat=n:=by omega
 have c4:((len:Int)-n).toNat=len-n:=by omega
 simp only[cg]at c
 unfold mX
 simp[f224,cg,c,d,k,c1,c2,c3,i,j]
def jJ(H:List Ob)(q:ab)(l:List (List UInt8)):Prop:=(l=[]/\q=ap)\/∃(h v a:Nat) (rows:List (List ab)),q= .sl h v a l.length/\H[h]?=some (.live v 1 rows)/\(rows.drop a).take l.length=l.map cZ/\a+l.length=rows.length
def nC(e:Lk)(s:List UInt8):Lk×Int:=if 64<s.length then(e,90)else if(e.queue.length:Int)>=e.room then(e,91)else({e with queue:=e.queue++[s]},0)
def afU{H:List Ob}{b:Nat}{e:Lk}{q:ab}(s:List UInt8)(g:H[b]?=some (ah 11 [cg e q]))(o:jJ H q e.queue)(O:e.queue.length<=1000000):
  ∃i a,bB tz (ev tz) 135 [au b,.c (Sg s)] H=some (aa (nC e s).2,a)/\a[b]?=some (ah 11 [cg (nC e s).1 i])/\jJ a i (nC e s).1.queue/\(∀m,m≠b->m∉rf q->m<H.length->a[m]?=H[m]?)/\(∀m∈rf i,m∈rf q\/H.length<=m)/\H.length<=a.length:=by
 have z:=cG (C:=tz) (f:=135) (args:=[au b,.c (Sg s)]) (H:=H) (fun r a=>r=aa (nC e s).2/\∃i,a[b]?=some (ah 11 [cg (nC e s).1 i])/\jJ a i (nC e s).1.queue/\(∀m,m≠b->m∉rf q->m<H.length->a[m]?=H[m]?)/\(∀m∈rf i,m∈rf q\/H.length<=m)/\H.length<=a.length) func135 rfl ?_
 .obtain ⟨r,a,d,rfl,i,j⟩:=z
  exact⟨i,a,d,j⟩
 have A:=g
 simp only[cg]at g
 unfold nC
 by_cases c1:64<s.length
 .have l:(s.length:Int)>64:=by omega
  simp[f135,fX,fv,cg,g,c1,l]
  exact⟨o,fun _ h=> .inl h⟩
 have l:¬(s.length:Int)>64:=by omega
 have P:=bf A
 by_cases c2:(e.queue.length:Int)>=e.room
 .have D:=o
  have k:e.room<=(e.queue.length:Int):=c2
  rcases o with⟨d,rfl⟩|⟨h,v,p,rows,rfl,j,t,E⟩
  .have u:e.room<=0:=by rw[d]at k;simpa using k
   simp[f135,fX,fv,cg,g,c1,l,u,d]
   exact⟨.inl ⟨rfl,rfl⟩,fun _ h=> .inl h⟩
  .simp[f135,fX,fv,cg,g,c1,l,k]
   exact⟨D,fun _ h=> .inl h⟩
 have k:¬e.room<=(e.queue.length:Int):=c2
 have Q:¬(e.queue.length:Int)>=e.room:=c2
 rcases o with⟨d,rfl⟩|⟨h,v,p,rows,rfl,j,t,E⟩
 .have u:¬e.room<=0:=by rw[d]at k;simpa using k
  have n:∀K,(H++K)[b]?=H[b]?:=fun K=>abE (by omega)
  rw[g]at n
  simp[f135,fX,fv,cg,g,n,c1,l,u,d]
  refine⟨.sl (H.length+1) 0 0 1,ba (n _),.inr ⟨H.length+1,0,0,[[Sg s]],rfl,?_,by simp[cZ],by simp⟩,fun m d j t=>?_,fun m hm=>?_⟩
  .rw[aat (by omega),jh];rfl
  .rw[aat (ait d),abE t]
  .simp[rf]at hm
   exact .inr (by omega)
 .have n:∀K,(H++K)[b]?=H[b]?:=fun K=>abE (by omega)
  rw[g]at n
  have R:=bf j
  have w:∀K,(H++K)[h]?=H[h]?:=fun K=>abE (by omega)
  rw[j]at w
  have x:h≠b:=fun e=>by
   subst e
   rw[g]at j
   cases j
  have y:∀K X,((H++K).set h X)[b]?=some (ah 11 [[I e.link,I e.win,I e.room,I e.wait,.sl h v p e.queue.length,U8 e.base,I e.bN,I e.gH,U8 e.next,B e.due,I e.cH]]):=fun K X=>by rw[aat x];exact n K
  have F:p+e.queue.length<=rows.length:=by omega
  have G:¬p+e.queue.length+1<=rows.length:=by omega
  have J:e.queue.length+1<=maxLen:=by unfold maxLen;omega
  have L:(e.queue.length+1)*16<=140737488355328:=by omega
  simp[f135,fX,fv,cg,g,w,y,c1,l,k,t,F,G,J,L]
  refine⟨.sl h (v+1) 0 (e.queue.length+1),ba (y _ _),.inr ⟨h,v+1,0,e.queue.map cZ++[[Sg s]],by simp,?_,by simp[cZ],by simp⟩,fun m d M N=>?_,fun m hm=>?_⟩
  .rw[aat (ait x),ba (w _)]
  .rw[aat (ait d),aat (fun e=>M (by subst e;simp[rf])),abE N]
  .simp[rf]at hm|-
   exact .inl hm
def eB(x a b:Int):Int:=min (max x a) b
def oz(b a c room d:Int):Lk:=⟨b,eB c 1 8,eB room 0 64,eB d 1 100,[],a,0,0,a,false,0⟩
def EB(H:List Ob)(x a b:Int):aO tz ay 272 [aa x,aa a,aa b] H=some (aa (eB x a b),H):=by have h:=acV x a b;simp[h,eB]
def X6(d e a room b:Int):aS tz ay 2 216 [aa d,.c (U8 e),aa a,aa room,aa b]=some (au 0,[ah 11 [cg (oz d e a room b) ap]]):=by refine be func216 rfl ?_;have f:=fun H=>EB H a 1 8;have g:=fun H=>EB H room 0 64;have h:=fun H=>EB H b 1 100;simp[-aD,f216,f,g,h,cg,oz]
def Ub(H:List Ob)(f:Fm):aO tz ay 160 [.agg (bY f)] H=some (aR (ni f),H):=by have h:=yo f;simp only[bY]at h|-;have a:da (Sg f.body)=Sg f.body:=rfl;have b:∀k x,da (.v (.int k x))= .v (.int k x):=fun _ _=>rfl;simp[a,b,h]
def AD(e:Lk)(f:Fm):Int:=aiY.wrap (f.qD-e.base)
def qm(e:Lk)(f:Fm):Lk:=if 0<AD e f/\AD e f<=aiY.wrap e.gH then mX e (adW.wrap (AD e f)).toNat else e
def iY(e:Lk)(f:Fm):Lk×Option (List UInt8):=
 if ni f=false\/ ¬f.link=e.link then(e,none)
 else if ¬f.kind=1 then(qm e f,none)
 else if ¬f.seq=e.next then({qm e f with due:=true},none)
 else({qm e f with due:=true,next:=aiY.wrap (e.next+1)},some f.body)
structure FD(e:Lk):Prop where
 q:e.queue.length<=1000000
 s0:0<=e.bN
 s1:e.bN<=1000000
 t0:0<=e.gH
 t1:e.gH<=e.queue.length
def ZJ{H:List Ob}{b h v a len n:Nat}{m:Int}{e:Lk}{rows:List (List ab)}(hm:m=n)(c:H[b]?=some (ah 11 [cg e (.sl h v a len)]))(d:H[h]?=some (.live v 1 rows))(g:h≠b)(i:a+len<=rows.length)(hn:n<=len)(j:len<=1000000)(k:0<=e.bN)(l:e.bN<=1000000)(o:0<=e.gH)(p:e.gH<=1000000):
  aO tz ay 224 [au b,aa m] H=some (.aM [],H.set b (ah 11 [cg (mX e n) (.sl h v (a+n) (len-n))])):=by
 subst hm
 obtain⟨r,q,rfl⟩:=KZ c d g i hn j k l o p
 rw[dz (f:=224) rfl,q]
def jJ.aK{H H':List Ob}{q:ab}{l:List (List UInt8)}{b:Nat}{r:List ab}(h:jJ H q l)(c:H[b]?=some (ah 11 [r]))(d:∀m,m≠b->H'[m]?=H[m]?):jJ H' q l:=by
 rcases h with h|⟨h,v,f,rows,g,a,i,j⟩
 .exact .inl h
 .refine .inr ⟨h,v,f,rows,g,?_,i,j⟩;rw[d h (fun e=>by subst e;rw[c]at a;cases a)];exact a
def XZ{H:List Ob}{b:Nat}{e:Lk}{q:ab}(f:Fm)(d:H[b]?=some (ah 11 [cg e q]))(t:jJ H q e.queue)(l:FD e):
  ∃o p,bB tz (ev tz) 140 [au b,.agg (bY f)] H=some (.aM [.c (Sg ((iY e f).2.getD [])),aR (iY e f).2.isSome],p)/\p=H.set b (ah 11 [cg (iY e f).1 o])/\jJ p o (iY e f).1.queue/\∀m∈rf o,m∈rf q:=by
 have R:=cG (C:=tz) (f:=140) (args:=[au b,.agg (bY f)]) (H:=H) (fun r p=>r= .aM [.c (Sg ((iY e f).2.getD [])),aR (iY e f).2.isSome]/\∃o,p=H.set b (ah 11 [cg (iY e f).1 o])/\jJ p o (iY e f).1.queue/\∀m∈rf o,m∈rf q) func140 rfl ?_
 .obtain ⟨r,p,F,rfl,o,u⟩:=R
  exact⟨o,p,F,u⟩
 have S:=d
 have z:H.set b (ah 11 [cg e q])=H:=lJ d
 have w:∀x:Ob,(H.set b x)[b]?=some x:=fun x=>ba d
 have A:∀x:Ob,jJ (H.set b x) q e.queue:=fun x=>t.aK d (fun m hm=>aat (ait hm))
 have a:=fun H=>Ub H f
 simp only[bY]at a
 simp only[cg]at d
 have U:da (Sg f.body)=Sg f.body:=rfl
 unfold iY
 cases M:ni f with
 |false=>
  rw[M]at a
  simp[-aD,f140,a,bY]
  exact⟨q,z.symm,t,fun _ h=>h⟩
 |true=>
 rw[M]at a
 by_cases c1:f.link=e.link
 case neg=>
  simp[-aD,f140,a,bY,d,c1]
  exact⟨q,z.symm,t,fun _ h=>h⟩
 have wt:aiY.wrap e.gH=e.gH:=wrap_u64 l.t0 (by have:=l.t1;have:=l.q;omega)
 have⟨i,k⟩:=ak (aiY.wrap (f.qD-e.base))
 have N:AD e f=i:=k
 by_cases G:0<i/\i<=e.gH
 case neg=>
  have I:qm e f=e:=by unfold qm;rw[N,wt,if_neg G]
  rw[I]
  by_cases j:0<i
  .have s:¬i<=e.gH:=fun h=>G ⟨j,h⟩
   by_cases c2:f.kind=1
   .by_cases c3:f.seq=e.next
    .simp only[c1,c2,c3]at a
     simp[-aD,f140,a,bY,d,w,c1,k,wt,j,s,c2,c3,cg]
     exact⟨q,rfl,A _,fun _ h=>h⟩
    .simp only[c1,c2]at a
     simp[-aD,f140,a,bY,d,w,c1,k,wt,j,s,c2,c3,cg]
     exact⟨q,rfl,A _,fun _ h=>h⟩
   .simp only[c1]at a
    simp[-aD,f140,a,bY,d,c1,k,wt,j,s,c2,cg]
    exact⟨q,z.symm,t,fun _ h=>h⟩
  .by_cases c2:f.kind=1
   .by_cases c3:f.seq=e.next
    .simp only[c1,c2,c3]at a
     simp[-aD,f140,a,bY,d,w,c1,k,j,c2,c3,cg]
     exact⟨q,rfl,A _,fun _ h=>h⟩
    .simp only[c1,c2]at a
     simp[-aD,f140,a,bY,d,w,c1,k,j,c2,c3,cg]
     exact⟨q,rfl,A _,fun _ h=>h⟩
   .simp only[c1]at a
    simp[-aD,f140,a,bY,d,c1,k,j,c2,cg]
    exact⟨q,z.symm,t,fun _ h=>h⟩
 have⟨j,s⟩:=G
 have V:=l.q
 have O:=l.t1
 have B:adW.wrap i=i:=fw (by omega) (by omega)
 have I:qm e f=mX e i.toNat:=by unfold qm;rw[N,wt,if_pos ⟨j,s⟩,B]
 rw[I]
 rcases t with⟨F,rfl⟩|⟨h,v,P,rows,rfl,u,T,W⟩
 .rw[F]at O
  simp at O
  omega
 have Q:h≠b:=fun e=>by subst e;rw[d]at u;cases u
 have y:=ZJ (m:=i) (n:=i.toNat) (by omega) S u Q (by omega) (by omega) l.q l.s0 l.s1 l.t0 (by omega)
 have⟨g,D⟩:=ak (mX e i.toNat)
 have E:g.link=e.link:=by rw[<-D];rfl
 have J:g.next=e.next:=by rw[<-D];rfl
 have K:g.queue=e.queue.drop i.toNat:=by rw[<-D];rfl
 rw[D]at y|-
 simp only[cg,E,J]at y
 have L:∀x,jJ (H.set b x) (.sl h v (P+i.toNat) (e.queue.length-i.toNat)) g.queue:=fun x=>by
  refine .inr ⟨h,v,P+i.toNat,rows,?_,?_,?_,?_⟩
  .rw[K,aj0]
  .rw[aat (ait Q)];exact u
  .rw[K,aj0,List.map_drop, <-T,alC,akd]
  .rw[K,aj0];omega
 by_cases c2:f.kind=1
 .by_cases c3:f.seq=e.next
  .simp only[c1,c2,c3]at a
   simp[-aD,f140,a,bY,d,w,c1,k,wt,B,j,s,y,E,c2,c3,cg]
   exact⟨_,rfl,L _,fun m hm=>hm⟩
  .simp only[c1,c2]at a
   simp[-aD,f140,a,bY,d,w,c1,k,wt,B,j,s,y,E,J,c2,c3,cg]
   exact⟨_,rfl,L _,fun m hm=>hm⟩
 .simp only[c1]at a
  simp[-aD,f140,a,bY,d,c1,k,wt,B,j,s,y,E,J,c2,cg]
  exact⟨_,rfl,L _,fun m hm=>hm⟩
def nG(e:Lk)(a seq:Int)(s:List UInt8):Fm:=⟨a,e.link,seq,e.next,s⟩
def km(H:List Ob)(q:ab)(l:List Fm):Prop:=(l=[]/\q=ap)\/∃(h v:Nat),q= .sl h v 0 l.length/\H[h]?=some (.live v 5 (l.map bY))
def OE{H:List Ob}{b c d:Nat}{e:Lk}{q j:ab}{l:List Fm}(o seq:Int)(s:List UInt8)(k:H[b]?=some (ah 11 [cg e q]))(hc:H[c]?=some (ah 1 [[j]]))(u:H[d]?=some (ah 1 [[.ptr b 0 0 0]]))(y:km H j l)(I:l.length<=1000000):
  ∃g a,bB tz (ev tz) 217 [aa o,.c (U8 seq),.c (Sg s),au c,au d] H=some (.aM [],a)/\a[c]?=some (ah 1 [[g]])/\km a g (l++[nG e o seq s])/\(∀m,m≠c->m∉rf j->m<H.length->a[m]?=H[m]?)/\(∀m∈rf g,m∈rf j\/H.length<=m):=by
 have z:=cG (C:=tz) (f:=217) (args:=[aa o,.c (U8 seq),.c (Sg s),au c,au d]) (H:=H) (fun r a=>r= .aM []/\∃g,a[c]?=some (ah 1 [[g]])/\km a g (l++[nG e o seq s])/\(∀m,m≠c->m∉rf j->m<H.length->a[m]?=H[m]?)/\(∀m∈rf g,m∈rf j\/H.length<=m)) func217 rfl ?_
 .obtain ⟨r,a,n,rfl,g,i⟩:=z
  exact⟨g,a,n,i⟩
 have J:=k
 simp only[cg]at k
 have L:=bf hc
 have M:=bf k
 have A:∀K,(H++K)[b]?=H[b]?:=fun K=>abE (by omega)
 have p:∀K,(H++K)[c]?=H[c]?:=fun K=>abE (by omega)
 rw[k]at A
 rw[hc]at p
 rcases y with⟨rfl,rfl⟩|⟨h,v,rfl,i⟩
 .simp[f217,k,hc,u,p]
  refine⟨.sl (H.length+1) 0 0 1,ba (p _),.inr ⟨H.length+1,0,rfl,?_⟩,fun m n i B=>?_,fun m hm=>?_⟩
  .rw[aat (by omega),jh];rfl
  .rw[aat (ait n),abE B]
  .simp[rf]at hm
   exact .inr (by omega)
 .have N:=bf i
  have t:∀K,(H++K)[h]?=H[h]?:=fun K=>abE (by omega)
  rw[i]at t
  have w:h≠c:=fun e=>by
   subst e
   rw[hc]at i
   cases i
  have x:∀K X,((H++K).set h X)[c]?=some (ah 1 [[.sl h v 0 l.length]]):=fun K X=>by rw[aat w];exact p K
  have D:l.length+1<=maxLen:=by unfold maxLen;omega
  have E:(l.length+1)*48<=140737488355328:=by omega
  simp[f217,k,hc,u,t,x,D,E]
  refine⟨.sl h (v+1) 0 (l.length+1),ba (x _ _),.inr ⟨h,v+1,by simp,?_⟩,fun m n F G=>?_,fun m hm=>?_⟩
  .rw[aat (ait w),ba (t _)]
   simp[bY,nG]
  .rw[aat (ait n),aat (fun e=>F (by subst e;simp[rf])),abE G]
  .simp[rf]at hm|-
   exact .inl hm
section
variable{C:bu}{f:FuncId}{c:Code}{fn:Func}{H:List Ob}{α:Type}
def Ends.loop{i:Nat}{r k}{Q:Exit->St->Prop}(P:St->Prop)(h:Ends r fun a S=>a= .exit i/\P S)(b:∀S,P S->Ends (k S) Q):Ends (Go.Nx.sq (Go.Nx.bl i r) k) Q:=by refine Ends.sq (Ends.bl (h.mono fun a S h=>?_));obtain⟨rfl,h⟩:=h;simp only[if_true];exact b S h
def fQ{f:Nat}{a b d:Code}{S:St}:ev C f (.seq a (.seq b d)) S=ev C f (.seq (.seq a b) d) S:=by
 rw[iM,iM,iM];cases ev C f a S with
 |none=>rfl
 |some r=>have⟨c,e⟩:=r;cases c<;>simp[Go.Nx.sq,iM]
def aeg{args:List aw}(Q:aw->List Ob->Prop)(i:C.P.funcs[f]?=some fn)(a:nV C f fn args.length=some c)
  (h:Ends (ev C f (cr c) ⟨fP 0 args,H,[]⟩) fun b S=>(b= .normal\/b= .ret)/\S.bG=[]/\∃r,gY C.P S.env S.heap fn.results.toList=some r/\Q r S.heap):∃r d,bB C (ev C) f args H=some (r,d)/\lW C (ev C) f args H=some (r,d)/\Q r d:=by
 rw[ua]at h
 unfold Ends at h
 split at h
 .rename_i b S j
  have⟨k,l,r,g,m⟩:=h
  have⟨e,G,p⟩:=S
  simp only at l g m
  subst l
  refine⟨r,G,En i a ?_,?_,m⟩
  .rw[j]
   rcases k with rfl|rfl<;>simp[-gY,iX,g]
  .have ⟨n,a,o⟩:=Qe a
   unfold lW
   rw[n,i]
   simp only[aes,if_false,a]
   rw[if_pos o,j]
   rcases k with rfl|rfl<;>simp[-gY,g]
 .exact h.elim
def af1{args:List aw}(Q:aw->List Ob->Prop)(j:C.P.funcs[f]?=some fn)(k:nV C f fn args.length=some c)
  (h:Ends (ev C f (cr c) ⟨fP 0 args,H,[]⟩) fun b S=>(b= .normal\/b= .ret)/\∃g d e a,S.bG=[(g,d)]/\C.kR g=false/\C.dH g=false/\lW C (ev C) g d S.heap=some (e,a)/\∃r,gY C.P S.env a fn.results.toList=some r/\Q r a):∃r i,bB C (ev C) f args H=some (r,i)/\Q r i:=by
 rw[ua]at h
 unfold Ends at h
 split at h
 .rename_i b S l
  have⟨m,g,d,e,a,n,o,p,q,r,s,t⟩:=h
  refine⟨r,a,En j k ?_,t⟩
  rw[l]
  have u:iX C (ev C) S.bG S.heap=some a:=by rw[n];simp[iX,o,p,q]
  rcases m with rfl|rfl<;>simp[-gY,u,s]
 .exact h.elim
def qi(e:Lk)(j:Nat):Fm:=nG e 1 (aiY.wrap (e.base+aiY.wrap j)) (e.queue.getD j [])
def pX(e:Lk):Nat:=(min e.win (e.queue.length:Int)).toNat
def tI(e:Lk):List Fm:=(aiZ (pX e-e.bN.toNat)).map fun i=>qi e (e.bN.toNat+i)
def jA(e:Lk):Int:=max e.bN (pX e)
def iK(e:Lk):Lk×List Fm:=
 ({e with bN:=jA e,gH:=max e.gH (jA e),due:=false},if tI e=[]/\e.due=true then [nG e 2 0 []]else tI e)
abbrev bx:=List UInt8
def up(f:Bool->α)(s:Bool)(x:α):Bool->α:=fun t=>if t=s then x else f t
def pO(f:Bool->α)(s:Bool)(x:α):up f s x s=x:=by simp[up]
def qn(f:Bool->α){s t:Bool}(x:α)(h:t≠s):up f s x t=f t:=by simp[up,h]
def FZ(f:Bool->α)(s:Bool):up f s (f s)=f:=by
 funext t;unfold up;split
 .rename_i h;rw[h]
 .rfl
structure Pp where
 e:Bool->Lk
 q:Bool->List bx
 room:Nat
 dR:Bool->Nat
def wO(a b c room:Int):Pp:=⟨fun _=>oz 1 0 a b c,fun _=>[],(eB room 0 1000).toNat,fun _=>0⟩
def Pp.jO(p:Pp)(s:Bool)(x:Lk):Pp:=⟨up p.e s x,p.q,p.room,p.dR⟩
def Pp.ud(p:Pp)(s:Bool)(l:List bx):Pp:=⟨p.e,up p.q s l,p.room,p.dR⟩
def Pp.zN(p:Pp)(s:Bool)(t:Option bx):Pp:=match t with
 |none=>p
 |some _=>⟨p.e,p.q,p.room,up p.dR s (p.dR s+1)⟩
def dV(l:List α)(k:Int):Option α:=if k<0 then none else l[k.toNat]?
def nP(room:Nat)(l:List bx)(b:bx):List bx:=if l.length<room then l++[b]else l
def Pp.send(p:Pp)(s:Bool)(b:bx):Pp×Int:=(p.jO s (nC (p.e s) b).1,(nC (p.e s) b).2)
def gL(room:Nat):List Fm->List bx->Nat->List bx×Nat
 |[],l,n=>(l,n)
 |f::a,l,n=>if(jW f).2=0/\l.length<room then gL room a (l++[(jW f).1]) (n+1)else gL room a l n
def Pp.go(p:Pp)(s:Bool):Pp×Nat:=
 let r:=gL p.room (iK (p.e s)).2 (p.q s) 0
 ((p.jO s (iK (p.e s)).1).ud s r.1,r.2)
def Pp.tick(p:Pp)(s:Bool):Pp:=p.jO s (oS (p.e s))
def Pp.look(p:Pp)(s:Bool)(k:Int):Option bx:=dV (p.q (!s)) k
def Pp.cut(p:Pp)(s:Bool)(k:Int):Pp:=p.ud (!s) ((p.q (!s)).eraseIdx k.toNat)
def Pp.jk(p:Pp)(s:Bool)(k:Int):Pp×Option bx:=
 match p.look s k with
 |none=>(p,none)
 |some b=>if(lF (jV b)).2=0 then
   (let t:=iY ((p.cut s k).e s) (lF (jV b)).1
   (((p.cut s k).jO s t.1).zN s t.2,t.2))else(p.cut s k,none)
def Pp.je(p:Pp)(s:Bool)(k:Int):Pp×Bool:=
 match p.look s k with
 |none=>(p,false)
 |some _=>(p.cut s k,true)
def Pp.double(p:Pp)(s:Bool)(k:Int):Pp×Bool:=
 match p.look s k with
 |none=>(p,false)
 |some b=>(p.ud (!s) (nP p.room (p.q (!s)) b),decide ((p.q (!s)).length<p.room))
def xQ(s:bx)(b:Int):bx:=
 let a:=(max (max b (adW.wrap (-b))) 0).toNat % (8*s.length)
 s.set (a / 8) (al1 (ajf.wrap (jp .xor .u8 ((s.getD (a / 8) 0).toNat:Int) (ajf.wrap (2 ^ (a % 8))))).toNat)
def Pp.flip(p:Pp)(s:Bool)(k a:Int):Pp×Bool:=
 match p.look s k with
 |none=>(p,false)
 |some b=>if b=[]then(p,false)else(p.ud (!s) ((p.q (!s)).set k.toNat (xQ b a)),true)
structure Tr where
 left:List cY
 bN:Nat
structure Cl where
 win:Int
 fy:Int
 wait:Int
 room:Int
 hold:Int
 nodes:List Nd
 pp:Nat->Nat->Pp
 tr:Nat->Nat->Tr
def cT(a b:Nat):Bool:=decide (b<a)
def Cl.pipe(c:Cl)(a b:Nat):Pp:=c.pp (min a b) (max a b)
def Cl.eR(c:Cl)(a b:Nat)(p:Pp):Cl:={c with pp:=fun x y=>if x=min a b/\y=max a b then p else c.pp x y}
def Cl.mO(c:Cl)(a b:Nat)(t:Tr):Cl:={c with tr:=fun x y=>if x=a/\y=b then t else c.tr x y}
def sendAll(s:Bool):List cY->Pp->Pp×Nat
 |[],p=>(p,0)
 |m::a,p=>if(p.send s (jv m).1).2=0 then((sendAll s a (p.send s (jv m).1).1).1,(sendAll s a (p.send s (jv m).1).1).2+1)else((p.send s (jv m).1).1,0)
def Cl.oV(c:Cl)(a b:Nat):Cl:=
 let r:=sendAll (cT a b) ((c.tr a b).left.drop (c.tr a b).bN) (c.pipe a b)
 (c.eR a b r.1).mO a b ⟨(c.tr a b).left,(c.tr a b).bN+r.2⟩
def others(n a:Nat):List Nat:=(aiZ n).filter fun i=>!decide (i=a)
def Cl.flush(c:Cl)(a:Nat):Cl:=(others c.nodes.length a).foldl (fun c b=>c.oV a b) c
def Cl.there(c:Cl)(a:Int):Prop:=0<=a/\a<c.nodes.length
def Cl.two(c:Cl)(a b:Int):Prop:=c.there a/\c.there b/\a≠b
instance(c:Cl)(a:Int):Decidable (c.there a):=inferInstanceAs (Decidable (_/\_))
instance(c:Cl)(a b:Int):Decidable (c.two a b):=inferInstanceAs (Decidable (_/\_))
def Cl.il(c:Cl)(m:cB):Cl:=if c.two m.src m.dst then c.mO m.src.toNat m.dst.toNat ⟨(c.tr m.src.toNat m.dst.toNat).left++[m.fN],(c.tr m.src.toNat m.dst.toNat).bN⟩else c
def Cl.pc(c:Cl)(n:Nd):Cl:={c with nodes:=c.nodes.set n.id.toNat n}
def Cl.take(c:Cl)(n:Nd)(l:List cB):Cl:=(l.foldl Cl.il (c.pc n)).flush n.id.toNat
def Cl.bP(c:Cl)(a:Int)(d:Act)(b:Cl)(s:List Ev)(e:Int):Prop:=
 if ¬c.there a\/(d.kind=4/\ ¬c.there d.peer)then b=c/\s=[]/\e=210
 else if(cO (c.nodes.getD a.toNat .zero) d).e≠0 then b=c.flush a.toNat/\s=[]/\e=(cO (c.nodes.getD a.toNat .zero) d).e
 else ∃v,jt (cO (c.nodes.getD a.toNat .zero) d) v/\b=c.take v.n v.out/\s=v.seen/\e=0
def Cl.yz(c:Cl)(a:Nat):Cl:=(others c.nodes.length a).foldl (fun c b=>c.eR a b ((c.pipe a b).tick (cT a b))) c
def Cl.tP(c:Cl)(a:Int)(b:Cl)(s:List Ev)(e:Int):Prop:=
 if ¬c.there a then b=c/\s=[]/\e=210 else Cl.bP (c.yz a.toNat) a ⟨3,0,0,c.hold,[]⟩ b s e
def Cl.vT(c:Cl)(a b:Nat):Cl:=c.eR a b ((c.pipe a b).go (cT a b)).1
def Aq(a:Nat):List Nat->Cl->Nat->Cl×Nat
 |[],c,n=>(c,n)
 |b::l,c,n=>Aq a l (c.vT a b) (n+((c.pipe a b).go (cT a b)).2)
def Cl.goes(c:Cl)(a:Int):Cl×Nat×Int:=if ¬c.there a then(c,0,210)else((Aq a.toNat (others c.nodes.length a.toNat) (c.flush a.toNat) 0).1,(Aq a.toNat (others c.nodes.length a.toNat) (c.flush a.toNat) 0).2,0)
def Cl.look(c:Cl)(a b k:Int):Option bx:=if c.two a b then(c.pipe b.toNat a.toNat).look (cT b.toNat a.toNat) k else none
def Cl.tell(c:Cl)(a b:Nat):Cl:=c.mO a b (if(c.tr a b).left=[]then c.tr a b else⟨(c.tr a b).left.tail,(c.tr a b).bN-1⟩)
def Cl.Told(c:Cl)(a b:Nat)(s:bx)(d:Cl)(l:List Ev)(e:Int):Prop:=
 if(ln s).2≠0 then d=c.tell a b/\l=[]/\e=212
 else if(fK (c.nodes.getD b .zero) a (ln s).1).e≠0 then d=c.tell a b/\l=[]/\e=212
 else ∃v,jt (fK (c.nodes.getD b .zero) a (ln s).1) v/\d=(c.tell a b).take v.n v.out/\l=v.seen/\e=0
def Cl.Comes(c:Cl)(a b k:Int)(f:Cl)(l:List Ev)(e:Int):Prop:=
 if c.look a b k=none then f=c/\l=[]/\e=211
 else match((c.pipe b.toNat a.toNat).jk (cT b.toNat a.toNat) k).2 with
 |none=>f=(c.eR b.toNat a.toNat ((c.pipe b.toNat a.toNat).jk (cT b.toNat a.toNat) k).1).flush b.toNat/\l=[]/\e=0
 |some s=>∃d,Cl.Told (c.eR b.toNat a.toNat ((c.pipe b.toNat a.toNat).jk (cT b.toNat a.toNat) k).1) a.toNat b.toNat s d l e/\f=d.flush b.toNat
def Cl.qY(c:Cl)(a b:Int)(f:Pp->Bool->Pp×Bool):Cl×Int:=
 if c.two a b then(c.eR b.toNat a.toNat (f (c.pipe b.toNat a.toNat) (cT b.toNat a.toNat)).1,if(f (c.pipe b.toNat a.toNat) (cT b.toNat a.toNat)).2=true then 0 else 211)else(c,211)
def Cl.je(c:Cl)(a b k:Int):Cl×Int:=c.qY a b fun p s=>p.je s k
def Cl.double(c:Cl)(a b k:Int):Cl×Int:=c.qY a b fun p s=>p.double s k
def Cl.flip(c:Cl)(a b k d:Int):Cl×Int:=c.qY a b fun p s=>p.flip s k d
def Cl.oY(c:Cl)(a b:Int):List cY:=if c.two a b then(c.tr a.toNat b.toNat).left else []
end
section
variable{H':List Ob}{n m:Nat}{q:ab}{l:List bx}
def dK{f:FuncId}(hm:tz.md f=3){args:List aw}{H:List Ob}{r:Option (aw×List Ob)}(h:bB tz (ev tz) f args H=r):aO tz ay f args H=r:=by rw[aD,if_pos (.inl hm)];exact h
inductive aU where
 |none
 |cl (k:Nat)
 |pp (a b k:Nat)
 |tr (a b:Nat)
deriving DecidableEq
structure aH(K:aU->Prop)(c c':Nat->aU)(H H':List Ob):Prop where
 len:H.length<=H'.length
 jK:∀m,m<H.length->c' m=c m
 aK:∀m,m<H.length-> ¬K (c m)->H'[m]?=H[m]?
def aH.refl(K:aU->Prop)(c:Nat->aU)(H:List Ob):aH K c c H H:=⟨ad3 _,fun _ _=>rfl,fun _ _ _=>rfl⟩
def aH.trans{K:aU->Prop}{c b d:Nat->aU}{H H' e:List Ob}(h:aH K c b H H')(a:aH K b d H' e):aH K c d H e:=
 ⟨ai5 h.len a.len,fun m hm=>(a.jK m (aiS hm h.len)).trans (h.jK m hm),fun m hm f=>(a.aK m (aiS hm h.len) (by rw[h.jK m hm];exact f)).trans (h.aK m hm f)⟩
def aH.mono{K a:aU->Prop}{c b:Nat->aU}{H:List Ob}(h:aH K c b H H')(d:∀x,K x->a x):aH a c b H H':=⟨h.len,h.jK,fun m hm hn=>h.aK m hm fun e=>hn (d _ e)⟩
def aH.fresh{K:aU->Prop}{c b:Nat->aU}{H a:List Ob}(h:aH K c b H H')(d:H'.length<=a.length)(e:∀m,m<H.length->a[m]?=H'[m]?):aH K c b H a:=⟨ai5 h.len d,h.jK,fun m hm hn=>(e m hm).trans (h.aK m hm hn)⟩
def ext(c:Nat->aU)(n:Nat)(k:aU):Nat->aU:=fun m=>if m<n then c m else k
def jf{c:Nat->aU}{k:aU}(h:m<n):ext c n k m=c m:=if_pos h
def jr{c:Nat->aU}{k:aU}(h:n<=m):ext c n k m=k:=if_neg (by omega)
def aH.of{K:aU->Prop}{c:Nat->aU}{H:List Ob}(k:aU)(a:H.length<=H'.length)(b:∀m,m<H.length-> ¬K (c m)->H'[m]?=H[m]?):aH K c (ext c H.length k) H H':=⟨a,fun m hm=>jf hm,b⟩
def aH.get{K:aU->Prop}{c a:Nat->aU}{H:List Ob}(h:aH K c a H H'){o:Ob}(hm:H[m]?=some o)(b:¬K (c m)):H'[m]?=some o/\a m=c m:=⟨by rw[h.aK m (bf hm) b];exact hm,h.jK m (bf hm)⟩
def jJ.lt{H:List Ob}(h:jJ H q l):∀m∈rf q,m<H.length:=by
 rcases h with⟨_,rfl⟩|⟨h,v,b,rows,rfl,a,_⟩
 .intro m hm;simp[rf]at hm
 .intro m hm;simp[rf]at hm;subst hm;exact bf a
def jJ.same{H:List Ob}(h:jJ H q l)(a:∀m∈rf q,H'[m]?=H[m]?):jJ H' q l:=by
 rcases h with h|⟨h,v,b,rows,rfl,c,d⟩
 .exact .inl h
 .exact .inr ⟨h,v,b,rows,rfl,by rw[a h (by simp[rf])];exact c,d⟩
structure ib(e:Lk):Prop where
 q:e.queue.length<=64
 w0:1<=e.win
 w1:e.win<=8
 r1:e.room<=64
 t1:e.wait<=100
 s0:0<=e.bN
 sm:e.bN<=e.gH
 tp:e.gH<=e.queue.length
 a0:0<=e.cH
 a1:e.cH<=100
 b:∀s∈e.queue,s.length<=64
def ib.ok{e:Lk}(h:ib e):FD e:=⟨by have:=h.q;omega,h.s0,by have:=h.sm;have:=h.tp;have:=h.q;omega,by have:=h.s0;have:=h.sm;omega,h.tp⟩
def Uu(a b c room d:Int):ib (oz a b c room d):=by constructor<;>simp[oz,eB]<;>omega
def WA{e:Lk}(h:ib e):ib (oS e):=by
 have⟨a,b,c,d,f,j,k,g,l,m,i⟩:=h;unfold oS;split
 .exact ⟨a,b,c,d,f,j,k,g,l,m,i⟩
 .split
  .exact ⟨a,b,c,d,f,by simp,by simp;omega,g,by simp,by simp,i⟩
  .exact ⟨a,b,c,d,f,j,k,g,by simp;omega,by simp;omega,i⟩
def VQ{e:Lk}(h:ib e)(s:bx):ib (nC e s).1:=by
 have⟨m,b,c,d,f,g,i,n,j,k,l⟩:=h;unfold nC;split
 .exact ⟨m,b,c,d,f,g,i,n,j,k,l⟩
 split
 .exact ⟨m,b,c,d,f,g,i,n,j,k,l⟩
 .rename_i o p;refine⟨by simp;omega,b,c,d,f,g,i,by simp;omega,j,k,fun t a=>?_⟩;simp at a;rcases a with a|rfl
  .exact l _ a
  .omega
def Tf{e:Lk}(h:ib e):ib (iK e).1:=by
 have⟨a,b,c,d,f,k,l,m,g,i,j⟩:=h;refine⟨a,b,c,d,f,?_,?_,?_,g,i,j⟩
 .show 0<=jA e;unfold jA;omega
 .show jA e<=max e.gH (jA e);omega
 .show max e.gH (jA e)<=e.queue.length;unfold jA pX;omega
def aai{e:Lk}(h:ib e)(hn:(n:Int)<=e.gH):ib (mX e n):=by
 have⟨i,a,b,c,d,j,k,l,m,o,f⟩:=h;refine⟨?_,a,b,c,d,?_,?_,?_,by simp[mX],by simp[mX],fun s g=>f s (ajY g)⟩
 .simp[mX];omega
 .simp[mX];omega
 .simp[mX];omega
 .simp[mX];omega
def Lz{e:Lk}(h:ib e)(f:Fm):ib (qm e f):=by
 unfold qm;split
 .rename_i hc;have a:=h.s0;have b:=h.sm;have c:=h.tp;have d:=h.q;rw[wrap_u64 (by omega) (by omega)]at hc;refine aai h ?_;rw[fw (by omega) (by omega)];omega
 .exact h
def UA{e:Lk}(h:ib e)(f:Fm):ib (iY e f).1:=by
 have g:=Lz h f;have⟨a,b,c,d,i,j,k,l,m,n,o⟩:=g;unfold iY;split
 .exact h
 split
 .exact Lz h f
 split<;>exact⟨a,b,c,d,i,j,k,l,m,n,o⟩
def o9(H:List Ob)(c:Nat->aU)(k:aU)(b:Nat)(e:Lk):Prop:= ∃q,H[b]?=some (ah 11 [cg e q])/\jJ H q e.queue/\c b=k/\∀m∈rf q,c m=k
def o9.aK{H H':List Ob}{c g:Nat->aU}{k:aU}{K:aU->Prop}{b:Nat}{e:Lk}(h:o9 H c k b e)(a:aH K c g H H')(i:¬K k):o9 H' g k b e:=by
 have⟨q,d,f,j,l⟩:=h;refine⟨q,?_,f.same fun m hm=>a.aK m (f.lt m hm) (by rw[l m hm];exact i),?_,fun m hm=>by rw[a.jK m (f.lt m hm)];exact l m hm⟩
 .rw[a.aK b (bf d) (by rw[j];exact i)];exact d
 .rw[a.jK b (bf d)];exact j
section
variable{H:List Ob}{c:Nat->aU}{k:aU}{b:Nat}{e:Lk}
def UF(h:o9 H c k b e)(n:ib e)(s:bx):∃H' a,aO tz ay 135 [au b,.c (Sg s)] H=some (aa (nC e s).2,H')/\o9 H' a k b (nC e s).1/\aH (· =k) c a H H':=by
 have⟨q,d,g,i,j⟩:=h;have⟨o,H',p,r,t,u,v,w⟩:=afU s d g (by have:=n.q;omega);refine⟨H',ext c H.length k,by rw[dz (f:=135) rfl];exact p,⟨o,r,t,?_,?_⟩,?_⟩
 .rw[jf (bf d)];exact i
 .intro m hm;rcases v m hm with h|h
  .rw[jf (g.lt m h)];exact j m h
  .exact jr h
 .exact aH.of k w fun m hm l=>u m (fun e=>l (by rw[e];exact i)) (fun x=>l (j m x)) hm
end
end
section
variable{n h b beg:Nat}{H:List Ob}{rows:List (List ab)}
def TE(rows:List (List ab))(beg n:Nat)(b:n<=rows.length)(d:rows.length<=1000):aS tz ay 0 275 [.c (.aJ [[.aj rows,I beg,I n]] 0 0)]=some (aa ((rows.length:Int)-n),[]):=by refine be func275 rfl ?_;have a:adW.wrap ((rows.length:Int)-n)=(rows.length:Int)-n:=fw (by omega) (by omega);simp[f275,a]
def Jp(rows:List (List ab))(beg n i:Nat)(g:beg<=1000)(h:i<=1000)(a:0<rows.length):aS tz ay 0 276 [.c (.aJ [[.aj rows,I beg,I n]] 0 0),aa i]=some (aa ((beg+i) % rows.length:Nat),[]):=by
 refine be func276 rfl ?_;have b:adW.wrap ((beg:Int)+i)=((beg+i:Nat):Int):=by rw[fw (by omega) (by omega)];omega
 have d:¬rows=[]:=fun e=>by rw[e]at a;exact Nat.lt_irrefl _ a
 have f:((beg+i:Nat):Int).tmod rows.length=((beg+i) % rows.length:Nat):=rfl;simp[f276,b,d,f,-ad0,-amo]
structure mw(H:List Ob)(b h:Nat)(cells:List bx)(beg n:Nat):Prop where
 hb:H[b]?=some (ah 3 [[.sl h 0 0 cells.length,I beg,I n]])
 hh:H[h]?=some (ah 1 (cells.map cZ))
 cl:cells.length<=1000
 bl:beg<=1000
 nl:n<=cells.length
def vJ(l:List bx):bA (l.map cZ)=true:=jg _ (fun _=>rfl) l
def zF{v b len z:Nat}{a:List (List ab)}(c:H[h]?=some (.live v z rows))(d:Go.Nx.view H (.sl h v b len)=some a)(e:bA a=true):bU H (n+1) (.sl h v b len)=some (.aj a,[z]):=by simp only[bU,bC,obj,c,d,jb,e,if_true,aes,if_false]
def acn{v i k z:Nat}{a:List (List ab)}{c:List Nat}(d:H[b]?=some (.live v z rows))(e:jb (bU H n) rows=some (a,c)):bU H (n+1) (.ptr b v i k)=some (.aJ a i k,z::c):=by simp only[bU,bC,obj,d,e,if_true,aes,if_false]
def yS{l:ab}(h:bC l=true):bU H (n+1) l=some (l,[]):=by simp only[bU,h,if_true]
def vI{k:IntKind}{i:Int}:bU H (n+1) (.v (.int k i))=some (.v (.int k i),[]):=yS rfl
def um{v lo len z:Nat}(a:H[h]?=some (.live v z rows))(b:lo+len<=rows.length):Go.Nx.view H (.sl h v lo len)=some ((rows.drop lo).take len):=by simp only[Go.Nx.view,obj,a,if_true,if_pos b]
def mw.view{cells:List bx}(r:mw H b h cells beg n):bU H 6 (.ptr b 0 0 0)=some (.aJ [[.aj (cells.map cZ),I beg,I n]] 0 0,[3,1]):=by have a:=um (lo:=0) (len:=cells.length) r.hh (by simp);rw[akn,acu (by simp)]at a;have c:=zF (n:=4) r.hh a (vJ _);refine acn r.hb ?_;simp only[jb,bA,cy,bC,ak2,aes,if_false,jR,eX,c,yS (l:=I beg) rfl,yS (l:=I n) rfl];rfl
def aaS{cells:List bx}(r:mw H b h cells beg n):aO tz ay 275 [au b] H=some (aa ((cells.length:Int)-n),H):=by have a:=TE (cells.map cZ) beg n (by simpa using r.nl) (by simpa using r.cl);have c:=r.view;simp[-bU,a,c]
def AH{cells:List bx}(r:mw H b h cells beg n)(i:Nat)(a:i<=1000)(hc:0<cells.length):aO tz ay 276 [au b,aa i] H=some (aa ((beg+i) % cells.length:Nat),H):=by have c:=Jp (cells.map cZ) beg n i r.bl a (by simpa using hc);have d:=r.view;simp[-bU,-amo,-ad0,c,d,vI]
def iO(cells:List bx)(beg i:Nat):bx:=cells.getD ((beg+i) % cells.length) []
def VT(cells:List bx)(beg n:Nat)(i:Int)(g:beg<=1000)(m:n<=cells.length)(o:cells.length<=1000):aS tz ay 0 239 [.c (.aJ [[.aj (cells.map cZ),I beg,I n]] 0 0),aa i]=some (if 0<=i/\i<n then .aM [.c (Sg (iO cells beg i.toNat)),aR true]else .aM [.c (Sg []),aR false],[]):=by
 refine be func239 rfl ?_;by_cases c1:i<0
 .have c2:¬(0<=i/\i<n):=by omega
  simp[f239,c1,c2]
 by_cases c2:i<n
 .have c3:0<=i/\i<n:=by omega
  have c4:¬(n:Int)<=i:=by omega
  have a:=Jp (cells.map cZ) beg n i.toNat g (by omega) (by simp;omega);rw[show((i.toNat:Nat):Int)=i by omega]at a;have⟨k,b⟩:=ak ((beg+i.toNat) % cells.length);have d:k<cells.length:=by rw[<-b];exact akE _ (by omega)
  have h:iO cells beg i.toNat=cells[k]:=by unfold iO;rw[b,ae5,abM d];rfl
  have f:(cells.map cZ)[k]?=some (cZ cells[k]):=by rw[adf,abM d];rfl
  simp only[aio,b]at a;have⟨R,e⟩:=ak (cells.map cZ);have j:bA R=true:=by rw[<-e];exact vJ _
  rw[e]at a f|-;rw[h];have l:k<R.length:=by rw[<-e];simpa using d
  simp[-getElem?_pos,f239,c1,c2,c3,c4,a,f,l,j,cZ]
 .have c3:¬(0<=i/\i<n):=by omega
  have c4:(n:Int)<=i:=by omega
  simp[f239,c1,c2,c4]
end
def Wz{L a i j:Nat}(e:i<L)(c:j<L)(h:(a+i) % L=(a+j) % L):i=j:=by
 have d:∀ {i j:Nat},j<L->i<=j->(a+i) % L=(a+j) % L->i=j:=fun{i j} c f h=>by have b:=Nat.sub_mod_eq_zero_of_mod_eq h.symm;rw[show a+j-(a+i)=j-i by omega,amh (by omega)]at b;omega
 rcases Nat.le_total i j with b|b
 .exact d c b h
 .exact (d e b h.symm).symm
def Ft{cells:List bx}{a k i:Nat}{x:bx}(b:k<cells.length)(c:i<cells.length):iO (cells.set ((a+k) % cells.length) x) a i=if i=k then x else iO cells a i:=by
 unfold iO;rw[aiP,ae5,ae5];have d:(a+k) % cells.length<cells.length:=akE _ (by omega);split
 .rename_i h;subst h;rw[ahr d];rfl
 .rename_i h;rw[aat (fun e=>h (Wz c b e.symm))]
def eJ(cells:List bx)(a n:Nat):List bx:=(aiZ n).map (iO cells a)
def mg(cells:List bx)(a n:Nat):(eJ cells a n).length=n:=by simp[eJ]
def vG{cells:List bx}{a n i:Nat}(h:i<n):(eJ cells a n)[i]?=some (iO cells a i):=by simp[eJ,h]
def Yn{cells:List bx}{a n:Nat}{x:bx}(h:n<cells.length):eJ (cells.set ((a+n) % cells.length) x) a (n+1)=eJ cells a n++[x]:=by
 unfold eJ;rw[aj2,aid];congr 1
 .apply ajp;intro i b;have:=alB.1 b;rw[Ft h (by omega),if_neg (by omega)]
 .simp[Ft h h]
def qG(cells:List bx)(a n:Nat)(s:bx):List bx:=cells.set ((a+n) % cells.length) s
def SD(l:List bx)(k:Nat)(s:bx):(l.map cZ).set k [Sg s]=(l.set k s).map cZ:=by rw[aiC];rfl
def aeX{H:List Ob}{b h:Nat}{cells:List bx}{a n:Nat}(r:mw H b h cells a n)(s:bx):∃i,bB tz (ev tz) 222 [au b,.c (Sg s)] H=some (aR (decide (n<cells.length)),i)/\
  i=if n<cells.length then(H.set h (ah 1 ((qG cells a n s).map cZ))).set b (ah 3 [[.sl h 0 0 cells.length,I a,I (n+1:Nat)]])else H:=by
 refine gj func222 rfl ?_
 have d:=aaS r
 have f:=r.hb
 have g:=r.hh
 have t:=r.cl
 have u:=r.nl
 by_cases c1:n<cells.length
 .have j:=AH r n (by omega) (by omega)
  have⟨k,l⟩:=ak ((a+n) % cells.length)
  have m:k<cells.length:=by rw[<-l];exact akE _ (by omega)
  unfold qG
  rw[l]at j|-
  have c2:¬(cells.length:Int)-n=0:=by omega
  have o:adW.wrap ((n:Int)+1)=((n+1:Nat):Int):=cv (by omega)
  have p:h≠b:=fun e=>by subst e;rw[f]at g;cases g
  have q:∀X,(H.set h X)[b]?=some (ah 3 [[.sl h 0 0 cells.length,I a,I n]]):=fun X=>by rw[aat p];exact f
  have hm:(cells.map cZ)[k]?=some [Sg cells[k]]:=by rw[adf,abM m];rfl
  simp[-aD,-getElem?_pos,f222,d,j,f,g,q,c1,c2,o,m,hm,-ad0]
  rfl
 .have c2:(cells.length:Int)-n=0:=by omega
  rw[c2]at d
  simp[-aD,f222,d,c1]
def fB(H:List Ob)(c:Nat->aU)(k:aU)(b room:Nat)(l:List bx):Prop:= ∃h cells a n,mw H b h cells a n/\cells.length=room/\l=eJ cells a n/\c b=k/\c h=k
def mw.aK{H H':List Ob}{b h:Nat}{cells:List bx}{a n:Nat}(r:mw H b h cells a n)(c:H'[b]?=H[b]?)(d:H'[h]?=H[h]?):mw H' b h cells a n:=⟨c.trans r.hb,d.trans r.hh,r.cl,r.bl,r.nl⟩
def fB.aK{H H':List Ob}{c d:Nat->aU}{k:aU}{K:aU->Prop}{b room:Nat}{l:List bx}(h:fB H c k b room l)(a:aH K c d H H')(e:¬K k):fB H' d k b room l:=by have⟨h,cells,i,n,r,j,m,f,g⟩:=h;exact⟨h,cells,i,n,r.aK (a.aK b (bf r.hb) (by rw[f];exact e)) (a.aK h (bf r.hh) (by rw[g];exact e)),j,m,by rw[a.jK b (bf r.hb)];exact f,by rw[a.jK h (bf r.hh)];exact g⟩
def fB.room{H:List Ob}{c:Nat->aU}{k:aU}{b room:Nat}{l:List bx}(h:fB H c k b room l):l.length<=room/\room<=1000/\b<H.length:=by obtain⟨h,cells,a,n,r,rfl,rfl,_⟩:=h;rw[mg];exact⟨r.nl,r.cl,bf r.hb⟩
def pD{c:Nat->aU}{k:aU}{b h:Nat}{H a:List Ob}(i:a.length=H.length)(d:c b=k)(f:c h=k)(g:∀m,m≠b->m≠h->a[m]?=H[m]?):aH (· =k) c c H a:=
 ⟨by omega,fun _ _=>rfl,fun m _ hm=>g m (fun e=>hm (by rw[e];exact d)) (fun e=>hm (by rw[e];exact f))⟩
def Qv{H:List Ob}{c:Nat->aU}{k:aU}{b room:Nat}{l:List bx}(h:fB H c k b room l)(s:bx):∃d,aO tz ay 222 [au b,.c (Sg s)] H=some (aR (decide (l.length<room)),d)/\fB d c k b room (nP room l s)/\aH (· =k) c c H d:=by
 obtain⟨h,cells,a,n,r,rfl,rfl,j,o⟩:=h;have⟨d,t,g⟩:=aeX r s;refine⟨d,by rw[dz (f:=222) rfl,t,mg],?_⟩;unfold nP;rw[mg];by_cases c1:n<cells.length
 .rw[if_pos c1]at g;rw[if_pos c1];have q:h≠b:=fun e=>by have p:=r.hb;have i:=r.hh;subst e;rw[p]at i;cases i
  subst g;refine⟨⟨h,qG cells a n s,a,n+1,⟨?_,?_,?_,r.bl,?_⟩,by simp[qG],(Yn c1).symm,j,o⟩,?_⟩
  .have u:(H.set h (ah 1 ((qG cells a n s).map cZ)))[b]?=some (ah 3 [[.sl h 0 0 cells.length,I a,I n]]):=by rw[aat q];exact r.hb
   rw[show(qG cells a n s).length=cells.length by simp[qG]];exact ba u
  .rw[aat (ait q)];exact ba r.hh
  .simpa[qG]using r.cl
  .simpa[qG]using Nat.succ_le_of_lt c1
  .exact pD (by simp) j o fun m p i=>by rw[aat (ait p),aat (ait i)]
 .rw[if_neg c1]at g;rw[if_neg c1];subst g;exact⟨⟨h,cells,a,n,r,rfl,rfl,j,o⟩,aH.refl _ _ _⟩
section
variable{H:List Ob}{b beg n:Nat}{c:Nat->aU}{k:aU}{l:List bx}
def eF(o:Option bx):aw:= .aM [.c (Sg (o.getD [])),aR o.isSome]
def DE(cells:List bx)(beg n:Nat)(i:Int):dV (eJ cells beg n) i=if 0<=i/\i<n then some (iO cells beg i.toNat)else none:=by
 unfold dV;by_cases c1:i<0
 .rw[if_pos c1,if_neg (by omega)]
 .rw[if_neg c1];by_cases c2:i<n
  .rw[if_pos (by omega),vG (by omega)]
  .rw[if_neg (by omega),aiE (by rw[mg];omega)]
def JN{h:Nat}{cells:List bx}(r:mw H b h cells beg n)(i:Int):aO tz ay 239 [au b,aa i] H=some (eF (dV (eJ cells beg n) i),H):=by
 have a:=VT cells beg n i r.bl r.nl r.cl;have d:=r.view;rw[DE];unfold eF;by_cases c:0<=i/\i<n
 .simp only[if_pos c]at a|-;simp[-bU,a,d,vI]
 .simp only[if_neg c]at a|-;simp[-bU,a,d,vI]
def adG{room:Nat}(h:fB H c k b room l)(i:Int):aO tz ay 239 [au b,aa i] H=some (eF (dV l i),H):=by obtain⟨h,cells,beg,n,r,rfl,rfl,a,d⟩:=h;exact JN r i
structure uc(cells:List bx)(beg n a i:Nat)(cs:List bx):Prop where
 l:cs.length=cells.length
 v:∀j,j<n->iO cs beg j=if a<=j/\j<i then iO cells beg (j+1)else iO cells beg j
def uc.step{cells cs:List bx}{a i:Nat}(h:uc cells beg n a i cs)(b:a<=i)(d:i+1<n)(hn:n<=cells.length):uc cells beg n a (i+1) (cs.set ((beg+i) % cells.length) (iO cs beg (i+1))):=by
 refine⟨by rw[aiP];exact h.l,fun j f=>?_⟩;rw[<-h.l,Ft (by rw[h.l];omega) (by rw[h.l];omega)];by_cases e:j=i
 .subst e;rw[if_pos rfl,if_pos ⟨b,by omega⟩,h.v _ d,if_neg (by omega)]
 .rw[if_neg e,h.v j f];by_cases c:a<=j/\j<i
  .rw[if_pos c,if_pos (by omega)]
  .rw[if_neg c,if_neg (by omega)]
def uc.fin{cells cs:List bx}{a:Nat}(h:uc cells beg n a (n-1) cs)(b:a<n):eJ cs beg (n-1)=(eJ cells beg n).eraseIdx a:=by
 apply aju;intro j;rw[List.getElem?_eraseIdx];by_cases c:j<n-1
 .rw[vG c,h.v j (by omega)];by_cases d:j<a
  .rw[if_pos d,vG (by omega),if_neg (by omega)]
  .rw[if_neg d,vG (by omega),if_pos (by omega)]
 .rw[aiE (by rw[mg];omega)];split
  .rename_i d;omega
  .rw[aiE (by rw[mg];omega)]
def Fu(H:List Ob)(b h:Nat)(cells:List bx)(beg n:Nat)(l:List bx)(a:List Ob):Prop:=
 ∃cs c,mw a b h cs beg c/\cs.length=cells.length/\eJ cs beg c=l/\a.length=H.length/\∀m,m≠b->m≠h->a[m]?=H[m]?
def ZU{H:List Ob}{b h:Nat}{cells:List bx}{beg n:Nat}(r:mw H b h cells beg n)(i:Int):∃E,bB tz (ev tz) 223 [au b,aa i] H=some (eF (dV (eJ cells beg n) i),E)/\
  Fu H b h cells beg n (if 0<=i/\i<n then(eJ cells beg n).eraseIdx i.toNat else eJ cells beg n) E:=by
 refine gj func223 rfl ?_
 have k:=JN r i
 have F:=r.cl
 have J:=r.nl
 rw[DE]at k|-
 by_cases c:0<=i/\i<n
 case neg=>
  simp only[if_neg c,eF,ajm,ajk]at k|-
  simp[-aD,f223,k]
  exact⟨cells,n,r,rfl,rfl,rfl,fun _ _ _=>rfl⟩
 simp only[if_pos c,eF,ai0,ajj]at k|-
 obtain⟨a,rfl⟩:∃a:Nat,i=a:=⟨i.toNat,by omega⟩
 simp only[ais]at k|-
 have T:a<n:=by omega
 have⟨s,U⟩:=ak (iO cells beg a)
 rw[U]at k|-
 simp[-aD,f223,k]
 refine Ends.loop (fun S=>S.env.get 6=some (.c (Sg s))/\S.env.get 0=some (au b)/\S.bG=[]/\∃cs,uc cells beg n a (n-1) cs/\S.heap=H.set h (ah 1 (cs.map cZ)))
  (gM (fun j:Nat=>[(6,.c (Sg s)),(0,au b),(8,aa j)]) (fun j G=>a<=j/\j+1<=n/\∃cs,uc cells beg n a j cs/\G=H.set h (ah 1 (cs.map cZ))) [] (fun j=>n-j) _ [6,0,8] (fun _=>rfl) ?_ a _ (by simp) ?_ rfl) ?_
 .rintro j⟨V,G,W⟩y⟨K,X,cs,f,g⟩L
  simp only at y K X f g L
  subst L
  simp at y
  have⟨p,q,M⟩:=y
  have t:=r.hb
  have m:=r.hh
  have u:h≠b:=fun e=>by rw[e,t]at m;cases m
  have o:G[b]?=some (ah 3 [[.sl h 0 0 cs.length,I beg,I n]]):=by rw[g,aat u,f.l];exact t
  have v:G[h]?=some (ah 1 (cs.map cZ)):=by rw[g];exact ba m
  have N:mw G b h cs beg n:=⟨o,v,by rw[f.l];exact F,r.bl,by rw[f.l];exact J⟩
  have w:adW.wrap ((j:Int)+1)=((j+1:Nat):Int):=cv (by omega)
  by_cases d:j+1<n
  .have O:=AH N j (by omega) (by rw[f.l];omega)
   have P:=AH N (j+1) (by omega) (by rw[f.l];omega)
   have z:=f.step K d J
   rw[<-f.l]at z
   have⟨A,B⟩:=ak ((beg+j) % cs.length)
   have⟨x,C⟩:=ak ((beg+(j+1)) % cs.length)
   have Q:0<cs.length:=by rw[f.l];omega
   have R:A<cs.length:=by rw[<-B];exact akE _ Q
   have D:x<cs.length:=by rw[<-C];exact akE _ Q
   have Y:iO cs beg (j+1)=cs[x]:=by unfold iO;rw[C,ae5,abM D];rfl
   rw[B,Y]at z
   rw[B]at O
   rw[C]at P
   have Z:(cs.map cZ)[A]?=some [Sg cs[A]]:=by rw[adf,abM R];rfl
   have m2:(cs.map cZ)[x]?=some [Sg cs[x]]:=by rw[adf,abM D];rfl
   have d2:((j+1:Nat):Int)<n:=by omega
   simp[-aD,-getElem?_pos,-ad0,p,q,M,o,v,w,d2,O,P,R,D,Z,m2]
   exact⟨j+1,by omega,rfl,by omega,by omega,_,z,by rw[g,ajN,SD]⟩
  .have d2:¬((j+1:Nat):Int)<n:=by omega
   simp[-aD,-ad0,p,q,M,o,w,d2]
   exact⟨cs,by rw[show n-1=j by omega];exact f,g⟩
 .exact ⟨ad3 _,by omega,cells,⟨rfl,fun j hj=>by rw[if_neg (by omega)]⟩,(lJ r.hh).symm⟩
 .rintro⟨V,G,W⟩⟨p,q,rfl,cs,f,g⟩
  simp only at p q f g
  have t:=r.hb
  have m:=r.hh
  have u:h≠b:=fun e=>by rw[e,t]at m;cases m
  have o:G[b]?=some (ah 3 [[.sl h 0 0 cs.length,I beg,I n]]):=by rw[g,aat u,f.l];exact t
  have v:G[h]?=some (ah 1 (cs.map cZ)):=by rw[g];exact ba m
  have w:adW.wrap ((n:Int)-1)=((n-1:Nat):Int):=by rw[fw (by omega) (by omega)];omega
  simp[p,q,o,w]
  refine⟨cs,n-1,⟨ba o,?_,by rw[f.l];exact F,r.bl,by rw[f.l];omega⟩,f.l,?_,by rw[aiP,g,aiP],fun ab k h2=>?_⟩
  .rw[aat (ait u)];exact v
  .rw[f.fin T]
  .rw[aat (ait k),g,aat (ait h2)]
def fB.Rz{a:List Ob}{h:Nat}{cells:List bx}(f:Fu H b h cells beg n l a)(d:c b=k)(e:c h=k):fB a c k b cells.length l/\aH (· =k) c c H a:=by have⟨cs,g,i,j,m,o,p⟩:=f;exact⟨⟨h,cs,beg,g,i,j,m.symm,d,e⟩,pD o d e p⟩
def aha{room:Nat}(h:fB H c k b room l)(i:Int):∃a,aO tz ay 223 [au b,aa i] H=some (eF (dV l i),a)/\fB a c k b room (if 0<=i/\i<l.length then l.eraseIdx i.toNat else l)/\aH (· =k) c c H a:=by obtain⟨h,cells,beg,n,r,rfl,rfl,d,e⟩:=h;have⟨a,g,j⟩:=ZU r i;rw[mg];exact⟨a,by rw[dz (f:=223) rfl,g],fB.Rz j d e⟩
def aeV{cells:List bx}{i:Nat}(hc:0<cells.length):iO cells ((beg+1) % cells.length) i=iO cells beg (i+1):=by unfold iO;rw[Nat.mod_add_mod,show beg+1+i=beg+(i+1)by omega]
def adi{cells:List bx}(hn:0<n)(hc:n<=cells.length):eJ cells ((beg+1) % cells.length) (n-1)=(eJ cells beg n).tail:=by
 apply aju;intro j;rw[List.getElem?_tail];by_cases c:j<n-1
 .rw[vG c,vG (by omega),aeV (by omega)]
 .rw[aiE (by rw[mg];omega),aiE (by rw[mg];omega)]
def adZ{H:List Ob}{b h:Nat}{cells:List bx}{beg n:Nat}(r:mw H b h cells beg n):∃l,bB tz (ev tz) 244 [au b] H=some (eF (dV (eJ cells beg n) 0),l)/\
  ∃p,Fu H b h cells p n (eJ cells beg n).tail l:=by
 refine gj func244 rfl ?_
 have a:=JN r 0
 have q:=r.cl
 have t:=r.nl
 rw[DE]at a|-
 by_cases c:(0:Int)<=0/\(0:Int)<n
 case neg=>
  have hn:n=0:=by omega
  subst hn
  simp only[if_neg c,eF,ajm,ajk]at a|-
  simp[-aD,f244,a]
  exact⟨beg,cells,0,r,rfl,rfl,rfl,fun _ _ _=>rfl⟩
 simp only[if_pos c,eF,ai0,ajj]at a|-
 have⟨s,d⟩:=ak (iO cells beg (0:Int).toNat)
 rw[d]at a|-
 have f:aO tz ay 276 [au b,aa 1] H=_:=AH r 1 (by omega) (by omega)
 have g:=r.hb
 have i:=r.hh
 have u:h≠b:=fun e=>by rw[e,g]at i;cases i
 have v:adW.wrap ((n:Int)-1)=((n-1:Nat):Int):=by rw[fw (by omega) (by omega)];omega
 have⟨k,j⟩:=ak ((beg+1) % cells.length)
 have w:k<cells.length:=by rw[<-j];exact akE _ (by omega)
 rw[j]at f
 have d:∀X,(H.set b X)[b]?=some X:=fun X=>ba g
 have o:=adi (beg:=beg) (by omega:0<n) t
 rw[j]at o
 simp[-aD,f244,a,f,g,d,v]
 refine⟨k,cells,n-1,⟨d _,?_,q,by omega,by omega⟩,rfl,o,by simp,fun m a f=>?_⟩
 .rw[aat (ait u)];exact i
 .rw[aat (ait a)]
def Zd{room:Nat}(h:fB H c k b room l):∃v a,aO tz ay 244 [au b] H=some (v,a)/\fB a c k b room l.tail/\aH (· =k) c c H a:=by obtain⟨h,cells,beg,n,r,rfl,rfl,d,e⟩:=h;have⟨a,g,j,i⟩:=adZ r;exact⟨_,a,by rw[dz (f:=244) rfl,g],fB.Rz i d e⟩
def VP(room:Int):aS tz ay 2 274 [aa room]=some (au 1,[ah 1 (ahv (eB room 0 1000).toNat (cZ [])),ah 3 [[.sl 0 0 0 (eB room 0 1000).toNat,I 0,I 0]]]):=by
 refine be func274 rfl ?_;obtain⟨n,hn⟩:∃n:Nat,eB room 0 1000=n:=⟨(eB room 0 1000).toNat,by unfold eB;omega⟩;have b:(n:Int)<=1000:=by rw[<-hn];unfold eB;omega
 rw[hn];unfold eB at hn;have a:16*(n:Int)<=281474976710656/\n<=maxLen:=⟨by omega,by unfold maxLen;omega⟩;simp[f274,hn,a,cZ]
def aaV(H:List Ob)(c:Nat->aU)(k:aU)(room:Int):∃b a,aO tz ay 274 [aa room] H=some (au b,a)/\fB a (ext c H.length k) k b (eB room 0 1000).toNat []/\aH (· =k) c (ext c H.length k) H a/\H.length<=b/\b<a.length:=by
 have h:=VP room;have⟨n,hn⟩:=ak ((eB room 0 1000).toNat:Nat);have f:n<=1000:=by rw[<-hn];unfold eB;omega
 rw[hn]at h|-;have⟨R,d⟩:=ak (ahv n (cZ []));have e:bA R=true:=by rw[<-d,show ahv n (cZ [])=(ahv n []).map cZ by simp];exact vJ _
 have g:(ahv n ([]:bx)).map cZ=R:=by rw[<-d];simp
 rw[d]at h;have i:dX H.length (ah 1 R)=ah 1 R:=qy e;refine⟨H.length+1,H++[ah 1 R,ah 3 [[.sl H.length 0 0 n,I 0,I 0]]],?_,⟨H.length,ahv n [],0,0,⟨?_,?_,by simpa using f,by omega,by omega⟩,by simp,by simp[eJ],jr (by omega),jr (by omega)⟩,aH.of k (by simp) fun m hm _=>abE hm,by omega,by simp⟩
 .have j:dX H.length (ah 3 [[.sl 0 0 0 n,I 0,I 0]])=ah 3 [[.sl H.length 0 0 n,I 0,I 0]]:=rfl;simp[h,ei,pB,jm,nT,rq,e,i,j,eN,bA,cy,bC]
 .rw[jh];simp
 .rw[p5,g];rfl
def BV(H:List Ob)(q:ab)(l:List bx):Prop:=(l=[]/\q=ap)\/∃h v,l≠ []/\q= .sl h v 0 l.length/\H[h]?=some (.live v 1 (l.map cZ))
def L4(cells:List bx)(beg n:Nat)(O:beg<=1000)(h2:n<=cells.length)(h3:cells.length<=1000){r:aw}{own:List Ob}(m:(if n=0 then(.c ap,[])else(bd 0 0 0 n,[ah 1 ((eJ cells beg n).map cZ)]))=(r,own)):aS tz ay 0 243 [.c (.aJ [[.aj (cells.map cZ),I beg,I n]] 0 0)]=some (r,own):=by
 refine be func243 rfl ?_;have⟨R,o⟩:=ak (cells.map cZ);have B:bA R=true:=by rw[<-o];exact vJ _
 have C:=fun(i:Nat) (hi:i<n)=>Jp (cells.map cZ) beg n i O (by omega) (by simp;omega);rw[o]at C|-;have P:R.length=cells.length:=by rw[<-o];simp
 simp[f243]
 refine Ends.loop (fun S=>S.bG=[]/\∃q,S.env.get 3=some (.c q)/\BV S.heap q (eJ cells beg n))
  (gM (fun p:Nat×ab=>[(0,.c (.aJ [[.aj R,I beg,I n]] 0 0)),(8,aa n),(9,aa p.1),(3,.c p.2)]) (fun p G=>p.1<=n/\BV G p.2 (eJ cells beg p.1)) [] (fun p=>n-p.1) _ [0,8,9,3] (fun _=>rfl) ?_ (0,ap) _ (by simp) ⟨by simp,.inl ⟨rfl,rfl⟩⟩ rfl) ?_
 .rintro⟨j,q⟩⟨Q,G,T⟩u⟨U,t⟩D;simp only at u U t D;subst D;simp at u;have⟨E,w,x,a⟩:=u;by_cases d:j<n
  .have y:=C j d;have⟨k,z⟩:=ak ((beg+j) % cells.length);have F:k<cells.length:=by rw[<-z];exact akE _ (by omega)
   rw[P,z]at y;have V:iO cells beg j=cells[k]:=by unfold iO;rw[z,ae5,abM F];rfl
   have A:R[k]?=some [Sg cells[k]]:=by rw[<-o,adf,abM F];rfl
   have H:k<R.length:=by omega
   have J:adW.wrap ((j:Int)+1)=((j+1:Nat):Int):=cv (by omega);have b:eJ cells beg (j+1)=eJ cells beg j++[cells[k]]:=by unfold eJ;rw[aj2,aid,List.map_singleton,V]
   have f:(eJ cells beg j).length=j:=mg _ _ _;have⟨s,W⟩:=ak cells[k];rw[W]at A b;have⟨l,X⟩:=ak (eJ cells beg j);rw[X]at t b f;rcases t with⟨rfl,rfl⟩|⟨h,v,L,rfl,g⟩
   .simp[-getElem?_pos,-ad0,E,w,x,a,d,y,A,H,B,J];exact⟨j+1,by omega,_,⟨rfl,rfl⟩,by omega,.inr ⟨G.length+1,0,by rw[b];simp,by rw[b];rfl,by rw[b,jh];rfl⟩⟩
   .rw[f]at a;have Y:j+1<=maxLen:=by unfold maxLen;omega
    have Z:(j+1)*16<=140737488355328:=by omega
    have M:∀K,(G++K)[h]?=some (.live v 1 (l.map cZ)):=fun K=>by rw[abE (bf g)];exact g
    simp[-getElem?_pos,-ad0,E,w,x,a,d,y,A,H,B,J,M,f,Y,Z];exact⟨j+1,by omega,_,⟨rfl,rfl⟩,by omega,.inr ⟨h,v+1,by rw[b];simp,by rw[b];simp[f],by rw[b,ba (M _),acu (by simp[f])];simp[cZ]⟩⟩
  .have hj:j=n:=by omega
   simp[-ad0,w,x,a,d];rw[<-hj];exact t
 .rintro⟨Q,G,T⟩⟨rfl,q,a,N⟩;simp only at a N;rcases N with⟨e,rfl⟩|⟨h,v,L,rfl,g⟩
  .have hn:n=0:=by rw[<-mg cells beg n,e];rfl
   rw[if_pos hn]at m;cases m;simp[a]
  .have hn:¬n=0:=fun e=>L (by subst e;rfl);rw[if_neg hn]at m;cases m;have f:(eJ cells beg n).length=n:=mg _ _ _;have⟨l,b⟩:=ak (eJ cells beg n);rw[b]at g f a|-;rw[f]at a;have ht:(l.map cZ).take n=l.map cZ:=acu (by simp[f]);simp[a,g,vJ,f,ht]
def ac1{room:Nat}(h:fB H c k b room l):∃q a,aO tz ay 243 [au b] H=some (.c q,a)/\BV a q l/\(∃K,a=H++K)/\∀m∈rf q,H.length<=m:=by
 obtain⟨h,cells,beg,n,r,rfl,rfl,j,o⟩:=h;have f:=r.view;by_cases hn:n=0
 .have d:=L4 cells beg n r.bl r.nl r.cl (if_pos hn);refine⟨ap,H,by simp[-bU,d,f],.inl ⟨by subst hn;rfl,rfl⟩,⟨[],by simp⟩,by simp[rf]⟩
 .have d:=L4 cells beg n r.bl r.nl r.cl (if_neg hn);have g:dX H.length (ah 1 ((eJ cells beg n).map cZ))=ah 1 ((eJ cells beg n).map cZ):=qy (vJ _);have i:lH [3,1] (ah 1 ((eJ cells beg n).map cZ))=true:=by simp[lH,cW,fW,cZ]
  refine⟨.sl H.length 0 0 n,H++[ah 1 ((eJ cells beg n).map cZ)],by simp[-bU,-lH,d,f,ei,g,i,kj,fW,eN,dZ],.inr ⟨H.length,0,fun e=>hn (by rw[<-mg cells beg n,e];rfl),by rw[mg],by simp⟩,⟨_,rfl⟩,by simp[rf]⟩
end
section
variable{g:Nat->aU}
def bI(s:Bool):Int:=if s then 1 else 0
def JS(b:List (List ab×ab))(a:List Int)(x:ab)(c:iF (a.map I)=some a):dY (gQ b a x) a=some x:=by
 induction b with
 |nil=>simp[gQ,dY,c]
 |cons p r d=>
  have⟨k,v⟩:=p;unfold gQ;split
  .simp only[dY,c,if_true]
  .rename_i h;simp only[dY,if_neg h];exact d
def Et(b:List (List ab×ab)){a c:List Int}(x:ab)(d:iF (a.map I)=some a)(e:a≠c):dY (gQ b a x) c=dY b c:=by
 induction b with
 |nil=>simp[gQ,dY,d,e]
 |cons p r f=>
  have⟨k,v⟩:=p;unfold gQ;split
  .rename_i h;simp only[dY,d,h,ab1,if_neg e]
  .simp only[dY];rw[f]
def EN(c:List (List ab×ab)){a b:Int}(x:ab)(h:nz c=true):nz (gQ c [a,b] x)=true:=by
 induction c with
 |nil=>rfl
 |cons p r d=>
  have⟨k,v⟩:=p;simp only[nz,abR]at h;unfold gQ;split
  .simp only[nz,abR];exact⟨rfl,h.2⟩
  .simp only[nz,abR];exact⟨h.1,d h.2⟩
def Yt:∀s t,[bI s,bI (!s)]=[bI t,bI (!t)]->t=s:=by decide
def Oa:∀s t,4+ci t=4+ci s->t=s:=by decide
def ags(H:List Ob)(c:Nat->aU)(g:Nat->aU)(room:Int)(a:List (List ab×ab))(q:Bool->List bx):Prop:=
 ∀s,(dY a [bI s,bI (!s)]=none/\q s=[])\/∃p,dY a [bI s,bI (!s)]=some (.ptr p 0 0 0)/\fB H c (g (4+ci s)) p (eB room 0 1000).toNat (q s)
structure qL(H:List Ob)(c:Nat->aU)(g:Nat->aU)(b mp:Nat)(room:Int)(es:List (List ab×ab))(q:Bool->List bx):Prop where
 hb:H[b]?=some (ah 3 [[I 2,I room,.mr mp]])
 hm:H[mp]?=some (.mp es)
 k2:nz es=true
 cb:c b=g 3
 cm:c mp=g 3
 r:ags H c g room es q
def fV(H:List Ob)(c:Nat->aU)(g:Nat->aU)(b:Nat)(room:Int)(q:Bool->List bx):Prop:= ∃mp a,qL H c g b mp room a q
def fL(g:Nat->aU):Prop:=(∀i j,g i=g j->i=j)/\∀i,g i≠ .none
def Gc(g:Nat->aU):aU->Prop:=fun x=>∃i,3<=i/\i<=5/\x=g i
def VG(g:Nat->aU):Gc g (g 3):=⟨3,by omega,by omega,rfl⟩
def nq(s:Bool):ci s<=1:=by cases s<;>decide
def Ec(g:Nat->aU)(s:Bool):Gc g (g (4+ci s)):=⟨_,by omega,by have:=nq s;omega,rfl⟩
def Ch(a:fL g){i:Nat}(h:i<3\/5<i):¬Gc g (g i):=fun⟨j,c,d,b⟩=>by have:=a.1 _ _ b;omega
def ND(a:fL g):¬Gc g .none:=fun⟨j,_,_,h⟩=>a.2 j h.symm
def qL.aK{H H':List Ob}{c e:Nat->aU}{g:Nat->aU}{K:aU->Prop}{b mp:Nat}{room:Int}{f:List (List ab×ab)}{q:Bool->List bx}(h:qL H c g b mp room f q)(a:aH K c e H H')(d:∀i,3<=i->i<=5-> ¬K (g i)):qL H' e g b mp room f q:=by
 have⟨j,k,n,l,m,o⟩:=h;refine⟨(a.get j (by rw[l];exact d 3 (by omega) (by omega))).1,(a.get k (by rw[m];exact d 3 (by omega) (by omega))).1,n,((a.jK b (bf j)).trans l),((a.jK mp (bf k)).trans m),fun s=>?_⟩;rcases o s with g|⟨p,r,t⟩
 .exact .inl g
 .exact .inr ⟨p,r,t.aK a (d _ (by omega) (by have:=nq s;omega))⟩
def qL.bH{H d:List Ob}{c f:Nat->aU}{b mp p:Nat}{room:Int}{i:List (List ab×ab)}{q:Bool->List bx}{l:List bx}{s:Bool}(k:fL g)(h:qL H c g b mp room i q)(a:aH (· =g (4+ci s)) c f H d)(v:dY i [bI s,bI (!s)]=some (.ptr p 0 0 0))(w:fB d f (g (4+ci s)) p (eB room 0 1000).toNat l):qL d f g b mp room i (up q s l):=by
 have⟨m,n,x,o,r,y⟩:=h;have u:¬g 3=g (4+ci s):=fun e=>by have:=k.1 _ _ e;omega
 refine⟨(a.get m (by rw[o];exact u)).1,(a.get n (by rw[r];exact u)).1,x,((a.jK b (bf m)).trans o),((a.jK mp (bf n)).trans r),fun t=>?_⟩;by_cases e:t=s
 .subst e;rw[pO];exact .inr ⟨p,v,w⟩
 .rw[qn _ _ e];rcases y t with j|⟨p,j,z⟩
  .exact .inl j
  .exact .inr ⟨p,j,z.aK a fun A=>e (Oa _ _ (k.1 _ _ A))⟩
structure rW(H:List Ob)(c:Nat->aU)(g:Nat->aU)(b:Nat)(room:Int)(q:Bool->List bx)(s:Bool)(p:Nat)(c':Nat->aU)(H':List Ob):Prop where
 n:∃mp es,qL H' c' g b mp room es q/\dY es [bI s,bI (!s)]=some (.ptr p 0 0 0)
 r:fB H' c' (g (4+ci s)) p (eB room 0 1000).toNat (q s)
 st:aH (Gc g) c c' H H'
def GH:sw aaG 402=true:=by kernel_rfl
def xg:ry aaG 351=true:=by kernel_rfl
def ac4{H:List Ob}{c:Nat->aU}{g:Nat->aU}{b:Nat}{room:Int}{q:Bool->List bx}(L:fL g)(h:fV H c g b room q)(s:Bool):∃p y u,bB tz (ev tz) 221 [au b,aa (bI s),aa (bI (!s))] H=some (au p,u)/\rW H c g b room q s p y u:=by
 obtain⟨r,u,v,p,y,rfl,w⟩:=cG (C:=tz) (f:=221) (args:=[au b,aa (bI s),aa (bI (!s))]) (H:=H) (fun x u=>∃p y,x=au p/\rW H c g b room q s p y u) func221 rfl (by
  have⟨mp,o,hn⟩:=h;have M:=hn.hb;have hm:=hn.hm;have z:=hn.k2;have W:=bf M;have Y:=bf hm;have⟨a,j⟩:=ak (bI s);have⟨d,k⟩:=ak (bI (!s));have Z:¬a<0:=by rw[<-j];cases s<;>decide
  have bm:¬d<0:=by rw[<-k];cases s<;>decide
  have f3:¬2<=a:=by rw[<-j];cases s<;>decide
  have f4:¬2<=d:=by rw[<-k];cases s<;>decide
  have f5:eL [Sh.int,Sh.int] [I a,I d] [I d,I a]=some false:=by rw[<-j, <-k];cases s<;>rfl
  have hr:=hn.r s;rw[j,k]at hr|-;have D:∀K,(H++K)[b]?=H[b]?:=fun K=>abE W;have E:∀K,(H++K)[mp]?=H[mp]?:=fun K=>abE Y;rw[M]at D;rw[hm]at E;rcases hr with⟨v,w⟩|⟨p,v,w⟩
  .have ⟨X,i⟩:=ak (H++[ah 2 [[I a,I d]]]:List Ob);have⟨c1,A⟩:=ak (ext c H.length (g 3));have ad:aH (Gc g) c c1 H X:=by rw[<-A, <-i];exact aH.of _ (by simp) fun m hm _=>abE hm
   have⟨l,G,N,O,n,P,r5⟩:=aaV X c1 (g (4+ci s)) room;have lX:X.length=H.length+1:=by rw[<-i];simp
   have F:¬g 3=g (4+ci s):=fun e=>by have:=L.1 _ _ e;omega
   have nb:b≠mp:=fun e=>by subst e;rw[M]at hm;cases hm
   have cb:c1 b=g 3:=by rw[<-A,jf W];exact hn.cb
   have cm:c1 mp=g 3:=by rw[<-A,jf Y];exact hn.cm
   have ct:c1 H.length=g 3:=by rw[<-A];exact jr (ad3 _)
   have g1:G[b]?=some (ah 3 [[I 2,I room,.mr mp]]):=by rw[n.aK b (by omega) (by rw[cb];exact F), <-i];exact D _
   have g2:G[mp]?=some (.mp o):=by rw[n.aK mp (by omega) (by rw[cm];exact F), <-i];exact E _
   have g3:G[H.length]?=some (ah 2 [[I a,I d]]):=by rw[n.aK H.length (by omega) (by rw[ct];exact F), <-i];simp
   have lG:=n.len;have g4:∀x,(G.set mp x)[b]?=some (ah 3 [[I 2,I room,.mr mp]]):=fun x=>by rw[aat (ait nb)];exact g1
   have g5:∀x,(G.set mp x)[mp]?=some x:=fun x=>ba g2;have g6:∀x,(G.set mp x)[H.length]?=some (ah 2 [[I a,I d]]):=fun x=>by rw[aat (by omega)];exact g3
   have J:dY (gQ o [a,d] (.ptr l 0 0 0)) [a,d]=some (.ptr l 0 0 0):=JS _ _ _ rfl;have Q:=EN (a:=a) (b:=d) o (.ptr l 0 0 0) z;have⟨B,R⟩:=ak (gQ o [a,d] (.ptr l 0 0 0));rw[R]at J Q
   have hq:rW H c g b room q s l (ext c1 X.length (g (4+ci s))) (G.set mp (.mp B)):=by
    have cp:ext c1 X.length (g (4+ci s)) l=g (4+ci s):=jr P;have S:aH (· =g 3) (ext c1 X.length (g (4+ci s))) (ext c1 X.length (g (4+ci s))) G (G.set mp (.mp B)):=pD (b:=mp) (h:=mp) (by simp) (by rw[jf (by omega)];exact cm) (by rw[jf (by omega)];exact cm) fun m h _=>aat (ait h);have rr:fB (G.set mp (.mp B)) (ext c1 X.length (g (4+ci s))) (g (4+ci s)) l (eB room 0 1000).toNat []:=O.aK S (fun e=>F e.symm);refine⟨⟨mp,B,⟨g4 _,g5 _,Q,by rw[jf (by omega)];exact cb,by rw[jf (by omega)];exact cm,fun t=>?_⟩,by rw[j,k];exact J⟩,by rw[w];exact rr,(ad.trans (n.mono fun x T=>by rw[T];exact Ec g s)).trans (S.mono fun x T=>by rw[T];exact VG g)⟩;by_cases U:t=s
    .subst U;exact .inr ⟨l,by rw[j,k];exact J,by rw[w];exact rr⟩
    .have ae:dY B [bI t,bI (!t)]=dY o [bI t,bI (!t)]:=by rw[<-R];refine Et _ _ rfl fun e=>U ?_;rw[<-j, <-k]at e;exact Yt _ _ e
     rw[ae];rcases hn.r t with af|⟨p,k1,z⟩
     .exact .inl af
     .have nt:¬g (4+ci t)=g (4+ci s):=fun e=>U (Oa _ _ (L.1 _ _ e));have ab:¬g (4+ci t)=g 3:=fun e=>by have:=L.1 _ _ e;omega
      have ag:aH (· =g 3) c c1 H X:=by rw[<-A, <-i];exact aH.of _ (by simp) fun m hm _=>abE hm
      exact .inr ⟨p,k1,((z.aK ag ab).aK n nt).aK S ab⟩
   have x1:X[b]?=some (ah 3 [[I 2,I room,.mr mp]]):=by rw[<-i];exact D _
   have x2:X[mp]?=some (.mp o):=by rw[<-i];exact E _
   have x3:X[H.length]?=some (ah 2 [[I a,I d]]):=by rw[<-i];simp
   simp[-aD,f221,x1,x2,x3,GH,xg,nK,qW,iF,z,Z,bm,f3,f4,f5,v,ll,i,N,g2,g4,g5,g6,R,J,Q];exact⟨_,hq⟩
  .have ⟨h,cells,ai,aj,r,N,O,n,P⟩:=w;have gp:∀K,(H++K)[p]?=H[p]?:=fun K=>abE (bf r.hb);have hp:=r.hb;rw[hp]at gp;simp[-aD,f221,D,E,GH,xg,nK,iF,z,Z,bm,f3,f4,f5,v,gp,ll];have V:aH (fun _=>False) c (ext c H.length (g 3)) H (H++[ah 2 [[I a,I d]]]):=aH.of _ (by simp) fun m hm _=>abE hm;exact⟨_,⟨mp,o,hn.aK V fun _ _ _ h=>h,by rw[j,k];exact v⟩,fB.aK ⟨h,cells,ai,aj,r,N,O,n,P⟩ V fun h=>h,V.mono fun _ h=>h.elim⟩)
 exact⟨p,y,u,v,w⟩
end
section
section
variable{H:List Ob}{c:Nat->aU}{g:Nat->aU}{b:Nat}{room:Int}{q:Bool->List bx}
def yO(i:fL g)(h:fV H c g b room q)(s:Bool):∃p d a,aO tz ay 221 [au b,aa (bI s),aa (bI (!s))] H=some (au p,a)/\rW H c g b room q s p d a/\∃r,a[p]?=some (ah 3 [r]):=by have⟨p,d,a,j,e⟩:=ac4 i h s;refine⟨p,d,a,by rw[dz (f:=221) rfl];exact j,e,?_⟩;have⟨h,cells,k,n,r,_⟩:=e.r;exact⟨_,r.hb⟩
def rW.bH{e a:Nat->aU}{f d:List Ob}{s:Bool}{p:Nat}{l:List bx}(j:fL g)(h:rW H c g b room q s p e f)(k:fB d a (g (4+ci s)) p (eB room 0 1000).toNat l)(i:aH (· =g (4+ci s)) e a f d):fV d a g b room (up q s l)/\aH (Gc g) c a H d:=by have⟨mp,m,hn,o⟩:=h.n;exact⟨⟨mp,m,hn.bH j i o k⟩,h.st.trans (i.mono fun x r=>by rw[r];exact Ec g s)⟩
def rW.same{a:Nat->aU}{d:List Ob}{s:Bool}{p:Nat}(h:rW H c g b room q s p a d):fV d a g b room q:=by have⟨mp,e,hn,f⟩:=h.n;exact⟨mp,e,hn⟩
def RL(d:fL g)(h:fV H c g b room q)(s:Bool)(t:bx):∃e a,bB tz (ev tz) 138 [au b,aa (bI s),aa (bI (!s)),.c (Sg t)] H=some (aR (decide ((q s).length< (eB room 0 1000).toNat)),a)/\fV a e g b room (up q s (nP (eB room 0 1000).toNat (q s) t))/\aH (Gc g) c e H a:=by
 have⟨p,c1,w,j,i,r,hp⟩:=yO d h s;have⟨k,l,m,n⟩:=Qv i.r t;have⟨o,u⟩:=i.bH d m n;obtain⟨r,a,v,rfl,rfl⟩:=cG (C:=tz) (f:=138) (args:=[au b,aa (bI s),aa (bI (!s)),.c (Sg t)]) (H:=H) (fun x a=>x=aR (decide ((q s).length< (eB room 0 1000).toNat))/\a=k) func138 rfl (by simp[-aD,f138,j,l,hp,xg,ll])
 exact⟨c1,_,v,o,u⟩
def uA(l:List bx)(i:Int):List bx:=if 0<=i/\i<l.length then l.eraseIdx i.toNat else l
def Vs(d:fL g)(h:fV H c g b room q)(s:Bool)(i:Int):∃e a,bB tz (ev tz) 139 [au b,aa (bI s),aa (bI (!s)),aa i] H=some (eF (dV (q s) i),a)/\fV a e g b room (up q s (uA (q s) i))/\aH (Gc g) c e H a:=by
 have⟨p,c1,w,l,j,r,hp⟩:=yO d h s;have⟨m,k,n,o⟩:=aha j.r i;have⟨t,u⟩:=j.bH d n o;unfold eF at k|-;obtain⟨r,a,v,rfl,rfl⟩:=cG (C:=tz) (f:=139) (args:=[au b,aa (bI s),aa (bI (!s)),aa i]) (H:=H) (fun x a=>x= .aM [.c (Sg ((dV (q s) i).getD [])),aR (dV (q s) i).isSome]/\a=m) func139 rfl (by simp[-aD,f139,l,k,hp,xg,ll])
 exact⟨c1,_,v,t,u⟩
def VN(k:fL g)(h:fV H c g b room q)(s:Bool)(i:Int):∃e a,bB tz (ev tz) 157 [au b,aa (bI s),aa (bI (!s)),aa i] H=some (eF (dV (q s) i),a)/\fV a e g b room q/\aH (Gc g) c e H a:=by
 have⟨p,c1,l,m,d,r,hp⟩:=yO k h s;have j:=adG d.r i;unfold eF at j|-;obtain⟨r,a,n,rfl,rfl⟩:=cG (C:=tz) (f:=157) (args:=[au b,aa (bI s),aa (bI (!s)),aa i]) (H:=H) (fun x a=>x= .aM [.c (Sg ((dV (q s) i).getD [])),aR (dV (q s) i).isSome]/\a=l) func157 rfl (by simp[-aD,f157,m,j,hp,xg,ll])
 exact⟨c1,_,n,d.same,d.st⟩
def c138(e:fL g)(h:fV H c g b room q)(s:Bool)(t:bx):∃d a,aO tz ay 138 [au b,aa (bI s),aa (bI (!s)),.c (Sg t)] H=some (aR (decide ((q s).length< (eB room 0 1000).toNat)),a)/\fV a d g b room (up q s (nP (eB room 0 1000).toNat (q s) t))/\aH (Gc g) c d H a:=by rw[dz (f:=138) rfl];exact RL e h s t
def M3(e:fL g)(h:fV H c g b room q)(s:Bool)(i:Int):∃d a,aO tz ay 139 [au b,aa (bI s),aa (bI (!s)),aa i] H=some (eF (dV (q s) i),a)/\fV a d g b room (up q s (uA (q s) i))/\aH (Gc g) c d H a:=by rw[dz (f:=139) rfl];exact Vs e h s i
def Dj(e:fL g)(h:fV H c g b room q)(s:Bool)(i:Int):∃d a,aO tz ay 157 [au b,aa (bI s),aa (bI (!s)),aa i] H=some (eF (dV (q s) i),a)/\fV a d g b room q/\aH (Gc g) c d H a:=by rw[dz (f:=157) rfl];exact VN e h s i
def sM(R:Nat)(q:Bool->List bx)(s:Bool)(i:Int):(Bool->List bx)×Bool:=
 match dV (q s) i with
 |none=>(q,false)
 |some t=>(up q s (nP R (q s) t),decide ((q s).length<R))
def ado(j:fL g)(h:fV H c g b room q)(s:Bool)(i:Int):∃k a,bB tz (ev tz) 166 [au b,aa (bI s),aa (bI (!s)),aa i] H=some (aR (sM (eB room 0 1000).toNat q s i).2,a)/\fV a k g b room (sM (eB room 0 1000).toNat q s i).1/\aH (Gc g) c k H a:=by
 have⟨c1,o,d,l,m⟩:=Dj j h s i;unfold eF at d;unfold sM;cases n:dV (q s) i with
 |none=>
  rw[n]at d;simp only[ajm,ajk]at d|-;obtain⟨r,a,e,rfl,rfl⟩:=cG (C:=tz) (f:=166) (args:=[au b,aa (bI s),aa (bI (!s)),aa i]) (H:=H) (fun x a=>x=aR false/\a=o) func166 rfl (by simp[-aD,f166,d])
  exact⟨c1,_,e,l,m⟩
 |some t=>
  rw[n]at d;simp only[ai0,ajj]at d|-;have⟨c2,p,u,v,w⟩:=c138 j l s t;obtain⟨r,a,e,rfl,rfl⟩:=cG (C:=tz) (f:=166) (args:=[au b,aa (bI s),aa (bI (!s)),aa i]) (H:=H) (fun x a=>x=aR (decide ((q s).length< (eB room 0 1000).toNat))/\a=p) func166 rfl (by simp[-aD,f166,d,u])
  exact⟨c2,_,e,v,m.trans w⟩
end
end
section
def adQ(x:Int):ajf.wrap (ajf.wrap x)=ajf.wrap x:=by simp only[IntKind.wrap,IntKind.signed,IntKind.bits];simp
def zb(s:bx)(a:Int):Nat:=(max (max a (adW.wrap (-a))) 0).toNat % (8*s.length)
def ux(s:bx)(a:Nat):Int:=jp .xor .u8 ((s.getD (a / 8) 0).toNat:Int) (ajf.wrap (2 ^ (a % 8)))
def Yv(s:bx)(a:Int):xQ s a=s.set (zb s a / 8) (al1 (ajf.wrap (ux s (zb s a))).toNat):=rfl
def qE(q:Bool->List bx)(s:Bool)(i a:Int):(Bool->List bx)×Bool:=
 match dV (q s) i with
 |none=>(q,false)
 |some t=>if t=[]then(q,false)else(up q s ((q s).set i.toNat (xQ t a)),true)
section
variable{H:List Ob}{c:Nat->aU}{g:Nat->aU}{b:Nat}{room:Int}{q:Bool->List bx}
def agJ(E:fL g)(h:fV H c g b room q)(s:Bool)(i l:Int)(hs:∀t∈q s,t.length<=1000):∃F z,bB tz (ev tz) 167 [au b,aa (bI s),aa (bI (!s)),aa i,aa l] H=some (aR (qE q s i l).2,z)/\fV z F g b room (qE q s i l).1/\aH (Gc g) c F H z:=by
 obtain⟨r,z,h1,F,rfl,h2⟩:=cG (C:=tz) (f:=167) (args:=[au b,aa (bI s),aa (bI (!s)),aa i,aa l]) (H:=H) (fun an z=>∃F,an=aR (qE q s i l).2/\fV z F g b room (qE q s i l).1/\aH (Gc g) c F H z) func167 rfl (by
  have⟨c1,w,A,r1,U⟩:=Dj E h s i;unfold eF at A;unfold qE;cases B:dV (q s) i with
  |none=>rw[B]at A;simp only[ajm,ajk]at A|-;simp[-aD,-getElem?_pos,f167,A];exact⟨c1,r1,U⟩
  |some t=>
  rw[B]at A;simp only[ai0,ajj]at A|-;by_cases V:t=[]
  .subst V;simp[-aD,-getElem?_pos,f167,A];exact⟨c1,r1,U⟩
  rw[if_neg V];have aC:¬i<0:=fun hn=>by unfold dV at B;rw[if_pos hn]at B;cases B
  have hit:(q s)[i.toNat]?=some t:=by unfold dV at B;rw[if_neg aC]at B;exact B
  have W:=bf hit;have aV:t.length<=1000:=hs t (aiJ hit);have aW:0<t.length:=by cases t with|nil=>exact absurd rfl V|cons _ _=>simp
  have⟨a,ha⟩:=ak (zb t l);have aX:a<8*t.length:=by rw[<-ha];exact akE _ (by omega)
  rw[Yv,ha];have⟨o,ae⟩:=ak (t.set (a / 8) (al1 (ajf.wrap (ux t a)).toNat));rw[ae];simp only[f167,cr];rw[fQ,fQ,fQ,fQ,fQ];refine bp [(0,au b),(1,aa (bI s)),(2,aa (bI (!s))),(3,aa i),(14,bd w.length 0 0 t.length)] (fun G=>G=w++[ah 1 (o.map eA)]) ?_ ?_
  .have w1:adW.wrap (8*(t.length:Int))=8*(t.length:Int):=fw (by omega) (by omega);have X:(max l (max (adW.wrap (-l)) 0)).tmod (8*(t.length:Int))=(a:Int):=by rw[<-ha, <-Int.max_assoc];unfold zb;obtain⟨m,hm⟩:∃m:Nat,max (max l (adW.wrap (-l))) 0=m:=⟨(max (max l (adW.wrap (-l))) 0).toNat,by omega⟩;rw[hm];rfl
   have m1:t.length<=maxLen:=by unfold maxLen;omega
   have m2:¬8*(t.length:Int)=0:=by omega
   have L:adW.wrap ((a:Int) / 8)=((a / 8:Nat):Int):=by rw[fw (by omega) (by omega)];omega
   have M:(a:Int).tmod 8=((a % 8:Nat):Int):=rfl;have⟨d,hd⟩:=ak (a / 8);have⟨r,hr⟩:=ak (a % 8);have af:d<t.length:=by omega
   have aE:min r 8=r:=by omega
   rw[hd]at L;rw[hr]at M;have⟨y,N⟩:=ak t[d];have m3:(t.map eA)[d]?=some [.v (.int .u8 (y.toNat:Int))]:=by rw[adf,abM af,N];rfl
   have m4:(t.map eA).set d [.v (.int .u8 (ux t a))]=o.map eA:=by
    rw[<-ae,aiC,hd];congr 1
    have:=Ca (ux t a);unfold jx at this;rw[this];unfold ux jp;simp only;rw[adQ]
   have m5:jp .xor .u8 (y.toNat:Int) (ajf.wrap (2 ^ r))=ux t a:=by unfold ux;rw[hd,hr,ae5,abM af,N];rfl
   have aF:ajf.bits=8:=rfl;simp[-aD,-getElem?_pos,A,V,w1,X,L,M,m1,m2,af,m3,aE,aF,m4,m5,nH,fv,tU,fX]
  rintro O G⟨a0,X,L,M,ao,_⟩hG;have ap:aH (fun _=>False) c1 (ext c1 w.length .none) w G:=by rw[hG];exact aH.of _ (by simp) fun m hm _=>abE hm
  have gm:G[w.length]?=some (ah 1 (o.map eA)):=by rw[hG];simp
  have lG:G.length=w.length+1:=by rw[hG];simp
  have r2:fV G (ext c1 w.length .none) g b room q:=by have⟨mp,Y,hn⟩:=r1;exact⟨mp,Y,hn.aK ap fun _ _ _ h=>h⟩
  have⟨p,c2,Z,e2,J,_⟩:=yO E r2 s;have⟨qa,P,e3,r4,⟨aY,hK⟩,r5⟩:=ac1 J.r;have aq:Z[w.length]?=some (ah 1 (o.map eA)):=by rw[J.st.aK w.length (by omega) (by rw[jr (ad3 _)];exact ND E)];exact gm
  have aG:q s≠ []:=fun e=>by rw[e]at W;simp at W
  obtain⟨h,v,hn,rfl,hh⟩:=r4.resolve_left fun e=>aG e.1;have h3:Z.length<=h:=r5 h (by simp[rf]);have aI:P[w.length]?=some (ah 1 (o.map eA)):=by rw[hK,abE (bf aq)];exact aq
  have⟨c3,ar⟩:=ak (ext c2 Z.length .none);have ag:aH (fun _=>False) c2 c3 Z P:=by rw[hK, <-ar];exact aH.of _ (by simp) fun m hm _=>abE hm
  have ch:c3 h= .none:=by rw[<-ar];exact jr h3
  have hj:i=(i.toNat:Int):=by omega
  have⟨ai,hk⟩:=ak i.toNat;rw[hk]at hj hit W|-;subst hj;have aJ:((q s).map cZ)[ai]?=some [Sg t]:=by rw[adf,hit];rfl
  have⟨k,aj⟩:=ak ((q s).set ai o);have av:k.length=(q s).length:=by rw[<-aj,aiP]
  have aL:((q s).map cZ).set ai [Sg o]=k.map cZ:=by rw[SD,aj]
  have⟨u,Q⟩:=ak (P.set h (.live v 1 (k.map cZ)));have aw:aH (· = .none) c3 c3 P u:=by rw[<-Q];exact pD (b:=h) (h:=h) (by simp) ch ch fun m h1 _=>aat (ait h1)
  have⟨R,hR⟩:=ak ((eB room 0 1000).toNat);have rR:=J.r;rw[hR]at rR;have aM:fB u c3 (g (4+ci s)) p R (q s):=(rR.aK ag (fun h=>h)).aK aw (E.2 _);have aN:(q s).length<=R/\R<=1000:=⟨rR.room.1,rR.room.2.1⟩;have ab:u[h]?=some (.live v 1 (k.map cZ)):=by rw[<-Q];exact ba hh
  rw[fQ,fQ];refine bp [(15,au p),(16,bd h v 0 (q s).length)] (fun G=>G=u) ?_ ?_
  .have mb:=Hw o;have ax:o.length=t.length:=by rw[<-ae,aiP]
   have mt:(o.map eA).take t.length=o.map eA:=acu (by simp[ax]);simp[-aD,-getElem?_pos,a0,X,L,M,ao,e2,e3,nH,fv,tU,aI,mb,mt,ax,hh,W,aJ,aL,Q]
  clear a0 X L M ao;rintro O G ⟨ad,K,_⟩ aO;obtain rfl:u=G:=aO.symm;have⟨n,hn⟩:=ak ((q s).length);rw[hn]at K av aN;refine bp [(15,au p),(16,bd h v 0 n)] (fun G=>fB G c3 (g (4+ci s)) p R []/\aH (· =g (4+ci s)) c3 c3 u G) ?_ ?_
  .simp[-aD,-getElem?_pos,K];refine Ends.bl (gM (fun j:Nat=>[(15,au p),(16,bd h v 0 n),(65,aa n),(66,aa j)]) (fun j G=>j<=n/\fB G c3 (g (4+ci s)) p R ((q s).drop j)/\aH (· =g (4+ci s)) c3 c3 u G) [] (fun j=>n-j) _ [15,16,65,66] (fun _=>rfl) ?_ 0 _ ?_ ⟨by omega,aM,aH.refl _ _ _⟩ rfl);rotate_left
   .simp[ad,K]
   rintro j⟨O,G,ds⟩I⟨g2,x,D⟩S;simp only at I g2 x D S;subst S;simp at I;have⟨d15,d16,d65,d66⟩:=I;by_cases d:j<n
   .have ⟨aZ,G',e4,T,s6⟩:=Zd x;have hw:adW.wrap ((j:Int)+1)=((j+1:Nat):Int):=cv (by omega);simp[-aD,-getElem?_pos,-ad0,d15,d16,d65,d66,d,e4,hw];exact⟨j+1,by omega,rfl,by omega,by rw[List.tail_drop]at T;exact T,D.trans s6⟩
   .simp[-aD,-getElem?_pos,d15,d16,d65,d66,d];exact⟨by rw[ajD (by omega)]at x;exact x,D⟩
  clear ad K;rintro O G ⟨ad,K,_⟩ ⟨aP,ay⟩;have kk:=E.2 (4+ci s);have a1:G[h]?=some (.live v 1 (k.map cZ)):=by rw[ay.aK h (bf ab) (by rw[ch];exact fun e=>kk e.symm)];exact ab
  have aQ:k.length=n:=av;refine eh (fun al=>al.bG=[]/\fB al.heap c3 (g (4+ci s)) p R k/\aH (· =g (4+ci s)) c3 c3 u al.heap) ?_ ?_
  .simp[-aD,-getElem?_pos,K];refine Ends.bl (gM (fun j:Nat=>[(15,au p),(71,bd h v 0 n),(72,aa n),(73,aa j)]) (fun j G=>j<=n/\fB G c3 (g (4+ci s)) p R (k.take j)/\aH (· =g (4+ci s)) c3 c3 u G) [] (fun j=>n-j) _ [15,71,72,73] (fun _=>rfl) ?_ 0 _ ?_ ⟨by omega,aP,ay⟩ rfl);rotate_left
   .simp[ad]
   rintro j⟨O,G,ds⟩I⟨g2,x,D⟩S;simp only at I g2 x D S;subst S;simp at I;have⟨d15,d16,d65,d66⟩:=I;by_cases d:j<n
   .have az:j<k.length:=by omega
    have⟨y,N⟩:=ak k[j];have⟨G',e4,T,s6⟩:=Qv x y;have hw:adW.wrap ((j:Int)+1)=((j+1:Nat):Int):=cv (by omega);have gh:G[h]?=some (.live v 1 (k.map cZ)):=by rw[D.aK h (bf ab) (by rw[ch];exact fun e=>kk e.symm)];exact ab
    have m1:(k.map cZ)[j]?=some [Sg y]:=by rw[adf,abM az,N];rfl
    have hp:nP R (k.take j) y=k.take (j+1):=by unfold nP;rw[if_pos (by rw[ai1];omega),aiH,abM az,N];rfl
    rw[hp]at T;simp[-aD,-getElem?_pos,-ad0,d15,d16,d65,d66,d,e4,hw,gh,aQ,m1];exact⟨j+1,by omega,rfl,by omega,T,D.trans s6⟩
   .simp[-aD,-getElem?_pos,d65,d66,d];exact⟨by rw[acu (by omega)]at x;exact x,D⟩
  rintro⟨O,G,ds⟩⟨rfl,aA,am⟩;simp only at aA am;have⟨mp,Y,aS,aT⟩:=J.n;have aU:qL u c3 g b mp room Y q:=(aS.aK ag fun _ _ _ h=>h).aK aw fun i _ _=>E.2 i;have aB:=aU.bH E am aT (by rw[hR];exact aA);simp;have sA:aH (Gc g) c c3 H P:=((U.trans (ap.mono fun _ h=>h.elim)).trans J.st).trans (ag.mono fun _ h=>h.elim);have sB:aH (Gc g) c c3 H u:=by refine sA.fresh (by rw[<-Q,aiP];exact ad3 _) fun m hm=>?_;have l1:=U.len;have l2:=J.st.len;rw[<-Q,aat (by omega)]
  rw[<-aj]at aB;exact⟨c3,⟨mp,Y,aB⟩,sB.trans (am.mono fun an hx=>by rw[hx];exact Ec g s)⟩)
 exact⟨F,z,h1,h2⟩
end
end
section
variable{H:List Ob}{q:ab}{l:List Fm}
def QH{b c d:Nat}{e:Lk}{h:ab}(i seq:Int)(s:List UInt8)(j:H[b]?=some (ah 11 [cg e q]))(hc:H[c]?=some (ah 1 [[h]]))(k:H[d]?=some (ah 1 [[.ptr b 0 0 0]]))(n:km H h l)(o:l.length<=1000000):
  ∃g a,aO tz ay 217 [aa i,.c (U8 seq),.c (Sg s),au c,au d] H=some (.aM [],a)/\a[c]?=some (ah 1 [[g]])/\km a g (l++[nG e i seq s])/\(∀m,m≠c->m∉rf h->m<H.length->a[m]?=H[m]?)/\(∀m∈rf g,m∈rf h\/H.length<=m):=by
 have⟨g,a,p,r⟩:=OE i seq s j hc k n o
 exact⟨g,a,by rw[dz (f:=217) rfl];exact p,r⟩
def km.Ga{b:Nat}{o c:Ob}(h:km H q l)(d:H[b]?=some o)(f:∀v,o≠ .live v 5 (l.map bY)):km (H.set b c) q l:=by
 rcases h with h|⟨h,v,rfl,a⟩
 .exact .inl h
 .refine .inr ⟨h,v,rfl,?_⟩;rw[aat (fun e=>by subst e;rw[d]at a;exact f v (ajG a))];exact a
structure Q6(H:List Ob)(b:Nat)(e:Lk)(q:ab)(j:Nat)(G:List Ob):Prop where
 gb:G[b]?=some (ah 11 [cg {e with bN:=(j:Int)} q])
 gd:G[H.length]?=some (ah 1 [[.ptr b 0 0 0]])
 gf:∃fq,G[H.length+1]?=some (ah 1 [[fq]])/\km G fq ((aiZ (j-e.bN.toNat)).map fun i=>qi e (e.bN.toNat+i))/\∀m∈rf fq,H.length+2<=m
 gk:∀m,m≠b->m<H.length->G[m]?=H[m]?
def ZE{H:List Ob}{b:Nat}{e:Lk}{q:ab}(hb:H[b]?=some (ah 11 [cg e q]))(hq:jJ H q e.queue)(z:FD e)(hw:e.win<=1000000):
  ∃a g,bB tz (ev tz) 136 [au b] H=some (.c a,g)/\g[b]?=some (ah 11 [cg (iK e).1 q])/\km g a (iK e).2/\(∀m,m≠b->m<H.length->g[m]?=H[m]?)/\(∀m∈rf a,H.length<=m)/\H.length<=g.length:=by
 have aw:=cG (C:=tz) (f:=136) (args:=[au b]) (H:=H) (fun aj g=>∃a,aj= .c a/\g[b]?=some (ah 11 [cg (iK e).1 q])/\km g a (iK e).2/\(∀m,m≠b->m<H.length->g[m]?=H[m]?)/\(∀m∈rf a,H.length<=m)/\H.length<=g.length) func136 rfl ?_
 .obtain ⟨aj,g,u,a,rfl,R⟩:=aw
  exact⟨a,g,u,R⟩
 have lb:=bf hb
 simp[f136]
 refine Ends.loop (fun S=>S.env.get 4=some (.c (.bF 217 [.ptr (H.length+1) 0 0 0,.ptr H.length 0 0 0]))/\S.env.get 3=some (kP (H.length+1) 0 0 0)/\S.env.get 1=some (au H.length)/\S.bG=[]/\∃j:Nat,(j:Int)=jA e/\Q6 H b e q j S.heap) (gM (fun j:Nat=>[(4,.c (.bF 217 [.ptr (H.length+1) 0 0 0,.ptr H.length 0 0 0])),(3,kP (H.length+1) 0 0 0),(1,au H.length)]) (fun j G=>e.bN.toNat<=j/\(j:Int)<=jA e/\Q6 H b e q j G) [] (fun j=>(jA e).toNat-j) _ [4,3,1] (fun _=>rfl) ?_ e.bN.toNat _ (by simp) ?_ rfl) ?_
 .rintro j⟨en,G,ds⟩u⟨R,aa,h3⟩h5
  simp only at u R aa h3 h5
  subst h5
  simp at u
  have⟨A,B,D⟩:=u
  have al:=h3
  have⟨k,o,⟨a,I,T,p⟩,J⟩:=h3
  have af:=fun s=>QH (e:={e with bN:=(j:Int)}) (d:=H.length) (c:=H.length+1) 1 (aiY.wrap (e.base+aiY.wrap j)) s k I o T (by simp;have:=z.q;unfold jA pX at aa;omega)
  simp only[cg]at k
  by_cases K:(j:Int)<min e.win e.queue.length
  .have U:j<e.queue.length:=by omega
   rcases hq with⟨u,rfl⟩|⟨h,v,L,rows,rfl,w,k3,k4⟩
   .rw[u]at U;simp at U
   have ag:h≠b:=fun e=>by subst e;rw[hb]at w;cases w
   have gq:G[h]?=some (.live v 1 rows):=by rw[J h ag (bf w)];exact w
   have⟨s,hs⟩:=ak e.queue[j]
   have ax:rows[L+j]?=some [Sg s]:=by
    have r:((rows.drop L).take e.queue.length)[j]?=some (cZ s):=by rw[k3,adf,abM U,hs];rfl
    rw[aj6 U,ai3]at r
    exact r
   have⟨V,G',M,g1,W,E,g4⟩:=af s
   have ad:G'[b]?=G[b]?:=E b (by omega) (fun hm=>by have:=p b hm;omega) (bf k)
   have ai:G'[H.length]?=G[H.length]?:=E H.length (by omega) (fun hm=>by have:=p _ hm;omega) (bf o)
   rw[k]at ad
   rw[o]at ai
   have ay:adW.wrap ((j:Int)+1)=((j+1:Nat):Int):=cv (by have:=z.q;omega)
   have aF:(j:Int)<e.win:=by omega
   have ae:(j:Int)<e.queue.length:=by omega
   have am:L+e.queue.length<=rows.length:=by omega
   have az:L+j<rows.length:=by omega
   simp[-aD,-getElem?_pos,A,B,D,k,o,ad,ai,gq,K,ae,ax,M,ay,az]
   refine⟨j+1,by unfold jA pX at aa|-;omega,by omega,by unfold jA pX;omega,⟨ba ad,?_,⟨V,?_,?_,?_⟩,?_⟩⟩
   .rw[aat (by omega)];exact ai
   .rw[aat (by omega)];exact g1
   .have X:(aiZ (j+1-e.bN.toNat)).map (fun i=>qi e (e.bN.toNat+i))=(aiZ (j-e.bN.toNat)).map (fun i=>qi e (e.bN.toNat+i))++[qi e j]:=by
     rw[show j+1-e.bN.toNat=(j-e.bN.toNat)+1 by omega,aj2,aid,List.map_singleton,show e.bN.toNat+(j-e.bN.toNat)=j by omega]
    have hn:qi e j=nG {e with bN:=(j:Int)} 1 (aiY.wrap (e.base+aiY.wrap j)) s:=by
     unfold qi
     rw[ae5,abM U,hs]
     rfl
    rw[X,hn]
    exact W.Ga ad (fun v e=>by cases e)
   .intro m hm
    rcases g4 m hm with h|h
    .exact p m h
    .have:=bf I;omega
   .intro m hm x
    rw[aat (ait hm),E m (by omega) (fun N=>by have:=p m N;omega) (by have:=bf o;omega)]
    exact J m hm x
  .have an:(j:Int)=jA e:=by have:=z.s0;unfold jA pX at aa|-;omega
   have ae:¬(j:Int)<min e.win e.queue.length:=K
   rcases hq with⟨u,rfl⟩|⟨h,v,L,rows,rfl,w,k3,k4⟩
   .rw[u]at K ae
    simp only[aiQ,Int.natCast_zero]at K ae
    simp[A,B,D,k,o,K]
    exact⟨j,an,al⟩
   .have ag:h≠b:=fun e=>by subst e;rw[hb]at w;cases w
    have gq:G[h]?=some (.live v 1 rows):=by rw[J h ag (bf w)];exact w
    have am:L+e.queue.length<=rows.length:=by omega
    simp[A,B,D,k,o,K]
    exact⟨j,an,al⟩
 .have g0:(H++[Ob.live 0 1 [[.ptr b 0 0 0]],ah 1 [[ap]]])[b]?=H[b]?:=abE lb
  have s0:=z.s0
  have M:({e with bN:=((e.bN.toNat:Nat):Int)}:Lk)=e:=by rw[show((e.bN.toNat:Nat):Int)=e.bN by omega]
  refine⟨ad3 _,by unfold jA;omega,⟨?_,?_,⟨ap,?_,.inl ⟨by simp,rfl⟩,by simp[rf]⟩,?_⟩⟩
  .rw[M]
   simpa[-getElem?_pos]using g0.trans hb
  .simp
  .simp
  .intro m hm x
   simp[-getElem?_pos,abE x]
 .rintro⟨en,G,ds⟩⟨A,B,D,rfl,j,hj,k,o,⟨a,I,T,p⟩,J⟩
  simp only at A B D k o I T J
  have lG:H.length+1<G.length:=bf I
  have⟨l,X⟩:=ak ((aiZ (j-e.bN.toNat)).map (fun i=>qi e (e.bN.toNat+i)))
  have ao:tI e=l:=by
   rw[<-X];unfold tI
   rw[show pX e-e.bN.toNat=j-e.bN.toNat by unfold jA at hj;have:=z.s0;omega]
  have aA:l.length<=1000000:=by rw[<-X];simp;have:=z.q;unfold jA pX at hj;have:=z.s1;omega
  rw[X]at T
  have⟨y,Y⟩:=ak ({e with bN:=(j:Int),gH:=max e.gH j}:Lk)
  refine bp [(4,.c (.bF 217 [.ptr (H.length+1) 0 0 0,.ptr H.length 0 0 0])),(3,kP (H.length+1) 0 0 0),(1,au H.length)] (fun aB=>aB=G.set b (ah 11 [cg y q])) ?_ ?_
  .simp only[cg]at k
   simp[A,B,D,k,o, <-Y,cg]
  rintro aG t⟨b4,Z,b1,_⟩r
  clear A B D
  have kb:t[b]?=some (ah 11 [cg y q]):=by rw[r];exact ba k
  have F:t[H.length]?=some (ah 1 [[.ptr b 0 0 0]]):=by rw[r,aat (by omega)];exact o
  have O:t[H.length+1]?=some (ah 1 [[a]]):=by rw[r,aat (by omega)];exact I
  have kf:km t a l:=by rw[r];exact T.Ga k (fun v e=>by cases e)
  have kk:∀m,m≠b->m<H.length->t[m]?=H[m]?:=fun m hm x=>by rw[r,aat (ait hm)];exact J m hm x
  have kl:t.length=G.length:=by rw[r,aiP]
  clear r
  have bj:y.link=e.link:=by rw[<-Y]
  have bm:y.next=e.next:=by rw[<-Y]
  have f3:y.due=e.due:=by rw[<-Y]
  refine bp [(3,kP (H.length+1) 0 0 0),(1,au H.length)] (fun G=>G[b]?=some (ah 11 [cg y q])/\G[H.length]?=some (ah 1 [[.ptr b 0 0 0]])/\(∃a,G[H.length+1]?=some (ah 1 [[a]])/\km G a (iK e).2/\∀m∈rf a,H.length<=m)/\∀m,m≠b->m<H.length->G[m]?=H[m]?) ?_ ?_
  .have af:=QH 2 0 [] kb O F kf aA
   have P:=kb
   simp only[cg]at P
   have aq:∃n:Nat,n=l.length/\((a=ap/\n=0)\/∃h v,a= .sl h v 0 n/\t[h]?=some (.live v 5 (l.map bY))):=by
    rcases kf with⟨rfl,rfl⟩|⟨h,v,rfl,R⟩
    .exact ⟨0,rfl,.inl ⟨rfl,rfl⟩⟩
    .exact ⟨_,rfl,.inr ⟨h,v,rfl,R⟩⟩
   by_cases c1:l=[]/\e.due=true
   .obtain ⟨rfl,c2⟩:=c1
    have f4:(iK e).2=[nG e 2 0 []]:=by unfold iK;simp only[ao,c2];rfl
    rw[f4]
    rw[c2]at f3
    have⟨V,g,M,g1,W,E,g4⟩:=af
    have g6:g[b]?=t[b]?:=E b (by omega) (fun hm=>by have:=p b hm;omega) (by omega)
    have g7:g[H.length]?=t[H.length]?:=E H.length (by omega) (fun hm=>by have:=p _ hm;omega) (by omega)
    have g8:∀m,m≠b->m<H.length->g[m]?=H[m]?:=fun m hm x=>by rw[E m (by omega) (fun N=>by have:=p m N;omega) (by omega)];exact kk m hm x
    have g9:∀m∈rf V,H.length<=m:=fun m hm=>by
     rcases g4 m hm with h|h
     .have:=p m h;omega
     .omega
    have f5:nG y 2 0 []=nG e 2 0 []:=by unfold nG;rw[bj,bm]
    rw[kb]at g6
    rw[F]at g7
    rw[aiD,f5]at W
    obtain⟨n,hn,Q|⟨h,v,Q,N⟩⟩:=aq
    .obtain ⟨rfl,rfl⟩:=Q
     simp[-aD,b4,Z,b1,P,F,O,f3,M]
     exact⟨g6,g7,⟨V,g1,W,g9⟩,g8⟩
    .subst Q
     simp only[aiQ]at hn
     subst hn
     simp[-aD,b4,Z,b1,P,F,O,f3,M]
     exact⟨g6,g7,⟨V,g1,W,g9⟩,g8⟩
   .have f4:(iK e).2=l:=by unfold iK;simp only[ao];rw[if_neg c1]
    rw[f4]
    have fin:km t a l/\∀m∈rf a,H.length<=m:=⟨kf,fun m hm=>by have:=p m hm;omega⟩
    have⟨n,hn,Q⟩:=aq
    by_cases c2:n=0
    .have c3:l=[]:=by cases l with|nil=>rfl|cons aH l=>simp at hn;omega
     have c4:y.due=false:=by
      rw[f3]
      cases hd:e.due with
      |false=>rfl
      |true=>exact absurd ⟨c3,hd⟩ c1
     subst c2
     rcases Q with⟨rfl,_⟩|⟨h,v,rfl,N⟩
     .simp[Z,b1,P,F,O,c4]
      exact⟨by simp[cg,c4],fin,kk⟩
     .simp[Z,b1,P,F,O,c4]
      exact⟨by simp[cg,c4],fin,kk⟩
    .rcases Q with⟨_,h⟩|⟨h,v,rfl,N⟩
     .exact absurd h c2
     .have am:n<=l.length:=by omega
      simp[Z,b1,P,F,O,c2]
      exact⟨rfl,fin,kk⟩
  rintro aI G3⟨d3,d1,_⟩⟨mb,md,⟨aC,mc,mf,mr⟩,mk⟩
  have ar:=mb
  simp only[cg]at ar
  have aE:b≠H.length+1:=by omega
  have ms:∀av,(G3.set b av)[H.length+1]?=some (ah 1 [[aC]]):=fun av=>by rw[aat aE];exact mc
  simp[d3,d1,ar,md,ms]
  refine⟨(ba mb).trans ?_,mf.Ga mb (fun v e=>by cases e),fun m hm x=>by rw[aat (ait hm)];exact mk m hm x,mr,by have:=bf md;omega⟩
  simp[cg, <-Y,iK,hj]
end
section
def tL(H:List Ob)(c:Nat->aU)(k:aU)(q:ab)(n:Nat):Prop:=(n=0/\q=ap)\/∃h v rows,q= .sl h v 0 n/\H[h]?=some (.live v 1 rows)/\rows.length=n/\c h=k
def tL.aK{H H':List Ob}{c a:Nat->aU}{K:aU->Prop}{k:aU}{q:ab}{n:Nat}(h:tL H c k q n)(d:aH K c a H H')(e:¬K k):tL H' a k q n:=by
 rcases h with h|⟨h,v,rows,f,g,i,b⟩
 .exact .inl h
 .have ⟨j,l⟩:=d.get g (by rw[b];exact e);exact .inr ⟨h,v,rows,f,j,i,l.trans b⟩
structure lQ(H:List Ob)(c:Nat->aU)(g:Nat->aU)(p:Nat)(e:Bool->Nat)(gt:Bool->ab)(nt:Nat)(room:Int)(P:Pp):Prop where
 hp:H[p]?=some (ah 5 [[.ptr (e false) 0 0 0,.ptr (e true) 0 0 0,gt false,gt true,.ptr nt 0 0 0]])
 cp:c p=g 0
 l:∀s,o9 H c (g (1+ci s)) (e s) (P.e s)
 t:∀s,tL H c (g (6+ci s)) (gt s) (P.dR s)
 n:fV H c g nt room P.q
 r:P.room=(eB room 0 1000).toNat
def eD(H:List Ob)(c:Nat->aU)(g:Nat->aU)(p:Nat)(P:Pp):Prop:= ∃e gt nt room,lQ H c g p e gt nt room P
structure dO(P:Pp):Prop where
 l:∀s,ib (P.e s)
 q:∀s,(P.q s).length<=P.room
 b:∀s, ∀t∈P.q s,t.length<=1000
 r:P.room<=1000
def Gp(g:Nat->aU):aU->Prop:=fun x=>∃i,i<=7/\x=g i
def rQ{g:Nat->aU}{x:aU}(h:Gc g x):Gp g x:=by have⟨i,b,c,a⟩:=h;exact⟨i,by omega,a⟩
def fV.aK{H H':List Ob}{c a:Nat->aU}{g:Nat->aU}{K:aU->Prop}{b:Nat}{room:Int}{q:Bool->List bx}(h:fV H c g b room q)(d:aH K c a H H')(e:∀i,3<=i->i<=5-> ¬K (g i)):fV H' a g b room q:=by have⟨mp,f,h⟩:=h;exact⟨mp,f,h.aK d e⟩
section
variable{H:List Ob}{c:Nat->aU}{g:Nat->aU}{p nt:Nat}{room:Int}{e:Bool->Nat}{gt:Bool->ab}{P:Pp}
def lQ.aK{H':List Ob}{d:Nat->aU}{K:aU->Prop}(h:lQ H c g p e gt nt room P)(a:aH K c d H H')(b:∀i,i<=7-> ¬K (g i)):lQ H' d g p e gt nt room P:=by have⟨f,j⟩:=a.get h.hp (by rw[h.cp];exact b 0 (by omega));exact⟨f,j.trans h.cp,fun s=>(h.l s).aK a (b _ (by have:=nq s;omega)),fun s=>(h.t s).aK a (b _ (by have:=nq s;omega)),h.n.aK a fun i _ _=>b i (by omega),h.r⟩
def lQ.AN{d:List Ob}{f:Nat->aU}{s:Bool}{x:Lk}(k:fL g)(h:lQ H c g p e gt nt room P)(a:aH (· =g (1+ci s)) c f H d)(m:o9 d f (g (1+ci s)) (e s) x):lQ d f g p e gt nt room (P.jO s x):=by
 have v:=nq s;have b:∀ {i:Nat},i≠1+ci s-> ¬g i=g (1+ci s):=fun o e=>o (k.1 _ _ e);have⟨q,u⟩:=a.get h.hp (by rw[h.cp];exact b (by omega));refine⟨q,u.trans h.cp,fun t=>?_,fun t=>(h.t t).aK a (b (by omega)),h.n.aK a fun i _ _=>b (by omega),h.r⟩;by_cases j:t=s
 .subst j;simp only[Pp.jO,pO];exact m
 .simp only[Pp.jO,qn _ _ j];exact(h.l t).aK a (b fun e=>j (by cases s<;>cases t<;>simp_all[ci]))
def lQ.sg{a:List Ob}{b:Nat->aU}{q:Bool->List bx}(d:fL g)(h:lQ H c g p e gt nt room P)(f:aH (Gc g) c b H a)(hn:fV a b g nt room q):lQ a b g p e gt nt room ⟨P.e,q,P.room,P.dR⟩:=by have⟨i,j⟩:=f.get h.hp (by rw[h.cp];exact Ch d (by omega));exact⟨i,j.trans h.cp,fun s=>(h.l s).aK f (Ch d (by have:=nq s;omega)),fun s=>(h.t s).aK f (Ch d (by omega)),hn,h.r⟩
def sI(H:List Ob)(p:Nat)(s:Bool):aO tz ay 134 [au p,aa (bI s)] H=some (aR true,H):=by
 obtain⟨r,a,b,rfl,rfl⟩:=cG (C:=tz) (f:=134) (args:=[au p,aa (bI s)]) (H:=H) (fun x a=>x=aR true/\a=H) func134 rfl (by cases s<;>simp[f134,bI])
 rw[dz (f:=134) rfl];exact b
def Us(m:fL g)(h:eD H c g p P)(n:dO P)(s:Bool)(b:bx):∃d a,aO tz ay 81 [au p,aa (bI s),.c (Sg b)] H=some (aa (P.send s b).2,a)/\eD a d g p (P.send s b).1/\aH (Gp g) c d H a:=by
 have⟨e,gt,nt,room,h⟩:=h;have⟨a,d,o,q,j⟩:=UF (h.l s) (n.l s) b;have k:=sI H p s;have hp:=h.hp;obtain⟨r,i,t,rfl,rfl⟩:=cG (C:=tz) (f:=81) (args:=[au p,aa (bI s),.c (Sg b)]) (H:=H) (fun x i=>x=aa (P.send s b).2/\i=a) func81 rfl (by cases s<;>simp only[bI,aes,if_false,if_true]at k|- <;>simp[-aD,f81,k,hp,o,Pp.send])
 exact⟨d,i,by rw[dz (f:=81) rfl];exact t,⟨e,gt,nt,room,h.AN m j q⟩,j.mono fun x u=>⟨_,by have:=nq s;omega,u⟩⟩
def Za(w:fL g)(h:eD H c g p P)(y:dO P)(s:Bool):∃n a,aO tz ay 99 [au p,aa (bI s)] H=some (.aM [],a)/\eD a n g p (P.tick s)/\aH (Gp g) c n H a:=by
 have⟨e,gt,nt,room,h⟩:=h;have⟨q,d,z,i,A⟩:=h.l s;have o:=y.l s;obtain⟨a,B,rfl⟩:=U5 d o.a0 (by have:=o.a1;omega);have t:=dK (by simp) B;have j:aH (· =g (1+ci s)) c c H (H.set (e s) (ah 11 [cg (oS (P.e s)) q])):=pD (b:=e s) (h:=e s) (by simp) i i fun m hm _=>aat (ait hm)
 have u:o9 (H.set (e s) (ah 11 [cg (oS (P.e s)) q])) c (g (1+ci s)) (e s) (oS (P.e s)):=by
  refine⟨q,ba d,?_,i,A⟩
  have D:(oS (P.e s)).queue=(P.e s).queue:=by
   unfold oS;split
   .rfl
   .split<;>rfl
  rw[D];exact z.aK d fun m hm=>aat (ait hm)
 have v:=sI H p s;have hp:=h.hp;have⟨a,E⟩:=ak (H.set (e s) (ah 11 [cg (oS (P.e s)) q]));rw[E]at t j u;obtain⟨r,k,F,rfl,rfl⟩:=cG (C:=tz) (f:=99) (args:=[au p,aa (bI s)]) (H:=H) (fun x k=>x= .aM []/\k=a) func99 rfl (by cases s<;>simp only[bI,aes,if_false,if_true]at v|- <;>simp[-aD,f99,v,hp,t])
 exact⟨c,k,by rw[dz (f:=99) rfl];exact F,⟨e,gt,nt,room,h.AN w j u⟩,j.mono fun x G=>⟨_,by have:=nq s;omega,G⟩⟩
end
end
section
def XG(H:List Ob)(f:Fm)(a:f.body.length<=100000):aO tz ay 137 [.agg (bY f)] H=some (.aM [.c (Sg (jW f).1),aa (jW f).2],H):=by have h:=ahh f a;simp only[bY]at h|-;have b:da (Sg f.body)=Sg f.body:=rfl;have d:∀k x,da (.v (.int k x))= .v (.int k x):=fun _ _=>rfl;simp[b,d,h]
def Dy(R:Nat):∀(a:List Fm) (l:List bx) (n:Nat),l.length<=R->(gL R a l n).1.length<=R/\l.length<=(gL R a l n).1.length
 |[],l,n,h=>⟨h,ad3 _⟩
 |f::a,l,n,h=>by
  unfold gL
  split
  .rename_i hc
   have⟨b,c⟩:=Dy R a (l++[(jW f).1]) (n+1) (by simp;omega)
   simp at c
   exact⟨b,by omega⟩
  .exact Dy R a l n h
def O4(R:Nat)(f:Fm):∀(b:List Fm) (l:List bx) (n:Nat),gL R (b++[f]) l n=if(jW f).2=0/\(gL R b l n).1.length<R then((gL R b l n).1++[(jW f).1],(gL R b l n).2+1)else gL R b l n
 |[],l,n=>rfl
 |a::b,l,n=>by
  simp only[ai7,gL]
  split<;>exact O4 R f b _ _
def Au(R:Nat):∀(a:List Fm) (l:List bx) (n:Nat),(gL R a l n).2<=n+a.length
 |[],l,n=>ad3 _
 |f::a,l,n=>by
  unfold gL
  split
  .have:=Au R a (l++[(jW f).1]) (n+1)
   simp;omega
  .have:=Au R a l n
   simp;omega
def vF(s:Bool):adW.wrap (1-bI s)=bI (!s):=by cases s<;>rfl
def RG{a:Type}(f:Bool->a)(s:Bool)(x y:a):up (up f s x) s y=up f s y:=by funext t;unfold up;split<;>rfl
def Nf{e:Lk}(c:ib e):(iK e).2.length<=8/\∀f∈(iK e).2,f.body.length<=64:=by
 have h:=c.w1;have j:=c.s0;have d:(tI e).length<=8:=by unfold tI pX;simp;omega
 unfold iK;simp only;split
 .exact ⟨by simp,fun f a=>by simp at a;subst a;simp[nG]⟩
 .refine ⟨d,fun f a=>?_⟩;unfold tI at a;obtain⟨i,k,rfl⟩:=aiK.1 a;simp only[qi,nG,ae5];cases g:e.queue[e.bN.toNat+i]? with
  |none=>simp
  |some s=>exact c.b s (aiJ g)
def km.aK{H H':List Ob}{q:ab}{l:List Fm}(h:km H q l)(a:∀m∈rf q,H'[m]?=H[m]?):km H' q l:=by
 rcases h with h|⟨h,v,rfl,b⟩
 .exact .inl h
 .exact .inr ⟨h,v,rfl,by rw[a h (by simp[rf])];exact b⟩
section
variable{H:List Ob}{c:Nat->aU}{g:Nat->aU}{p:Nat}{P:Pp}
def aaL(I:fL g)(h:eD H c g p P)(T:dO P)(s:Bool):∃b A,aO tz ay 83 [au p,aa (bI s)] H=some (aa (P.go s).2,A)/\eD A b g p (P.go s).1/\aH (Gp g) c b H A:=by
 have⟨e,U,V,room,h⟩:=h;have⟨ae,J,B,k3,k4⟩:=h.l s;have⟨t,o,e1,l1,l2,l3,l4,l5⟩:=ZE J B (T.l s).ok (by have:=(T.l s).w1;omega);have W:aO tz ay 136 [kP (e s) 0 0 0] H=some (.c t,o):=by rw[dz (f:=136) rfl];exact e1
 have X:aH (· =g (1+ci s)) c (ext c H.length .none) H o:=aH.of _ l5 fun m hm hk=>l3 m (fun Y=>hk (by rw[Y];exact k3)) hm
 have kb:e s∉rf ae:=fun hm=>by
  rcases B with⟨_,rfl⟩|⟨h,v,lo,rows,rfl,D,_⟩
  .simp[rf]at hm
  .simp[rf]at hm;rw[hm,D]at J;cases J
 have r1:o9 o (ext c H.length .none) (g (1+ci s)) (e s) (iK (P.e s)).1:=⟨ae,l1,B.same fun m hm=>l3 m (fun Y=>kb (by rw[<-Y];exact hm)) (B.lt m hm),by rw[jf (bf J)];exact k3,fun m hm=>by rw[jf (B.lt m hm)];exact k4 m hm⟩;have r2:=h.AN I X r1;have⟨f8,f64⟩:=Nf (T.l s);have⟨c1,af⟩:=ak (ext c H.length .none);have cf:∀m∈rf t,c1 m= .none:=fun m hm=>by rw[<-af];exact jr (l4 m hm)
 rw[af]at X r2;have⟨a,ag⟩:=ak ((iK (P.e s)).2);rw[ag]at l2 f8 f64
 obtain⟨ax,A,h1,b,rfl,D,h3⟩:=cG (C:=tz) (f:=83) (args:=[au p,aa (bI s)]) (H:=H) (fun x H2=>∃b,x=aa (P.go s).2/\eD H2 b g p (P.go s).1/\aH (Gp g) c b H H2) func83 rfl (by
  have ao:=sI H p s;have hp:=h.hp;simp only[f83,cr];rw[fQ,fQ];refine bp [(0,au p),(1,aa (bI s)),(5,aa 0)] (fun G=>G=H) ?_ ?_
  .simp[-aD,ao]
  rintro Z G⟨a0,a1,a5,_⟩hG;obtain rfl:H=G:=hG.symm;have⟨n,hn⟩:=ak a.length
  have ai:(t=ap/\n=0)\/∃h v,t= .sl h v 0 n/\o[h]?=some (.live v 5 (a.map bY)):=by
   rcases l2 with⟨rfl,rfl⟩|⟨h,v,rfl,D⟩
   .exact .inl ⟨rfl,hn.symm⟩
   .exact .inr ⟨h,v,by rw[hn],D⟩
  have⟨R,hR⟩:=ak P.room;have hr:=h.r;rw[hR]at hr;refine bp [(5,aa ((gL R a (P.q s) 0).2:Nat))] (fun G=>∃b,lQ G b g p e U V room ⟨(P.jO s (iK (P.e s)).1).e,up P.q s (gL R a (P.q s) 0).1,R,P.dR⟩/\aH (Gc g) c1 b o G) ?_ ?_
  .refine eh (fun ab=>Has ab.env [(0,au p),(1,aa (bI s)),(20,.c t),(21,aa n),(22,aa (0:Nat)),(5,aa (0:Nat))]/\ab.heap=o/\ab.bG=[]) ?_ ?_
   .rcases ai with⟨rfl,rfl⟩|⟨h,v,rfl,hh⟩
    .cases s<;>simp[-aD,a0,a1,a5,hp,W,bI]
    .have az:n<=a.length:=by omega
     cases s<;>simp[-aD,a0,a1,a5,hp,W,bI]
   rintro⟨Z,G,ds⟩⟨q,K,k⟩;simp only at q K k;subst k;obtain rfl:o=G:=K.symm;rw[eC];refine Ends.bl (gM (fun j:Nat=>[(0,au p),(1,aa (bI s)),(20,.c t),(21,aa n),(22,aa j),(5,aa ((gL R (a.take j) (P.q s) 0).2:Nat))]) (fun j G=>j<=n/\∃b,lQ G b g p e U V room ⟨(P.jO s (iK (P.e s)).1).e,up P.q s (gL R (a.take j) (P.q s) 0).1,R,P.dR⟩/\aH (Gc g) c1 b o G) [] (fun j=>n-j) _ [0,1,20,21,22,5] (fun _=>rfl) ?_ 0 _ ?_ ⟨by omega,c1,?_,aH.refl _ _ _⟩ rfl);rotate_left
   .exact q
   .have e0:up P.q s (gL R (a.take 0) (P.q s) 0).1=P.q:=FZ _ _;rw[e0];have:=r2;simp only[Pp.jO,hR]at this|-;exact this
   clear q e1 W;rintro j ⟨Z,G,ds⟩ q ⟨K,b,k,u⟩ g5;simp only at q K k u g5;subst g5;simp at q;have⟨b0,b1,ad,L,M,r⟩:=q;by_cases d:j<n
   .have w:j<a.length:=by omega
    have⟨f,hf⟩:=ak a[j];have aq:f∈a:=by rw[<-hf];exact aix w
    have ar:a.take (j+1)=a.take j++[f]:=by rw[aiH,abM w,hf];rfl
    have i:=O4 R f (a.take j) (P.q s) 0;rw[<-ar]at i;have⟨l,hl⟩:=ak ((gL R (a.take j) (P.q s) 0).1);have⟨m,hm⟩:=ak ((gL R (a.take j) (P.q s) 0).2);rw[hm]at r;rw[hl]at k i;rw[hm]at i;obtain⟨h,v,rfl,hh⟩:=ai.resolve_left fun e=>by omega
    have gh:G[h]?=some (.live v 5 (a.map bY)):=by rw[u.aK h (bf hh) (by rw[cf h (by simp[rf])];exact ND I)];exact hh
    have N:(a.map bY)[j]?=some (bY f):=by rw[adf,abM w,hf];rfl
    have⟨c2,av⟩:=ak (ext b G.length .none);have⟨G2,y⟩:=ak (G++[ah 5 [bY f]]);have aj:aH (fun _=>False) b c2 G G2:=by rw[<-av, <-y];exact aH.of _ (by simp) fun m hm _=>abE hm
    have O:=k.aK aj fun _ _ h=>h;have E:=fun H=>XG H f (by have:=f64 f aq;omega);have⟨c3,G3,F,n3,s3⟩:=c138 I O.n s (jW f).1;simp only[pO, <-hr]at F n3;have z:=O.sg I s3 n3;have al:=O.hp;have hw:adW.wrap ((j:Int)+1)=((j+1:Nat):Int):=cv (by omega);have Q:G2[G.length]?=some (ah 5 [bY f]):=by rw[<-y];simp
    have aA:m<=8:=by have:=Au R (a.take j) (P.q s) 0;rw[hm,ai1]at this;omega
    have aw:adW.wrap ((m:Int)+1)=((m+1:Nat):Int):=cv (by omega);have am:=vF s;have sG:aH (Gc g) c1 c2 o G2:=u.trans (aj.mono fun _ h=>h.elim);simp only[bY]at N Q y E;by_cases S:(jW f).2=0
    .rw[S]at E;by_cases c5:l.length<R
     .rw[if_pos ⟨S,c5⟩]at i;rw[decide_eq_true c5]at F;have hq:nP R l (jW f).1=l++[(jW f).1]:=if_pos c5;rw[hq]at z;simp only[RG]at z;simp[-aD,-getElem?_pos,-ad0,b0,b1,ad,L,M,r,d,gh,w,N,y,Q,E,F,al,am,hw,aw];exact⟨j+1,by omega,⟨rfl,by rw[i]⟩,by omega,c3,by rw[i];exact z,sG.trans s3⟩
     .rw[if_neg (fun e=>c5 e.2)]at i;rw[decide_eq_false c5]at F;have hq:nP R l (jW f).1=l:=if_neg c5;rw[hq]at z;simp only[RG]at z;simp[-aD,-getElem?_pos,-ad0,b0,b1,ad,L,M,r,d,gh,w,N,y,Q,E,F,al,am,hw];exact⟨j+1,by omega,⟨rfl,by rw[i,hm]⟩,by omega,c3,by rw[i,hl];exact z,sG.trans s3⟩
    .rw[if_neg (fun e=>S e.1)]at i;simp[-aD,-getElem?_pos,-ad0,b0,b1,ad,L,M,r,d,gh,w,N,y,Q,E,S,hw];exact⟨j+1,by omega,⟨rfl,by rw[i,hm]⟩,by omega,c2,by rw[i,hl];exact O,sG⟩
   .simp[-aD,L,M,r,d];rw[acu (by omega)]at k;exact⟨by rw[acu (by omega)],b,k,u⟩
  rintro Z G⟨r,_⟩⟨b,k,u⟩;simp[r];have an:(P.go s).2=(gL R a (P.q s) 0).2/\(P.go s).1=⟨(P.jO s (iK (P.e s)).1).e,up P.q s (gL R a (P.q s) 0).1,R,P.dR⟩:=by unfold Pp.go;simp only[ag,hR,Pp.ud,Pp.jO];exact⟨trivial,trivial⟩
  rw[an.1,an.2];exact⟨rfl,b,⟨e,U,V,room,k⟩,(X.mono fun x hx=>⟨_,by have:=nq s;omega,hx⟩).trans (u.mono fun x hx=>rQ hx)⟩)
 exact⟨b,A,by rw[dz (f:=83) rfl];exact h1,D,h3⟩
end
end
section
section
variable{H:List Ob}{c:Nat->aU}{g:Nat->aU}{p:Nat}{P:Pp}
def wL(s:Bool):(!(!s))=s:=by cases s<;>rfl
def YL(d:fL g)(h:eD H c g p P)(s:Bool)(k:Int):∃i a,aO tz ay 96 [au p,aa (bI s),aa k] H=some (eF (P.look s k),a)/\eD a i g p P/\aH (Gp g) c i H a:=by
 have⟨e,m,o,room,h⟩:=h;have⟨c1,t,j,u,l⟩:=Dj d h.n (!s) k;have v:=h.sg d l u;rw[wL]at j;have w:=sI H p s;have hp:=h.hp;have y:=vF s;unfold Pp.look eF at*;obtain⟨r,b,z,rfl,rfl⟩:=cG (C:=tz) (f:=96) (args:=[au p,aa (bI s),aa k]) (H:=H) (fun x b=>x= .aM [.c (Sg ((dV (P.q !s) k).getD [])),aR (dV (P.q !s) k).isSome]/\b=t) func96 rfl (by simp[-aD,f96,w,hp,j,y])
 exact⟨c1,b,dK (by simp) z,⟨e,m,o,room,v⟩,l.mono fun x A=>rQ A⟩
def Ms{s:Bool}{k:Int}{b:bx}(a:P.look s k=some b):uA (P.q (!s)) k=(P.q (!s)).eraseIdx k.toNat:=by
 unfold Pp.look dV at a;split at a
 .cases a
 .have:=bf a;unfold uA;rw[if_pos (by omega)]
def Oo{s:Bool}{k:Int}(a:P.look s k=none):uA (P.q (!s)) k=P.q (!s):=by
 unfold Pp.look dV at a;unfold uA;split at a
 .rw[if_neg (by omega)]
 .have:=List.getElem?_eq_none_iff.1 a;rw[if_neg (by omega)]
def ag7(i:fL g)(h:eD H c g p P)(s:Bool)(k:Int):∃j a,aO tz ay 101 [au p,aa (bI s),aa k] H=some (aR (P.je s k).2,a)/\eD a j g p (P.je s k).1/\aH (Gp g) c j H a:=by
 have⟨e,u,v,room,h⟩:=h;have⟨c1,w,l,y,m⟩:=M3 i h.n (!s) k;have z:=h.sg i m y;rw[wL]at l;have A:=sI H p s;have hp:=h.hp;have B:=vF s
 have o:(P.je s k).2=(P.look s k).isSome/\(P.je s k).1=⟨P.e,up P.q (!s) (uA (P.q (!s)) k),P.room,P.dR⟩:=by
  unfold Pp.je;cases t:P.look s k with
  |none=>rw[Oo t,FZ];exact⟨rfl,rfl⟩
  |some b=>rw[Ms t];exact⟨rfl,rfl⟩
 rw[o.1,o.2];unfold Pp.look eF at*;obtain⟨r,d,D,rfl,rfl⟩:=cG (C:=tz) (f:=101) (args:=[au p,aa (bI s),aa k]) (H:=H) (fun x d=>x=aR (dV (P.q !s) k).isSome/\d=w) func101 rfl (by simp[-aD,f101,A,hp,l,B])
 exact⟨c1,d,dK (by simp) D,⟨e,u,v,room,z⟩,m.mono fun x E=>rQ E⟩
def TV(j:fL g)(h:eD H c g p P)(s:Bool)(k:Int):∃l a,aO tz ay 102 [au p,aa (bI s),aa k] H=some (aR (P.double s k).2,a)/\eD a l g p (P.double s k).1/\aH (Gp g) c l H a:=by
 have⟨e,v,w,room,h⟩:=h;have⟨c1,z,m,A,o⟩:=ado j h.n (!s) k;have B:=h.sg j o A;rw[wL]at m;have t:=dK (by simp) m;have D:=sI H p s;have hp:=h.hp;have E:=vF s
 have u:(P.double s k).2=(sM (eB room 0 1000).toNat P.q (!s) k).2/\(P.double s k).1=⟨P.e,(sM (eB room 0 1000).toNat P.q (!s) k).1,P.room,P.dR⟩:=by
  unfold Pp.double sM Pp.look;rw[h.r];cases dV (P.q !s) k with
  |none=>exact⟨rfl,by rw[<-h.r]⟩
  |some b=>exact⟨rfl,by simp only[Pp.ud,h.r]⟩
 rw[u.1,u.2];have⟨x,d⟩:=ak ((sM (eB room 0 1000).toNat P.q (!s) k).2);rw[d]at t|-;obtain⟨r,i,F,rfl,rfl⟩:=cG (C:=tz) (f:=102) (args:=[au p,aa (bI s),aa k]) (H:=H) (fun y i=>y=aR x/\i=z) func102 rfl (by simp[-aD,f102,D,hp,t,E])
 exact⟨c1,i,dK (by simp) F,⟨e,v,w,room,B⟩,o.mono fun x d=>rQ d⟩
def aao(l:fL g)(h:eD H c g p P)(w:dO P)(s:Bool)(k a:Int):∃m d,aO tz ay 103 [au p,aa (bI s),aa k,aa a] H=some (aR (P.flip s k a).2,d)/\eD d m g p (P.flip s k a).1/\aH (Gp g) c m H d:=by
 have⟨e,z,A,room,h⟩:=h;have⟨c1,B,o,D,t⟩:=agJ l h.n (!s) k a (w.b _);have E:=h.sg l t D;rw[wL]at o;have u:=dK (by simp) o;have F:=sI H p s;have hp:=h.hp;have G:=vF s
 have v:(P.flip s k a).2=(qE P.q (!s) k a).2/\(P.flip s k a).1=⟨P.e,(qE P.q (!s) k a).1,P.room,P.dR⟩:=by
  unfold Pp.flip qE Pp.look;cases dV (P.q !s) k with
  |none=>exact⟨rfl,rfl⟩
  |some b=>simp only;split<;>exact⟨rfl,rfl⟩
 rw[v.1,v.2];have⟨x,i⟩:=ak ((qE P.q (!s) k a).2);rw[i]at u|-;obtain⟨r,j,I,rfl,rfl⟩:=cG (C:=tz) (f:=103) (args:=[au p,aa (bI s),aa k,aa a]) (H:=H) (fun y j=>y=aR x/\j=B) func103 rfl (by simp[-aD,f103,F,hp,u,G])
 exact⟨c1,j,dK (by simp) I,⟨e,z,A,room,E⟩,t.mono fun x i=>rQ i⟩
end
end
section
def Xh{H:List Ob}{c:Nat->aU}{k:aU}{b:Nat}{e:Lk}(h:o9 H c k b e)(i:ib e)(f:Fm):∃a,aO tz ay 140 [au b,.agg (bY f)] H=some (eF (iY e f).2,a)/\o9 a c k b (iY e f).1/\aH (· =k) c c H a:=by have⟨q,g,j,d,l⟩:=h;obtain⟨n,a,o,rfl,p,r⟩:=XZ f g j i.ok;exact⟨_,dK (by simp) o,⟨n,ba g,p,d,fun m hm=>l m (r m hm)⟩,pD (b:=b) (h:=b) (by simp) d d fun m hm _=>aat (ait hm)⟩
def ON(H:List Ob)(l:bx)(a:l.length<=1000000):aO tz ay 54 [.c (Sg l)] H=some (.aM [.agg (bY (lF (jV l)).1),aa (lF (jV l)).2],H):=by have h:=Yl l a;simp[h,bY]
section
variable{H:List Ob}{c:Nat->aU}{g:Nat->aU}{p nt:Nat}{room:Int}{e:Bool->Nat}{gt:Bool->ab}{P:Pp}
def dO.cut(a:dO P)(s:Bool)(k:Int):dO (P.cut s k):=by
 have e:∀t,(P.cut s k).q t=up P.q (!s) ((P.q (!s)).eraseIdx k.toNat) t:=fun _=>rfl;refine⟨a.l,fun t=>?_,fun t x c=>?_,a.r⟩
 .rw[e];by_cases h:t=!s
  .subst h;rw[pO];exact ai5 (List.length_eraseIdx_le _ _) (a.q _)
  .rw[qn _ _ h];exact a.q t
 .rw[e]at c;by_cases h:t=!s
  .subst h;rw[pO]at c;exact a.b _ _ (List.mem_of_mem_eraseIdx c)
  .rw[qn _ _ h]at c;exact a.b _ _ c
def lQ.xj{a:List Ob}{f:Nat->aU}{s:Bool}{b:ab}{m:Nat}(o:fL g)(h:lQ H c g p e gt nt room P)(d:aH (fun x=>x=g 0\/x=g (6+ci s)) c f H a)(hp:a[p]?=some (ah 5 [[.ptr (e false) 0 0 0,.ptr (e true) 0 0 0,up gt s b false,up gt s b true,.ptr nt 0 0 0]]))(u:tL a f (g (6+ci s)) b m):lQ a f g p e (up gt s b) nt room ⟨P.e,P.q,P.room,up P.dR s m⟩:=by
 have y:=nq s
 have j:∀ {i:Nat},i≠0->i≠6+ci s-> ¬(g i=g 0\/g i=g (6+ci s)):=fun v w e=>by
  rcases e with e|e
  .exact v (o.1 _ _ e)
  .exact w (o.1 _ _ e)
 refine⟨hp,(d.jK p (bf h.hp)).trans h.cp,fun t=>(h.l t).aK d (j (by omega) (by have:=nq t;omega)),fun t=>?_,h.n.aK d fun i _ _=>j (by omega) (by omega),h.r⟩;by_cases k:t=s
 .subst k;simp only[pO];exact u
 .simp only[qn _ _ k];exact(h.t t).aK d (j (by omega) fun e=>k (by cases s<;>cases t<;>simp_all[ci]))
def Z7(N:fL g)(h:eD H c g p P)(hi:dO P)(s:Bool)(k:Int)(al:P.dR s<=1000000000):∃d Y,aO tz ay 84 [au p,aa (bI s),aa k] H=some (eF (P.jk s k).2,Y)/\eD Y d g p (P.jk s k).1/\aH (Gp g) c d H Y:=by
 have⟨e,gt,nt,room,h⟩:=h;have⟨c1,y,j,n1,O⟩:=M3 N h.n (!s) k;have D:=h.sg N O n1;rw[wL]at j;have Q:=sI H p s;have hp:=h.hp;have Z:=vF s
 have⟨aA,R,z,d,hv,r,S⟩:=cG (C:=tz) (f:=84) (args:=[au p,aa (bI s),aa k]) (H:=H) (fun x R=>∃d,x=eF (P.jk s k).2/\eD R d g p (P.jk s k).1/\aH (Gp g) c d H R) func84 rfl (by
  have am:dV (P.q !s) k=P.look s k:=rfl;rw[am]at j;unfold Pp.jk;cases u:P.look s k with
  |none=>rw[u]at j;rw[Oo u,FZ]at D;simp only[eF,ajm,ajk]at j|-;simp[-aD,f84,Q,hp,j,Z];exact⟨c1,⟨e,gt,nt,room,D⟩,O.mono fun x i=>rQ i⟩
  |some b=>
  have aB:b.length<=1000:=by
   unfold Pp.look dV at u;split at u
   .cases u
   .exact hi.b _ _ (aiJ u)
  rw[u]at j;rw[Ms u]at D;simp only[eF,ai0,ajj]at j;have E:=ON y b (by omega);have⟨f,hf⟩:=ak ((lF (jV b)).1);rw[hf]at E;simp only[bY]at E;by_cases T:(lF (jV b)).2=0
  case neg=>
   simp only[T,if_false,eF,ajm,ajk];simp[-aD,f84,Q,hp,j,Z,E,T];refine⟨ext c1 y.length .none,⟨e,gt,nt,room,D.aK (aH.of (K:=fun _=>False) _ ?_ ?_) fun _ _ h=>h⟩,(O.mono fun x i=>rQ i).trans (aH.of _ ?_ ?_)⟩
   .simp
   .exact fun m hm _=>abE hm
   .simp
   .exact fun m hm _=>abE hm
  rw[T]at E;simp only[T,if_true,hf];have⟨c2,an⟩:=ak (ext c1 y.length .none);have⟨G,U⟩:=ak (y++[ah 5 [bY f]]);have ag:aH (fun _=>False) c1 c2 y G:=by rw[<-an, <-U];exact aH.of _ (by simp) fun m hm _=>abE hm
  have r2:=D.aK ag fun _ _ h=>h;have gF:G[y.length]?=some (ah 5 [bY f]):=by rw[<-U];simp
  have⟨a,ai,l2,aj⟩:=Xh (r2.l s) (hi.l s) f;have A:=r2.AN N aj l2;simp only[bY]at ai gF U;have ao:=r2.hp;have w:=A.hp;have sA:aH (Gp g) c c2 H a:=((O.mono fun x i=>rQ i).trans (ag.mono fun _ h=>h.elim)).trans (aj.mono fun x i=>⟨_,by have:=nq s;omega,i⟩);have⟨o,ho⟩:=ak ((iY (P.e s) f).2);have ap:(iY ((P.cut s k).e s) f).2=o:=ho;rw[ap];have aq:aO tz ay 140 [kP (e s) 0 0 0,.agg [I f.kind,I f.link,U8 f.seq,U8 f.qD,Sg f.body]] G=some (.aM [.c (Sg (o.getD [])),aR o.isSome],a):=by rw[<-ho];exact ai
  have hP:((P.cut s k).jO s (iY ((P.cut s k).e s) f).1)=⟨(P.jO s (iY (P.e s) f).1).e,up P.q (!s) ((P.q !s).eraseIdx k.toNat),P.room,P.dR⟩:=rfl;rw[hP];simp only[f84,cr];rw[fQ,fQ,fQ,fQ,fQ,fQ];refine bp [(0,au p),(1,aa (bI s)),(9,aR o.isSome),(12,.c (Sg (o.getD [])))] (fun G=>G=a) ?_ ?_
  .cases s<;>simp only[bI,aes,if_false,if_true,Bool.not_false,Bool.not_true]at Q j Z|- <;>simp[-aD,Q,hp,j,E,U,gF,ao,aq,show adW.wrap 1=1 from rfl,show adW.wrap 0=0 from rfl]
  rintro en G3⟨a0,V,F,J,_⟩ar;obtain rfl:a=G3:=ar.symm;cases o with
  |none=>simp only[ajk,ajm]at F J;simp[-aD,F,J];exact⟨rfl,c2,⟨e,gt,nt,room,A⟩,sA⟩
  |some t=>
   simp only[ajj,ai0]at F J;have lp:=bf w;have aC:(P.jk s k).1=(P.jk s k).1:=rfl
   have fin:∀(L:ab) (B:List Ob),aH (fun x=>x=g 0\/x=g (6+ci s)) c2 (ext c2 a.length (g (6+ci s))) a B->B[p]?=some (ah 5 [[.ptr (e false) 0 0 0,.ptr (e true) 0 0 0,up gt s L false,up gt s L true,.ptr nt 0 0 0]])->tL B (ext c2 a.length (g (6+ci s))) (g (6+ci s)) L (P.dR s+1)->∃d,aw.aM [.c (Sg t),aR true]=eF (some t)/\eD B d g p ((⟨(P.jO s (iY (P.e s) f).1).e,up P.q (!s) ((P.q !s).eraseIdx k.toNat),P.room,P.dR⟩:Pp).zN s (some t))/\aH (Gp g) c d H B:=fun L B s4 av ax=>by
    refine⟨_,rfl,⟨e,up gt s L,nt,room,A.xj N s4 av ax⟩,sA.trans (s4.mono fun x i=>?_)⟩;rcases i with i|i
    .exact ⟨0,by omega,i⟩
    .exact ⟨_,by have:=nq s;omega,i⟩
   have⟨n,hn⟩:=ak (P.dR s);rw[hn]at fin al;have az:tL a c2 (g (6+ci s)) (gt s) n:=by rw[<-hn];exact A.t s
   have M:∀K,(a++K)[p]?=some (ah 5 [[.ptr (e false) 0 0 0,.ptr (e true) 0 0 0,gt false,gt true,.ptr nt 0 0 0]]):=fun K=>by rw[abE lp];exact w
   rcases az with⟨z,r⟩|⟨h,v,rows,z,r,S,h4⟩
   .have h5:∀X,((a++[Ob.live 0 1 [[Sg t]],Ob.live 0 1 [[Sg t]]]).set p X)[p]?=some X:=fun X=>ba (M _);have ad:=fin (.sl (a.length+1) 0 0 1) ((a++[Ob.live 0 1 [[Sg t]],Ob.live 0 1 [[Sg t]]]).set p (Ob.live 0 5 [[.ptr (e false) 0 0 0,.ptr (e true) 0 0 0,up gt s (.sl (a.length+1) 0 0 1) false,up gt s (.sl (a.length+1) 0 0 1) true,.ptr nt 0 0 0]])) (aH.of _ (by simp) fun m hm W=>by rw[aat (fun e=>W (.inl (by rw[<-e];exact A.cp))),abE hm]) (h5 _) (.inr ⟨a.length+1,0,[[Sg t]],by rw[z],by rw[aat (by omega),jh];rfl,by rw[z];rfl,jr (by omega)⟩)
    cases s<;>simp only[bI,aes,if_false,if_true]at V<;>rw[r]at M w<;>simp[a0,V,F,J,M,w,so];all_goals have⟨d,bj,bm⟩:=ad;exact⟨bj,d,bm⟩
   .have ae:h≠p:=fun e=>by rw[e,w]at r;cases r
    have gh:∀K,(a++K)[h]?=some (.live v 1 rows):=fun K=>by rw[abE (bf r)];exact r
    have af:∀K X,((a++K).set h X)[p]?=some (ah 5 [[.ptr (e false) 0 0 0,.ptr (e true) 0 0 0,gt false,gt true,.ptr nt 0 0 0]]):=fun K X=>by rw[aat ae];exact M K
    have m1:n+1<=maxLen:=by unfold maxLen;omega
    have m2:(n+1)*16<=140737488355328:=by omega
    have ht:rows.take n=rows:=acu (by omega);have ad:=fin (.sl h (v+1) 0 (n+1)) (((a++[Ob.live 0 1 [[Sg t]]]).set h (Ob.live (v+1) 1 (rows++[[Sg t]]))).set p (Ob.live 0 5 [[.ptr (e false) 0 0 0,.ptr (e true) 0 0 0,up gt s (.sl h (v+1) 0 (n+1)) false,up gt s (.sl h (v+1) 0 (n+1)) true,.ptr nt 0 0 0]])) (aH.of _ (by simp) fun m hm W=>by rw[aat (fun e=>W (.inl (by rw[<-e];exact A.cp))),aat (fun e=>W (.inr (by rw[<-e];exact h4))),abE hm]) (ba (af _ _)) (.inr ⟨h,v+1,rows++[[Sg t]],rfl,by rw[aat (ait ae),ba (gh _)],by simp[S],by rw[jf (bf r)];exact h4⟩)
    cases s<;>simp only[bI,aes,if_false,if_true]at V<;>rw[z]at M w af<;>simp[a0,V,F,J,w,so,gh,af,m1,m2,ht,S,ait ae];all_goals have⟨d,bj,bm⟩:=ad;exact⟨bj,d,bm⟩)
 exact⟨d,R,dK (by simp) (by rw[z,hv]),r,S⟩
end
end
def Vz(n room:Int):aS tz ay 2 215 [aa n,aa room]=some (au 1,[.mp [],ah 3 [[I (min (max n 0) 64),I room,.mr 0]]]):=by refine be func215 rfl ?_;simp[f215,GH]
def aex(H:List Ob)(room:Int):aO tz ay 215 [aa 2,aa room] H=some (kP (1+H.length) 0 0 0,H++[.mp [],ah 3 [[I 2,I room,.mr H.length]]]):=by have h:=Vz 2 room;rw[show min (max (2:Int) 0) 64=2 from rfl]at h;simp[h,ei,pB,jm,nT,rq,eN,dX,dZ,cy,bC,bA];omega
def ad9(H:List Ob)(a b d room e:Int):aO tz ay 216 [aa a,.c (U8 b),aa d,aa room,aa e] H=some (au H.length,H++[ah 11 [cg (oz a b d room e) ap]]):=by have h:=X6 a b d room e;have f:dX H.length (ah 11 [cg (oz a b d room e) ap])=ah 11 [cg (oz a b d room e) ap]:=qy rfl;have g:nT (ah 11 [cg (oz a b d room e) ap])=true:=rfl;simp[h,ei,pB,jm,eN,dZ,f,g]
def uz(room:Int)(x:Lk):Nat->List Ob
 |0=>[.mp [],ah 3 [[I 2,I room,.mr 0]],ah 5 [[.v (.pointer none),.v (.pointer none),ap,ap,.ptr 1 0 0 0]]]
 |1=>[.mp [],ah 3 [[I 2,I room,.mr 0]],ah 5 [[.ptr 3 0 0 0,.v (.pointer none),ap,ap,.ptr 1 0 0 0]],ah 11 [cg x ap]]
 |_=>[.mp [],ah 3 [[I 2,I room,.mr 0]],ah 5 [[.ptr 3 0 0 0,.ptr 4 0 0 0,ap,ap,.ptr 1 0 0 0]],ah 11 [cg x ap],ah 11 [cg x ap]]
def UD(b d e f g room:Int):aS tz ay 2 131 [aa b,.c (U8 d),aa e,aa f,aa g,aa room]=some (au 2,uz room (oz b d e f g) 2):=by
 refine be func131 rfl ?_;have u:=fun H=>aex H room;have h:=fun H=>ad9 H b d e f g;have⟨x,v⟩:=ak (oz b d e f g);rw[v]at h|-;simp[-aD,f131,u]
 refine Ends.loop (fun S=>S.env.get 13=some (au 2)/\S.bG=[]/\S.heap=uz room x 2)
  (gM (fun j:Nat=>[(13,au 2),(19,aa j),(0,aa b),(1,.c (U8 d)),(2,aa e),(3,aa f),(4,aa g)]) (fun j G=>j<=2/\G=uz room x j) [] (fun j=>2-j) _ [13,19,0,1,2,3,4] (fun _=>rfl) ?_ 0 _ (by simp) ⟨by omega,rfl⟩ rfl) ?_
 .rintro j⟨w,G,y⟩i⟨l,m⟩n;simp only at i l m n;subst m n;simp at i;have⟨a,k,o,p,q,r,s⟩:=i;match j,l with
  |0,_=>simp[-aD,uz,a,k,o,p,q,r,s,h];exact⟨1,by omega,rfl,by omega,rfl⟩
  |1,_=>simp[-aD,uz,a,k,o,p,q,r,s,h];exact⟨2,by omega,rfl,by omega,rfl⟩
  |2,_=>simp[-aD,uz,a,k]
 .rintro⟨w,G,y⟩⟨a,rfl,t⟩;simp only at a t;subst t;simp[a]
def tZ(c:Nat->aU)(g:Nat->aU)(n m:Nat):aU:=if m<n then c m else if m<n+2 then g 3 else if m=n+2 then g 0 else if m=n+3 then g 1 else g 2
def Qc{a:Type}{H:List a}{n:Nat}(l:List a)(k:Nat)(hn:H.length=n):(H++l)[k+n]?=l[k]?:=by rw[<-hn,alr];exact jh _ _ _
def VC{g:Nat->aU}(H:List Ob)(c:Nat->aU)(b d f room:Int):∃p o l,aO tz ay 131 [aa 1,.c (U8 0),aa b,aa d,aa f,aa room] H=some (au p,l)/\eD l o g p (wO b d f room)/\aH (fun _=>False) c o H l/\H.length<=p:=by
 have h:=UD 1 0 b d f room;have⟨x,j⟩:=ak (oz 1 0 b d f);have q:∀s,(wO b d f room).e s=x:=fun _=>j;have r:x.queue=[]:=by rw[<-j];rfl
 rw[j]at h;clear j;have⟨n,hn⟩:=ak H.length;have t:uz room x 2=[.mp [],ah 3 [[I 2,I room,.mr 0]],ah 5 [[.ptr 3 0 0 0,.ptr 4 0 0 0,ap,ap,.ptr 1 0 0 0]],ah 11 [cg x ap],ah 11 [cg x ap]]:=rfl;rw[t]at h;have u:dX n (ah 11 [cg x ap])=ah 11 [cg x ap]:=qy rfl;have v:nT (ah 11 [cg x ap])=true:=rfl;have⟨K,a⟩:=ak ([.mp [],ah 3 [[I 2,I room,.mr n]],ah 5 [[.ptr (3+n) 0 0 0,.ptr (4+n) 0 0 0,ap,ap,.ptr (1+n) 0 0 0]],ah 11 [cg x ap],ah 11 [cg x ap]]:List Ob);have i:∀k,(H++K)[k+n]?=K[k]?:=fun k=>Qc _ _ hn;refine⟨2+n,tZ c g n,H++K,?_,?_,?_,by omega⟩
 .rw[<-a];simp[h,hn,ei,pB,jm,nT,rq,eN,dX,dZ,cy,bC,bA];exact⟨.inl rfl,by omega,⟨by omega,by omega,by omega⟩,rfl⟩
 .refine ⟨fun s=>if s=true then 4+n else 3+n,fun _=>ap,1+n,room,⟨by rw[i 2, <-a];rfl,?_,fun s=>?_,fun s=> .inl ⟨rfl,rfl⟩,⟨n,[],⟨by rw[i 1, <-a];rfl,?_,rfl,?_,?_,fun s=> .inl ⟨rfl,rfl⟩⟩⟩,rfl⟩⟩
  .show tZ c g n (2+n)=g 0;unfold tZ;rw[if_neg (by omega),if_neg (by omega),if_pos (by omega)]
  .rw[q s];refine⟨ap,?_,.inl ⟨r,rfl⟩,?_,by simp[rf]⟩
   .cases s
    .exact (i 3).trans (by rw[<-a];rfl)
    .exact (i 4).trans (by rw[<-a];rfl)
   .unfold tZ;cases s
    .simp only[aes,if_false];rw[if_neg (by omega),if_neg (by omega),if_neg (by omega),if_pos (by omega)];rfl
    .simp only[if_true];rw[if_neg (by omega),if_neg (by omega),if_neg (by omega),if_neg (by omega)];rfl
  .have:=i 0;rw[aiW]at this;rw[this, <-a];rfl
  .unfold tZ;rw[if_neg (by omega),if_pos (by omega)]
  .unfold tZ;rw[if_neg (by omega),if_pos (by omega)]
 .refine ⟨by simp,fun m hm=>?_,fun m hm _=>abE hm⟩;unfold tZ;rw[if_pos (by omega)]
end Go.Nx
