/- A part of the proof. -/
import Derived.Test.YtndifkmolciiaaaGreatDoorX04
set_option linter.all false
set_option maxRecDepth 8000
set_option maxHeartbeats 1000000
open Go.IntKind renaming i64->adW
open Go.Oper renaming upon_value->aky
open Go.Proofs.Tryz renaming prog->aaG
open Go.Region renaming ready->akx
open Int renaming natCast_add->ad0
open List renaming drop->ajs,take_of_length_le->acu,take->ajr
namespace Go.Nx
open Go Go.Proofs Tryz
section
attribute [local simp] kn5
def aoY{H:List Ob}{n:Nat}{l:List ab}(h:ES l=true):eX (bU H (n+1)) l=some (l,[]):=mR h
def aok{g:ab->Option (ab×List Nat)}:∀ {rows rows':List (List ab)},rows.length=rows'.length->(∀i (h:i<rows.length) (m:i<rows'.length), ∃b,eX g rows[i]=some (rows'[i],b))->∃a,am0 g rows=some (rows',a)
 |[],[],_,_=>⟨[],rfl⟩
 |r::d,n::e,f,h=>by
  have⟨b,c⟩:=h 0 (by simp) (by simp)
  obtain⟨a,j⟩:=aok (rows:=d) (rows':=e) (by simpa using f) fun i k l=>by have:=h (i+1) (by simpa using k) (by simpa using l);simpa only[List.getElem_cons_succ]using this
  simp only[amZ]at c
  exact⟨b++a,by simp only[am0,c,j]⟩
def aoe:∀ {rows:List (List ab)},bA rows=true->∀i (h:i<rows.length),ES rows[i]=true
 |r::a,h,0,_=>by simp only[bA,abR]at h;exact h.1
 |r::a,h,i+1,b=>by simp only[bA,abR]at h;exact aoe h.2 i (by simpa using b)
def aoH{H:List Ob}{n:Nat}{rows rows':List (List ab)}(c:rows.length=rows'.length)(h:∀i (h:i<rows.length) (j:i<rows'.length), ∃b,eX (bU H (n+1)) rows[i]=some (rows'[i],b)):∃e,jb (bU H (n+1)) rows=some (rows',e):=by
 unfold jb;split
 .rename_i f;refine⟨[],?_⟩;have:rows=rows':=List.ext_getElem c fun i d g=>by have⟨b,a⟩:=h i d g;rw[aoY (aoe f i d)]at a;rw[ab1,aca]at a;exact a.1
  rw[this]
 .exact aok c h
section
variable{H:List Ob}{N:Nat}
theorem SlR.view{z n:Nat}{q:ab}{rows:List (List ab)}(h:SlR N H z q rows)(c:bA rows=true):bU H (n+1) q=some (.aj rows,[z]):=by obtain⟨h,v,_,rfl,a⟩:=h;have b:=um (lo:=0) (len:=rows.length) a (by simp);rw[akn,aiF]at b;exact zF a b c
theorem NdL.view{n:Nat}{r:List ab}{x:Nd}(h:NdL N H r x):∃b,eX (bU H (n+1)) r=some (aT x,b):=by obtain⟨s,o,p,q,rfl,a,c,d,f⟩:=h.e;have g:=a.view (n:=n) (bK _);have i:=c.view (n:=n) (bV _);have j:=d.view (n:=n) (bR _);have k:=f.view (n:=n) (bR _);have l:=yS (H:=H) (n:=n) (Gf x.dr.need);have m:=yS (H:=H) (n:=n) (Gf x.told);exact⟨_,by simp only[eX,vI,g,i,j,k,l,m];rfl⟩
def apA{h v a len z n:Nat}{rows b c:List (List ab)}{d:List Nat}(e:H[h]?=some (.live v z rows))(f:Nx.view H (.sl h v a len)=some b)(g:jb (bU H n) b=some (c,d)):bU H (n+1) (.sl h v a len)=some (.aj c,z::d):=by simp only[bU,bC,obj,e,f,g,if_true,aes,if_false]
theorem am1.view{n:Nat}{q:ab}{a:List Nd}(h:am1 N H q a):∃b,bU H (n+2) q=some (.aj (a.map aT),b):=by
 obtain⟨h,v,rows,_,rfl,c,g,j⟩:=h;have d:=um (lo:=0) (len:=a.length) c (by omega);rw[akn,acu (by omega)]at d;have⟨m,e⟩:=aoH (H:=H) (n:=n) (rows:=rows) (rows':=a.map aT) (by simp[g]) fun i k o=>by have⟨r,f,l⟩:=j i (by omega);rw[abM k]at f;cases f;rw[List.getElem_map];exact l.view
 exact⟨_,apA c d e⟩
theorem MlL.view{c:Nat->aU}{n k:Nat}{q:ab}(h:MlL H c q k):∃r b,bU H (n+1) q=some (r,b)/\bC (da r)=true/\da (da r)=da r:=by
 rcases h with⟨rfl|rfl,_⟩|⟨h,v,rows,rfl,a,f,d,_⟩
 .exact ⟨ap,[],rfl,rfl,rfl⟩
 .exact ⟨.aj [],[],rfl,rfl,rfl⟩
 .have e:=um (lo:=0) (len:=k) a (by omega);rw[akn,acu (by omega)]at e;exact⟨_,_,zF a e d,by simpa[da,bC]using d,rfl⟩
def c14{x:Nd}{s:ab}(h:SlR N H 8 s (x.dr.ai.af.map ax))(a:x.dr.ai.af.length<=maxLen)(b:Int):aO tz ay 14 [.agg [I x.dr.ai.id,I x.dr.ai.phase,s],aa b] H=some (.aM [.agg (ax (amS x.dr.ai.af b).1),aR (amS x.dr.ai.af b).2],H):=by have e:=h.view (n:=5) (bK _);have p:=p14 x.dr.ai.id x.dr.ai.phase b x.dr.ai.af a;have⟨S,c⟩:=DD (x.dr.ai.af.map ax);rw[c]at e p;simp only[ax]at p|-;simp[-bU,show tz.md 14=0 from rfl,df,eX,vI,e,p,da,ei,kj,cW,fW]
def c15{c:Nat->aU}{q b:ab}{k:Nat}{a:List Nd}(h:am1 N H q a)(hm:MlL H c b k){x y:Nat}(d:x<a.length)(e:y<a.length)(f:∀n∈a,n.dr.ai.af.length<=maxLen):aO tz ay 15 [.agg [q,b],aa x,aa y] H=some (aR (anK a x y),H):=by have⟨l,g⟩:=h.view (n:=4);have⟨r,m,i,j,o⟩:=hm.view (n:=5);have p:=p15 a (da r) j x y d e f;simp[-bU,show tz.md 15=0 from rfl,df,eX,vI,g,i,p,ahw,ei,kj,cW,fW]
end
end
section
attribute [local simp] kn5
def aos(a:List Nd):Prop:= ∀x y (_:x<y) (b:y<a.length),((amS (a[x]'(by omega)).dr.ai.af y).2=true->(amS (a[x]'(by omega)).dr.ai.af y).1.state=0->anK a x y=true)/\((amS a[y].dr.ai.af x).2=true->(amS a[y].dr.ai.af x).1.state=0->(amS (a[x]'(by omega)).dr.ai.af y).2=true)/\((amS (a[x]'(by omega)).dr.ai.af y).2=true->(amS a[y].dr.ai.af x).2=true->(amS (a[x]'(by omega)).dr.ai.af y).1.aP=(amS a[y].dr.ai.af x).1.aP)
section
variable{H:List Ob}{c:Nat->aU}{b:Nat}{K:Cl}
def c12{le:ab}(h:bJ H c b K)(hl:K.nodes.length<=5)(hs:∀n∈K.nodes,fu n)(hm:∀x aP,(K.tr x aP).left.length<=1000000)(aB:aos K.nodes)(x:LA)(aC:Int)(aE:Bool):∃y H',aO tz ay 12 [au b,.agg (cM x),.c le,aa aC,aR aE] H=some (aR true,H')/\bJ H' y b K/\aH GJ c y H H':=by
 have⟨q,P,aF,c1,J,aQ,E,F,L,k4⟩:=c13 h hl hs hm;have⟨n,hn⟩:=DD K.nodes.length;have⟨I,aS⟩:=DD K.nodes;rw[aS]at E hs aB hn hl;have⟨p,hp⟩:=DD J.length;have am:∀n∈I,n.dr.ai.af.length<=maxLen:=fun n hn=>by have:=(hs n hn).si;unfold maxLen;omega
 have⟨a,Q⟩:=DD (J++[ah 2 [[q,P]]]);have a5:a.length=p+1:=by rw[<-Q];simp[hp]
 have aT:a[p]?=some (ah 2 [[q,P]]):=by rw[<-Q, <-hp];simp
 have bj:am1 H.length a q I:=E.aK fun m _ hm=>by rw[<-Q];exact abE hm
 have an:aH (fun _=>False) c1 (ext c1 p .none) J a:=by rw[<-hp, <-Q];exact aH.of _ (by simp) fun m hm _=>abE hm
 have bm:MlL a (ext c1 p .none) P aF:=F.aK an fun h=>h;have f3:bJ a (ext c1 p .none) b K:=L.aK an fun _ h=>h.elim
 obtain⟨ao,H',t,y,rfl,o,h3⟩:=cG (C:=tz) (f:=12) (args:=[au b,.agg (cM x),.c le,aa aC,aR aE]) (H:=H) (fun ao H'=>∃y,ao=aR true/\bJ H' y b K/\aH GJ c y H H') func12 rfl (by
  have hx:=Lg x;simp only[f12,cr];refine bp [(0,au b)] (fun G=>G=H) ?_ ?_
  .obtain ⟨w,ws,U⟩:∃w ws,cM x=w::ws:=⟨_,_,rfl⟩;rw[U]at hx|-;simp[hx]
  rintro r H⟨a0,_⟩rfl;refine bp [(11,au p)] (fun G=>G=a) ?_ ?_
  .have aU:∀X:Ob,(J++[X])[p]?=some X:=fun X=>by rw[<-hp];simp
   have aV:∀X ap:Ob,(J++[X]).set p ap=J++[ap]:=fun X ap=>by rw[<-hp];simp
   simp[-aD,-getElem?_pos,a0,aQ,hp,aU,aV,Q]
  rintro r a⟨aW,_⟩rfl;rw[iM];refine Ends.sq ?_;refine bp [(11,au p),(12,aa (0:Nat))] (fun G=>G=a) ?_ ?_
  .simp[aW]
  rintro r a V rfl;rw[eC]
  have R:∀G:List Ob,a.length<=G.length->(∀m,m<a.length->G[m]?=a[m]?)->G[p]?=some (ah 2 [[q,P]])/\am1 H.length G q I/\MlL G (ext c1 p .none) P aF/\∃y,bJ G y b K/\aH GJ c y H G:=fun G t o=>by
   have st:aH (fun _=>False) (ext c1 p .none) (ext (ext c1 p .none) a.length .none) a G:=aH.of _ t fun m hm _=>o m hm
   exact⟨by rw[o p (by omega)];exact aT,bj.aK fun m _ hm=>o m hm,by
    rcases bm with h|⟨h,v,rows,h3,h4,h5⟩
    .exact .inl h
    .exact .inr ⟨h,v,rows,h3,by rw[o h (bf h4)];exact h4,h5⟩,_,f3.aK st (fun _ h=>h.elim),k4.trans ((an.trans st).mono fun _ h=>h.elim)⟩
  refine iv (fun i:Nat=>[(11,au p),(12,aa i)]) (fun i G=>i<=n/\a.length<=G.length/\∀m,m<a.length->G[m]?=a[m]?) (fun i=>n-i) ?_ 0 V ⟨by omega,ad3 _,fun _ _=>rfl⟩ fun _=>rfl;rintro i r G ⟨d,e,_⟩ ⟨g2,z,u⟩;have⟨D,W,q3,cc,q4,q5⟩:=R G z u;have aq:=W;obtain⟨hq,v,rows,r1,rfl,Y,r4,Z⟩:=aq;rw[hn]at D;by_cases ar:i<n
  case neg=>simp[-getElem?_pos,d,e,D,ar];exact⟨cc,q4,q5⟩
  have aG:adW.wrap ((i:Int)+1)=((i+1:Nat):Int):=cv (by omega);refine bp [(11,au p),(12,aa i)] (fun k=>k=G) ?_ ?_
  .simp[-getElem?_pos,d,e,D,ar]
  rintro r G⟨d,e,_⟩rfl;refine bp [(11,au p),(12,aa i)] (fun k=>a.length<=k.length/\∀m,m<a.length->k[m]?=a[m]?) ?_ ?_
  .rw[eC];refine Ends.bl ?_;refine bp [(11,au p),(12,aa i),(13,aa (i+1:Nat))] (fun k=>k=G) ?_ ?_
   .simp[-ad0,d,e,aG]
   rintro r G V rfl;rw[eC];refine iv (fun j:Nat=>[(11,au p),(12,aa i),(13,aa j)]) (fun j G=>i+1<=j/\j<=n/\a.length<=G.length/\∀m,m<a.length->G[m]?=a[m]?) (fun j=>n-j) ?_ (i+1) V ⟨ad3 _,by omega,z,u⟩ fun _=>rfl;clear D W q3 q4 q5 r1 Y r4 Z g2 z u;rintro j r G ⟨d,e,l,_⟩ ⟨V,g2,z,u⟩;have⟨D,W,q3,cc,q4,q5⟩:=R G z u;have aq:=W;have⟨aX,v',rows,r1,rq,Y,r4,Z⟩:=aq;rw[hn]at D rq;obtain⟨rfl,rfl⟩:hq=aX/\v=v':=by cases rq;exact⟨rfl,rfl⟩
   by_cases dj:j<n
   case neg=>simp[-getElem?_pos,d,e,l,D,dj];exact⟨z,u⟩
   have aY:adW.wrap ((j:Int)+1)=((j+1:Nat):Int):=cv (by omega);refine bp [(11,au p),(12,aa i),(13,aa j)] (fun k=>k=G) ?_ ?_
   .simp[-getElem?_pos,d,e,l,D,dj]
   rintro r G⟨d,e,l,_⟩rfl;refine bp [(11,au p),(12,aa i),(13,aa j)] (fun k=>a.length<=k.length/\∀m,m<a.length->k[m]?=a[m]?) ?_ ?_
   .rw[eC];refine Ends.bl ?_;have hi:i<I.length:=by omega
    have hj:j<I.length:=by omega
    have⟨ad,M,N⟩:=aB i j (by omega) hj;obtain⟨rx,ex,⟨sx,a6,a7,akx,rfl,vx,_⟩⟩:=Z i hi;obtain⟨ry,ey,⟨sy,a8,a9,aky,rfl,vy,_⟩⟩:=Z j hj;have aZ:=fun k (t:a.length<=k.length) (o:∀m,m<a.length->k[m]?=a[m]?)=>c15 (R k t o).2.1 (R k t o).2.2.1 hi hj am;have aI:=am _ (aix hi);have aJ:=am _ (aix hj);have S:=c14 vx aI j;have⟨nx,a1⟩:=DD I[i];have⟨ny,a2⟩:=DD I[j];rw[a1]at ad M N ex S vx aI;rw[a2]at M N ey vy aJ;have⟨⟨ae,O⟩,hu⟩:=DD (amS nx.dr.ai.af j);have⟨⟨w,qw⟩,U⟩:=DD (amS ny.dr.ai.af i);rw[hu]at ad M N S;rw[U]at M N;simp only at ad M N S;simp only[ax]at S;have iR:i<rows.length:=by omega
    have jR:j<rows.length:=by omega
    have⟨g,hg⟩:=DD G.length;have gg:∀X:Ob,(G++[X])[g]?=some X:=fun X=>by rw[<-hg];simp
    refine bp [(11,au p),(12,aa i),(13,aa j),(14,au g),(15,aR O)] (fun k=>k=G++[ah 8 [ax ae]]) ?_ ?_
    .simp[-aD,-getElem?_pos,d,e,l,D,Y,ex,iR,ar,S,hg,ax,gg]
    rintro r s⟨d,e,l,A,B,_⟩ag;have l2:s.length=g+1:=by rw[ag];simp[hg]
    have aL:a.length<=s.length:=by omega
    have av:∀m,m<a.length->s[m]?=a[m]?:=fun m hm=>by rw[ag,abE (by omega)];exact u m hm
    have aw:=(R s aL av).1;rw[hn]at aw;have aM:=aZ s aL av;have T:s[g]?=some (ah 8 [ax ae]):=by rw[ag, <-hg];simp
    simp only[ax]at T;refine bp [(11,au p),(12,aa i),(13,aa j),(14,au g),(15,aR O)] (fun k=>k=s) ?_ ?_
    .by_cases t:O=true
     .subst t;by_cases o:ae.state=0
      .have a3:=ad rfl o;rw[a3,hn]at aM;simp[-aD,-getElem?_pos,d,e,l,A,B,aw,T,o,aM]
      .simp[-aD,-getElem?_pos,d,e,l,A,B,T,o]
     .have t:O=false:=by simpa using t
      subst t;simp[-aD,-getElem?_pos,d,e,l,A,B,T]
    rintro r s⟨d,e,l,A,B,_⟩rfl;have up:∀m az,G[m]?=some az->s[m]?=some az:=fun m az h=>by rw[ag,abE (bf h)];exact h
    have aA:=c14 (vy.aK (H':=s) fun m v ao _ o=>(up m _ o).trans o.symm) aJ i;rw[U]at aA;simp only[ax]at aA;have a4:=up _ _ Y;have aN:∀X:Ob,(s++[X])[g+1]?=some X:=fun X=>by rw[<-l2];simp
    refine bp [(11,au p),(12,aa i),(13,aa j),(14,au g),(15,aR O),(16,au (g+1)),(17,aR qw)] (fun k=>k=s++[ah 8 [ax w]]) ?_ ?_
    .simp[-aD,-getElem?_pos,d,e,l,A,B,aw,a4,ey,jR,dj,aA,l2,ax,aN]
    rintro r G3⟨d,e,l,A,B,aj,ak,_⟩al;have E:G3[g]?=some (ah 8 [ax ae]):=by rw[al,abE (by omega)];exact T
    have F:G3[g+1]?=some (ah 8 [ax w]):=by rw[al];exact aN _
    have L:a.length<=G3.length/\∀m,m<a.length->G3[m]?=a[m]?:=⟨by rw[al];simp;omega,fun m hm=>by rw[al,abE (by omega)];exact av m hm⟩;simp only[ax]at E F;cases O<;>cases qw
    .simp[-getElem?_pos,d,e,l,A,B,aj,ak,E,F];exact L
    .by_cases h:w.state=0
     .cases M rfl h
     .simp[-getElem?_pos,d,e,l,A,B,aj,ak,E,F,h];exact L
    .simp[-getElem?_pos,d,e,l,A,B,aj,ak,E,F];exact L
    .have h:=N rfl rfl;by_cases h':w.state=0;all_goals simp[-getElem?_pos,d,e,l,A,B,aj,ak,E,F,h,h'];exact L
   .rintro r k⟨d,e,l,_⟩⟨z,u⟩;simp[-ad0,d,e,l,aY];exact⟨j+1,by omega,rfl,by omega,by omega,z,u⟩
  .rintro r k⟨d,e,_⟩⟨z,u⟩;simp[-ad0,d,e,aG];exact⟨i+1,by omega,rfl,by omega,z,u⟩)
 exact⟨y,H',dK (by simp) t,o,h3⟩
end
end
section
attribute [local simp] kn5
def aoA(l:List aI)(p:Int):K9 l p=if(amS l p).2=true then some ((amS l p).1.aP,(amS l p).1.state)else none:=by unfold K9 amS;cases l.find? (cP p)<;>simp
def EpI.ok{M:Ms}{K:Cl}(h:EpI M K):aos K.nodes:=by
 intro x y k g;have l:x<K.nodes.length:=by omega
 have⟨d,e,f⟩:=(h.p x y k g).law;have m:(vw K.nodes[x] y).side=K9 K.nodes[x].dr.ai.af y:=rfl;have n:(vw K.nodes[y] x).side=K9 K.nodes[y].dr.ai.af x:=rfl;rw[m,n,aoA,aoA]at d e f;have o:K.nodes.getD x .zero=K.nodes[x]:=by rw[ae5,abM l];rfl
 have r:K.nodes.getD y .zero=K.nodes[y]:=by rw[ae5,abM g];rfl
 unfold anK;rw[o,r];have⟨⟨u,p⟩,i⟩:=DD (amS K.nodes[x].dr.ai.af y);have⟨⟨w,q⟩,j⟩:=DD (amS K.nodes[y].dr.ai.af x);rw[i,j]at d e f;rw[i,j];simp only at*;refine⟨fun a b=>?_,fun a b=>?_,fun a b=>?_⟩
 .have:=d u.aP (by simp[a,b]);by_cases c:q=true
  .simp[c]at this;simp[a,c,this.1]
  .simp[c]at this
 .by_cases c:p=true
  .exact c
  .exact absurd (by simp[c]) (e (by simp[a]))
 .exact f u.aP u.state w.aP w.state (by simp[a]) (by simp[b])
def api{g:Gr}(v:fa g=true)(c:List Int)(r:mZ):EpI (fun _ _ _=>False) (kM g c r):=by
 have d:=vX v;have z:(kM g c r).nodes.length=g.n.toNat:=by simp[kM]
 have o:∀i (h:i< (kM g c r).nodes.length),(kM g c r).nodes[i]=iD g c i:=fun i h=>by simp[kM]
 refine⟨⟨fun a b m hm=>by simp[kM]at hm,fun a b s f=>?_⟩,fun x y A B=>?_⟩
 .simp[kM,Cl.pipe,wO,oz]at f
 rw[o,o]
 have q:∀(i:Nat) (p:Int),vw (iD g c i) p=if p∈ec g i then⟨some (1,0),1,[]⟩else⟨none,0,[]⟩:=by
  intro i p
  have f:∀l:List Int,K9 (l.map (io c i)) p=if p∈l then some (1,0)else none:=fun l=>by
   induction l with
   |nil=>rfl
   |cons a l j=>rw[ag9,ank,j];simp only[io];grind
  have w:∀l:List Int,gR ((l.map (io c i)).map fun x=>⟨x.peer,x.aP⟩) p=if p∈l then 1 else 0:=fun l=>by
   induction l with
   |nil=>rfl
   |cons a l j=>simp only[ag9,gR,j];simp only[io];grind
  show Vw.mk (K9 ((ec g i).map (io c i)) p) (gR (((ec g i).map (io c i)).map fun x=>⟨x.peer,x.aP⟩) p) []=_;rw[f,w];split<;>rfl
 rw[q,q];have hm:(y:Int)∈ec g x↔ (x:Int)∈ec g y:=by rw[d.m,d.m];constructor;all_goals rintro⟨e,t,h⟩;have:=d.e e t;exact⟨e,t,by omega⟩
 have u:∀k e, ¬mg (fun _=>False) k e:=fun k e ⟨_,h,_⟩=>h;by_cases c:(y:Int)∈ec g x
 .rw[if_pos c,if_pos (hm.1 c)];constructor<;>simp[u]<;>omega
 .rw[if_neg c,if_neg fun h=>c (hm.2 h)];constructor<;>simp[u]
def apO(hA:aS tz ay 0 7 []=some (aR true,[]))(g:Gr)(r:mZ)(l:List LA):∃a,bB tz (ev tz) 5 [.agg (bQ g),.agg (fU r),bh (l.map cM)] []=some (aR true,a):=by
 obtain⟨r',a,F,rfl⟩:=cG (C:=tz) (f:=5) (args:=[.agg (bQ g),.agg (fU r),bh (l.map cM)]) (H:=[]) (fun r a=>r=aR true) func5 rfl (by
  have d:=p8 g l;have k:=jU g.bw;have p:bA (l.map cM)=true:=jg _ (fun x=>Lg x) l;simp only[f5,cr];have q:=@c9 Unit g r l 12;have w:bQ g=[I g.n,.aj (g.bw.map du)]:=rfl;have⟨E,L⟩:=DD (g.bw.map du);have⟨R,N⟩:=DD (l.map cM);rw[L]at k w;rw[N]at p d q|-;rw[w]at d q|-;refine bp [(3,.c (.aJ [[I g.n,.aj E]] 0 0)),(4,.c (.aJ [fU r] 0 0)),(2,bh R)] (fun G=>G=[]) ?_ ?_
  .simp[k,fU]
  rintro O G⟨n,m,o,_⟩rfl;cases t:rD g l with
  |false=>rw[t]at d;simp[n,m,o,hA,d,k,p]
  |true=>
  rw[t]at d;have⟨b,g5,P,Q⟩:=afJ t;refine bp [(3,.c (.aJ [[I g.n,.aj E]] 0 0)),(4,.c (.aJ [fU r] 0 0)),(2,bh R)] (fun G=>G=[]) ?_ ?_
  .simp[n,m,o,hA,d,k,p]
  rintro O G⟨n,m,o,_⟩rfl;have⟨c,ab,hc,u,S,T⟩:=S9 (vX b)
  have⟨ad,z,s',y,a,A,_⟩:=q (caps:=[]) (K0:=kM g c r) (J:=fun _ _ _=>True) (Inv:=fun j K G _=>dL (9001*j) K/\K.nodes.length=g.n.toNat/\∃M,EpI M K/\anT M G) (adK r b hc u S T) (Yc b c r) (by simp[kM]) (by have:=((nD g).1 b).1;omega) (by have:=((nD g).1 b).2.2.1;exact this) P Q
   (fun _ _ _ _ _ h _=>h)
   (fun j K G s x K' ev e le ae z H c hj U v B V hA k u hJ=>by
    have⟨v,hn,M,W,X⟩:=U
    have⟨w1,w2⟩:=agW v (by omega) hA
    have⟨Y,D,Z⟩:=apN W v (by omega) X V hA g.n.toNat
    have⟨y,a,bj,bm,f3⟩:=c12 (le:=le) u (by rw[w2,hn];omega) (fun af hn=>by
     obtain⟨i,hi,rfl⟩:=alH hn
     exact w1.n.s i hi) (fun x aa=>by have:=w1.t x aa;omega) D.ok x e z
    exact⟨(),y,a,bj,bm,f3,trivial,w1,by rw[w2,hn],Y,D,Z⟩)
   () ⟨Yc b c r,by simp[kM],_,api b c r,fun x B=>by simp at B⟩ [] (fun _=> .cl 10) trivial
  simp only[fU]at m A;simp[-aD,n,m,o,A])
 exact⟨a,F⟩
end
def kA:Reads aaG 3 (fun n:Int=>[.v (.int .i64 n)]) (fun n=>(Lit.int .i64 n).wf=true):=RQ underlying3
def aaa:Reads aaG 34 (fun n:Int=>[.v (.int .i64 n)]) (fun n=>(Lit.int .i64 n).wf=true):=RQ underlying34
def kz:aaG.cellsOf 3=1:=by kernel_rfl
def W5:aaG.cellsOf 34=1:=by kernel_rfl
def ahb:Reads aaG 112 du (fun _=>True):=by refine xb underlying112 (by kernel_rfl:aaG.cellsOf 112=2) (fun H b W c d m cs f e=>?_);have⟨l,g⟩:=e 0 _ rfl;have⟨h,n,a⟩:=kA H b W c d m _ _ g;change aY _ _ (ajr (aaG.cellsOf 3) (ajs 0 cs))at a;rw[kz]at a;have⟨p,i⟩:=e 1 _ rfl;have⟨j,q,c1⟩:=kA H b W c d m _ _ i;change aY _ _ (ajr (aaG.cellsOf 3) (ajs 1 cs))at c1;rw[kz]at c1;refine⟨⟨h,j⟩,trivial,?_⟩;have:=(jw (o:=0) (k:=1) a (jw (o:=1) (k:=1) c1 (xz f)));exact this
def VW:Reads aaG 22 (fun l:List Edge=>[.aj (l.map du)]) (fun l=>(l.length<=maxLen/\∀y∈l,True)):=I4 underlying22 ahb (by kernel_rfl:aaG.cellsOf 112=2) (by decide) (fun _=>rfl)
def Tu:aaG.cellsOf 22=1:=by kernel_rfl
def YC:Reads aaG 24 bQ (fun _=>True):=by refine xb underlying24 (by kernel_rfl:aaG.cellsOf 24=2) (fun H b W c d m cs f e=>?_);have⟨l,g⟩:=e 0 _ rfl;have⟨h,n,a⟩:=kA H b W c d m _ _ g;change aY _ _ (ajr (aaG.cellsOf 3) (ajs 0 cs))at a;rw[kz]at a;have⟨p,i⟩:=e 1 _ rfl;have⟨j,q,c1⟩:=VW H b W c d m _ _ i;change aY _ _ (ajr (aaG.cellsOf 22) (ajs 1 cs))at c1;rw[Tu]at c1;refine⟨⟨h,j⟩,trivial,?_⟩;have:=(jw (o:=0) (k:=1) a (jw (o:=1) (k:=1) c1 (xz f)));exact this
def agn:Reads aaG 26 fU (fun _=>True):=by refine xb underlying26 (by kernel_rfl:aaG.cellsOf 26=5) (fun H a W b c m cs f d=>?_);have⟨t,g⟩:=d 0 _ rfl;have⟨h,u,e⟩:=kA H a W b c m _ _ g;change aY _ _ (ajr (aaG.cellsOf 3) (ajs 0 cs))at e;rw[kz]at e;have⟨v,i⟩:=d 1 _ rfl;have⟨j,w,c1⟩:=kA H a W b c m _ _ i;change aY _ _ (ajr (aaG.cellsOf 3) (ajs 1 cs))at c1;rw[kz]at c1;have⟨x,l⟩:=d 2 _ rfl;have⟨n,y,c2⟩:=kA H a W b c m _ _ l;change aY _ _ (ajr (aaG.cellsOf 3) (ajs 2 cs))at c2;rw[kz]at c2;have⟨z,p⟩:=d 3 _ rfl;have⟨q,A,c3⟩:=kA H a W b c m _ _ p;change aY _ _ (ajr (aaG.cellsOf 3) (ajs 3 cs))at c3;rw[kz]at c3;have⟨B,r⟩:=d 4 _ rfl;have⟨s,C,c4⟩:=kA H a W b c m _ _ r;change aY _ _ (ajr (aaG.cellsOf 3) (ajs 4 cs))at c4;rw[kz]at c4;refine⟨⟨h,j,n,q,s⟩,trivial,?_⟩;have:=(jw (o:=0) (k:=1) e (jw (o:=1) (k:=1) c1 (jw (o:=2) (k:=1) c2 (jw (o:=3) (k:=1) c3 (jw (o:=4) (k:=1) c4 (xz f))))));exact this
def Xd:Reads aaG 30 (fun l:List Int=>[aG l]) (fun l=>(l.length<=maxLen/\∀y∈l,(Lit.int .i64 y).wf=true)):=I4 underlying30 kA kz (by decide) (fun _=>rfl)
def WR:aaG.cellsOf 30=1:=by kernel_rfl
def XL(x:Act):List ab:=[I x.kind,I x.id,I x.peer,I x.hold,aG x.need]
def ahk:Reads aaG 36 XL (fun _=>True):=by refine xb underlying36 (by kernel_rfl:aaG.cellsOf 36=5) (fun H a W b c m cs f d=>?_);have⟨t,g⟩:=d 0 _ rfl;have⟨h,u,e⟩:=aaa H a W b c m _ _ g;change aY _ _ (ajr (aaG.cellsOf 34) (ajs 0 cs))at e;rw[W5]at e;have⟨v,i⟩:=d 1 _ rfl;have⟨j,w,c1⟩:=kA H a W b c m _ _ i;change aY _ _ (ajr (aaG.cellsOf 3) (ajs 1 cs))at c1;rw[kz]at c1;have⟨x,l⟩:=d 2 _ rfl;have⟨n,y,c2⟩:=kA H a W b c m _ _ l;change aY _ _ (ajr (aaG.cellsOf 3) (ajs 2 cs))at c2;rw[kz]at c2;have⟨z,p⟩:=d 3 _ rfl;have⟨q,A,c3⟩:=kA H a W b c m _ _ p;change aY _ _ (ajr (aaG.cellsOf 3) (ajs 3 cs))at c3;rw[kz]at c3;have⟨B,r⟩:=d 4 _ rfl;have⟨s,C,c4⟩:=Xd H a W b c m _ _ r;change aY _ _ (ajr (aaG.cellsOf 30) (ajs 4 cs))at c4;rw[WR]at c4;refine⟨⟨h,j,n,q,s⟩,trivial,?_⟩;have:=(jw (o:=0) (k:=1) e (jw (o:=1) (k:=1) c1 (jw (o:=2) (k:=1) c2 (jw (o:=3) (k:=1) c3 (jw (o:=4) (k:=1) c4 (xz f))))));exact this
def adl:aaG.cellsOf 36=5:=by kernel_rfl
def af0:Reads aaG 38 cM (fun _=>True):=by refine xb underlying38 (by kernel_rfl:aaG.cellsOf 38=10) (fun H a W b c m cs f d=>?_);have⟨v,g⟩:=d 0 _ rfl;have⟨h,w,e⟩:=kA H a W b c m _ _ g;change aY _ _ (ajr (aaG.cellsOf 3) (ajs 0 cs))at e;rw[kz]at e;have⟨x,i⟩:=d 1 _ rfl;have⟨j,y,c1⟩:=kA H a W b c m _ _ i;change aY _ _ (ajr (aaG.cellsOf 3) (ajs 1 cs))at c1;rw[kz]at c1;have⟨z,l⟩:=d 2 _ rfl;have⟨n,A,c2⟩:=kA H a W b c m _ _ l;change aY _ _ (ajr (aaG.cellsOf 3) (ajs 2 cs))at c2;rw[kz]at c2;have⟨B,p⟩:=d 3 _ rfl;have⟨q,C,c3⟩:=kA H a W b c m _ _ p;change aY _ _ (ajr (aaG.cellsOf 3) (ajs 3 cs))at c3;rw[kz]at c3;have⟨D,r⟩:=d 4 _ rfl;have⟨s,E,c4⟩:=kA H a W b c m _ _ r;change aY _ _ (ajr (aaG.cellsOf 3) (ajs 4 cs))at c4;rw[kz]at c4;have⟨F,t⟩:=d 5 _ rfl;have⟨u,G,c5⟩:=ahk H a W b c m _ _ t;change aY _ _ (ajr (aaG.cellsOf 36) (ajs 5 cs))at c5;rw[adl]at c5;refine⟨⟨h,j,n,q,s,u⟩,trivial,?_⟩;have:=(jw (o:=0) (k:=1) e (jw (o:=1) (k:=1) c1 (jw (o:=2) (k:=1) c2 (jw (o:=3) (k:=1) c3 (jw (o:=4) (k:=1) c4 (jw (o:=5) (k:=5) c5 (xz f)))))));exact this
def TA:Reads aaG 27 (fun l:List LA=>[.aj (l.map cM)]) (fun l=>(l.length<=maxLen/\∀y∈l,True)):=I4 underlying27 af0 (by kernel_rfl:aaG.cellsOf 38=10) (by decide) (fun _=>rfl)
end Go.Nx
