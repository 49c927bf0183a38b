/- A part of the proof. -/
import Derived.Test.YtndifkmolciiaaaGreatDoorX01
set_option linter.all false
set_option maxRecDepth 8000
set_option maxHeartbeats 1000000
open BitVec renaming ofInt->aji
open Go.IntKind renaming i64->adW,u32->ajV,u64->aiY,u8->ajf,wrap->am0
open Go.Proofs.Tryz renaming prog->aaG
open Int renaming natCast_add->ad0
open List renaming drop_eq_getElem_cons->agO,drop_of_length_le->ajD,filter_eq_nil_iff->alk,filter_eq_self->ajq,getElem?_append_right->aea,getElem?_set_self->ahr,length_append->agc,length_drop->aj0,map_append->aid,map_map->ajc,map_set->aiC,map_take->akL,pairwise_cons->ahg,replicate->ahv,set_append_right->ajw,take_add_one->aiH,take_of_length_le->acu
open List.Pairwise renaming nil->akr
open Nat renaming beq_eq->akv,beq->ajx
open UInt8 renaming ofNat->al1
namespace Go.Nx
open Go Go.Proofs Tryz
section
variable{H:List Ob}
section
variable{f:aI->aI}{g:aI->List cB}{p:aI->Bool}{l:List aI}{k:Nat}
def mW(f:aI->aI)(l:List aI)(k:Nat):List aI:=(l.take k).map f++l.drop k
def p6(g:aI->List cB)(l:List aI)(k:Nat):List cB:=(l.take k).flatMap g
def sD(p:aI->Bool)(l:List aI)(k:Nat):Bool:=(l.take k).all p
def aep(a:k<=l.length):(mW f l k).length=l.length:=by simp[mW];omega
def Ut(a:k<l.length):(mW f l k)[k]?=some l[k]:=by unfold mW;rw[aea (by simp;omega)];simp[aj1 (alq a),a]
def aby(a:k<l.length):(mW f l k).set k (f l[k])=mW f l (k+1):=by
 unfold mW;have b:((l.take k).map f).length=k:=by simp;omega
 rw[ajw (h:=by omega),b,ajB,jC a,agO a,ajQ,aid,aiu];rfl
def Zz:mW f l l.length=l.map f:=by simp[mW]
def YV:p6 g l l.length=l.flatMap g:=by simp[p6]
def aeT:sD p l l.length=l.all p:=by simp[sD]
def Tv(a:k<l.length):p6 g l (k+1)=p6 g l k++g l[k]:=by unfold p6;rw[jC a,aku,List.flatMap_singleton]
def aaI(a:k<l.length):sD p l (k+1)=(sD p l k&&p l[k]):=by unfold sD;rw[jC a,List.all_append,akw,al7,akP]
def Mp(a:∀x,(g x).length<=2):∀l:List aI,(l.flatMap g).length<=2*l.length
 |[]=>by simp
 |x::r=>by
  have b:=a x
  have c:=Mp a r
  simp only[aiz,agc,aip]
  omega
def adx(a:∀x,(g x).length<=2):(p6 g l k).length<=2*k:=by
 have h:=Mp a (l.take k);have b:(l.take k).length<=k:=by simp;omega
 unfold p6;omega
end
def mS.ne{b hs vs:Nat}{ol:ab}{l:List cB}{rows:List (List ab)}(h:mS H b ol l)(d:H[hs]?=some (.live vs 8 rows)):∀v a n,ol≠ .sl hs v a n:=by
 rintro v a n rfl;rcases h with⟨_,h⟩|⟨e,f,_,h,c⟩
 .cases h
 .cases h;rw[d]at c;cases c
def kL.row{b:Nat}{id ph th:Int}{sl nd ol:ab}{l:List cB}{hs vs:Nat}{rows:List (List ab)}(h:kL H b id ph sl th nd ol l)(f:H[hs]?=some (.live vs 8 rows))(g:hs≠b)(y:Ob):kL (H.set hs y) b id ph sl th nd ol l:=by
 have⟨i,a⟩:=h;refine⟨by rw[aat g];exact i,?_⟩;have j:=a.ne f;rcases a with a|⟨k,c,m,d,n⟩
 .exact .inl a
 .refine .inr ⟨k,c,m,d,?_⟩;rw[aat (fun e=>j c 0 l.length (by rw[d,e]))];exact n
structure RB(b hs vs n:Nat)(id ph th:Int)(nd ol0:ab)(H0:List Ob)(rows:List (List ab))(outs:List cB)(G:List Ob)(ol:ab):Prop where
 d:kL G b id ph (.sl hs vs 0 n) th nd ol outs
 r:G[hs]?=some (.live vs 8 rows)
 f:Fr [b,hs] ol0 ol H0 G
 ne:hs≠b
 k:ol0≠eW->ol≠eW
def mS.sn{b:Nat}{ol:ab}{l:List cB}{x:cB}(h:mS H b ol (l++[x])):ol≠eW:=by
 rcases h with⟨h,_⟩|⟨a,c,_,rfl,_⟩
 .simp at h
 .simp
section
variable{b hs vs n:Nat}{id ph th:Int}{nd ol0 ol:ab}{H0 G:List Ob}{rows:List (List ab)}{outs:List cB}
def RB.set(h:RB b hs vs n id ph th nd ol0 H0 rows outs G ol)(a:List (List ab)):RB b hs vs n id ph th nd ol0 H0 a outs (G.set hs (.live vs 8 a)) ol:=
 ⟨h.d.row h.r h.ne _,ba h.r,h.f.trans (Fr.set (by simp) _),h.ne,h.k⟩
theorem RB.send(h:RB b hs vs n id ph th nd ol0 H0 rows outs G ol)(x:aI)(K:Int)(i:outs.length<=100000):∃a c,bB tz (ev tz) 343 [au b,.agg [I x.peer,I x.aP,I x.state,B x.fork,B x.cK,B x.token,B x.dc,B x.ask],aa K] G=some (.aM [],a)/\RB b hs vs n id ph th nd ol0 H0 rows (outs++[ft id x K]) a c:=by have⟨a,c,j,e,g⟩:=L9 h.d x K i;exact⟨a,c,j,e,(g.2 _ _ h.r (by simp[h.ne]) (h.d.ho.ne h.r)).1,h.f.trans (g.mono (by simp)),h.ne,fun _=>e.ho.sn⟩
def mS.PQ{b:Nat}{ol:ab}{l:List cB}(h:mS H b ol l)(y:Ob):mS (H.set b y) b ol l:=by
 rcases h with h|⟨c,d,a,e,f⟩
 .exact .inl h
 .exact .inr ⟨c,d,a,e,by rw[aat (ait a)];exact f⟩
theorem RB.bH(h:RB b hs vs n id ph th nd ol0 H0 rows outs G ol)(a c:Int):RB b hs vs n id a c nd ol0 H0 rows outs (G.set b (ah 6 [[I id,I a,.sl hs vs 0 n,I c,nd,ol]])) ol:=
 ⟨⟨ba h.d.hb,h.d.ho.PQ _⟩,by rw[aat (ait h.ne)];exact h.r,h.f.trans (Fr.set (by simp) _),h.ne,h.k⟩
def RB.fin(h:RB b hs vs n id ph th nd ol0 H0 rows outs G ol){a:List (List ab)}{c:List cB}(d:rows=a)(e:outs=c):∃ol,RB b hs vs n id ph th nd ol0 H0 a c G ol:=by subst d e;exact⟨ol,h⟩
end
def adE(id th:Int)(need:List Int)(x:aI):(bL id th need x).2.length<=2:=by simp only[bL];split<;>split<;>simp
def gG(id th:Int)(need:List Int)(x:aI):Bool:=!decide (x.peer∈need)||(bL id th need x).1.dc
def QL(id th:Int)(need:List Int)(x:aI):(bL id th need x).1.peer=x.peer:=by simp only[bL];split<;>split<;>rfl
def agd{id ph th:Int}{need:List Int}{af:List aI}{ol0:ab}{b hs vs:Nat}{l:List cB}{H0:List Ob}(h:kL H0 b id ph (.sl hs vs 0 af.length) th (aG need) ol0 l)(h2:H0[hs]?=some (.live vs 8 (af.map ax)))(ah:hs≠b)(hm:af.length<=100)(hn:need.length<=100000)(hl:l.length<=50000):
  ∃S X,bB tz (ev tz) 317 [au b] H0=some (.aM [],S)/\RB b hs vs af.length id ph (if th=1/\af.all (gG id th need)=true then 2 else th) (aG need) ol0 H0 ((af.map fun x=>(bL id th need x).1).map ax) (l++af.flatMap fun x=>(bL id th need x).2) S X:=by
 have⟨ai,Q⟩:=eg (if th=1/\af.all (gG id th need)=true then 2 else th:Int)
 have⟨Rf,ad⟩:=eg ((af.map fun x=>(bL id th need x).1).map ax)
 have⟨Of,ng⟩:=eg (af.flatMap fun x=>(bL id th need x).2)
 rw[Q,ad,ng]
 have aj:=cG (C:=tz) (f:=317) (args:=[au b]) (H:=H0) (fun ae S=>ae= .aM []/\∃X,RB b hs vs af.length id ph ai (aG need) ol0 H0 Rf (l++Of) S X) func317 rfl ?_
 .obtain ⟨ae,S,h1,rfl,X,h2⟩:=aj
  exact⟨S,X,h1,h2⟩
 have hb:=h.hb
 simp[f317,underlying59,hb]
 refine iy (fun k:Nat=>[(13,aa af.length),(14,aa k),(0,au b),(2,aR (sD (gG id th need) af k))]) (fun k H=>k<=af.length/\∃ol,RB b hs vs af.length id ph th (aG need) ol0 H0 ((mW (fun x=>(bL id th need x).1) af k).map ax) (l++p6 (fun x=>(bL id th need x).2) af k) H ol) (fun k=>af.length-k) ?_ 0 (by simp[sD]) ⟨by omega,ol0,by simpa[mW,p6]using⟨h,h2,Fr.refl _ _ _,ah,fun h=>h⟩⟩ fun _=>rfl
 rintro k al H⟨n,o,j,q,_⟩⟨g1,ol,m⟩
 have t:=m.d.hb
 have v:=m.r
 simp only[aG]at t
 by_cases r:k<af.length
 .have E:adW.wrap ((k:Int)+1)=((k+1:Nat):Int):=cv (by omega)
  have i:=Ut (f:=fun x=>(bL id th need x).1) r
  have u:=aby (f:=fun x=>(bL id th need x).1) r
  have w:=Tv (g:=fun x=>(bL id th need x).2) r
  have z:=aaI (p:=gG id th need) r
  have q5:=aep (f:=fun x=>(bL id th need x).1) (alq r)
  have q6:=adx (l:=af) (k:=k) (adE id th need)
  have⟨x,hx⟩:=eg af[k]
  rw[hx]at i u w z
  have⟨R,hR⟩:=eg (mW (fun x=>(bL id th need x).1) af k)
  have⟨R',A⟩:=eg (mW (fun x=>(bL id th need x).1) af (k+1))
  have⟨am,hO⟩:=eg (p6 (fun x=>(bL id th need x).2) af k)
  rw[hR]at i u q5 m v
  rw[A]at u
  rw[hO]at w q6 m
  have c:k<R.length:=by omega
  have⟨G,J,K,fork,L,token,T,ask⟩:=x
  have U:∀y,(H.set hs y)[hs]?=some y:=fun y=>ba v
  have D:=qu need G (by unfold maxLen;omega)
  simp only[aG]at D
  have an:=m.ne
  have ao:=ait m.ne
  have⟨F,V⟩:=eg (sD (gG id th need) af k)
  rw[V]at q z
  by_cases a:G∈need
  .by_cases c1:th=1
   .subst c1
    cases fork with
    |true=>
     cases T with
     |true=>
      cases ask
      all_goals
       cases F
       all_goals
        simp[-getElem?_pos,n,o,j,q,r,E,t,v,i,c,ax,D,a]
        exact⟨k+1,by omega,by simp[z,gG,bL,a],by omega,m.fin (by rw[A];have e:=u;simp[bL,a]at e;rw[<-e,ja c (by simpa using(abW.1 i).2)]) (by rw[w];simp[bL,a])⟩
     |false=>
      cases ask with
      |true=>
       cases F
       all_goals
        simp[-getElem?_pos,n,o,j,r,t,v,i,c,U,ax,D,a]
        have⟨O,Y,P,s⟩:=(m.set ((R.map ax).set k [I G,I J,I K,B true,B L,B token,B false,B false])).send ⟨G,J,K,true,L,token,false,false⟩ 4 (by first|omega|(simp;omega))
        rw[P]
        have M:=s.d.hb
        have N:=s.r
        simp only[aG]at M
        have W:∀y,(O.set hs y)[hs]?=some y:=fun y=>ba N
        simp[n,o,j,q,E,N,c]
        exact⟨k+1,by omega,by simp[z,gG,bL,a],by omega,s.fin (by rw[A, <-u,aiC];simp[bL,ax,a]) (by rw[w];simp[bL,ft,a])⟩
      |false=>
       cases F
       all_goals
        simp[-getElem?_pos,n,o,j,q,r,E,t,v,i,c,ax,D,a]
        exact⟨k+1,by omega,by simp[z,gG,bL,a],by omega,m.fin (by rw[A];have e:=u;simp[bL,a]at e;rw[<-e,ja c (by simpa using(abW.1 i).2)]) (by rw[w];simp[bL,a])⟩
    |false=>
     cases T with
     |true=>
      cases ask with
      |true=>
       cases F
       all_goals
        simp[-getElem?_pos,n,o,j,r,t,v,i,c,U,ax,D,a]
        have⟨O,Y,P,s⟩:=(m.set ((R.map ax).set k [I G,I J,I K,B false,B L,B token,B false,B true])).send ⟨G,J,K,false,L,token,false,true⟩ 3 (by first|omega|(simp;omega))
        rw[P]
        have M:=s.d.hb
        have N:=s.r
        simp only[aG]at M
        have W:∀y,(O.set hs y)[hs]?=some y:=fun y=>ba N
        simp[j,M,N,W,c]
        have⟨G1,o1,e1,Z⟩:=(s.set (((R.map ax).set k [I G,I J,I K,B false,B L,B token,B false,B true]).set k [I G,I J,I K,B false,B L,B token,B false,B false])).send ⟨G,J,K,false,L,token,false,false⟩ 4 (by first|omega|(simp;omega))
        simp only[ajN]at e1 Z
        rw[e1]
        have ak:=Z.d.hb
        have ag:=Z.r
        simp only[aG]at ak
        have ap:∀y,(G1.set hs y)[hs]?=some y:=fun y=>ba ag
        simp[n,o,j,q,E,ag,c]
        exact⟨k+1,by omega,by simp[z,gG,bL,a],by omega,Z.fin (by rw[A, <-u,aiC];simp[bL,ax,a]) (by rw[w];simp[bL,ft,a])⟩
      |false=>
       cases F
       all_goals
        simp[-getElem?_pos,n,o,j,q,r,E,t,v,i,c,ax,D,a]
        exact⟨k+1,by omega,by simp[z,gG,bL,a],by omega,m.fin (by rw[A];have e:=u;simp[bL,a]at e;rw[<-e,ja c (by simpa using(abW.1 i).2)]) (by rw[w];simp[bL,a])⟩
     |false=>
      cases ask with
      |true=>
       cases F
       all_goals
        simp[-getElem?_pos,n,o,j,r,t,v,i,c,U,ax,D,a]
        have⟨O,Y,P,s⟩:=(m.set ((R.map ax).set k [I G,I J,I K,B false,B L,B token,B false,B false])).send ⟨G,J,K,false,L,token,false,false⟩ 4 (by first|omega|(simp;omega))
        rw[P]
        have M:=s.d.hb
        have N:=s.r
        simp only[aG]at M
        have W:∀y,(O.set hs y)[hs]?=some y:=fun y=>ba N
        simp[n,o,j,q,E,N,c]
        exact⟨k+1,by omega,by simp[z,gG,bL,a],by omega,s.fin (by rw[A, <-u,aiC];simp[bL,ax,a]) (by rw[w];simp[bL,ft,a])⟩
      |false=>
       cases F
       all_goals
        simp[-getElem?_pos,n,o,j,q,r,E,t,v,i,c,ax,D,a]
        exact⟨k+1,by omega,by simp[z,gG,bL,a],by omega,m.fin (by rw[A];have e:=u;simp[bL,a]at e;rw[<-e,ja c (by simpa using(abW.1 i).2)]) (by rw[w];simp[bL,a])⟩
   .by_cases c2:th=2
    .subst c2
     cases T with
     |true=>
      cases ask
      all_goals
       cases F
       all_goals
        simp[-getElem?_pos,n,o,j,q,r,E,t,v,i,c,ax,D,a]
        exact⟨k+1,by omega,by simp[z,gG,bL,a],by omega,m.fin (by rw[A];have e:=u;simp[bL,a]at e;rw[<-e,ja c (by simpa using(abW.1 i).2)]) (by rw[w];simp[bL,a])⟩
     |false=>
      cases F
      all_goals
       simp[-getElem?_pos,n,o,j,q,r,E,t,v,i,c,ax,D,a]
       exact⟨k+1,by omega,by simp[z,gG,bL,a],by omega,m.fin (by rw[A];have e:=u;simp[bL,a]at e;rw[<-e,ja c (by simpa using(abW.1 i).2)]) (by rw[w];simp[bL,a])⟩
    .cases T with
     |true=>
      cases ask with
      |true=>
       cases F
       all_goals
        simp[-getElem?_pos,n,o,j,r,t,v,i,c,U,ax,D,a,c1,c2]
        have⟨O,Y,P,s⟩:=(m.set ((R.map ax).set k [I G,I J,I K,B fork,B L,B token,B false,B true])).send ⟨G,J,K,fork,L,token,false,true⟩ 3 (by first|omega|(simp;omega))
        rw[P]
        have M:=s.d.hb
        have N:=s.r
        simp only[aG]at M
        have W:∀y,(O.set hs y)[hs]?=some y:=fun y=>ba N
        simp[n,o,j,q,E,M,N,c,c1]
        exact⟨k+1,by omega,by simp[z,gG,bL,a,c1,c2],by omega,s.fin (by rw[A, <-u,aiC];simp[bL,ax,a,c1,c2]) (by rw[w];simp[bL,ft,a,c1,c2])⟩
      |false=>
       cases F
       all_goals
        simp[-getElem?_pos,n,o,j,q,r,E,t,v,i,c,ax,D,a,c1,c2]
        exact⟨k+1,by omega,by simp[z,gG,bL,a,c1,c2],by omega,m.fin (by rw[A];have e:=u;simp[bL,a,c1,c2]at e;rw[<-e,ja c (by simpa using(abW.1 i).2)]) (by rw[w];simp[bL,a,c1,c2])⟩
     |false=>
      cases F
      all_goals
       simp[-getElem?_pos,n,o,j,q,r,E,t,v,i,c,ax,D,a,c1,c2]
       exact⟨k+1,by omega,by simp[z,gG,bL,a,c1,c2],by omega,m.fin (by rw[A];have e:=u;simp[bL,a,c1,c2]at e;rw[<-e,ja c (by simpa using(abW.1 i).2)]) (by rw[w];simp[bL,a,c1,c2])⟩
  .by_cases c1:th=1
   .subst c1
    cases T with
    |true=>
     cases ask with
     |true=>
      cases F
      all_goals
       simp[-getElem?_pos,n,o,j,r,t,v,i,c,U,ax,D,a]
       have⟨O,Y,P,s⟩:=(m.set ((R.map ax).set k [I G,I J,I K,B fork,B L,B token,B false,B true])).send ⟨G,J,K,fork,L,token,false,true⟩ 3 (by first|omega|(simp;omega))
       rw[P]
       have M:=s.d.hb
       have N:=s.r
       simp only[aG]at M
       have W:∀y,(O.set hs y)[hs]?=some y:=fun y=>ba N
       simp[n,o,j,q,E,M]
       exact⟨k+1,by omega,by simp[z,gG,bL,a],by omega,s.fin (by rw[A, <-u,aiC];simp[bL,ax,a]) (by rw[w];simp[bL,ft,a])⟩
     |false=>
      cases F
      all_goals
       simp[-getElem?_pos,n,o,j,q,r,E,t,v,i,c,ax,D,a]
       exact⟨k+1,by omega,by simp[z,gG,bL,a],by omega,m.fin (by rw[A];have e:=u;simp[bL,a]at e;rw[<-e,ja c (by simpa using(abW.1 i).2)]) (by rw[w];simp[bL,a])⟩
    |false=>
     cases F
     all_goals
      simp[-getElem?_pos,n,o,j,q,r,E,t,v,i,c,ax,D,a]
      exact⟨k+1,by omega,by simp[z,gG,bL,a],by omega,m.fin (by rw[A];have e:=u;simp[bL,a]at e;rw[<-e,ja c (by simpa using(abW.1 i).2)]) (by rw[w];simp[bL,a])⟩
   .cases T with
    |true=>
     cases ask with
     |true=>
      cases F
      all_goals
       simp[-getElem?_pos,n,o,j,r,t,v,i,c,U,ax,D,a]
       have⟨O,Y,P,s⟩:=(m.set ((R.map ax).set k [I G,I J,I K,B fork,B L,B token,B false,B true])).send ⟨G,J,K,fork,L,token,false,true⟩ 3 (by first|omega|(simp;omega))
       rw[P]
       have M:=s.d.hb
       have N:=s.r
       simp only[aG]at M
       have W:∀y,(O.set hs y)[hs]?=some y:=fun y=>ba N
       simp[n,o,j,q,E,M,c1]
       exact⟨k+1,by omega,by simp[z,gG,bL,a,c1],by omega,s.fin (by rw[A, <-u,aiC];simp[bL,ax,a,c1]) (by rw[w];simp[bL,ft,a,c1])⟩
     |false=>
      cases F
      all_goals
       simp[-getElem?_pos,n,o,j,q,r,E,t,v,i,c,ax,D,a,c1]
       exact⟨k+1,by omega,by simp[z,gG,bL,a,c1],by omega,m.fin (by rw[A];have e:=u;simp[bL,a,c1]at e;rw[<-e,ja c (by simpa using(abW.1 i).2)]) (by rw[w];simp[bL,a,c1])⟩
    |false=>
     cases F
     all_goals
      simp[-getElem?_pos,n,o,j,q,r,E,t,v,i,c,ax,D,a,c1]
      exact⟨k+1,by omega,by simp[z,gG,bL,a,c1],by omega,m.fin (by rw[A];have e:=u;simp[bL,a,c1]at e;rw[<-e,ja c (by simpa using(abW.1 i).2)]) (by rw[w];simp[bL,a,c1])⟩
 .obtain rfl:k=af.length:=by omega
  rw[aeT]at q
  rw[Zz,YV,ad,ng]at m
  by_cases c1:th=1
  .subst c1
   cases V:af.all (gG id 1 need)with
   |true=>
    rw[V]at q
    simp[j,q,n,o,t]
    simp[V]at Q
    subst Q
    exact⟨ol,m.bH ph 2⟩
   |false=>
    rw[V]at q
    simp[j,q,n,o,t]
    rw[if_neg (by simp[V])]at Q
    subst Q
    exact⟨ol,m⟩
  .simp[j,n,o,t,c1]
   simp[c1]at Q
   subst Q
   exact⟨ol,m⟩
end
section
variable{H:List Ob}{b:Nat}{ol:ab}{l:List cB}
theorem RR(d:cQ)(h:eo d=true):(fx d).1.id=d.id:=by rw[Bo d h];split<;>rfl
def ZC{d:cQ}(h:eo d=true){p:Int}(e:0<=p)(f:p<=2):eo ⟨d.id,p,d.af⟩=true:=by simp only[eo,abR,afa,decide_eq_false_iff_not]at h|-;have⟨⟨⟨⟨a,g⟩,i⟩,b⟩,c⟩:=h;exact⟨⟨⟨⟨a,by omega⟩,by omega⟩,b⟩,c⟩
theorem pW{d:Dr}(h:dC d=true):eo ⟨d.ai.id,eG d,d.ai.af⟩=true:=by
 have a:eo d.ai=true:=by simp only[dC,abR]at h;exact h.1.1.1.1.1
 have b:0<=d.ai.phase/\d.ai.phase<=2:=by simp only[eo,abR,afa,decide_eq_false_iff_not]at a;omega
 refine ZC a ?_ ?_<;>unfold eG<;>split<;>(try omega)<;>split<;>omega
def mS.snoc(h:mS H b ol l)(x:List Ob):mS (H++x) b ol l:=by
 rcases h with h|⟨a,c,d,e,f⟩
 .exact .inl h
 .exact .inr ⟨a,c,d,e,aV f⟩
def mS.new{m:Nat}(h:mS H b ol l)(hm:H.length<=m):∀v a n,ol≠ .sl m v a n:=by
 rintro v a n rfl;rcases h with⟨_,h⟩|⟨d,e,_,h,c⟩
 .cases h
 .cases h;have:=bf c;omega
def MU(H:List Ob)(b:Nat)(ol c:ab)(fo:List cB):Prop:=(fo=[]/\c=eW)\/∃a,c= .sl a 0 0 fo.length/\H[a]?=some (ah 5 (fo.map dW))/\a≠b/\∀v d n,ol≠ .sl a v d n
theorem Fr.fresh{x:List Ob}(y:Ob)(c d f:Nat):Fr [b] ol (.sl H.length c d f) H ((H++x).set b y):=⟨by simp,fun m o a g h=>by refine⟨by rw[aat (fun e=>g (by simp[e]))];exact aV a,fun v i n e=>?_⟩;have:=bf a;cases e;omega⟩
def Fr.same{a v c n f g h:Nat}(z y:Ob):Fr [b] (.sl a v c n) (.sl a f g h) H ((H.set a z).set b y):=⟨by simp,fun m o i j k=>by have d:a≠m:=fun e=>k v c n (by rw[e]);refine⟨by rw[aat (fun e=>j (by simp[e])),aat d];exact i,fun v c n e=>?_⟩;cases e;exact d rfl⟩
def Fr.cut{m:Nat}{x y z:ab}{G K:List Ob}(h:Fr [b] x y H G)(c:Fr [b,m] y z G K)(hm:H.length<=m):Fr [b] x z H K:=⟨ai5 h.1 c.1,fun n o d a e=>by have⟨f,g⟩:=h.2 n o d a e;have:=bf d;exact c.2 n o f (by simp at a|-;exact⟨a,by omega⟩) g⟩
def XC(id a:Int)(need:List Int)(l:List aI):((l.map fun x=>(bL id a need x).1).all fun x=>!decide (x.peer∈need)||x.dc)=l.all (gG id a need):=by
 rw[aj9];congr 1
 funext x
 simp only[Function.comp,gG,QL]
theorem RS(d:cQ)(h:eo d=true):(fx d).1.af.length=d.af.length/\(fx d).2.1.length<=2*d.af.length:=by
 rw[Bo d h];have a:=zh d d.af.length;have b:=O0 d d.af.length;split
 .exact ⟨by simp[a],b⟩
 .exact ⟨a,b⟩
structure F4(H:List Ob)(b hs vs:Nat)(id ph th:Int)(nd ol0:ab)(l:List cB)(af:List aI)(G:List Ob):Prop where
 d:kL G b id ph (.sl hs vs 0 af.length) th nd ol0 l
 r:G[hs]?=some (.live vs 8 (af.map ax))
 f:Fr [b] ol0 ol0 H G
structure F5(H:List Ob)(b n:Nat)(sl:ab)(fi ph fp th:Int)(nd ol0 fol:ab)(l fo:List cB)(fs:List aI)(m c:Nat)(G:List Ob):Prop where
 d:kL G b fi ph sl th nd ol0 l
 r:G[m]?=some (ah 8 (fs.map ax))
 c:G[c]?=some (ah 3 [[I fi,I fp,.sl m 0 0 n]])
 m1:H.length<=m
 m2:m≠b
 o:MU G b ol0 fol fo
 f:Fr [b] ol0 ol0 H G
structure F6(H:List Ob)(b n:Nat)(fi fp th:Int)(nd ol0 fol:ab)(l fo:List cB)(fs:List aI)(m:Nat)(G:List Ob):Prop where
 d:kL G b fi fp (.sl m 0 0 n) th nd ol0 l
 r:G[m]?=some (ah 8 (fs.map ax))
 m1:H.length<=m
 m2:m≠b
 o:MU G b ol0 fol fo
 f:Fr [b] ol0 ol0 H G
structure F7(H:List Ob)(b n:Nat)(fi fp th:Int)(nd ol0 ol1:ab)(l:List cB)(fs:List aI)(m:Nat)(G:List Ob):Prop where
 d:kL G b fi fp (.sl m 0 0 n) th nd ol1 l
 r:G[m]?=some (ah 8 (fs.map ax))
 m1:H.length<=m
 m2:m≠b
 f:Fr [b] ol0 ol1 H G
 k:ol1≠eW
def SE{id j a:Int}{need:List Int}{af:List aI}{s:ab}{b K L:Nat}{l:List cB}{w:List Ob}(M:RB b K L af.length id j a (aG need) s w (af.map ax) l w s)(Z:dC ⟨⟨id,j,af⟩,a,need⟩=true)(hm:af.length<=100)(hn:need.length<=100000)(hl:l.length<=40000):
  ∃u z m,bB tz (ev tz) 267 [au b] w=some (.aM [],u)/\kL u b id (cq ⟨⟨id,j,af⟩,a,need⟩).1.ai.phase (.sl m 0 0 (cq ⟨⟨id,j,af⟩,a,need⟩).1.ai.af.length) (cq ⟨⟨id,j,af⟩,a,need⟩).1.aQ (aG need) z (l++(cq ⟨⟨id,j,af⟩,a,need⟩).2)/\u[m]?=some (ah 8 ((cq ⟨⟨id,j,af⟩,a,need⟩).1.ai.af.map ax))/\w.length<=m/\m≠b/\Fr [b] s z w u/\z≠eW:=by
 obtain⟨⟨⟨⟨i',am,ae⟩,an,aw⟩,ao⟩,N⟩:∃x,cq ⟨⟨id,j,af⟩,a,need⟩=x:=⟨_,rfl⟩
 rw[N]
 simp only
 have ap:=cG (C:=tz) (f:=267) (args:=[au b]) (H:=w) (fun ag u=>ag= .aM []/\∃z m,kL u b id am (.sl m 0 0 ae.length) an (aG need) z (l++ao)/\u[m]?=some (ah 8 (ae.map ax))/\w.length<=m/\m≠b/\Fr [b] s z w u/\z≠eW) func267 rfl ?_
 .obtain ⟨ag,u,h1,rfl,z,m,h2⟩:=ap
  exact⟨u,z,m,h1,h2⟩
 simp only[f267,cr]
 refine eh (fun S=>S.env.get 0=some (au b)/\S.env.get 2=some (.c (.bF 315 []))/\S.heap=w/\S.bG=[]) (by simp) ?_
 rintro⟨e,H,ds⟩⟨h,a2,rfl,rfl⟩
 simp only at h a2
 refine bp [(0,au b)] (fun G=>F4 H b K L id (eG ⟨⟨id,j,af⟩,a,need⟩) a (aG need) s l af G) ?_ ?_
 .have F:=M.d.hb
  have kr:=M.r
  simp only[aG]at F
  have R:=xL (g:=315) (caps:=[]) af (by unfold maxLen;omega) r9 (by simp) (by simp) (bK _) (fun x _=>by
   have:=ZL x
   simp[ax]at this
   simp[ax,this])
  have f4:∀aa,eG ⟨⟨id,j,af⟩,a,need⟩=aa->F4 H b K L id (eG ⟨⟨id,j,af⟩,a,need⟩) a (aG need) s l af (H.set b (ah 6 [[I id,I aa,.sl K L 0 af.length,I a,aG need,s]])):=by
   rintro aa rfl
   exact⟨(M.bH _ a).d,(M.bH _ a).r,Fr.set (by simp) _⟩
  have f5:eG ⟨⟨id,j,af⟩,a,need⟩=j->F4 H b K L id (eG ⟨⟨id,j,af⟩,a,need⟩) a (aG need) s l af H:=by
   intro ad
   rw[ad]
   exact⟨M.d,M.r,Fr.refl _ _ _⟩
  by_cases c1:a=1
  .subst c1
   by_cases c2:j=0
   .subst c2
    simp[h,F]
    exact f4 1 (by simp[eG])
   .by_cases c3:j=2
    .subst c3
     simp[h,F]
     exact f5 (by simp[eG])
    .simp[h,F,c2,c3]
     exact f5 (by simp[eG,c2,c3])
  .by_cases c3:j=2
   .subst c3
    cases q:af.any r9 with
    |true=>
     rw[q]at R
     simp[h,a2,F,kr,R,c1]
     exact f5 (by simp only[eG,q];simp)
    |false=>
     rw[q]at R
     simp[h,a2,F,kr,R,c1]
     exact f4 0 (by simp only[eG,q];simp[c1])
   .simp[h,F,c1,c3]
    exact f5 (by simp[eG,c1,c3])
 rintro e G⟨h,_⟩⟨⟨i,r⟩,n,o⟩
 have A:=acv ⟨id,eG ⟨⟨id,j,af⟩,a,need⟩,af⟩ hm
 rw[if_neg (by rw[pW Z];simp)]at A
 have hid:=RR _ (pW Z)
 have T:=RS _ (pW Z)
 simp only[cq]at N
 simp only at hid T
 obtain⟨⟨⟨U,fp,O⟩,fo,fc⟩,hF⟩:∃x,fx ⟨id,eG ⟨⟨id,j,af⟩,a,need⟩,af⟩=x:=⟨_,rfl⟩
 rw[hF]at A hid N T
 simp only at A hid N T
 have⟨ay,az⟩:=T
 subst hid
 have⟨PH,aq⟩:=eg (eG ⟨⟨U,j,af⟩,a,need⟩)
 rw[aq]at i A
 simp only[dQ]at A
 simp only[aG]at i
 have lb:=bf i
 refine eh (fun S=>∃m c P,S.env.get 0=some (au b)/\S.env.get 3=some (au c)/\S.env.get 4=some (.c P)/\S.bG=[]/\F5 H b O.length (.sl K L 0 af.length) U PH fp a (aG need) s P l fo O m c S.heap) ?_ ?_
 .by_cases B:fo=[]
  .subst B
   simp only[tY,if_true]at A
   simp[h,i,n,A,pS]
   exact⟨G.length,⟨aV i,r.snoc _⟩,by simp,by simp,o.1,by omega,.inl ⟨rfl,rfl⟩,o.trans Fr.snoc⟩
  .simp only[tY,if_neg B]at A
   simp[h,i,n,A,pS,Ni]
   exact⟨G.length,⟨aV i,r.snoc _⟩,by simp,by simp,o.1,by omega,.inr ⟨G.length+1,rfl,by simp,by omega,r.new (by omega)⟩,o.trans Fr.snoc⟩
 clear i r n o h lb
 rintro⟨e,G,ds⟩⟨m,c,P,h,a3,v,rfl,⟨⟨i,r⟩,n,hc,E,p,B,o⟩⟩
 simp only at h a3 v i r n hc B o
 refine bp [(0,au b),(4,.c P)] (fun G=>F6 H b O.length U fp a (aG need) s P l fo O m G) ?_ ?_
 .simp[h,a3,v,i,hc]
  refine⟨⟨ba i,r.PQ _⟩,by rw[aat (ait p)];exact n,E,p,?_,o.trans (Fr.set (by simp) _)⟩
  rcases B with ad|⟨mo,g1,Q,g3,g4⟩
  .exact .inl ad
  .exact .inr ⟨mo,g1,by rw[aat (ait g3)];exact Q,g3,g4⟩
 clear i r n o h a3 v hc B
 rintro e G⟨h,v,_⟩⟨⟨i,r⟩,n,_,_,B,o⟩
 refine bp [(0,au b)] (fun G=>∃aj,F7 H b O.length U fp a (aG need) s aj (l++fo) O m G) ?_ ?_
 .have b1:l.length<=maxLen/\l.length*40<=140737488355328:=⟨by unfold maxLen;omega,by omega⟩
  have b2:fo.length<=maxLen/\fo.length*40<=140737488355328:=⟨by unfold maxLen;omega,by omega⟩
  have b3:l.length+fo.length<=maxLen/\(l.length+fo.length)*40<=140737488355328:=⟨by unfold maxLen;omega,by omega⟩
  have ak:∀x:cB,(dW x).length=5:=fun _=>rfl
  have lb:=bf i
  have V:∀x,(G++x)[b]?=_:=fun x=>aV i
  rcases B with⟨rfl,rfl⟩|⟨mo,rfl,Q,g3,g4⟩
  .rcases r with⟨rfl,rfl⟩|⟨q,W,D,rfl,t⟩
   .simp[h,v,i,V]
    exact⟨_,⟨ba (V _),.inr ⟨G.length,0,by omega,rfl,by rw[aat (by omega)];simp⟩⟩,by rw[aat (ait p)];exact aV n,E,p,o.trans (Fr.fresh _ _ _ _),by simp⟩
   .have J:∀y,(G.set q y)[b]?=_:=fun y=>(aat D).trans i
    have X:q≠m:=fun e=>by subst e;rw[n]at t;cases t
    simp[h,v,i,b1,t,J]
    exact⟨_,⟨ba (J _),.inr ⟨q,W+1,D,by simp,by rw[aat (ait D),ba t]⟩⟩,by rw[aat (ait p),aat X];exact n,E,p,o.trans (Fr.same _ _),by simp⟩
  .rcases r with⟨rfl,rfl⟩|⟨q,W,D,rfl,t⟩
   .simp[h,v,i,V,b2,ak,Q]
    exact⟨_,⟨ba (V _),.inr ⟨G.length,0,by omega,by simp,by rw[aat (by omega)];simp⟩⟩,by rw[aat (ait p)];exact aV n,E,p,o.trans (Fr.fresh _ _ _ _),by simp⟩
   .have J:∀y,(G.set q y)[b]?=_:=fun y=>(aat D).trans i
    have X:q≠m:=fun e=>by subst e;rw[n]at t;cases t
    by_cases al:fo=[]
    .subst al
     simp[h,v,i,b1,t,J,Q]
     exact⟨_,⟨ba (J _),.inr ⟨q,W+1,D,by simp,by rw[aat (ait D),ba t]⟩⟩,by rw[aat (ait p),aat X];exact n,E,p,o.trans (Fr.same _ _),by simp⟩
    .have q1:0<fo.length:=akt.2 al
     have q2:¬l.length+fo.length<=l.length:=by omega
     simp[h,v,i,b3,ak,t,J,Q,q1,q2]
     exact⟨_,⟨ba (J _),.inr ⟨q,W+1,D,by simp,by rw[aat (ait D),ba t];simp⟩⟩,by rw[aat (ait p),aat X];exact n,E,p,o.trans (Fr.same _ _),by simp⟩
 clear i r n o h v B
 rintro e G⟨h,_⟩⟨aj,⟨ar,n,_,_,o,hk⟩⟩
 have⟨G1,av,e1,Y⟩:=agd ar n p (by omega) hn (by simp;omega)
 simp only[rl,XC,aca,Dr.mk.injEq,cQ.mk.injEq]at N
 obtain⟨⟨⟨rfl,rfl,rfl⟩,rfl,rfl⟩,rfl⟩:=N
 simp[-ajc,h,e1]
 refine⟨av,m,?_,?_,E,p,o.cut Y.f E,Y.k hk⟩
 .have:=Y.d
  simp only[ahI,aiu]at this
  exact this
 .exact Y.r
end
section
variable{d:Dr}
theorem Ny(id a:Int)(x:aI):ef (cI id a x).1+(cI id a x).2.length=ef x:=by grind [cI,ef,ci]
theorem ad4(id a:Int)(need:List Int)(x:aI):ef (bL id a need x).1+(bL id a need x).2.length=ef x:=by grind [bL,ef,ci]
theorem IZ{f:aI->aI×List cB}(h:∀x,ef (f x).1+(f x).2.length=ef x):∀l:List aI,bS ef (l.map fun x=>(f x).1)+(l.flatMap fun x=>(f x).2).length=bS ef l
 |[]=>rfl
 |x::r=>by
  have a:=h x
  have b:=IZ h r
  grind [bS]
theorem OH:∀l:List aI,bS ef (l.map fun x=>{x with cK:=true})=bS ef l
 |[]=>rfl
 |x::r=>by simp only[ag9,bS,OH r];rfl
theorem CO:∀l:List aI,bS ef l<=4*l.length
 |[]=>by simp[bS]
 |x::r=>by
  have a:=CO r
  grind [ef,ci,bS]
theorem Zl(d:cQ)(h:eo d=true):bS ef (fx d).1.af+(fx d).2.1.length=bS ef d.af:=by have a:=IZ (Ny d.id d.phase) d.af;grind [fx,(OH)]
theorem yK(h:dC d=true):(cq d).1.ai.id=d.ai.id/\(cq d).1.ai.af.length=d.ai.af.length/\(cq d).1.need=d.need:=by grind [(RR),(pW),(RS),cq,rl]
theorem FT(h:dC d=true):bS ef (cq d).1.ai.af+(cq d).2.length=bS ef d.ai.af:=by have a:=Zl _ (pW h);simp only[cq,rl,agc];have b:=IZ (ad4 (fx ⟨d.ai.id,eG d,d.ai.af⟩).1.id d.aQ d.need) (fx ⟨d.ai.id,eG d,d.ai.af⟩).1.af;grind
theorem zU{id:Int}{f:aI->aI}:∀ {l:List aI} {a:Int},(∀x∈l,(f x).peer=x.peer/\∀a,cS id a x=true->cS id a (f x)=true)->dU id a l=true->dU id a (l.map f)=true
 |[],_,_,_=>rfl
 |x::r,a,h,b=>by
  simp only[dU,ag9,abR]at b|-
  have⟨c,d⟩:=h x (by simp)
  refine⟨d _ b.1,?_⟩
  rw[c]
  exact zU (fun y e=>h y (by simp[e])) b.2
theorem DL(id a:Int)(x:aI):(cI id a x).1.peer=x.peer/\∀i b,cS i b x=true->cS i b (cI id a x).1=true:=by grind [cI,cS]
theorem Kh(id a:Int)(need:List Int)(x:aI):(bL id a need x).1.peer=x.peer/\∀i b,cS i b x=true->cS i b (bL id a need x).1=true:=by grind [bL,cS]
theorem TG(x:aI)(b:x.fork=true):∀i a,cS i a x=true->cS i a {x with cK:=true}=true:=by grind [cS]
theorem Ug{d:cQ}(h:eo d=true):eo (fx d).1=true:=by have a:=h;simp only[eo,abR]at a;have⟨⟨⟨⟨c,e⟩,f⟩,g⟩,b⟩:=a;have i:dU d.id (-1) (d.af.map fun x=>(cI d.id d.phase x).1)=true:=zU (fun x _=>⟨(DL _ _ x).1,(DL _ _ x).2 _⟩) b;grind [fx,eo,(zU),(TG)]
theorem Gz{f:aI->aI}(a:∀x,(f x).peer=x.peer)(l:List aI)(p:Int):cJ (l.map f) p=cJ l p:=by grind [cJ]
theorem Ue{d:cQ}(h:eo d=true)(p:Int):cJ (fx d).1.af p=cJ d.af p:=by grind [(Gz),(DL),fx]
theorem Rg(h:dC d=true):dC (cq d).1=true:=by
 have a:=Ug (pW h);have c:=Ue (pW h);have b:=h;simp only[dC,abR]at b;obtain⟨⟨⟨⟨⟨p,e⟩,f⟩,g⟩,i⟩,q⟩:=b;have⟨F,j⟩:=eg (fx ⟨d.ai.id,eG d,d.ai.af⟩);simp only[cq,rl,j]at a c|-;simp only[dC,abR];refine⟨⟨⟨⟨⟨?_,?_⟩,?_⟩,g⟩,?_⟩,?_⟩
 .simp only[eo,abR]at a|-;have⟨⟨⟨⟨k,l⟩,m⟩,n⟩,o⟩:=a;exact⟨⟨⟨⟨k,l⟩,m⟩,by simpa using n⟩,zU (fun x _=>⟨(Kh _ _ _ x).1,(Kh _ _ _ x).2 _⟩) o⟩
 .split
  .simp
  .exact e
 .split
  .simp
  .exact f
 .split
  .simp
  .exact i
 grind [(Gz),(Kh)]
theorem af4(id a:Int)(x:aI)(h:(cI id a x).2=[]):(cI id a x).1=x:=by have b:=Ny id a x;grind [cI]
theorem SZ(id c:Int)(need:List Int)(x:aI)(h:(bL id c need x).2=[]):(bL id c need x).1=x:=by
 have⟨p,e,s,f,d,t,b,a⟩:=x;by_cases j:p∈need
 .by_cases g:c=1
  .subst g;cases f<;>cases b<;>cases a<;>simp_all[bL]
  .by_cases i:c=2
   .subst i;cases b<;>cases a<;>simp_all[bL]
   .cases b<;>cases a<;>simp_all[bL]
 grind [bL]
def map_none{f:aI->aI×List cB}(a:∀x,(f x).2=[]->(f x).1=x):∀l:List aI,(l.flatMap fun x=>(f x).2)=[]->(l.map fun x=>(f x).1)=l
 |[],_=>rfl
 |x::r,h=>by
  simp only[aiz,alm]at h
  simp only[ag9,a x h.1,map_none a r h.2]
theorem CK(d:Dr):((cq d).1.aQ=2/\d.aQ=1)\/(cq d).1.aQ=d.aQ:=by grind [cq,rl]
theorem P6(h:dC d=true):((cq d).1.ai.phase=2/\eG d=1)\/((cq d).1.ai.phase=eG d/\((cq d).2=[]->(cq d).1.ai.af=d.ai.af)):=by
 have b:=pW h;by_cases hc:eG d=1/\((d.ai.af.map fun x=>(cI d.ai.id (eG d) x).1).all fun x=>x.fork)=true
 .grind [cq,rl,fx]
 .right;have e:fx ⟨d.ai.id,eG d,d.ai.af⟩=(⟨d.ai.id,eG d,d.ai.af.map fun x=>(cI d.ai.id (eG d) x).1⟩,d.ai.af.flatMap fun x=>(cI d.ai.id (eG d) x).2,0):=by grind [fx]
  simp only[cq,rl,e,true_and];intro a;rw[alm]at a;rw[map_none (fun x=>SZ _ _ _ x) _ a.2,map_none (fun x=>af4 _ _ x) _ a.1]
theorem aad(h:dC d=true)(a:(cq d).1≠d):rz (cq d).1<rz d:=by
 have f:=FT h;have hth:=CK d;have i:=P6 h;have⟨b,_,c⟩:=yK h;have hp:0<=d.ai.phase/\d.ai.phase<=2:=by simp only[dC,eo,abR,afa,decide_eq_false_iff_not]at h;omega
 obtain⟨⟨⟨⟨q,j,k⟩,l,r⟩,e⟩,m⟩:∃x,cq d=x:=⟨_,rfl⟩;rw[m]at f hth i b c a|-;simp only at f hth i b c a|-
 have n:eG d=1/\d.aQ=1/\d.ai.phase=0\/eG d=0/\d.ai.phase=2/\d.aQ≠1\/eG d=d.ai.phase:=by
  unfold eG;split
  .rename_i g;exact .inl ⟨rfl,g⟩
  .split
   .rename_i g;exact .inr (.inl ⟨rfl,g.1,g.2.1⟩)
   .exact .inr (.inr rfl)
 have⟨⟨id,o,af⟩,p,need⟩:=d;simp only at f hth i b c a hp n;simp only[rz];have s:e=[]->k=af->j=o->l=p->False:=by rintro _ rfl rfl rfl;exact a (by rw[b,c])
 have t:e=[]\/0<e.length:=by cases e<;>simp
 grind [oy]
end
def xG(d:Dr)(out:List cB):aw×List Ob:=(.aM [.agg [I d.ai.id,I d.ai.phase,.sl 0 0 0 d.ai.af.length,I d.aQ,aG d.need],bd 1 0 0 out.length,aa 0],[ah 8 (d.ai.af.map ax),ah 5 (out.map dW)])
theorem Td{c:Dr}{out:List cB}{m a b:Nat}{G:List Ob}{y:Ob}(g:G[m]?=some (ah 8 (c.ai.af.map ax)))(h:G[a]?=some (.live b 5 (out.map dW)))(i:m≠0)(j:a≠0):
  dI false (G.set 0 y) (.aM [.agg [I c.ai.id,I c.ai.phase,.sl m 0 0 c.ai.af.length,I c.aQ,aG c.need],bd a b 0 out.length,aa 0])=some (xG c out):=by
 have d:(G.set 0 y)[m]?=some (ah 8 (c.ai.af.map ax)):=by grind
 have f:(G.set 0 y)[a]?=some (.live b 5 (out.map dW)):=by grind
 have t2:¬a=m:=fun e=>by grind
 simp[d,f,t2,xG]
structure aag(d:Dr)(out:List cB)(m:Nat)(ol:ab)(G:List Ob):Prop where
 h0:G[0]?=some (ah 5 [[I 0,I 0,eW,I 0,eW]])
 wP:kL G 2 d.ai.id d.ai.phase (.sl m 0 0 d.ai.af.length) d.aQ (aG d.need) ol out
 r:G[m]?=some (ah 8 (d.ai.af.map ax))
 mb:m≠2
 m0:m≠0
 o0:∀v lo n,ol≠ .sl 0 v lo n
def xw:∀l:List Int,gZ [8] (l.map aC)=true
 |[]=>by simp
 |x::r=>by
  have:=xw r
  simp_all
theorem KJ(n:Nat)(d:Dr)(out:List cB):qg (n+1) d out=if(cq d).1=d then((cq d).1,out++(cq d).2)else qg n (cq d).1 (out++(cq d).2):=rfl
def afi(d:Dr)(hm:d.ai.af.length<=100)(hn:d.need.length<=100000):aS tz ay 0 208 [.agg (cU d)]=some (if dC d=false then(.aM [.agg [I 0,I 0,.aj [],I 0,.aj []],.c eW,aa 150],[])else xG (lC d).1 (lC d).2.1):=by
 obtain⟨⟨v,ab⟩,k⟩:∃r,(if dC d=false then((.aM [.agg [I 0,I 0,.aj [],I 0,.aj []],.c eW,aa 150],[]):aw×List Ob)else xG (lC d).1 (lC d).2.1)=r:=⟨_,rfl⟩;rw[k];refine be func208 rfl ?_;have f:=yP d (by unfold maxLen;omega) (by unfold maxLen;omega);have g:=yG d hm hn;simp only[cU,aG]at f g;cases l:dC d with
 |false=>simp[l]at f k;obtain⟨rfl,rfl⟩:=k;simp[f208,cU,f]
 |true=>
  have hw:bS ef d.ai.af<=400:=by have:=CO d.ai.af;omega
  simp[l]at f;simp only[l,Bool.true_eq_false,if_false,lC]at k;simp[-dI,f208,cU,f,g];refine iv (fun _:Nat×Dr×List cB=>[(6,au 2),(2,au 0)]) (fun p G=>dC p.2.1=true/\p.2.1.ai.af.length<=100/\p.2.1.need.length<=100000/\bS ef p.2.1.ai.af+p.2.2.length<=400/\rz p.2.1<p.1/\qg p.1 p.2.1 p.2.2=qg (rz d+1) d []/\∃m o,aag p.2.1 p.2.2 m o G) (fun p=>p.1) ?_ (rz d+1,d,[]) (by simp) ⟨l,hm,hn,by omega,by simp,rfl,1,eW,⟨rfl,⟨rfl,.inl ⟨rfl,rfl⟩⟩,rfl,by simp,by simp,by simp⟩⟩ fun _=>rfl;rintro⟨n,c,out⟩ ad G ⟨q,w,_⟩ ⟨e,x,z,L,M,A,m,o,a⟩;simp only at q w e x z L M A a;have b:=a.wP.hb;have N:=a.r;have g:=yG c x z;simp only[cU,aG]at g b;simp[-dI,q,b,N,g,pS,xw];have lb:=bf b
  have O:RB 2 m 0 c.ai.af.length c.ai.id c.ai.phase c.aQ (aG c.need) o (G++[ah 8 (c.ai.af.map ax),ah 5 [[I c.ai.id,I c.ai.phase,.sl G.length 0 0 c.ai.af.length,I c.aQ,aG c.need]]]) (c.ai.af.map ax) out (G++[ah 8 (c.ai.af.map ax),ah 5 [[I c.ai.id,I c.ai.phase,.sl G.length 0 0 c.ai.af.length,I c.aQ,aG c.need]]]) o:=
   ⟨⟨aV a.wP.hb,a.wP.ho.snoc _⟩,aV a.r,Fr.refl _ _ _,a.mb,fun h=>h⟩
  have⟨K,E,s,F,d1,t,n1,P,B,Q⟩:=SE O e x z (by omega);change kL K 2 c.ai.id (cq c).1.ai.phase (.sl s 0 0 (cq c).1.ai.af.length) (cq c).1.aQ (aG c.need) E (out++(cq c).2)at d1;change K[s]?=some (ah 8 ((cq c).1.ai.af.map ax))at t;simp only[aG]at F;rw[F];have ae:G.length+2<=s:=by grind
  have R:=a.wP.ho.new (m:=G.length) (ad3 _);have S:=a.wP.ho.new (m:=G.length+1) (by omega);have T:=B.2 (G.length) (ah 8 (c.ai.af.map ax)) (by simp) (by simp;omega) R;have U:=B.2 (G.length+1) (ah 5 [[I c.ai.id,I c.ai.phase,.sl G.length 0 0 c.ai.af.length,I c.aQ,aG c.need]]) (by simp) (by simp;omega) S;have C:=B.2 0 _ (aV a.h0) (by simp) a.o0;have i:=M9 c (cq c).1 (by unfold maxLen;omega) (by unfold maxLen;omega);have⟨V,k2,W⟩:=yK e;have b:=d1.hb;have D:=U.1;have H:=T.1;simp only[aG]at b D;simp only[cU,aG,V,W]at i;by_cases u:c=(cq c).1
  .have X:decide (c=(cq c).1)=true:=by simpa using u
   rw[X]at i;have J:=C.1;have Y:∀y,(K.set 0 y)[0]?=some y:=fun y=>ba J;have Z:=d1.ho;rcases Z with⟨_,rfl⟩|⟨ha,va,u1,rfl,u2⟩
   .exact absurd rfl Q
   simp[-dI,q,w,b,D,H,J,Y,t,i];obtain⟨j,rfl⟩:∃j,n=j+1:=⟨n-1,by omega⟩;grind [(KJ),(Td)]
  .simp only[u,decide_false]at i;simp[-dI,q,w,b,D,H,t,i];obtain⟨j,rfl⟩:∃j,n=j+1:=⟨n-1,by omega⟩;have ag:=FT e;have ak:=aad e (ait u);rw[KJ,if_neg (ait u)]at A;exact⟨j,by omega,(cq c).1,Rg e,by omega,by grind,out++(cq c).2,by simp;omega,by omega,A,s,E,⟨C.1,by grind,t,P,by omega,C.2⟩⟩
section
variable{α:Type}{h:Nat}
def MP(x:aI)(p:Int):aS tz ay 0 279 [.agg (ax x),.c (.aJ [[I p]] 0 0)]=some (aR (decide (x.peer=p)),[]):=by refine be func279 rfl ?_;simp[f279,ax]
def sB(p:α->Bool)(l:List α)(k:Nat):List α:=(l.take k).filter (fun x=>!p x)++l.drop ((l.take k).filter (fun x=>!p x)).length
def RT(p:α->Bool)(l:List α)(k:Nat):(sB p l k).length=l.length:=by
 have a:=aiq (fun x=>!p x) (l.take k);have b:(l.take k).length<=l.length:=by simp;omega
 simp only[sB,agc,aj0];omega
def Oc(p:α->Bool)(l:List α)(k:Nat)(a:k<l.length):(sB p l k)[k]?=some l[k]:=by
 have b:=aiq (fun x=>!p x) (l.take k);have c:(l.take k).length=k:=by simp;omega
 unfold sB;rw[aea (by omega),ai3];rw[show((l.take k).filter fun x=>!p x).length+(k-((l.take k).filter fun x=>!p x).length)=k by omega];exact abM a
def No(p:α->Bool)(l:List α)(k:Nat)(a:k<l.length)(hp:p l[k]=false):(sB p l k).set ((l.take k).filter fun x=>!p x).length l[k]=sB p l (k+1):=by
 have c:=aiq (fun x=>!p x) (l.take k);have d:(l.take k).length=k:=by simp;omega
 have b:(l.take (k+1)).filter (fun x=>!p x)=(l.take k).filter (fun x=>!p x)++[l[k]]:=by rw[jC a,ajl];simp[hp]
 unfold sB;rw[b,ajw (h:=ad3 _),ajB,agO (by omega),ajQ,aiu];simp
def Aa(p:α->Bool)(l:List α)(k:Nat)(a:k<l.length)(hp:p l[k]=true):sB p l (k+1)=sB p l k:=by
 have b:(l.take (k+1)).filter (fun x=>!p x)=(l.take k).filter (fun x=>!p x):=by rw[jC a,ajl];simp[hp]
 unfold sB;rw[b]
def fC(p:α->Bool)(l:List α)(k:Nat):Nat:=((l.take k).filter fun x=>!p x).length
def Sl(p:α->Bool)(l:List α)(k:Nat):fC p l k<=k:=by
 have a:=aiq (fun x=>!p x) (l.take k);have b:(l.take k).length<=k:=by simp;omega
 unfold fC;omega
def u6(p:α->Bool)(l:List α)(k:Nat)(a:k<l.length):fC p l (k+1)=fC p l k+if p l[k]then 0 else 1:=by unfold fC;rw[jC a,ajl,agc];cases h:p l[k]<;>simp[h]
def A9{α:Type}{p:α->Bool}{s:α}:∀ {l:List α} (k:Nat),l.find? p=some s->∃j:Nat,dv p k l=((k+j:Nat):Int)/\(∃e:j<l.length,p l[j]=true)/\(l.take j).filter (fun x=>!p x)=l.take j
 |[],k,h=>by simp at h
 |x::r,k,h=>by
  rw[akh]at h
  cases a:p x with
  |true=>exact⟨0,by simp[dv,a],⟨by simp,by simpa using a⟩,by simp⟩
  |false=>
   rw[a]at h
   have⟨j,b,⟨f,c⟩,d⟩:=A9 (k+1) h
   refine⟨j+1,?_,⟨by simp;omega,by simpa using c⟩,by simp[a,d]⟩
   simp only[dv,a]
   rw[show k+(j+1)=k+1+j by omega]
   exact b
def mu(h:Nat)(H G:List Ob):Prop:=H.length<=G.length/\∀(m:Nat) (o:Ob),H[m]?=some o->m≠h->G[m]?=some o
theorem mu.refl(h:Nat)(H:List Ob):mu h H H:=⟨ad3 _,fun _ _ h _=>h⟩
def mu.snoc{H G:List Ob}(b:mu h H G)(x:List Ob):mu h H (G++x):=⟨by have:=b.1;simp;omega,fun m o a c=>aV (b.2 m o a c)⟩
def mu.set{H G:List Ob}(b:mu h H G)(y:Ob):mu h H (G.set h y):=⟨by have:=b.1;simpa using this,fun m o c a=>by rw[aat (ait a)];exact b.2 m o c a⟩
end
def anZ(H:List Ob)(c:Nat)(l:List Int):Prop:= ∃a,H[c]?=some (ah 1 [[a]])/\((l=[]/\a=eW)\/∃b d,l≠ []/\b≠c/\a= .sl b d 0 l.length/\H[b]?=some (.live d 1 (l.map aC)))
def Rh(s:bW)(a:Int)(c:Nat)(l:List Int)(H:List Ob)(d:anZ H c l)(o:l.length<=200000)(hn:s.need.length<=100000):
  ∃j,bB tz (ev tz) 202 [.agg (aN s),.c (.aJ [[I a]] 0 0),au c] H=some (aR (bZ a s),j)/\anZ j c (if bZ a s=true then l++[s.id]else l)/\fj [1] [c] H j:=by
 have⟨k,hc,d⟩:=d
 have p:=bf hc
 refine gj func202 rfl ?_
 have g:=qu s.need a (by unfold maxLen;omega)
 simp only[aG]at g
 by_cases b:s.state=0
 .by_cases e:a∈s.need
  .have f:bZ a s=true:=by simp[bZ,b,e]
   rw[f]
   rcases d with⟨rfl,rfl⟩|⟨m,n,q,h,rfl,i⟩
   .simp[f202,aN,g,b,e,hc,aV hc]
    refine⟨⟨_,ba (aV hc),.inr ⟨H.length+1,0,by simp,by omega,rfl,?_⟩⟩,((fj.refl _ _ _).snoc _).set (by simp) _⟩
    rw[aat (by omega),jh]
    rfl
   .have r:=bf i
    simp[f202,aN,g,b,e,hc,h,aV hc,aV i,show l.length+1<=maxLen/\(l.length+1)*8<=140737488355328 from⟨by unfold maxLen;omega,by omega⟩]
    refine⟨⟨_,ba (x:=ah 1 [[.sl m n 0 l.length]]) (by rw[aat h];exact aV hc),.inr ⟨m,n+1,by simp,h,by simp,?_⟩⟩,(((fj.refl _ _ _).snoc _).Hr (aV i) (by simp) _).set (by simp) _⟩
    rw[aat (ait h),ba (aV i)]
    simp
  .have f:bZ a s=false:=by simp[bZ,b,e]
   rw[f]
   simp[f202,aN,g,b,e]
   exact⟨⟨k,hc,d⟩,fj.refl _ _ _⟩
 .have f:bZ a s=false:=by simp[bZ,b]
  rw[f]
  simp[f202,aN,b]
  exact⟨⟨k,hc,d⟩,fj.refl _ _ _⟩
def pu(a:Int)(l:List bW)(k:Nat):List Int:=((l.take k).filter (bZ a)).map (·.id)
def Re(a:Int)(l:List bW)(k:Nat)(b:k<l.length):pu a l (k+1)=if bZ a l[k]=true then pu a l k++[l[k].id]else pu a l k:=by unfold pu;rw[jC b,ajl,aid];cases h:bZ a l[k]<;>simp[h]
def PX(a:Int)(l:List bW)(k:Nat):(pu a l k).length<=l.length:=by
 unfold pu;have b:=aiq (bZ a) (l.take k);have c:(l.take k).length<=l.length:=by simp;omega
 simp only[aio];omega
theorem fj.mono{Z a b:List Nat}{H c:List Ob}(h:fj Z b H c)(d:∀z∈Z,z∈a):fj a b H c:=⟨h.1,fun m v z rows e f g=>h.2 m v z rows e f (fun q=>g (d z q))⟩
structure nN(peer:Int)(l:List bW)(h ver c:Nat)(H:List Ob)(rows:List (List ab))(k:Nat)(G:List Ob):Prop where
 r:G[h]?=some (.live ver 4 rows)
 i:anZ G c (pu peer l k)
 b:fj [1,4] [c] H G
 k:k<=l.length
def nN.set{f:Int}{l:List bW}{h a c:Nat}{H G:List Ob}{rows:List (List ab)}{k:Nat}(g:nN f l h a c H rows k G)(hc:h≠c)(j:List (List ab)):nN f l h a c H j k (G.set h (.live a 4 j)):=by
 refine⟨ba g.r,?_,g.b.Hr g.r (by simp) _,g.k⟩;have⟨n,o,d⟩:=g.i;refine⟨n,by rw[aat hc];exact o,?_⟩;rcases d with d|⟨p,q,s,t,u,m⟩
 .exact .inl d
 .refine .inr ⟨p,q,s,t,u,?_⟩;rw[aat (fun e=>by subst e;have:=g.r;rw[m]at this;simp at this)];exact m
def nN.call{a:Int}{l:List bW}{h f c:Nat}{H G:List Ob}{rows:List (List ab)}{k:Nat}(g:nN a l h f c H rows k G)(e:k<l.length)(hc:h≠c)(hm:l.length<=100000)(hn:∀s∈l,s.need.length<=100000):
  ∃d,bB tz (ev tz) 202 [.agg (aN l[k]),.c (.aJ [[I a]] 0 0),au c] G=some (aR (bZ a l[k]),d)/\nN a l h f c H rows (k+1) d:=by
 have:=PX a l k
 have⟨d,m,n,j⟩:=Rh l[k] a c _ G g.i (by omega) (hn _ (aix e))
 refine⟨d,m,j.2 _ _ _ _ g.r (by simp[hc]) (by simp),by rw[Re _ _ _ e];exact n,g.b.trans (j.mono (by simp)),e⟩
def KS{b:Type}{p:b->Bool}:∀ {l:List b} (k:Nat),l.find? p=none->jc (fun _=>p) k l=k+l.length
 |[],k,_=>rfl
 |x::r,k,h=>by
  rw[akh]at h
  cases a:p x with
  |true=>rw[a]at h;cases h
  |false=>
   rw[a]at h
   simp only[jc,a,KS (k+1) h,aip]
   simp;omega
def Sv{a:Type}{p:a->Bool}{s:a}:∀ {l:List a} (k:Nat),l.find? p=some s->((jc (fun _=>p) k l:Nat):Int)=dv p k l+1
 |[],k,h=>by simp at h
 |x::r,k,h=>by
  rw[akh]at h
  cases b:p x with
  |true=>simp[jc,dv,b]
  |false=>
   rw[b]at h
   simp only[jc,dv,b]
   exact Sv (k+1) h
def aab{l:List bW}{peer:Int}{h ver c:Nat}{H:List Ob}(hm:l.length<=100000)(hn:∀s∈l,s.need.length<=100000)(U:H[h]?=some (.live ver 4 (l.map aN)))(V:anZ H c [])(hc:h≠c):
  ∃m rows,bB tz (ev tz) 201 [bd h ver 0 l.length,.c (.bF 202 [.aJ [[I peer]] 0 0,.ptr c 0 0 0])] H=some (bd h ver 0 (l.filter fun x=>!bZ peer x).length,m)/\rows.length=l.length/\rows.take (l.filter fun x=>!bZ peer x).length=(l.filter fun x=>!bZ peer x).map aN/\nN peer l h ver c H rows l.length m:=by
 have W:=cG (C:=tz) (f:=201) (args:=[bd h ver 0 l.length,.c (.bF 202 [.aJ [[I peer]] 0 0,.ptr c 0 0 0])]) (H:=H) (fun r m=>r=bd h ver 0 (l.filter fun x=>!bZ peer x).length/\∃rows,rows.length=l.length/\rows.take (l.filter fun x=>!bZ peer x).length=(l.filter fun x=>!bZ peer x).map aN/\nN peer l h ver c H rows l.length m) func201 rfl ?_
 .obtain ⟨r,m,z,rfl,rows,n⟩:=W
  exact⟨m,rows,z,n⟩
 have⟨G,q,A⟩:=TZ (g:=202) (caps:=[.aJ [[I peer]] 0 0,.ptr c 0 0 0]) l (by unfold maxLen;omega) h ver 0 (fun k G=>nN peer l h ver c H (l.map aN) (min k l.length) G) (fun _=>bZ peer) (fun k G g=>⟨_,g.r,fun j B=>by simp[B]⟩) (fun k a G g=>by
  rw[aj1 (alq a)]at g
  have⟨X,z,n⟩:=g.call a hc hm hn
  simp only[aN,aG]at z
  refine⟨X,?_,by rw[aj1 a];exact n⟩
  simp[aN,z]) H (by
  simp only[Nat.zero_min]
  exact⟨U,by simpa[pu]using V,fj.refl _ _ _,by omega⟩)
 rw[IY]at q
 cases t:l.find? (bZ peer)with
 |none=>
  rw[qX 0 t]at q
  rw[KS 0 t,aiW,Nat.min_self]at A
  have Y:l.filter (fun x=>!bZ peer x)=l:=by
   rw[ajq]
   intro x Z
   have:=alW.1 t x Z
   simpa using this
  rw[Y]
  simp[f201,q]
  exact⟨_,by simp,by simp,A⟩
 |some x=>
  have hS:=Sv 0 t
  have⟨j,n,⟨B,N⟩,O⟩:=A9 0 t
  rw[aiW]at n
  rw[n]at q hS
  have ab:min (jc (fun _=>bZ peer) 0 l) l.length=j+1:=by omega
  rw[ab]at A
  have ad:adW.wrap ((j:Int)+1)=((j+1:Nat):Int):=cv (by omega)
  have n0:fC (bZ peer) l (j+1)=j:=by
   rw[u6 _ l j B,if_pos N]
   unfold fC
   rw[O];simp;omega
  have d0:sB (bZ peer) l (j+1)=l:=by
   rw[Aa _ l j B N]
   unfold sB
   rw[O,ai1,aj1 (by omega),ajI]
  simp[f201,q,ad]
  refine iy (fun k:Nat=>[(5,aa (fC (bZ peer) l k)),(6,aa k),(0,bd h ver 0 l.length),(1,.c (.bF 202 [.aJ [[I peer]] 0 0,.ptr c 0 0 0]))]) (fun k G=>nN peer l h ver c H ((sB (bZ peer) l k).map aN) k G) (fun k=>l.length-k) ?_ (j+1) (by simp[n0]) (by rw[d0];exact A) fun _=>rfl
  rintro k ag G⟨D,u,v,E,_⟩d
  have o:=d.r
  have J:=RT (bZ peer) l k
  have nk:=Sl (bZ peer) l k
  by_cases a:k<l.length
  .have P:adW.wrap ((k:Int)+1)=((k+1:Nat):Int):=cv (by omega)
   have ae:adW.wrap ((fC (bZ peer) l k:Int)+1)=((fC (bZ peer) l k+1:Nat):Int):=cv (by omega)
   have t1:=Oc (bZ peer) l k a
   have⟨t2,t3⟩:=abW.1 t1
   have t4:fC (bZ peer) l k< (sB (bZ peer) l k).length:=by omega
   have t5:fC (bZ peer) l k<l.length:=by omega
   have K:nN peer l h ver c H ((sB (bZ peer) l k).map aN) k (G++[ah 4 [aN l[k]]]):=⟨aV o,by
    have⟨Q,L,F⟩:=d.i
    refine⟨Q,aV L,?_⟩
    rcases F with F|⟨ha,va,q3,q4,q5,q6⟩
    .exact .inl F
    .exact .inr ⟨ha,va,q3,q4,q5,aV q6⟩,d.b.snoc _,d.k⟩
   have lg:=PX peer l k
   have⟨af,e,M,w⟩:=Rh l[k] peer c _ _ K.i (by omega) (hn _ (aix a))
   have ai:c<G.length:=by
    have⟨Q,L,F⟩:=d.i
    exact bf L
   have R:=w.2 G.length 0 4 [aN l[k]] (by simp) (by simp;omega) (by simp)
   have S:=w.2 h ver 4 _ K.r (by simp[hc]) (by simp)
   have T:nN peer l h ver c H ((sB (bZ peer) l k).map aN) (k+1) af:=⟨S,by rw[Re _ _ _ a];exact M,K.b.trans (w.mono (by simp)),a⟩
   have gh:∀x,(G++x)[h]?=_:=fun x=>aV o
   simp only[aN,aG]at e R
   cases p:bZ peer l[k]with
   |true=>
    rw[p]at e
    simp[-getElem?_pos,underlying65,u,v,E,a,o,t1,t2,aN]
    rw[e]
    simp[D,u,v,E,P]
    exact⟨k+1,by omega,⟨by rw[u6 _ l k a,p];simp,by omega⟩,by rw[Aa _ l k a p];exact T⟩
   |false=>
    rw[p]at e
    obtain⟨y,hy⟩:∃y,(sB (bZ peer) l k)[fC (bZ peer) l k]?=some y:=⟨_,abM t4⟩
    simp[-getElem?_pos,underlying65,u,v,E,a,o,t1,t2,aN]
    rw[e]
    simp[D,u,v,E,P,ae,S,R,t5,J,hy,aN]
    refine⟨k+1,by omega,⟨by rw[u6 _ l k a,p];simp,by omega⟩,?_⟩
    rw[<-No _ l k a p,aiC]
    exact T.set hc _
  .obtain rfl:k=l.length:=by have:=d.k;omega
   have e:fC (bZ peer) l l.length=(l.filter fun x=>!bZ peer x).length:=by simp[fC]
   have M:sB (bZ peer) l l.length=l.filter (fun x=>!bZ peer x)++l.drop (l.filter fun x=>!bZ peer x).length:=by simp[sB]
   have w:=aiq (fun x=>!bZ peer x) l
   simp only[e]at D
   have gs:∀y,(G.set h y)[h]?=some y:=fun y=>ba o
   simp[underlying65,D,u,v,o,J,w,gs,rv,dT]
   refine⟨_,?_,?_,d.set hc _⟩
   .simp[J];omega
   .rw[M,aid]
    rw[ai8 (by simp)]
    exact ai8 (by simp)
def acm(x:Int):aS tz ay 0 250 [aa x]=some (aR (decide (x<0)),[]):=by refine be func250 rfl ?_;simp[f250]
def RH(l:List Int)(hm:l.length<=maxLen):aS tz ay 0 175 [.c (aG l)]=some (aR (nh l),[]):=by
 refine be func175 rfl ?_;have h:=vL (g:=250) (caps:=[]) l hm (fun x=>decide (x<0)) (by rw[(show tz.md 250=0 from rfl)];decide) rfl (bi l) (fun x _=>by simp[acm]);by_cases a:64<l.length
 .have:(l.length:Int)>64:=by omega
  simp[f175,underlying30,a,this,nh]
 .have:¬(l.length:Int)>64:=by omega
  simp[f175,underlying30,a,this,nh,h]
def Gb(l:List bW):Prop:= ∀s∈l,s.need.length<=maxLen
def vY(b:cd)(hm:b.aA.length<=maxLen)(hn:Gb b.aA):aS tz ay 0 106 [.agg (bO b)]=some (aa (if cN b then 0 else 170),[]):=by
 refine be func106 rfl ?_;by_cases q:b.last<0
 .simp[f106,bO,q,cN]
 by_cases u:8<b.aA.length
 .have:(b.aA.length:Int)>8:=by omega
  simp[f106,underlying65,bO,q,u,this,cN]
 have v:¬(b.aA.length:Int)>8:=by omega
 simp[f106,underlying65,bO,q,u,v,cN];refine iy (fun p:Nat×Int=>[(18,aa b.aA.length),(19,aa p.1),(17,bh (b.aA.map aN)),(3,aa p.2),(1,.c (.aJ [bO b] 0 0))]) (fun p H=>p.1<=b.aA.length/\dS b.last 0 true b.aA=dS b.last p.2 (decide (p.1=0)) (b.aA.drop p.1)) (fun p=>b.aA.length-p.1) ?_ (0,0) (by simp[bO]) (by simp) fun _=>rfl;rintro⟨k,o⟩ e H ⟨g,f,h,i,l,_⟩ ⟨w,a⟩;simp only at g f h i l w a;by_cases d:k<b.aA.length
 .have x:b.aA.drop k=b.aA[k]::b.aA.drop (k+1):=agO d;have r:adW.wrap ((k:Int)+1)=((k+1:Nat):Int):=cv (by unfold maxLen at hm;omega);rw[x]at a;have t:b.aA[k].need.length<=maxLen:=hn _ (aix d);have⟨s,j⟩:=eg b.aA[k];rw[j]at a t;simp only[dS]at a;have m:=RH s.need t;have n:=Cn s.need t;simp only[aG]at m n;have y:((k:Int)=0)=(k=0):=by simp
  by_cases d1:s.state=1
  .by_cases d2:k=0
   .subst d2;simp at d r f a;by_cases c1:s.id<=o
    .simp[g,f,h,i,d,j,aN,bO,d1,c1];simp[a,dw,d1,c1]
    by_cases c2:s.id>b.last
    .simp[g,f,h,i,l,d,j,aN,bO,d1,c1,c2];simp[a,dw,d1,c1,c2]
    cases c3:nh s.need
    case true=>simp[g,f,h,i,l,d,j,aN,bO,m,d1,c1,c2,c3];simp[a,dw,d1,c1,c2,c3]
    cases c4:ek s.need
    case false=>simp[g,f,h,i,l,d,j,aN,bO,m,n,d1,c1,c2,c3,c4];simp[a,dw,d1,c1,c2,c3,c4]
    by_cases c5:s.cH<0
    .simp[g,f,h,i,l,d,j,aN,bO,m,n,d1,c1,c2,c3,c4,c5];simp[a,dw,d1,c1,c2,c3,c4,c5]
    simp[g,f,h,i,l,d,j,aN,bO,r,m,n,d1,c1,c2,c3,c4,c5];exact⟨1,by omega,s.id,by simp,by omega,by simpa[dw,d1,c1,c2,c3,c4,c5]using a⟩
   .have d3:¬s.state=0:=by omega
    simp only[d2,decide_false]at a;by_cases c1:s.id<=o
    .simp[g,f,h,i,d,j,aN,bO,d1,d2,c1];simp[a,dw,d1,c1]
    by_cases c2:s.id>b.last
    .simp[g,f,h,i,l,d,j,aN,bO,d1,d2,c1,c2];simp[a,dw,d1,c1,c2]
    cases c3:nh s.need
    case true=>simp[g,f,h,i,l,d,j,aN,bO,m,d1,d2,c1,c2,c3];simp[a,dw,d1,c1,c2,c3]
    cases c4:ek s.need
    case false=>simp[g,f,h,i,l,d,j,aN,bO,m,n,d1,d2,c1,c2,c3,c4];simp[a,dw,d1,c1,c2,c3,c4]
    by_cases c5:s.cH<0
    .simp[g,f,h,i,l,d,j,aN,bO,m,n,d1,d2,c1,c2,c3,c4,c5];simp[a,dw,d1,c1,c2,c3,c4,c5]
    simp[g,f,h,i,l,d,j,aN,bO,m,n,d1,d2,c1,c2,c3,c4,c5];simp[a,dw,d1,c1,c2,c3,c4,c5]
  .by_cases d3:s.state=0
   .by_cases d4:s.cH=0
    .have d5:¬s.cH<0:=by omega
     by_cases c1:s.id<=o
     .simp[g,f,h,i,d,j,aN,bO,d3,d4,c1];simp[a,dw,d3,d4,c1]
     by_cases c2:s.id>b.last
     .simp[g,f,h,i,l,d,j,aN,bO,d3,d4,c1,c2];simp[a,dw,d3,d4,c1,c2]
     cases c3:nh s.need
     case true=>simp[g,f,h,i,l,d,j,aN,bO,m,d3,d4,c1,c2,c3];simp[a,dw,d3,d4,c1,c2,c3]
     cases c4:ek s.need
     case false=>simp[g,f,h,i,l,d,j,aN,bO,m,n,d3,d4,c1,c2,c3,c4];simp[a,dw,d3,d4,c1,c2,c3,c4]
     simp[g,f,h,i,l,d,j,aN,bO,r,m,n,d3,d4,c1,c2,c3,c4];exact⟨k+1,by omega,s.id,by simp,by omega,by simpa[dw,d1,d3,d4,c1,c2,c3,c4]using a⟩
    .by_cases c1:s.id<=o
     .simp[g,f,h,i,d,j,aN,bO,d3,c1];simp[a,dw,d3,d4,c1]
     by_cases c2:s.id>b.last
     .simp[g,f,h,i,l,d,j,aN,bO,d3,c1,c2];simp[a,dw,d3,d4,c1,c2]
     cases c3:nh s.need
     case true=>simp[g,f,h,i,l,d,j,aN,bO,m,d3,c1,c2,c3];simp[a,dw,d3,d4,c1,c2,c3]
     cases c4:ek s.need
     case false=>simp[g,f,h,i,l,d,j,aN,bO,m,n,d3,c1,c2,c3,c4];simp[a,dw,d3,d4,c1,c2,c3,c4]
     by_cases c5:s.cH<0
     .simp[g,f,h,i,l,d,j,aN,bO,m,n,d3,c1,c2,c3,c4,c5];simp[a,dw,d3,d4,c1,c2,c3,c4,c5]
     simp[g,f,h,i,l,d,j,aN,bO,m,n,d3,d4,c1,c2,c3,c4,c5];simp[a,dw,d3,d4,c1,c2,c3,c4,c5]
   .by_cases c1:s.id<=o
    .simp[g,f,h,i,d,j,aN,bO,d1,c1];simp[a,dw,d1,d3,c1]
    by_cases c2:s.id>b.last
    .simp[g,f,h,i,l,d,j,aN,bO,d1,c1,c2];simp[a,dw,d1,d3,c1,c2]
    cases c3:nh s.need
    case true=>simp[g,f,h,i,l,d,j,aN,bO,m,d1,c1,c2,c3];simp[a,dw,d1,d3,c1,c2,c3]
    cases c4:ek s.need
    case false=>simp[g,f,h,i,l,d,j,aN,bO,m,n,d1,c1,c2,c3,c4];simp[a,dw,d1,d3,c1,c2,c3,c4]
    by_cases c5:s.cH<0
    .simp[g,f,h,i,l,d,j,aN,bO,m,n,d1,c1,c2,c3,c4,c5];simp[a,dw,d1,d3,c1,c2,c3,c4,c5]
    simp[g,f,h,i,l,d,j,aN,bO,m,n,d1,d3,c1,c2,c3,c4,c5];simp[a,dw,d1,d3,c1,c2,c3,c4,c5]
 .simp[g,f,d];rw[a,aiv (by omega)];simp[dS]
def Vn(x y:bW)(e:x.need.length<=maxLen):aS tz ay 0 271 [.agg (aN x),.agg (aN y)]=some (aR (decide (x=y)),[]):=by
 refine be func271 rfl ?_;have h:=zB x.need y.need e;have⟨i,n,s,a⟩:=x;have⟨f,k,g,j⟩:=y;simp only at h;by_cases b:i=f
 case neg=>simp[f271,aN,b]
 by_cases c:s=g
 case neg=>simp[f271,aN,b,c]
 by_cases d:a=j
 case neg=>simp[f271,aN,b,c,d]
 simp[f271,aN,h,b,c,d]
def iI(b:cd):Prop:=b.aA.length<=100000/\∀s∈b.aA,s.need.length<=100000
def iI.hm{b:cd}(h:iI b):b.aA.length<=maxLen:=by have:=h.1;unfold maxLen;omega
def iI.hn{b:cd}(h:iI b):Gb b.aA:=fun s a=>by have:=h.2 s a;unfold maxLen;omega
def wF(b:cd)(d:iI b):aS tz ay 0 189 [.agg (bO b)]=some (.agg [I b.last,.sl 0 0 0 b.aA.length],[ah 4 (b.aA.map aN)]):=by
 refine be func189 rfl ?_;have j:=OV (a:= .aj (b.aA.map aN)) (l:=b.aA) rfl (by have:=d.1;omega);simp[f189,underlying65,bO,j];refine iy (fun k:Nat=>[(10,aa b.aA.length),(11,aa k),(1,au 0),(2,au 1)]) (fun k H=>k<=b.aA.length/\H=[ah 2 [[I b.last,.sl 2 0 0 b.aA.length]],ah 2 [[I 0,eW]],ah 4 (b.aA.map aN)]) (fun k=>b.aA.length-k) ?_ 0 (by simp) (by simp) fun _=>rfl;rintro k e H ⟨f,g,h,i,_⟩ ⟨q,m⟩;subst m;by_cases c:k<b.aA.length
 .have n:adW.wrap ((k:Int)+1)=((k+1:Nat):Int):=cv (by have:=d.hm;unfold maxLen at this;omega);have o:=uF (a:= .aj (b.aA[k].need.map aC)) (l:=b.aA[k].need) rfl (by have:=d.2 _ (aix c);omega);have p:(b.aA.map aN).set k [I b.aA[k].id,.aj (b.aA[k].need.map aC),I b.aA[k].state,I b.aA[k].cH]=b.aA.map aN:=ja (by simpa using c) (by simp[aN]);simp[f,g,h,i,c,n,o,aN,p];exact⟨k+1,by omega,by simp,by omega⟩
 .simp[f,g,h,i,c]
def Yq(l m:List bW)(hm:l.length<=maxLen)(hn:Gb l):aS tz ay 0 270 [bh (l.map aN),bh (m.map aN),.c (.bF 271 [])]=some (aR (decide (l=m)),[]):=by
 refine be func270 rfl ?_;by_cases o:l.length=m.length
 case neg=>
  have:decide (l=m)=false:=by simp;intro h;exact o (by rw[h])
  have s:((l.length:Int)=m.length)=False:=by simp;omega
  simp[f270,underlying65,s,this]
 simp[f270,underlying65,o];refine iy (fun k:Nat=>[(16,aa m.length),(17,aa k),(15,bh (l.map aN)),(1,bh (m.map aN)),(2,.c (.bF 271 []))]) (fun k H=>k<=l.length/\(l=m↔l.drop k=m.drop k)) (fun k=>l.length-k) ?_ 0 (by simp) (by simp) fun _=>rfl;rintro k e H ⟨g,i,p,q,r,_⟩ ⟨x,j⟩;by_cases d:k<m.length
 .have f:k<l.length:=by omega
  have t:l.drop k=l[k]::l.drop (k+1):=agO f;have u:m.drop k=m[k]::m.drop (k+1):=agO d;have v:adW.wrap ((k:Int)+1)=((k+1:Nat):Int):=cv (by unfold maxLen at hm;omega);have n:l=m↔l[k]=m[k]/\l.drop (k+1)=m.drop (k+1):=by rw[j,t,u,aiA]
  have a:=Vn l[k] m[k] (hn _ (aix f));simp only[aN,aG]at a;by_cases b:l[k]=m[k]
  .simp only[b,true_and]at n;simp[b]at a;simp[aN,g,i,p,q,r,d,f,b,v,a];exact⟨k+1,by omega,by simp,by omega,n⟩
  .simp[b]at a;have w:¬l=m:=by simpa[b]using n
   simp[aN,g,i,p,q,r,d,f,a,w]
 .simp[g,i,d];rw[aiv (by omega),aiv (by omega)]at j;simpa using j
def YQ(a b:cd)(c:iI a):aS tz ay 0 213 [.agg (bO a),.agg (bO b)]=some (aR (decide (a=b)),[]):=by refine be func213 rfl ?_;have h:=Yq a.aA b.aA c.hm c.hn;have⟨l,s⟩:=a;have⟨d,f⟩:=b;simp only at h;by_cases e:l=d<;>simp[f213,bO,h,e]
def xK(b:cd)(a:List Int):aw×List Ob:=if a=[]then(.aM [.agg [I b.last,.sl 0 0 0 b.aA.length],.c eW,aa 0],[ah 4 (b.aA.map aN)])else(.aM [.agg [I b.last,.sl 0 0 0 b.aA.length],bd 1 0 0 a.length,aa 0],[ah 4 (b.aA.map aN),ah 1 (a.map aC)])
def WD(b:cd)(peer:Int)(d:iI b):aS tz ay 0 127 [.agg (bO b),aa peer]=some (if cN b=false then(.aM [.agg [I 0,.aj []],.c eW,aa 170],[])else xK (iS b peer).1 (iS b peer).2.1):=by
 obtain⟨⟨v,o⟩,a⟩:∃r,(if cN b=false then((.aM [.agg [I 0,.aj []],.c eW,aa 170],[]):aw×List Ob)else xK (iS b peer).1 (iS b peer).2.1)=r:=⟨_,rfl⟩;rw[a];refine be func127 rfl ?_;have f:=vY b d.hm d.hn;have w:=wF b d;simp only[bO]at f w;cases n:cN b with
 |false=>simp[n]at f a;obtain⟨rfl,rfl⟩:=a;simp[f127,bO,f]
 |true=>
  simp[n]at f a;simp[-dI,f127,bO,f,w];have⟨K,rows,B,C,p,g⟩:=aab (l:=b.aA) (peer:=peer) (h:=3) (ver:=0) (c:=2) (H:=[ah 2 [[I b.last,.sl 3 0 0 b.aA.length]],ah 2 [[I 0,eW]],ah 1 [[eW]],ah 4 (b.aA.map aN)]) d.1 d.2 rfl ⟨eW,rfl,.inl ⟨rfl,rfl⟩⟩ (by decide);rw[B];have j:=g.b.2 0 0 2 [[I b.last,.sl 3 0 0 b.aA.length]] rfl (by decide) (by decide);have q:=g.b.2 1 0 2 [[I 0,eW]] rfl (by decide) (by decide);have⟨T,c1,c2⟩:=g.i;have D:∀y,(K.set 0 y)[0]?=some y:=fun y=>ba j;have z:∀y,(K.set 0 y)[1]?=_:=fun y=>(aat (by decide)).trans q;have E:∀y,(K.set 0 y)[2]?=_:=fun y=>(aat (by decide)).trans c1;have F:∀x y,((K.set 0 x).set 1 y)[1]?=some y:=fun x y=>ba (z x);simp[-dI,j,D,z,E,F];have w3:∀x y,((K.set 0 x).set 1 y)[3]?=some (ah 4 rows):=by intro x y;rw[aat (by decide),aat (by decide)];exact g.r
  have G:pu peer b.aA b.aA.length=(b.aA.filter (bZ peer)).map (·.id):=by simp[pu]
  rw[G]at c2;have J:iS b peer=(⟨b.last,b.aA.filter fun s=>!bZ peer s⟩,(b.aA.filter (bZ peer)).map (·.id),0):=by unfold iS;rw[if_neg (by simp[n])]
  rw[J]at a;have⟨L,M⟩:=eg ((b.aA.filter (bZ peer)).map (·.id));rw[M]at c2 a;have t:(b.aA.filter fun x=>!bZ peer x).length<=rows.length:=by rw[C];exact aiq _ _
  have⟨N,O⟩:=eg (b.aA.filter fun x=>!bZ peer x);rw[O]at p t a|-;have A:=bV N;rw[<-a];simp only[xK];rcases c2 with⟨u,rfl⟩|⟨k,P,u,U,rfl,m⟩
  .rw[if_pos u];simp[w3,t,p,A]
  .have Q:¬k=3:=fun e=>by subst e;have:=g.r;rw[m]at this;simp at this
   have R:0≠k:=fun e=>by subst e;rw[m]at j;simp at j
   have S:1≠k:=fun e=>by subst e;rw[m]at q;simp at q
   have w4:∀x y,((K.set 0 x).set 1 y)[k]?=some (.live P 1 (L.map aC)):=by intro x y;rw[aat S,aat R];exact m
   rw[if_neg u];simp[w3,w4,t,p,A,Q]
section
variable{b z:Nat}{H H':List Ob}{lf:ab}{C:bu}{ce:cV}{e:Env}
def rf:ab->List Nat
 | .sl h _ _ _=>[h]
 |_=>[]
def eu(row:List ab):List Nat:=row.flatMap rf
def oW:Option Ob->List Nat
 |some (.live _ _ [row])=>eu row
 |_=>[]
def bq(b:Nat)(H H':List Ob):Prop:=H.length<=H'.length/\∀(m:Nat) (o:Ob),H[m]?=some o->m≠b->m∉oW H[b]?->H'[m]?=some o/\m∉oW H'[b]?
theorem bq.refl(b:Nat)(H:List Ob):bq b H H:=⟨ad3 _,fun _ _ h _ a=>⟨h,a⟩⟩
def bq.trans{a:List Ob}(h:bq b H H')(c:bq b H' a):bq b H a:=⟨ai5 h.1 c.1,fun m o e d f=>by have⟨g,i⟩:=h.2 m o e d f;exact c.2 m o g d i⟩
theorem bq.bH{v f g:Nat}{row c:List ab}(h:H[b]?=some (.live v z [row]))(i:H'[b]?=some (.live f g [c]))(j:H.length<=H'.length)
  (k:∀m∈eu c,m∈eu row\/H.length<=m) (l:∀(m:Nat) (o:Ob),H[m]?=some o->m≠b->m∉eu row->H'[m]?=some o):bq b H H':=⟨j,fun m o d n a=>by
 rw[h]at a
 rw[i]
 refine⟨l m o d n a,fun p=>?_⟩
 rcases k m p with e|e
 .exact a e
 .have:=bf d
  omega⟩
def bq.snoc{x:List Ob}(a:b<H.length):bq b H (H++x):=⟨by simp,fun m o c e d=>⟨aV c,by rw[abE a];exact d⟩⟩
def gI(H:List Ob)(z:Nat)(lf:ab)(rows t:List (List ab)):Prop:= ∃a b,lf= .sl a b 0 rows.length/\H[a]?=some (.live b z (rows++t))
def lB(H:List Ob)(z:Nat)(lf:ab)(rows:List (List ab)):Prop:=(rows=[]/\lf=eW)\/gI H z lf rows []
theorem gI.aK{rows t:List (List ab)}(h:gI H z lf rows t)(a:∀(m v:Nat) (r:List (List ab)),m∈rf lf->H[m]?=some (.live v z r)->H'[m]?=some (.live v z r)):gI H' z lf rows t:=by obtain⟨b,c,rfl,d⟩:=h;exact⟨b,c,rfl,a _ _ _ (by simp[rf]) d⟩
theorem lB.aK{H H':List Ob}{z:Nat}{lf:ab}{rows:List (List ab)}(h:lB H z lf rows)(a:∀(m v:Nat) (r:List (List ab)),m∈rf lf->H[m]?=some (.live v z r)->H'[m]?=some (.live v z r)):lB H' z lf rows:=by
 rcases h with h|h
 .exact .inl h
 .exact .inr (h.aK a)
def gI.lt{rows t:List (List ab)}(h:gI H z lf rows t):∀m∈rf lf,m<H.length:=by obtain⟨b,c,rfl,a⟩:=h;intro m hm;simp[rf]at hm;subst hm;exact bf a
def lB.lt{H:List Ob}{z:Nat}{lf:ab}{rows:List (List ab)}(h:lB H z lf rows):∀m∈rf lf,m<H.length:=by
 rcases h with⟨_,rfl⟩|h
 .intro m hm;simp[rf]at hm
 .exact h.lt
def gw(x:Ev):List ab:=[I x.kind,I x.node,I x.id,I x.peer,if x.kind=0 then aG x.need else eW]
def bM(w:Wk)(sl a b c d se:ab):List ab:=[I w.n.dr.ai.id,I w.n.dr.ai.phase,sl,I w.n.dr.aQ,aG w.n.dr.need,I w.n.book.last,a,b,aG w.n.told,c,d,se,I w.e]
def kv(H:List Ob)(a:ab)(l:List bW):Prop:=a= .aj (l.map aN)\/gI H 4 a (l.map aN) []
theorem kv.aK{H H':List Ob}{a:ab}{l:List bW}(h:kv H a l)(b:∀(m v:Nat) (r:List (List ab)),m∈rf a->H[m]?=some (.live v 4 r)->H'[m]?=some (.live v 4 r)):kv H' a l:=by
 rcases h with h|h
 .exact .inl h
 .exact .inr (h.aK b)
structure cF(H:List Ob)(b:Nat)(w:Wk)(sl ss kn ks ol se:ab):Prop where
 hb:H[b]?=some (ah 13 [bM w sl ss kn ks ol se])
 hs:∃t,gI H 8 sl (w.n.dr.ai.af.map ax) t
 db:kv H ss w.n.book.aA
 hk:gI H 2 kn (w.n.known.map aW) []
 ha:lB H 2 ks (w.n.asked.map aW)
 ho:lB H 5 ol (w.out.map dW)
 he:lB H 5 se (w.seen.map gw)
 d1:∀m∈rf kn,m∉rf ks
 d2:∀m∈rf ol,m∉rf se
def bX(H:List Ob)(b:Nat)(w:Wk):Prop:= ∃sl a c d e se,cF H b w sl a c d e se
def bX.snoc{x:List Ob}{w:Wk}(h:bX H b w):bX (H++x) b w:=by have⟨sl,a,c,d,e,se,f,⟨t,g⟩,i,j,k,l,m,d1,d2⟩:=h;exact⟨sl,a,c,d,e,se,aV f,⟨t,g.aK fun _ _ _ _ h=>aV h⟩,i.aK fun _ _ _ _ h=>aV h,j.aK fun _ _ _ _ h=>aV h,k.aK fun _ _ _ _ h=>aV h,l.aK fun _ _ _ _ h=>aV h,m.aK fun _ _ _ _ h=>aV h,d1,d2⟩
def ny{j:Nat}{a b}{all:List Oper}:jy C ce ⟨[],some j,a,b⟩ all e H=kQ C ce ⟨[],some j,a,b⟩ H.length ((tw 0 all).map fun p=>(p.1,im all p.2)) e (H++[.dead]):=by unfold jy qz;simp only;rw[LD,tv]
def rV{k j:Nat}{a b c}{all:List Oper}:jy C ce ⟨k::a,some j,b,c⟩ all e H=kQ C ce ⟨k::a,some j,b,c⟩ H.length ((tag all (k::a)).map fun p=>(p.1,im all p.2)) e (H++[.dead]):=by unfold jy qz;simp only;rw[tv]
end
def Nu(x:aI):aS tz ay 0 74 [.agg (ax x)]=some (aR (nR x),[]):=by refine be func74 rfl ?_;simp[f74,ax,nR]
def BL(x:aI):aS tz ay 0 207 [.agg (ax x)]=some (aR (r9 x),[]):=by refine be func207 rfl ?_;simp[f207,ax,r9]
def aeR(x:aI):aS tz ay 0 184 [.agg (ax x)]=some (aR (decide (x.state=3)),[]):=by refine be func184 rfl ?_;simp[f184,ax]
def afr(x:aI)(p:Int):aS tz ay 0 110 [.agg (ax x),.c (.aJ [[I p]] 0 0)]=some (aR (decide (x.peer=p)),[]):=by refine be func110 rfl ?_;simp[f110,ax]
def XP(x:aI)(k:cj):aS tz ay 0 252 [.agg (ax x),.c (.aJ [aW k] 0 0)]=some (aR (decide (x.peer=k.peer)),[]):=by refine be func252 rfl ?_;simp[f252,ax,aW]
def Py(n:Nd):aS tz ay 0 119 [.agg (aT n)]=some (match n.book.aA with|[]=> .aM [.agg [I 0,.aj [],I 0,I 0],aR false]|s::_=> .aM [.agg (aN s),aR true],[]):=by
 refine be func119 rfl ?_;cases a:n.book.aA with
 |nil=>simp[f119,underlying65,aT,a]
 |cons s r=>simp[f119,underlying65,aT,a,aN]
def ED(n:Nd)(p:Int)(hm:n.known.length<=maxLen):aS tz ay 0 70 [.agg (aT n),aa p]=some (aa (gR n.known p),[]):=by
 refine be func70 rfl ?_;have⟨l,f⟩:=eg n.known;rw[f]at hm|-;simp[f70,underlying68,aT,f];refine iy (fun k:Nat=>[(9,aa l.length),(10,aa k),(8,bh (l.map aW)),(1,aa p)]) (fun k _=>k<=l.length/\gR l p=gR (l.drop k) p) (fun k=>l.length-k) ?_ 0 (by simp) (by simp) fun _=>rfl;rintro k e H ⟨c,d,g,h,_⟩ ⟨m,a⟩;by_cases b:k<l.length
 .have i:l.drop k=l[k]::l.drop (k+1):=agO b;have j:adW.wrap ((k:Int)+1)=((k+1:Nat):Int):=cv (by unfold maxLen at hm;omega);rw[i]at a;simp only[gR]at a;by_cases hp:l[k].peer=p
  .rw[if_pos hp]at a;simp[aW,c,d,g,h,b,hp];exact a.symm
  .rw[if_neg hp]at a;simp[aW,c,d,g,h,b,hp,j];exact⟨k+1,by omega,by simp,by omega,a⟩
 .simp[c,d,b];rw[a,aiv (by omega)];rfl
def Yo(id b:Int)(l:List aI)(a:List ab)(e:cy a=true)(p:Int)(hm:l.length<=maxLen):aS tz ay 0 69 [.c (.aJ [I id::I b:: .aj (l.map ax)::a] 0 0),aa p]=some (aa (dv (j8 p) 0 l),[]):=by
 refine be func69 rfl ?_;have d:=yj (g:=110) (caps:=[.aJ [[I p]] 0 0]) l hm (j8 p) (fun x _=>by have:=afr x p;simp[ax]at this;simp[ax,this,j8])
 simp[f69,d]
def E9(l:List Int):aw×List Ob:=if l=[]then(.c eW,[])else cw l
def abq(H:List Ob)(a:ab)(F:List aI):Prop:=(F=[]/\a=eW)\/F≠ []/\gI H 1 a (F.map fun x=>aC x.peer) []
def Hl(n:Nd)(g:FuncId)(p:aI->Bool)(hm:n.af.length<=1000000)(y:tz.md g=0)(hc:∀x∈n.af,aS tz ay 0 g [.agg (ax x)]=some (aR (p x),[])):aS tz ay 0 186 [.agg (aT n),.c (.bF g [])]=some (E9 ((n.af.filter p).map (·.peer))):=by
 have⟨l,B⟩:=eg n.af;have G:n.dr.ai.af=l:=B;rw[B]at hm hc|-;obtain⟨⟨N,O⟩,f⟩:∃v,E9 ((l.filter p).map (·.peer))=v:=⟨_,rfl⟩;rw[f];refine be func186 rfl ?_;simp[-dI,f186,underlying59,aT,G];refine iy (fun q:Nat×ab=>[(12,aa l.length),(13,aa q.1),(11,bh (l.map ax)),(1,.c (.bF g [])),(5,.c q.2)]) (fun q H=>q.1<=l.length/\abq H q.2 ((l.take q.1).filter p)) (fun q=>l.length-q.1) ?_ (0,eW) (by simp) ⟨by simp,.inl ⟨by simp,rfl⟩⟩ fun _=>rfl;rintro⟨k,J⟩ e H ⟨i,j,s,t,m,_⟩ ⟨C,a⟩;simp only at i j s t m C a;by_cases r:k<l.length
 .have z:l.take (k+1)=l.take k++[l[k]]:=jC r;have A:adW.wrap ((k:Int)+1)=((k+1:Nat):Int):=cv (by omega);have d:=hc _ (aix r);have⟨x,u⟩:=eg l[k];rw[u]at d z;simp only[ax]at d;have⟨F,o⟩:=eg ((l.take k).filter p);rw[o]at a
  have P:F.length<=1000000:=by
   have K:=aiq p (l.take k);have C:(l.take k).length<=k:=by simp;omega
   rw[o]at K;omega
  cases hp:p x with
  |false=>
   rw[hp]at d;have w:(l.take (k+1)).filter p=F:=by rw[z,ajl,o];simp[hp]
   simp[-dI,i,j,s,t,m,r,u,ax,y,d,A];refine⟨k+1,by omega,J,⟨by simp,rfl⟩,by omega,?_⟩;rw[w];rcases a with⟨a,b⟩|⟨a,b⟩
   .exact .inl ⟨a,b⟩
   .exact .inr ⟨a,b.aK fun _ _ _ _ h=>aV h⟩
  |true=>
   rw[hp]at d;have w:(l.take (k+1)).filter p=F++[x]:=by rw[z,ajl,o];simp[hp]
   rcases a with⟨a,rfl⟩|⟨a,D,E,rfl,b⟩
   .subst a;simp[-dI,i,j,s,t,m,r,u,ax,y,d,A];refine⟨k+1,by omega,_,⟨by simp,rfl⟩,by omega,?_⟩;rw[w];refine .inr ⟨by simp,_,_,rfl,?_⟩;simp[aC]
   .have Q:=bf b;simp at b;simp[-dI,i,j,s,t,m,r,u,ax,y,d,A,aV b,show F.length+1<=maxLen/\(F.length+1)*8<=140737488355328 from⟨by unfold maxLen;omega,by omega⟩];refine⟨k+1,by omega,_,⟨by simp,rfl⟩,by omega,?_⟩;rw[w];refine .inr ⟨by simp,D,E+1,by simp,?_⟩;rw[ba (aV b)];simp
 .obtain rfl:k=l.length:=by omega
  simp only[aiF]at a;have⟨F,o⟩:=eg (l.filter p);rw[o]at a f;rcases a with⟨a,rfl⟩|⟨a,D,E,rfl,b⟩
  .simp[E9,a]at f;obtain⟨rfl,rfl⟩:=f;simp[i,j,m]
  .have L:F.map (fun x=>x.peer)≠ []:=by simpa using a
   simp only[E9,if_neg L,cw,aca]at f;obtain⟨rfl,rfl⟩:=f;simp at b;have M:bA (F.map fun x=>[I x.peer])=true:=jg _ (fun _=>rfl) F;simp[i,j,m,b,M]
def M2(n:Nd)(hm:n.af.length<=1000000):aS tz ay 0 113 [.agg (aT n)]=some (E9 (jY n)):=by
 have h:=Hl n 74 nR hm (by simp) (fun x _=>Nu x);have⟨l,a⟩:=eg ((n.af.filter nR).map (·.peer));rw[jY];rw[a]at h|-;simp only[aT,aG]at h;by_cases hn:l=[]
 .have e:E9 l=(.c eW,[]):=by simp[E9,hn]
  rw[e]at h|-;refine be func113 rfl ?_;simp[f113,aT,bK,bV,bR,h]
 .have e:E9 l=cw l:=by simp[E9,hn]
  rw[e]at h|-;simp only[cw]at h|-;refine be func113 rfl ?_;simp[f113,aT,bK,bV,bR,h,bi]
def BE(l:List Int)(a:l.length<=100000):aS tz ay 0 112 [.c (aG l),.c eW]=some (aR (kZ l []),[]):=by refine be func112 rfl ?_;have:=EH (rn l) (b:= .c eW) (m:=[]) rfl a (by simp);simp[f112,bi,aG,this,cw,underlying30,kZ];cases gJ l []<;>rfl
def MS(n:Nd)(k:cj)(hm:n.af.length<=1000000)(i:n.known.length<=1000000):aS tz ay 0 180 [.agg (aT n),.agg (aW k)]=some (aR (ju n k),[]):=by
 refine be func180 rfl ?_;have c:=ED n k.peer (by unfold maxLen;omega);have a:=xL (g:=252) (caps:=[.aJ [aW k] 0 0]) n.af (by unfold maxLen;omega) (fun x=>decide (x.peer=k.peer)) (by simp) (by simp[aW]) (bK _) (fun x _=>by have:=XP x k;simp[ax,aW]at this;simp[ax,aW,this])
 simp only[aT,aG,aW]at c a;have f:n.af=n.dr.ai.af:=rfl;rw[f]at a;have⟨h,e⟩:=eg (gR n.known k.peer);rw[e]at c;cases c1:n.dr.ai.af.any (fun x=>decide (x.peer=k.peer))with
 |true=>rw[c1]at a;simp[f180,aT,aW,a,bK];simp[ju,cJ,c1]
 |false=>
  rw[c1]at a;have d:cJ n.dr.ai.af k.peer=false:=c1;by_cases c2:k.peer<0
  .have b:¬0<=k.peer:=by omega
   simp[f180,aT,aW,a,bK,b];simp[ju,d,c2]
  have b:0<=k.peer:=by omega
  by_cases c3:k.peer<n.dr.ai.id
  case neg=>simp[f180,aT,aW,a,bK,b,c3];simp[ju,d,c2,c3]
  by_cases c4:k.aP>h
  case neg=>simp[f180,aT,aW,a,bK,bV,bR,c,b,c3,c4];simp[ju,d,c2,c3,c4,e]
  by_cases c5:k.aP<=65535;all_goals simp[f180,aT,aW,a,bK,bV,bR,c,b,c3,c4,c5];simp[ju,d,c2,c3,c4,c5,e]
def VS(x k:cj):aS tz ay 0 253 [.agg (aW x),.c (.aJ [aW k] 0 0)]=some (aR (decide (x.peer=k.peer)),[]):=by refine be func253 rfl ?_;simp[f253,aW]
def ahi(n:Nd)(k:cj)(hm:n.af.length<=1000000)(a:n.known.length<=1000000):aS tz ay 0 179 [.agg (aW k),.c (.aJ [aT n] 0 0)]=some (aR (!ju n k),[]):=by refine be func179 rfl ?_;have h:=MS n k hm a;simp only[aT,aG,aW]at h;simp[f179,aW,aT,bK,bV,bR,h]
def aaK(n:Nd)(x:aI)(d:n.known.length<=1000000):aS tz ay 0 176 [.agg (ax x),.c (.aJ [aT n] 0 0)]=some (aR (lU n x),[]):=by
 refine be func176 rfl ?_;have h:=ED n x.peer (by unfold maxLen;omega);have⟨b,a⟩:=eg (gR n.known x.peer);rw[a]at h;simp only[aT,aG]at h;by_cases c1:x.peer>=64
 .by_cases d1:x.state=1;all_goals simp[f176,ax,aT,c1,d1];simp[lU,c1]
 have e:x.peer<64:=by omega
 by_cases c2:x.aP<1
 .by_cases d1:x.state=1;all_goals simp[f176,ax,aT,c1,c2,d1];simp[lU,c2]
 by_cases c3:b=x.aP
 case neg=>by_cases d1:x.state=1;all_goals simp[f176,ax,aT,h,c1,c2,c3,d1,bK,bV,bR];simp[lU,a,c3]
 by_cases d1:x.state=1
 .by_cases c4:x.peer<n.dr.ai.id
  .simp[f176,ax,aT,h,c1,c2,c3,c4,d1,bK,bV,bR];simp[lU,d1,c4]
  .simp[f176,ax,aT,h,c1,c2,c3,c4,d1,bK,bV,bR];simp[lU,a,c1,c2,c3,c4]
 by_cases d2:x.state=3
 .by_cases c4:x.peer<n.dr.ai.id
  .simp[f176,ax,aT,h,c1,c2,c3,c4,d2,bK,bV,bR];simp[lU,d2,c4]
  .simp[f176,ax,aT,h,c1,c2,c3,c4,d2,bK,bV,bR];simp[lU,a,c1,c2,c3,c4]
 .simp[f176,ax,aT,h,c1,c2,c3,d1,d2,bK,bV,bR];simp[lU,a,c1,c2,c3,d1,d2]
def oE(a:Int)(k:cj):Bool:=decide (k.peer>a)&&decide (k.peer<64)&&decide (k.aP>=1)&&decide (k.aP<=65535)
def apB(k:cj)(b:Int)(h:Nat)(H:List Ob)(a:H[h]?=some (ah 1 [[I b]])):bB tz (ev tz) 177 [.agg (aW k),au h] H=some (aR (!oE b k),H.set h (ah 1 [[I k.peer]])):=by
 refine tM func177 rfl ?_;by_cases c1:k.peer>b
 case neg=>simp[f177,aW,a,oE,c1]
 by_cases c2:k.peer<64
 case neg=>simp[f177,aW,a,oE,c1,c2]
 by_cases c3:k.aP>=1
 case neg=>simp[f177,aW,a,oE,c1,c2,c3]
 by_cases c4:k.aP<=65535
 .simp[f177,aW,a,oE,c1,c2,c3,c4]
 .simp[f177,aW,a,oE,c1,c2,c3,c4]
def RJ(l:List cj)(hm:l.length<=1000000):aS tz ay 0 181 [bh (l.map aW)]=some (aR (kN [] l),[]):=by
 refine be func181 rfl ?_;simp[f181,underlying68];refine iy (fun k:Nat=>[(6,aa l.length),(7,aa k),(5,bh (l.map aW)),(0,bh (l.map aW))]) (fun k _=>k<=l.length/\kN [] l=kN (l.take k) (l.drop k)) (fun k=>l.length-k) ?_ 0 (by simp) (by simp) fun _=>rfl;rintro k e H ⟨d,f,j,m,_⟩ ⟨n,a⟩;by_cases c:k<l.length
 .have p:l.drop k=l[k]::l.drop (k+1):=agO c;have q:l.take (k+1)=l.take k++[l[k]]:=jC c;have r:adW.wrap ((k:Int)+1)=((k+1:Nat):Int):=cv (by omega);rw[p]at a;simp only[kN]at a;rw[<-q]at a;have b:=Qg (g:=253) (caps:=[.aJ [aW l[k]] 0 0]) (l.take k) (by unfold maxLen;simp;omega) (fun x=>decide (x.peer=l[k].peer)) (by simp) (by simp[aW]) (bR _) (fun x _=>by have:=VS x l[k];simp[aW]at this;simp[aW,this])
  have⟨x,h⟩:=eg l[k];simp only[h]at b a;simp only[aW]at b;have i:=bR (l.take k);rw[akL]at b i;cases o:(l.take k).any (fun s=>decide (s.peer=x.peer))with
  |true=>rw[o]at b a;simp at a;simp[aW,d,f,j,m,c,h,b,i,n,a]
  |false=>rw[o]at b a;simp at a;simp[aW,d,f,j,m,c,h,r,b,i,n];exact⟨k+1,by omega,by simp,by omega,a⟩
 .simp[d,f,c];rw[a,aiv (by omega)];rfl
def mM(l:List cj)(k:Nat):Int:=match k with
 |0=> -1
 |k+1=>(l[k]?.map (·.peer)).getD (-1)
def MW(l:List cj):∀(r:List cj) (k:Nat),l.drop k=r->k<=l.length->decide (0<=fY (fun k x=>!oE (mM l k) x) k r)=!mL (mM l k) r
 |[],k,h,e=>rfl
 |x::r,k,h,e=>by
  have b:k<l.length:=by
   rcases aj7 k l.length with a|a
   .exact a
   .rw[aiv a]at h;cases h
  have c:l[k]=x/\l.drop (k+1)=r:=by
   rw[agO b]at h
   exact List.cons.inj h
  have f:mM l (k+1)=x.peer:=by simp[mM,b,c.1]
  simp only[fY,mL]
  have g:oE (mM l k) x=(decide (x.peer>mM l k)&&decide (x.peer<64)&&decide (x.aP>=1)&&decide (x.aP<=65535)):=rfl
  rw[<-g]
  by_cases d:oE (mM l k) x=true
  .have:=MW l r (k+1) c.2 (by omega)
   rw[f]at this
   simp only[d,Bool.not_true,aes,if_false,Bool.true_and]
   exact this
  .have i:oE (mM l k) x=false:=by simpa using d
   simp[i]
def abj(n:Nd)(hm:n.af.length<=10000)(i:n.known.length<=1000000)(j:n.told.length<=100000)(c:Nat)(H:List Ob)(hc:H[c]?=some (ah 1 [[I (-1)]])):
  ∃h,bB tz (ev tz) 182 [.agg (aT n),.c (.bF 177 [.ptr c 0 0 0]),.c (.bF 176 [.aJ [aT n] 0 0])] H=some (aR (sj n),h):=by
 have s:=cG (C:=tz) (f:=182) (args:=[.agg (aT n),.c (.bF 177 [.ptr c 0 0 0]),.c (.bF 176 [.aJ [aT n] 0 0])]) (H:=H) (fun r h=>r=aR (sj n)) func182 rfl ?_
 .obtain ⟨r,h,a,rfl⟩:=s
  exact⟨h,a⟩
 have⟨h,a,y⟩:=YU (g:=177) (caps:=[.ptr c 0 0 0]) n.known (by unfold maxLen;omega) (fun k H=>H[c]?=some (ah 1 [[I (mM n.known k)]])) (fun k x=>!oE (mM n.known k) x) (by simp) (fun k i H l=>by
  have:=apB n.known[k] (mM n.known k) c H l
  refine⟨H.set c (ah 1 [[I n.known[k].peer]]),?_,?_⟩
  .rw[dz (f:=177) rfl]
   simpa using this
  .rw[ba l];simp[mM,i]) H hc
 rw[MW n.known n.known 0 rfl (by omega)]at a
 have b:=xL (g:=176) (caps:=[.aJ [aT n] 0 0]) n.af (by unfold maxLen;omega) (lU n) (by simp) (by simp[aT,bK,bV,bR]) (bK _) (fun x _=>by
  have:=aaK n x i
  simp[ax,aT]at this
  simp[ax,aT,this,bK,bV,bR])
 have e:=Cn n.told (by unfold maxLen;omega)
 have d:=Hl n 207 r9 (by omega) (by simp) (fun x _=>BL x)
 have t:n.af=n.dr.ai.af:=rfl
 rw[t]at b
 have u:(n.af.filter r9).map (·.peer)=u9 n:=rfl
 have v:(u9 n).length<=10000:=by
  have:=aiq r9 n.af
  simp only[u9,aio]
  omega
 rw[u]at d
 have⟨m,o⟩:=eg (u9 n)
 simp only[sj,o]
 rw[o]at d v
 have p:=Cd n.told m j (by omega)
 have q:=BE n.told j
 simp only[aT,aG]at b e d p q
 have w:mM n.known 0= -1:=rfl
 rw[w]at a
 by_cases c1:n.dr.ai.id<64
 case neg=>
  simp[f182,aT,c1]
 cases c2:mL (-1) n.known with
 |false=>
  rw[c2]at a
  simp at a
  simp[f182,aT,c1,a]
 |true=>
  rw[c2]at a
  simp at a
  cases c3:n.dr.ai.af.any (lU n)with
  |true=>
   rw[c3]at b
   simp[f182,aT,c1,bK,bV,bR,a,b]
  |false=>
   rw[c3]at b
   cases c4:ek n.told with
   |false=>
    rw[c4]at e
    simp[f182,aT,c1,bK,bV,bR,a,b,e]
   |true=>
    rw[c4]at e
    by_cases c5:m=[]
    .subst c5
     simp only[E9,if_true]at d
     simp[f182,aT,c1,bK,bV,bR,a,b,e,d,q]
    .simp only[E9,if_neg c5,cw]at d
     simp[f182,aT,c1,bK,bV,bR,a,b,e,d,p,bi]
def V3(n:Nd)(hm:n.af.length<=10000)(c:n.known.length<=1000000)(e:n.told.length<=100000)(f:n.asked.length<=1000000):aS tz ay 0 107 [.agg (aT n)]=some (aR (pF n),[]):=by
 refine be func107 rfl ?_;have a:=Qg (g:=179) (caps:=[.aJ [aT n] 0 0]) n.asked (by unfold maxLen;omega) (fun k=>!ju n k) (by simp) (by simp[aT,bK,bV,bR]) (bR _) (fun k _=>by have:=ahi n k (by omega) c;simp[aW,aT]at this;simp[aW,aT,this,bK,bV,bR])
 have b:=RJ n.asked f;have⟨h,d⟩:=abj n hm c e 0 [ah 1 [[I (-1)]]] rfl;simp only[aT,aG]at a d;cases c1:n.asked.any (fun k=>!ju n k)with
 |true=>rw[c1]at a;simp[f107,aT,bK,bV,bR,a];simp[pF,c1]
 |false=>
  rw[c1]at a;cases c2:kN [] n.asked with
  |false=>rw[c2]at b;simp[f107,aT,bK,bV,bR,a,b];simp[pF,c1,c2]
  |true=>rw[c2]at b;simp[f107,aT,bK,bV,bR,a,b,d];simp[pF,c1,c2]
def yq(n:Nd)(s:bW):Bool:=decide (s.state=0)&&!kZ s.need (jY n)
def aeB(n:Nd)(s:bW)(hm:n.af.length<=10000)(b:s.need.length<=100000):aS tz ay 0 188 [.agg (aN s),.c (.aJ [aT n] 0 0)]=some (aR (yq n s),[]):=by
 refine be func188 rfl ?_;have a:=M2 n (by omega);have h:(jY n).length<=10000:=by have:=aiq nR n.af;simp only[jY,aio];omega
 have⟨d,e⟩:=eg (jY n);simp only[yq,e];rw[e]at a h;have f:=Cd s.need d b (by omega);have g:=BE s.need b;simp only[aT,aG]at a f g;by_cases c1:s.state=0
 case neg=>simp[f188,aN,aT,c1]
 by_cases c5:d=[]
 .subst c5;simp only[E9,if_true]at a;simp[f188,aN,aT,bK,bV,bR,c1,a,g]
 .simp only[E9,if_neg c5,cw]at a;simp[f188,aN,aT,bK,bV,bR,c1,a,f,bi]
def ZA(n:Nd)(hm:n.af.length<=10000)(u:iI n.book)(hn:n.dr.need.length<=100000):aS tz ay 0 108 [.agg (aT n)]=some (aR (sU n),[]):=by
 refine be func108 rfl ?_;have d:=Py n;have y:(qV n).length<=10000:=by have:=aiq (fun x:aI=>decide (x.state=3)) n.af;simp only[qV,aio];omega
 have e:=Hl n 184 (fun x=>decide (x.state=3)) (by omega) (by simp) (fun x _=>aeR x);have z:(n.af.filter fun x=>decide (x.state=3)).map (·.peer)=qV n:=rfl;rw[z]at e;have⟨q,v⟩:=eg (qV n);rw[v]at e y;have h:=ad6 (g:=188) (caps:=[.aJ [aT n] 0 0]) n.book.aA (by have:=u.1;unfold maxLen;omega) (yq n) (by simp) (by simp[aT,bK,bV,bR]) (bV _) (fun s f=>by have:=aeB n s hm (u.2 s f);simp[aN,aT]at this;simp[aN,aT,this,bK,bV,bR])
 have⟨o,p⟩:=eg (jZ n.dr.need q);have i:=RA (a:= .c (aG n.dr.need)) (b:= .c (aG q)) (xx _) (xx _) hn (by omega);have j:=RA (a:= .c (aG n.dr.need)) (b:= .c eW) (m:=[]) (xx _) rfl hn (by simp);have C:bA (o.map aC)=true:=bi o;cases f:n.book.aA with
 |nil=>
  have t:bA ([]:List (List ab))=true:=rfl;rw[f]at d h;simp only[sU,f,v,p];simp only[aT,aG,f,aiU]at d e h i j;simp at h;by_cases c2:n.dr.aQ=2
  .rw[c2]at d;simp[f108,aT,f,bK,bR,d,c2]
  by_cases k:n.dr.aQ=0
  case neg=>simp[f108,aT,f,bK,bR,d,c2,k]
  rw[k]at d e h;by_cases c5:q=[]
  .subst c5;simp only[E9,if_true]at e;rw[p]at j;simp only[cw]at j;cases o with
   |nil=>simp[f108,underlying30,aT,f,bK,bR,d,e,h,j,bi,k]
   |cons x r=>simp[f108,underlying30,aT,f,bK,bR,d,e,j,bi,k]
  .simp only[E9,if_neg c5,cw]at e;rw[p]at i;simp only[cw]at i;cases o with
   |nil=>simp[f108,underlying30,aT,f,bK,bR,d,e,h,i,bi,k]
   |cons x r=>simp[f108,underlying30,aT,f,bK,bR,d,e,i,bi,k]
 |cons s r=>
  have t:bA (aN s::r.map aN)=true:=bV (s::r);have l:=zB s.need n.dr.need (by have:=u.2 s (by rw[f];simp);unfold maxLen;omega);rw[f]at d h;simp only[sU,f,v,p];have⟨A,w⟩:=eg ((s::r).any (yq n));rw[w]at h;have B:((s::r).any fun s=>decide (s.state=0)&&!kZ s.need (jY n))=A:=w;rw[B];simp only[aT,aG,aN,f,ag9]at d e h i j t;by_cases c2:n.dr.aQ=2
  .rw[c2]at d e h;by_cases c1:s.state=1
   case neg=>simp[f108,aT,aN,f,bK,bR,bV,d,c2,c1]
   rw[c1]at d e h t;by_cases c3:s.need=n.dr.need
   case neg=>simp[c3]at l;simp[f108,aT,aN,f,bK,bR,bV,d,l,c2,c1,c3]
   rw[c3]at d l e h t;simp at l;by_cases c5:q=[]
   .subst c5;simp only[E9,if_true]at e;rw[p]at j;simp only[cw]at j;cases o with
    |nil=>simp[f108,underlying30,aT,aN,f,bK,bR,bV,d,e,h,j,bi,l,c1,c2,c3]
    |cons x r=>simp[f108,underlying30,aT,aN,f,bK,bR,bV,d,e,j,bi,l,c1,c2,c3]
   .simp only[E9,if_neg c5,cw]at e;rw[p]at i;simp only[cw]at i;cases o with
    |nil=>simp[f108,underlying30,aT,aN,f,bK,bR,bV,d,e,h,i,bi,l,c1,c2,c3]
    |cons x r=>simp[f108,underlying30,aT,aN,f,bK,bR,bV,d,e,i,bi,l,c1,c2,c3]
  .by_cases c1:s.state=1
   .rw[c1]at d;simp[f108,aT,aN,f,bK,bR,bV,d,c2,c1]
   by_cases k:n.dr.aQ=0
   .rw[k]at d e h;by_cases c5:q=[]
    .subst c5;simp only[E9,if_true]at e;rw[p]at j;simp only[cw]at j;cases o with
     |nil=>simp[f108,underlying30,aT,aN,f,bK,bR,bV,d,e,h,j,bi,c1,k]
     |cons x r=>simp[f108,underlying30,aT,aN,f,bK,bR,bV,d,e,j,bi,c1,k]
    .simp only[E9,if_neg c5,cw]at e;rw[p]at i;simp only[cw]at i;cases o with
     |nil=>simp[f108,underlying30,aT,aN,f,bK,bR,bV,d,e,h,i,bi,c1,k]
     |cons x r=>simp[f108,underlying30,aT,aN,f,bK,bR,bV,d,e,i,bi,c1,k]
   .by_cases c3:s.need=n.dr.need
    case neg=>simp[c3]at l;simp[f108,aT,aN,f,bK,bR,bV,d,l,c2,c1,k,c3]
    rw[c3]at d l e h t;simp at l;by_cases c5:q=[]
    .subst c5;simp only[E9,if_true]at e;rw[p]at j;simp only[cw]at j;cases o with
     |nil=>simp[f108,underlying30,aT,aN,f,bK,bR,bV,d,e,h,j,bi,l,c1,c2,k,c3]
     |cons x r=>simp[f108,underlying30,aT,aN,f,bK,bR,bV,d,e,j,bi,l,c1,c2,k,c3]
    .simp only[E9,if_neg c5,cw]at e;rw[p]at i;simp only[cw]at i;cases o with
     |nil=>simp[f108,underlying30,aT,aN,f,bK,bR,bV,d,e,h,i,bi,l,c1,c2,k,c3]
     |cons x r=>simp[f108,underlying30,aT,aN,f,bK,bR,bV,d,e,i,bi,l,c1,c2,k,c3]
structure fu(n:Nd):Prop where
 si:n.dr.ai.af.length<=100
 nd:n.dr.need.length<=1000
 bk:iI n.book
 kn:n.known.length<=100000
 tl:n.told.length<=100000
 aq:n.asked.length<=100000
def EZ(n:Nd)(h:fu n):aS tz ay 0 68 [.agg (aT n)]=some (aa (if dm n then 0 else 180),[]):=by
 refine be func68 rfl ?_;have e:=h.si;have f:=h.nd;have a:=yP n.dr (by unfold maxLen;omega) (by unfold maxLen;omega);have b:=vY n.book h.bk.hm h.bk.hn;have c:=V3 n (by show n.dr.ai.af.length<=_;omega) (by have:=h.kn;omega) (by have:=h.tl;omega) (by have:=h.aq;omega);have d:=ZA n (by show n.dr.ai.af.length<=_;omega) h.bk (by omega);simp only[aT,cU,bO,aG]at a b c d;cases c1:dC n.dr with
 |false=>simp[c1]at a;simp[f68,aT,bK,a,dm,c1]
 |true=>
  simp[c1]at a;cases c2:cN n.book with
  |false=>simp[c2]at b;simp[f68,aT,bK,bV,a,b,dm,c1,c2]
  |true=>
   simp[c2]at b;cases c3:pF n with
   |false=>rw[c3]at c;simp[f68,aT,bK,bV,bR,a,b,c,dm,c1,c2,c3]
   |true=>
    rw[c3]at c;cases c4:sU n with
    |false=>rw[c4]at d;simp[f68,aT,bK,bV,bR,a,b,c,d,dm,c1,c2,c3,c4]
    |true=>rw[c4]at d;simp[f68,aT,bK,bV,bR,a,b,c,d,dm,c1,c2,c3,c4]
def pU(n:Nd):aw×List Ob:=(.agg [I n.dr.ai.id,I n.dr.ai.phase,.sl 0 0 0 n.dr.ai.af.length,I n.dr.aQ,aG n.dr.need,I n.book.last,.sl 1 0 0 n.book.aA.length,.sl 2 0 0 n.known.length,aG n.told,.sl 3 0 0 n.asked.length],[ah 8 (n.dr.ai.af.map ax),ah 4 (n.book.aA.map aN),ah 2 (n.known.map aW),ah 2 (n.asked.map aW)])
def zw(n:Nd)(h:fu n):aS tz ay 0 67 [.agg (aT n)]=some (pU n):=by
 unfold pU;refine be func67 rfl ?_;have j:=yZ (a:= .aj (n.dr.ai.af.map ax)) (l:=n.dr.ai.af) rfl (by have:=h.si;omega);have c:=uF (a:= .aj (n.dr.need.map aC)) (l:=n.dr.need) rfl (by have:=h.nd;omega);have m:=uF (a:= .aj (n.told.map aC)) (l:=n.told) rfl (by have:=h.tl;omega);have o:=p46 (a:= .aj (n.known.map aW)) (l:=n.known) rfl (by have:=h.kn;omega);have p:=p46 (a:= .aj (n.asked.map aW)) (l:=n.asked) rfl (by have:=h.aq;omega);have q:=OV (a:= .aj (n.book.aA.map aN)) (l:=n.book.aA) rfl (by have:=h.bk.1;omega);simp[f67,underlying65,aT,j,c,m,o,p,q,bK,bV,bR];refine iy (fun k:Nat=>[(39,aa n.book.aA.length),(40,aa k),(1,au 0),(2,au 1)]) (fun k H=>k<=n.book.aA.length/\H=[ah 10 [[I n.dr.ai.id,I n.dr.ai.phase,.sl 2 0 0 n.dr.ai.af.length,I n.dr.aQ,aG n.dr.need,I n.book.last,.sl 5 0 0 n.book.aA.length,.sl 3 0 0 n.known.length,aG n.told,.sl 4 0 0 n.asked.length]],ah 10 [[I 0,I 0,eW,I 0,eW,I 0,eW,eW,eW,eW]],ah 8 (n.dr.ai.af.map ax),ah 2 (n.known.map aW),ah 2 (n.asked.map aW),ah 4 (n.book.aA.map aN)]) (fun k=>n.book.aA.length-k) ?_ 0 (by simp) (by simp[aG]) fun _=>rfl;rintro k e H ⟨d,f,g,i,_⟩ ⟨u,r⟩;subst r;by_cases b:k<n.book.aA.length
 .have s:adW.wrap ((k:Int)+1)=((k+1:Nat):Int):=cv (by have:=h.bk.hm;unfold maxLen at this;omega);have c:=uF (a:= .aj (n.book.aA[k].need.map aC)) (l:=n.book.aA[k].need) rfl (by have:=h.bk.2 _ (aix b);omega);have t:(n.book.aA.map aN).set k [I n.book.aA[k].id,.aj (n.book.aA[k].need.map aC),I n.book.aA[k].state,I n.book.aA[k].cH]=n.book.aA.map aN:=ja (by simpa using b) (by simp[aN]);simp[d,f,g,i,b,s,c,aN,t];exact⟨k+1,by omega,by simp,by omega⟩
 .simp[d,f,g,i,b,bK,bV,bR]
def adm(a b:Nd)(h:fu a):aS tz ay 0 130 [.agg (aT a),.agg (aT b)]=some (aR (decide (a=b)),[]):=by
 have c:=M9 a.dr b.dr (by have:=h.si;unfold maxLen;omega) (by have:=h.nd;unfold maxLen;omega);have d:=YQ a.book b.book h.bk;have e:=RZ a.known b.known (by have:=h.kn;unfold maxLen;omega);have g:=RZ a.asked b.asked (by have:=h.aq;unfold maxLen;omega);have f:=zB a.told b.told (by have:=h.tl;unfold maxLen;omega);have⟨i,j,k,l,m⟩:=a;have⟨n,o,p,q,r⟩:=b;simp only at c d e g f;simp only[cU,bO,aG]at c d;refine be func130 rfl ?_;by_cases c1:i=n
 case neg=>simp[c1]at c;simp[f130,aT,bK,c,c1]
 subst c1;simp at c;by_cases c2:j=o
 case neg=>simp[c2]at d;simp[f130,aT,bK,bV,c,d,c2]
 subst c2;simp at d;by_cases c3:k=p
 case neg=>simp[c3]at e;simp[f130,aT,bK,bV,bR,c,d,e,c3]
 subst c3;simp at e;by_cases c4:l=q
 case neg=>simp[c4]at f;simp[f130,aT,bK,bV,bR,c,d,e,f,c4]
 subst c4;simp at f;by_cases c5:m=r
 case neg=>simp[c5]at g;simp[f130,aT,bK,bV,bR,c,d,e,f,g,c5]
 subst c5;simp at g;simp[f130,aT,bK,bV,bR,c,d,e,f,g]
section
variable{H x:List Ob}{b:Nat}{ra:List (List ab)}{w:Wk}
def oe{z m v:Nat}{row r:List (List ab)}(a:H[b]?=some (ah 13 row))(c:z≠13)(y:Ob)(h:H[m]?=some (.live v z r)):((H++x).set b y)[m]?=some (.live v z r):=by
 have hm:b≠m:=fun e=>by subst e;rw[a]at h;cases h;exact c rfl
 rw[aat hm];exact aV h
def yc{a z c m v d:Nat}{row r:List (List ab)}(f:H[b]?=some (ah 13 row))(g:H[a]?=some (.live d c ra))(i:z≠13)(j:z≠c\/m≠a)(k l:Ob)(h:H[m]?=some (.live v z r)):(((H++x).set a k).set b l)[m]?=some (.live v z r):=by
 have hm:b≠m:=fun e=>by subst e;rw[f]at h;cases h;exact i rfl
 have n:a≠m:=fun e=>by
  subst e;rw[g]at h;cases h;rcases j with h|h
  .exact h rfl
  .exact h rfl
 rw[aat hm,aat n];exact aV h
def Ie{row row':List ab}(a:H[b]?=some (ah 13 [row]))(c:∀m∈eu row',m∈eu row\/H.length<=m):bq b H ((H++x).set b (ah 13 [row'])):=
 bq.bH a (ba (aV a)) (by simp) c (fun m o d e f=>by rw[aat (ait e)];exact aV d)
def An{a f g:Nat}{row c:List ab}(d:H[b]?=some (ah 13 [row]))(p:H[a]?=some (.live g f ra))(h:a≠b)(i:a∈eu row)(j:∀m∈eu c,m∈eu row\/H.length<=m)(y:Ob):bq b H (((H++x).set a y).set b (ah 13 [c])):=
 bq.bH d (ba (by rw[aat h];exact aV d)) (by simp) j (fun m o k l n=>by
  rw[aat (ait l),aat (fun e=>n (by subst e;exact i))];exact aV k)
theorem zW{sl q s u E se:ab}(h:cF H b w sl q s u E se)(x:aI)(k:Int)(M:w.out.length<=100000):
  ∃i,bB tz (ev tz) 266 [au b,.agg (ax x),aa k] H=some (.aM [],i)/\(∃F G,cF i b (w.send x k) sl q s u F G)/\bq b H i:=by
 have⟨a,⟨t,y⟩,A,B,C,I,j,d1,d2⟩:=h
 refine gj func266 rfl ?_
 have N:=bf a
 have O:=a
 simp only[bM]at a
 rcases I with⟨l,rfl⟩|⟨d,D,rfl,c⟩
 .simp at l
  simp[f266,a,aV a,ax]
  refine⟨⟨.sl (H.length+1) 0 0 1,se,?_,⟨t,y.aK fun _ _ _ _ h=>oe a (by decide) _ h⟩,A.aK fun _ _ _ _ h=>oe a (by decide) _ h,B.aK fun _ _ _ _ h=>oe a (by decide) _ h,C.aK fun _ _ _ _ h=>oe a (by decide) _ h,.inr ⟨H.length+1,0,?_,?_⟩,j.aK fun _ _ _ _ h=>oe a (by decide) _ h,d1,?_⟩,?_⟩
  .rw[ba (aV a)];rfl
  .simp[Wk.send,l]
  .rw[aat (by omega),jh]
   simp[Wk.send,l,ft,dW]
  .intro m hm n
   have:=j.lt m n
   simp[rf]at hm
   omega
  .refine Ie a fun m hm=>?_
   simp[eu,rf,aG]at hm|-
   grind
 .have g:d≠b:=fun e=>by subst e;rw[a]at c;cases c
  have P:=bf c
  simp only[aeU]at c
  simp[f266,a,g,aV a,aV c,ax,show w.out.length+1<=maxLen/\(w.out.length+1)*40<=140737488355328 from⟨by unfold maxLen;omega,by omega⟩]
  have f:∀(o p:Ob) (x:List Ob) (m v z:Nat) (r:List (List ab)),z≠13->z≠5\/m≠d->H[m]?=some (.live v z r)->(((H++x).set d o).set b p)[m]?=some (.live v z r):=fun o p x m v z r J K L=>yc a c J K o p L
  refine⟨⟨.sl d (D+1) 0 (w.out.length+1),se,?_,⟨t,y.aK fun _ _ _ _ h=>f _ _ _ _ _ _ _ (by decide) (.inl (by decide)) h⟩,A.aK fun _ _ _ _ h=>f _ _ _ _ _ _ _ (by decide) (.inl (by decide)) h,B.aK fun _ _ _ _ h=>f _ _ _ _ _ _ _ (by decide) (.inl (by decide)) h,C.aK fun _ _ _ _ h=>f _ _ _ _ _ _ _ (by decide) (.inl (by decide)) h,.inr ⟨d,D+1,?_,?_⟩,j.aK fun m _ _ hm h=>f _ _ _ _ _ _ _ (by decide) (.inr fun e=>d2 d (by simp[rf]) (by subst e;exact hm)) h,d1,?_⟩,?_⟩
  .rw[ba (by rw[aat g];exact aV a)];rfl
  .simp[Wk.send]
  .rw[aat (ait g),ba (aV c)]
   simp[Wk.send,ft,dW]
  .intro m hm n
   simp[rf]at hm
   exact d2 m (by simp[rf,hm]) n
  .refine An a c g (by simp[eu,rf]) (fun m hm=>?_) _
   simp[eu,rf,aG]at hm|-
   grind
def apr(h:bX H b w)(x:aI)(k:Int)(c:w.out.length<=100000):
  ∃a,bB tz (ev tz) 266 [au b,.agg (ax x),aa k] H=some (.aM [],a)/\bX a b (w.send x k)/\bq b H a:=by
 have⟨sl,d,f,i,n,se,h⟩:=h
 have⟨a,e,⟨j,l,g⟩,m⟩:=zW h x k c
 exact⟨a,e,⟨sl,d,f,i,j,l,g⟩,m⟩
theorem Fo{f:Nat}{w2:Wk}{sl y A B l se:ab}(h:cF H b w sl y A B l se)(k n:Int)(J:f=117/\w2=w.dJ k n\/f=126/\w2=w.ey k n)(C:¬k=0)(Q:w.seen.length<=100000):
  ∃o,bB tz (ev tz) f [au b,aa k,aa n] H=some (.aM [],o)/\(∃K L,cF o b w2 sl y A B K L)/\bq b H o:=by
 rcases J with⟨rfl,rfl⟩|⟨rfl,rfl⟩
 all_goals
  have⟨a,⟨t,D⟩,E,F,G,p,M,d1,d2⟩:=h
  refine gj (by first|exact func117|exact func126) rfl ?_
  have R:=bf a
  have S:=a
  simp only[bM]at a
  rcases M with⟨q,rfl⟩|⟨d,I,rfl,c⟩
  .simp at q
   simp[f117,f126,a,aV a,aG]
   refine⟨⟨l,.sl (H.length+1) 0 0 1,?_,⟨t,D.aK fun _ _ _ _ h=>oe a (by decide) _ h⟩,E.aK fun _ _ _ _ h=>oe a (by decide) _ h,F.aK fun _ _ _ _ h=>oe a (by decide) _ h,G.aK fun _ _ _ _ h=>oe a (by decide) _ h,p.aK fun _ _ _ _ h=>oe a (by decide) _ h,.inr ⟨H.length+1,0,?_,?_⟩,d1,?_⟩,?_⟩
   .rw[ba (aV a)];rfl
   .simp[Wk.dJ,Wk.ey,q]
   .rw[aat (by omega),jh]
    simp[C,Wk.dJ,Wk.ey,q,gw]
   .intro m hm i
    have:=p.lt m hm
    simp[rf]at i
    omega
   .refine Ie a fun m hm=>?_
    simp[eu,rf,aG]at hm|-
    grind
  .have j:d≠b:=fun e=>by subst e;rw[a]at c;cases c
   have T:=bf c
   simp only[aeU]at c
   simp[f117,f126,a,j,aV a,aV c,aG,show w.seen.length+1<=maxLen/\(w.seen.length+1)*56<=140737488355328 from⟨by unfold maxLen;omega,by omega⟩]
   have g:∀(s u:Ob) (x:List Ob) (m v z:Nat) (r:List (List ab)),z≠13->z≠5\/m≠d->H[m]?=some (.live v z r)->(((H++x).set d s).set b u)[m]?=some (.live v z r):=fun s u x m v z r N O P=>yc a c N O s u P
   refine⟨⟨l,.sl d (I+1) 0 (w.seen.length+1),?_,⟨t,D.aK fun _ _ _ _ h=>g _ _ _ _ _ _ _ (by decide) (.inl (by decide)) h⟩,E.aK fun _ _ _ _ h=>g _ _ _ _ _ _ _ (by decide) (.inl (by decide)) h,F.aK fun _ _ _ _ h=>g _ _ _ _ _ _ _ (by decide) (.inl (by decide)) h,G.aK fun _ _ _ _ h=>g _ _ _ _ _ _ _ (by decide) (.inl (by decide)) h,p.aK fun m _ _ hm h=>g _ _ _ _ _ _ _ (by decide) (.inr fun e=>d2 m hm (by subst e;simp[rf])) h,.inr ⟨d,I+1,?_,?_⟩,d1,?_⟩,?_⟩
   .rw[ba (by rw[aat j];exact aV a)];rfl
   .simp[Wk.dJ,Wk.ey]
   .rw[aat (ait j),ba (aV c)]
    simp[C,Wk.dJ,Wk.ey,gw]
   .intro m hm i
    simp[rf]at i
    exact d2 m hm (by simp[rf,i])
   .refine An a c j (by simp[eu,rf]) (fun m hm=>?_) _
    simp[eu,rf,aG]at hm|-
    grind
def xn(h:bX H b w)(k c:Int)(d:¬k=0)(f:w.seen.length<=100000):
  ∃a,bB tz (ev tz) 117 [au b,aa k,aa c] H=some (.aM [],a)/\bX a b (w.dJ k c)/\bq b H a:=by
 have⟨sl,i,j,l,p,se,h⟩:=h
 have⟨a,e,⟨m,n,g⟩,o⟩:=Fo h k c (.inl ⟨rfl,rfl⟩) d f
 exact⟨a,e,⟨sl,i,j,l,m,n,g⟩,o⟩
def HU(h:bX H b w)(k c:Int)(d:¬k=0)(f:w.seen.length<=100000):
  ∃a,bB tz (ev tz) 126 [au b,aa k,aa c] H=some (.aM [],a)/\bX a b (w.ey k c)/\bq b H a:=by
 have⟨sl,i,j,l,p,se,h⟩:=h
 have⟨a,e,⟨m,n,g⟩,o⟩:=Fo h k c (.inr ⟨rfl,rfl⟩) d f
 exact⟨a,e,⟨sl,i,j,l,m,n,g⟩,o⟩
end
section
variable{H0 H:List Ob}{b:Nat}{w:Wk}
theorem zg{H:List Ob}{b:Nat}{w:Wk}(h:bX H b w)(d:Bool)(e:Int):
  ∃g,bB tz (ev tz) 72 [au b,aR d,aa e] H=some (aR (decide ((w.need d e).e=0)),g)/\bX g b (w.need d e)/\bq b H g/\∀m,m≠b->g[m]?=H[m]?:=by
 have⟨sl,i,j,k,l,se,a,⟨t,o⟩,p,q,s,u,A,d1,d2⟩:=h
 refine gj func72 rfl ?_
 have E:=bf a
 have B:=a
 simp only[bM]at a
 by_cases c1:w.e=0
 .cases d with
  |true=>
   have f:w.need true e=w:=by simp[Wk.need]
   rw[f]
   simp[f72,a,c1]
   exact⟨⟨sl,i,j,k,l,se,B,⟨t,o⟩,p,q,s,u,A,d1,d2⟩,bq.refl _ _⟩
  |false=>
   have f:w.need false e=⟨w.n,w.out,w.seen,e⟩:=by simp[Wk.need,c1]
   rw[f]
   simp[f72,a,c1,ba a]
   have c:∀(y:Ob) (m v z:Nat) (r:List (List ab)),z≠13->H[m]?=some (.live v z r)->(H.set b y)[m]?=some (.live v z r):=fun y m v z r C D=>by
    have:=oe (x:=[]) a C y D
    simpa using this
   refine⟨⟨sl,i,j,k,l,se,?_,⟨t,o.aK fun _ _ _ _ h=>c _ _ _ _ _ (by decide) h⟩,p.aK fun _ _ _ _ h=>c _ _ _ _ _ (by decide) h,q.aK fun _ _ _ _ h=>c _ _ _ _ _ (by decide) h,s.aK fun _ _ _ _ h=>c _ _ _ _ _ (by decide) h,u.aK fun _ _ _ _ h=>c _ _ _ _ _ (by decide) h,A.aK fun _ _ _ _ h=>c _ _ _ _ _ (by decide) h,d1,d2⟩,?_,fun m hm=>aat (ait hm)⟩
   .rw[ba a];rfl
   .have:=Ie (x:=[]) a (row':=bM ⟨w.n,w.out,w.seen,e⟩ sl i j k l se) (fun m hm=>by
     simp[eu,rf,bM,aG]at hm|-
     grind)
    simpa[bM]using this
 .have f:w.need d e=w:=by simp[Wk.need,c1]
  rw[f]
  simp[f72,a,c1]
  exact⟨⟨sl,i,j,k,l,se,B,⟨t,o⟩,p,q,s,u,A,d1,d2⟩,bq.refl _ _⟩
def qA(x:Value):rf (.v x)=[]:=rfl
def rfs(x:List (List ab)):rf (.aj x)=[]:=rfl
def bq.then{x:List Ob}{row a:List ab}(f0:bq b H0 H)(c:H[b]?=some (ah 13 [row]))(h:∀m∈eu a,m∈eu row\/H0.length<=m):bq b H0 ((H++x).set b (ah 13 [a])):=⟨by have:=f0.1;simp;omega,fun m o d e i=>by
 have⟨j,f⟩:=f0.2 m o d e i;rw[c]at f;refine⟨by rw[aat (ait e)];exact aV j,?_⟩;rw[ba (aV c)];intro k;rcases h m k with g|g
 .exact f g
 .have:=bf d;omega⟩
theorem cF.Kr{sl u l y o se:ab}(h:cF H b w sl u l y o se)(f0:bq b H0 H)(x:List Ob)(a:Wk)(d f g:ab)
  (A:(d=sl/\a.n.dr.ai.af=w.n.dr.ai.af)\/((∀m∈rf d,H0.length<=m)/\∃t,gI (H++x) 8 d (a.n.dr.ai.af.map ax) t))
  (B:(f=u/\a.n.book.aA=w.n.book.aA)\/((∀m∈rf f,H0.length<=m)/\kv (H++x) f a.n.book.aA))
  (O:a.n.known=w.n.known) (C:(g=y/\a.n.asked=w.n.asked)\/(g=eW/\a.n.asked=[])) (P:a.out=w.out) (Q:a.seen=w.seen):
  cF ((H++x).set b (ah 13 [bM a d f l g o se])) b a d f l g o se/\bq b H0 ((H++x).set b (ah 13 [bM a d f l g o se])):=by
 have⟨p,⟨t,F⟩,G,I,J,K,L,d1,d2⟩:=h
 have S:=bf p
 have j:∀(m v z:Nat) (r:List (List ab)),z≠13->H[m]?=some (.live v z r)->((H++x).set b (ah 13 [bM a d f l g o se]))[m]?=some (.live v z r):=fun m v z r q k=>oe p q _ k
 have D:∀(z m v:Nat) (r:List (List ab)),z≠13->(H++x)[m]?=some (.live v z r)->((H++x).set b (ah 13 [bM a d f l g o se]))[m]?=some (.live v z r):=fun z m v r q k=>by
  rw[aat (fun e=>by subst e;rw[aV p]at k;cases k;exact q rfl)];exact k
 have M:∀m∈rf d,m∈rf sl\/H0.length<=m:=by
  rcases A with⟨e,_⟩|⟨e,_⟩
  .rw[e];exact fun m hm=> .inl hm
  .exact fun m hm=> .inr (e m hm)
 have N:∀m∈rf f,m∈rf u\/H0.length<=m:=by
  rcases B with⟨e,_⟩|⟨e,_⟩
  .rw[e];exact fun m hm=> .inl hm
  .exact fun m hm=> .inr (e m hm)
 have E:∀m∈rf g,m∈rf y:=by
  rcases C with⟨e,_⟩|⟨e,_⟩
  .rw[e];exact fun m hm=>hm
  .rw[e];intro m hm;simp[rf]at hm
 refine⟨⟨ba (aV p),?_,?_,?_,?_,?_,?_,fun m q k=>d1 m q (E m k),d2⟩,f0.then p fun m hm=>?_⟩
 .rcases A with⟨i,c⟩|⟨i,R,c⟩
  .have s:gI H 8 d (a.n.dr.ai.af.map ax) t:=by rw[i,c];exact F
   exact⟨t,s.aK fun _ _ _ _ h=>j _ _ _ _ (by decide) h⟩
  .exact ⟨R,c.aK fun _ _ _ hm h=>D _ _ _ _ (by decide) h⟩
 .rcases B with⟨i,c⟩|⟨i,c⟩
  .have s:kv H f a.n.book.aA:=by rw[i,c];exact G
   exact s.aK fun _ _ _ _ h=>j _ _ _ _ (by decide) h
  .exact c.aK fun _ _ _ hm h=>D _ _ _ _ (by decide) h
 .rw[O];exact I.aK fun _ _ _ _ h=>j _ _ _ _ (by decide) h
 .rcases C with⟨i,c⟩|⟨i,c⟩
  .have s:lB H 2 g (a.n.asked.map aW):=by rw[i,c];exact J
   exact s.aK fun _ _ _ _ h=>j _ _ _ _ (by decide) h
  .rw[i,c];exact .inl ⟨rfl,rfl⟩
 .rw[P];exact K.aK fun _ _ _ _ h=>j _ _ _ _ (by decide) h
 .rw[Q];exact L.aK fun _ _ _ _ h=>j _ _ _ _ (by decide) h
 .simp only[eu,bM,aiz,ajn,ain,qA,rfs,aG]at hm|-
  have T:=M m
  have U:=N m
  have V:=E m
  clear j D M N E F G I J K L d1 d2 A B C p
  simp at hm|-
  grind
def cF.vl{sl i f j g se:ab}(h:cF H b w sl i f j g se)(f0:bq b H0 H)(x:List Ob)(a:Wk)(c d e:ab)
  (k:(c=sl/\a.n.dr.ai.af=w.n.dr.ai.af)\/((∀m∈rf c,H0.length<=m)/\∃t,gI (H++x) 8 c (a.n.dr.ai.af.map ax) t))
  (l:(d=i/\a.n.book.aA=w.n.book.aA)\/((∀m∈rf d,H0.length<=m)/\kv (H++x) d a.n.book.aA))
  (o:a.n.known=w.n.known) (p:(e=j/\a.n.asked=w.n.asked)\/(e=eW/\a.n.asked=[])) (q:a.out=w.out) (s:a.seen=w.seen):
  bX ((H++x).set b (ah 13 [bM a c d f e g se])) b a/\bq b H0 ((H++x).set b (ah 13 [bM a c d f e g se])):=
 have r:=h.Kr f0 x a c d e k l o p q s
 ⟨⟨_,_,_,_,_,_,r.1⟩,r.2⟩
def cF.xX{sl i f j g se:ab}(h:cF H b w sl i f j g se)(x:List Ob)(a:Wk)(c d e:ab)
  (k:(c=sl/\a.n.dr.ai.af=w.n.dr.ai.af)\/((∀m∈rf c,H.length<=m)/\∃t,gI (H++x) 8 c (a.n.dr.ai.af.map ax) t))
  (l:(d=i/\a.n.book.aA=w.n.book.aA)\/((∀m∈rf d,H.length<=m)/\kv (H++x) d a.n.book.aA))
  (o:a.n.known=w.n.known) (p:(e=j/\a.n.asked=w.n.asked)\/(e=eW/\a.n.asked=[])) (q:a.out=w.out) (r:a.seen=w.seen):
  bX ((H++x).set b (ah 13 [bM a c d f e g se])) b a/\bq b H ((H++x).set b (ah 13 [bM a c d f e g se])):=
 h.vl (bq.refl b H) x a c d e k l o p q r
def cF.at{sl a c d e se:ab}(h:cF H b w sl a c d e se):bX H b w:=⟨sl,a,c,d,e,se,h⟩
end
def oQ(n:Nd)(a:ab):List ab:=[I n.dr.ai.id,I n.dr.ai.phase,.aj (n.dr.ai.af.map ax),I n.dr.aQ,aG n.dr.need,I n.book.last,.aj (n.book.aA.map aN),.aj (n.known.map aW),aG n.told,a]
def rZ(n:Nd)(a:ab):Prop:=a= .aj (n.asked.map aW)
def v8(n:Nd)(a:ab)(h:rZ n a):aS tz ay 0 119 [.agg (oQ n a)]=some (match n.book.aA with|[]=> .aM [.agg [I 0,.aj [],I 0,I 0],aR false]|s::_=> .aM [.agg (aN s),aR true],[]):=by rw[h];exact Py n
def Vq(n:Nd)(a:ab)(b:rZ n a)(h:fu n):aS tz ay 0 67 [.agg (oQ n a)]=some (pU n):=by rw[b];exact zw n h
def ac5(a b:Nd)(c:ab)(d:rZ b c)(h:fu a):aS tz ay 0 130 [.agg (aT a),.agg (oQ b c)]=some (aR (decide (a=b)),[]):=by rw[d];exact adm a b h
theorem gI.view{H:List Ob}{z:Nat}{a:ab}{rows t:List (List ab)}(h:gI H z a rows t)(b:bA rows=true):bU H 6 a=some (.aj rows,[z]):=by obtain⟨d,e,rfl,c⟩:=h;have:(rows++t).take rows.length=rows:=ai8 rfl;simp[c,this,b]
theorem lB.view{H:List Ob}{z:Nat}{a:ab}{rows:List (List ab)}(h:lB H z a rows)(b:bA rows=true):(bU H 6 a=some (eW,[])/\rows=[])\/bU H 6 a=some (.aj rows,[z]):=by
 rcases h with⟨c,rfl⟩|h
 .exact .inl ⟨rfl,c⟩
 .exact .inr (h.view b)
theorem kv.view{H:List Ob}{a:ab}{l:List bW}(h:kv H a l):bU H 6 a=some (.aj (l.map aN),[])\/bU H 6 a=some (.aj (l.map aN),[4]):=by
 rcases h with rfl|h
 .left;simp[bU,bV]
 .exact .inr (h.view (bV l))
def uB(a:List Nat):Prop:=a=[8,2]\/a=[8,4,2]\/a=[8,2,2]\/a=[8,4,2,2]
theorem cF.view{H:List Ob}{b:Nat}{w:Wk}{sl g i j p se:ab}(h:cF H b w sl g i j p se):∃k m,r7 H [.agg [I w.n.dr.ai.id,I w.n.dr.ai.phase,sl,I w.n.dr.aQ,aG w.n.dr.need,I w.n.book.last,g,i,aG w.n.told,j]]=some ([.agg (oQ w.n k)],m)/\rZ w.n k/\uB m:=by
 have⟨t,q⟩:=h.hs;have d:=q.view (bK _);have e:=h.hk.view (bR _);have a:=h.db.view;have c:=h.ha.view (bR _);have vI:∀n:Int,bU H 6 (I n)=some (I n,[]):=fun _=>rfl;have f:∀l:List Int,bU H 6 (.aj (l.map aC))=some (.aj (l.map aC),[]):=fun l=>by simp[bi]
 rcases a with a|a<;>rcases c with⟨c,o⟩|c
 .exact ⟨.aj [],[8,2],by simp[r7,df,eX,d,e,a,c,vI,f,oQ,-bU],by rw[rZ,o],by simp[uB]⟩
 .exact ⟨_,[8,2,2],by simp[r7,df,eX,d,e,a,c,vI,f,oQ,-bU],rfl,by simp[uB]⟩
 .exact ⟨.aj [],[8,4,2],by simp[r7,df,eX,d,e,a,c,vI,f,oQ,-bU],by rw[rZ,o],by simp[uB]⟩
 .exact ⟨_,[8,4,2,2],by simp[r7,df,eX,d,e,a,c,vI,f,oQ,-bU],rfl,by simp[uB]⟩
def qJ{H:List Ob}{b:Nat}{w:Wk}{sl d e g j se:ab}(h:cF H b w sl d e g j se){f:FuncId}{r:aw}{own:List Ob}(i:tz.md f=0)
  (hp:∀a,rZ w.n a->aS tz ay 0 f [.agg (oQ w.n a)]=some (r,own)) (k:∀c,uB c->ei false c r own=true):
  aO tz ay f [.agg [I w.n.dr.ai.id,I w.n.dr.ai.phase,sl,I w.n.dr.aQ,aG w.n.dr.need,I w.n.book.last,d,e,aG w.n.told,g]] H=some (eN H.length r,H++own.map (dX H.length)):=by
 have⟨a,c,l,m,o⟩:=h.view
 have p:([aw.agg [I w.n.dr.ai.id,I w.n.dr.ai.phase,sl,I w.n.dr.aQ,aG w.n.dr.need,I w.n.book.last,d,e,aG w.n.told,g]].any (eO tz))=false:=rfl
 rw[aD,p,l]
 simp only[i,aes,or_false]
 rw[if_neg (by decide),kU,i,hp a m,jP]
 exact if_pos (k c o)
def AM{H:List Ob}{b:Nat}{w:Wk}(h:bX H b w)(hn:fu w.n):
  ∃e,bB tz (ev tz) 118 [au b] H=some (.aM [],e)/\bX e b w.dg/\bq b H e:=by
 have⟨sl,j,o,k,p,se,h⟩:=h
 refine gj func118 rfl ?_
 have c:=h.hb
 have l:=bf c
 obtain⟨t,q,r,rfl,f⟩:=h.hs
 have s:=bf f
 simp only[bM]at c
 have i:((w.n.dr.ai.af.map ax)++t).take w.n.dr.ai.af.length=w.n.dr.ai.af.map ax:=ai8 (by simp)
 have a:=abz w.n.dr hn.si (by have:=hn.nd;omega)
 simp only[cU,aG]at a
 by_cases hc:(kH w.n.dr).2=0
 .have g:w.dg=w.put {w.n with dr:=(kH w.n.dr).1}:=by simp only[Wk.dg,if_pos hc]
  rw[g]
  simp only[iL,if_pos hc]at a
  have⟨d,m⟩:=eg ((kH w.n.dr).1)
  rw[m]at a|-
  simp[-getElem?_pos,f118,c,f,i,a,aV c,xw,pS]
  have ar:∀x,gI (H++ah 8 (d.ai.af.map ax)::x) 8 (.sl H.length 0 0 d.ai.af.length) (d.ai.af.map ax) []:=fun x=>⟨H.length,0,by simp,by rw[ane];simp⟩
  exact h.xX _ (w.put {w.n with dr:=d}) (.sl H.length 0 0 d.ai.af.length) j k (.inr ⟨by simp[rf],[],ar _⟩) (.inl ⟨rfl,rfl⟩) rfl (.inl ⟨rfl,rfl⟩) rfl rfl
 .have g:w.dg=w:=by simp only[Wk.dg,if_neg hc]
  rw[g]
  simp only[iL,if_neg hc]at a
  simp[-getElem?_pos,f118,c,f,i,a,hc]
  exact⟨h.at.snoc,bq.snoc l⟩
def Wk.eS(w:Wk)(a:cd)(e:Int):Wk:=if(w.need (decide (e=0)) e).e=0 then(w.need (decide (e=0)) e).put {(w.need (decide (e=0)) e).n with book:=a}else w.need (decide (e=0)) e
def Wk.sC(w:Wk)(a:Int)(m:cY):Wk:=if(w.need (decide ((Bk w.n.dr a m).2=0)) 187).e=0 then(w.need (decide ((Bk w.n.dr a m).2=0)) 187).put {w.n with dr:=(Bk w.n.dr a m).1}else w.need (decide ((Bk w.n.dr a m).2=0)) 187
def Y9{H:List Ob}{b:Nat}{w:Wk}(h:bX H b w)(hn:fu w.n)(a:Int)(m:cY)(j:w.e=0):
  ∃k,bB tz (ev tz) 226 [au b,aa a,.agg (br m)] H=some (.aM [],k)/\bX k b (w.sC a m)/\bq b H k:=by
 refine gj func226 rfl ?_
 have r:=h
 have⟨sl,s,D,u,E,se,h⟩:=h
 have i:=h.hb
 have v:=bf i
 obtain⟨t,L,M,rfl,y⟩:=h.hs
 simp only[bM]at i
 have z:((w.n.dr.ai.af.map ax)++t).take w.n.dr.ai.af.length=w.n.dr.ai.af.map ax:=ai8 (by simp)
 have f:=Uy w.n.dr a m hn.si (by have:=hn.nd;omega)
 simp only[cU,br,aG]at f
 unfold Wk.sC
 by_cases hc:(Bk w.n.dr a m).2=0
 .simp only[iL,if_pos hc]at f
  have l:w.need (decide ((Bk w.n.dr a m).2=0)) 187=w:=by simp[Wk.need,hc]
  rw[l,if_pos j]
  have⟨d,F⟩:=eg ((Bk w.n.dr a m).1)
  rw[F]at f|-
  simp only[aG]at f
  have⟨G,g,w1,o,p⟩:=zg (r.snoc (x:=[Ob.live 1 5 [[I d.ai.id,I d.ai.phase,ab.sl (H.length+1) 0 0 d.ai.af.length,I d.aQ,ab.aj (d.need.map aC)]],Ob.live 0 8 (d.ai.af.map ax)])) true 187
  have J:w.need true 187=w:=by simp[Wk.need]
  rw[J]at g w1
  simp[j]at g
  have c1:=p (H.length+1) (by omega)
  rw[jh]at c1
  simp at c1
  have q:=p H.length (by omega)
  rw[ane]at q
  simp at q
  have⟨sl,s,D,u,E,se,A⟩:=w1
  have B:=A.hb
  have C:=A.vl ((bq.snoc v).trans o) [] (w.put {w.n with dr:=d}) (.sl (H.length+1) 0 0 d.ai.af.length) s u (.inr ⟨by simp[rf],[],H.length+1,0,by simp[Wk.put],by rw[aeU,c1];simp[Wk.put]⟩) (.inl ⟨rfl,rfl⟩) rfl (.inl ⟨rfl,rfl⟩) rfl rfl
  simp only[bM]at B
  simp only[bM,Wk.put,aeU,aG]at C
  simp[-getElem?_pos,f226,br,aV y,z,f,aV i,xw,pS,g,q,B,Wk.put,ny,gO,iQ]
  exact C
 .simp only[iL,if_neg hc]at f
  have l:w.need (decide ((Bk w.n.dr a m).2=0)) 187=w.need false 187:=by simp[hc]
  have ev:(w.need false 187).e=187:=by simp[Wk.need,j]
  rw[l,if_neg (by rw[ev];decide)]
  have⟨c,K⟩:=eg ((Bk w.n.dr a m).2)
  rw[K]at f hc
  have⟨G,g,w1,o,p⟩:=zg (r.snoc (x:=[Ob.live 1 5 [[I 0,I 0,ab.aj [],I 0,ab.aj []]]])) false 187
  rw[ev]at g
  simp at g
  simp[-getElem?_pos,f226,br,aV y,z,f,aV i,g,hc,ny,gO,iQ]
  exact⟨w1,(bq.snoc v).trans o⟩
structure UN(p:aI->Bool)(l:List aI)(t:List (List ab))(h ver:Nat)(H:List Ob)(k:Nat)(G:List Ob):Prop where
 r:G[h]?=some (.live ver 8 ((sB p l k).map ax++t))
 b:mu h H G
 k:k<=l.length
def UT{l:List aI}{t:List (List ab)}{q:Int}{h a:Nat}{H:List Ob}(hm:l.length<=100000)(s:H[h]?=some (.live a 8 (l.map ax++t))):
  ∃d z,bB tz (ev tz) 278 [bd h a 0 l.length,.c (.bF 279 [.aJ [[I q]] 0 0])] H=some (bd h a 0 (l.filter fun x=>!decide (x.peer=q)).length,d)/\d[h]?=some (.live a 8 ((l.filter fun x=>!decide (x.peer=q)).map ax++z))/\mu h H d:=by
 have P:=cG (C:=tz) (f:=278) (args:=[bd h a 0 l.length,.c (.bF 279 [.aJ [[I q]] 0 0])]) (H:=H) (fun r d=>r=bd h a 0 (l.filter fun x=>!decide (x.peer=q)).length/\∃z,d[h]?=some (.live a 8 ((l.filter fun x=>!decide (x.peer=q)).map ax++z))/\mu h H d) func278 rfl ?_
 .obtain ⟨r,d,Q,rfl,rows,u⟩:=P
  exact⟨d,rows,Q,u⟩
 have lh:=bf s
 have v:=yj (g:=279) (caps:=[.aJ [[I q]] 0 0]) l (by unfold maxLen;omega) (fun x=>decide (x.peer=q)) (fun x _=>by
  have:=MP x q
  simp[ax]at this
  simp[ax,this])
 cases A:l.find? (fun x=>decide (x.peer=q))with
 |none=>
  rw[qX 0 A]at v
  have R:l.filter (fun x=>!decide (x.peer=q))=l:=by
   rw[ajq]
   intro x S
   have:=alW.1 A x S
   simpa using this
  rw[R]
  simp[f278,s,v]
  exact mu.refl _ _
 |some x=>
  have⟨j,u,⟨J,B⟩,D⟩:=A9 0 A
  rw[aiW]at u
  rw[u]at v
  have T:adW.wrap ((j:Int)+1)=((j+1:Nat):Int):=cv (by omega)
  have⟨p,hp⟩:=eg (fun x=>decide (x.peer=q):aI->Bool)
  have K:∀x:aI,decide (x.peer=q)=p x:=fun x=>by rw[<-hp]
  simp only[K]at B D|-
  have U:fC p l (j+1)=j:=by
   rw[u6 p l j J,if_pos B]
   unfold fC
   rw[D];simp;omega
  have d0:sB p l (j+1)=l:=by
   rw[Aa p l j J B]
   unfold sB
   rw[D,ai1,aj1 (by omega),ajI]
  simp[f278,s,v,T]
  refine iy (fun k:Nat=>[(5,aa (fC p l k)),(6,aa k),(0,bd h a 0 l.length),(1,.c (.bF 279 [.aJ [[I q]] 0 0]))]) (fun k G=>UN p l t h a H k G) (fun k=>l.length-k) ?_ (j+1) (by simp[U]) ⟨by rw[d0];exact s,mu.refl _ _,by omega⟩ fun _=>rfl
  rintro k ad G⟨w,E,F,L,_⟩o
  have m:=o.r
  have V:=RT p l k
  have nk:=Sl p l k
  by_cases e:k<l.length
  .have M:adW.wrap ((k:Int)+1)=((k+1:Nat):Int):=cv (by omega)
   have W:adW.wrap ((fC p l k:Int)+1)=((fC p l k+1:Nat):Int):=cv (by omega)
   have t1:=Oc p l k e
   have⟨t2,t3⟩:=abW.1 t1
   have t4:fC p l k< (sB p l k).length:=by omega
   have t5:fC p l k<l.length:=by omega
   have t6:k< (sB p l k).length+t.length:=by omega
   have t7:fC p l k< (sB p l k).length+t.length:=by omega
   have N:((sB p l k).map ax++t)[k]?=some (ax l[k]):=by rw[abE (by simp;omega),adf,t1];rfl
   have i:=MP l[k] q
   rw[K]at i
   cases n:p l[k]with
   |true=>
    rw[n]at i
    simp only[ax]at i
    simp[-getElem?_pos,underlying59,w,E,F,L,e,M,m,t6,N,i,ax]
    exact⟨k+1,by omega,⟨by rw[u6 p l k e,n];simp,by omega⟩,by rw[Aa p l k e n];exact aV m,o.b.snoc _,by omega⟩
   |false=>
    rw[n]at i
    simp only[ax]at i
    have O:∀x,(G++x)[h]?=_:=fun x=>aV m
    obtain⟨y,X⟩:∃y,(sB p l k)[fC p l k]?=some y:=⟨_,abM t4⟩
    have Y:((sB p l k).map ax++t)[fC p l k]?=some (ax y):=by rw[abE (by simp;omega),adf,X];rfl
    simp[-getElem?_pos,underlying59,w,E,F,L,e,M,W,m,O,t5,t6,t7,N,Y,i,ax]
    refine⟨k+1,by omega,⟨by rw[u6 p l k e,n];simp,by omega⟩,?_,(o.b.snoc _).set _,by omega⟩
    have Z:((sB p l k).map ax++t).set (fC p l k) (ax l[k])=((sB p l k).map ax).set (fC p l k) (ax l[k])++t:=by
     rw[List.set_append,if_pos (by simp;omega)]
    rw[ba (O _), <-No p l k e n,aiC]
    exact congrArg (fun r=>some (Ob.live a 8 r)) Z
  .obtain rfl:k=l.length:=by have:=o.k;omega
   have e1:fC p l l.length=(l.filter fun x=>!p x).length:=by simp[fC]
   have e2:sB p l l.length=l.filter (fun x=>!p x)++l.drop (l.filter fun x=>!p x).length:=by simp[sB]
   have e3:=aiq (fun x=>!p x) l
   simp only[e1]at w
   have gs:∀y,(G.set h y)[h]?=some y:=fun y=>ba m
   simp[underlying59,w,E,F,m,V,e3,gs,rv,dT]
   have e4:((sB p l l.length).map ax++t).take (l.filter fun x=>!p x).length=(l.filter fun x=>!p x).map ax:=by
    rw[e2,aid,aiu,ai8 (by simp)]
   rw[e4]
   exact⟨⟨_,rfl⟩,o.b.set _⟩
def Wk.drop(w:Wk)(p:Int):Wk:=w.put (w.n.eK (n9 p w.n.af))
def NG{H:List Ob}{b:Nat}{w:Wk}(h:bX H b w)(hn:w.n.dr.ai.af.length<=100000)(p:Int):
  ∃k,bB tz (ev tz) 228 [au b,aa p] H=some (.aM [],k)/\bX k b (w.drop p)/\bq b H k:=by
 refine gj func228 rfl ?_
 have⟨sl,E,I,J,K,se,h⟩:=h
 have a:=h.hb
 have N:=bf a
 obtain⟨t,f,A,rfl,g⟩:=h.hs
 have B:b≠f:=fun e=>by subst e;rw[a]at g;cases g
 have⟨G,L,C,D,i⟩:=UT (q:=p) hn g
 have⟨F,l⟩:=eg (w.n.dr.ai.af.filter (fun x=>!decide (x.peer=p)))
 rw[l]at C D
 have j:=i.2 b _ a B
 simp only[bM]at a j
 have d:∀(y:Ob) (m v z:Nat) (r:List (List ab)),z≠13->z≠8->H[m]?=some (.live v z r)->(G.set b y)[m]?=some (.live v z r):=fun y m v z r s u c=>by
  have hm:m≠f:=fun e=>by subst e;rw[g]at c;cases c;exact u rfl
  have M:b≠m:=fun e=>by subst e;rw[a]at c;cases c;exact s rfl
  rw[aat M]
  exact i.2 m _ c hm
 simp[f228,a,C,j]
 refine⟨⟨.sl f A 0 F.length,E,I,J,K,se,?_,⟨L,f,A,?_,?_⟩,h.db.aK fun _ _ _ _ h=>d _ _ _ _ _ (by decide) (by decide) h,h.hk.aK fun _ _ _ _ h=>d _ _ _ _ _ (by decide) (by decide) h,h.ha.aK fun _ _ _ _ h=>d _ _ _ _ _ (by decide) (by decide) h,h.ho.aK fun _ _ _ _ h=>d _ _ _ _ _ (by decide) (by decide) h,h.he.aK fun _ _ _ _ h=>d _ _ _ _ _ (by decide) (by decide) h,h.d1,h.d2⟩,?_⟩
 .rw[ba j];rfl
 .simp[Wk.drop,Wk.put,Nd.eK,n9,Nd.af,l]
 .rw[aat B,D]
  simp[Wk.drop,Wk.put,Nd.eK,n9,Nd.af,l]
 .refine bq.bH a (ba j) (by have:=i.1;simpa using this) (fun m hm=>?_) (fun m o s u c=>?_)
  .simp[eu,rf]at hm|-
   grind
  .rw[aat (ait u)]
   exact i.2 m o s (fun e=>c (by subst e;simp[eu,rf]))
section
def wrap_u64{n:Int}(a:0<=n)(b:n<18446744073709551616):aiY.wrap n=n:=by have c:(2:Int) ^ aiY.bits=18446744073709551616:=rfl;have d:aiY.signed=false:=rfl;unfold am0;simp only[c,d,ak2,aes,if_false];exact al3 a b
def Wd{i j:Nat}(h:i+j<9223372036854775808):adW.wrap ((aiY.wrap ((i:Int)+(j:Int))).fdiv (2 ^ min 1 aiY.bits))=(((i+j) / 2:Nat):Int):=by
 have e:(2:Int) ^ min 1 aiY.bits=2:=rfl;rw[wrap_u64 (by omega) (by omega),e,am1 _ (by decide)];have:((i:Int)+(j:Int)) / 2=(((i+j) / 2:Nat):Int):=by omega
 rw[this,wrap_i64 (by omega) (by omega)]
def Vj(x:aI)(p:Int)(b: -1000000<=x.peer)(c:x.peer<=1000000)(d: -1000000<=p)(e:p<=1000000):aS tz ay 0 123 [.agg (ax x),aa p]=some (aa (x.peer-p),[]):=by refine be func123 rfl ?_;have a:adW.wrap (x.peer-p)=x.peer-p:=wrap_i64 (by omega) (by omega);simp[f123,ax,a]
variable{α:Type}{key:α->Int}{row:α->List ab}
def fO(key:α->Int)(p:Int):List α->Nat
 |[]=>0
 |y::r=>if key y<p then fO key p r+1 else 0
def Ai(key:α->Int)(p:Int):∀l:List α,fO key p l<=l.length
 |[]=>ad3 _
 |y::r=>by
  unfold fO
  have:=Ai key p r
  split<;>simp only[aip]<;>omega
def N8{p:Int}:∀ {l:List α} (k:Nat) (a:k<l.length),l.Pairwise (fun x y=>key x<key y)->(key l[k]<p↔k<fO key p l)
 |[],k,a,_=>by simp at a
 |y::r,k,a,h=>by
  have hp:=ahg.1 h
  unfold fO
  cases k with
  |zero=>
   simp only[List.getElem_cons_zero]
   split<;>rename_i hc<;>simp[hc]
  |succ k=>
   simp only[List.getElem_cons_succ]
   have b:k<r.length:=by simpa using a
   have c:=N8 (p:=p) k b hp.2
   split
   .rw[c];omega
   .rename_i hc
    have:=hp.1 r[k] (aix b)
    constructor
    .intro h;omega
    .intro h;omega
def Md(x:aI):∀l:List aI,fR x l=l.take (fO aI.peer x.peer l)++x::l.drop (fO aI.peer x.peer l)
 |[]=>rfl
 |y::r=>by
  unfold fR fO
  by_cases h:y.peer>=x.peer
  .have a:¬y.peer<x.peer:=by omega
   simp[h,a]
  .have a:y.peer<x.peer:=by omega
   simp[h,a,Md x r]
def Q4{f g n:Nat}(J:(f,g,n)∈ [(122,123,8),(198,199,2)])(b:∀x,(row x).length=n)(K:∀x p H,-1000000<=key x->key x<=1000000-> -1000000<=p->p<=1000000->aO tz ay g [.agg (row x),aa p] H=some (aa (key x-p),H))(l:List α)(p:Int)(hm:l.length<=1000000)(Q:l.Pairwise (fun x y=>key x<key y))(L:∀x∈l,-1000000<=key x/\key x<=1000000)(M: -1000000<=p)(N:p<=1000000):
  aS tz ay 0 f [bh (l.map row),aa p,.c (.bF g [])]=some (.aM [aa (fO key p l),aR (decide (fO key p l<l.length)&&decide ((l[fO key p l]?.map key)=some p))],[]):=by
 simp only[aeM,aca,aiV,or_false]at J
 have⟨u,R⟩:=eg (fO key p l)
 have S:=Ai key p l
 have O:=fun k d=>N8 (key:=key) (p:=p) (l:=l) k d Q
 rw[R]at S O|-
 have⟨v,w⟩:=eg (aw.c (.bF g []))
 rcases J with⟨rfl,rfl,rfl⟩|⟨rfl,rfl,rfl⟩
 all_goals
  refine be (by first|exact func122|exact func198) rfl ?_
  simp[-aD,f122,f198,underlying59,underlying68]
  refine iy (fun q:Nat×Nat=>[(9,aa q.1),(10,aa q.2),(8,aa l.length),(0,bh (l.map row)),(1,aa p),(2,v)]) (fun q _=>q.1<=u/\u<=q.2/\q.2<=l.length) (fun q=>q.2-q.1) ?_ (0,l.length) (by simp[<-w]) (by simp;omega) fun _=>rfl
  rintro⟨i,j⟩e H⟨o,r,s,z,A,B,_⟩⟨T,U,V⟩
  simp only at o r s z A B T U V
  by_cases d:i<j
  .have P:adW.wrap ((i:Int)+(j:Int))=((i+j:Nat):Int):=by rw[wrap_i64 (by omega) (by omega)];rfl
   have⟨h,W⟩:=eg ((i+j) / 2)
   have C:h<l.length:=by omega
   have⟨x,a⟩:=eg l[h]
   have t:=L x (by rw[<-a];exact aix C)
   have D:=K x p H t.1 t.2 M N
   have F:=O h C
   rw[a]at F
   have m:=b x
   have E:=acu (aj8 m)
   have G:=Wd (i:=i) (j:=j) (by omega)
   rw[W]at G
   have X:adW.wrap ((h:Int)+1)=((h+1:Nat):Int):=cv (by omega)
   by_cases hc:key x<p
   .have I:key x-p<0:=by omega
    have b:=F.1 hc
    simp[-aD,o,r,s,z,A,B, <-w,d,P,G,C,a,m,E,D,I,X]
    exact⟨h+1,j,by omega,by simp,by omega,by omega,by omega⟩
   .have I:¬key x-p<0:=by omega
    have b:¬h<u:=fun b=>hc (F.2 b)
    simp[-aD,o,r,s,z,A,B, <-w,d,P,G,C,a,m,E,D,I]
    exact⟨i,h,by omega,by simp,by omega,by omega,by omega⟩
  .obtain rfl:i=u:=by omega
   by_cases hn:i<l.length
   .have ⟨x,a⟩:=eg l[i]
    have t:=L x (by rw[<-a];exact aix hn)
    have D:=K x p H t.1 t.2 M N
    have Z:l[i]?=some x:=by rw[abM hn,a]
    have m:=b x
    have E:=acu (aj8 m)
    have Y:decide (key x-p=0)=decide (key x=p):=by
     by_cases h:key x=p
     .have:key x-p=0:=by omega
      simp[h]
     .have:¬key x-p=0:=by omega
      simp[h,this]
    simp[-aD,o,r,s,z,A,B, <-w,d,hn,a,m,E,D,Y]
   .simp[-aD,o,r,s,d,hn]
def WC:=Q4 (key:=aI.peer) (row:=ax) (f:=122) (g:=123) (n:=8) (by simp) (fun _=>rfl) fun x p H a b c d=>by have h:=Vj x p a b c d;simp[ax]at h;simp[ax,h]
end
def TO(x:cj)(p:Int)(b: -1000000<=x.peer)(c:x.peer<=1000000)(d: -1000000<=p)(e:p<=1000000):aS tz ay 0 199 [.agg (aW x),aa p]=some (aa (x.peer-p),[]):=by refine be func199 rfl ?_;have a:adW.wrap (x.peer-p)=x.peer-p:=wrap_i64 (by omega) (by omega);simp[f199,aW,a]
def aeN:=Q4 (key:=cj.peer) (row:=aW) (f:=198) (g:=199) (n:=2) (by simp) (fun _=>rfl) fun x p H a b c d=>by have h:=TO x p a b c d;simp[aW]at h;simp[aW,h]
def nU(p:Int)(l:List cj):Bool:=decide (fO cj.peer p l<l.length)&&decide ((l[fO cj.peer p l]?.map (·.peer))=some p)
def PD(p e:Int):∀l:List cj,fS p e l=if nU p l=true then l.set (fO cj.peer p l) ⟨p,e⟩else l.take (fO cj.peer p l)++⟨p,e⟩::l.drop (fO cj.peer p l)
 |[]=>rfl
 |y::r=>by
  have d:=PD p e r
  unfold fS
  by_cases h:y.peer=p
  .have a:fO cj.peer p (y::r)=0:=by simp[fO,h]
   have b:nU p (y::r)=true:=by simp[nU,a,h]
   rw[if_pos h,b,a];rfl
  .by_cases c:y.peer>p
   .have a:fO cj.peer p (y::r)=0:=by
     have:¬y.peer<p:=by omega
     simp[fO,this]
    have b:nU p (y::r)=false:=by simp[nU,a,h]
    rw[if_neg h,if_pos c,b,a];rfl
   .have f:y.peer<p:=by omega
    have a:fO cj.peer p (y::r)=fO cj.peer p r+1:=by simp[fO,f]
    have b:nU p (y::r)=nU p r:=by simp[nU,a]
    rw[if_neg h,if_neg c,b,a,d]
    cases nU p r<;>simp
section
variable{H:List Ob}
def PF:tz.dF 124=nw 8:=by kernel_rfl
def T3:tz.dF 200=nw 2:=by kernel_rfl
def apz{h ver h2 ver2 k:Nat}{l:List aI}{t:List (List ab)}{x:aI}(a:H[h]?=some (.live ver 8 (l.map ax++t)))(b:H[h2]?=some (.live ver2 8 [ax x]))(j:h≠h2)(q:k<=l.length)(c:l.length<=1000000):
  ∃v m D,bB tz (ev tz) 124 [bd h ver 0 l.length,aa k,bd h2 ver2 0 1] H=some (bd h v 0 (l.length+1),H.set h (.live v 8 ((l.take k++x::l.drop k).map ax++m))++D):=by
 have d:((k:Int)<=l.length):=by omega
 have e:(l.map ax++t).take l.length=l.map ax:=ai8 (by simp)
 have f:(ax x).length=8:=rfl
 have g:((l.map ax).all fun r=>ajx r.length 8)=true:=by simp[ax]
 have i:h.beq h2=false:=by
  cases n:h.beq h2 with
  |false=>rfl
  |true=>exact absurd (ajv n) j
 rcases t with _|⟨y,t⟩
 .refine ⟨ver+1,[],[.dead],?_⟩
  rw[gW Ce,PF]
  simp only[aeU]at a e|-
  simp[nw,a,b,d,i,kG c,f,g]
 .refine ⟨ver,t,[],?_⟩
  rw[gW Ce,PF]
  have o:(l.map ax++y::t).take k=(l.map ax).take k:=akb (by simp;omega)
  have p:(l.map ax++y::t).drop (l.length+1)=t:=by
   have:l.length+1=(l.map ax).length+1:=by simp
   rw[this,List.drop_append]
   simp
  simp[nw,a,b,d,i,kG c,f,g,e,o,p]
def abI{h ver h2 ver2 k:Nat}{l:List cj}{x:cj}(a:H[h]?=some (.live ver 2 (l.map aW)))(b:H[h2]?=some (.live ver2 2 [aW x]))(c:h≠h2)(m:k<=l.length)(d:l.length<=1000000):
  bB tz (ev tz) 200 [bd h ver 0 l.length,aa k,bd h2 ver2 0 1] H=some (bd h (ver+1) 0 (l.length+1),H.set h (.live (ver+1) 2 ((l.take k++x::l.drop k).map aW))++[.dead]):=by
 have e:((k:Int)<=l.length):=by omega
 have f:(aW x).length=2:=rfl
 have g:((l.map aW).all fun r=>ajx r.length 2)=true:=by simp[aW]
 have i:h.beq h2=false:=by
  cases j:h.beq h2 with
  |false=>rfl
  |true=>exact absurd (ajv j) c
 rw[gW N6,T3]
 simp[nw,a,b,e,i,kG d,f,g]
def Wk.td(w:Wk)(p e:Int):Wk:=w.put {w.n with known:=fS p e w.n.known}
theorem cF.known{H:List Ob}{b:Nat}{w:Wk}{sl d f g se:ab}{a u n:Nat}(h:cF H b w sl d (.sl a u 0 n) f g se)(x:List Ob)(c:Nat)(L:List cj):
  cF (((H++x).set a (.live c 2 (L.map aW))).set b (ah 13 [bM (w.put {w.n with known:=L}) sl d (.sl a c 0 L.length) f g se])) b (w.put {w.n with known:=L}) sl d (.sl a c 0 L.length) f g se/\
  bq b H (((H++x).set a (.live c 2 (L.map aW))).set b (ah 13 [bM (w.put {w.n with known:=L}) sl d (.sl a c 0 L.length) f g se])):=by
 have⟨i,⟨t,A⟩,B,C,D,E,F,d1,d2⟩:=h
 have J:=bf i
 have⟨K,M,y,j⟩:=C
 simp only[ab.sl.injEq]at y
 obtain⟨rfl,rfl,_,rfl⟩:=y
 have l:a≠b:=fun e=>by subst e;rw[i]at j;cases j
 have k:∀(o p:Ob) (m v z:Nat) (r:List (List ab)),z≠13->z≠2\/m≠a->H[m]?=some (.live v z r)->(((H++x).set a o).set b p)[m]?=some (.live v z r):=fun o p m v z r q s G=>yc i j q s o p G
 have I:((H++x).set a (.live c 2 (L.map aW)))[b]?=some (ah 13 [bM w sl d (.sl a u 0 (w.n.known.map aW).length) f g se]):=by rw[aat l];exact aV i
 refine⟨⟨ba I,⟨t,A.aK fun _ _ _ _ h=>k _ _ _ _ _ _ (by decide) (.inl (by decide)) h⟩,B.aK fun _ _ _ _ h=>k _ _ _ _ _ _ (by decide) (.inl (by decide)) h,⟨a,c,by simp[Wk.put],?_⟩,D.aK fun m _ _ hm h=>k _ _ _ _ _ _ (by decide) (.inr fun e=>d1 a (by simp[rf]) (by subst e;exact hm)) h,E.aK fun _ _ _ _ h=>k _ _ _ _ _ _ (by decide) (.inl (by decide)) h,F.aK fun _ _ _ _ h=>k _ _ _ _ _ _ (by decide) (.inl (by decide)) h,fun m q s=>d1 m (by simpa[rf]using q) s,d2⟩,?_⟩
 .rw[aat (ait l),ba (aV j)]
  simp[Wk.put]
 .refine An i j l (by simp[eu,bM,rf]) (fun m hm=>?_) _
  simp[eu,bM,rf,aG]at hm|-
  grind
theorem lJ{a:Type}{l:List a}{n:Nat}{x:a}(h:l[n]?=some x):l.set n x=l:=by
 apply aju;intro m;by_cases hm:n=m
 .subst hm;rw[ba h,h]
 .rw[aat hm]
structure xr(l:List cj):Prop where
 s:l.Pairwise fun x y=>x.peer<y.peer
 b:∀x∈l,-1000000<=x.peer/\x.peer<=1000000
 m:l.length<=100000
def VH{b:Nat}{w:Wk}{sl C R D E se:ab}(h:cF H b w sl C R D E se)(z:xr w.n.known)(p a:Int)(S: -1000000<=p)(T:p<=1000000):
  ∃F,bB tz (ev tz) 125 [au b,aa p,aa a] H=some (.aM [],F)/\(∃U,cF F b (w.td p a) sl C U D E se)/\bq b H F:=by
 refine gj func125 rfl ?_
 have q:=h.hb
 have lb:=bf q
 obtain⟨c,d,rfl,f⟩:=h.hk
 have lh:=bf f
 have A:c≠b:=fun e=>by subst e;rw[q]at f;cases f
 rw[aeU]at f
 simp only[bM]at q
 have t:=aeN w.n.known p (by have:=z.m;omega) z.s z.b S T
 have G:=Ai cj.peer p w.n.known
 have j:=PD p a w.n.known
 have O:=z.m
 have V:(decide (fO cj.peer p w.n.known<w.n.known.length)&&decide ((w.n.known[fO cj.peer p w.n.known]?.map (·.peer))=some p))=nU p w.n.known:=rfl
 rw[V]at t
 have⟨r,J⟩:=eg (fO cj.peer p w.n.known)
 have⟨l,g⟩:=eg w.n.known
 cases v:nU p w.n.known with
 |true=>
  rw[v]at j t
  simp only[nU,abR,decide_eq_true_eq]at v
  rw[J,g]at v j t
  rw[g]at f G O
  have⟨o,P⟩:=v
  have f3:l[r].peer=p:=by rw[abM o]at P;simpa using P
  have f4:(l.map aW)[r]?=some [I l[r].peer,I l[r].aP]:=by rw[adf,abM o];rfl
  simp[-getElem?_pos,f125,q,g,f,t,bR,o,f4]
  have f5:(l.map aW).set r [I l[r].peer,I a]=(fS p a l).map aW:=by
   rw[j,if_pos rfl,aiC,f3];rfl
  rw[f5]
  have u:=h.known [] d (fS p a l)
  have K:(fS p a l).length=l.length:=by rw[j,if_pos rfl];simp
  have L:w.td p a=w.put {w.n with known:=fS p a l}:=by rw[<-g];rfl
  rw[L]
  have W:(H.set c (.live d 2 ((fS p a l).map aW)))[b]?=some (ah 13 [bM (w.put {w.n with known:=fS p a l}) sl C (.sl c d 0 (fS p a l).length) D E se]):=by
   rw[aat A,q,K,g]
   simp[bM,Wk.put]
  rw[aeU,lJ W]at u
  exact⟨⟨_,u.1⟩,u.2⟩
 |false=>
  rw[v]at j t
  rw[J,g]at j t
  rw[g]at f O
  rw[J,g]at G
  have o:=abI (x:=⟨p,0⟩) (h:=c) (ver:=d) (h2:=H.length) (ver2:=0) (k:=r) (l:=l) (H:=H++[ah 2 [[I p,I 0]]]) (aV f) (by rw[ane];rfl) (by omega) G (by omega)
  have⟨i,B⟩:=eg (l.take r++(⟨p,0⟩:cj)::l.drop r)
  rw[B]at o
  have X:(H++[Ob.live 0 2 [[I p,I 0]]]).set c (.live (d+1) 2 (i.map aW))++[.dead]=(H++[Ob.live 0 2 [[I p,I 0]],.dead]).set c (.live (d+1) 2 (i.map aW)):=by
   rw[<-akk _ _ (by simp;omega),aiu];rfl
  rw[X]at o
  have Y:i.length=l.length+1:=by rw[<-B];simp;omega
  have Z:(i.map aW)[r]?=some [I p,I 0]:=by
   rw[adf, <-B,aea (by simp;omega)]
   have:r-(l.take r).length=0:=by simp;omega
   rw[this];rfl
  have K:(fS p a l).length=l.length+1:=by rw[j];simp;omega
  have ad:(i.map aW).set r [I p,I a]=(fS p a l).map aW:=by
   have e1:i.set r ⟨p,a⟩=fS p a l:=by
    rw[j, <-B,if_neg (by decide),List.set_append,if_neg (by simp;omega)]
    have:r-(l.take r).length=0:=by simp;omega
    rw[this];rfl
   rw[<-e1,aiC];rfl
  have M:((H++[Ob.live 0 2 [[I p,I 0]],.dead]).set c (.live (d+1) 2 (i.map aW)))[b]?=_:=(aat A).trans (aV q)
  have Q:((H++[Ob.live 0 2 [[I p,I 0]],.dead]).set c (.live (d+1) 2 (i.map aW)))[c]?=_:=ba (aV f)
  have⟨ae,N⟩:=eg ((H++[Ob.live 0 2 [[I p,I 0]],.dead]).set c (.live (d+1) 2 (i.map aW)))
  rw[N]at M Q
  have af:∀y,(ae.set b y)[c]?=_:=fun y=>(aat (ait A)).trans Q
  have ag:r<l.length+1:=by omega
  have ai:(r:Int)< (l.length:Int)+1:=by omega
  rw[N]at o
  have u:=h.known [ah 2 [[I p,I 0]],.dead] (d+1) (fS p a l)
  simp[-getElem?_pos,f125,q,g,f,t,bR,o,M,ba M,af,Z,ad,Y,ag,ai]
  have L:w.td p a=w.put {w.n with known:=fS p a l}:=by rw[<-g];rfl
  rw[L, <-N,List.set_comm _ _ (ait A),ajN]
  rw[K]at u
  exact⟨⟨_,u.1⟩,u.2⟩
end
section
variable{P:Program}{f:FuncId}{H H':List Ob}{r:aw}
def x6{args:List aw}(z:Nat)(h:Call P f args [] (.c eW) []):Call P f args [] (bd 0 0 0 0) [ah z []]:=by
 refine⟨h.1,fun i j n p=>(h.2 i j n p).mono fun e A q=>?_⟩;obtain⟨y,Γ',rfl,rfl,a,d,hc⟩:=q;obtain⟨rfl,_⟩:=hc;have r:Γ'.hs=[]:=ae4 (by have:=d.len;simpa using this.symm);have B:i.hs=[]:=ae4 (by have:=j.len;simpa using this.symm);have k:Γ'.Le {Γ' with hs:=[(⟨none,0,0,0⟩,0)]}:=⟨fun _ _ h=>h,fun _ _ _=>rfl,fun h s C l=>by rw[r]at l;simp at l⟩;refine⟨_,{Γ' with hs:=[(⟨none,0,0,0⟩,0)]},rfl,rfl,⟨a.le.trans k,a.os,a.tape,a.output,a.size,a.frame,a.mF,a.lj⟩,⟨rfl,fun h o g=>?_,fun h m v D o E s H b t u _ _ I J K L=>?_,d.F,d.X,d.G.le k⟩,?_⟩
 .cases h with
  |zero=>simp at g;subst g;exact⟨⟨none,0,0,0⟩,rfl,akg _,rfl⟩
  |succ h=>simp at g
 .have w:h=0:=by cases h with
   |zero=>rfl
   |succ h=>simp at t
  have x:m=0:=by cases m with
   |zero=>rfl
   |succ h=>simp at u
  rw[w,x]
 .exact ⟨⟨none,0,0,0⟩,0,none,0,rfl,ad3 _,rfl,fun _=> .inl ⟨rfl,rfl,rfl,rfl,rfl⟩⟩
def Rc(d:Call P f [.c eW] H r H')(l:Call P f [.c (.eU [])] H r H'):Call P f [bh []] H r H':=by
 refine⟨d.1,fun g h i m=>?_⟩;have⟨y,j,e,b,k⟩:=m;rcases b with⟨b,_⟩|⟨a,cap,n,b,o,p⟩
 .exact d.2 g h i ⟨y,j,e,⟨b,rfl⟩,k⟩
 .exact l.2 g h i ⟨y,j,e,⟨a,cap,n,b,o,p⟩,k⟩
def Rr{x:List ab}{rows:List (List ab)}(d:Call P f [.c (.eU (x::rows))] H r H'):Call P f [bh (x::rows)] H r H':=by
 refine⟨d.1,fun g h i j=>?_⟩;have⟨y,k,e,b,l⟩:=j;rcases b with⟨_,b⟩|⟨a,cap,m,b,n,o⟩
 .cases b
 .exact d.2 g h i ⟨y,k,e,⟨a,cap,m,b,n,o⟩,l⟩
end
instance iW3:W:=W0
section
variable{f z:Nat}{H H':List Ob}{r:aw}
def ag0{P:Program}(g:∀rows,(∀r∈rows,r.length=z)->bA rows=true->rows.length<=1000000->Call P f [.c (.eU rows)] [] (bd 0 0 0 rows.length) [ah z rows])(hn:Call P f [.c eW] [] (.c eW) []){d:List aw}(h:fJ z d H=some (r,H')):Call P f d H r H':=by
 unfold fJ at h;split at h
 .rename_i l;split at h
  .rename_i rows a;split at h
   .rename_i hc;injection h with h;injection h with i j;subst i;subst j;simp only[abR,akQ,ahI,akv]at hc;have⟨⟨c1,c2⟩,c3⟩:=hc;have b:=g rows c1 c2 c3;unfold rowsOf at a;split at a
    .injection a with e;subst e;rename_i k;cases k with
     |nil=>exact Rc (x6 z hn) b
     |cons x m=>exact Rr b
    .injection a with e;subst e;exact b
    .injection a with e;subst e;exact x6 z hn
    .cases a
   .cases h
  .cases h
 .cases h
def oP{C:bu}(a:gU C){f:FuncId}{args:List aw}(h:aO C (bB C (ev C)) f args H=some (r,H')):Call C.P f args H r H':=Fe (fun _ _ _ _ _ h=>He a h) _ _ _ _ _ h
def mD(f z:Nat):Prop:=(f,z)∈ [(43,10),(44,8),(45,1),(46,2),(47,4),(57,3)]
def NA(d:mD f z){rows:List (List ab)}(e:∀r∈rows,r.length=z)(g:bA rows=true)(h:rows.length<=1000000):aS tz ay 0 f [.c (.eU rows)]=some (bd 0 0 0 rows.length,[ah z rows]):=by
 simp only[mD,aeM,aca,aiV,or_false]at d;have i:rows.length<=maxLen:=by unfold maxLen;omega
 have j:∀k,k<=176->rows.length*k<=140737488355328:=fun k l=>by have:=amJ h l;omega
 have m:(rows=[]/\0<rows.length)=False:=eq_false fun⟨a,b⟩=>by rw[a]at b;simp at b
 have n:=eq_true e;rcases d with⟨rfl,rfl⟩|⟨rfl,rfl⟩|⟨rfl,rfl⟩|⟨rfl,rfl⟩|⟨rfl,rfl⟩|⟨rfl,rfl⟩;all_goals refine be (by first|exact func43|exact func44|exact func45|exact func46|exact func47|exact func57) rfl ?_;simp[f43,f44,f45,f46,f47,f57,i,j,m,n,g,pG,ang]
def PL(a:mD f z):aS tz ay 0 f [.c eW]=some (.c eW,[]):=by simp only[mD,aeM,aca,aiV,or_false]at a;rcases a with⟨rfl,rfl⟩|⟨rfl,rfl⟩|⟨rfl,rfl⟩|⟨rfl,rfl⟩|⟨rfl,rfl⟩|⟨rfl,rfl⟩;all_goals refine be (by first|exact func43|exact func44|exact func45|exact func46|exact func47|exact func57) rfl ?_;simp[f43,f44,f45,f46,f47,f57,pG,ang]
def u5{f z:Nat}(a:mD f z)(b:gU tz){c:List aw}{H:List Ob}{r:aw}{H':List Ob}(h:fJ z c H=some (r,H')):Call aaG f c H r H':=by
 have hm:tz.md f=0:=by simp only[mD,aeM,aca,aiV,or_false]at a;rcases a with⟨rfl,rfl⟩|⟨rfl,rfl⟩|⟨rfl,rfl⟩|⟨rfl,rfl⟩|⟨rfl,rfl⟩|⟨rfl,rfl⟩<;>rfl
 refine ag0 (fun rows e d g=>oP b ?_) (oP b ?_) h
 .simp[hm,NA a e d g,d]
 .simp[hm,PL a]
def Pb:tz.md 45=0:=by kernel_rfl
def adH{rows:List (List ab)}:=NA (f:=45) (z:=1) (rows:=rows) (by simp[mD])
def adn:=PL (f:=45) (z:=1) (by simp[mD])
def Wa:=@u5 43 10 (by simp[mD])
def Vl:=@u5 44 8 (by simp[mD])
def R7:=@u5 45 1 (by simp[mD])
def SM:=@u5 46 2 (by simp[mD])
def Z4:=@u5 47 4 (by simp[mD])
def o57:=@u5 57 3 (by simp[mD])
end
instance iW4:W:=W1
theorem v7{x y:aI}:∀ {l:List aI},y∈fR x l↔y=x\/y∈l
 |[]=>by simp[fR]
 |z::r=>by
  unfold fR
  split
  .simp
  .simp only[aeM,v7 (l:=r)]
   grind
def zC(f:aI->Nat)(x:aI):∀l:List aI,bS f (fR x l)=f x+bS f l
 |[]=>rfl
 |z::r=>by
  unfold fR
  split
  .rfl
  .simp only[bS,zC f x r];omega
def Fh{id:Int}{x:aI}:∀ {l:List aI} {a:Int},dU id a l=true->cS id a x=true->cJ l x.peer=false->dU id a (fR x l)=true
 |[],a,_,h,_=>by simp[fR,dU,h]
 |z::r,a,b,d,c=>by
  simp only[dU,abR]at b
  simp only[cJ,alS,aiX,decide_eq_false_iff_not]at c
  unfold fR
  split
  .grind [dU,cS]
  .rename_i hc
   simp only[dU,abR]
   refine⟨b.1,Fh b.2 ?_ c.2⟩
   grind [cS]
theorem JB(x:aI)(p:Int)(l:List aI):cJ (fR x l) p=(decide (x.peer=p)||cJ l p):=by grind [cJ,(v7)]
def wC{id:Int}(hid:id<64):∀ {l:List aI} {a:Int},dU id a l=true->(∀x∈l,x.peer<64)-> -1<=a->a<64->(l.length:Int)+(if a<id then 1 else 0)+a+1<=64
 |[],a,_,_,c,d=>by grind
 |x::r,a,h,hp,c,d=>by
  simp only[dU,abR]at h
  have b:=h.1
  simp only[cS,abR,decide_eq_true_eq,afa,decide_eq_false_iff_not]at b
  obtain⟨⟨⟨⟨⟨⟨g,i⟩,_⟩,_⟩,_⟩,_⟩,_⟩:=b
  have e:=hp x (by simp)
  have:=wC hid h.2 (fun y f=>hp y (by simp[f])) (by omega) e
  grind
def Ge(p e:Int):∀l:List cj,(fS p e l).length<=l.length+1
 |[]=>by simp[fS]
 |k::r=>by
  unfold fS
  split
  .simp
  .split
   .simp
   .have:=Ge p e r;simp;omega
def qZ(n:Nd)(p:Int):Prop:= ∃x∈n.af,x.peer=p/\x.state=0
structure dd(n:Nd):Prop where
 dr:dC n.dr=true
 bk:cN n.book=true
 id:n.id<64
 pe:∀x∈n.af,x.peer<64
 ask:∀k∈n.asked,0<=k.peer/\k.peer<n.id/\cJ n.af k.peer=false/\0<=k.aP/\k.aP<=65535
 ad:n.asked.Pairwise fun x y=>x.peer≠y.peer
 wt:∀s∈n.book.aA,s.state=0->∀p∈s.need,qZ n p
 th:n.dr.aQ=1->∃s r,n.book.aA=s::r/\s.state=0/\s.need=n.dr.need
def jI(x:aI):Nat:=if x.state=2 then 1 else 0
def dB(told:List Int)(x:aI):Nat:=if r9 x=true/\x.peer∉told then 1 else 0
def jB(b:cd):Bool:=match b.aA with
 |[]=>false
 |s::_=>decide (s.state=0)
def nM(a:Int)(wb:Bool):Nat:=if a=0 then(if wb=true then 9 else 0)else if a=1 then 4+ci wb else ci wb
def mj(a b:Int)(wb:Bool)(u:Nat):Nat:=if a=0 then(if b=1\/(b=0/\wb=true)\/0<u then 3 else 0)else if a=1 then 2 else 1
def dP(n:Nd):Nat:=10*n.asked.length+bS ef n.af+bS jI n.af+4*bS (dB n.told) n.af+nM n.dr.aQ (jB n.book)+mj n.phase n.dr.aQ (jB n.book) (bS (dB n.told) n.af)
def ij(w:Wk):Nat:=w.out.length+w.seen.length+w.n.told.length+w.n.known.length+dP w.n
def iA(w a:Wk):Prop:=(a.n=w.n\/dP a.n<dP w.n)/\ij a<=ij w/\a.e=w.e
theorem iA.refl(w:Wk):iA w w:=⟨.inl rfl,ad3 _,rfl⟩
def iA.trans{w d e:Wk}(h:iA w d)(f:iA d e):iA w e:=by have⟨a,b,c⟩:=h;have⟨j,g,i⟩:=f;refine⟨?_,ai5 g b,i.trans c⟩;grind
structure amO(w0 w:Wk)(r:List cj):Prop where
 id:w.n.id=w0.n.id
 ph:w.n.phase=w0.n.phase
 th:w.n.dr.aQ=w0.n.dr.aQ
 nd:w.n.dr.need=w0.n.dr.need
 bk:w.n.book=w0.n.book
 told:w.n.told=w0.n.told
 aq:w.n.asked=w0.n.asked
 e:w.e=w0.e
 sub:∀x∈w0.n.af,x∈w.n.af
 ok:dU w.n.id (-1) w.n.af=true
 pe:∀x∈w.n.af,x.peer<64
 ask:∀k∈r,0<=k.peer/\k.peer<w.n.id/\cJ w.n.af k.peer=false/\0<=k.aP/\k.aP<=65535
 ad:r.Pairwise fun x y=>x.peer≠y.peer
 s1:bS ef w.n.af+2*r.length=bS ef w0.n.af+2*w0.n.asked.length
 s2:bS jI w.n.af=bS jI w0.n.af
 s3:bS (dB w.n.told) w.n.af=bS (dB w0.n.told) w0.n.af
 t:w.out.length+w.seen.length+w.n.known.length+3*r.length<=w0.out.length+w0.seen.length+w0.n.known.length+3*w0.n.asked.length
theorem Qf{b w:Wk}{k:cj}{r:List cj}(h:amO b w (k::r))(hid:w.n.id<64):amO b (w.iz k) r:=by
 have⟨l,m,d,o,p⟩:=h.ask k (by simp);have q:=Ge k.peer k.aP w.n.known;have hp:=ahg.1 h.ad;have f:=h.s1;have g:=h.t;simp only[aip]at f g;refine⟨h.id,h.ph,h.th,h.nd,h.bk,h.told,h.aq,h.e,fun x a=>v7.2 (.inr (h.sub x a)),Fh h.ok ?_ d,?_,?_,hp.2,?_,?_,?_,?_⟩
 .have:¬k.peer=w.n.id:=by omega
  have i:k.peer> -1:=by omega
  show cS w.n.id (-1) ⟨k.peer,k.aP,0,false,false,true,false,true⟩=true;simp[cS,this,i];omega
 .intro x a;rcases v7.1 a with rfl|a
  .show k.peer<64;omega
  .exact h.pe x a
 .intro j c;have⟨c1,c2,c3,c4,c5⟩:=h.ask j (by simp[c]);refine⟨c1,c2,?_,c4,c5⟩;show cJ (fR _ _) _=false;rw[JB,c3];have:=hp.1 j c;simp[this]
 .show bS ef (fR _ _)+_=_;rw[zC];simp only[ef,ci];simp;omega
 .show bS jI (fR _ _)=_;rw[zC, <-h.s2];simp[jI]
 .show bS (dB w.n.told) (fR _ _)=_;rw[zC, <-h.s3];simp[dB,r9]
 grind [Wk.iz,Wk.ey,Wk.send,Wk.oq,Wk.put]
def Ot{a:Wk}(hid:a.n.id<64):∀ {r:List cj} {w:Wk},amO a w r->amO a (r.foldl Wk.iz w) []
 |[],w,h=>h
 |k::r,w,h=>by
  rw[ai2]
  exact Ot (r:=r) hid (Qf h (by rw[h.id];exact hid))
theorem jn{d:cQ}:eo d=true↔0<=d.id/\0<=d.phase/\d.phase<=2/\d.af.length<64/\dU d.id (-1) d.af=true:=by grind [eo]
theorem ic{d:Dr}:dC d=true↔eo d.ai=true/\0<=d.aQ/\d.aQ<=2/\ek d.need=true/\(d.aQ=0->d.need=[])/\∀p∈d.need,cJ d.ai.af p=true:=by grind [dC]
theorem lM{l:List aI}{p:Int}:cJ l p=true↔ ∃x∈l,x.peer=p:=by simp[cJ]
def GZ{w:Wk}(h:dd w.n):dd (dA w).n/\iA w (dA w)/\(dA w).n.book=w.n.book/\(dA w).n.dr.aQ=w.n.dr.aQ:=by
 unfold dA;split
 case isFalse=>grind [(iA.refl)]
 have b:=ic.1 h.dr;have c:=jn.1 b.1;have a:=Ot h.id (w:=w) (r:=w.n.asked) ⟨rfl,rfl,rfl,rfl,rfl,rfl,rfl,rfl,fun _ h=>h,c.2.2.2.2,h.pe,h.ask,h.ad,rfl,rfl,rfl,by omega⟩;have⟨v,d⟩:=eg (w.n.asked.foldl Wk.iz w);have hA:w.answer=v.put {v.n with asked:=[]}:=by grind [Wk.answer]
 rw[d]at a;rw[hA];have hid:v.n.id<64:=by rw[a.id];exact h.id
 have u:=wC hid a.ok a.pe (by omega) (by omega);have y:v.n.id=w.n.id:=a.id;have z:0<=w.n.id:=c.1;have g:∀p,cJ w.n.af p=true->cJ v.n.af p=true:=fun p hp=>by grind [(lM),(amO.sub)]
 refine⟨⟨?_,?_,hid,a.pe,by simp[Wk.put],by simp[Wk.put],?_,?_⟩,⟨?_,?_,a.e⟩,a.bk,a.th⟩
 .refine ic.2 ⟨jn.2 ⟨by show 0<=v.n.id;omega,by show 0<=v.n.phase;rw[a.ph];exact c.2.1,by show v.n.phase<=2;rw[a.ph];exact c.2.2.1,?_,a.ok⟩,?_,?_,?_,?_,?_⟩
  .show v.n.af.length<64;omega
  .show 0<=v.n.dr.aQ;rw[a.th];exact b.2.1
  .show v.n.dr.aQ<=2;rw[a.th];exact b.2.2.1
  .show ek v.n.dr.need=true;rw[a.nd];exact b.2.2.2.1
  .show v.n.dr.aQ=0->v.n.dr.need=[];rw[a.th,a.nd];exact b.2.2.2.2.1
  .show ∀p∈v.n.dr.need,_;rw[a.nd];exact fun p hp=>g p (b.2.2.2.2.2 p hp)
 .show cN v.n.book=true;rw[a.bk];exact h.bk
 .show ∀s∈v.n.book.aA,_;rw[a.bk];intro s i j p hp;have⟨x,k,l⟩:=h.wt s i j p hp;exact⟨x,a.sub x k,l⟩
 .show v.n.dr.aQ=1->∃s r,v.n.book.aA=s::r/\s.state=0/\s.need=v.n.dr.need;rw[a.th,a.bk,a.nd];exact h.th
 .have m:=a.s1;have o:=a.s2;have q:=a.s3;by_cases f:w.n.asked=[]
  .left;rw[f]at d;simp at d;subst d;simp only[Wk.put];rw[<-f]
  grind [dP,Wk.put,(amO.ph),(amO.th),(amO.bk)]
 .have m:=a.s1;have o:=a.s2;have q:=a.s3;have A:=a.t;grind [(amO.ph),ij,dP,Wk.put,(amO.th),(amO.bk),(amO.told)]
theorem QA{bl:Int}:∀ {l:List bW} {b:Int} {f:Bool},dS bl b f l=true->∀s∈l,ek s.need=true/\s.need.length<=64
 |[],_,_,_=>by simp
 |s::r,b,f,h=>by
  simp only[dS,abR]at h
  intro t a
  rcases aeM.1 a with rfl|a
  .grind [dw,nh]
  .exact QA h.2 t a
def Ry{b:cd}(h:cN b=true):∀s∈b.aA,ek s.need=true/\s.need.length<=64:=by grind [cN,(QA)]
def Eu{w:Wk}(h:dd w.n):dd (dq w).n/\iA w (dq w)/\(dq w).n.book=w.n.book/\ ¬((dq w).n.dr.aQ=0/\jB w.n.book=true):=by
 unfold dq waits jB;have g:=ic.1 h.dr;cases b:w.n.book.aA with
 |nil=>grind [(iA.refl)]
 |cons s r=>
  simp only;by_cases a:s.state=0
  case neg=>grind [(iA.refl)]
  simp only[a,if_true];split
  case isFalse hth=>grind [(iA.refl)]
  case isTrue hth=>
   have f:s∈w.n.book.aA:=by rw[b];simp
   refine⟨⟨?_,h.bk,h.id,h.pe,h.ask,h.ad,h.wt,fun _=>⟨s,r,b,a,rfl⟩⟩,⟨.inr ?_,?_,rfl⟩,rfl,fun hc=>?_⟩
   .refine ic.2 ⟨g.1,by simp[Wk.put,Nd.di],by simp[Wk.put,Nd.di],(Ry h.bk s f).1,by simp[Wk.put,Nd.di],fun p hp=>?_⟩;have⟨x,i,j,_⟩:=h.wt s f a p hp;exact lM.2 ⟨x,i,j⟩
   .have c:jB w.n.book=true:=by simp[jB,b,a]
    have d:(w.put (w.n.di ⟨w.n.dr.ai,1,s.need⟩)).n.dr.aQ=1:=rfl;have e:(w.put (w.n.di ⟨w.n.dr.ai,1,s.need⟩)).n.book=w.n.book:=rfl;simp only[dP,d,e,hth,c];simp[Wk.put,Nd.di,nM,mj,ci,Nd.af,Nd.phase];first|exact Nat.add_lt_add_right (Nat.add_lt_add_left (by decide) _) _|exact am9 (Nat.add_le_add_left (by decide) _) _
   .have c:jB w.n.book=true:=by simp[jB,b,a]
    have d:(w.put (w.n.di ⟨w.n.dr.ai,1,s.need⟩)).n.dr.aQ=1:=rfl;have e:(w.put (w.n.di ⟨w.n.dr.ai,1,s.need⟩)).n.book=w.n.book:=rfl;simp only[ij,dP,d,e,hth,c];simp[Wk.put,Nd.di,nM,mj,ci,Nd.af,Nd.phase];first|exact Nat.add_lt_add_right (Nat.add_lt_add_left (by decide) _) _|exact am9 (Nat.add_le_add_left (by decide) _) _
   grind [Wk.put,Nd.di]
def afP{f:aI->Nat}{l:List aI}{x:aI}(a:x∈l)(h:0<f x):0<bS f l:=by
 induction l with
 |nil=>simp at a
 |cons y r b=>grind [bS]
def IL{w:Wk}(h:dd w.n):dd (dG w).n/\iA w (dG w)/\(dG w).n.book=w.n.book/\(dG w).n.dr.aQ=w.n.dr.aQ:=by
 unfold dG;have a:=ic.1 h.dr;have b:=jn.1 a.1;split
 case isFalse=>exact⟨h,iA.refl w,rfl,rfl⟩
 rename_i hc;have⟨d,e⟩:=hc;have⟨x,f,c⟩:=akq.1 e;have g:0<bS (dB w.n.told) w.n.af:=afP f (by simp only[untold,abR,afa,decide_eq_false_iff_not]at c;simp[dB,c])
 have i:dP (w.n.di ⟨⟨w.n.id,1,w.n.af⟩,w.n.dr.aQ,w.n.dr.need⟩)<dP w.n:=by have j:Nd.phase (w.n.di ⟨⟨w.n.id,1,w.n.af⟩,w.n.dr.aQ,w.n.dr.need⟩)=1:=rfl;have k:Nd.af (w.n.di ⟨⟨w.n.id,1,w.n.af⟩,w.n.dr.aQ,w.n.dr.need⟩)=w.n.af:=rfl;simp only[dP,d,Nd.di];simp only[mj,g,or_true,if_true];simp[Nd.phase]
 refine⟨⟨?_,h.bk,h.id,h.pe,h.ask,h.ad,h.wt,h.th⟩,⟨.inr i,?_,rfl⟩,rfl,rfl⟩
 .exact ic.2 ⟨jn.2 ⟨b.1,by simp[Wk.put,Nd.di],by simp[Wk.put,Nd.di],b.2.2.2⟩,a.2⟩
 grind [ij,Wk.put,Nd.di]
def fD(x:aI):Int×Int:=(x.peer,x.state)
def zA{f:aI->Nat}{g:Int×Int->Nat}(h:∀x,f x=g (fD x)):∀ {l m:List aI},l.map fD=m.map fD->bS f l=bS f m
 |[],[],_=>rfl
 |[],_::_,h=>by simp at h
 |_::_,[],h=>by simp at h
 |x::l,y::m,a=>by
  simp only[ag9,aiA]at a
  simp only[bS,h x,h y,a.1,zA h a.2]
def abN(x:aI):jI x=(fun k:Int×Int=>if k.2=2 then 1 else 0) (fD x):=rfl
def La(told:List Int)(x:aI):dB told x=(fun k:Int×Int=>if decide (k.2=1)=true/\k.1∉told then 1 else 0) (fD x):=rfl
theorem yQ{f:aI->aI}(h:∀x,fD (f x)=fD x)(l:List aI):(l.map f).map fD=l.map fD:=by simp_all
theorem MB(id a:Int)(x:aI):fD (cI id a x).1=fD x:=by grind [cI,fD]
theorem UC(id a:Int)(need:List Int)(x:aI):fD (bL id a need x).1=fD x:=by grind [bL,fD]
theorem Xt{d:cQ}(h:eo d=true):(fx d).1.af.map fD=d.af.map fD:=by
 have a:¬eo d=false:=by simp[h]
 unfold fx;rw[if_neg a];simp only;split
 .simp only;rw[yQ (f:=fun x=>{x with cK:=true}) (fun _=>rfl),yQ (fun x=>MB _ _ x)]
 grind [(yQ),(MB)]
def LH{d:Dr}(h:dC d=true):(cq d).1.ai.af.map fD=d.ai.af.map fD:=by grind [(Xt),(pW),cq,rl,(yQ),(UC)]
def UP(sd c o u:Nat)(t a p b d:Int)(wb e:Bool)(f:t=0\/t=1\/t=2)(hp:p=0\/p=1\/p=2)(g:¬(t=0/\wb=true))(h:c+o=sd)(i:(a=2/\t=1)\/a=t)
  (j:(b=2/\d=1)\/b=d) (k:d=if t=1/\p=0 then 1 else if p=2/\t≠1/\e=true then 0 else p) (l:e=true->u=0):
  c+nM a wb+mj b a wb u+o<=sd+nM t wb+mj p t wb u/\(o≠0\/a≠t\/b≠p->c+nM a wb+mj b a wb u<sd+nM t wb+mj p t wb u)/\ ¬(a=0/\wb=true):=by
 grind [nM,mj,ci]
def lZ(told:List Int)(wb:Bool)(d:Dr):Nat:=bS ef d.ai.af+nM d.aQ wb+mj d.ai.phase d.aQ wb (bS (dB told) d.ai.af)
def Mh{told:List Int}:∀ {l:List aI},l.any r9=false->bS (dB told) l=0
 |[],_=>rfl
 |x::r,a=>by
  simp only[alS,aiX]at a
  simp only[bS,Mh a.2,dB,a.1]
  simp
def apD{d:Dr}{told:List Int}{wb:Bool}(h:dC d=true)(r:¬(d.aQ=0/\wb=true)):lZ told wb (cq d).1+(cq d).2.length<=lZ told wb d/\((cq d).1≠d->lZ told wb (cq d).1<lZ told wb d)/\ ¬((cq d).1.aQ=0/\wb=true):=by
 have u:=FT h;have v:=CK d;have m:=P6 h;have o:=yK h;have w:=LH h;have x:bS (dB told) (cq d).1.ai.af=bS (dB told) d.ai.af:=zA (g:=fun k:Int×Int=>if decide (k.2=1)=true/\k.1∉told then 1 else 0) (La told) w;have y:=ic.1 h;have B:=jn.1 y.1
 have l:=UP (bS ef d.ai.af) (bS ef (cq d).1.ai.af) (cq d).2.length (bS (dB told) d.ai.af) d.aQ (cq d).1.aQ d.ai.phase (cq d).1.ai.phase (eG d) wb (!d.ai.af.any r9) (by omega) (by omega) r u v
  (by rcases m with h|h;exact .inl h;exact .inr h.1) (by simp[eG]) (fun hn=>Mh (by simpa using hn))
 simp only[lZ,x];refine⟨l.1,fun z=>l.2.1 ?_,l.2.2⟩;by_cases a:(cq d).2.length=0
 .by_cases b:(cq d).1.aQ=d.aQ
  .by_cases c:(cq d).1.ai.phase=d.ai.phase
   .exfalso
    apply z;rcases m with⟨q,e⟩|⟨q,e⟩
    .exfalso
     rw[q]at c;have:eG d=if d.aQ=1/\d.ai.phase=0 then 1 else if d.ai.phase=2/\d.aQ≠1/\(d.ai.af.any r9)=false then 0 else d.ai.phase:=rfl;rw[this, <-c]at e;simp at e;split at e<;>omega
    .have f:=e (List.length_eq_zero_iff.1 a);have j:=o.1;have hn:=o.2.2;revert b c f j hn
     generalize(cq d).1=A;intro b c f j hn;have⟨⟨i,p,s⟩,t,n⟩:=d;have⟨⟨C,D,E⟩,F,G⟩:=A;simp only at b c f j hn;rw[b,c,f,j,hn]
   .exact .inr (.inr c)
  .exact .inr (.inl b)
 omega
structure vP(told:List Int)(wb:Bool)(d d':Dr)(n:Nat):Prop where
 ok:dC d'=true
 j:¬(d'.aQ=0/\wb=true)
 m:lZ told wb d'+n<=lZ told wb d
 m2:d'≠d->lZ told wb d'<lZ told wb d
 k:d'.ai.af.map fD=d.ai.af.map fD
 id:d'.ai.id=d.ai.id
 nd:d'.need=d.need
 th:d'.aQ=d.aQ\/(d'.aQ=2/\d.aQ=1)
def vP.step{told:List Int}{wb:Bool}{d b:Dr}{n:Nat}(h:vP told wb d b n):vP told wb d (cq b).1 (n+(cq b).2.length):=by
 have c:=apD (told:=told) h.ok h.j;have e:=yK h.ok;have g:=CK b;have hm:=h.m;refine⟨Rg h.ok,c.2.2,by omega,fun f=>?_,(LH h.ok).trans h.k,e.1.trans h.id,e.2.2.trans h.nd,?_⟩
 .by_cases a:(cq b).1=b
  .rw[a]at f|-;exact h.m2 f
  .have:=c.2.1 a;omega
 grind [(vP.th)]
def QE{told:List Int}{wb:Bool}{d:Dr}:∀(k:Nat) (a:Dr) (out:List cB),vP told wb d a out.length->vP told wb d (qg k a out).1 (qg k a out).2.length
 |0,_,_,h=>h
 |k+1,a,out,h=>by
  have:=h.step
  unfold qg
  split
  .grind
  .exact QE k _ _ (by grind)
def Pq{told:List Int}{wb:Bool}{d:Dr}(h:dC d=true)(a:¬(d.aQ=0/\wb=true)):vP told wb d (lC d).1 (lC d).2.1.length:=by unfold lC;rw[if_neg (by simp[h])];exact QE _ d [] ⟨h,a,by simp,fun h=>absurd rfl h,rfl,rfl,rfl,.inl rfl⟩
def abX{l m:List aI}(h:l.map fD=m.map fD)(p:Int):cJ l p=cJ m p:=by
 have:∀l:List aI,cJ l p=(l.map fD).any fun k=>decide (k.1=p):=fun l=>by rw[List.any_map];rfl
 grind
def Su{l m:List aI}(h:l.map fD=m.map fD){x:aI}(a:x∈l):∃y∈m,y.peer=x.peer/\y.state=x.state:=by
 have b:fD x∈m.map fD:=by rw[<-h];exact aks a
 grind [fD]
def IC{w:Wk}(h:dd w.n)(j:¬(w.n.dr.aQ=0/\jB w.n.book=true)):dd (fF w).n/\iA w (fF w)/\(fF w).n.book=w.n.book:=by
 have r:=Pq (told:=w.n.told) h.dr j;unfold fF;have⟨d,o⟩:=eg ((lC w.n.dr).1);have⟨out,q⟩:=eg ((lC w.n.dr).2.1);rw[o,q]at r|-;have t:bS jI d.ai.af=bS jI w.n.dr.ai.af:=zA (g:=fun k:Int×Int=>if k.2=2 then 1 else 0) abN r.k;have hm:=r.m;simp only[lZ]at hm;have E:dP (w.n.di d)=10*w.n.asked.length+bS jI w.n.dr.ai.af+4*bS (dB w.n.told) w.n.dr.ai.af+lZ w.n.told (jB w.n.book) d:=by have u:bS (dB w.n.told) d.ai.af=bS (dB w.n.told) w.n.dr.ai.af:=zA (g:=fun k:Int×Int=>if decide (k.2=1)=true/\k.1∉w.n.told then 1 else 0) (La w.n.told) r.k;simp only[dP,Nd.di,Nd.af,Nd.phase,lZ,t,u];omega
 have F:dP w.n=10*w.n.asked.length+bS jI w.n.dr.ai.af+4*bS (dB w.n.told) w.n.dr.ai.af+lZ w.n.told (jB w.n.book) w.n.dr:=by simp only[dP,Nd.af,Nd.phase,lZ];omega
 refine⟨⟨r.ok,h.bk,by show d.ai.id<64;rw[r.id];exact h.id,?_,?_,h.ad,?_,?_⟩,⟨?_,?_,rfl⟩,rfl⟩
 .intro x b;have⟨y,c,e,_⟩:=Su r.k b;rw[<-e];exact h.pe y c
 .intro k v;have:=h.ask k v;show _/\k.peer<d.ai.id/\cJ d.ai.af k.peer=false/\_;rw[r.id,abX r.k];exact this
 .intro s z A p hp;have⟨x,b,e,B⟩:=h.wt s z A p hp;have⟨y,c,C,D⟩:=Su r.k.symm b;exact⟨y,c,C.trans e,D.trans B⟩
 .intro f;show ∃s l,w.n.book.aA=s::l/\s.state=0/\s.need=d.need;rw[r.nd];rcases r.th with a|⟨a,_⟩
  .exact h.th (by rw[<-a];exact f)
  .have:d.aQ=1:=f;rw[this]at a;cases a
 .by_cases i:d=w.n.dr
  .left;rw[i];rfl
  .right;have:=r.m2 i;show dP (w.n.di d)<dP w.n;omega
 grind [ij,Nd.di,lZ]
def Uj{bl a:Int}{s:bW}{r:List bW}(h:dS bl a true (s::r)=true)(b:s.state=0):dS bl a true ({s with state:=1}::r)=true:=by grind [dS,dw]
def Qr{w:Wk}(h:dd w.n):dd (fe w).n/\iA w (fe w):=by
 unfold fe waits;cases c:w.n.book.aA with
 |nil=>exact⟨h,iA.refl w⟩
 |cons s r=>
  simp only;by_cases b:s.state=0
  case neg=>simp only[b,if_false];exact⟨h,iA.refl w⟩
  simp only[b,if_true];split
  case isFalse=>exact⟨h,iA.refl w⟩
  rename_i hth;have f:(kD w.n.book).1=⟨w.n.book.last,{s with state:=1}::r⟩:=by unfold kD;rw[if_neg (by simp[h.bk]),c];simp[b]
  rw[f];have d:=h.bk;have g:jB w.n.book=true:=by simp[jB,c,b]
  have i:jB ⟨w.n.book.last,{s with state:=1}::r⟩=false:=by simp[jB]
  have j:dP ⟨w.n.dr,⟨w.n.book.last,{s with state:=1}::r⟩,w.n.known,w.n.told,w.n.asked⟩+1<=dP w.n:=by simp only[dP,Nd.af,Nd.phase,g,i,hth];simp only[nM,mj,ci];simp;split<;>(try split)<;>omega
  refine⟨⟨h.dr,?_,h.id,h.pe,h.ask,h.ad,?_,?_⟩,⟨.inr (Nat.lt_of_succ_le j),?_,rfl⟩⟩
  .simp only[cN,c,abR]at d;simp only[Wk.dJ,Wk.put,cN,abR];exact⟨⟨d.1.1,by have:=d.1.2;simp only[aip]at this|-;exact this⟩,Uj d.2 b⟩
  .intro t a e;simp only[Wk.dJ,Wk.put]at a;rcases aeM.1 a with rfl|a
   .simp at e
   .exact h.wt t (by rw[c];simp[a]) e
  .intro a;simp only[Wk.dJ,Wk.put]at a;rw[hth]at a;cases a
  grind [ij,Wk.dJ,Wk.put]
theorem FX{x y:Int}:∀ {l:List Int},y∈kB x l↔y=x\/y∈l
 |[]=>by simp[kB]
 |z::r=>by
  unfold kB
  split
  .simp
  .simp only[aeM,FX (l:=r)]
   grind
def MJ{y:Int}:∀ {l:List Int},y∈gv l↔y∈l
 |[]=>by simp[gv]
 |z::r=>by simp[gv,FX,MJ (l:=r)]
def Kv{y:Int}:∀ {l:List Int},y∈dt l↔y∈l
 |[]=>by simp[dt]
 |z::r=>by
  have a:=Kv (y:=y) (l:=r)
  grind [dt]
theorem vA{y:Int}{l:List Int}:y∈cD l↔y∈l:=by unfold cD;rw[Kv,MJ]
def R9(x:Int):∀l:List Int,(kB x l).length=l.length+1
 |[]=>rfl
 |z::r=>by
  unfold kB
  split
  .rfl
  .simp[R9 x r]
def BO:∀l:List Int,(gv l).length=l.length
 |[]=>rfl
 |z::r=>by simp[gv,R9,BO r]
def OK:∀l:List Int,(dt l).length<=l.length
 |[]=>ad3 _
 |z::r=>by
  have a:=OK r
  grind [dt]
def DW(l:List Int):(cD l).length<=l.length:=by unfold cD;rw[<-BO l];exact OK _
def Lo{told a:List Int}(h:∀p∈told,p∈a):∀l:List aI,bS (dB a) l<=bS (dB told) l
 |[]=>ad3 _
 |x::r=>by
  have b:=Lo h r
  grind [bS,dB]
def Af(id:Int):∀(l:List aI) (told:List Int) (out:List cB), ∃m,(jq id l told out).2.length=out.length+m/\(jq id l told out).1.length<=told.length+m/\(∀p∈told,p∈(jq id l told out).1)/\bS (dB (jq id l told out).1) l+m<=bS (dB told) l/\(m=0->jq id l told out=(told,out))
 |[],told,out=>⟨0,rfl,ad3 _,fun _ h=>h,ad3 _,fun _=>rfl⟩
 |x::r,told,out=>by
  unfold jq
  split
  .rename_i hc
   have⟨m,a,c,b,d,e⟩:=Af id r (gD told [x.peer]) (out++[ft id x 5])
   have⟨q,g⟩:=eg (jq id r (gD told [x.peer]) (out++[ft id x 5]))
   rw[g]at a c b d|-
   have f:∀p∈told,p∈gD told [x.peer]:=fun p hp=>by simp[gD,vA,hp]
   have i:x.peer∈gD told [x.peer]:=by simp[gD,vA]
   have j:(gD told [x.peer]).length<=told.length+1:=by
    have:=DW (told++[x.peer])
    simpa[gD]using this
   have hm:=Lo f r
   refine⟨m+1,by simp at a;omega,by omega,fun p hp=>b p (f p hp),?_,by omega⟩
   grind [bS,dB]
  .rename_i hc
   have⟨m,a,c,b,d,e⟩:=Af id r told out
   refine⟨m,a,c,b,?_,e⟩
   grind [bS,dB]
def Lp{w:Wk}(h:dd w.n):dd (iN w).n/\iA w (iN w):=by
 unfold iN;split
 case isFalse=>exact⟨h,iA.refl w⟩
 rename_i a;have⟨m,c,d,e,f,b⟩:=Af w.n.id w.n.af w.n.told w.out;unfold Wk.tell;have⟨q,g⟩:=eg (jq w.n.id w.n.af w.n.told w.out);rw[g]at c d e f b|-;simp only;have k:dP ({w.n with told:=q.1}:Nd)+4*m<=dP w.n:=by have i:Nd.phase ({w.n with told:=q.1}:Nd)=2:=a;have j:Nd.af ({w.n with told:=q.1}:Nd)=w.n.af:=rfl;simp only[dP,i,j,a,mj];simp only[show ¬((2:Int)=0)by decide,show ¬((2:Int)=1)by decide,if_false];omega
 refine⟨⟨h.dr,h.bk,h.id,h.pe,h.ask,h.ad,h.wt,h.th⟩,⟨?_,?_,rfl⟩⟩
 .by_cases hm:m=0
  .left;have:=b hm;subst this;rfl
  .right;show dP ({w.n with told:=q.1}:Nd)<dP w.n;omega
 grind [ij]
theorem wD(id a:Int)(b:List Int)(x:aI):((dD id a b x).1=[x]/\(dD id a b x).2=[])\/(x.state=2/\ ¬(a=2/\x.peer∈b)/\(dD id a b x).2.length=1/\((dD id a b x).1=[]\/(dD id a b x).1=[{x with state:=3}])):=by grind [dD]
def PG(id d:Int)(e told:List Int):∀l:List aI,bS ef (l.flatMap fun x=>(dD id d e x).1)<=bS ef l/\bS (dB told) (l.flatMap fun x=>(dD id d e x).1)=bS (dB told) l/\bS jI (l.flatMap fun x=>(dD id d e x).1)+(l.flatMap fun x=>(dD id d e x).2).length=bS jI l/\((l.flatMap fun x=>(dD id d e x).2)=[]->(l.flatMap fun x=>(dD id d e x).1)=l)
 |[]=>⟨ad3 _,rfl,rfl,fun _=>rfl⟩
 |x::r=>by
  have⟨f,g,i,j⟩:=PG id d e told r
  simp only[aiz,bS]
  rcases wD id d e x with⟨a,b⟩|⟨a,_,b,c⟩
  .grind [bS]
  .have k:jI x=1:=by simp[jI,a]
   have m:dB told x=0:=by simp[dB,r9,a]
   have n:(dD id d e x).2++(r.flatMap fun x=>(dD id d e x).2)≠ []:=by
    intro h
    have:=alm.1 h
    rw[this.1]at b
    cases b
   grind [bS,jI,dB,r9,ef]
def W6{id a:Int}{b:List Int}{l:List aI}{y:aI}(h:y∈l.flatMap fun x=>(dD id a b x).1):∃x∈l,y.peer=x.peer:=by grind [(wD)]
def LW{id a:Int}{b:List Int}{l:List aI}{x:aI}(c:x∈l)(h:x.state≠2\/(a=2/\x.peer∈b)):x∈l.flatMap fun x=>(dD id a b x).1:=by grind [(wD)]
theorem acr{id a b:Int}{x:aI}(h:cS id b x=true)(c:a<=b):cS id a x=true:=by grind [cS]
theorem L3{id:Int}:∀ {l:List aI} {a b:Int},dU id b l=true->a<=b->dU id a l=true
 |[],_,_,_,_=>rfl
 |x::r,a,b,h,c=>by
  grind [dU,(acr)]
def NY{i id th:Int}{nd:List Int}:∀ {l:List aI} {a:Int},dU i a l=true->dU i a (l.flatMap fun x=>(dD id th nd x).1)=true
 |[],_,_=>rfl
 |x::r,a,h=>by
  simp only[dU,abR]at h
  have b:=NY (id:=id) (th:=th) (nd:=nd) h.2
  grind [cS,(wD),dU,(L3)]
def NF(id a:Int)(b:List Int):∀l:List aI,(l.flatMap fun x=>(dD id a b x).1).length<=l.length
 |[]=>ad3 _
 |x::r=>by
  have c:=NF id a b r
  grind [(wD)]
def aoW{w:Wk}(h:dd w.n):dd w.lA.n/\iA w w.lA:=by
 have b:=ic.1 h.dr;have c:=jn.1 b.1;have⟨C,m,o,e⟩:=PG w.n.id w.n.dr.aQ w.n.dr.need w.n.told w.n.af;have q:=NF w.n.id w.n.dr.aQ w.n.dr.need w.n.af;have t:=NY (id:=w.n.id) (th:=w.n.dr.aQ) (nd:=w.n.dr.need) c.2.2.2.2;have f:∀p,qZ w.n p->∃x∈w.n.af.flatMap (fun x=>(dD w.n.id w.n.dr.aQ w.n.dr.need x).1),x.peer=p/\x.state=0:=by rintro p ⟨x,a,g,D⟩;exact⟨x,LW a (.inl (by omega)),g,D⟩
 have i:∀y∈w.n.af.flatMap (fun x=>(dD w.n.id w.n.dr.aQ w.n.dr.need x).1), ∃x∈w.n.af,y.peer=x.peer:=fun y d=>W6 d
 have u:∀p∈w.n.dr.need,cJ (w.n.af.flatMap (fun x=>(dD w.n.id w.n.dr.aQ w.n.dr.need x).1)) p=true:=by
  intro p hp;by_cases c1:w.n.dr.aQ=2
  .have ⟨x,a,v⟩:=lM.1 (b.2.2.2.2.2 p hp);exact lM.2 ⟨x,LW a (.inr ⟨c1,by rw[v];exact hp⟩),v⟩
  .by_cases c2:w.n.dr.aQ=1
   .have ⟨s,r,E,j,hn⟩:=h.th c2;have⟨x,a,g,_⟩:=f p (h.wt s (by rw[E];simp) j p (by rw[hn];exact hp));exact lM.2 ⟨x,a,g⟩
   .have F:w.n.dr.aQ=0:=by omega
    rw[b.2.2.2.2.1 F]at hp;simp at hp
 unfold Wk.lA;have⟨S,z⟩:=eg (w.n.af.flatMap (fun x=>(dD w.n.id w.n.dr.aQ w.n.dr.need x).1));have⟨O,G⟩:=eg (w.n.af.flatMap (fun x=>(dD w.n.id w.n.dr.aQ w.n.dr.need x).2));rw[z]at C m o q t f i u|-;rw[G]at o e|-;rw[z]at e;have W:dP (w.n.eK S)+O.length<=dP w.n:=by have H:Nd.phase (w.n.eK S)=w.n.phase:=rfl;have I:Nd.af (w.n.eK S)=S:=rfl;have J:(w.n.eK S).told=w.n.told:=rfl;have K:(w.n.eK S).dr.aQ=w.n.dr.aQ:=rfl;have L:(w.n.eK S).book=w.n.book:=rfl;have M:(w.n.eK S).asked=w.n.asked:=rfl;simp only[dP,H,I,J,K,L,M,m];omega
 refine⟨⟨?_,h.bk,h.id,?_,?_,h.ad,?_,h.th⟩,⟨?_,?_,rfl⟩⟩
 .exact ic.2 ⟨jn.2 ⟨c.1,c.2.1,c.2.2.1,by show S.length<64;have:=c.2.2.2.1;simp only[Nd.af]at q;omega,t⟩,b.2.1,b.2.2.1,b.2.2.2.1,b.2.2.2.2.1,u⟩
 .intro y d;have⟨x,a,l⟩:=i y d;rw[l];exact h.pe x a
 .intro k N;have⟨P,Q,A,R,T⟩:=h.ask k N;refine⟨P,Q,?_,R,T⟩;cases hc:cJ S k.peer with
  |false=>exact hc
  |true=>have⟨y,d,l⟩:=lM.1 hc;have⟨x,a,U⟩:=i y d;rw[lM.2 ⟨x,a,U.symm.trans l⟩]at A;cases A
 .intro s V j p hp;exact f p (h.wt s V j p hp)
 .by_cases B:O=[]
  .left;rw[e B];rfl
  .right;have:0<O.length:=akt.2 B;show dP (w.n.eK S)<dP w.n;omega
 grind [ij,Nd.eK]
def zD{w:Wk}(h:dd w.n):dd w.iw.n/\iA w w.iw:=by have⟨a,b,l,m⟩:=GZ h;have⟨c,d,o,p⟩:=Eu a;have⟨c1,c2,c3,c4⟩:=IL c;have⟨d1,d2,d3⟩:=IC c1 (by grind);have⟨e,f⟩:=Qr d1;have⟨g,i⟩:=Lp e;have⟨j,k⟩:=aoW g;exact⟨j,b.trans (d.trans (c2.trans (d2.trans (f.trans (i.trans k)))))⟩
instance iW5:W:=W0
section
variable{l:List Int}{H:List Ob}
theorem ac8:∀(a:Int) (l:List Int),dt (a::l)≠ []:=fun a l=>by grind [dt]
theorem aoO(x:Int):∀l:List Int,dt (l++[x])=if l.getLast?=some x then dt l else dt l++[x]
 |[]=>by simp[dt]
 |[a]=>by
  grind [dt]
 |a::b::r=>by
  have d:=aoO x (b::r)
  have e:(a::b::r).getLast?=(b::r).getLast?:=by simp[List.getLast?_cons]
  obtain⟨y,t,f⟩:∃y t,dt (b::r)=y::t:=by
   grind [dt]
  rw[e]
  by_cases c:(b::r).getLast?=some x
  .grind [dt]
  .rw[if_neg c]at d|-
   show(match dt ((b::r)++[x])with|[]=>[a]|z::t=>if a=z then z::t else a::z::t)=(match dt (b::r)with|[]=>[a]|z::t=>if a=z then z::t else a::z::t)++[x]
   grind
theorem MR{i:Nat}(a:0<i)(h:i<l.length):dt (l.take (i+1))=if l[i-1]'(by omega)=l[i]then dt (l.take i)else dt (l.take i)++[l[i]]:=by grind [(aiH),(aoO)]
def OU:tz.dF 191=uh:=by kernel_rfl
def XW{h v n:Nat}(c:H[h]?=some (.live v 1 (l.map aC)))(hn:l.length=n)(a:n<=1000000):aO tz ay 191 [bd h v 0 n] H=some (.aM [],H.set h (.live v 1 ((gv l).map aC))):=by
 have b:obj H h v=some (1,l.map aC):=by simp_all
 rw[dz (f:=191) rfl,gW FP,OU];simp[-obj,uh,DT,b,zf,hn,a]
def yy{f:FuncId}(hm:tz.md f=3){args:List aw}{r:Option (aw×List Ob)}(h:bB tz (ev tz) f args H=r):aO tz ay f args H=r:=by rw[aD,if_pos (.inl hm)];exact h
def uE(H:List Ob)(h v n:Nat)(l:List Int):List Ob:=H.set h (.live v 1 ((dt l++ahv (n-(dt l).length) (0:Int)).map aC))
theorem agU{h v n:Nat}(B:H[h]?=some (.live v 1 (l.map aC)))(hn:l.length=n)(hl:n<=1000000):aO tz ay 192 [bd h v 0 n] H=some (bd h v 0 (dt l).length,uE H h v n l):=by
 have Y:dt l=l->uE H h v n l=H:=fun e=>by unfold uE;rw[e,hn,ajB];grind [(lJ)]
 refine yy (by simp) ?_;refine tM func192 rfl ?_;simp only[f192,cr];refine bp [(0,bd h v 0 n)] (fun G=>G=H) ?_ ?_
 .simp
 rintro o G⟨C,_⟩a;obtain rfl:H=G:=a.symm;by_cases c2:n<2
 .have e:dt l=l:=by
   rcases l with _|⟨ak,_|⟨au,al⟩⟩
   .rfl
   .rfl
   .grind
  rw[Y e,e,hn];have E:(n:Int)<2:=by omega
  simp[C,E]
 have E:¬(n:Int)<2:=by omega
 refine bp [(0,bd h v 0 n)] (fun G=>G=H) ?_ ?_
 .simp[C,E]
 rintro o G⟨C,_⟩a;obtain rfl:H=G:=a.symm;rw[iM];refine Ends.sq ?_;refine bp [(0,bd h v 0 n),(3,aa (1:Nat))] (fun G=>G=H) ?_ ?_
 .simp[C]
 rintro o G g a;obtain rfl:H=G:=a.symm;rw[eC]
 have am:dt (l.take 1)=l.take 1:=by
  rcases l with _|⟨ak,al⟩
  .rfl
  .simp[dt]
 have⟨R,Z⟩:=eg (l.map aC);have ab:R.length=n:=by grind
 have ad:∀i (F:i<l.length),R[i]?=some [I l[i]]:=fun i F=>by rw[<-Z,adf,abM F];rfl
 rw[Z]at B;refine Ends.bl (gM (fun i:Nat=>[(0,bd h v 0 n),(3,aa i)]) (fun i G=>1<=i/\i<=n/\dt (l.take i)=l.take i/\G=H) [] (fun i=>n-i) _ [0,3] (fun _=>rfl) ?_ 1 _ g ⟨by omega,by omega,am,rfl⟩ rfl);rintro i ⟨o,G,t⟩ g ⟨g0,g2,J,a⟩ x;simp only at g g2 J x a;obtain rfl:H=G:=a.symm;subst x;simp at g;have⟨c,b⟩:=g;by_cases d:i<n
 case neg=>
  have F:i=n:=by omega
  have e:dt l=l:=by grind
  rw[Y e,e,hn];simp[c,b,d]
 have hw:adW.wrap ((i:Int)+1)=((i+1:Nat):Int):=cv (by omega);have ae:adW.wrap ((i:Int)-1)=((i-1:Nat):Int):=by grind [(fw)]
 have K:=ad i (by omega);have L:=ad (i-1) (by omega);have hd:i-1<n:=by omega
 have⟨an,hx⟩:=eg (l[i]'(by omega));have⟨ao,hy⟩:=eg (l[i-1]'(by omega));rw[hx]at K;rw[hy]at L;have t:=MR (l:=l) (i:=i) (by omega) (by omega);rw[hx,hy]at t;by_cases e:an=ao
 case neg=>rw[if_neg (ait e),J]at t;simp[-getElem?_pos,-ad0,c,b,d,B,K,L,ab,hw,ae,hd,e];grind [(aiH)]
 rw[if_pos e.symm,J]at t;subst e;have av:n-i+i=n:=by omega
 refine eh (fun S=>S.env.get 0=some (bd h v 0 n)/\S.env.get 3=some (aa i)/\S.bG=[]/\S.heap=H) ?_ ?_
 .simp[c,b,d]
 rintro⟨o,G,y⟩⟨c,b,rfl,a⟩;simp only at c b a;obtain rfl:H=G:=a.symm;rw[iM];refine Ends.sq ?_;rw[eC];refine Ends.bl ?_;rw[iM];refine Ends.sq ?_;refine(Ends.mono (Q:=fun ex S=>ex= .normal/\S.env.get 0=some (bd h v 0 n)/\S.env.get 3=some (aa i)/\S.env.get 25=some (aR true)/\S.bG=[]/\S.heap=H) ?_ ?_)
 .simp[-getElem?_pos,c,b,d,B,K,L,ab,ae,hd]
 rintro ex⟨o,G,y⟩⟨rfl,c,b,M,rfl,a⟩;simp only at c b M a;obtain rfl:H=G:=a.symm;simp only[];rw[TY,M,ap8,if_pos rfl];refine eh (fun S=>S.env.get 0=some (bd h v 0 n)/\S.env.get 3=some (aa i)/\S.env.get 4=some (bd h v i (n-i))/\S.bG=[]/\S.heap=H) ?_ ?_
 .have e1:i<=n:=by omega
  simp[c,b,B,e1]
 rintro⟨o,G,y⟩⟨c,b,q,rfl,a⟩;simp only at c b q a;obtain rfl:H=G:=a.symm;refine eh (fun S=>S.bG=[]/\∃f:List Int,S.env.get 0=some (bd h v 0 n)/\S.env.get 3=some (aa (dt l).length)/\f.length=n/\f.take (dt l).length=dt l/\S.heap=H.set h (.live v 1 (f.map aC))) ?_ ?_
 .refine eh (fun S=>Has S.env [(0,bd h v 0 n),(4,bd h v i (n-i)),(3,aa i),(5,aa (1:Nat))]/\S.bG=[]/\S.heap=H) ?_ ?_
  .simp[c,b,q]
  rintro⟨o,G,y⟩⟨g,rfl,a⟩;simp only at g a;obtain rfl:H=G:=a.symm;rw[eC];have ap:(l.take i).length=i:=by grind
  refine Ends.bl (gM (fun p:Nat×Nat=>[(0,bd h v 0 n),(4,bd h v i (n-i)),(3,aa p.2),(5,aa p.1)]) (fun p G=>1<=p.1/\p.1<=n-i/\p.2=(dt (l.take (i+p.1))).length/\p.2<=i+p.1-1/\∃f:List Int,f.length=n/\f.take p.2=dt (l.take (i+p.1))/\(∀m,i+p.1-1<=m->f[m]?=l[m]?)/\G=H.set h (.live v 1 (f.map aC))) [] (fun p=>n-p.1) _ [0,4,3,5] (fun _=>rfl) ?_ (1,i) _ g ⟨by omega,by omega,by rw[t,ap],by omega,l,hn,t.symm,fun _ _=>rfl,by grind [(lJ)]⟩ rfl);clear g c b q M;rintro⟨j,k⟩ ⟨o,G,y⟩ g ⟨j1,j2,j3,j4,f,z,r,N,a⟩ x;simp only at g j1 j2 j3 j4 z r N x a;subst x;simp at g;have⟨c,q,b,O⟩:=g;have s:G[h]?=some (.live v 1 (f.map aC)):=by grind
  have⟨u,A⟩:=eg (f.map aC);have D:u.length=n:=by grind
  rw[A]at s;by_cases P:j<n-i
  case neg=>
   have hj:i+j=n:=by omega
   rw[hj, <-hn,aiF]at j3 r;have aw:¬(j:Int)< ((n-i:Nat):Int):=by omega
   simp[c,b,q,O,P];grind
  have af:adW.wrap ((j:Int)+1)=((j+1:Nat):Int):=cv (by omega);have aq:adW.wrap ((k:Int)+1)=((k+1:Nat):Int):=cv (by omega);have ag:adW.wrap ((j:Int)-1)=((j-1:Nat):Int):=by grind [(fw)]
  have q1:(i+j)<l.length:=by omega
  have q2:i+(j-1)<l.length:=by omega
  have c1:u[i+j]?=some [I l[i+j]]:=by grind
  have c2:u[i+(j-1)]?=some [I l[i+(j-1)]]:=by grind
  have w:=MR (l:=l) (i:=i+j) (by omega) q1;have e0:i+j-1=i+(j-1):=by omega
  simp only[e0]at w;have⟨x',ah⟩:=eg l[i+j];have⟨y',ai⟩:=eg (l[i+(j-1)]);rw[ah]at c1;rw[ai]at c2;rw[ah,ai]at w;have aj:j-1<n-i:=by omega
  have T:k<n:=by omega
  have i1:i+j<n:=by omega
  have i2:i+(j-1)<n:=by omega
  by_cases e:x'=y'
  .rw[if_pos e.symm]at w;subst e;simp[-getElem?_pos,-ad0,c,b,q,O,P,aj,s,c1,c2,D,i1,i2,af,ag];have U:i+(j+1)=i+j+1:=by omega
   exact⟨j+1,by omega,k,⟨rfl,rfl⟩,by omega,by omega,by grind,by omega,f,z,by grind,fun m hm=>N m (by omega),a⟩
  .rw[if_neg (ait e)]at w;have V:(f.map aC)[k]?=some [I (f[k]'(by omega))]:=by rw[adf,abM (by omega)];rfl
   rw[A]at V;have⟨ax,ar⟩:=eg (f[k]'(by omega));rw[ar]at V;simp[-getElem?_pos,-ad0,V,c,b,q,O,P,aj,s,c1,c2,D,i1,i2,af,ag,aq,e,T];have U:i+(j+1)=i+j+1:=by omega
   refine⟨j+1,by omega,k+1,⟨rfl,rfl⟩,by omega,by omega,by rw[U,w,agc, <-j3];rfl,by omega,f.set k x',by simpa using z,?_,fun m hm=>?_,?_⟩
   .rw[U,w, <-r,aiH,ahr (by omega),List.take_set_of_le (ad3 k)];rfl
   .rw[aat (by omega)];exact N m (by omega)
   simp_all
 rintro⟨o,G,y⟩⟨rfl,f,c,b,z,r,a⟩;simp only at c b z r a;have s:G[h]?=some (.live v 1 (f.map aC)):=by grind
 have⟨k,W⟩:=eg ((dt l).length);have kl:=yw l;rw[W]at b r kl;have⟨u,A⟩:=eg (f.map aC);have D:u.length=n:=by grind
 rw[A]at s;have T:k<=n:=by omega
 rw[W];have gs:∀X,(G.set h X)[h]?=some X:=fun X=>ba s;have fin:G.set h (.live v 1 (dT u k (ahv (n-k) [I 0])))=uE H h v n l:=by unfold uE dT;rw[a,ajN,W,aid, <-r,akL,A,List.map_replicate,ajD (by simp;omega),aeU];rfl
 simp[-ad0,c,b,s,D,T,rv,gs];exact fin
def yr:tz.md 114=0:=by kernel_rfl
theorem M4(w:l.length<=1000000):aS tz ay 0 114 [.c (.eU (l.map aC))]=some (cw (cD l)):=by
 refine be func114 rfl ?_;have⟨n,hn⟩:=eg l.length;have b:=adH (rows:=l.map aC) (fun r f=>by obtain⟨x,_,rfl⟩:=aiK.1 f;rfl) (bi l) (by grind);rw[aio,hn]at b;have g:(gv l).length=n:=by rw[BO,hn]
 have i:=XW (H:=[ah 1 (l.map aC)]) (h:=0) (v:=0) (n:=n) (l:=l) rfl hn (by omega);have a:=agU (H:=[ah 1 ((gv l).map aC)]) (h:=0) (v:=0) (n:=n) (l:=gv l) rfl g (by omega);have j:=bi l;have d:cD l=dt (gv l):=rfl;have k:=yw (gv l);have⟨D,e⟩:=eg (dt (gv l));rw[e]at d;unfold uE at a;rw[e]at a k;rw[d];have m:aO tz ay 45 [.c (.eU (l.map aC))] []=some (bd 0 0 0 n,[ah 1 (l.map aC)]):=by simp[Pb,b,j]
 have o:aO tz ay 191 [bd 0 0 0 n] [ah 1 (l.map aC)]=some (.aM [],[ah 1 ((gv l).map aC)]):=i;have⟨Z,p⟩:=eg ((D++ahv (n-D.length) (0:Int)).map aC);rw[p]at a;have q:aO tz ay 192 [bd 0 0 0 n] [ah 1 ((gv l).map aC)]=some (bd 0 0 0 D.length,[ah 1 Z]):=a;have s:D.length<=Z.length:=by grind
 have t:Z.take D.length=D.map aC:=by grind
 have u:=bi D;simp[-aD,-aid,f114,m,o,q,s,t,u]
def PS:aS tz ay 0 114 [.c eW]=some (.c eW,[]):=by
 refine be func114 rfl ?_;have a:aO tz ay 45 [.c eW] []=some (.c eW,[]):=by simp[Pb,adn]
 have b:aO tz ay 191 [.c eW] []=some (.aM [],[]):=by rfl
 have d:aO tz ay 192 [.c eW] []=some (.c eW,[]):=by refine yy (by simp) ?_;refine tM func192 rfl ?_;simp[f192]
 simp[-aD,f114,a,b,d]
theorem yT:∀(rows:List (List ab)) (l:List Int),oU rows=some l->rows=l.map aC
 |[],l,h=>by
  grind [oU]
 |r::d,l,h=>by
  unfold oU at h
  split at h
  .grind
  .rename_i n f e
   injection e with a b
   subst a
   subst b
   split at h
   .rename_i g c
    injection h with h
    subst h
    rw[yT _ _ c]
    rfl
   .cases h
  .cases h
def Ig(f:gU tz){g:List aw}{r:aw}{i:List Ob}(h:ng g H=some (r,i)):Call aaG 114 g H r i:=by
 unfold ng at h;split at h
 .rename_i a;split at h
  .rename_i l b;split at h
   .rename_i hc;injection h with h;injection h with k m;subst k;subst m;rw[akQ]at hc;have hn:Call tz.P 114 [.c eW] [] (.c eW) []:=oP f (by simp[yr,PS]);unfold jl at b;split at b
    .rename_i x;split at b
     .rename_i rows d;have n:=yT _ _ b;subst n;have j:Call tz.P 114 [.c (.eU (l.map aC))] [] (bd 0 0 0 (cD l).length) [ah 1 ((cD l).map aC)]:=oP f (by simp[yr,M4 hc,cw,bi]);have o:l=[]->Call tz.P 114 [.c eW] [] (bd 0 0 0 (cD l).length) [ah 1 ((cD l).map aC)]:=fun e=>by subst e;exact x6 1 hn
      unfold rowsOf at d;split at d
      .injection d with e;subst e;cases l with
       |nil=>exact Rc (o rfl) j
       |cons y p=>exact Rr j
      .simp_all
      .simp_all
      .cases d
     .cases b
    .cases b
   .cases h
  .cases h
 .cases h
end
section
variable{H:List Ob}{l:List Int}
def aeA{P:Program}{f:FuncId}{x:aw}{r:aw}{d:List Ob}(g:Call P f [.c eW,x] H r d)(m:Call P f [.c (.eU []),x] H r d):Call P f [bh [],x] H r d:=by
 refine⟨g.1,fun h i j n=>?_⟩;have⟨y,k,e,b,l⟩:=n;rcases b with⟨b,_⟩|⟨a,cap,o,b,p,q⟩
 .exact g.2 h i j ⟨y,k,e,⟨b,rfl⟩,l⟩
 .exact m.2 h i j ⟨y,k,e,⟨a,cap,o,b,p,q⟩,l⟩
def O5{d:Type}(p:d->Bool):∀(l:List d) (k:Nat),(dv p k l= -1/\∀x∈l,p x=false)\/∃i, ∃h:i<l.length,dv p k l=((k+i:Nat):Int)/\p l[i]=true/\∀x∈l.take i,p x=false
 |[],k=> .inl ⟨rfl,fun x h=>by simp at h⟩
 |x::r,k=>by
  unfold dv
  cases h:p x with
  |true=>exact .inr ⟨0,by simp,by simp,h,fun x h=>by simp at h⟩
  |false=>
   rcases O5 p r (k+1)with⟨b,c⟩|⟨i,f,b,c,e⟩
   .refine .inl ⟨by simp[b],fun y a=>?_⟩
    rcases aeM.1 a with rfl|a
    .exact h
    .exact c y a
   .refine .inr ⟨i+1,by simp;omega,?_,c,fun y a=>?_⟩
    .simp only[aes,if_false]
     rw[b];congr 1;omega
    .rw[alF]at a
     rcases aeM.1 a with rfl|a
     .exact h
     .exact e y a
def kx(p:Int->Bool)(l:List Int):List Int:=l.filter fun x=>!p x
def NP{p:Int->Bool}{j:Nat}(h:j<l.length):kx p (l.take (j+1))=if p l[j]=true then kx p (l.take j)else kx p (l.take j)++[l[j]]:=by unfold kx;rw[aiH,abM h,ajl];cases hp:p l[j]<;>simp[hp]
def vQ(H:List Ob)(h v n:Nat)(l:List Int):List Ob:=H.set h (.live v 1 ((l++ahv (n-l.length) (0:Int)).map aC))
def abK(p:Int->Bool)(l:List Int):(kx p l).length<=l.length:=aiq ..
def afb{g:FuncId}{caps:List ab}{h v n:Nat}(p:Int->Bool)(hg:tz.md g≠3)(af:cy caps=true)(hc:∀(G:List Ob), ∀x∈l,aO tz ay g (aa x::caps.map .c) G=some (aR (p x),G))(u:H[h]?=some (.live v 1 (l.map aC)))(hn:l.length=n)(hl:n<=1000000):
  aO tz ay 299 [bd h v 0 n,.c (.bF g caps)] H=some (bd h v 0 (kx p l).length,vQ H h v n (kx p l)):=by
 have Y:=bi l
 have Z:=agx (g:=g) (caps:=caps) l (by unfold maxLen;omega) p (fun x r=>hc [] x r)
 refine yy (by simp) ?_
 refine tM func299 rfl ?_
 simp only[f299,cr]
 have⟨R,F⟩:=eg (l.map aC)
 have ag:R.length=n:=by rw[<-F];simpa using hn
 rw[F]at u Z Y
 have tk:R.take n=R:=acu (by omega)
 refine bp [(0,bd h v 0 n),(1,.c (.bF g caps))] (fun G=>G=H) ?_ ?_
 .simp
 rintro A G⟨w,B,_⟩b
 obtain rfl:H=G:=b.symm
 refine bp [(0,bd h v 0 n),(1,.c (.bF g caps)),(5,aa (dv p 0 l))] (fun G=>G=H) ?_ ?_
 .simp[w,B,hg,u,ag,tk,Y,af,Z]
 rintro A G⟨w,B,y,_⟩b
 obtain rfl:H=G:=b.symm
 rcases O5 p l 0 with⟨J,N⟩|⟨i,hi,J,N,i3⟩
 .have ah:kx p l=l:=ajq.2 fun x r=>by simp[N x r]
  have hd:vQ H h v n l=H:=by
   unfold vQ
   rw[hn,ajB]
   simp only[alG,aeU,F]
   exact lJ u
  rw[J]at y
  rw[ah,hd,hn]
  simp[w,y]
 rw[aiW]at J
 rw[J]at y
 have c0:¬(i:Int)= -1:=by omega
 have et:kx p (l.take i)=l.take i:=ajq.2 fun x r=>by simp[i3 x r]
 have ai:(l.take i).length=i:=by rw[ai1];omega
 refine bp [(0,bd h v 0 n),(1,.c (.bF g caps)),(5,aa i)] (fun G=>G=H) ?_ ?_
 .simp[w,B,y,c0]
 rintro A G⟨w,B,y,_⟩b
 obtain rfl:H=G:=b.symm
 refine eh (fun S=>S.bG=[]/\∃a:List Int,S.env.get 0=some (bd h v 0 n)/\S.env.get 5=some (aa (kx p l).length)/\a.length=n/\a.take (kx p l).length=kx p l/\S.heap=H.set h (.live v 1 (a.map aC))) ?_ ?_
 .refine bp [(0,bd h v 0 n),(1,.c (.bF g caps)),(5,aa i),(6,aa (i+1:Nat))] (fun G=>G=H) ?_ ?_
  .have hw:adW.wrap ((i:Int)+1)=((i+1:Nat):Int):=cv (by omega)
   simp[-ad0,w,B,y,hw]
  rintro A G C b
  obtain rfl:H=G:=b.symm
  rw[eC]
  have O:=NP (p:=p) hi
  rw[if_pos N,et]at O
  refine Ends.bl (gM (fun q:Nat×Nat=>[(0,bd h v 0 n),(1,.c (.bF g caps)),(5,aa q.2),(6,aa q.1)]) (fun q G=>q.1<=n/\q.2=(kx p (l.take q.1)).length/\q.2<q.1/\∃a:List Int,a.length=n/\a.take q.2=kx p (l.take q.1)/\(∀m,q.1<=m->a[m]?=l[m]?)/\G=H.set h (.live v 1 (a.map aC))) [] (fun q=>n-q.1) _ [0,1,5,6] (fun _=>rfl) ?_ (i+1,i) _ C ⟨by omega,by rw[O,ai],by omega,l,hn,O.symm,fun _ _=>rfl,by rw[F];exact(lJ u).symm⟩ rfl)
  rintro⟨j,k⟩⟨A,G,aj⟩C⟨j2,j3,j4,a,f,d,K,b⟩g5
  simp only at C j2 j3 j4 f d K g5 b
  subst g5
  simp at C
  have⟨z,b1,o,P⟩:=C
  have s:G[h]?=some (.live v 1 (a.map aC)):=by rw[b];exact ba u
  have⟨D,e⟩:=eg (a.map aC)
  have L:D.length=n:=by rw[<-e];simpa using f
  rw[e]at s
  by_cases Q:j<n
  case neg=>
   have hj:j=n:=by omega
   rw[hj, <-hn,aiF]at j3 d
   simp[z,o,P,Q]
   exact⟨by rw[j3],a,f,by rw[<-j3];exact d,b⟩
  have T:j<l.length:=by omega
  have ad:adW.wrap ((j:Int)+1)=((j+1:Nat):Int):=cv (by omega)
  have ak:adW.wrap ((k:Int)+1)=((k+1:Nat):Int):=cv (by omega)
  have c1:D[j]?=some [I l[j]]:=by rw[<-e,adf,K j (ad3 _),abM T];rfl
  have t:=NP (p:=p) T
  have E:=fun G=>hc G l[j] (aix T)
  have⟨x,r⟩:=eg l[j]
  rw[r]at c1 t E
  have U:k<n:=by omega
  have V:(a.map aC)[k]?=some [I (a[k]'(by omega))]:=by rw[adf,abM (by omega)];rfl
  rw[e]at V
  have⟨am,al⟩:=eg (a[k]'(by omega))
  rw[al]at V
  cases M:p x with
  |true=>
   rw[if_pos M]at t
   rw[M]at E
   simp[-aD,-getElem?_pos,-ad0,z,b1,o,P,Q,s,c1,L,ad,E]
   exact⟨j+1,by omega,k,⟨rfl,rfl⟩,by omega,by rw[t];exact j3,by omega,a,f,by rw[t];exact d,fun m hm=>K m (by omega),b⟩
  |false=>
   rw[if_neg (by rw[M];decide)]at t
   rw[M]at E
   simp[-aD,-getElem?_pos,-ad0,z,b1,o,P,Q,s,c1,L,ad,ak,E,V,U]
   refine⟨j+1,by omega,k+1,⟨rfl,rfl⟩,by omega,by rw[t,agc, <-j3];rfl,by omega,a.set k x,by simpa using f,?_,fun m hm=>?_,?_⟩
   .rw[t, <-d,aiH,ahr (by omega),List.take_set_of_le (ad3 k)]
    rfl
   .rw[aat (by omega)];exact K m (by omega)
   .rw[b,ajN,aiC,e];rfl
 rintro⟨A,G,aj⟩⟨rfl,a,z,o,f,d,b⟩
 simp only at z o f d b
 have s:G[h]?=some (.live v 1 (a.map aC)):=by rw[b];exact ba u
 have kl:=abK p l
 have⟨ae,hK⟩:=eg (kx p l)
 rw[hK]at o d kl|-
 have⟨k,W⟩:=eg ae.length
 rw[W]at o d kl
 have⟨D,e⟩:=eg (a.map aC)
 have L:D.length=n:=by rw[<-e];simpa using f
 rw[e]at s
 have U:k<=n:=by omega
 have gs:∀X,(G.set h X)[h]?=some X:=fun X=>ba s
 have fin:G.set h (.live v 1 (dT D k (ahv (n-k) [I 0])))=vQ H h v n ae:=by
  unfold vQ dT
  rw[b,ajN,W,aid, <-d,akL,e,List.map_replicate,ajD (by simp;omega),aeU]
  rfl
 rw[W]
 simp[-ad0,z,o,s,L,U,rv,gs]
 exact fin
end
section
variable{P:Program}{f g:FuncId}{a r:aw}{H H':List Ob}{caps:List ab}{la:ab}{l:List Int}
def ZP{rows:List (List ab)}(h:Call P f [a,bh rows] H r H'):Call P f [a,.c (.eU rows)] H r H':=by refine⟨h.1,fun d g i j=>?_⟩;have⟨y,k,e,l,z,m,n,⟨b,cap,o,p⟩,q⟩:=j;exact h.2 d g i ⟨y,k,e,l,z,m,n,.inr ⟨b,cap,o,p⟩,q⟩
def agj(h:Call P f [a,bh []] H r H'):Call P f [a,.c eW] H r H':=by refine⟨h.1,fun b d g i=>?_⟩;have⟨y,j,e,k,z,l,m,n,o⟩:=i;exact h.2 b d g ⟨y,j,e,k,z,l,m,.inl ⟨n.1,rfl⟩,o⟩
def abO(G:List Ob)(m:List Int)(hm:m.length<=1000000)(x:Int):aO tz ay 257 [aa x,.c (.aJ [[.aj (m.map aC)]] 0 0)] G=some (aR (!decide (x∈m)),G):=by
 have a:=qu m x (by unfold maxLen;omega);unfold aG at a;have b:=bi m;have h:aS tz ay 0 257 [aa x,.c (.aJ [[.aj (m.map aC)]] 0 0)]=some (aR (!decide (x∈m)),[]):=by refine be func257 rfl ?_;have⟨R,d⟩:=eg (m.map aC);rw[d]at a b|-;simp[f257,a,b]
 simp[h,b,bA]
def aaq(G:List Ob)(m:List Int)(hm:m.length<=1000000)(x:Int):aO tz ay 255 [aa x,.c (.aJ [[.aj (m.map aC)]] 0 0)] G=some (aR (decide (x∈m)),G):=by
 have a:=qu m x (by unfold maxLen;omega);unfold aG at a;have b:=bi m;have h:aS tz ay 0 255 [aa x,.c (.aJ [[.aj (m.map aC)]] 0 0)]=some (aR (decide (x∈m)),[]):=by refine be func255 rfl ?_;have⟨R,d⟩:=eg (m.map aC);rw[d]at a b|-;simp[f255,a,b]
 simp[h,b,bA]
def aft(b:tz.md g≠3)(a:cy caps=true)(q:Int->Bool)(x:Int)(hc:∀G,aO tz ay g (aa x::caps.map .c) G=some (aR (q x),G))(G:List Ob):aO tz ay 300 [aa x,.c (.aJ [[.bF g caps]] 0 0)] G=some (aR (!q x),G):=by
 have h:aS tz ay 0 300 [aa x,.c (.aJ [[.bF g caps]] 0 0)]=some (aR (!q x),[]):=by refine be func300 rfl ?_;simp[-aD,f300,hc]
 simp[h,a,bA]
def MI(u:bC la=true)(i:tz.md g≠3)(d:cy caps=true)(q:Int->Bool)(w:l.length<=1000000)(e:aO tz ay 114 [.c la] []=some (bd 0 0 0 (cD l).length,[ah 1 ((cD l).map aC)]))(hc:∀G x,aO tz ay g (aa x::caps.map .c) G=some (aR (q x),G)):
  aS tz ay 0 254 [.c la,.c (.bF g caps)]=some (cw ((cD l).filter q)):=by
 refine be func254 rfl ?_
 have f:(cD l).length<=1000000:=by have:=DW l;omega
 have⟨S,j⟩:=eg (cD l)
 rw[j]at e f|-
 have a:=afb (g:=300) (caps:=[.aJ [[.bF g caps]] 0 0]) (H:=[ah 1 (S.map aC)]) (h:=0) (v:=0) (n:=S.length) (l:=S) (fun x=>!q x) (by rw[(show tz.md 300=0 from rfl)];decide) (by simp[cy,bC,bA,d]) (fun G x _=>aft i d q x (fun G=>hc G x) G) rfl rfl f
 have k:kx (fun x=>!q x) S=S.filter q:=by unfold kx;congr 1;funext x;simp
 unfold vQ at a
 rw[k]at a
 have m:(S.filter q).length<=S.length:=aiq ..
 have⟨D,o⟩:=eg (S.filter q)
 rw[o]at a m|-
 have⟨Z,b⟩:=eg ((D++ahv (S.length-D.length) (0:Int)).map aC)
 rw[b]at a
 have p:aO tz ay 299 [bd 0 0 0 S.length,.c (.bF 300 [.aJ [[.bF g caps]] 0 0])] [ah 1 (S.map aC)]=some (bd 0 0 0 D.length,[ah 1 Z]):=a
 have r:D.length<=Z.length:=by rw[<-b];simp
 have s:Z.take D.length=D.map aC:=by rw[<-b,aid,akb (by simp),acu (by simp)]
 have t:=bi D
 simp[-aD,f254,e,p,r,s,t]
def Wy{m:List Int}(a:bC la=true)(d:∀g caps,la≠ .bF g caps)(f:l.length<=1000000)(hm:m.length<=1000000)(i:aO tz ay 114 [.c la] []=some (bd 0 0 0 (cD l).length,[ah 1 ((cD l).map aC)])):
  aO tz ay 254 [.c la,.c (.bF 257 [.aJ [[.aj (m.map aC)]] 0 0])] []=some (bd 0 0 0 (gJ l m).length,[ah 1 ((gJ l m).map aC)]):=by
 have b:=bi m
 have h:=MI (g:=257) (caps:=[.aJ [[.aj (m.map aC)]] 0 0]) a (by rw[(show tz.md 257=0 from rfl)];decide) (by simp[cy,bC,bA,b]) (fun x=>!decide (x∈m)) f i (fun G x=>abO G m hm x)
 have j:(cD l).filter (fun x=>!decide (x∈m))=gJ l m:=rfl
 rw[j]at h
 have k:=bi (gJ l m)
 have n:eO tz (.c la)=false:=by
  unfold eO
  split
  .rename_i g caps e
   injection e with e
   exact absurd e (d g caps)
  .rfl
 simp[-eO,n,a,b,bA,h,cw,k]
 simp[eO]
def Z8{m:List Int}(a:bC la=true)(d:∀g caps,la≠ .bF g caps)(f:l.length<=1000000)(hm:m.length<=1000000)(i:aO tz ay 114 [.c la] []=some (bd 0 0 0 (cD l).length,[ah 1 ((cD l).map aC)])):
  aO tz ay 254 [.c la,.c (.bF 255 [.aJ [[.aj (m.map aC)]] 0 0])] []=some (bd 0 0 0 (jZ l m).length,[ah 1 ((jZ l m).map aC)]):=by
 have b:=bi m
 have h:=MI (g:=255) (caps:=[.aJ [[.aj (m.map aC)]] 0 0]) a (by rw[(show tz.md 255=0 from rfl)];decide) (by simp[cy,bC,bA,b]) (fun x=>decide (x∈m)) f i (fun G x=>aaq G m hm x)
 have j:(cD l).filter (fun x=>decide (x∈m))=jZ l m:=rfl
 rw[j]at h
 have k:=bi (jZ l m)
 have n:eO tz (.c la)=false:=by
  unfold eO
  split
  .rename_i g caps e
   injection e with e
   exact absurd e (d g caps)
  .rfl
 simp[-eO,n,a,b,bA,h,cw,k]
 simp[eO]
end
section
variable{l:List Int}{la:ab}{g:FuncId}{caps:List ab}
def P5(a:l.length<=1000000):aO tz ay 114 [.c (.eU (l.map aC))] []=some (bd 0 0 0 (cD l).length,[ah 1 ((cD l).map aC)]):=by simp[yr,M4 a,cw,bi]
def Ze{m:List Int}(e:bC la=true)(f:∀g caps,la≠ .bF g caps)(i:l.length<=1000000)(hm:m.length<=1000000)(j:aO tz ay 114 [.c la] []=some (bd 0 0 0 (cD l).length,[ah 1 ((cD l).map aC)])):aS tz ay 0 190 [.c la,bh (m.map aC)]=some (cw (gJ l m)):=by refine be func190 rfl ?_;have h:=Wy e f i hm j;have a:=bi (gJ l m);have⟨D,b⟩:=eg (gJ l m);have⟨M,d⟩:=eg (m.map aC);rw[b,d]at h;rw[b]at a|-;rw[d];simp[-aD,f190,h,a]
def SW{m:List Int}(e:bC la=true)(f:∀g caps,la≠ .bF g caps)(i:l.length<=1000000)(hm:m.length<=1000000)(j:aO tz ay 114 [.c la] []=some (bd 0 0 0 (cD l).length,[ah 1 ((cD l).map aC)])):aS tz ay 0 185 [.c la,bh (m.map aC)]=some (cw (jZ l m)):=by refine be func185 rfl ?_;have h:=Z8 e f i hm j;have a:=bi (jZ l m);have⟨D,b⟩:=eg (jZ l m);have⟨M,d⟩:=eg (m.map aC);rw[b,d]at h;rw[b]at a|-;rw[d];simp[-aD,f185,h,a]
def YM:aS tz ay 0 235 [.c eW,.c (.bF g caps)]=some (aa (-1),[]):=by
 refine be func235 rfl ?_;simp only[f235,cr];refine bp [(0,.c eW)] (fun G=>G=[]) ?_ ?_
 .simp
 rintro a G⟨b,_⟩rfl;rw[iM];refine Ends.sq ?_;refine bp [(7,aa 0),(8,aa 0)] (fun G=>G=[]) ?_ ?_
 .simp[b]
 rintro a G d rfl;rw[eC];refine iv (fun _:Nat=>[(7,aa 0),(8,aa 0)]) (fun _ G=>G=[]) (fun j=>j) ?_ 0 d rfl fun _=>rfl;rintro j a G ⟨e,f,_⟩ rfl;simp[e,f]
def Nt(b:tz.md g≠3)(a:cy caps=true):aO tz ay 254 [.c eW,.c (.bF g caps)] []=some (.c eW,[]):=by
 have d:=YM (g:=300) (caps:=[.aJ [[.bF g caps]] 0 0]);have e:aO tz ay 114 [.c eW] []=some (.c eW,[]):=by simp[yr,PS]
 have f:aO tz ay 299 [.c eW,.c (.bF 300 [.aJ [[.bF g caps]] 0 0])] []=some (.c eW,[]):=by refine yy (by simp) ?_;refine tM func299 rfl ?_;simp[f299,d,a,bA]
 have h:aS tz ay 0 254 [.c eW,.c (.bF g caps)]=some (.c eW,[]):=by refine be func254 rfl ?_;simp[-aD,f254,e,f]
 simp[b,a,h]
end
section
variable{f:FuncId}{H H':List Ob}{r:aw}{vs:List aw}{m:List Int}
def Ls{a:aw}{l:List Int}(h:jl a=some l):a=bh (l.map aC)\/a= .c (.eU (l.map aC))\/(a= .c eW/\l=[]):=by
 unfold jl at h;split at h
 .rename_i x;split at h
  .rename_i rows b;have d:=yT _ _ h;subst d;unfold rowsOf at b;split at b
   .injection b with e;subst e;exact .inl rfl
   .injection b with e;subst e;exact .inr (.inl rfl)
   .injection b with e
    have:l=[]:=by cases l with
     |nil=>rfl
     |cons y f=>cases e
    exact .inr (.inr ⟨rfl,this⟩)
   .cases b
  .cases h
 .cases h
def T5{P:Program}{x:aw}{q:List ab}{rows:List (List ab)}(d:Call P f [.c (.eU (q::rows)),x] H r H'):Call P f [bh (q::rows),x] H r H':=by
 refine⟨d.1,fun g h i j=>?_⟩;have⟨y,k,e,b,l⟩:=j;rcases b with⟨_,b⟩|⟨a,cap,m,b,n,o⟩
 .cases b
 .exact d.2 g h i ⟨y,k,e,⟨a,cap,m,b,n,o⟩,l⟩
def Qi{F:List Int->List Int->List Int}(d:∀l m:List Int,l.length<=100000->m.length<=100000->Call aaG f [.c (.eU (l.map aC)),bh (m.map aC)] [] (cw (F l m)).1 (cw (F l m)).2)
  (hn:∀m:List Int,m.length<=100000->Call aaG f [.c eW,bh (m.map aC)] [] (cw (F [] m)).1 (cw (F [] m)).2) (h:jX F vs H=some (r,H')):Call aaG f vs H r H':=by
 unfold jX at h
 split at h
 .rename_i a b
  split at h
  .rename_i l m e hm
   split at h
   .rename_i hc
    simp only[abR,akQ]at hc
    injection h with h
    have g:(cw (F l m)).1=r:=by rw[h]
    have i:(cw (F l m)).2=H':=by rw[h]
    subst g i
    have first:Call aaG f [a,bh (m.map aC)] [] (cw (F l m)).1 (cw (F l m)).2:=by
     rcases Ls e with rfl|rfl|⟨rfl,rfl⟩
     .cases l with
      |nil=>exact aeA (hn m hc.2) (d [] m hc.1 hc.2)
      |cons x j=>exact T5 (d (x::j) m hc.1 hc.2)
     .exact d l m hc.1 hc.2
     .exact hn m hc.2
    rcases Ls hm with rfl|rfl|⟨rfl,rfl⟩
    .exact first
    .exact ZP first
    .exact agj first
   .cases h
  .cases h
 .cases h
def abw:aS tz ay 0 190 [.c eW,bh (m.map aC)]=some (.c eW,[]):=by refine be func190 rfl ?_;have a:=bi m;have h:=Nt (g:=257) (caps:=[.aJ [[.aj (m.map aC)]] 0 0]) (by rw[(show tz.md 257=0 from rfl)];decide) (by simp[cy,bC,bA,a]);have⟨M,b⟩:=eg (m.map aC);rw[b]at h|-;simp[-aD,f190,h]
def acx:aS tz ay 0 185 [.c eW,bh (m.map aC)]=some (.c eW,[]):=by refine be func185 rfl ?_;have a:=bi m;have h:=Nt (g:=255) (caps:=[.aJ [[.aj (m.map aC)]] 0 0]) (by rw[(show tz.md 255=0 from rfl)];decide) (by simp[cy,bC,bA,a]);have⟨M,b⟩:=eg (m.map aC);rw[b]at h|-;simp[-aD,f185,h]
def OP:tz.md 190=0:=by kernel_rfl
def Qw:tz.md 185=0:=by kernel_rfl
def afZ(m:List Int):gJ [] m=[]:=rfl
def adt(m:List Int):jZ [] m=[]:=rfl
def ZD(a:gU tz)(h:jX gJ vs H=some (r,H')):Call aaG 190 vs H r H':=by
 refine Qi (fun l m b hm=>oP a ?_) (fun m hm=>?_) h
 .have:=Ze (la:= .eU (l.map aC)) (l:=l) (m:=m) (by simp[bC,bi]) (fun g c e=>by cases e) (by omega) (by omega) (P5 (by omega));simp[OP,this,cw,bi]
 .rw[afZ];exact x6 1 (oP a (by simp[OP,abw,bi]))
def WI(a:gU tz)(h:jX jZ vs H=some (r,H')):Call aaG 185 vs H r H':=by
 refine Qi (fun l m b hm=>oP a ?_) (fun m hm=>?_) h
 .have:=SW (la:= .eU (l.map aC)) (l:=l) (m:=m) (by simp[bC,bi]) (fun g c e=>by cases e) (by omega) (by omega) (P5 (by omega));simp[Qw,this,cw,bi]
 .rw[adt];exact x6 1 (oP a (by simp[Qw,acx,bi]))
end
instance iW6:W:=W2
section
variable{H H':List Ob}{r:aw}{l:List Int}{Γ:az}{y:Value}
theorem N1{P:Program}{f:FuncId}{args args':List aw}(c:∀Γ b,bT Γ args b->bT Γ args' b)(h:Call P f args' H r H'):Call P f args H r H':=⟨h.1,fun Γ d a hc=>h.2 Γ d a (c Γ _ hc)⟩
theorem PY{l:ab}{rows:List (List ab)}(h:rowsOf l=some rows)(hc:aB Γ l y):aB Γ (.aj rows) y:=by
 unfold rowsOf at h;split at h
 .cases h;exact hc
 .cases h;simp only[aB]at hc|-;exact .inr hc
 .cases h;simp only[aB]at hc|-;exact .inl ⟨hc.1,trivial⟩
 .cases h
def Pe{a:aw}(h:jl a=some l)(hc:aL Γ a y):aL Γ (bh (l.map aC)) y:=by
 unfold jl at h;split at h
 .split at h
  .rename_i rows b;rw[yT _ _ h]at b;exact PY b hc
  .cases h
 .cases h
def Nb:tz.dH 114=true:=by kernel_rfl
def NW:tz.md 114=0:=by kernel_rfl
def Rs:tz.dF 114=ng:=by kernel_rfl
def agz(l:List Int):jl (bh (l.map aC))=some l:=by simp[jl,rowsOf,zf]
def LQ{h v n:Nat}(a:H[h]?=some (.live v 1 (l.map aC)))(hn:l.length=n)(i:n<=1000000):aO tz ay 114 [bd h v 0 n] H=some (bd H.length 0 0 (cD l).length,H++[ah 1 ((cD l).map aC)]):=by
 have b:aS tz ay 0 114 [bh (l.map aC)]=some (cw (cD l)):=by
  unfold aS ay;rw[gW Nb,Rs];have e:l.length<=1000000:=by omega
  simp[ng,agz,cw,e,bi]
 have c:=bi l;have j:=bi (cD l);have⟨L,d⟩:=eg (l.map aC);have f:L.length=n:=by rw[<-d];simpa using hn
 rw[d]at b a c;have g:L.take n=L:=acu (by omega);simp[NW,a,f,g,c,b,cw]
def ae8{n:Nat}(a:0<n)(g:n<=1000000):aS tz ay 0 355 [.c eW,aa n]=some (bd 0 0 0 0,[ah 1 []]):=by
 refine be func355 rfl ?_;have b:¬((n:Int)<0):=by omega
 have h:(0:Int)<n:=by omega
 have d:adW.wrap 0=0:=by decide
 have w1:adW.wrap (n:Int)=n:=by rw[wrap_i64]<;>omega
 have i:n≠0:=by omega
 have j:n<=maxLen:=by unfold maxLen;omega
 have e:n*8<=140737488355328:=by omega
 have f:(n:Int)<=9223372036854775807:=by omega
 simp[f355,b,d,w1,ank,e,f,a]
def Wh:aS tz ay 0 355 [.c eW,aa 0]=some (.c eW,[]):=by
 refine be func355 rfl ?_;have a:adW.wrap 0=0:=by decide
 simp[f355,a]
def UH{m:List Int}(U:l.length<=100000)(hm:m.length<=100000):aS tz ay 0 344 [bh [[.aj (l.map aC)],[.aj (m.map aC)]]]=some (bd 0 0 0 (l++m).length,[ah 1 ((l++m).map aC)]):=by
 refine be func344 rfl ?_;simp only[f344,cr];have V:=bi l;have W:=bi m;have⟨L,h⟩:=eg (l.map aC);have⟨M,i⟩:=eg (m.map aC);have⟨a,A⟩:=eg l.length;have⟨b,B⟩:=eg m.length;have k:L.length=a:=by rw[<-h];simpa using A
 have v:M.length=b:=by rw[<-i];simpa using B
 have X:∀r∈L,r.length=1:=fun r o=>by rw[<-h]at o;obtain⟨x,_,rfl⟩:=aiK.1 o;rfl
 have Y:∀r∈M,r.length=1:=fun r o=>by rw[<-i]at o;obtain⟨x,_,rfl⟩:=aiK.1 o;rfl
 rw[aid,agc,h,i,A,B];rw[h]at V;rw[i]at W;rw[A]at U;rw[B]at hm;refine bp [(0,bh [[.aj L],[.aj M]])] (fun G=>G=[]) ?_ ?_
 .simp
 rintro e G⟨f,_⟩rfl;refine bp [(0,bh [[.aj L],[.aj M]]),(3,aa (0:Nat))] (fun G=>G=[]) ?_ ?_
 .simp[f]
 rintro e G⟨f,C,_⟩rfl;refine bp [(0,bh [[.aj L],[.aj M]]),(3,aa (a+b:Nat))] (fun G=>G=[]) ?_ ?_
 .refine eh (fun S=>Has S.env [(0,bh [[.aj L],[.aj M]]),(3,aa (0:Nat)),(9,bh [[.aj L],[.aj M]]),(10,aa (2:Nat)),(11,aa (0:Nat))]/\S.bG=[]/\S.heap=[]) ?_ ?_
  .simp[f,C]
  rintro⟨e,G,D⟩⟨d,rfl,rfl⟩;simp only at d;rw[eC];refine Ends.bl (gM (fun x:Nat×Nat=>[(0,bh [[.aj L],[.aj M]]),(3,aa x.2),(9,bh [[.aj L],[.aj M]]),(10,aa (2:Nat)),(11,aa x.1)]) (fun x G=>((x.1=0/\x.2=0)\/(x.1=1/\x.2=a)\/(x.1=2/\x.2=a+b))/\G=[]) [] (fun x=>2-x.1) _ [0,3,9,10,11] (fun _=>rfl) ?_ (0,0) _ d ⟨.inl ⟨rfl,rfl⟩,rfl⟩ rfl);rintro⟨j,t⟩ ⟨e,G,D⟩ d ⟨p,rfl⟩ q;simp only at d p q;subst q;simp at d;have⟨E,F,Q,H,I⟩:=d;have w1:adW.wrap ((a:Int)+b)=((a+b:Nat):Int):=by rw[wrap_i64]<;>omega
  have w2:adW.wrap (a:Int)=(a:Int):=by rw[wrap_i64]<;>omega
  have Z:¬((a:Int)<0):=by omega
  have n2:¬(((a+b:Nat):Int)<0):=by omega
  rcases p with⟨rfl,rfl⟩|⟨rfl,rfl⟩|⟨rfl,rfl⟩
  .simp[-ad0,E,F,Q,H,I,k,w2,Z];exact⟨1,by omega,_,⟨rfl,by decide⟩,.inr (.inl ⟨rfl,rfl⟩)⟩
  .simp[-ad0,E,F,Q,H,I,v,w1,n2];exact⟨2,by omega,_,⟨rfl,by decide⟩,.inr (.inr ⟨rfl,rfl⟩)⟩
  .simp[-ad0,E,F,H,I]
 rintro e G⟨f,C,_⟩rfl
 obtain⟨g,w,s,y,z,u,hq,bj,bm,f3⟩:∃(g w s:ab) (y z u:List Ob),aO tz ay 355 [.c eW,aa (a+b:Nat)] []=some (.c g,y)/\pj aaG y 30 30 g (.aj L)=some (.c w,z)/\pj aaG z 30 30 w (.aj M)=some (.c s,u)/\
   dI false u (.c s)=some (bd 0 0 0 (a+b),[ah 1 (L++M)]):=by
  have ad:bA (L++M)=true:=by rw[<-h, <-i, <-aid];exact bi _
  have m1:(∀r:List ab,r∈L->r.length=1)=True:=eq_true X
  have m2:(∀r:List ab,r∈M->r.length=1)=True:=eq_true Y
  have k1:a+b<=maxLen:=by unfold maxLen;omega
  have k2:(a+b)*8<=140737488355328:=by omega
  have k3:a<=maxLen:=by unfold maxLen;omega
  have k4:a*8<=140737488355328:=by omega
  have k5:(a+b<=a/\0<b)=False:=eq_false (by omega)
  have k6:(a=0/\0<a)=False:=eq_false (by omega)
  have t1:L.take a=L:=acu (by omega)
  have t2:(L++M).take (a+b)=L++M:=acu (by rw[agc];omega)
  have ae:(L++M).length=a+b:=by rw[agc,k,v]
  by_cases hz:a+b=0
  .obtain rfl:a=0:=by omega
   obtain rfl:b=0:=by omega
   obtain rfl:L=[]:=ae4 k
   obtain rfl:M=[]:=ae4 v
   refine⟨eW,.sl 0 0 0 0,.sl 0 1 0 0,[],[ah 1 []],[.live 1 1 []],?_,?_,?_,?_⟩
   .simp[Wh]
   .simp
   .simp
   .simp
  .have af:=ae8 (n:=a+b) (by omega) (by omega)
   refine⟨.sl 0 0 0 0,.sl 0 1 0 a,.sl 0 2 0 (a+b),[ah 1 []],[.live 1 1 L],[.live 2 1 (L++M)],?_,?_,?_,?_⟩
   .simp[-ad0,af]
   .simp[k,m1,k3,k4,k6]
   .simp[k,v,m2,k1,k2,k5,t1]
   .simp[-agc,ae,t2,ad]
 refine bp [(0,bh [[.aj L],[.aj M]]),(6,.c g)] (fun G=>G=y) ?_ ?_
 .simp[-aD,-ad0,f,C,hq]
 rintro e G⟨f,J,_⟩rfl;refine bp [(6,.c s)] (fun G=>G=u) ?_ ?_
 .refine eh (fun S=>Has S.env [(6,.c g),(25,bh [[.aj L],[.aj M]]),(26,aa (2:Nat)),(27,aa (0:Nat))]/\S.bG=[]/\S.heap=G) ?_ ?_
  .simp[f,J]
  rintro⟨e,G',D⟩⟨d,rfl,R⟩;simp only at d R;subst R;rw[eC];refine Ends.bl (gM (fun x:Nat×ab=>[(6,.c x.2),(25,bh [[.aj L],[.aj M]]),(26,aa (2:Nat)),(27,aa x.1)]) (fun x K=>(x.1=0/\x.2=g/\K=G')\/(x.1=1/\x.2=w/\K=z)\/(x.1=2/\x.2=s/\K=u)) [] (fun x=>2-x.1) _ [6,25,26,27] (fun _=>rfl) ?_ (0,g) _ d (.inl ⟨rfl,rfl,rfl⟩) rfl);rintro⟨j,t⟩ ⟨e,K,D⟩ d p q;simp only at d p q;subst q;simp at d;have⟨N,T,O,P⟩:=d;rcases p with⟨rfl,rfl,rfl⟩|⟨rfl,rfl,rfl⟩|⟨rfl,rfl,rfl⟩
  .simp[-pj,-ad0,N,T,O,P,bj];exact⟨1,by omega,_,⟨rfl,by decide⟩,.inr (.inl ⟨rfl,rfl⟩)⟩
  .simp[-pj,-ad0,N,T,O,P,bm];exact⟨2,by omega,_,⟨rfl,by decide⟩,.inr (.inr ⟨rfl,rfl⟩)⟩
  .simp[-pj,-ad0,N,O,P]
 rintro e G⟨J,_⟩rfl;simp[-dI,-ad0,J,f3]
def XO{m:List Int}(p:l.length<=100000)(hm:m.length<=100000):aS tz ay 0 318 [bh (l.map aC),bh (m.map aC)]=some (cw (gD l m)):=by
 refine be func318 rfl ?_;have c:=UH p hm;have w:(l++m).length<=200000:=by rw[agc];omega
 have a:=LQ (H:=[ah 1 [[.aj (l.map aC)],[.aj (m.map aC)]],ah 1 ((l++m).map aC)]) (h:=1) (v:=0) (n:=(l++m).length) (l:=l++m) rfl rfl (by omega);have d:=bi l;have e:=bi m;have f:=bi (l++m);have g:=bi (gD l m);have r:cD (l++m)=gD l m:=rfl;rw[r]at a;have⟨U,s⟩:=eg (gD l m);rw[s]at a g|-;have⟨L,i⟩:=eg (l.map aC);have⟨M,j⟩:=eg (m.map aC);have⟨K,b⟩:=eg ((l++m).map aC);have⟨k,t⟩:=eg ((l++m).length);rw[i,j,b,t]at c a;rw[i]at d|-;rw[j]at e|-;rw[b]at f;have u:aO tz ay 344 [bd 0 0 0 2] [ah 1 [[.aj L],[.aj M]]]=some (bd 1 0 0 k,[ah 1 [[.aj L],[.aj M]],ah 1 K]):=by simp[d,e,f,c];intro x o;rw[<-b]at o;obtain⟨q,_,rfl⟩:=aiK.1 o;rfl
 simp[-aD,f318,u,a,g]
def Zg(e:gU tz){c:List aw}(h:jX gD c H=some (r,H')):Call aaG 318 c H r H':=by
 unfold jX at h;split at h
 .rename_i a b;split at h
  .rename_i l m f hm;split at h
   .rename_i hc;simp only[abR,akQ]at hc;injection h with h;have g:(cw (gD l m)).1=r:=by rw[h]
    have i:(cw (gD l m)).2=H':=by rw[h]
    subst g i;refine N1 (args':=[bh (l.map aC),bh (m.map aC)]) (fun Γ n d=>?_) (oP e ?_)
    .simp only[bT]at d|-;obtain⟨y,t,rfl,j,z,t2,rfl,k,rfl⟩:=d;exact⟨y,_,rfl,Pe f j,z,_,rfl,Pe hm k,rfl⟩
    .have:=XO hc.1 hc.2;simp[this,cw,bi]
   .cases h
  .cases h
 .cases h
end
instance iW7:W:=W1
def w2:adW.wrap 2=2:=by decide
def w3:adW.wrap 3=3:=by decide
def w5:adW.wrap 5=5:=by decide
def CG(k:Int):Int:=if k=9 then 5 else if 1<=k/\k<=8 then 3 else 0
def aoG(k:Int):aS tz ay 0 133 [aa k]=some (aa (CG k),[]):=by
 refine be func133 rfl ?_;unfold CG;by_cases b:k=9
 .simp[f133,w2,w5,b]
 by_cases a:k=1\/k=2\/k=3\/k=4\/k=5\/k=6\/k=7\/k=8
 .rcases a with a|a|a|a|a|a|a|a;all_goals simp[f133,w3,a]
 simp only[not_or]at a;have⟨a,c,d,e,f,g,h,i⟩:=a;have:¬(1<=k/\k<=8):=by omega
 simp[f133,a,c,d,e,f,g,h,i,b,this]
def vU(m:cY):Bool:=!decide (m.aP<0)&&!decide (m.aP>65535)&&!decide (m.num<0)&&!decide (m.num>65535)&&!decide (CG m.kind=0)&&(!decide (CG m.kind=3)||decide (m.num=0))
def S3(m:cY):aS tz ay 0 132 [.agg (br m)]=some (aR (vU m),[]):=by
 refine be func132 rfl ?_;have a:=aoG m.kind;have⟨s,b⟩:=eg (CG m.kind);rw[b]at a;unfold vU;rw[b];by_cases c1:m.aP<0
 .simp[f132,br,c1]
 by_cases c2:m.aP>65535
 .simp[f132,br,c1,c2]
 by_cases c3:m.num<0
 .simp[f132,br,c1,c2,c3]
 by_cases c4:m.num>65535
 .simp[f132,br,c1,c2,c3,c4]
 by_cases c5:s=0
 .simp[f132,br,c1,c2,c3,c4,a,c5]
 by_cases c:s=3
 .simp[f132,br,c1,c2,c3,c4,a,c]
 .simp[f132,br,c1,c2,c3,c4,a,c5,c]
def fv:pA aaG 9=true:=by kernel_rfl
def tU:rT aaG 135=true:=by kernel_rfl
abbrev U4(x:Int):ab:= .v (.int .u32 x)
def jx(x:Int):UInt8:=al1 (ajf.wrap x).toNat
def qH(x:Int):List UInt8:=[jx (x.fdiv (2 ^ 24)),jx (x.fdiv (2 ^ 16)),jx (x.fdiv (2 ^ 8)),jx x]
def afn:(4:Nat)<=maxLen:=by decide
def ZX:min 24 ajV.bits=24:=rfl
def agQ:min 16 ajV.bits=16:=rfl
def UJ:min 8 ajV.bits=8:=rfl
def OY(x:Int):aS tz ay 0 219 [.c (U4 x)]=some (.c (Sg (qH x)),[]):=by refine be func219 rfl ?_;have⟨a,e⟩:=eg (ajf.wrap (x.fdiv (2 ^ 24)));have⟨b,f⟩:=eg (ajf.wrap (x.fdiv (2 ^ 16)));have⟨c,hc⟩:=eg (ajf.wrap (x.fdiv (2 ^ 8)));have⟨d,g⟩:=eg (ajf.wrap x);simp only[qH,jx,e,f,hc,g];simp[f219,gV,nH,bytesOf,fv,tU,afn,ZX,agQ,UJ,e,f,hc,g,-Int.reducePow]
def DH(a b:Int):Int:=jp .xor .u32 a b
def oM(x:Int):Int:=jp .and .u32 x 15
def Ba(j:Int):Int:=li.getD j.toNat 0
def SF(x:Int):Int:=DH (x.fdiv (2 ^ 4)) (Ba (oM x))
def xh(x:Int)(b:UInt8):Int:=SF (SF (DH x (ajV.wrap (b.toNat:Int))))
def xJ(x:Int)(s:List UInt8):Int:=sr .u32 (s.foldl xh (sr .u32 x))
def JU(x:Int):0<=oM x/\oM x<16:=by
 have h:(aji 32 x&&&aji 32 15).toNat<16:=by rw[BitVec.toNat_and];exact Nat.lt_of_le_of_lt Nat.and_le_right (by decide)
 unfold oM jp;show 0<=ajV.wrap ((aji 32 x&&&aji 32 15).toNat:Int)/\ajV.wrap ((aji 32 x&&&aji 32 15).toNat:Int)<16;have⟨n,hn⟩:=eg ((aji 32 x&&&aji 32 15).toNat);rw[hn]at h|-
 have:ajV.wrap (n:Int)=n:=by
  have a:∀m:Fin 16,ajV.wrap ((m.val:Nat):Int)=(m.val:Nat):=by decide
  exact a ⟨n,h⟩
 rw[this];omega
def X4:tj 2=some (.aJ [li.map fun n=> .v (.int .u32 n)] 0 0):=rfl
def Vv{j:Int}(h:0<=j/\j<16):(li.map fun n=>ab.v (.int .u32 n))[j.toNat]?=some (U4 (Ba j)):=by
 have a:∀m:Fin 16,(li.map fun n=>ab.v (.int .u32 n))[m.val]?=some (U4 (li.getD m.val 0)):=by
  intro m;match m with
  |⟨0,_⟩=>rfl
  |⟨1,_⟩=>rfl
  |⟨2,_⟩=>rfl
  |⟨3,_⟩=>rfl
  |⟨4,_⟩=>rfl
  |⟨5,_⟩=>rfl
  |⟨6,_⟩=>rfl
  |⟨7,_⟩=>rfl
  |⟨8,_⟩=>rfl
  |⟨9,_⟩=>rfl
  |⟨10,_⟩=>rfl
  |⟨11,_⟩=>rfl
  |⟨12,_⟩=>rfl
  |⟨13,_⟩=>rfl
  |⟨14,_⟩=>rfl
  |⟨15,_⟩=>rfl
  |⟨n+16,h⟩=>exact absurd h (by omega)
 exact a ⟨j.toNat,by omega⟩
def agS(P:Program)(H:List Ob)(t:TypeId)(y:Operand)(a b:Int):gV P H .xor t y (some (.c (U4 a))) (some (.c (U4 b)))=some (.c (U4 (DH a b))):=rfl
def adU(P:Program)(H:List Ob)(t:TypeId)(y:Operand)(a:Int):gV P H .shr t y (some (.c (U4 a))) (some (.c (.v (.int .u64 4))))=some (.c (U4 (a.fdiv (2 ^ 4)))):=rfl
def WY(rows:List (List ab))(z:Int):sc aaG 435 (some (.c (.aJ rows 0 0))) (some (.c (U4 (oM z))))=some (.c (.aJ rows 0 (oM z).toNat)):=by have:=JU z;simp[sc,this]
def Xp(z:Int):ajV.wrap (((z % 2 ^ ajV.bits).toNat&&&15 % 2 ^ ajV.bits:Nat):Int)=oM z:=by unfold oM jp;simp[BitVec.toNat_and,alX]
def ZF(x:Int)(s:List UInt8)(w:s.length<=1000000):aS tz ay 0 273 [.c (U4 x),.c (Sg s)]=some (.c (U4 (xJ x s)),[]):=by
 refine be func273 rfl ?_;simp[f273,fX,fv];refine iy (fun k:Nat=>[(10,aa s.length),(11,aa k),(1,.c (Sg s)),(5,.c (U4 ((s.take k).foldl xh (sr .u32 x))))]) (fun k H=>k<=s.length/\H=[]) (fun k=>s.length-k) ?_ 0 (by simp) (by simp) fun _=>rfl;rintro k e H ⟨g,h,o,d,_⟩ ⟨A,p⟩;subst p;have⟨y,a⟩:=eg ((s.take k).foldl xh (sr .u32 x));rw[a]at d;have⟨R,f⟩:=eg (li.map (fun n=>ab.v (.int .u32 n)));have B:R.length=16:=by rw[<-f];rfl
 have q:∀z,R[(oM z).toNat]?=some (U4 (Ba (oM z))):=fun z=>by rw[<-f];exact Vv (JU z)
 have C:∀z,((oM z).toNat+1<=16)=True:=fun z=>eq_true (by have:=JU z;omega);have i:=X4;rw[f]at i;by_cases j:k<s.length
 .have r:adW.wrap ((k:Int)+1)=((k+1:Nat):Int):=cv (by omega)
  have l:(s.take (k+1)).foldl xh (sr .u32 x)=xh y s[k]:=by
   have t:s.take (k+1)=s.take k++[s[k]]:=by simp
   rw[t,ajh,a];rfl
  have⟨b,m⟩:=eg s[k];rw[m]at l;have u:s[k]?=some b:=by rw[abM j,m]
  simp[g,h,o,d,j,u,r,fv,nB,agS,Xp,adU,WY,q,i,-gV,-getElem?_pos,-Int.reducePow];exact⟨k+1,by omega,⟨by simp,by rw[l];rfl⟩,by omega⟩
 .obtain rfl:k=s.length:=by omega
  rw[aiF]at a;have hm:xJ x s=sr .u32 y:=by unfold xJ;rw[a]
  rw[hm];simp[g,h,d,E7]
def ru(s:List UInt8):Int:=xJ 0 s
def Qj(s:List UInt8)(b:s.length<=1000000):aS tz ay 0 220 [.c (Sg s)]=some (.c (U4 (ru s)),[]):=by refine be func220 rfl ?_;have h:=ZF 0 s b;have⟨y,a⟩:=eg (xJ 0 s);rw[a]at h;unfold ru;rw[a];simp[f220,h]
def xy(s:List UInt8):Option (List UInt8):=if s.length<4 then none else if s.drop (s.length-4)=qH (ru (s.take (s.length-4)))then some (s.take (s.length-4))else none
def aa7(s:List UInt8)(m:s.length<=1000000):aS tz ay 0 159 [.c (Sg s)]=some (match xy s with|none=> .aM [.c (Sg []),aR false]|some t=> .aM [.c (Sg t),aR true],[]):=by
 refine be func159 rfl ?_;have e:adW.wrap ((s.length:Int)-4)=(s.length:Int)-4:=fw (by omega) (by omega);unfold xy;by_cases c1:s.length<4
 .have a:(s.length:Int)-4<0:=by omega
  simp[f159,fX,fv,e,c1,a]
 have a:¬(s.length:Int)-4<0:=by omega
 have h:((s.length:Int)-4).toNat=s.length-4:=by omega
 have n:0<=(s.length:Int)-4:=by omega
 have i:(s.length:Int)-4<=s.length:=by omega
 have j:(4:Int)<=s.length:=by omega
 have b:=Qj (s.take (s.length-4)) (by simp;omega);have⟨y,k⟩:=eg (ru (s.take (s.length-4)));rw[k]at b|-;have f:=OY y;have⟨z,l⟩:=eg (qH y);rw[l]at f|-;have⟨t,g⟩:=eg (s.take (s.length-4));rw[g]at b|-;have⟨u,d⟩:=eg (s.drop (s.length-4));rw[d];have o:(s.take s.length).drop (s.length-4)=u:=by rw[aiF];exact d
 by_cases c2:u=z
 .subst c2;simp[f159,fX,am6,gV,fv,e,c1,a,h,i,j,b,f,g,d]
 .simp[f159,fX,am6,gV,fv,e,c1,a,h,i,j,b,f,g,d,c2]
def Fi(x:Int):UInt8:=jx (x.fdiv (2 ^ 8))
def QI(m:cY):List UInt8:=[jx m.kind,Fi m.aP,jx m.aP,Fi m.num,jx m.num]
def jv(m:cY):List UInt8×Int:=if vU m=false then([],70)else((QI m).take (CG m.kind).toNat,0)
def zH:min 8 adW.bits=8:=rfl
def PR:(5:Nat)<=maxLen:=by decide
def aa6{m:cY}(h:vU m=true):CG m.kind=3\/CG m.kind=5:=by
 have a:¬CG m.kind=0:=by intro e;simp[vU,e]at h
 unfold CG at a|-;split
 .exact .inr rfl
 .rename_i b;rw[if_neg b]at a;split
  .exact .inl rfl
  .rename_i c;rw[if_neg c]at a;exact absurd rfl a
def XI(m:cY):aS tz ay 0 80 [.agg (br m)]=some (.aM [.c (Sg (jv m).1),aa (jv m).2],[]):=by
 refine be func80 rfl ?_;have e:=S3 m;have g:=aoG m.kind;unfold jv;cases h:vU m with
 |false=>rw[h]at e;simp only[br]at e;simp[f80,br,e]
 |true=>
  rw[h]at e;simp only[br]at e;have⟨a,i⟩:=eg (ajf.wrap m.kind);have⟨b,j⟩:=eg (ajf.wrap (m.aP.fdiv (2 ^ 8)));have⟨c,hc⟩:=eg (ajf.wrap m.aP);have⟨d,k⟩:=eg (ajf.wrap (m.num.fdiv (2 ^ 8)));have⟨f,l⟩:=eg (ajf.wrap m.num);simp only[QI,Fi,jx,i,j,hc,k,l];rcases aa6 h with n|n
  .rw[n]at g|-;simp[f80,br,e,g,gV,nH,bytesOf,fv,tU,PR,zH,i,j,hc,k,l,-Int.reducePow]
  .rw[n]at g|-;simp[f80,br,e,g,gV,nH,bytesOf,fv,tU,PR,zH,i,j,hc,k,l,-Int.reducePow]
def EQ(l:List UInt8):cY:=⟨(l.getD 0 0).toNat,(l.getD 1 0).toNat*256+(l.getD 2 0).toNat,if l.length>3 then(l.getD 3 0).toNat*256+(l.getD 4 0).toNat else 0⟩
def ln(l:List UInt8):cY×Int:=if l=[]\/ ¬(l.length:Int)=CG (l.getD 0 0).toNat then(⟨0,0,0⟩,71)else(EQ l,0)
def YS(k:Int):CG k=0\/CG k=3\/CG k=5:=by
 unfold CG;repeat' split
 all_goals simp
def K8(b c:UInt8):jp .or .i64 ((b.toNat:Int)*256) (c.toNat:Int)=(b.toNat:Int)*256+c.toNat:=by
 have e:=b.toNat_lt;have hc:=c.toNat_lt;unfold jp;show adW.wrap ((aji 64 ((b.toNat:Int)*256)|||aji 64 (c.toNat:Int)).toNat:Int)=_;rw[BitVec.toNat_or,alX,alX];have a:((b.toNat:Int)*256 % (2 ^ 64:Nat)).toNat=2 ^ 8*b.toNat:=by rw[al3 (by omega) (by omega)];omega
 have d:((c.toNat:Int) % (2 ^ 64:Nat)).toNat=c.toNat:=by rw[al3 (by omega) (by omega)];omega
 rw[a,d, <-Nat.two_pow_add_eq_or_of_lt (by omega)];rw[fw (by omega) (by omega)];omega
def wb(a:UInt8):adW.wrap (a.toNat:Int)=(a.toNat:Int):=by have:=a.toNat_lt;exact fw (by omega) (by omega)
def P0(a:UInt8):adW.wrap ((a.toNat:Int)*256)=(a.toNat:Int)*256:=by have:=a.toNat_lt;exact fw (by omega) (by omega)
def Xn(l:List UInt8)(k:l.length<=1000000):aS tz ay 0 141 [.c (Sg l)]=some (.aM [.agg (br (ln l).1),aa (ln l).2],[]):=by
 refine be func141 rfl ?_;unfold ln;by_cases h:l=[]
 .simp[f141,h,gV,br]
 obtain⟨a,r,rfl⟩:∃a r,l=a::r:=by
  cases l with
  |nil=>exact absurd rfl h
  |cons a r=>exact⟨a,r,rfl⟩
 have f:=aoG (a.toNat:Int);obtain⟨z,g⟩:=eg (CG (a.toNat:Int));have i:=YS (a.toNat:Int);rw[g]at f i;by_cases hn:(((a::r).length:Nat):Int)=z
 case neg=>
  have j:¬((r.length:Int)+1=z):=by simpa using hn
  simp[f141,gV,fX,nB,fv,br,wb,f,g,j]
 rcases i with rfl|rfl|rfl
 ·(simp at hn<;>omega)
 .obtain ⟨b,c,rfl⟩:∃b c,r=[b,c]:=by
   match r,hn with
   |[b,c],_=>exact⟨b,c,rfl⟩
   |[],hn=>simp at hn
   |[_],hn=>simp at hn
   |_::_::_::_,hn=>(simp at hn<;>omega)
  simp[f141,gV,fX,nB,fv,br,wb,P0,K8,f,g,EQ,zH]
 .obtain ⟨b,c,d,e,rfl⟩:∃b c d e,r=[b,c,d,e]:=by
   match r,hn with
   |[b,c,d,e],_=>exact⟨b,c,d,e,rfl⟩
   |[],hn=>simp at hn
   |[_],hn=>simp at hn
   |[_,_],hn=>simp at hn
   |[_,_,_],hn=>simp at hn
   |_::_::_::_::_::_,hn=>(simp at hn<;>omega)
  simp[f141,gV,fX,nB,fv,br,wb,P0,K8,f,g,EQ,zH]
abbrev U8(x:Int):ab:= .v (.int .u64 x)
def QU(a b:Int):Int:=jp .or .u64 a b
def xi(x:Int)(b:UInt8):Int:=QU (aiY.wrap (x*2 ^ 8)) (aiY.wrap (b.toNat:Int))
def nQ(l:List UInt8)(a n:Nat):Int:=((l.take (a+n)).drop a).foldl xi 0
def agp(P:Program)(H:List Ob)(t:TypeId)(y:Operand)(a b:Int):gV P H .or t y (some (.c (U8 a))) (some (.c (U8 b)))=some (.c (U8 (QU a b))):=rfl
def V7(P:Program)(H:List Ob)(t:TypeId)(y:Operand)(a:Int):gV P H .shl t y (some (.c (U8 a))) (some (.c (.v (.int .u64 8))))=some (.c (U8 (aiY.wrap (a*2 ^ 8)))):=rfl
def z6(l:List UInt8)(a n:Nat)(w:l.length<=1000000)(h:a+n<=l.length):aS tz ay 0 158 [.c (Sg l),aa a,aa n]=some (.c (U8 (nQ l a n)),[]):=by
 refine be func158 rfl ?_;have g:adW.wrap ((a:Int)+n)=((a+n:Nat):Int):=by rw[fw (by omega) (by omega)];omega
 have⟨t,d⟩:=eg ((l.take (a+n)).drop a);have x:t.length=n:=by rw[<-d];simp;omega
 have q:t.length<=maxLen:=by unfold maxLen;omega
 have c1:(0:Int)<=a:=by omega
 have c2:(a:Int)<=((a+n:Nat):Int):=by omega
 have c3:((a+n:Nat):Int)<=l.length:=by omega
 have c4:((a+n:Nat):Int).toNat=a+n:=by omega
 have c5:(a:Int).toNat=a:=by omega
 unfold nQ;rw[d];simp[f158,am6,nH,fv,tU,g,c1,c2,c3,c4,c5,d,q,-ad0];refine iy (fun k:Nat=>[(16,bd 0 0 0 t.length),(17,aa t.length),(18,aa k),(7,.c (U8 ((t.take k).foldl xi 0)))]) (fun k H=>k<=t.length/\H=[ah 1 (t.map eA)]) (fun k=>t.length-k) ?_ 0 (by simp) (by simp) fun _=>rfl;rintro k e H ⟨r,j,m,i,_⟩ ⟨z,s⟩;subst s;have⟨y,f⟩:=eg ((t.take k).foldl xi 0);rw[f]at i;by_cases o:k<t.length
 .have g:adW.wrap ((k:Int)+1)=((k+1:Nat):Int):=cv (by omega)
  have d:(t.take (k+1)).foldl xi 0=xi y t[k]:=by
   have u:t.take (k+1)=t.take k++[t[k]]:=by simp
   rw[u,ajh,f];rfl
  have⟨b,p⟩:=eg t[k];rw[p]at d;have v:t[k]?=some b:=by rw[abM o,p]
  simp[r,j,m,i,o,v,g,eA,agp,V7,-gV,-getElem?_pos,-Int.reducePow];exact⟨k+1,by omega,⟨by simp,by rw[d];rfl⟩,by omega⟩
 .obtain rfl:k=t.length:=by omega
  rw[aiF]at f;rw[f];simp[j,m,i]
structure Fm where
 kind:Int
 link:Int
 seq:Int
 qD:Int
 body:List UInt8
deriving DecidableEq,Inhabited
def bY(f:Fm):List ab:=[I f.kind,I f.link,U8 f.seq,U8 f.qD,Sg f.body]
def ni(f:Fm):Bool:=(decide (f.kind=1)||decide (f.kind=2))&&decide (0<=f.link)&&decide (f.link<=65535)&&decide (f.body.length<=64)&&(decide (f.kind=1)||decide (f.body=[]))
def yo(f:Fm):aS tz ay 0 160 [.agg (bY f)]=some (aR (ni f),[]):=by
 refine be func160 rfl ?_;unfold ni;by_cases b:f.kind=1
 .by_cases c1:0<=f.link
  .by_cases c2:f.link<=65535
   .by_cases c3:f.body.length<=64
    .have a:(f.body.length:Int)<=64:=by omega
     simp[f160,bY,fX,fv,b,c1,c2,c3,a]
    .have a:¬(f.body.length:Int)<=64:=by omega
     simp[f160,bY,fX,fv,b,c1,c2,c3,a]
   .simp[f160,bY,b,c1,c2]
  .simp[f160,bY,b,c1]
 by_cases c:f.kind=2
 .by_cases c1:0<=f.link
  .by_cases c2:f.link<=65535
   .by_cases c3:f.body.length<=64
    .have a:(f.body.length:Int)<=64:=by omega
     simp[f160,bY,fX,gV,fv,c,c1,c2,c3,a]
    .have a:¬(f.body.length:Int)<=64:=by omega
     simp[f160,bY,fX,fv,c,c1,c2,c3,a]
   .simp[f160,bY,c,c1,c2]
  .simp[f160,bY,c,c1]
 simp[f160,bY,b,c]
def p7(a:ByteArray):da (.v (.string a))= .v (.string a):=rfl
def lD:Fm:=⟨0,0,0,0,[]⟩
def uJ(l t:List UInt8):Fm:=⟨(l.getD 2 0).toNat,adW.wrap (nQ l 3 2),nQ l 5 8,nQ l 13 8,t.drop 23⟩
inductive Gu
 |bad (c o:Int)
 |zk (f:Fm)
 |ok (f:Fm)
def jV(l:List UInt8):Gu:=
 if l.length<27 then .bad 61 l.length
 else if ¬l.getD 0 0=78 then .bad 62 0
 else if ¬l.getD 1 0=1 then .bad 63 1
 else if ¬nQ l 21 2=aiY.wrap ((l.length:Int)-23-4)then .bad 64 21
 else match xy l with
  |none=> .bad 65 (adW.wrap (23+((l.length:Int)-23-4)))
  |some t=>if ni (uJ l t)=true then .ok (uJ l t)else .zk (uJ l t)
def mV(H:List Ob):Gu->aw×List Ob
 | .bad c o=>(.aM [.agg (bY lD),.c (.ig 288 (.ptr (H.length+1) 0 0 0))],H++[ah 5 [bY lD],ah 2 [[I o,.ig 40 (I c)]]])
 | .zk f=>(.aM [.agg (bY lD),.c (.ig 288 (.ptr (H.length+2) 0 0 0))],H++[ah 5 [bY lD],.live 1 5 [bY f],ah 2 [[I 2,.ig 40 (I 66)]]])
 | .ok f=>(.aM [.agg (bY f),.c (.v .nilIface)],H++[ah 5 [bY f],.live 1 5 [bY f]])
def PT(a:UInt8)(n:Nat)(hn:n<256):((a.toNat:Int)=(n:Int))=(a=al1 n):=by
 have:=a.toNat_lt;rw[eq_iff_iff];constructor
 .intro h;have b:a.toNat=n:=by omega
  rw[<-b];simp
 .intro h;rw[h,ana];omega
def Zo(H:List Ob)(l:List UInt8)(k:l.length<=1000000):bB tz (ev tz) 97 [.c (Sg l)] H=some (mV H (jV l)):=by
 have K:=cG (C:=tz) (f:=97) (args:=[.c (Sg l)]) (H:=H) (fun r G=>(r,G)=mV H (jV l)) func97 rfl ?_
 .have ⟨r,G,d,o⟩:=K;rw[<-o];exact d
 have w1:adW.wrap ((l.length:Int)-23)=(l.length:Int)-23:=fw (by omega) (by omega);have w2:adW.wrap ((l.length:Int)-23-4)=(l.length:Int)-23-4:=fw (by omega) (by omega);unfold jV;by_cases c1:l.length<27
 .have e:(l.length:Int)-23-4<0:=by omega
  simp[f97,fX,oD,fv,w1,w2,c1,e,mV,bY,lD,p7]
 have e:¬(l.length:Int)-23-4<0:=by omega
 obtain⟨p,g⟩:∃a,l[0]?=some a:=⟨l[0],abM (by omega)⟩;obtain⟨q,d⟩:∃a,l[1]?=some a:=⟨l[1],abM (by omega)⟩;obtain⟨L,o⟩:∃a,l[2]?=some a:=⟨l[2],abM (by omega)⟩;have d0:l.getD 0 0=p:=by rw[ae5,g];rfl
 have d1:l.getD 1 0=q:=by rw[ae5,d];rfl
 have d2:l.getD 2 0=L:=by rw[ae5,o];rfl
 have M:((p.toNat:Int)=78)=(p=78):=PT p 78 (by decide);have N:((q.toNat:Int)=1)=(q=1):=PT q 1 (by decide);rw[if_neg c1,d0,d1];by_cases c2:p=78
 case neg=>simp[f97,fX,oD,nB,fv,w1,w2,e,mV,bY,lD,p7,g,M,c2]
 by_cases c3:q=1
 case neg=>simp[f97,fX,oD,nB,fv,w1,w2,e,mV,bY,lD,p7,g,d,N,c2,c3]
 have j:=z6 l 21 2 k (by omega);have⟨n,hn⟩:=eg (nQ l 21 2);have⟨m,hm⟩:=eg (aiY.wrap ((l.length:Int)-23-4));rw[hn]at j;rw[hn,hm];have O:((21:Nat):Int)=21:=rfl;have A:((2:Nat):Int)=2:=rfl;rw[O,A]at j;by_cases c4:n=m
 case neg=>simp[f97,fX,oD,nB,fv,w1,w2,e,mV,bY,lD,p7,g,d,c2,c3,j,hm,c4]
 subst c4;have s:=aa7 l k;cases h:xy l with
 |none=>rw[h]at s;simp[f97,fX,oD,nB,fv,w1,w2,e,mV,bY,lD,p7,g,d,c2,c3,j,s,hm]
 |some t=>
  rw[h]at s;have v:nQ l 3 2=nQ l 3 2:=rfl;have w:=z6 l 3 2 k (by omega);have x:=z6 l 5 8 k (by omega);have y:=z6 l 13 8 k (by omega);have P:((3:Nat):Int)=3:=rfl;have Q:((5:Nat):Int)=5:=rfl;have B:((8:Nat):Int)=8:=rfl;have R:((13:Nat):Int)=13:=rfl;rw[P,A]at w;rw[Q,B]at x;rw[R,B]at y
  have T:23<=t.length:=by
   unfold xy at h;rw[if_neg (by omega)]at h;split at h
   .cases h;simp;omega
   .cases h
  have D:(23:Int)<=t.length:=by omega
  have i:=yo (uJ l t);have⟨b,E⟩:=eg (ni (uJ l t));rw[E]at i;simp only[E];simp only[bY,uJ,d2]at i|-;have⟨S,F⟩:=eg (nQ l 3 2);have⟨U,I⟩:=eg (nQ l 5 8);have⟨V,J⟩:=eg (nQ l 13 8);rw[F,I,J]at i|-;rw[F]at w;rw[I]at x;rw[J]at y;have⟨W,v⟩:=eg (adW.wrap S);rw[v]at i|-;have⟨u,z⟩:=eg (t.drop 23);rw[z]at i|-;have X:(t.take t.length).drop 23=u:=by rw[aiF];exact z
  cases b with
  |true=>simp[f97,fX,nB,am6,fv,w1,w2,e,mV,bY,p7,g,d,o,c2,c3,j,s,i,hm,w,x,y,v,z,D,wb,rV,gO,iQ]
  |false=>simp[f97,fX,oD,nB,am6,fv,w1,w2,e,mV,bY,lD,p7,g,d,o,c2,c3,j,s,i,hm,w,x,y,v,z,D,wb,rV,gO,iQ]
def lF:Gu->Fm×Int
 | .bad c _=>(lD,c)
 | .zk _=>(lD,66)
 | .ok f=>(f,0)
def c97(H:List Ob)(l:List UInt8)(a:l.length<=1000000):aO tz ay 97 [.c (Sg l)] H=some (mV H (jV l)):=by rw[dz (f:=97) rfl];exact Zo H l a
def Ou:tz.dF 98=vj:=by kernel_rfl
def Z3(H:List Ob)(h v i k:Nat):aO tz ay 98 [.c (.v .nilIface),.c (.ig 214 (.ptr h v i k))] H=some (aR false,H):=by rw[dz (f:=98) rfl,gW F2,Ou];rfl
def Oz{H:List Ob}{hf vf he ve z:Nat}{a e:ab}{n:Int}(b:H[hf]?=some (.live vf z [[a,.ig 40 (I n)]]))(d:H[he]?=some (.live ve 1 [[e]])):aO tz ay 98 [.c (.ig 288 (.ptr hf vf 0 0)),.c (.ig 214 (.ptr he ve 0 0))] H=some (aR true,H.set he (.live ve 1 [[I n]])):=by rw[dz (f:=98) rfl,gW F2,Ou];simp only[vj,obj,b,d,if_true]
def Yl(l:List UInt8)(e:l.length<=1000000):aS tz ay 0 54 [.c (Sg l)]=some (.aM [.agg (bY (lF (jV l)).1),aa (lF (jV l)).2],[]):=by
 refine be func54 rfl ?_;have a:=fun H=>c97 H l e;cases d:jV l with
 |bad c o=>simp only[d,mV,bY,lD]at a;have b:=Oz (H:=[ah 5 [[I 0,I 0,U8 0,U8 0,Sg []]],ah 5 [[I 0,I 0,U8 0,U8 0,Sg []]],ah 2 [[I o,.ig 40 (I c)]],ah 5 [[I 0,I 0,U8 0,U8 0,Sg []]],ah 1 [[I 0]]]) (hf:=2) (vf:=0) (he:=4) (ve:=0) rfl rfl;simp only[alV,ajQ]at b;simp[-aD,f54,a,b,lF,bY,lD,p7,oD]
 |zk f=>simp only[d,mV,bY,lD]at a;have b:=Oz (H:=[ah 5 [[I 0,I 0,U8 0,U8 0,Sg []]],ah 5 [[I 0,I 0,U8 0,U8 0,Sg []]],.live 1 5 [[I f.kind,I f.link,U8 f.seq,U8 f.qD,Sg f.body]],ah 2 [[I 2,.ig 40 (I 66)]],ah 5 [[I 0,I 0,U8 0,U8 0,Sg []]],ah 1 [[I 0]]]) (hf:=3) (vf:=0) (he:=5) (ve:=0) rfl rfl;simp only[alV,ajQ]at b;simp[-aD,f54,a,b,lF,bY,lD,p7,oD]
 |ok f=>simp only[d,mV,bY]at a;simp[-aD,f54,a,Z3,lF,bY,p7,oD]
section
variable{H:List Ob}{b:Nat}{w:Wk}
theorem cF.af{H:List Ob}{b:Nat}{w:Wk}{d f g i se:ab}{a u n:Nat}(h:cF H b w (.sl a u 0 n) d f g i se)(x:List Ob)(c:Nat)(L:List aI)(o:List (List ab)):
  cF (((H++x).set a (.live c 8 (L.map ax++o))).set b (ah 13 [bM (w.put (w.n.eK L)) (.sl a c 0 L.length) d f g i se])) b (w.put (w.n.eK L)) (.sl a c 0 L.length) d f g i se/\
  bq b H (((H++x).set a (.live c 8 (L.map ax++o))).set b (ah 13 [bM (w.put (w.n.eK L)) (.sl a c 0 L.length) d f g i se])):=by
 have⟨j,⟨t,A⟩,B,C,D,E,F,d1,d2⟩:=h
 have M:=bf j
 have⟨N,O,y,k⟩:=A
 simp only[ab.sl.injEq]at y
 obtain⟨rfl,rfl,_,rfl⟩:=y
 have p:a≠b:=fun e=>by subst e;rw[j]at k;cases k
 have l:∀(q s:Ob) (m v z:Nat) (r:List (List ab)),z≠13->z≠8\/m≠a->H[m]?=some (.live v z r)->(((H++x).set a q).set b s)[m]?=some (.live v z r):=fun q s m v z r G I J=>yc j k G I q s J
 have K:((H++x).set a (.live c 8 (L.map ax++o)))[b]?=some (ah 13 [bM w (.sl a u 0 (w.n.dr.ai.af.map ax).length) d f g i se]):=by rw[aat p];exact aV j
 refine⟨⟨ba K,⟨o,a,c,by simp[Wk.put,Nd.eK],?_⟩,B.aK fun _ _ _ _ h=>l _ _ _ _ _ _ (by decide) (.inl (by decide)) h,C.aK fun _ _ _ _ h=>l _ _ _ _ _ _ (by decide) (.inl (by decide)) h,D.aK fun _ _ _ _ h=>l _ _ _ _ _ _ (by decide) (.inl (by decide)) h,E.aK fun _ _ _ _ h=>l _ _ _ _ _ _ (by decide) (.inl (by decide)) h,F.aK fun _ _ _ _ h=>l _ _ _ _ _ _ (by decide) (.inl (by decide)) h,d1,d2⟩,?_⟩
 .rw[aat (ait p),ba (aV k)]
  simp[Wk.put,Nd.eK]
 .refine An j k p (by simp[eu,bM,rf]) (fun m hm=>?_) _
  simp[eu,bM,rf,aG]at hm|-
  grind
structure pd(l:List aI):Prop where
 s:l.Pairwise fun x y=>x.peer<y.peer
 b:∀x∈l,-1000000<=x.peer/\x.peer<=1000000
 m:l.length<=100000
def OZ{sl y J z A se:ab}(h:cF H b w sl y J z A se)(f:pd w.n.dr.ai.af)(K:xr w.n.known)(x:aI)(B: -1000000<=x.peer)(C:x.peer<=1000000):
  ∃j,bB tz (ev tz) 73 [au b,.agg (ax x)] H=some (.aM [],j)/\(∃L E,cF j b (w.oq x) L y E z A se)/\bq b H j:=by
 refine gj func73 rfl ?_
 have a:=h.hb
 have Y:=bf a
 obtain⟨t,c,M,rfl,d⟩:=h.hs
 have Z:=bf d
 have N:c≠b:=fun e=>by subst e;rw[a]at d;cases d
 simp only[bM]at a
 have⟨l,o⟩:=eg w.n.dr.ai.af
 have O:(w.n.dr.ai.af.map ax).length=l.length:=by rw[<-o];simp
 rw[O]at a h
 have P:((l.map ax)++t).take l.length=l.map ax:=ai8 (by simp)
 rw[o]at d f
 have p:=WC l x.peer (by have:=f.m;omega) f.s f.b B C
 have F:=Ai aI.peer x.peer l
 have aa:=f.m
 have q:=Md x l
 have⟨r,Q⟩:=eg (fO aI.peer x.peer l)
 rw[Q]at p F q
 have⟨fd,R⟩:=eg (decide (r<l.length)&&decide ((l[r]?.map (·.peer))=some x.peer))
 rw[R]at p
 have⟨v,g,D,i⟩:=apz (x:=x) (h:=c) (ver:=M) (h2:=H.length) (ver2:=0) (k:=r) (l:=l) (t:=t) (H:=H++[ah 8 [ax x]]) (aV d) (by rw[ane];rfl) (by omega) F (by omega)
 rw[<-q]at i
 have S:(H++[Ob.live 0 8 [ax x]]).set c (.live v 8 ((fR x l).map ax++g))++D=(H++(Ob.live 0 8 [ax x]::D)).set c (.live v 8 ((fR x l).map ax++g)):=by
  rw[<-akk _ _ (by simp;omega),aiu];rfl
 rw[S]at i
 have G:((H++(Ob.live 0 8 [ax x]::D)).set c (.live v 8 ((fR x l).map ax++g)))[b]?=_:=(aat N).trans (aV a)
 have u:=h.af (Ob.live 0 8 [ax x]::D) v (fR x l) g
 have T:(fR x l).length=l.length+1:=by rw[q];simp;omega
 rw[T]at u
 have⟨ad,U⟩:=eg ((H++(Ob.live 0 8 [ax x]::D)).set c (.live v 8 ((fR x l).map ax++g)))
 rw[U]at i G u
 have⟨w1,V⟩:=u
 have⟨j,I,⟨E,w2⟩,W⟩:=VH w1 K x.peer x.aP B C
 have X:(w.put (w.n.eK (fR x l))).td x.peer x.aP=w.oq x:=by rw[<-o];rfl
 rw[X]at w2
 simp only[ax]at i
 simp only[bM,Wk.put,Nd.eK,aG]at I
 simp[f73,ax,a,d,P,bK,p,i,G,I]
 exact⟨⟨_,_,w2⟩,V.trans W⟩
def aaD(h:bX H b w)(c:pd w.n.dr.ai.af)(d:xr w.n.known)(x:aI)(f: -1000000<=x.peer)(i:x.peer<=1000000):
  ∃a,bB tz (ev tz) 73 [au b,.agg (ax x)] H=some (.aM [],a)/\bX a b (w.oq x)/\bq b H a:=by
 have⟨sl,k,l,m,o,se,h⟩:=h
 have⟨a,e,⟨p,q,g⟩,j⟩:=OZ h c d x f i
 exact⟨a,e,g.at,j⟩
end
structure Rm(w:Wk)(k:Nat):Prop where
 s:pd ((w.n.asked.take k).foldl Wk.iz w).n.dr.ai.af
 n:xr ((w.n.asked.take k).foldl Wk.iz w).n.known
 o:((w.n.asked.take k).foldl Wk.iz w).out.length<=90000
 e:((w.n.asked.take k).foldl Wk.iz w).seen.length<=90000
def Qk:∀(l:List cj) (w:Wk),(l.foldl Wk.iz w).n.asked=w.n.asked
 |[],_=>rfl
 |k::r,w=>by rw[ai2,Qk r];rfl
structure Cell(b:Nat)(G:List Ob)(m:Nat)(o:Ob):Prop where
 at':G[m]?=some o
 ne:m≠b
 rf:m∉oW G[b]?
def Cell.step{b m:Nat}{G a:List Ob}{o:Ob}(h:Cell b G m o)(f:bq b G a):Cell b a m o:=by have⟨c,d⟩:=f.2 m o h.at' h.ne h.rf;exact⟨c,h.ne,d⟩
def cF.lt{H:List Ob}{b:Nat}{w:Wk}{sl a k l n se:ab}(h:cF H b w sl a k l n se):∀m∈oW H[b]?,m<H.length:=by
 have⟨c,⟨t,d⟩,e,f,g,i,j,d1,d2⟩:=h;rw[c];intro m hm;have o:=d.lt m
 have p:m∈rf a->m<H.length:=by
  rcases e with rfl|h
  .intro h;simp[Go.Nx.rf]at h
  .exact h.lt m
 have q:=f.lt m;have r:=g.lt m;have s:=i.lt m;have u:=j.lt m;simp only[oW,eu,bM,aiz,ajn,ain,qA,rfs,aG]at hm;clear d e f g i j d1 d2 c;simp at hm;grind
theorem cF.cell{H x:List Ob}{b:Nat}{w:Wk}{sl a c d e se:ab}(h:cF H b w sl a c d e se){i:Nat}{o:Ob}(f:x[i]?=some o):Cell b (H++x) (H.length+i) o:=by have g:=bf h.hb;refine⟨by rw[jh];exact f,by omega,?_⟩;rw[abE g];intro hm;have:=h.lt _ hm;omega
def cF.snoc{H x:List Ob}{b:Nat}{w:Wk}{sl a c d e se:ab}(h:cF H b w sl a c d e se):cF (H++x) b w sl a c d e se:=by have⟨f,⟨t,g⟩,i,j,k,l,m,d1,d2⟩:=h;exact⟨aV f,⟨t,g.aK fun _ _ _ _ h=>aV h⟩,i.aK fun _ _ _ _ h=>aV h,j.aK fun _ _ _ _ h=>aV h,k.aK fun _ _ _ _ h=>aV h,l.aK fun _ _ _ _ h=>aV h,m.aK fun _ _ _ _ h=>aV h,d1,d2⟩
def M1(H:List Ob)(b:Nat)(a c:ab)(G:List Ob)(v:Wk):Prop:= ∃sl d e se,cF G b v sl a d c e se/\bq b H G
def Y6{H:List Ob}{b:Nat}{w:Wk}(h:bX H b w)(hA:∀k,k<w.n.asked.length->Rm w k)(hp:∀k∈w.n.asked,-1000000<=k.peer/\k.peer<=1000000)(hm:w.n.asked.length<=100000):
  ∃y,bB tz (ev tz) 205 [au b] H=some (.aM [],y)/\bX y b w.answer/\bq b H y:=by
 refine gj func205 rfl ?_
 have⟨sl,o,a,N,d,se,h⟩:=h
 have s:=h.hb
 have⟨l,j⟩:=eg w.n.asked
 have fin:∀(G:List Ob) (v:Wk) (sl a d se:ab),cF G b v sl o a N d se->bq b H G->v.put {v.n with asked:=[]}=w.answer->bX (G.set b (ah 13 [bM (v.put {v.n with asked:=[]}) sl o a eW d se])) b w.answer/\bq b H (G.set b (ah 13 [bM (v.put {v.n with asked:=[]}) sl o a eW d se])):=by
  intro G v sl a d se g f e
  have:=g.vl f [] (v.put {v.n with asked:=[]}) sl o eW (.inl ⟨rfl,rfl⟩) (.inl ⟨rfl,rfl⟩) rfl (.inr ⟨rfl,rfl⟩) rfl rfl
  rw[aeU,e]at this
  rw[e]
  exact this
 simp only[f205,cr]
 refine eh (fun S=>S.env.get 0=some (au b)/\S.bG=[]/\M1 H b o N S.heap (l.foldl Wk.iz w)) ?_ ?_
 .simp only[bM]at s
  rcases h.ha with⟨p,rfl⟩|⟨p,z,rfl,ai⟩
  .simp[j]at p
   subst p
   simp[underlying68,s]
   refine iv (fun k:Unit=>[(10,aa 0),(11,aa 0),(0,au b)]) (fun k G=>G=H) (fun k=>0) ?_ () (by simp) (by simp) fun _=>rfl
   rintro _ e G⟨t,u,m,_⟩O
   subst O
   simp[t,u,m]
   exact⟨sl,a,d,se,h,bq.refl _ _⟩
  .have X:(w.n.asked.map aW).length=l.length:=by rw[<-j];simp
   rw[X]at h s
   simp[underlying68,s]
   refine iv (fun k:Nat=>[(10,aa l.length),(11,aa k),(9,bd p z 0 l.length),(0,au b)]) (fun k G=>k<=l.length/\M1 H b o (.sl p z 0 l.length) G ((l.take k).foldl Wk.iz w)) (fun k=>l.length-k) ?_ 0 (by simp) ⟨by simp,sl,a,d,se,h,bq.refl _ _⟩ fun _=>rfl
   rintro k e G⟨t,u,Y,m,_⟩⟨O,sl,a,d,se,g,f⟩
   by_cases r:k<l.length
   .have Z:adW.wrap ((k:Int)+1)=((k+1:Nat):Int):=cv (by rw[j]at hm;omega)
    have ad:=hA k (by rw[j];exact r)
    have A:=hp l[k] (by rw[j];exact aix r)
    have⟨B,C,P,Q⟩:=ad
    rw[j]at B C P Q
    have D:(l.take (k+1)).foldl Wk.iz w=((l.take k).foldl Wk.iz w).iz l[k]:=by rw[jC r,ajh];rfl
    have R:((l.take k).foldl Wk.iz w).n.asked=l:=by rw[Qk,j]
    have⟨v,E⟩:=eg ((l.take k).foldl Wk.iz w)
    rw[E]at g B C P Q D R
    have T:=g.ha
    rw[R]at T
    have ae:G[p]?=some (.live z 2 (l.map aW)):=by
     rcases T with⟨_,c⟩|⟨c1,c2,c3,c4⟩
     .cases c
     .simp only[ab.sl.injEq]at c3
      obtain⟨rfl,rfl,_,_⟩:=c3
      rw[aeU]at c4
      exact c4
    have⟨q,U⟩:=eg l[k]
    rw[U]at A D
    have af:(l.map aW)[k]?=some [I q.peer,I q.aP]:=by rw[adf,abM r,U];rfl
    obtain⟨x,F⟩:∃x:aI,x=⟨q.peer,q.aP,0,false,false,true,false,true⟩:=⟨_,rfl⟩
    have c3:=g.cell (x:=[ah 2 [[I q.peer,I q.aP]],ah 8 [ax x]]) (i:=0) rfl
    have c4:=g.cell (x:=[ah 2 [[I q.peer,I q.aP]],ah 8 [ax x]]) (i:=1) rfl
    have V:x.peer=q.peer:=by rw[F]
    have⟨G3,J,⟨aj,ak,g3⟩,f3⟩:=OZ (g.snoc (x:=[ah 2 [[I q.peer,I q.aP]],ah 8 [ax x]])) B C x (by rw[V];exact A.1) (by rw[V];exact A.2)
    have⟨G4,K,⟨al,am,g4⟩,f4⟩:=zW g3 x 6 (by show v.out.length<=_;omega)
    have⟨G5,e5,⟨an,ao,g5⟩,f5⟩:=Fo g4 6 q.peer (.inr ⟨rfl,rfl⟩) (by decide) (by show v.seen.length<=_;omega)
    have c43:=c4.step f3
    have og:=(c3.step f3).step f4
    have L:=c43.at'
    have W:=og.at'
    rw[aiB]at W
    rw[F]at J K L
    simp only[ax]at J K L
    have ag:v.iz q=((v.oq x).send x 6).ey 6 q.peer:=by rw[F];rfl
    simp[-getElem?_pos,t,u,Y,m,r,ae,af,Z,J,K,e5,L,W]
    refine⟨k+1,by omega,by simp,by omega,?_⟩
    rw[D,ag]
    exact⟨_,_,_,_,g5,((f.trans (bq.snoc (bf g.hb))).trans f3).trans (f4.trans f5)⟩
   .obtain rfl:k=l.length:=by omega
    simp[t,u,m]
    rw[aiF]at g
    rw[j]
    exact⟨sl,a,d,se,g,f⟩
 .rintro⟨e,G,ds⟩⟨m,rfl,sl,a,d,se,g,f⟩
  simp only at m g f
  have M:=g.hb
  have:=fin G _ sl a d se g f (by rw[<-j];rfl)
  have⟨v,E⟩:=eg (l.foldl Wk.iz w)
  rw[E]at M this
  simp only[bM,Wk.put,aG]at M this
  simp[m,M]
  exact this
def Wk.eZ(w:Wk)(x:aI):Wk:=if r9 x=true/\x.peer∉w.n.told then(w.send x 5).put {w.n with told:=gD w.n.told [x.peer]}else w
def D5:∀(l:List aI) (w:Wk),l.foldl Wk.eZ w=⟨{w.n with told:=(jq w.n.id l w.n.told w.out).1},(jq w.n.id l w.n.told w.out).2,w.seen,w.e⟩
 |[],w=>rfl
 |x::r,w=>by
  rw[ai2,D5 r]
  by_cases h:r9 x=true/\x.peer∉w.n.told
  .have a:w.eZ x=(w.send x 5).put {w.n with told:=gD w.n.told [x.peer]}:=if_pos h
   have b:jq w.n.id (x::r) w.n.told w.out=jq w.n.id r (gD w.n.told [x.peer]) (w.out++[ft w.n.id x 5]):=if_pos h
   rw[a,b]
   rfl
  .have a:w.eZ x=w:=if_neg h
   have b:jq w.n.id (x::r) w.n.told w.out=jq w.n.id r w.n.told w.out:=if_neg h
   rw[a,b]
def afE(w:Wk):w.n.af.foldl Wk.eZ w=w.tell:=D5 _ _
def afj(w:Wk)(x:aI):(w.eZ x).n.dr=w.n.dr:=by unfold Wk.eZ;split<;>rfl
def Ql:∀(l:List aI) (w:Wk),(l.foldl Wk.eZ w).n.dr=w.n.dr
 |[],_=>rfl
 |x::r,w=>by rw[ai2,Ql r,afj]
def adN(H:List Ob)(b:Nat)(sl a c d:ab)(G:List Ob)(v:Wk):Prop:= ∃e se,cF G b v sl a c d e se/\bq b H G
def Yf{H:List Ob}{b:Nat}{w:Wk}(h:bX H b w)(hm:w.n.dr.ai.af.length<=1000)(hA:∀k,k<w.n.dr.ai.af.length->((w.n.dr.ai.af.take k).foldl Wk.eZ w).out.length<=90000/\((w.n.dr.ai.af.take k).foldl Wk.eZ w).n.told.length<=90000):
  ∃B,bB tz (ev tz) 210 [au b] H=some (.aM [],B)/\bX B b w.tell/\bq b H B:=by
 refine gj func210 rfl ?_
 have⟨sl,p,C,q,N,se,h⟩:=h
 have D:=h.hb
 have⟨l,r⟩:=eg w.n.dr.ai.af
 have W:l.foldl Wk.eZ w=w.tell:=by rw[<-r];exact afE w
 obtain⟨t,e,j,rfl,ae⟩:=h.hs
 simp only[bM]at D
 have X:(w.n.dr.ai.af.map ax).length=l.length:=by rw[<-r];simp
 rw[X]at h D
 rw[r]at hm hA
 simp[f210,underlying59,D]
 refine iv (fun k:Nat=>[(11,aa l.length),(12,aa k),(10,bd e j 0 l.length),(0,au b)]) (fun k G=>k<=l.length/\adN H b (.sl e j 0 l.length) p C q G ((l.take k).foldl Wk.eZ w)) (fun k=>l.length-k) ?_ 0 (by simp) ⟨by simp,N,se,h,bq.refl _ _⟩ fun _=>rfl
 rintro k ag G⟨s,u,E,F,_⟩⟨h2,N,se,g,f⟩
 by_cases c:k<l.length
 .have J:adW.wrap ((k:Int)+1)=((k+1:Nat):Int):=cv (by omega)
  have⟨Y,Z⟩:=hA k c
  have m:(l.take (k+1)).foldl Wk.eZ w=((l.take k).foldl Wk.eZ w).eZ l[k]:=by rw[jC c,ajh];rfl
  have O:=Ql (l.take k) w
  have⟨v,hv⟩:=eg ((l.take k).foldl Wk.eZ w)
  rw[hv]at g Y Z m O
  have⟨x,P⟩:=eg l[k]
  rw[P]at m
  have⟨t,aj,ak,Q,y⟩:=g.hs
  simp only[ab.sl.injEq]at Q
  obtain⟨rfl,rfl,_,_⟩:=Q
  rw[O,r]at y
  have z:(l.map ax++t)[k]?=some (ax x):=by rw[abE (by simpa using c),adf,abM c,P];rfl
  have A:=g.hb
  have c3:=g.cell (x:=[ah 8 [ax x]]) (i:=0) rfl
  have d:=BL x
  have o:=qu v.n.told x.peer (by unfold maxLen;omega)
  simp only[ax,aG]at d o z
  simp only[bM]at A
  have ad:=c3.at'
  rw[aiB]at ad
  have K:=bf A
  have L:k<l.length+t.length:=by omega
  cases c1:r9 x with
  |false=>
   have a:v.eZ x=v:=by simp[Wk.eZ,c1]
   rw[c1]at d
   simp[-getElem?_pos,s,u,E,F,c,L,y,z,J,d]
   refine⟨k+1,by omega,by simp,by omega,?_⟩
   rw[m,a]
   exact⟨_,_,g.snoc,f.trans (bq.snoc K)⟩
  |true=>
   rw[c1]at d
   by_cases c2:x.peer∈v.n.told
   .have a:v.eZ x=v:=by simp[Wk.eZ,c2]
    simp[c2]at o
    simp[-getElem?_pos,s,u,E,F,c,L,y,z,J,d,o,aV A,bi]
    refine⟨k+1,by omega,by simp,by omega,?_⟩
    rw[m,a]
    exact⟨_,_,g.snoc,f.trans (bq.snoc K)⟩
   .have a:v.eZ x=(v.send x 5).put {v.n with told:=gD v.n.told [x.peer]}:=by simp[Wk.eZ,c1,c2]
    simp[c2]at o
    have⟨G4,R,⟨S,T,U⟩,f4⟩:=zW (g.snoc (x:=[ah 8 [ax x]])) x 5 (by omega)
    have V:=Xe v.n.told x.peer (by omega)
    have c4:=(c3.step f4).at'
    rw[aiB]at c4
    have fin:=U.Kr ((f.trans (bq.snoc K)).trans f4) [] (v.eZ x) (.sl e j 0 l.length) p q (.inl ⟨rfl,by rw[a];rfl⟩) (.inl ⟨rfl,by rw[a];rfl⟩) (by rw[a];rfl) (.inl ⟨rfl,by rw[a];rfl⟩) (by rw[a];rfl) (by rw[a];rfl)
    have M:=U.hb
    rw[aeU]at fin
    have er:bM (v.eZ x) (.sl e j 0 l.length) p C q S T=[I v.n.dr.ai.id,I v.n.dr.ai.phase,.sl e j 0 l.length,I v.n.dr.aQ,aG v.n.dr.need,I v.n.book.last,p,C,aG (gD v.n.told [x.peer]),q,S,T,I v.e]:=by rw[a];rfl
    rw[er]at fin
    simp only[bM,Wk.send]at M
    simp only[ax,aG]at R V c4 fin M
    simp[-getElem?_pos,s,u,E,F,c,L,y,z,J,d,o,aV A,bi,R,c4,M,V]
    refine⟨k+1,by omega,by simp,by omega,?_⟩
    rw[m]
    exact⟨_,_,fin.1,fin.2⟩
 .obtain rfl:k=l.length:=by omega
  simp[s,u]
  rw[aiF,W]at g
  exact⟨g.at,f⟩
def acy{C:bu}{f:FuncId}{l:Nat}{r:Code}{m:Type}(d:m->Env)(i:m->List Ob->Prop)(j:List (FuncId×List aw))(k:m->Nat)(Q:Exit->St->Prop)(K:List Nat)(q:∀b,(d b).map (·.1)=K)
  (step:∀b S,Has S.env (d b)->i b S.heap->S.bG=j->Ends (ev C f (cr (.seq (.label l) r)) S) fun ex e=>match ex with| .goto s=>s=l/\∃a,k a<k b/\Has e.env (d a)/\i a e.heap/\e.bG=j|ex=>Q ex e):
  ∀b S,Has S.env (d b)->i b S.heap->S.bG=j->Ends (ev C f (.scope (.seq (.label l) r)) S) Q:=by
 have t:∀n b S,k b<n->Has S.env (d b)->i b S.heap->S.bG=j->Ends (ev C f (.scope (.seq (.label l) r)) S) Q:=by
  intro n
  induction n with
  |zero=>intro b S h;omega
  |succ n u=>
   intro b S hn g o p
   rw[Yk]
   have c:=step b ⟨eI (iJ S.env) S.env,S.heap,S.bG⟩ (g.pick g rfl) o p
   rw[ua]at c
   have v:findLabel (.seq (.label l) r) l=some (.seq .skip r):=by simp[findLabel]
   unfold Ends at c
   split at c
   .rename_i ex e w
    unfold uM
    rw[w]
    cases ex with
    |goto s=>
     obtain⟨rfl,a,A,x,y,z⟩:=c
     simp only[v,if_true]
     exact u a _ (by omega) (g.pick x ((q a).trans (q b).symm)) y z
    |_=>exact c
   .exact c.elim
 exact fun b S g o p=>t (k b+1) b S (by omega) g o p
def keeps(w:Wk)(x:aI):Prop:=dD w.n.id w.n.dr.aQ w.n.dr.need x=([x],[])
def aa1{w:Wk}(h:∀x∈w.n.af,keeps w x):w.lA=w:=by
 have a:∀l:List aI,(∀x∈l,keeps w x)->(l.flatMap fun x=>(dD w.n.id w.n.dr.aQ w.n.dr.need x).1)=l/\(l.flatMap fun x=>(dD w.n.id w.n.dr.aQ w.n.dr.need x).2)=[]:=by
  intro l;induction l with
  |nil=>intro _;exact⟨rfl,rfl⟩
  |cons x r b=>intro h;have c:dD w.n.id w.n.dr.aQ w.n.dr.need x=([x],[]):=h x (by simp);have⟨d,e⟩:=b fun y f=>h y (by simp[f]);simp only[aiz,c,d,e];exact⟨rfl,rfl⟩
 have⟨g,i⟩:=a _ h;unfold Wk.lA;rw[g,i,aeU];rfl
def N9{w:Wk}{a r:List aI}{x:aI}{L:List aI}{M:List cB}(h:w.n.af=a++x::r)(d:∀y∈a,keeps w y)(b:dD w.n.id w.n.dr.aQ w.n.dr.need x=(L,M))(f:∀y∈L,keeps w y):
  (⟨w.n.eK (a++L++r),w.out++M,w.seen,w.e⟩:Wk).lA=w.lA:=by
 have c:∀l:List aI,(∀x∈l,keeps w x)->(l.flatMap fun x=>(dD w.n.id w.n.dr.aQ w.n.dr.need x).1)=l/\(l.flatMap fun x=>(dD w.n.id w.n.dr.aQ w.n.dr.need x).2)=[]:=by
  intro l
  induction l with
  |nil=>intro _;exact⟨rfl,rfl⟩
  |cons x r g=>
   intro h
   have b:dD w.n.id w.n.dr.aQ w.n.dr.need x=([x],[]):=h x (by simp)
   have⟨i,j⟩:=g fun y k=>h y (by simp[k])
   simp only[aiz,b,i,j]
   exact⟨rfl,rfl⟩
 have⟨m,o⟩:=c a d
 have⟨p,q⟩:=c L f
 have s:((a++L++r).flatMap fun x=>(dD w.n.id w.n.dr.aQ w.n.dr.need x).1)=(a++x::r).flatMap fun x=>(dD w.n.id w.n.dr.aQ w.n.dr.need x).1:=by
  simp only[aku,aiz,b,m,p,aiu]
 have t:(M++(a++L++r).flatMap fun x=>(dD w.n.id w.n.dr.aQ w.n.dr.need x).2)=(a++x::r).flatMap fun x=>(dD w.n.id w.n.dr.aQ w.n.dr.need x).2:=by
  simp only[aku,aiz,b,o,q,aiD]
 show(⟨w.n.eK ((a++L++r).flatMap fun x=>(dD w.n.id w.n.dr.aQ w.n.dr.need x).1),(w.out++M)++((a++L++r).flatMap fun x=>(dD w.n.id w.n.dr.aQ w.n.dr.need x).2),w.seen,w.e⟩:Wk)=⟨w.n.eK (w.n.af.flatMap fun x=>(dD w.n.id w.n.dr.aQ w.n.dr.need x).1),w.out++(w.n.af.flatMap fun x=>(dD w.n.id w.n.dr.aQ w.n.dr.need x).2),w.seen,w.e⟩
 rw[aiu w.out M,t,s, <-h]
def yW{w:Wk}{x:aI}:keeps w x↔ (x.state≠2\/(w.n.dr.aQ=2/\x.peer∈w.n.dr.need)):=by
 unfold keeps dD;split
 .rename_i h;simp[h]
 .rename_i h;constructor
  .intro a;split at a
   .simp at a
   .simp at a
  .intro a;exact absurd a h
structure DF(w v:Wk):Prop where
 l:v.lA=w.lA
 s:pd v.n.dr.ai.af
theorem DF.out{w v:Wk}(h:DF w v):v.out.length<=w.lA.out.length:=by rw[<-h.l];simp[Wk.lA]
def Wi{l:List aI}{k:Nat}(g:k<l.length)(h:l.Pairwise fun x y=>x.peer<y.peer):l.filter (fun x=>!decide (x.peer=l[k].peer))=l.take k++l.drop (k+1):=by
 have c:l=l.take k++l[k]::l.drop (k+1):=by rw[<-agO g,ajI]
 have⟨a,d⟩:=eg (l.take k);have⟨r,e⟩:=eg (l.drop (k+1));have⟨x,f⟩:=eg l[k];rw[d,e,f]at c;rw[d,e,f];rw[c]at h|-;have hp:=List.pairwise_append.1 h;have i:=ahg.1 hp.2.1
 have j:a.filter (fun y=>!decide (y.peer=x.peer))=a:=ajq.2 fun y b=>by
  have:=hp.2.2 y b x (by simp);have:¬y.peer=x.peer:=by omega
  simp[this]
 have m:r.filter (fun y=>!decide (y.peer=x.peer))=r:=ajq.2 fun y b=>by
  have:=i.1 y b;have:¬y.peer=x.peer:=by omega
  simp[this]
 rw[ajl,j,akN];simp[m]
structure Ly(H:List Ob)(b:Nat)(w:Wk)(G:List Ob)(v:Wk):Prop where
 i:DF w v
 f:bq b H G
 nd:v.n.dr.need=w.n.dr.need
 id:v.n.dr.ai.id=w.n.dr.ai.id
def L1(H:List Ob)(b:Nat)(w:Wk)(n:Nat)(G:List Ob):Prop:= ∃v,bX G b v/\Ly H b w G v/\v.n.dr.ai.af.length=n
def Ku(H:List Ob)(b:Nat)(w:Wk)(sl:ab)(n k:Nat)(G:List Ob):Prop:= ∃v a c d e se,cF G b v sl a c d e se/\Ly H b w G v/\v.n.dr.ai.af.length=n/\∀x∈v.n.dr.ai.af.take k,keeps v x
def WG{H:List Ob}{b:Nat}{w:Wk}(h:bX H b w)(u:pd w.n.dr.ai.af)(hm:w.n.dr.ai.af.length<=1000)(hn:w.n.dr.need.length<=100000)(ho:w.lA.out.length<=90000):
  ∃H',bB tz (ev tz) 211 [au b] H=some (.aM [],H')/\bX H' b w.lA/\bq b H H':=by
 refine gj func211 rfl ?_
 simp only[f211,cr]
 refine acy (fun n:Nat=>[(0,au b)]) (fun n G=>n<=1000/\L1 H b w n G) [] (fun n=>n) _ [0] (fun _=>rfl) ?_ w.n.dr.ai.af.length _ (by simp) ⟨hm,w,h,⟨⟨rfl,u⟩,bq.refl _ _,rfl,rfl⟩,rfl⟩ rfl
 rintro n⟨aj,G,ds⟩A⟨aN,v,⟨sl,S,T,U,X,se,g⟩,c,M⟩V
 simp only at A g c V
 subst V
 simp at A
 have o:=A
 have Y:=g.hb
 obtain⟨t,C,D,rfl,aw⟩:=g.hs
 simp only[bM]at Y
 have ao:(v.n.dr.ai.af.map ax).length=n:=by rw[<-M];simp
 rw[ao]at g Y
 simp[underlying59,o,Y]
 refine Ends.bl (gM (fun k:Nat=>[(11,aa n),(12,aa k),(10,bd C D 0 n),(0,au b)]) (fun k G=>k<=n/\Ku H b w (.sl C D 0 n) n k G) [] (fun k=>n-k) _ [11,12,10,0] (fun _=>rfl) ?_ 0 _ (by simp[o]) ⟨by simp,v,S,T,U,X,se,g,c,M,by simp⟩ rfl)
 clear Y aw g c ao o M
 rintro k⟨aj,G,ds⟩A⟨h2,v,S,T,U,X,se,g,c,M,F⟩V
 simp only at A h2 g c F V
 subst V
 simp at A
 have⟨J,K,N,o⟩:=A
 by_cases e:k<n
 .have Z:adW.wrap ((k:Int)+1)=((k+1:Nat):Int):=cv (by omega)
  have z:=g.hb
  have lg:=bf z
  have⟨t,aO,aR,e1,j⟩:=g.hs
  simp only[ab.sl.injEq]at e1
  obtain⟨rfl,rfl,_,_⟩:=e1
  have ay:C≠b:=fun aj=>by subst aj;rw[z]at j;cases j
  have⟨l,p⟩:=eg v.n.dr.ai.af
  have u:=c.i.s
  rw[p]at j M F u
  subst M
  have⟨x,E⟩:=eg l[k]
  have q:(l.map ax++t)[k]?=some (ax x):=by rw[abE (by simpa using e),adf,abM e,E];rfl
  have O:k<l.length+t.length:=by omega
  have ap:l=l.take k++x::l.drop (k+1):=by rw[<-E, <-agO e,ajI]
  have P:=qu v.n.dr.need x.peer (by have:=c.nd;rw[this];unfold maxLen;omega)
  have aS:=c.i.out
  have c3:=g.cell (x:=[ah 8 [ax x]]) (i:=0) rfl
  have ad:=c3.at'
  rw[aiB]at ad
  simp only[bM]at z
  simp only[ax,aG]at q P z ad
  have az:keeps v x->(∀y∈l.take (k+1),keeps v y):=fun ak y d=>by
   rw[jC e,E]at d
   rcases ain.1 d with d|d
   .exact F y d
   .simp at d;rw[d];exact ak
  have al:keeps v x->Ku H b w (.sl C D 0 l.length) l.length (k+1) (G++[ah 8 [ax x]]):=fun ak=>⟨v,S,T,U,X,se,g.snoc,⟨c.i,c.f.trans (bq.snoc lg),c.nd,c.id⟩,by rw[p],by rw[p];exact az ak⟩
  simp only[ax]at al
  by_cases c1:x.state=2
  case neg=>
   have ag:=al (yW.2 (.inl c1))
   simp[-getElem?_pos,J,K,N,o,e,O,j,q,Z,c1]
   exact⟨k+1,by omega,by simp,by omega,ag⟩
  have go:¬(v.n.dr.aQ=2/\x.peer∈v.n.dr.need)->x.peer>v.n.dr.ai.id->
    ∃Q,bB tz (ev tz) 266 [au b,.agg (ax x),aa 7] ((G++[Ob.live 0 8 [ax x]]).set C (Ob.live D 8 ((l.map ax).set k [I x.peer,I x.aP,I 3,B x.fork,B x.cK,B x.token,B x.dc,B x.ask]++t)))=some (.aM [],Q)/\Ku H b w (.sl C D 0 l.length) l.length (k+1) Q:=by
   intro hc hp
   have aA:(l.map ax).set k [I x.peer,I x.aP,I 3,B x.fork,B x.cK,B x.token,B x.dc,B x.ask]++t=(l.set k {x with state:=3}).map ax++t:=by
    rw[aiC];rfl
   have aq:=g.af [ah 8 [ax x]] D (l.set k {x with state:=3}) t
   have aB:((G++[Ob.live 0 8 [ax x]]).set C (Ob.live D 8 ((l.set k {x with state:=3}).map ax++t)))[b]?=some (ah 13 [bM (v.put (v.n.eK (l.set k {x with state:=3}))) (.sl C D 0 (l.set k {x with state:=3}).length) S T U X se]):=by
    rw[aat ay,aV z,aiP]
    rfl
   rw[lJ aB]at aq
   have⟨q1,q2⟩:=aq
   rw[aiP]at q1
   have⟨Q,e3,⟨aC,aD,g3⟩,f3⟩:=zW q1 x 7 (by show v.out.length<=_;omega)
   rw[aA]
   refine⟨Q,e3,_,S,T,U,aC,aD,g3,⟨⟨?_,?_⟩,(c.f.trans q2).trans f3,c.nd,c.id⟩,by show(l.set k _).length=_;simp,?_⟩
   .have am:dD v.n.id v.n.dr.aQ v.n.dr.need x=([{x with state:=3}],[ft v.n.id x 7]):=by
     unfold dD
     rw[if_neg (by simp only[not_or,al5];exact⟨c1,hc⟩),if_pos hp]
    have aE:∀y∈ [{x with state:=3}],keeps v y:=fun y d=>by
     simp at d;rw[d];exact yW.2 (.inl (by simp))
    have:=N9 (w:=v) (a:=l.take k) (r:=l.drop (k+1)) (x:=x) (by show v.n.dr.ai.af=_;rw[p];exact ap) F am aE
    have aF:l.set k {x with state:=3}=l.take k++[{x with state:=3}]++l.drop (k+1):=by
     rw[alY,if_pos e,aiu];rfl
    rw[aF, <-c.i.l, <-this]
    rfl
   .show pd (l.set k {x with state:=3})
    refine⟨?_,?_,by simpa using u.m⟩
    .have aH:(l.set k {x with state:=3}).map (fun y=>y.peer)=l.map (fun y=>y.peer):=by
      rw[aiC]
      exact lJ (by rw[adf,abM e,E];rfl)
     have A:(l.map fun y=>y.peer).Pairwise (· < ·):=al2.2 u.s
     rw[<-aH]at A
     exact al2.1 A
    .intro y d
     rcases ak4 d with d|d
     .exact u.b y d
     .rw[d];exact u.b x (by rw[<-E];exact aix e)
   .intro y d
    have ar:y∈(l.set k {x with state:=3}).take (k+1):=d
    have aJ:(l.set k {x with state:=3}).take (k+1)=l.take k++[{x with state:=3}]:=by
     rw[alY,if_pos e]
     have:l.take k++({x with state:=3}:aI)::l.drop (k+1)=(l.take k++[{x with state:=3}])++l.drop (k+1):=by simp
     rw[this]
     exact ai8 (by simp;omega)
    rw[aJ]at ar
    rcases ain.1 ar with h|h
    .exact F y h
    .simp at h;rw[h];exact yW.2 (.inl (by simp))
  have an:¬(v.n.dr.aQ=2/\x.peer∈v.n.dr.need)-> ¬x.peer>v.n.dr.ai.id->
    ∃L R,bB tz (ev tz) 228 [au b,aa x.peer] (G++[Ob.live 0 8 [ax x]])=some (.aM [],L)/\L[G.length]?=some (Ob.live 0 8 [ax x])/\bB tz (ev tz) 266 [au b,.agg (ax x),aa 8] L=some (.aM [],R)/\L1 H b w (l.length-1) R:=by
   intro hc hp
   have⟨L,d1,w1,bj⟩:=NG (g.snoc (x:=[ah 8 [ax x]])).at (by show v.n.dr.ai.af.length<=_;rw[p];omega) x.peer
   have⟨R,d2,w2,bm⟩:=apr w1 x 8 (by show v.out.length<=_;omega)
   have c4:=(c3.step bj).at'
   rw[aiB]at c4
   have av:n9 x.peer l=l.take k++l.drop (k+1):=by
    have:=Wi e u.s
    rw[E]at this
    exact this
   refine⟨L,R,d1,c4,d2,_,w2,⟨⟨?_,?_⟩,((c.f.trans (bq.snoc lg)).trans bj).trans bm,c.nd,c.id⟩,?_⟩
   .have am:dD v.n.id v.n.dr.aQ v.n.dr.need x=([],[ft v.n.id x 8]):=by
     unfold dD
     rw[if_neg (by simp only[not_or,al5];exact⟨c1,hc⟩),if_neg hp]
    have:=N9 (w:=v) (a:=l.take k) (r:=l.drop (k+1)) (x:=x) (by show v.n.dr.ai.af=_;rw[p];exact ap) F am (fun y d=>by simp at d)
    rw[<-c.i.l, <-this,aeU, <-av, <-p]
    rfl
   .show pd (n9 x.peer v.n.dr.ai.af)
    rw[p]
    refine⟨u.s.filter _,fun y d=>u.b y (ajH.1 d).1,?_⟩
    have:=aiq (fun y:aI=>!decide (y.peer=x.peer)) l
    have h2:=u.m
    show(l.filter _).length<=_
    omega
   .show (n9 x.peer v.n.dr.ai.af).length=_
    rw[p,av]
    simp
    omega
  simp only[ax]at go an
  by_cases c2:v.n.dr.aQ=2
  .by_cases ae:x.peer∈v.n.dr.need
   .have ag:=al (yW.2 (.inr ⟨c2,ae⟩))
    rw[c2]at z
    simp[ae]at P
    rw[c1]at q ag
    simp[-getElem?_pos,J,K,N,o,e,O,j,q,Z,aV z,P,bi]
    exact⟨k+1,by omega,by simp,by omega,ag⟩
   .simp[ae]at P
    have hc:¬(v.n.dr.aQ=2/\x.peer∈v.n.dr.need):=fun h=>ae h.2
    by_cases c4:x.peer>v.n.dr.ai.id
    .have ⟨Q,d1,d2⟩:=go hc c4
     have W:∀y,((G++[Ob.live 0 8 [[I x.peer,I x.aP,I x.state,B x.fork,B x.cK,B x.token,B x.dc,B x.ask]]]).set C y)[G.length]?=some (Ob.live 0 8 [[I x.peer,I x.aP,I x.state,B x.fork,B x.cK,B x.token,B x.dc,B x.ask]]):=fun y=>(aat (by have:=bf j;omega)).trans ad
     have aK:=c4
     rw[c1]at q d1 W
     simp[-getElem?_pos,J,K,N,o,e,O,j,q,Z,aV z,aV j,d1,W,c4,P,bi,c2]
     exact⟨k+1,by omega,by simp,by omega,d2⟩
    .have ⟨L,R,d1,d2,d3,d4⟩:=an hc c4
     rw[c1]at q d1 d2 d3
     simp[-getElem?_pos,J,K,N,o,e,O,j,q,aV z,d1,d2,d3,c4,P,bi,c2]
     exact⟨rfl,l.length-1,by omega,o,⟨by omega,d4⟩,rfl⟩
  .have hc:¬(v.n.dr.aQ=2/\x.peer∈v.n.dr.need):=fun h=>c2 h.1
   by_cases c4:x.peer>v.n.dr.ai.id
   .have ⟨Q,d1,d2⟩:=go hc c4
    have W:∀y,((G++[Ob.live 0 8 [[I x.peer,I x.aP,I x.state,B x.fork,B x.cK,B x.token,B x.dc,B x.ask]]]).set C y)[G.length]?=some (Ob.live 0 8 [[I x.peer,I x.aP,I x.state,B x.fork,B x.cK,B x.token,B x.dc,B x.ask]]):=fun y=>(aat (by have:=bf j;omega)).trans ad
    have aK:=c4
    rw[c1]at q d1 W
    simp[-getElem?_pos,J,K,N,o,e,O,j,q,Z,aV z,aV j,d1,W,c4,c2]
    exact⟨k+1,by omega,by simp,by omega,d2⟩
   .have ⟨L,R,d1,d2,d3,d4⟩:=an hc c4
    rw[c1]at q d1 d2 d3
    simp[-getElem?_pos,J,K,N,o,e,O,j,q,aV z,d1,d2,d3,c4,c2]
    exact⟨rfl,l.length-1,by omega,o,⟨by omega,d4⟩,rfl⟩
 .obtain rfl:k=n:=by omega
  simp[J,K]
  have aL:v.lA=v:=aa1 fun x E=>F x (by rw[acu (by omega)];exact E)
  have p:=c.i.l
  rw[aL]at p
  rw[p]at g
  exact⟨g.at,c.f⟩
def gI.qe{H:List Ob}{z:Nat}{a:ab}{rows t:List (List ab)}(h:gI H z a rows t)(b:bA rows=true)(n:Nat):bU H (n+1) a=some (.aj rows,[z]):=by obtain⟨d,e,rfl,c⟩:=h;have:(rows++t).take rows.length=rows:=ai8 rfl;simp[c,this,b]
def lB.qe{H:List Ob}{z:Nat}{a:ab}{rows:List (List ab)}(h:lB H z a rows)(b:bA rows=true)(n:Nat):∃c d,bU H (n+1) a=some (c,d)/\bC c=true:=by
 rcases h with⟨e,rfl⟩|h
 .exact ⟨eW,[],rfl,rfl⟩
 .exact ⟨_,_,h.qe b n,by simpa using b⟩
def kv.qe{H:List Ob}{a:ab}{l:List bW}(h:kv H a l)(n:Nat):∃b,bU H (n+1) a=some (.aj (l.map aN),b):=by
 rcases h with rfl|h
 .exact ⟨[],by simp[bU,bV]⟩
 .exact ⟨_,h.qe (bV l) n⟩
def LM(l:List Ev):bA (l.map gw)=true:=jg _ (fun x=>by unfold gw;split<;>simp[bi]) l
def cF.HF{H:List Ob}{b:Nat}{w:Wk}{sl d f g i se:ab}(h:cF H b w sl d f g i se)(n:Nat):∃a c le m,cy [a,c,le]=true/\bU H (n+2) (.ptr b 0 0 0)=some (.aJ [[I w.n.dr.ai.id,I w.n.dr.ai.phase,.aj (w.n.dr.ai.af.map ax),I w.n.dr.aQ,aG w.n.dr.need,I w.n.book.last,.aj (w.n.book.aA.map aN),.aj (w.n.known.map aW),aG w.n.told,a,c,le,I w.e]] 0 0,m):=by
 have⟨o,⟨t,k⟩,p,q,r,j,s,d1,d2⟩:=h;have u:=k.qe (bK _) n;have v:=q.qe (bR _) n;have⟨y,z⟩:=p.qe n;have⟨a,A,B,f4⟩:=r.qe (bR _) n;have⟨c,C,D,f5⟩:=j.qe (OD _) n;have⟨le,E,F,f6⟩:=s.qe (LM _) n;have vI:∀x:Int,bU H (n+1) (I x)=some (I x,[]):=fun _=>rfl;have G:∀l:List Int,bU H (n+1) (.aj (l.map aC))=some (.aj (l.map aC),[]):=fun l=>by simp[bi]
 have J:bA [bM w sl d f g i se]=false:=by obtain⟨L,M,rfl,_⟩:=k;simp[bM]
 have K:bC (.ptr b 0 0 0)=false:=rfl;refine⟨a,c,le,13::(([8]++(y++([2]++(A++(C++(E++[]))))))++[]),by simp[f4,f5,f6],?_⟩;unfold bU;rw[K];simp only[aes,if_false];have j:obj H b 0=some (13,[bM w sl d f g i se]):=by simp[o]
 rw[j];simp only;unfold jb;rw[J];simp only[aes,if_false,jR,eX,bM,aG,u,v,z,B,D,F,vI,G];rfl
def Wm(x:aI)(b d e f g h i j:ab)(told:List Int)(k l m n:ab)(p:cy [b,d,e,f,g,h,i,j,k,l,m,n]=true)(hm:told.length<=maxLen):
  aS tz ay 0 206 [.agg (ax x),.c (.aJ [[.aJ [[b,d,e,f,g,h,i,j,aG told,k,l,m,n]] 0 0]] 0 0)]=some (aR (r9 x&&!decide (x.peer∈told)),[]):=by
 refine be func206 rfl ?_
 have a:=BL x
 have o:=qu told x.peer hm
 simp only[ax,aG]at a o
 cases c1:r9 x with
 |false=>
  rw[c1]at a
  simp[f206,ax,a]
 |true=>
  rw[c1]at a
  simp[f206,ax,a,o,bi]
def Ln(x:Int):∀l:List Int,(kB x l).length=l.length+1
 |[]=>rfl
 |y::r=>by
  unfold kB
  split
  .rfl
  .simp[Ln x r]
def QT:∀l:List Int,(gv l).length=l.length
 |[]=>rfl
 |x::r=>by simp[gv,Ln,QT r]
def Ll(l:List Int):(cD l).length<=l.length:=by have:=yw (gv l);rw[QT]at this;exact this
def kS(r:cd×Int×Int):aw×List Ob:=if r.2.2=0 then(.aM [.agg [I r.1.last,.sl 0 0 0 r.1.aA.length],aa r.2.1,aa 0],[ah 4 (r.1.aA.map aN)])else(.aM [.agg [I 0,.aj []],aa 0,aa r.2.2],[])
def adO(b:cd)(g:iI b):aS tz ay 0 209 [.agg (bO b)]=some (kS (kD b)):=by
 obtain⟨⟨v,o⟩,a⟩:∃r,kS (kD b)=r:=⟨_,rfl⟩;rw[a];refine be func209 rfl ?_;have c:=vY b g.hm g.hn;have f:=wF b g;have⟨d,h⟩:=b;simp only[bO]at c f;cases e:cN ⟨d,h⟩with
 |false=>simp[e]at c;rw[show kD ⟨d,h⟩=(.zero,0,170)by simp[kD,e]]at a;simp[kS]at a;obtain⟨rfl,rfl⟩:=a;simp[f209,bO,c]
 |true=>
  simp[e]at c;cases h with
  |nil=>simp at c;rw[show kD ⟨d,[]⟩=(.zero,0,175)by simp[kD,e]]at a;simp[kS]at a;obtain⟨rfl,rfl⟩:=a;simp[f209,bO,c,underlying65]
  |cons s r=>
   simp at c f;by_cases c1:s.state=1
   .simp[aN,c1]at c;rw[show kD ⟨d,s::r⟩=(.zero,0,175)by simp[kD,e,c1]]at a;simp[kS]at a;obtain⟨rfl,rfl⟩:=a;simp[f209,bO,c,c1,underlying65,aN]
   .simp[aN]at c f;rw[show kD ⟨d,s::r⟩=(⟨d,{s with state:=1}::r⟩,s.id,0)by simp[kD,e,c1]]at a;simp[kS]at a;obtain⟨rfl,rfl⟩:=a;simp[f209,bO,c,f,c1,underlying65,aN]

section
structure On(H:List Ob)(b c:Nat)(v:Wk)(G:List Ob):Prop where
 w:bX G b v
 f:bq b H G
 c:Cell b G c (ah 1 [[.ptr b 0 0 0]])
def On.step{H G a:List Ob}{b c:Nat}{v d:Wk}(h:On H b c v G)(g:bX a b d)(e:bq b G a):On H b c d a:=⟨g,h.f.trans e,h.c.step e⟩
def tS:List bW->List ab
 |[]=>[I 0,.aj [],I 0,I 0]
 |s::_=>aN s
structure qh(H:List Ob)(b c m:Nat)(v:Wk)(l:List bW)(G:List Ob):Prop where
 o:On H b c v G
 m:Cell b G m (ah 4 [tS l])
def qh.step{H G a:List Ob}{b c m:Nat}{v d:Wk}{l:List bW}(h:qh H b c m v l G)(f:bX a b d)(e:bq b G a):qh H b c m d l a:=⟨h.o.step f e,h.m.step e⟩
theorem bX.cell{H x:List Ob}{b:Nat}{w:Wk}(h:bX H b w){i:Nat}{o:Ob}(a:x[i]?=some o):Cell b (H++x) (H.length+i) o:=by have⟨sl,c,d,e,f,se,h⟩:=h;exact h.cell a
def Cell.snoc{b m:Nat}{G x:List Ob}{o:Ob}(h:Cell b G m o)(a:b<G.length):Cell b (G++x) m o:=h.step (bq.snoc a)
def bX.lt{H:List Ob}{b:Nat}{w:Wk}(h:bX H b w):b<H.length:=by have⟨sl,a,c,d,e,se,h⟩:=h;exact bf h.hb
section
variable{H:List Ob}{b c:Nat}{v:Wk}{G:List Ob}
def bX.row(h:bX G b v):∃sl a c d f se,cF G b v sl a c d f se/\G[b]?=some (ah 13 [[I v.n.dr.ai.id,I v.n.dr.ai.phase,sl,I v.n.dr.aQ,.aj (v.n.dr.need.map aC),I v.n.book.last,a,c,.aj (v.n.told.map aC),d,f,se,I v.e]]):=by have⟨sl,a,c,d,f,se,h⟩:=h;exact⟨sl,a,c,d,f,se,h,h.hb⟩
end
structure OB(w:Wk):Prop where
 a1:w.n.phase≠2->∀k,k<w.n.asked.length->Rm w k
 a2:∀k∈w.n.asked,-1000000<=k.peer/\k.peer<=1000000
 a3:w.n.asked.length<=100000
 bk:iI w.n.book
 b0:cN w.n.book=true
 s1:(dG (dq (dA w))).n.dr.ai.af.length<=100
 d0:dC (dG (dq (dA w))).n.dr=true
 n1:(dG (dq (dA w))).n.dr.need.length<=1000
 t1:(dq (dA w)).n.told.length<=90000
 s0:(dq (dA w)).n.dr.ai.af.length<=100
 o1:(fF (dG (dq (dA w)))).out.length<=90000
 e1:(fF (dG (dq (dA w)))).seen.length<=90000
 bj:∀k,k< (fe (fF (dG (dq (dA w))))).n.dr.ai.af.length->(((fe (fF (dG (dq (dA w))))).n.dr.ai.af.take k).foldl Wk.eZ (fe (fF (dG (dq (dA w)))))).out.length<=90000/\(((fe (fF (dG (dq (dA w))))).n.dr.ai.af.take k).foldl Wk.eZ (fe (fF (dG (dq (dA w)))))).n.told.length<=90000
 bm:(fe (fF (dG (dq (dA w))))).n.dr.ai.af.length<=1000
 l1:pd (iN (fe (fF (dG (dq (dA w)))))).n.dr.ai.af
 l2:(iN (fe (fF (dG (dq (dA w)))))).n.dr.ai.af.length<=1000
 l3:(iN (fe (fF (dG (dq (dA w)))))).n.dr.need.length<=100000
 l4:w.iw.out.length<=90000
def afX(w:Wk):(dA w).n.book=w.n.book:=by
 unfold dA;split
 .have:∀(l:List cj) (w:Wk),(l.foldl Wk.iz w).n.book=w.n.book:=fun l=>by
   induction l with
   |nil=>intro _;rfl
   |cons k r a=>intro w;rw[ai2,a];rfl
  exact this _ _
 .rfl
def aaw(w:Wk):(dq w).n.book=w.n.book:=by
 unfold dq;split
 .split<;>rfl
 .rfl
def abC(w:Wk):(dG w).n.book=w.n.book:=by unfold dG;split<;>rfl
def afw(w:Wk):(fF w).n.book=w.n.book:=rfl
def afl{G:List Ob}{b c f:Nat}{a:ab}{d:List Nat}(e:G[c]?=some (ah 1 [[.ptr b 0 0 0]]))(g:bU G 4 (.ptr b 0 0 0)=some (a,d)):∃h,bU G 6 (.bF f [.ptr c 0 0 0])=some (.bF f [.aJ [[a]] 0 0],h):=by
 have i:obj G c 0=some (1,[[.ptr b 0 0 0]]):=by simp[e]
 have hp:bC (.ptr c 0 0 0)=false:=rfl;have j:bU G 5 (.ptr c 0 0 0)=some (.aJ [[a]] 0 0,1::((d++[])++[])):=by unfold bU;rw[hp];simp only[aes,if_false];rw[i];simp only;have k:bA [[ab.ptr b 0 0 0]]=false:=rfl;unfold jb;rw[k];simp only[aes,if_false,jR,eX,g]
 have hc:bC (.bF f [.ptr c 0 0 0])=false:=rfl;refine⟨(1::((d++[])++[]))++[],?_⟩;unfold bU;rw[hc];simp only[aes,if_false,eX,j]
def aaX{G:List Ob}{b c:Nat}{v:Wk}{sl j k l m se:ab}(g:cF G b v sl j k l m se)(o:G[c]?=some (ah 1 [[.ptr b 0 0 0]]))(A:v.n.dr.ai.af.length<=1000000)(B:v.n.told.length<=100000):
  aO tz ay 171 [.c sl,.c (.bF 206 [.ptr c 0 0 0])] G=some (aR (v.n.dr.ai.af.any (untold v.n)),G):=by
 have⟨a,d,le,C,p,q⟩:=g.HF 2
 have⟨t,i⟩:=g.hs
 have r:=i.view (bK _)
 have⟨s,u⟩:=afl (f:=206) o q
 have h:bC a=true/\bC d=true/\bC le=true:=by simpa using p
 have w:=xL (g:=206) (caps:=[.aJ [[.aJ [[I v.n.dr.ai.id,I v.n.dr.ai.phase,.aj (v.n.dr.ai.af.map ax),I v.n.dr.aQ,aG v.n.dr.need,I v.n.book.last,.aj (v.n.book.aA.map aN),.aj (v.n.known.map aW),aG v.n.told,a,d,le,I v.e]] 0 0]] 0 0]) v.n.dr.ai.af (by unfold maxLen;omega) (untold v.n) (by simp) (by simp[bK,bV,bR,bi,h]) (bK _) (fun x _=>by
  have:=Wm x (I v.n.dr.ai.id) (I v.n.dr.ai.phase) (.aj (v.n.dr.ai.af.map ax)) (I v.n.dr.aQ) (aG v.n.dr.need) (I v.n.book.last) (.aj (v.n.book.aA.map aN)) (.aj (v.n.known.map aW)) v.n.told a d le (I v.e) (by simp[bK,bV,bR,bi,h]) (by unfold maxLen;omega)
  simp only[aG]at this
  simp[this,aG,bK,bV,bR,bi,h,ax]at this|-
  simp[untold])
 have y:([aw.c sl,aw.c (.bF 206 [.ptr c 0 0 0])].any (eO tz))=false:=by
  obtain⟨D,E,rfl,_⟩:=i
  simp[eO]
 have z:r7 G [.c sl,.c (.bF 206 [.ptr c 0 0 0])]=some ([bh (v.n.dr.ai.af.map ax),.c (.bF 206 [.aJ [[.aJ [[I v.n.dr.ai.id,I v.n.dr.ai.phase,.aj (v.n.dr.ai.af.map ax),I v.n.dr.aQ,aG v.n.dr.need,I v.n.book.last,.aj (v.n.book.aA.map aN),.aj (v.n.known.map aW),aG v.n.told,a,d,le,I v.e]] 0 0]] 0 0])],[8]++(s++[])):=by
  simp only[r7,df,r,u]
 rw[aD,y,z]
 simp only[show tz.md 171=0 from rfl,aes,or_false]
 rw[if_neg (by decide),kU,(show tz.md 171=0 from rfl),w,jP]
 simp
theorem cF.out{H G:List Ob}{b:Nat}{w:Wk}{sl k l p g se ol':ab}(h:cF H b w sl k l p g se)(q:List cB)(s:G[b]?=some (ah 13 [bM ⟨w.n,q,w.seen,w.e⟩ sl k l p ol' se]))(K:H.length<=G.length)
  (i:∀(m:Nat) (o:Ob),H[m]?=some o->m≠b->m∉rf g->G[m]?=some o) (A:lB G 5 ol' (q.map dW)) (u:∀m∈rf ol',m∈rf g\/H.length<=m):
  cF G b ⟨w.n,q,w.seen,w.e⟩ sl k l p ol' se/\bq b H G:=by
 obtain⟨j,⟨t,B⟩,C,D,E,F,x,d1,d2⟩:=h
 have I:∀m,m∈rf g->∃v r,H[m]?=some (.live v 5 r):=by
  rcases F with⟨_,rfl⟩|⟨M,N,rfl,d⟩
  .intro m hm;simp[rf]at hm
  .intro m hm;simp[rf]at hm;subst hm;exact⟨_,_,d⟩
 have f:∀(m v z:Nat) (r:List (List ab)),z≠13->z≠5->H[m]?=some (.live v z r)->G[m]?=some (.live v z r):=fun m v z r c d a=>i m _ a (fun e=>by subst e;rw[j]at a;cases a;exact c rfl) (fun hm=>by
  obtain⟨O,P,y⟩:=I m hm
  rw[y]at a;cases a;exact d rfl)
 refine⟨⟨s,⟨t,B.aK fun _ _ _ _ h=>f _ _ _ _ (by decide) (by decide) h⟩,C.aK fun _ _ _ _ h=>f _ _ _ _ (by decide) (by decide) h,D.aK fun _ _ _ _ h=>f _ _ _ _ (by decide) (by decide) h,E.aK fun _ _ _ _ h=>f _ _ _ _ (by decide) (by decide) h,A,x.aK fun m _ _ hm h=>i m _ h (fun e=>by subst e;rw[j]at h;cases h) (fun L=>d2 m L hm),d1,fun m hm J=>?_⟩,bq.bH j s K (fun m hm=>?_) (fun m o c d a=>i m o c d (fun y=>a ?_))⟩
 .rcases u m hm with c|c
  .exact d2 m c J
  .have:=x.lt m J
   omega
 .have Q:=u m
  clear I f B C D E F x d1 d2 j s i A u
  simp only[eu,bM,aiz,ajn,ain,qA,rfs,aG]at hm|-
  simp at hm|-
  grind
 .simp only[eu,bM,aiz,ajn,ain,qA,rfs,aG]
  simp[y]
def qs{H:List Ob}{b:ab}{l:List bW}{a:Int}{f:FuncId}{r:aw}{own:List Ob}{ex:List aw}(h:kv H b l)(c:tz.md f=0)(hex:r7 H ex=some (ex,[]))(g:ex.any (eO tz)=false)
  (hp:aS tz ay 0 f (.agg [I a,.aj (l.map aN)]::ex)=some (r,own)) (i:ei false [4] r own=true):aO tz ay f (.agg [I a,b]::ex) H=some (eN H.length r,H++own.map (dX H.length)):=by
 have vI:bU H 6 (I a)=some (I a,[]):=rfl
 have e:((aw.agg [I a,b]::ex).any (eO tz))=false:=by simpa[eO]using g
 rcases h.view with v|v
 .have d:r7 H (.agg [I a,b]::ex)=some (.agg [I a,.aj (l.map aN)]::ex,[]):=by simp only[r7,df,eX,vI,v,hex];rfl
  rw[aD,e,d]
  simp only[c,aes,or_false]
  rw[if_neg (by decide),kU,c,hp,jP]
  exact if_pos rfl
 .have d:r7 H (.agg [I a,b]::ex)=some (.agg [I a,.aj (l.map aN)]::ex,[4]):=by simp only[r7,df,eX,vI,v,hex];rfl
  rw[aD,e,d]
  simp only[c,aes,or_false]
  rw[if_neg (by decide),kU,c,hp,jP]
  exact if_pos i
def IQ(x:bW):cW [4] (aN x)=true:=by have h:=vz aC [4] (fun x=>by simp[aC]) x.need;simp[aN,aG,h]
def QF(a i e:Int)(n:Nat)(l:List bW):ei false [4] (.aM [.agg [I a,.sl 0 0 0 n],aa i,aa e]) [ah 4 (l.map aN)]=true:=by
 have:((l.map aN).all fun r=>cW [4] r)=true:=by rw[aj9,ahI];intro x _;exact IQ x
 simp[ei,kj,lH,-cW]at this|-;exact⟨by simp[cW],this⟩
def uj(n:Nat)(l:List bW):dX n (ah 4 (l.map aN))=ah 4 (l.map aN):=qy (bV l)
end
def zR{id:Int}:∀ {l:List aI} {a:Int},dU id a l=true->(l.Pairwise fun x y=>x.peer<y.peer)/\∀x∈l,a<x.peer
 |[],_,_=>⟨akr,by simp⟩
 |x::r,a,h=>by
  simp only[dU,abR]at h
  have⟨b,c⟩:=zR h.2
  grind [cS,(ahg)]
def Sn{id:Int}{l:List aI}(hid:id<64)(h:dU id (-1) l=true)(hp:∀x∈l,x.peer<64):pd l:=by have⟨b,c⟩:=zR h;have d:=wC hid h hp (by omega) (by omega);refine⟨b,fun x a=>⟨by have:=c x a;omega,by have:=hp x a;omega⟩,?_⟩;omega
structure gN(l:List cj):Prop where
 s:l.Pairwise fun x y=>x.peer<y.peer
 b:∀x∈l,-1000000<=x.peer/\x.peer<=1000000
theorem Gi{p e:Int}{y:cj}:∀ {l:List cj},y∈fS p e l->y.peer=p\/y∈l
 |[],h=>by grind [fS]
 |k::r,h=>by
  unfold fS at h
  split at h
  .grind
  .split at h
   .grind
   .rcases aeM.1 h with rfl|h
    .simp
    .rcases Gi h with h|h
     .exact .inl h
     grind
def Q1{p e:Int}:∀ {l:List cj},(l.Pairwise fun x y=>x.peer<y.peer)->(fS p e l).Pairwise fun x y=>x.peer<y.peer
 |[],_=>by simp[fS]
 |k::r,h=>by
  have hp:=ahg.1 h
  unfold fS
  split
  .simp_all
  .rename_i a
   split
   .grind [(ahg)]
   .rename_i b
    refine ahg.2 ⟨fun y c=>?_,Q1 hp.2⟩
    grind [(Gi)]
def gN.td{l:List cj}(h:gN l){p e:Int}(d: -1000000<=p)(f:p<=1000000):gN (fS p e l):=⟨Q1 h.s,fun x c=>by
 rcases Gi c with a|a
 .omega
 .exact h.b x a⟩
def DR:∀(l:List cj) (w:Wk),gN w.n.known->(∀k∈l,-1000000<=k.peer/\k.peer<=1000000)->gN (l.foldl Wk.iz w).n.known
 |[],_,h,_=>h
 |k::r,w,h,hp=>by
  rw[ai2]
  have⟨a,b⟩:=hp k (by simp)
  exact DR r _ (h.td a b) fun y c=>hp y (by simp[c])
def Sp{a:Wk}(hid:a.n.id<64)(b:amO a a a.n.asked):∀k:Nat,k<=a.n.asked.length->amO a ((a.n.asked.take k).foldl Wk.iz a) (a.n.asked.drop k)
 |0,_=>by grind
 |k+1,c=>by
  have d:=Sp hid b k (by omega)
  grind [(agO),(Qf),(amO.id)]
def agL{w:Wk}(h:dd w.n):amO w w w.n.asked:=by have a:=ic.1 h.dr;have b:=jn.1 a.1;exact⟨rfl,rfl,rfl,rfl,rfl,rfl,rfl,rfl,fun _ h=>h,b.2.2.2.2,h.pe,h.ask,h.ad,rfl,rfl,rfl,by omega⟩
structure eY(v:Wk):Prop where
 i:dd v.n
 k:gN v.n.known
 t:ij v<=9000
 e:v.e=0
def acY{w:Wk}(h:dd w.n)(a:gN w.n.known):gN (dA w).n.known:=by
 unfold dA;split
 .exact DR _ _ a fun k a=>by have:=h.ask k a;have:=h.id;omega
 .exact a
def agG(w:Wk):(iN w).n.known=w.n.known:=by unfold iN;split<;>rfl
def VV(w:Wk):(fe w).n.known=w.n.known:=by
 unfold fe;split
 .split<;>rfl
 .rfl
def abr(w:Wk):(dG w).n.known=w.n.known:=by unfold dG;split<;>rfl
def ae1(w:Wk):(dq w).n.known=w.n.known:=by
 unfold dq;split
 .split<;>rfl
 .rfl
theorem eY.iw{v:Wk}(h:eY v):eY v.iw:=by
 have⟨a,d,f,b⟩:=zD h.i;have c:v.iw.n.known=(dA v).n.known:=by show(iN (fe (fF (dG (dq (dA v)))))).n.known=_;rw[agG,VV];show(dG (dq (dA v))).n.known=_;rw[abr,ae1]
 exact⟨a,by rw[c];exact acY h.i h.k,by have:=h.t;omega,by rw[b];exact h.e⟩
def RC:∀ {l:List Int} {a:Int},ek l=true->(∀p∈l,a<=p/\p<64)->a<=64->(l.length:Int)+a<=64
 |[],a,_,_,h=>by simp;omega
 |x::r,a,b,d,_=>by
  have j:=d x (by simp)
  simp only[ek,abR]at b
  have e:=RC (a:=x+1) b.2 (fun p hp=>?_) (by omega)
  .grind
  .have g:=d p (by simp[hp])
   refine⟨?_,g.2⟩
   have i:∀(l:List Int) (x:Int),((match l with|[]=>true|y::_=>decide (x<y))=true)->ek l=true->∀p∈l,x<p:=by
    intro l
    induction l with
    |nil=>simp
    |cons y t e=>
     intro x f c p hp
     simp only[decide_eq_true_eq]at f
     simp only[ek,abR]at c
     rcases aeM.1 hp with rfl|hp
     .exact f
     .have:=e y c.1 c.2 p hp;omega
   have:=i r x b.1 b.2 p hp
   omega
theorem dd.need{n:Nd}(h:dd n):n.dr.need.length<=64:=by
 have b:=ic.1 h.dr;have d:=jn.1 b.1;have:=RC (a:=0) b.2.2.2.1 (fun p hp=>by obtain⟨x,c,rfl⟩:=lM.1 (b.2.2.2.2.2 p hp);have e:=(zR d.2.2.2.2).2 x c;exact⟨by omega,h.pe x c⟩) (by decide)
 omega
def dd.af{n:Nd}(h:dd n):n.dr.ai.af.length<64/\pd n.dr.ai.af:=by have b:=ic.1 h.dr;have a:=jn.1 b.1;exact⟨a.2.2.2.1,Sn h.id a.2.2.2.2 h.pe⟩
def yp{b:cd}(h:cN b=true):iI b:=by refine⟨?_,fun s a=>by have:=(Ry h s a).2;omega⟩;grind [cN]
def PM(told:List Int):∀(l:List aI) (k:Nat),bS (dB told) (l.take k)<=bS (dB told) l
 |[],_=>by simp[bS]
 |x::r,0=>by simp[bS]
 |x::r,k+1=>by
  have:=PM told r k
  grind [bS]
def agy{w:Wk}(k:Nat):((w.n.dr.ai.af.take k).foldl Wk.eZ w).out.length<=ij w/\((w.n.dr.ai.af.take k).foldl Wk.eZ w).n.told.length<=ij w:=by rw[D5];have⟨m,a,b,c,d,e⟩:=Af w.n.id (w.n.dr.ai.af.take k) w.n.told w.out;have f:=PM w.n.told w.n.dr.ai.af k;grind [dP,ij]
def eY.Wx{v:Wk}(h:eY v):OB v:=by
 have⟨l,m,A,B⟩:=GZ h.i;have⟨e,o,p,q⟩:=Eu l;have⟨c1,c2,c3,c4⟩:=IL e;have⟨d1,d2,d3⟩:=IC c1 (by rw[c3,c4,p];exact q);have⟨f,r⟩:=Qr d1;have⟨a,u⟩:=Lp f;have⟨C,x⟩:=aoW a;have D:=h.t;have E:=m.2.1;have F:=o.2.1;have G:=c2.2.1;have H:=d2.2.1;have I:=r.2.1;have J:=u.2.1;have K:=x.2.1;have L:10*v.n.asked.length<=dP v.n:=by simp only[dP];omega
 have d:∀w:Wk,w.out.length<=ij w/\w.seen.length<=ij w/\w.n.told.length<=ij w:=fun w=>by simp only[ij];omega
 have M:ij v=v.out.length+v.seen.length+v.n.told.length+v.n.known.length+dP v.n:=rfl;refine⟨fun _ k g=>?_,fun k g=>by have:=h.i.ask k g;have:=h.i.id;omega,by omega,yp h.i.bk,h.i.bk,by have:=c1.af.1;omega,c1.dr,by have:=c1.need;omega,?_,by have:=e.af.1;omega,?_,?_,fun k _=>?_,by have:=f.af.1;omega,a.af.2,by have:=a.af.1;omega,by have:=a.need;omega,?_⟩
 .have c:=Sp h.i.id (agL h.i) k (by omega);have j:=DR (v.n.asked.take k) v h.k fun y z=>by have:=h.i.ask y (ajA z);have:=h.i.id;omega
  have N:=c.t;exact⟨Sn (by rw[c.id];exact h.i.id) c.ok c.pe,⟨j.s,j.b,by omega⟩,by omega,by omega⟩
 .have:=(d (dq (dA v))).2.2;omega
 .have:=(d (fF (dG (dq (dA v))))).1;omega
 .have:=(d (fF (dG (dq (dA v))))).2.1;omega
 .have:=agy (w:=fe (fF (dG (dq (dA v))))) k;omega
 grind [Wk.iw]
theorem KH{a b:List Int}:kZ a b=true↔ ∀x∈a,x∈b:=by grind [kZ,gJ,(alk),(vA)]
def Iz:∀ {l ahead:List cj},kN ahead l=true->(l.Pairwise fun x y=>x.peer≠y.peer)/\∀x∈ahead, ∀k∈l,x.peer≠k.peer
 |[],_,_=>⟨akr,by simp⟩
 |k::r,ahead,h=>by
  simp only[kN,abR,afa,aja,decide_eq_true_eq]at h
  have⟨a,b⟩:=Iz h.2
  simp_all
def yl:∀ {l:List cj} {a:Int},mL a l=true->(l.Pairwise fun x y=>x.peer<y.peer)/\∀x∈l,a<x.peer/\x.peer<64/\1<=x.aP/\x.aP<=65535
 |[],_,_=>⟨akr,by simp⟩
 |k::r,a,h=>by
  simp only[mL,abR,decide_eq_true_eq]at h
  have⟨⟨⟨⟨c,d⟩,e⟩,f⟩,b⟩:=h
  have⟨g,i⟩:=yl b
  grind [(ahg)]
def AB{l:List cj}{a:Int}(h:mL a l=true)(p:Int):0<=gR l p:=by
 have b:=(yl h).2;clear h;induction l with
 |nil=>simp[gR]
 |cons k r c=>grind [gR]
theorem Pg{n:Nd}{p:Int}:p∈jY n↔qZ n p:=by grind [jY,nR,qZ]
theorem Sw{bl:Int}:∀ {l:List bW} {b:Int} {f:Bool},dS bl b f l=true->∀s∈l,s.state=0\/s.state=1
 |[],_,_,_=>by simp
 |s::r,b,f,h=>by
  simp only[dS,abR]at h
  intro t a
  rcases aeM.1 a with rfl|a
  .grind [dw]
  .exact Sw h.2 t a
theorem Y1{b:cd}(h:cN b=true):∀s∈b.aA,s.state=0\/s.state=1:=by grind [cN,(Sw)]
def JE{n:Nd}(h:dm n=true):dd n/\gN n.known/\mL (-1) n.known=true:=by
 simp only[dm,pF,sj,abR,afa,aja,decide_eq_true_eq]at h;obtain⟨⟨⟨c,d⟩,⟨e,f⟩,⟨⟨⟨hid,a⟩,o⟩,q⟩,t⟩,hth⟩:=h;have g:=yl a
 have b:(∀s∈n.book.aA,s.state=0->∀p∈s.need,qZ n p)/\(n.dr.aQ=1->∃s r,n.book.aA=s::r/\s.state=0/\s.need=n.dr.need):=by
  unfold sU at hth;cases u:n.book.aA with
  |nil=>grind
  |cons s r=>grind [(Pg),(KH),(Y1)]
 refine⟨⟨c,d,hid,fun x i=>?_,fun k j=>?_,(Iz f).1,b.1,b.2⟩,⟨g.1,fun x i=>by grind⟩,a⟩
 .grind [lU]
 .have l:=e k j;have m:ju n k=true:=by simpa using l
  simp only[ju,abR,afa,decide_eq_false_iff_not,decide_eq_true_eq]at m;have v:=AB a k.peer;grind
def Rl{H:List Ob}{b:Nat}{w:Wk}(aa:bX H b w)(B:OB w):
  ∃H',bB tz (ev tz) 129 [au b] H=some (.aM [],H')/\bX H' b w.iw/\bq b H H':=by
 refine gj func129 rfl ?_
 simp only[f129,cr]
 refine eh (fun S=>∃c,S.env.get 1=some (au c)/\S.bG=[]/\On H b c w S.heap) ?_ ?_
 .simp
  have J:=aa.cell (x:=[ah 1 [[.ptr b 0 0 0]]]) (i:=0) rfl
  rw[aiB]at J
  exact⟨aa.snoc,bq.snoc aa.lt,J⟩
 rintro⟨e,G,ds⟩⟨c,j,rfl,o⟩
 simp only at j o
 refine bp [(1,au c)] (fun G=>On H b c (dA w) G) ?_ ?_
 .have ⟨sl,F,L,C,N,se,g,p⟩:=o.w.row
  have u:=o.c.at'
  by_cases c1:w.n.dr.ai.phase=2
  .have t:dA w=w:=by unfold dA;rw[if_neg (by simp[Nd.phase,c1])]
   rw[c1]at p
   rw[t]
   simp[j,u,p]
   exact o
  .have t:dA w=w.answer:=by unfold dA;rw[if_pos c1]
   have⟨G',O,w2,bm⟩:=Y6 o.w (B.a1 c1) B.a2 B.a3
   rw[t]
   simp[j,u,p,c1,O]
   exact o.step w2 bm
 have P:=afX w
 have aE:=B.bk
 have⟨D,Q⟩:=eg (dA w)
 clear j o
 rintro e G⟨j,_⟩o
 rw[Q]at o P
 refine eh (fun S=>∃m,S.env.get 1=some (au c)/\S.env.get 2=some (au m)/\S.env.get 3=some (aR (!w.n.book.aA.isEmpty))/\S.bG=[]/\qh H b c m D w.n.book.aA S.heap) ?_ ?_
 .have ⟨sl,F,L,C,N,se,g,p⟩:=o.w.row
  have u:=o.c.at'
  have Y:=o.w.lt
  cases E:w.n.book.aA with
  |nil=>
   have cl:=qJ g (f:=119) (r:= .aM [.agg [I 0,.aj [],I 0,I 0],aR false]) (own:=[]) (by simp) (fun aq M=>by rw[v8 _ aq M,P,E]) (fun bs hb=>by rcases hb with rfl|rfl|rfl|rfl<;>rfl)
   simp only[aG]at cl
   have J:=o.w.cell (x:=[ah 4 [[I 0,.aj [],I 0,I 0]]]) (i:=0) rfl
   rw[aiB]at J
   simp[-aD,j,u,p,cl]
   exact⟨o.step o.w.snoc (bq.snoc Y),J⟩
  |cons s r=>
   have cl:=qJ g (f:=119) (r:= .aM [.agg (aN s),aR true]) (own:=[]) (by simp) (fun aq M=>by rw[v8 _ aq M,P,E]) (fun bs hb=>by rcases hb with rfl|rfl|rfl|rfl<;>simp[aN,vz])
   simp only[aG]at cl
   have J:=o.w.cell (x:=[ah 4 [aN s]]) (i:=0) rfl
   rw[aiB]at J
   simp only[aN,aG]at J cl
   simp[-aD,j,u,p,cl]
   exact⟨o.step o.w.snoc (bq.snoc Y),J⟩
 clear j o
 rintro⟨e,G,ds⟩⟨m,j,v,k,rfl,o⟩
 simp only at j v k o
 refine bp [(1,au c),(2,au m),(3,aR (!w.n.book.aA.isEmpty))] (fun G=>qh H b c m (dq D) w.n.book.aA G) ?_ ?_
 .have ⟨sl,F,L,C,N,se,g,p⟩:=o.o.w.row
  have u:=o.o.c.at'
  have z:=o.m.at'
  cases E:w.n.book.aA with
  |nil=>
   rw[E]at k o
   simp at k
   have t:dq D=D:=by unfold dq waits;rw[P,E]
   rw[t]
   simp[j,v,k]
   exact o
  |cons s r=>
   rw[E]at k o z
   simp only[tS,aN,aG]at z
   simp at k
   by_cases c1:s.state=0
   case neg=>
    have t:dq D=D:=by unfold dq waits;rw[P,E];simp[c1]
    rw[t]
    simp[j,v,k,z,c1]
    exact o
   by_cases c2:D.n.dr.aQ=0
   case neg=>
    have t:dq D=D:=by unfold dq waits;rw[P,E];simp[c1,c2]
    rw[t]
    rw[c1]at z
    simp[j,v,k,u,z,p,c2]
    exact o
   have t:dq D=D.put (D.n.di ⟨D.n.dr.ai,1,s.need⟩):=by unfold dq waits;rw[P,E];simp[c1,c2]
   have q:=g.xX [] (D.put (D.n.di ⟨D.n.dr.ai,1,s.need⟩)) sl F C (.inl ⟨rfl,rfl⟩) (.inl ⟨rfl,rfl⟩) rfl (.inl ⟨rfl,rfl⟩) rfl rfl
   have aX:=uF (a:= .aj (s.need.map aC)) (l:=s.need) rfl (by have:=aE.2 s (by rw[E];simp);omega)
   rw[c1]at z
   rw[c2]at p
   rw[t]
   simp only[bM,Wk.put,Nd.di,aeU,aG]at q
   simp[j,v,k,u,z,p,aX,ba p,bi,o.o.c.ne]
   exact o.step q.1 q.2
 have aF:=(aaw D).trans P
 have⟨wb,R⟩:=eg (dq D)
 clear j v k o
 rintro e G⟨j,v,k,_⟩o
 rw[R]at o aF
 refine bp [(1,au c),(2,au m),(3,aR (!w.n.book.aA.isEmpty)),(4,.c (.bF 206 [.ptr c 0 0 0]))] (fun G=>qh H b c m wb w.n.book.aA G) ?_ ?_
 .simp[j,v,k]
  exact o
 clear j v k o
 rintro e G⟨j,v,k,a4,_⟩o
 refine bp [(1,au c),(2,au m),(3,aR (!w.n.book.aA.isEmpty))] (fun G=>qh H b c m (dG wb) w.n.book.aA G) ?_ ?_
 .have ⟨sl,F,L,C,N,se,g,p⟩:=o.o.w.row
  have u:=o.o.c.at'
  by_cases c1:wb.n.dr.ai.phase=0
  case neg=>
   have t:dG wb=wb:=by unfold dG;rw[if_neg (by simp[Nd.phase,c1])]
   rw[t]
   simp[j,v,k,u,p,c1]
   exact o
  have aY:=B.s0
  have aZ:=B.t1
  rw[Q,R]at aY aZ
  have cl:=aaX g u (by omega) (by omega)
  rw[c1]at p
  cases c2:wb.n.dr.ai.af.any (untold wb.n)with
  |false=>
   have t:dG wb=wb:=by
    unfold dG
    rw[if_neg]
    rintro⟨_,aa⟩
    rw[show wb.n.af=wb.n.dr.ai.af from rfl,c2]at aa
    cases aa
   rw[c2]at cl
   rw[t]
   simp[-aD,j,v,k,a4,u,p,cl]
   exact o
  |true=>
   have t:dG wb=wb.put (wb.n.di ⟨⟨wb.n.id,1,wb.n.af⟩,wb.n.dr.aQ,wb.n.dr.need⟩):=by
    unfold dG
    rw[if_pos ⟨c1,c2⟩]
   have q:=g.xX [] (wb.put (wb.n.di ⟨⟨wb.n.id,1,wb.n.af⟩,wb.n.dr.aQ,wb.n.dr.need⟩)) sl F C (.inl ⟨rfl,rfl⟩) (.inl ⟨rfl,rfl⟩) rfl (.inl ⟨rfl,rfl⟩) rfl rfl
   rw[c2]at cl
   rw[t]
   simp only[bM,Wk.put,Nd.di,aeU,aG]at q
   simp[-aD,j,v,k,a4,u,p,cl]
   exact o.step q.1 q.2
 have aH:=(abC wb).trans aF
 have ao:=B.s1
 have aI:=B.n1
 rw[Q,R]at ao aI
 have⟨h,ab⟩:=eg (dG wb)
 clear j v k a4 o
 rintro e G⟨j,v,k,_⟩o
 rw[ab]at o aH ao aI
 have ag:=afi h.n.dr ao (by omega)
 have T:=B.o1
 have aJ:=B.e1
 rw[Q,R,ab]at T aJ
 have aK:=B.d0
 rw[Q,R,ab]at aK
 rw[if_neg (by rw[aK];simp)]at ag
 have ap:fF h=⟨h.n.di (lC h.n.dr).1,h.out++(lC h.n.dr).2.1,h.seen,h.e⟩:=rfl
 have⟨d,hd⟩:=eg ((lC h.n.dr).1)
 have⟨fo,a0⟩:=eg ((lC h.n.dr).2.1)
 rw[hd,a0]at ag ap
 have be:h.out.length+fo.length<=90000:=by rw[ap]at T;simpa using T
 simp only[xG,cU,aG]at ag
 refine eh (fun S=>∃n0 mo,S.env.get 1=some (au c)/\S.env.get 2=some (au m)/\S.env.get 3=some (aR (!w.n.book.aA.isEmpty))/\S.env.get 5=some (au n0)/\S.env.get 6=some (bd mo 0 0 fo.length)/\S.bG=[]/\S.heap=G++[ah 8 (d.ai.af.map ax),ah 5 (fo.map dW),ah 5 [[I d.ai.id,I d.ai.phase,.sl G.length 0 0 d.ai.af.length,I d.aQ,.aj (d.need.map aC)]]]/\n0=G.length+2/\mo=G.length+1) ?_ ?_
 .have ⟨sl,F,L,C,N,se,g,p⟩:=o.o.w.row
  have u:=o.o.c.at'
  obtain⟨a1,M,Z,rfl,a2⟩:=g.hs
  have a3:((h.n.dr.ai.af.map ax)++a1).take h.n.dr.ai.af.length=h.n.dr.ai.af.map ax:=ai8 (by simp)
  simp[j,v,k,u,p,a2,a3,ag,xw,pS,Ni]
 have Y:=o.o.w.lt
 have J:=o.o.w.cell (x:=[ah 8 (d.ai.af.map ax),ah 5 (fo.map dW),ah 5 [[I d.ai.id,I d.ai.phase,.sl G.length 0 0 d.ai.af.length,I d.aQ,.aj (d.need.map aC)]]]) (i:=1) rfl
 have c2:=o.o.w.cell (x:=[ah 8 (d.ai.af.map ax),ah 5 (fo.map dW),ah 5 [[I d.ai.id,I d.ai.phase,.sl G.length 0 0 d.ai.af.length,I d.aQ,.aj (d.need.map aC)]]]) (i:=2) rfl
 have⟨sl,F,L,C,N,se,g,p⟩:=o.o.w.row
 have q:=(g.snoc (x:=[ah 8 (d.ai.af.map ax),ah 5 (fo.map dW),ah 5 [[I d.ai.id,I d.ai.phase,.sl G.length 0 0 d.ai.af.length,I d.aQ,.aj (d.need.map aC)]]])).vl (bq.snoc Y) [] (h.put (h.n.di d)) (.sl G.length 0 0 d.ai.af.length) F C (.inr ⟨by simp[rf],[],G.length,0,by simp[Wk.put,Nd.di],by rw[aeU,ane];simp[Wk.put,Nd.di]⟩) (.inl ⟨rfl,rfl⟩) rfl (.inl ⟨rfl,rfl⟩) rfl rfl
 have o2:=o.step o.o.w.snoc (bq.snoc (x:=[ah 8 (d.ai.af.map ax),ah 5 (fo.map dW),ah 5 [[I d.ai.id,I d.ai.phase,.sl G.length 0 0 d.ai.af.length,I d.aQ,.aj (d.need.map aC)]]]) Y)
 clear j v k
 rintro⟨e,K,ds⟩⟨n0,mo,j,v,k,a5,U,rfl,t,O,e3⟩
 simp only at j v k a5 U t
 refine bp [(1,au c),(2,au m),(3,aR (!w.n.book.aA.isEmpty)),(6,bd mo 0 0 fo.length)] (fun G=>qh H b c m (h.put (h.n.di d)) w.n.book.aA G/\Cell b G mo (ah 5 (fo.map dW))) ?_ ?_
 .have u:=o2.o.c.at'
  have ad:=c2.at'
  have ar:=aV (m:=[ah 8 (d.ai.af.map ax),ah 5 (fo.map dW),ah 5 [[I d.ai.id,I d.ai.phase,.sl G.length 0 0 d.ai.af.length,I d.aQ,.aj (d.need.map aC)]]]) p
  rw[<-t]at u ad ar q J
  rw[<-O]at ad
  rw[<-e3]at J
  simp only[bM,Wk.put,Nd.di,aeU,aG]at q
  simp[j,v,k,a5,U,u,ad,ar]
  refine⟨o.step q.1 q.2,?_⟩
  refine⟨by rw[aat (ait J.ne)];exact J.at',J.ne,?_⟩
  rw[ba ar]
  intro hm
  have ak:=g.lt
  rw[p]at ak
  simp only[oW,eu,aiz,ajn,ain,Go.Nx.rf]at hm ak
  simp at hm ak
  have h1:=ak mo
  grind
 clear j v k a5 U t O e3 J c2 q o2 o g p Y
 rintro e K⟨j,v,k,U,_⟩⟨o,cm⟩
 refine bp [(1,au c),(2,au m),(3,aR (!w.n.book.aA.isEmpty))] (fun G=>qh H b c m (fF h) w.n.book.aA G) ?_ ?_
 .have hD:fF h=⟨(h.put (h.n.di d)).n,h.out++fo,(h.put (h.n.di d)).seen,(h.put (h.n.di d)).e⟩:=ap
  have⟨sl,F,L,C,N,se,g,p⟩:=o.o.w.row
  have u:=o.o.c.at'
  have z:=cm.at'
  have aL:=o.o.c.ne
  have Y:=o.o.w.lt
  have b1:h.out.length<=maxLen/\h.out.length*40<=140737488355328:=⟨by unfold maxLen;omega,by omega⟩
  have b2:fo.length<=maxLen/\fo.length*40<=140737488355328:=⟨by unfold maxLen;omega,by omega⟩
  have b3:h.out.length+fo.length<=maxLen/\(h.out.length+fo.length)*40<=140737488355328:=⟨by unfold maxLen;omega,by omega⟩
  have aO:∀x:cB,(dW x).length=5:=fun _=>rfl
  have av:∀x,(K++x)[b]?=_:=fun x=>aV p
  have go:=g.ho
  have a6:(h.put (h.n.di d)).out=h.out:=rfl
  rw[a6]at go
  rcases go with⟨T,rfl⟩|⟨M,Z,rfl,V⟩
  .simp at T
   have q:=g.out (G:=(K++[Ob.live 0 5 (fo.map dW)]).set b (Ob.live 0 13 [bM ⟨(h.put (h.n.di d)).n,h.out++fo,(h.put (h.n.di d)).seen,(h.put (h.n.di d)).e⟩ sl F L C (.sl K.length 0 0 fo.length) se])) (h.out++fo) (ol':= .sl K.length 0 0 fo.length) (ba (av _)) (by simp) (fun m o h1 h2 h3=>by rw[aat (ait h2)];exact aV h1) (.inr ⟨K.length,0,by simp[T],by rw[aat (by omega),ane];simp[T]⟩) (fun m hm=>by simp[Go.Nx.rf]at hm;exact .inr (by omega))
   rw[<-hD]at q
   have er:bM (fF h) sl F L C (.sl K.length 0 0 fo.length) se=[I d.ai.id,I d.ai.phase,sl,I d.aQ,.aj (d.need.map aC),I h.n.book.last,F,L,.aj (h.n.told.map aC),C,.sl K.length 0 0 fo.length,se,I h.e]:=by rw[hD];rfl
   rw[er]at q
   simp[j,v,k,U,u,z,p,av,b2,aO,Wk.put,Nd.di]
   exact o.step q.1.at q.2
  .have aP:M≠b:=fun e=>by subst e;rw[p]at V;cases V
   have sb:∀y,(K.set M y)[b]?=_:=fun y=>(aat aP).trans p
   have aS:¬c=M:=fun e=>by subst e;rw[u]at V;cases V
   rw[aeU]at V
   have a7:(h.out.map dW).length=h.out.length:=by simp
   rw[a7]at g p av sb
   have q:=g.out (G:=(K.set M (Ob.live (Z+1) 5 ((h.out++fo).map dW))).set b (Ob.live 0 13 [bM ⟨(h.put (h.n.di d)).n,h.out++fo,(h.put (h.n.di d)).seen,(h.put (h.n.di d)).e⟩ sl F L C (.sl M (Z+1) 0 (h.out.length+fo.length)) se])) (h.out++fo) (ol':= .sl M (Z+1) 0 (h.out.length+fo.length)) (ba (sb _)) (by simp) (fun m o h1 h2 h3=>by rw[aat (ait h2),aat (fun e=>h3 (by subst e;simp[Go.Nx.rf]))];exact h1) (.inr ⟨M,Z+1,by simp,by rw[aat (ait aP),ba V];simp⟩) (fun m hm=>by simp[Go.Nx.rf]at hm|-;exact .inl hm)
   rw[<-hD]at q
   have er:bM (fF h) sl F L C (.sl M (Z+1) 0 (h.out.length+fo.length)) se=[I d.ai.id,I d.ai.phase,sl,I d.aQ,.aj (d.need.map aC),I h.n.book.last,F,L,.aj (h.n.told.map aC),C,.sl M (Z+1) 0 (h.out.length+fo.length),se,I h.e]:=by rw[hD];rfl
   rw[er]at q
   by_cases qf:fo=[]
   .subst qf
    simp only[aeU,aiQ,aiB]at q
    simp[j,v,k,U,u,z,p,b1,aS,V,sb,Wk.put,Nd.di,aeU]
    exact o.step q.1.at q.2
   .have q1:0<fo.length:=akt.2 qf
    have q2:¬h.out.length+fo.length<=h.out.length:=by omega
    rw[aid]at q
    simp[j,v,k,U,u,z,p,b3,aO,aS,V,sb,Wk.put,Nd.di,q1,q2]
    exact o.step q.1.at q.2
 have W:=(afw h).trans aH
 have⟨A,al⟩:=eg (fF h)
 clear j v k U o cm
 rintro e G⟨j,v,k,_⟩o
 rw[al]at o W T aJ
 have a8:=B.b0
 refine bp [(1,au c)] (fun G=>On H b c (fe A) G) ?_ ?_
 .have ⟨sl,F,L,C,N,se,g,p⟩:=o.o.w.row
  have u:=o.o.c.at'
  have z:=o.m.at'
  cases E:w.n.book.aA with
  |nil=>
   rw[E]at k o
   simp at k
   have t:fe A=A:=by unfold fe waits;rw[W,E]
   rw[t]
   simp[j,k]
   exact o.o
  |cons s r=>
   rw[E]at k o z
   simp only[tS,aN,aG]at z
   simp at k
   by_cases c1:s.state=0
   case neg=>
    have t:fe A=A:=by unfold fe waits;rw[W,E];simp[c1]
    rw[t]
    simp[j,v,k,z,c1]
    exact o.o
   by_cases c2:A.n.dr.aQ=2
   case neg=>
    have t:fe A=A:=by unfold fe waits;rw[W,E];simp[c1,c2]
    rw[t]
    rw[c1]at z
    simp[j,v,k,u,z,p,c2]
    exact o.o
   have aT:kD A.n.book=(⟨A.n.book.last,{s with state:=1}::r⟩,s.id,0):=by
    unfold kD
    rw[if_neg (by rw[W];simp[a8]),W,E]
    simp[c1]
   have t:fe A=(A.put {A.n with book:=⟨A.n.book.last,{s with state:=1}::r⟩}).dJ 1 s.id:=by
    unfold fe waits
    rw[aT,W,E]
    simp[c1,c2]
   have am:=adO A.n.book (by rw[W];exact aE)
   rw[aT]at am
   simp only[kS,bO,if_true]at am
   have⟨ae,hL⟩:=eg (({s with state:=1}:bW)::r)
   rw[hL]at am t
   have cl:=qs (ex:=[]) g.db (by simp) rfl rfl am (QF _ _ _ _ _)
   simp only[ag9,aiU,uj]at cl
   simp[-aD]at cl
   have q:=g.xX [ah 4 (ae.map aN)] (A.put {A.n with book:=⟨A.n.book.last,ae⟩}) sl (.sl G.length 0 0 ae.length) C (.inl ⟨rfl,rfl⟩) (.inr ⟨by simp[Go.Nx.rf],.inr ⟨G.length,0,by simp[Wk.put],by rw[ane];simp[Wk.put]⟩⟩) rfl (.inl ⟨rfl,rfl⟩) rfl rfl
   have⟨G',e3,w3,f3⟩:=xn q.1 1 s.id (by decide) (by show A.seen.length<=_;omega)
   simp only[bM,Wk.put,aG]at e3
   rw[c1]at z
   rw[c2]at p e3
   have aL:=o.o.c.ne
   have a9:∀y,((G++[Ob.live 0 4 (ae.map aN)]).set b y)[m]?=_:=fun y=>(aat (ait o.m.ne)).trans (aV z)
   have ad:∀y,((G++[Ob.live 0 4 (ae.map aN)]).set b y)[c]?=_:=fun y=>(aat (ait aL)).trans (aV u)
   rw[t]
   simp[-aD,j,v,k,u,z,a9,ad,p,aV p,cl]
   simp[j,e3]
   exact(o.o.step q.1 q.2).step w3 f3
 have aU:=B.bj
 have aW:=B.bm
 have⟨X,an⟩:=eg (fe A)
 clear j v k o
 rintro e G⟨j,_⟩o
 rw[an]at o
 rw[Q,R,ab,al,an]at aU aW
 refine bp [(1,au c)] (fun G=>On H b c (iN X) G) ?_ ?_
 .have ⟨sl,F,L,C,N,se,g,p⟩:=o.w.row
  have u:=o.c.at'
  by_cases c1:X.n.dr.ai.phase=2
  .have t:iN X=X.tell:=by unfold iN;rw[if_pos c1]
   have⟨G',O,w2,bm⟩:=Yf o.w aW aU
   rw[c1]at p
   rw[t]
   simp[j,u,p,O]
   exact o.step w2 bm
  .have t:iN X=X:=by unfold iN;rw[if_neg c1]
   rw[t]
   simp[j,u,p,c1]
   exact o
 have aw:=B.l1
 have ay:=B.l2
 have az:=B.l3
 have aB:=B.l4
 have bb:w.iw=(iN X).lA:=by rw[<-an, <-al, <-ab, <-R, <-Q];rfl
 rw[bb]at aB|-
 rw[Q,R,ab,al,an]at aw ay az
 have⟨wf,bc⟩:=eg (iN X)
 clear j o
 rintro e G⟨j,_⟩o
 rw[bc]at o aw ay az aB|-
 have⟨G',O,w2,bm⟩:=WG o.w aw ay az aB
 have u:=o.c.at'
 simp[j,u,O]
 exact⟨w2,o.f.trans bm⟩
def ownRow(a:Nat)(n:Nd):List ab:=[I n.dr.ai.id,I n.dr.ai.phase,.sl a 0 0 n.dr.ai.af.length,I n.dr.aQ,aG n.dr.need,I n.book.last,.sl (a+1) 0 0 n.book.aA.length,.sl (a+2) 0 0 n.known.length,aG n.told,.sl (a+3) 0 0 n.asked.length]
structure Ak(G:List Ob)(n0:Nat)(n:Nd):Prop where
 s:G[n0]?=some (ah 8 (n.dr.ai.af.map ax))
 b:G[n0+1]?=some (ah 4 (n.book.aA.map aN))
 k:G[n0+2]?=some (ah 2 (n.known.map aW))
 a:G[n0+3]?=some (ah 2 (n.asked.map aW))
theorem Ak.view{G:List Ob}{c:Nat}{n:Nd}(h:Ak G c n):df G (.agg (ownRow c n))=some (.agg (aT n),[8,4,2,2]):=by
 have d:bU G 6 (.sl c 0 0 n.dr.ai.af.length)=some (.aj (n.dr.ai.af.map ax),[8]):=gI.view (t:=[]) ⟨c,0,by simp,by simpa using h.s⟩ (bK _);have e:bU G 6 (.sl (c+1) 0 0 n.book.aA.length)=some (.aj (n.book.aA.map aN),[4]):=gI.view (t:=[]) ⟨c+1,0,by simp,by simpa using h.b⟩ (bV _);have f:bU G 6 (.sl (c+2) 0 0 n.known.length)=some (.aj (n.known.map aW),[2]):=gI.view (t:=[]) ⟨c+2,0,by simp,by simpa using h.k⟩ (bR _);have g:bU G 6 (.sl (c+3) 0 0 n.asked.length)=some (.aj (n.asked.map aW),[2]):=gI.view (t:=[]) ⟨c+3,0,by simp,by simpa using h.a⟩ (bR _);have vI:∀n:Int,bU G 6 (I n)=some (I n,[]):=fun _=>rfl;have i:∀l:List Int,bU G 6 (.aj (l.map aC))=some (.aj (l.map aC),[]):=fun l=>by simp[bi]
 unfold df ownRow;simp only[eX,d,e,f,g,vI,i,aG];rfl
def aar{G:List Ob}{b a:Nat}{v:Wk}{n:Nd}{sl c d e i se:ab}(g:cF G b v sl c d e i se)(h:Ak G a n)(j:fu n):
  aO tz ay 130 [.agg (ownRow a n),.agg [I v.n.dr.ai.id,I v.n.dr.ai.phase,sl,I v.n.dr.aQ,aG v.n.dr.need,I v.n.book.last,c,d,aG v.n.told,e]] G=some (aR (decide (n=v.n)),G):=by
 have⟨f,k,l,m,q⟩:=g.view
 have o:r7 G [.agg (ownRow a n),.agg [I v.n.dr.ai.id,I v.n.dr.ai.phase,sl,I v.n.dr.aQ,aG v.n.dr.need,I v.n.book.last,c,d,aG v.n.told,e]]=some ([.agg (aT n),.agg (oQ v.n f)],[8,4,2,2]++k):=by
  unfold r7
  rw[h.view,l]
 have p:([aw.agg (ownRow a n),aw.agg [I v.n.dr.ai.id,I v.n.dr.ai.phase,sl,I v.n.dr.aQ,aG v.n.dr.need,I v.n.book.last,c,d,aG v.n.told,e]].any (eO tz))=false:=rfl
 rw[aD,p,o]
 simp only[show tz.md 130=0 from rfl,aes,or_false]
 rw[if_neg (by decide),kU,(show tz.md 130=0 from rfl),ac5 n v.n f m j,jP]
 simp
def aef{G:List Ob}{b:Nat}{v:Wk}{sl c d e j se:ab}(g:cF G b v sl c d e j se)(k:fu v.n):
  aO tz ay 67 [.agg [I v.n.dr.ai.id,I v.n.dr.ai.phase,sl,I v.n.dr.aQ,aG v.n.dr.need,I v.n.book.last,c,d,aG v.n.told,e]] G=some (.agg (ownRow G.length v.n),G++[ah 8 (v.n.dr.ai.af.map ax),ah 4 (v.n.book.aA.map aN),ah 2 (v.n.known.map aW),ah 2 (v.n.asked.map aW)]):=by
 have:=qJ g (f:=67) (r:=(pU v.n).1) (own:=(pU v.n).2) (by simp) (fun m o=>Vq v.n m o k) (fun a p=>by
  have h:∀l:List Int,gZ a (l.map aC)=true:=vz aC a (fun x=>by rcases p with rfl|rfl|rfl|rfl<;>rfl)
  have q:∀x:aI,cW a (ax x)=true:=pS a
  have s:∀x:cj,cW a (aW x)=true:=YI a
  have t:∀x:bW,cW a (aN x)=true:=fun x=>by simp[aN,h]
  have u:∀l:List aI,((l.map ax).all fun r=>cW a r)=true:=fun l=>by rw[aj9,ahI];exact fun x _=>q x
  have w:∀l:List cj,((l.map aW).all fun r=>cW a r)=true:=fun l=>by rw[aj9,ahI];exact fun x _=>s x
  have y:∀l:List bW,((l.map aN).all fun r=>cW a r)=true:=fun l=>by rw[aj9,ahI];exact fun x _=>t x
  simp only[ei,pU,kj,cW,fW,akw,al7,lH,u,w,y,aG,h,akP,Bool.or_true])
 rw[this]
 simp only[pU,eN,ag9,aiU,dZ,aG,ownRow,uj]
 have z:dX G.length (ah 8 (v.n.dr.ai.af.map ax))=ah 8 (v.n.dr.ai.af.map ax):=qy (bK _)
 have i:∀l:List cj,dX G.length (ah 2 (l.map aW))=ah 2 (l.map aW):=fun l=>qy (bR _)
 rw[z,i,i]
 rfl
def eY.small{v:Wk}(h:eY v):fu v.n:=by
 have a:=h.i.af;have b:=h.i.need;have c:=h.t;have d:10*v.n.asked.length<=dP v.n:=by simp only[dP];omega
 have e:ij v=v.out.length+v.seen.length+v.n.told.length+v.n.known.length+dP v.n:=rfl;exact⟨by omega,by omega,yp h.i.bk,by omega,by omega,by omega⟩
section
variable{b:Nat}{H:List Ob}{w:Wk}
def cF.N7{G:List Ob}{m:Nat}{v:Wk}{sl f i j k se:ab}{o:Ob}(g:cF G b v sl f i j k se)(c:Cell b G m o)(y:Ob):cF (G.set m y) b v sl f i j k se:=by
 have⟨l,⟨t,p⟩,q,s,u,w,x,d1,d2⟩:=g;have hc:=c.rf;rw[l]at hc;simp only[oW,eu,bM,aiz,ajn,ain,qA,rfs,aG]at hc;simp at hc;have⟨c1,c2,c3,c4,c5,A⟩:=hc;have a:∀(d:ab),m∉rf d->∀(n v z:Nat) (r:List (List ab)),n∈rf d->G[n]?=some (.live v z r)->(G.set m y)[n]?=some (.live v z r):=fun d B n v z r C D=>by rw[aat (fun e=>B (by rw[e];exact C))];exact D
 exact⟨by rw[aat c.ne];exact l,⟨t,p.aK fun _ _ _ hm h=>a _ c1 _ _ _ _ hm h⟩,q.aK fun _ _ _ hm h=>a _ c2 _ _ _ _ hm h,s.aK fun _ _ _ hm h=>a _ c3 _ _ _ _ hm h,u.aK fun _ _ _ hm h=>a _ c4 _ _ _ _ hm h,w.aK fun _ _ _ hm h=>a _ c5 _ _ _ _ hm h,x.aK fun _ _ _ hm h=>a _ A _ _ _ _ hm h,d1,d2⟩
inductive Reach:Wk->Wk->Prop
 |refl (w:Wk):Reach w w
 |step {w u:Wk}:Reach w u->Reach w u.iw
def jt(w v:Wk):Prop:= ∃u,Reach w u/\eY u/\u.iw.n=u.n/\v=u.iw
def jE:List ab:=[I 0,I 0,eW,I 0,eW,I 0,eW,eW,eW,eW]
def qK(v:Wk)(sl a b c:ab):List ab:=[I v.n.dr.ai.id,I v.n.dr.ai.phase,sl,I v.n.dr.aQ,aG v.n.dr.need,I v.n.book.last,a,b,aG v.n.told,c]
structure Zm(H:List Ob)(b n2:Nat)(w v:Wk)(G:List Ob):Prop where
 f:bq b H G
 i:eY v
 r:Reach w v
 w:bX G b v
 c:Cell b G n2 (ah 10 [jE])
def wR(b:Nat)(w:Wk)(r:aw)(g:List Ob):Prop:= ∃v sl a d e f se,r= .aM [.agg ((qK v sl a d e).map da),.c f,.c se,aa 0]/\cF g b v sl a d e f se/\jt w v
def VF{H:List Ob}{b:Nat}{w:Wk}(h:bX H b w)(F:eY w):
  ∃r e,bB tz (ev tz) 76 [au b] H=some (r,e)/\wR b w r e/\bq b H e:=by
 refine cG (C:=tz) (f:=76) (args:=[au b]) (H:=H) (fun r e=>wR b w r e/\bq b H e) func76 rfl ?_
 have S:=h.lt
 have c2:=h.cell (x:=[ah 10 [jE]]) (i:=0) rfl
 rw[aiB]at c2
 have I:=h.snoc (x:=[ah 10 [jE]])
 have⟨l,J⟩:=eg H.length
 rw[J]at c2
 have⟨sl,T,U,V,W,se,g,d⟩:=h.row
 rw[F.e]at d
 simp[f76,aV d]
 refine Ends.bl (gM (fun v:Wk=>[(0,au b),(2,au l)]) (fun v G=>Zm H b l w v G) [] (fun v=>dP v.n) _ [0,2] (fun _=>rfl) ?_ w _ (by simp[J]) ⟨bq.snoc S,F,.refl w,I,c2⟩ rfl)
 clear c2 I g d
 rintro v⟨ag,G,ds⟩j q L
 simp only at j q L
 subst L
 simp at j
 have⟨M,N⟩:=j
 have⟨sl,T,U,V,W,se,g,d⟩:=q.w.row
 have A:=bf d
 have co:=aef g q.i.small
 simp only[aG]at co
 have⟨x,k⟩:=eg ([Ob.live 0 8 (v.n.dr.ai.af.map ax),ah 4 (v.n.book.aA.map aN),ah 2 (v.n.known.map aW),ah 2 (v.n.asked.map aW),ah 10 [ownRow G.length v.n]])
 have X:=q.w.cell (x:=x) (i:=0) (o:=ah 8 (v.n.dr.ai.af.map ax)) (by rw[<-k];rfl)
 have Y:=q.w.cell (x:=x) (i:=1) (o:=ah 4 (v.n.book.aA.map aN)) (by rw[<-k];rfl)
 have Z:=q.w.cell (x:=x) (i:=2) (o:=ah 2 (v.n.known.map aW)) (by rw[<-k];rfl)
 have k3:=q.w.cell (x:=x) (i:=3) (o:=ah 2 (v.n.asked.map aW)) (by rw[<-k];rfl)
 have k4:=q.w.cell (x:=x) (i:=4) (o:=ah 10 [ownRow G.length v.n]) (by rw[<-k];rfl)
 have⟨K,e1,w1,a⟩:=Rl (q.w.snoc (x:=x)) q.i.Wx
 have m:aO tz ay 129 [au b] (G++x)=some (.aM [],K):=by
  rw[dz (f:=129) rfl];exact e1
 have p:=(q.c.snoc (x:=x) A).step a
 have B:=(k4.step a).at'
 have own:Ak K G.length v.n:=⟨by have:=(X.step a).at';rwa [aiB]at this,(Y.step a).at',(Z.step a).at',(k3.step a).at'⟩
 have⟨s,t,u,y,ab,ad,O,D⟩:=w1.row
 have cs:=aar O own q.i.small
 have P:=q.i.iw
 have E:=p.at'
 have Q:=p.ne
 rw[P.e]at D
 rw[<-k]at m
 simp only[ownRow,aG]at m B cs co
 by_cases z:v.n=v.iw.n
 .rw[decide_eq_true z]at cs
  have gz:=O.N7 p (ah 10 [qK v.iw s t u y])
  have fin:wR b w (.aM [.agg ((qK v.iw s t u y).map da),.c ab,.c ad,aa 0]) (K.set l (ah 10 [qK v.iw s t u y])):=⟨_,_,_,_,_,_,_,rfl,gz,v,q.r,q.i,z.symm,rfl⟩
  have fk:=(q.f.trans (bq.snoc (x:=x) A)).trans a
  have R:bq b H (K.set l (ah 10 [qK v.iw s t u y])):=⟨by have:=fk.1;simpa using this,fun ae o j h2 h3=>by
   have hm:=bf j
   have⟨g1,g2⟩:=fk.2 ae o j h2 h3
   rw[aat (by omega),aat Q]
   exact⟨g1,g2⟩⟩
  simp only[qK,aG]at fin R
  simp only[jE]at E
  simp[-aD,M,N,d,co,m,B,D,cs,E,ait Q,ba E]
  exact⟨fin,R⟩
 .rw[decide_eq_false z]at cs
  simp[-aD,M,N,d,co,m,B,D,cs]
  refine⟨v.iw,?_,(q.f.trans (bq.snoc (x:=x) A)).trans a,P,.step q.r,w1,p⟩
  rcases(zD q.i.i).2.1 with h|h
  .exact absurd h.symm z
  .exact h
def ag2(h:bX H b w)(d:w.e≠0):
  ∃a,bB tz (ev tz) 76 [au b] H=some (.aM [.agg [I 0,I 0,.aj [],I 0,.aj [],I 0,.aj [],.aj [],.aj [],.aj []],.c eW,.c eW,aa w.e],a)/\∀(m:Nat) (o:Ob),H[m]?=some o->a[m]?=some o:=by
 obtain⟨r,a,i,rfl,j⟩:=cG (C:=tz) (f:=76) (args:=[au b]) (H:=H) (fun r a=>r= .aM [.agg [I 0,I 0,.aj [],I 0,.aj [],I 0,.aj [],.aj [],.aj [],.aj []],.c eW,.c eW,aa w.e]/\∀(m:Nat) (o:Ob),H[m]?=some o->a[m]?=some o) func76 rfl (by
  have p:=h.lt
  have⟨sl,q,s,t,u,se,g,k⟩:=h.row
  have l:¬b=H.length:=by omega
  have v:¬H.length=b:=by omega
  have n:∀(y:Ob) (m:Nat) (o:Ob),H[m]?=some o->(H++[y])[m]?=some o:=fun y m o h=>aV h
  simp[f76,aV k,d,l]
  exact fun m o h=>n _ m o h)
 exact⟨a,i,j⟩
def R0{a:Bool}{p:List Nat×List Ob}{l:ab}(h:bC l=true):fh a H p l=some (l,p):=by unfold fh;rw[if_pos h]
theorem gI.out{z:Nat}{lf:ab}{rows t:List (List ab)}(h:gI H z lf rows t)(a:bA rows=true)(p:List Nat×List Ob):fh true H p lf=some (.aj rows,p)/\da lf=lf:=by obtain⟨c,d,rfl,b⟩:=h;have:(rows++t).take rows.length=rows:=ai8 rfl;exact⟨by simp[b,this,a],rfl⟩
def adu{r:aw}{d:List Ob}(h:wR b w r d):∃v a le,dI true d r=some (.aM [.agg (aT v.n),.c a,.c le,aa 0],[])/\jt w v/\((a=eW/\v.out=[])\/a= .aj (v.out.map dW))/\((le=eW/\v.seen=[])\/le= .aj (v.seen.map gw)):=by
 obtain⟨v,sl,k,L,m,o,se,rfl,g,q⟩:=h;have⟨M,⟨t,s⟩,u,x,y,z,A,d1,d2⟩:=g;have i:=fun p=>s.out (bK _) p
 have B:∀p,fh true d p (da k)=some (.aj (v.n.book.aA.map aN),p):=by
  intro p;rcases u with rfl|h
  .exact R0 (bV _)
  .rw[(h.out (bV _) p).2];exact(h.out (bV _) p).1
 have j:=fun p=>x.out (bR _) p
 have C:∀p,fh true d p (da m)=some (.aj (v.n.asked.map aW),p):=by
  intro p;rcases y with⟨h,rfl⟩|h
  .rw[h];rfl
  .rw[(h.out (bR _) p).2];exact(h.out (bR _) p).1
 have vI:∀(n:Int) p,fh true d p (I n)=some (I n,p):=fun _ _=>rfl;have D:∀(l:List Int) p,fh true d p (.aj (l.map aC))=some (.aj (l.map aC),p):=fun l p=>R0 (by simp[bi])
 have e:∃a,(∀p,fh true d p o=some (a,p))/\((a=eW/\v.out=[])\/a= .aj (v.out.map dW)):=by
  rcases z with⟨h,rfl⟩|h
  .exact ⟨eW,fun p=>rfl,.inl ⟨rfl,by simpa using h⟩⟩
  .exact ⟨_,fun p=>(h.out (OD _) p).1,.inr rfl⟩
 have f:∃le,(∀p,fh true d p se=some (le,p))/\((le=eW/\v.seen=[])\/le= .aj (v.seen.map gw)):=by
  rcases A with⟨h,rfl⟩|h
  .exact ⟨eW,fun p=>rfl,.inl ⟨rfl,by simpa using h⟩⟩
  .exact ⟨_,fun p=>(h.out (LM _) p).1,.inr rfl⟩
 have⟨a,e,E⟩:=e;have⟨le,f,F⟩:=f;refine⟨v,a,le,?_,q,E,F⟩;have G:=(i ([],[])).1;have H:=(j ([],[])).1;have J:=(i ([],[])).2;have K:=(j ([],[])).2;simp only[dI,qK,ag9,aiU,aG,ZR,Zt,J,K,outs,uo,qk,G,H,B,C,e,f,vI,D];rfl
end
section
variable{G:List Ob}{b:Nat}{l:List aI}
def BN{v:Wk}{sl f h i j se:ab}(g:cF G b v sl f h i j se)(p:Int)(hm:v.n.dr.ai.af.length<=100000):
  aO tz ay 69 [au b,aa p] G=some (aa (dv (j8 p) 0 v.n.dr.ai.af),G):=by
 have⟨a,d,le,k,l,m⟩:=g.HF 4
 have o:bC a=true/\bC d=true/\bC le=true:=by simpa using l
 have q:=Yo v.n.dr.ai.id v.n.dr.ai.phase v.n.dr.ai.af [I v.n.dr.aQ,aG v.n.dr.need,I v.n.book.last,.aj (v.n.book.aA.map aN),.aj (v.n.known.map aW),aG v.n.told,a,d,le,I v.e] (by simp[bV,bR,bi,o]) p (by unfold maxLen;omega)
 have vI:bU G 6 (I p)=some (I p,[]):=rfl
 have r:([aw.c (.ptr b 0 0 0),aw.c (I p)].any (eO tz))=false:=rfl
 have s:r7 G [au b,aa p]=some ([.c (.aJ [[I v.n.dr.ai.id,I v.n.dr.ai.phase,.aj (v.n.dr.ai.af.map ax),I v.n.dr.aQ,aG v.n.dr.need,I v.n.book.last,.aj (v.n.book.aA.map aN),.aj (v.n.known.map aW),aG v.n.told,a,d,le,I v.e]] 0 0),aa p],k++([]++[])):=by
  simp only[r7,df,m,vI]
 rw[aD,r,s]
 simp only[show tz.md 69=0 from rfl,aes,or_false]
 rw[if_neg (by decide),kU,(show tz.md 69=0 from rfl),q,jP]
 simp
def UZ(x:Int):aS tz ay 0 204 [.c eW,aa x]=some (aa (-1),[]):=by refine be func204 rfl ?_;simp[f204,underlying30];refine iy (fun k:Unit=>[(7,aa 0),(8,aa 0)]) (fun k H=>H=[]) (fun k=>0) ?_ () (by simp) (by simp) fun _=>rfl;rintro _ e H ⟨a,b,_⟩ d;subst d;simp[a,b]
def Wt(x:Int):aS tz ay 0 128 [.c eW,aa x]=some (aR false,[]):=by refine be func128 rfl ?_;have:=UZ x;simp[f128,this]
structure Gn(b:Nat)(G:List Ob)(m4 n0:Nat)(idl:ab)(bk:cd)(ids:List Int):Prop where
 c:Cell b G m4 (ah 2 [[I bk.last,.sl n0 0 0 bk.aA.length]])
 s:Cell b G n0 (ah 4 (bk.aA.map aN))
 i:(ids=[]/\idl=eW)\/∃n1,idl= .sl n1 0 0 ids.length/\Cell b G n1 (ah 1 (ids.map aC))
def Gn.step{b:Nat}{G a:List Ob}{d e:Nat}{g:ab}{j:cd}{k:List Int}(h:Gn b G d e g j k)(f:bq b G a):Gn b a d e g j k:=⟨h.c.step f,h.s.step f,by
 rcases h.i with h|⟨l,m,n⟩
 .exact .inl h
 .exact .inr ⟨l,m,n.step f⟩⟩
def Lx{p:Int}(h:cJ l p=true):∃j:Nat,dv (j8 p) 0 l=(j:Int)/\∃a:j<l.length, ∀f:aI->aI,setAt (j8 p) f l=l.set j (f l[j]):=by
 have⟨x,c,d⟩:=lM.1 h;cases b:l.find? (j8 p)with
 |none=>have:=alW.1 b x c;simp[j8,d]at this
 |some s=>have⟨j,e,⟨a,g⟩,i⟩:=Ar 0 b;exact⟨j,by simpa using e,a,fun f=>by rw[i f,g]⟩
def cF.PB{v:Wk}{d f h i se:ab}{a c n:Nat}(g:cF G b v (.sl a c 0 n) d f h i se)(p:v.n.dr.ai.af=l){t:List (List ab)}(k:G[a]?=some (.live c 8 (l.map ax++t)))(j:Nat)(y:aI):
  cF (G.set a (.live c 8 ((l.set j y).map ax++t))) b (v.put (v.n.eK (l.set j y))) (.sl a c 0 n) d f h i se/\bq b G (G.set a (.live c 8 ((l.set j y).map ax++t))):=by
 have m:=g.hb
 have r:a≠b:=fun e=>by subst e;rw[m]at k;cases k
 have hn:n=l.length:=by
  have⟨u,w,x,o,z⟩:=g.hs
  simp only[ab.sl.injEq]at o
  obtain⟨_,_,_,rfl⟩:=o
  rw[p];simp
 subst hn
 have q:=g.af [] c (l.set j y) t
 rw[aeU,aiP]at q
 have s:(G.set a (.live c 8 ((l.set j y).map ax++t)))[b]?=some (ah 13 [bM (v.put (v.n.eK (l.set j y))) (.sl a c 0 l.length) d f h i se]):=by
  rw[aat r,m];rfl
 rw[lJ s]at q
 exact q
def WQ{v:Wk}{a:Int}(hp:cJ v.n.dr.ai.af a=true):∃j:Nat,dv (j8 a) 0 v.n.dr.ai.af=(j:Int)/\∃b:j<v.n.dr.ai.af.length,(v.put (v.n.eK (setAt (j8 a) (fun x=>{x with state:=2}) v.n.af)))=v.put (v.n.eK (v.n.dr.ai.af.set j {v.n.dr.ai.af[j]with state:=2})):=by have⟨j,c,b,d⟩:=Lx hp;refine⟨j,c,b,?_⟩;show v.put (v.n.eK (setAt (j8 a) (fun x=>{x with state:=2}) v.n.dr.ai.af))=_;rw[d]
def LO(l:List bW):((l.map aN).all fun r=>cW [4] r)=true:=by rw[aj9,ahI];intro x _;exact IQ x
def Zv(a:Int)(n:Nat)(l:List bW):ei false [4] (.aM [.agg [I a,.sl 0 0 0 n],.c eW,aa 0]) [ah 4 (l.map aN)]=true:=by have:=LO l;simp[ei,kj,lH,-cW]at this|-;exact⟨by simp[cW],this⟩
def ad7(a:Int)(n k:Nat)(l:List bW)(m:List Int):ei false [4] (.aM [.agg [I a,.sl 0 0 0 n],bd 1 0 0 k,aa 0]) [ah 4 (l.map aN),ah 1 (m.map aC)]=true:=by
 have:=LO l;have b:((m.map aC).all fun r=>cW [4] r)=true:=by rw[aj9,ahI];intro x _;rfl
 simp[ei,kj,lH,-cW]at this b|-;exact⟨by simp[cW],this,b⟩
def Wk.lP(w:Wk)(a:List Int):Wk:=match w.n.book.aA with
 |[]=>w
 |s::_=>if w.n.dr.aQ=1/\s.id∈a then w.dg else w
def X5(w:Wk):w.dg.seen=w.seen:=by unfold Wk.dg;split<;>rfl
def agX(w:Wk)(a:List Int):(w.lP a).seen=w.seen:=by
 unfold Wk.lP;split
 .rfl
 .split
  .exact X5 w
  .rfl
def ID(k:Int):∀(l:List Int) (w:Wk),l.foldl (fun w id=>w.dJ k id) w=w.mT k l
 |[],w=>by simp[Wk.mT]
 |x::r,w=>by
  rw[ai2,ID k r]
  simp[Wk.mT,Wk.dJ]
end
structure agZ(w:Wk)(peer:Int):Prop where
 p:cJ w.n.dr.ai.af peer=true
 s:fu w.n
 b:cN w.n.book=true
 e:w.seen.length<=20000
def Ss{H:List Ob}{b:Nat}{w:Wk}{peer:Int}(h:bX H b w)(O:agZ w peer):
  ∃H',bB tz (ev tz) 75 [au b,aa peer] H=some (.aM [],H')/\bX H' b (w.shut peer)/\bq b H H':=by
 refine gj func75 rfl ?_
 simp only[f75,cr]
 have⟨j,hj,ak,hA⟩:=WQ O.p
 have⟨o,P⟩:=eg (w.put (w.n.eK (w.n.dr.ai.af.set j {w.n.dr.ai.af[j]with state:=2})))
 rw[P]at hA
 refine bp [(0,au b),(1,aa peer)] (fun G=>bX G b o/\bq b H G) ?_ ?_
 .have ⟨sl,ss,X,T,Y,se,g,m⟩:=h.row
  obtain⟨t,Z,va,rfl,ar⟩:=g.hs
  have cp:=BN g peer (by have:=O.s.si;omega)
  rw[hj]at cp
  have q:=g.PB rfl ar j {w.n.dr.ai.af[j]with state:=2}
  rw[P,aiC]at q
  have aU:(w.n.dr.ai.af.map ax).set j [I w.n.dr.ai.af[j].peer,I w.n.dr.ai.af[j].aP,I 2,B w.n.dr.ai.af[j].fork,B w.n.dr.ai.af[j].cK,B w.n.dr.ai.af[j].token,B w.n.dr.ai.af[j].dc,B w.n.dr.ai.af[j].ask]++t=(w.n.dr.ai.af.set j {w.n.dr.ai.af[j]with state:=2}).map ax++t:=by rw[aiC];rfl
  have aB:j<w.n.dr.ai.af.length+t.length:=by omega
  have aE:(w.n.dr.ai.af.map ax++t)[j]?=some [I w.n.dr.ai.af[j].peer,I w.n.dr.ai.af[j].aP,I w.n.dr.ai.af[j].state,B w.n.dr.ai.af[j].fork,B w.n.dr.ai.af[j].cK,B w.n.dr.ai.af[j].token,B w.n.dr.ai.af[j].dc,B w.n.dr.ai.af[j].ask]:=by
   rw[abE (by simpa using ak),adf,abM ak];rfl
  simp[-aD,-getElem?_pos,m,ar,cp,ak,aB,aE]
  exact⟨q.1.at,q.2⟩
 rintro e G⟨l,Q,_⟩⟨wt,f⟩
 refine bp [(0,au b),(1,aa peer)] (fun G=>bX G b (o.ey 7 peer)/\bq b H G) ?_ ?_
 .have ⟨G',z,w1,bj⟩:=HU wt 7 peer (by decide) (by rw[<-P];have:=O.e;show w.seen.length<=_;omega)
  simp[l,Q,z]
  exact⟨w1,f.trans bj⟩
 have L:w.shut peer=(((o.ey 7 peer).lP (iS (o.ey 7 peer).n.book peer).2.1).put {((o.ey 7 peer).lP (iS (o.ey 7 peer).n.book peer).2.1).n with book:=(iS (o.ey 7 peer).n.book peer).1}).mT 5 (iS (o.ey 7 peer).n.book peer).2.1:=by
  unfold Wk.shut
  rw[hA]
  rfl
 have av:(o.ey 7 peer).n.book=w.n.book:=by rw[<-P];rfl
 have al:fu (o.ey 7 peer).n:=by
  have:=O.s
  rw[<-P]
  exact⟨by show(w.n.dr.ai.af.set j _).length<=_;simpa using this.si,this.nd,this.bk,this.kn,this.tl,this.aq⟩
 have aw:(o.ey 7 peer).seen.length<=20001:=by
  rw[<-P]
  have:=O.e
  show(w.seen++[_]).length<=_
  simp;omega
 have⟨w1,aF⟩:=eg (o.ey 7 peer)
 clear l Q wt f
 rintro e G⟨l,Q,_⟩⟨wt,f⟩
 rw[aF]at wt L av al aw
 have⟨d,am⟩:=eg ((iS w1.n.book peer).1)
 have⟨a,an⟩:=eg ((iS w1.n.book peer).2.1)
 rw[am,an]at L
 have U:=WD w1.n.book peer al.bk
 have ao:cN w1.n.book=true:=by rw[av];exact O.b
 rw[if_neg (by rw[ao];simp),am,an]at U
 have aW:a.length<=8/\d.aA.length<=8:=by
  have h8:w1.n.book.aA.length<=8:=by
   simp only[cN,abR,afa,decide_eq_false_iff_not]at ao
   omega
  rw[<-an, <-am]
  unfold iS
  rw[if_neg (by rw[ao];simp)]
  have z:=aiq (bZ peer) w1.n.book.aA
  have e2:=aiq (fun s=>!bZ peer s) w1.n.book.aA
  simp only[aio]
  omega
 refine eh (fun S=>∃V J y,S.env.get 0=some (au b)/\S.env.get 4=some (au V)/\S.env.get 5=some (.c y)/\S.bG=[]/\H.length<=J/\bX S.heap b w1/\bq b H S.heap/\Gn b S.heap V J y d a) ?_ ?_
 .have ⟨sl,ss,X,T,Y,se,g,m⟩:=wt.row
  have M:=wt.lt
  by_cases E:a=[]
  .simp only[xK,if_pos E]at U
   have cl:=qs (ex:=[aa peer]) g.db (by simp) (by simp[r7,df]) rfl U (Zv _ _ _)
   simp only[ag9,aiU,uj]at cl
   simp[-aD]at cl
   have A:=wt.cell (x:=[ah 4 (d.aA.map aN),ah 2 [[I d.last,.sl G.length 0 0 d.aA.length]]]) (i:=0) rfl
   have c1:=wt.cell (x:=[ah 4 (d.aA.map aN),ah 2 [[I d.last,.sl G.length 0 0 d.aA.length]]]) (i:=1) rfl
   rw[aiB]at A
   simp[-aD,l,Q,m,cl]
   exact⟨G.length,f.1,wt.snoc,f.trans (bq.snoc M),⟨c1,A,.inl ⟨E,rfl⟩⟩⟩
  .simp only[xK,if_neg E]at U
   have cl:=qs (ex:=[aa peer]) g.db (by simp) (by simp[r7,df]) rfl U (ad7 _ _ _ _ _)
   simp only[ag9,aiU,uj]at cl
   simp[-aD,bi]at cl
   have A:=wt.cell (x:=[ah 4 (d.aA.map aN),ah 1 (a.map aC),ah 2 [[I d.last,.sl G.length 0 0 d.aA.length]]]) (i:=0) rfl
   have c1:=wt.cell (x:=[ah 4 (d.aA.map aN),ah 1 (a.map aC),ah 2 [[I d.last,.sl G.length 0 0 d.aA.length]]]) (i:=1) rfl
   have c2:=wt.cell (x:=[ah 4 (d.aA.map aN),ah 1 (a.map aC),ah 2 [[I d.last,.sl G.length 0 0 d.aA.length]]]) (i:=2) rfl
   rw[aiB]at A
   simp[-aD,l,Q,m,cl]
   exact⟨G.length,f.1,wt.snoc,f.trans (bq.snoc M),⟨c2,A,.inr ⟨_,rfl,c1⟩⟩⟩
 have hT:(w1.lP a).seen.length<=20001:=by rw[agX];exact aw
 clear l Q wt f
 rintro⟨e,G,ds⟩⟨V,J,y,l,F,u,rfl,aH,wt,f,C⟩
 simp only at l F u wt f C
 refine bp [(0,au b),(4,au V),(5,.c y)] (fun G=>bX G b (w1.lP a)/\bq b H G/\Gn b G V J y d a) ?_ ?_
 .have ⟨sl,ss,X,T,Y,se,g,m⟩:=wt.row
  have M:=wt.lt
  cases R:w1.n.book.aA with
  |nil=>
   have z:w1.lP a=w1:=by unfold Wk.lP;rw[R]
   have cl:=qJ g (f:=119) (r:= .aM [.agg [I 0,.aj [],I 0,I 0],aR false]) (own:=[]) (by simp) (fun aq Z=>by rw[v8 _ aq Z,R]) (fun bs hb=>by rcases hb with rfl|rfl|rfl|rfl<;>rfl)
   simp only[aG]at cl
   rw[z]
   simp[-aD,l,F,u,m,cl]
   exact⟨wt.snoc,f.trans (bq.snoc M),C.step (bq.snoc M)⟩
  |cons s r=>
   have cl:=qJ g (f:=119) (r:= .aM [.agg (aN s),aR true]) (own:=[]) (by simp) (fun aq Z=>by rw[v8 _ aq Z,R]) (fun bs hb=>by rcases hb with rfl|rfl|rfl|rfl<;>simp[aN,vz])
   simp only[aN,aG]at cl
   have A:=(wt.cell (x:=[ah 4 [aN s]]) (i:=0) rfl).at'
   rw[aiB]at A
   simp only[aN,aG]at A
   have ab:=wt.snoc (x:=[ah 4 [aN s]])
   have N:=f.trans (bq.snoc (x:=[ah 4 [aN s]]) M)
   have W:=C.step (bq.snoc (x:=[ah 4 [aN s]]) M)
   simp only[aN,aG]at ab N W
   by_cases c1:w1.n.dr.aQ=1
   case neg=>
    have z:w1.lP a=w1:=by unfold Wk.lP;rw[R];simp only;rw[if_neg (fun h=>c1 h.1)]
    rw[z]
    simp[-aD,l,F,u,m,aV m,cl,c1]
    exact⟨ab,N,W⟩
   have ad:aO tz ay 128 [.c y,aa s.id] (G++[ah 4 [[I s.id,.aj (s.need.map aC),I s.state,I s.cH]]])=some (aR (decide (s.id∈a)),G++[ah 4 [[I s.id,.aj (s.need.map aC),I s.state,I s.cH]]]):=by
    rcases W.i with⟨E,rfl⟩|⟨v,rfl,hc⟩
    .rw[E]
     have:=Wt s.id
     simp[this]
    .have h1:=Hd a s.id (by unfold maxLen;omega)
     have D:=hc.at'
     simp only[aG]at h1
     simp[h1,D,bi]
   rw[c1]at m cl
   by_cases c2:s.id∈a
   .have z:w1.lP a=w1.dg:=by unfold Wk.lP;rw[R];simp only;rw[if_pos ⟨c1,c2⟩]
    rw[decide_eq_true c2]at ad
    have⟨G',e2,w2,f3⟩:=AM ab al
    have aI:aO tz ay 118 [au b] (G++[ah 4 [[I s.id,.aj (s.need.map aC),I s.state,I s.cH]]])=some (.aM [],G'):=by
     rw[dz (f:=118) rfl];exact e2
    rw[z]
    simp[-aD,l,F,u,m,aV m,cl,A,ad,aI]
    exact⟨w2,N.trans f3,W.step f3⟩
   .have z:w1.lP a=w1:=by unfold Wk.lP;rw[R];simp only;rw[if_neg (fun h=>c2 h.2)]
    rw[decide_eq_false c2]at ad
    rw[z]
    simp[-aD,l,F,u,m,aV m,cl,A,ad]
    exact⟨ab,N,W⟩
 have⟨w2,az⟩:=eg (w1.lP a)
 rw[az]at hT L
 clear l F u wt f C
 rintro e G⟨l,F,u,_⟩⟨wt,f,C⟩
 rw[az]at wt
 have⟨w3,ap⟩:=eg (w2.put {w2.n with book:=d})
 rw[ap, <-ID]at L
 have aX:w3.seen.length<=20001:=by rw[<-ap];exact hT
 refine bp [(0,au b),(5,.c y)] (fun G=>bX G b w3/\bq b H G/\((a=[]/\y=eW)\/∃v,y= .sl v 0 0 a.length/\Cell b G v (ah 1 (a.map aC)))) ?_ ?_
 .have ⟨sl,ss,X,T,Y,se,g,m⟩:=wt.row
  have q:=g.vl f [] (w2.put {w2.n with book:=d}) sl (.sl J 0 0 d.aA.length) T (.inl ⟨rfl,rfl⟩) (.inr ⟨by simp[rf];exact aH,.inr ⟨J,0,by simp[Wk.put],by rw[aeU,C.s.at'];simp[Wk.put]⟩⟩) rfl (.inl ⟨rfl,rfl⟩) rfl rfl
  have hc:=C.c.at'
  simp only[bM,Wk.put,aeU,aG]at q
  have E:(a=[]/\y=eW)\/∃v,y= .sl v 0 0 a.length/\Cell b (G.set b (ah 13 [[I w2.n.dr.ai.id,I w2.n.dr.ai.phase,sl,I w2.n.dr.aQ,.aj (w2.n.dr.need.map aC),I d.last,.sl J 0 0 d.aA.length,X,.aj (w2.n.told.map aC),T,Y,se,I w2.e]])) v (ah 1 (a.map aC)):=by
   rcases C.i with h|⟨v,h1,D⟩
   .exact .inl h
   .refine .inr ⟨v,h1,by rw[aat (ait D.ne)];exact D.at',D.ne,?_⟩
    have aY:J≠v:=fun e=>by
     subst e
     have aJ:=C.s.at'
     have b:=D.at'
     rw[aJ]at b;cases b
    have h3:=D.rf
    rw[m]at h3
    rw[ba m]
    simp only[oW,eu,aiz,ajn,ain,Go.Nx.rf]at h3|-
    simp at h3|-
    grind
  simp[l,F,u,m,hc]
  rw[<-ap]
  exact⟨q.1,q.2,E⟩
 clear l F u wt f C
 rintro e G⟨l,u,_⟩⟨wt,f,E⟩
 rcases E with⟨hn,rfl⟩|⟨v,rfl,hc⟩
 .rw[hn]at L
  simp[underlying30,u]
  refine iv (fun k:Unit=>[(69,aa 0),(70,aa 0)]) (fun k K=>K=G) (fun k=>0) ?_ () (by simp) (by simp) fun _=>rfl
  rintro _ e K⟨ae,ag,_⟩D
  subst D
  simp[ae,ag]
  rw[L]
  exact⟨wt,f⟩
 .simp[underlying30,u]
  refine iv (fun k:Nat=>[(69,aa a.length),(70,aa k),(68,bd v 0 0 a.length),(0,au b)]) (fun k K=>k<=a.length/\bX K b ((a.take k).foldl (fun w id=>w.dJ 5 id) w3)/\bq b H K/\Cell b K v (ah 1 (a.map aC))) (fun k=>a.length-k) ?_ 0 (by simp[l]) ⟨by simp,wt,f,hc⟩ fun _=>rfl
  rintro k e K⟨ae,ag,aK,l,_⟩⟨D,wt,f,hc⟩
  by_cases hk:k<a.length
  .have hw:adW.wrap ((k:Int)+1)=((k+1:Nat):Int):=cv (by omega)
   have aL:=hc.at'
   have ht:(a.take (k+1)).foldl (fun w id=>w.dJ 5 id) w3=((a.take k).foldl (fun w id=>w.dJ 5 id) w3).dJ 5 a[k]:=by rw[jC hk,ajh];rfl
   have aZ:((a.take k).foldl (fun w id=>w.dJ 5 id) w3).seen.length<=20010:=by
    rw[ID]
    simp only[Wk.mT,agc,aio,ai1]
    omega
   have⟨K',e2,aS,N⟩:=xn wt 5 a[k] (by decide) (by omega)
   have aT:a[k]?=some a[k]:=abM hk
   simp[ae,ag,aK,l,hk,aL,hw,aT,e2]
   exact⟨k+1,by omega,by simp,by omega,by rw[ht];exact aS,f.trans N,hc.step N⟩
  .obtain rfl:k=a.length:=by omega
   simp[ae,ag]
   rw[aiF, <-L]at wt
   exact⟨wt,f⟩
section
variable{w:Wk}{H:List Ob}{b:Nat}
def Wk.fail(w:Wk)(e:Int):Wk:=⟨w.n,w.out,w.seen,e⟩
def Wk.opens(w:Wk)(id:Int)(need:List Int):Wk:=
 if(ia w.n.book id need).2≠0 then w.fail (ia w.n.book id need).2
 else if kZ need (jY w.n)=false then w.fail 181
 else⟨{w.n with book:=(ia w.n.book id need).1},w.out,w.seen++[⟨0,w.n.id,id,0,cD need⟩],w.e⟩
def tm(w:Wk)(e:Int):w.need true e=w:=by simp[Wk.need]
def yI(h:w.e=0)(e:Int):w.need false e=w.fail e:=by simp[Wk.need,h,Wk.fail]
def sE(h:bX H b w)(c:Bool)(e:Int):∃a,aO tz ay 72 [au b,aR c,aa e] H=some (aR (decide ((w.need c e).e=0)),a)/\bX a b (w.need c e)/\bq b H a/\∀m,m≠b->a[m]?=H[m]?:=by have⟨a,d,g⟩:=zg h c e;exact⟨a,by rw[dz (f:=72) rfl];exact d,g⟩
end
section
variable{w:Wk}{H:List Ob}{b:Nat}
def Wk.release(w:Wk)(id:Int):Wk:=if(de w.n.book id 1).2=0 then((w.eS (de w.n.book id 1).1 (de w.n.book id 1).2).dJ 2 id).dg else w.fail (de w.n.book id 1).2
end
end Go.Nx
