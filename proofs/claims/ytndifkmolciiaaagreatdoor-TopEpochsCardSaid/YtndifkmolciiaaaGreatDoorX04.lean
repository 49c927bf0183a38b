/- A part of the proof. -/
import Derived.Test.YtndifkmolciiaaaGreatDoorX03
set_option linter.all false
set_option maxRecDepth 8000
set_option maxHeartbeats 1000000
open Array renaming replicate->ak1
open Go.Act renaming eval->anf
open Go.Extern.AbiNoEscape renaming same->amb
open Go.Instr renaming typeAssert->alv
open Go.IntKind renaming i64->adW,u8->ajf
open Go.Lib renaming BuilderAt->akc,IsBuilder->alL,byteCells->alp,indexByte->alK
open Go.Oper renaming upon_value->aky
open Go.Proofs.Lays renaming n138->amI,n169->amH
open Go.Proofs.Tryz renaming prog->aaG
open Go.Result renaming andThen->ajd
open Go.RowKit renaming Below->ajb
open Go.Shelf renaming Ren->aml
open Go.Value renaming int->ajo,oneCell'->aiw
open Int renaming natCast_add->ad0
open List renaming append_assoc->aiu,drop_eq_getElem_cons->agO,filter_eq_nil_iff->alk,filter_eq_self->ajq,getElem?_append_right->aea,getElem?_set_self->ahr,length_append->agc,length_drop->aj0,map_append->aid,map_congr_left->ajp,map_map->ajc,map_set->aiC,map_take->akL,mem_iff_getElem->ajZ,pairwise_cons->ahg,range_succ->aj2,range->aiZ,replicate->ahv,take_add_one->aiH,take_of_length_le->acu
open Nat renaming beq_eq->akv,beq->ajx
open Option renaming map_eq_some_iff->ab4
open UInt8 renaming ofNat->al1
namespace Go.Nx
open Go Go.Proofs Tryz
section
variable{n:Nd}{T:Nat}
def aaJ{p:Int}{m:cY}(h:(fK n p m).e=0):dm n=true:=by
 unfold fK at h;split at h
 .rename_i a;exact vD a
 .exact vD h
def Y3(H:List Ob)(hn:fu n)(p:Int)(m:cY):∃o,aO tz ay 142 [.agg (aT n),aa p,.agg (br m)] H=some (o,H)/\mH (fK n p m) o:=by
 have⟨o,c,a⟩:=aeG n p m (Rk hn) fun b=>PI (aaJ b) b;refine⟨o,?_,a⟩;have d:df H (.agg (aT n))=some (.agg (aT n),[]):=by simp only[df,mR (yh n),MZ]
 have e:df H (.agg (br m))=some (.agg (br m),[]):=by have:ES (br m)=true:=rfl;simp only[df,mR this];rfl
 have f:df H (aa p)=some (aa p,[]):=by simp only[df,vI]
 rw[aD,if_neg (by simp[eO])];simp only[dy,d,e,f,kU,show tz.md 142=1 from rfl,aeU];rw[c,jP,a.sh];simp[ei]
def Ym(H:List Ob)(l:bx)(a:l.length<=1000000):aO tz ay 141 [.c (Sg l)] H=some (.aM [.agg (br (ln l).1),aa (ln l).2],H):=by have h:=Xn l a;simp[h,br]
def Oi(K:Cl)(x y:Nat):K.mO x y (K.tr x y)=K:=by
 unfold Cl.mO;congr 1
 funext u v
 split
 .rename_i h;rw[h.1,h.2]
 .rfl
def As{K:Cl}(h:dM K)(c:lL T K)(a b:Nat):dM (K.tell a b)/\lL T (K.tell a b)/\(K.tell a b).nodes=K.nodes:=by
 unfold Cl.tell;split
 .rw[Oi];exact⟨h,c,rfl⟩
 .have d:=h.ts a b;have e:=c a b;have f:=h.tl a b;exact⟨R1 h (by simp;omega) (by simp;omega),O3 c (by simp;omega),rfl⟩
section
variable{H:List Ob}{c:Nat->aU}{b:Nat}{K:Cl}
def Vm(h:bJ H c b K)(hi:dM K)(hN:AL K)(hT:lL T K)(aS:T<=900000000)(a i:Nat)(r:i<K.nodes.length)(s:bx)(hs:s.length<=1000000)(hid:∀n aw m v,jt (fK n aw m) v->v.n.dr.ai.id=n.dr.ai.id):
  ∃d u z l e le,aO tz ay 85 [au b,aa a,aa i,.c (Sg s)] H=some (.aM [.c le,aa e],u)/\K.Told a i s z l e/\lY le l/\bJ u d b z/\aH Gx c d H u:=by
 have⟨t,c1,N,ad,r1,s1⟩:=Ox h a i
 have⟨n,hn⟩:=DD K.nodes[i]
 have ag:K.nodes.getD i .zero=n:=by rw[ae5,abM r,hn];rfl
 have ax:fu n:=by rw[<-hn];exact hN.s i r
 have az:n.dr.ai.id=i:=by rw[<-hn];exact hN.id i r
 have⟨ti,tT,F⟩:=As hi hT a i
 have hA:(ln s).2≠0->K.Told a i s (K.tell a i) [] 212:=fun h=>by
  unfold Cl.Told
  rw[if_pos h]
  exact⟨rfl,rfl,rfl⟩
 have A:(ln s).2=0->(fK n a (ln s).1).e≠0->K.Told a i s (K.tell a i) [] 212:=fun h j=>by
  unfold Cl.Told
  rw[if_neg (fun e=>e h),ag,if_pos j]
  exact⟨rfl,rfl,rfl⟩
 have O:(ln s).2=0->(fK n a (ln s).1).e=0->∀v,jt (fK n a (ln s).1) v->K.Told a i s ((K.tell a i).take v.n v.out) v.seen 0:=fun h j v B=>by
  unfold Cl.Told
  rw[if_neg (fun e=>e h),ag,if_neg (fun e=>e j)]
  exact⟨v,B,rfl,rfl,rfl⟩
 have⟨q0,mp,mt,es,et,J,aA⟩:=r1.n
 have⟨aB,o,k2,k3,k4⟩:=r1.r
 obtain⟨ak,u,h1,d,z,l,e,le,rfl,j⟩:=cG (C:=tz) (f:=85) (args:=[au b,aa a,aa i,.c (Sg s)]) (H:=H) (fun ak u=>∃d z l e le,ak= .aM [.c le,aa e]/\K.Told a i s z l e/\lY le l/\bJ u d b z/\aH Gx c d H u) func85 rfl (by
  simp only[f85,cr]
  rw[fQ,fQ]
  refine bp [(0,au b),(1,aa a),(2,aa i),(3,.c (Sg s))] (fun G=>∃d,bJ G d b (K.tell a i)/\aH Gx c d H G) ?_ ?_
  .have ⟨g,P⟩:=DD (K.tr a i)
   rw[P]at o k2
   have aC:=hi.ts a i
   have aE:=hi.tl a i
   rw[P]at aC aE
   by_cases k:g.left=[]
   .have ae:K.tell a i=K:=by unfold Cl.tell;rw[P,if_pos k, <-P,Oi]
    have fin:∃d,bJ N d b (K.tell a i)/\aH Gx c d H N:=⟨c1,by rw[ae];exact⟨_,_,_,_,_,J⟩,s1.mono (ma (by omega))⟩
    rcases k2 with⟨_,rfl⟩|⟨j,v,p,rows,rfl,Q,L,R⟩
    .simp[-aD,ad,o]
     exact fin
    .rw[k]at o R
     simp only[aiQ,aiB]at o R
     have af:p<=rows.length:=by omega
     simp[-aD,ad,o]
     exact fin
   .obtain ⟨j,v,p,rows,rfl,Q,L,R⟩:=k2.resolve_left fun e=>k e.1
    obtain⟨q,S⟩:∃q,g.left.length=q+1:=⟨g.left.length-1,by cases aF:g.left with|nil=>exact absurd aF k|cons _ _=>simp⟩
    have ae:K.tell a i=K.mO a i ⟨g.left.tail,g.bN-1⟩:=by unfold Cl.tell;rw[P,if_neg k]
    have af:p+g.left.length<=rows.length:=by omega
    have hw:adW.wrap ((g.bN:Int)-1)=(g.bN:Int)-1:=fw (by omega) (by omega)
    have aI:max ((g.bN:Int)-1) 0=((g.bN-1:Nat):Int):=by omega
    have aJ:j≠t:=fun e=>by rw[e,o]at Q;cases Q
    have fin:∀G,G=N.set t (ah 2 [[.sl j v (p+1) q,I ((g.bN-1:Nat):Int)]])->∃d,bJ G d b (K.tell a i)/\aH Gx c d H G:=fun G hG=>by
     have U:aH (· = .tr a i) c1 c1 N G:=by rw[hG];exact pD (b:=t) (h:=t) (by simp) k3 k3 fun m h _=>aat (ait h)
     refine⟨c1,?_,(s1.mono (ma (by omega))).trans (U.mono D7)⟩
     rw[ae]
     refine⟨_,_,_,_,_,J.xj U aA ⟨.sl j v (p+1) q,by rw[hG];exact ba o,.inr ⟨j,v,p+1,rows,?_,?_,?_,?_⟩,k3,fun m hm=>k4 m (by simpa[rf]using hm)⟩⟩
     .simp[S]
     .rw[hG,aat (ait aJ)];exact Q
     .rw[S]at L
      have:=congrArg List.tail L
      simp only[List.length_tail,S,alU, <-List.map_tail]at this|-
      rw[<-this]
      rw[<-List.drop_one,alC,akd]
      rfl
     .simp only[List.length_tail,S,alU];omega
    have q1:(0:Int)< ((q+1:Nat):Int):=by omega
    have q2:(((q+1:Nat):Int)-1).toNat=q:=by omega
    have q3:(1:Int)<=((q+1:Nat):Int):=by omega
    have q4:p+(q+1)<=rows.length:=by omega
    have q5:p+1<=rows.length:=by omega
    rw[S]at o
    have V:∀X,(N.set t X)[t]?=some X:=fun X=>ba o
    simp[-aD,-ad0,ad,o,Q,q3,V,hw,aI]
    exact fin _ rfl
  rintro en G⟨a0,a1,a2,a3,_⟩⟨c2,L,R⟩
  have⟨W,aL⟩:=DD (K.tell a i)
  rw[aL]at L hA A O ti tT F
  have w:=Ym G s hs
  have⟨m,hm⟩:=DD ((ln s).1)
  rw[hm]at w A O
  have⟨X,x⟩:=DD (G++[ah 3 [br m]]:List Ob)
  have U:aH (fun _=>False) c2 (ext c2 G.length .none) G X:=by rw[<-x];exact aH.of _ (by simp) fun m hm _=>abE hm
  have gX:=L.aK U fun _ h=>h.elim
  have aN:X[G.length]?=some (ah 3 [br m]):=by rw[<-x];simp
  have sX:aH Gx c (ext c2 G.length .none) H X:=R.trans (U.mono fun _ h=>h.elim)
  by_cases k:(ln s).2=0
  case neg=>
   have hA:=hA k
   simp only[br]at w x
   simp[-aD,a3,w,x,k]
   exact⟨_,W,[],212,ap,⟨rfl,rfl⟩,hA,.inl ⟨rfl,rfl⟩,gX,sX⟩
  rw[k]at w
  have A:=A k
  have O:=O k
  have⟨aB,mp,mt,es,et,J⟩:=gX
  have hb:=J.hb
  obtain⟨hh,v,rfl,al,hc⟩:=J.hn.resolve_left fun e=>by rw[F]at e;rw[e.1]at r;simp at r
  have⟨am,hR⟩:=DD (W.nodes.map aT)
  have Z:am[i]?=some (aT n):=by rw[<-hR,F,adf,abM r,hn];rfl
  have an:i<am.length:=by rw[<-hR,F];simpa using r
  have ao:i<W.nodes.length:=by rw[F];exact r
  rw[hR]at al
  have aq:bJ X (ext c2 G.length .none) b W:=⟨_,_,_,_,_,J⟩
  have⟨aU,D,B⟩:=Y3 (X++[.dead]) ax a m
  have gb:=fun K=>aV (m:=K) hb
  have gr:=fun K=>aV (m:=K) al
  have gm:=fun K=>aV (m:=K) aN
  unfold mH at B
  by_cases M:(fK n a m).e=0
  .rw[if_pos M]at B
   obtain⟨y,p,le,rfl,V,aP,af⟩:=B
   have aQ:lY le y.seen:=by
    rcases af with h|h
    .exact .inl h
    .exact .inr h
   have⟨ab,E⟩:=DD (X++[.live 1 10 [aT y.n]]:List Ob)
   have Y:aH (fun _=>False) (ext c2 G.length .none) (ext (ext c2 G.length .none) X.length .none) X ab:=by rw[<-E];exact aH.of _ (by simp) fun m hm _=>abE hm
   have ar:ab[X.length]?=some (.live 1 10 [aT y.n]):=by rw[<-E];simp
   have aR:=hid n a m y V
   have⟨c3,H2,av,r2,s2⟩:=Pj (T:=T) (aq.aK Y fun _ h=>h.elim) ti tT y.n y.out (lf:=p) (by rw[aR,az,F];omega) (by have:=V.out.1;omega) aP
   simp only[aT,aG]at Z D E ar av
   simp only[br]at w D x gm
   simp[-aD,-getElem?_pos,anb,gO,iQ,a0,a1,a2,a3,w,x,gb,gr,gm,ao,Z,an,D,E,ar,av]
   exact⟨c3,_,y.seen,0,le,⟨rfl,rfl⟩,O M y V,aQ,r2,(sX.trans (Y.mono fun _ h=>h.elim)).trans s2⟩
  .rw[if_neg M]at B
   have A:=A M
   subst B
   have⟨ab,E⟩:=DD (X++[.live 1 10 [[I 0,I 0,.aj [],I 0,.aj [],I 0,.aj [],.aj [],.aj [],.aj []]]]:List Ob)
   have Y:aH (fun _=>False) (ext c2 G.length .none) (ext (ext c2 G.length .none) X.length .none) X ab:=by rw[<-E];exact aH.of _ (by simp) fun m hm _=>abE hm
   have⟨aW,hz⟩:=DD ((fK n a m).e)
   rw[hz]at D M
   simp only[aT,aG]at Z D
   simp only[br]at w D x gm
   simp[-aD,-getElem?_pos,anb,gO,iQ,a0,a1,a2,a3,w,x,gb,gr,gm,ao,Z,an,D,E,M]
   exact⟨_,W,[],212,ap,⟨rfl,rfl⟩,A,.inl ⟨rfl,rfl⟩,aq.aK Y fun _ h=>h.elim,sX.trans (Y.mono fun _ h=>h.elim)⟩)
 exact⟨d,u,z,l,e,le,dK (by simp) h1,j⟩
end
end
section
variable{T:Nat}{l:List Ev}{P:Pp}{e:Int}
structure x9:Prop where
 a:∀n d v,jt (cO n d) v->v.n.dr.ai.id=n.dr.ai.id
 g:∀n p m v,jt (fK n p m) v->v.n.dr.ai.id=n.dr.ai.id
structure dL(T:Nat)(K:Cl):Prop where
 i:dM K
 n:AL K
 t:lL T K
 g:∀x y s,(K.pp x y).dR s<=T
theorem dL.mono{a:Nat}{K:Cl}(h:dL T K)(b:T<=a):dL a K:=⟨h.i,h.n,fun x y=>ai5 (h.t x y) b,fun x y s=>ai5 (h.g x y s) b⟩
def NM{s:Bool}:∀(l:List cY) (P:Pp),(sendAll s l P).1.dR=P.dR
 |[],P=>rfl
 |m::r,P=>by
  unfold sendAll
  split
  .exact NM r _
  .rfl
def ZS{K:Cl}(h:dL T K)(a b:Nat):dL T (K.oV a b):=by
 refine⟨Ps h.i a b,⟨h.n.s,h.n.id⟩,fun x y=>?_,fun x y s=>?_⟩
 .show (if x=a/\y=b then(⟨_,_⟩:Tr)else K.tr x y).left.length<=T;split
  .exact h.t a b
  .exact h.t x y
 .show (if x=min a b/\y=max a b then _ else K.pp x y).dR s<=T;split
  .rw[NM];exact h.g _ _ s
  .exact h.g x y s
theorem qT{K:Cl}(h:dL T K)(a:Nat):dL T (K.flush a)/\(K.flush a).nodes=K.nodes:=by
 refine⟨?_,(wu _ h.i).2⟩;unfold Cl.flush;generalize others K.nodes.length a=l;induction l generalizing K with
 |nil=>exact h
 |cons b l c=>exact c (ZS h a b)
def abv:∀(l:List cB) {K:Cl},dL T K->T+l.length<=1000000000->dL (T+l.length) (l.foldl Cl.il K)/\(l.foldl Cl.il K).nodes=K.nodes:=fun l K h b=>by
 have⟨c,d,a⟩:=Ac l h.i h.t b
 have hp:(l.foldl Cl.il K).pp=K.pp:=by
  clear c d a h b;induction l generalizing K with
  |nil=>rfl
  |cons m l e=>rw[ai2,e];unfold Cl.il;split<;>rfl
 exact⟨⟨c,⟨by rw[a];exact h.n.s,by rw[a];exact h.n.id⟩,d,fun x y s=>by rw[hp];have:=h.g x y s;omega⟩,a⟩
def anQ{K:Cl}(h:dL T K){n:Nd}{l:List cB}(hn:fu n)(hid:0<=n.dr.ai.id/\n.dr.ai.id<K.nodes.length)(b:T+l.length<=1000000000):dL (T+l.length) (K.take n l)/\(K.take n l).nodes=K.nodes.set n.dr.ai.id.toNat n:=by
 have c:dL T (K.pc n):=by
  refine⟨OQ h.i n,⟨fun i a=>?_,fun i a=>?_⟩,h.t,h.g⟩
  .have d:i< (K.nodes.set n.dr.ai.id.toNat n).length:=a;show fu ((K.nodes.set n.dr.ai.id.toNat n)[i]);rw[amk];split
   .exact hn
   .exact h.n.s i _
  .have d:i< (K.nodes.set n.dr.ai.id.toNat n).length:=a;show((K.nodes.set n.dr.ai.id.toNat n)[i]).dr.ai.id=_;rw[amk];split
   .rename_i e;omega
   .exact h.n.id i _
 have⟨f,j⟩:=abv l c b;have⟨k,m⟩:=qT f n.id.toNat;exact⟨k,m.trans j⟩
def Nl{K:Cl}(h:dL T K)(a b:Nat):dL T (K.tell a b):=by have⟨d,e,c⟩:=As h.i h.t a b;refine⟨d,⟨by rw[c];exact h.n.s,by rw[c];exact h.n.id⟩,e,h.g⟩
def Dc(h:dO P)(s:Bool)(k:Int):dO (P.jk s k).1:=by
 unfold Pp.jk;split
 .exact h
 .rename_i b c;split
  .have a:=FM (h.cut s k) s (UA ((h.cut s k).l s) (lF (jV b)).1);simp only;unfold Pp.zN;split
   .exact a
   .exact ⟨a.l,a.q,a.b,a.r⟩
  .exact h.cut s k
def HC(P:Pp)(s:Bool)(k:Int)(t:Bool):(P.jk s k).1.dR t<=P.dR t+1:=by
 unfold Pp.jk;split
 .exact ams _
 .split
  .simp only;unfold Pp.zN;split
   .exact ams _
   .show up P.dR s (P.dR s+1) t<=_;unfold up;split
    .rename_i e;rw[e];exact ad3 _
    .exact ams _
  .exact ams _
def Ao{K:Cl}(h:dL T K)(a b:Nat)(hp:dO P)(c:∀s,P.dR s<=T):dL T (K.eR a b P):=by
 refine⟨h.i.eR a b hp,⟨h.n.s,h.n.id⟩,h.t,fun x y s=>?_⟩;show(if x=min a b/\y=max a b then P else K.pp x y).dR s<=T;split
 .exact c s
 .exact h.g x y s
def CP{K d:Cl}(m:x9)(h:dL T K)(r:T<=900000000){a i:Nat}(j:i<K.nodes.length){s:bx}(b:K.Told a i s d l e):dL (T+9000) d/\d.nodes.length=K.nodes.length:=by
 unfold Cl.Told at b;have f:=Nl h a i;have hn:(K.tell a i).nodes=K.nodes:=(As h.i h.t a i).2.2;split at b
 .obtain ⟨rfl,_⟩:=b;exact⟨f.mono (by omega),by rw[hn]⟩
 .split at b
  .obtain ⟨rfl,_⟩:=b;exact⟨f.mono (by omega),by rw[hn]⟩
  .obtain ⟨v,c,rfl,_⟩:=b;have o:K.nodes.getD i .zero=K.nodes[i]:=by rw[ae5,abM j];rfl
   have k:=m.g _ _ _ _ c;rw[o,h.n.id i j]at k;have⟨p,q⟩:=anQ f (l:=v.out) c.sti.s (by rw[k,hn];omega) (by have:=c.out.1;omega);exact⟨p.mono (by have:=c.out.1;omega),by rw[q,aiP,hn]⟩
def Lm{K f:Cl}(o:x9)(h:dL T K)(q:T<=900000000){a:Int}{d:Act}(b:K.bP a d f l e):dL (T+9000) f/\f.nodes.length=K.nodes.length:=by
 unfold Cl.bP at b;split at b
 .obtain ⟨rfl,_⟩:=b;exact⟨h.mono (by omega),rfl⟩
 rename_i hc;have hth:K.there a:=akp fun hn=>hc (.inl hn);obtain⟨i,rfl⟩:∃i:Nat,a=i:=⟨a.toNat,by have:=hth.1;omega⟩;have k:i<K.nodes.length:=by have:=hth.2;omega
 simp only[ais]at b;split at b
 .obtain ⟨rfl,_⟩:=b;have⟨g,j⟩:=qT h i;exact⟨g.mono (by omega),by rw[j]⟩
 .obtain ⟨v,c,rfl,_⟩:=b;have p:K.nodes.getD i .zero=K.nodes[i]:=by rw[ae5,abM k];rfl
  have m:=o.a _ _ _ c;rw[p,h.n.id i k]at m;have⟨g,j⟩:=anQ h (l:=v.out) c.sti.s (by rw[m];omega) (by have:=c.out.1;omega);exact⟨g.mono (by have:=c.out.1;omega),by rw[j,aiP]⟩
section
variable{H:List Ob}{c:Nat->aU}{b:Nat}{K:Cl}
def vp{K:Cl}(h:dM K){x y k:Int}{s:bx}(a:K.look x y k=some s):K.two x y/\s.length<=1000:=by
 unfold Cl.look at a;split at a
 .rename_i c;refine⟨c,?_⟩;unfold Pp.look dV at a;split at a
  .cases a
  .exact (h.pipe _ _).b _ _ (aiJ a)
 .cases a
def Wu{e:Lk}{f:Fm}{s:bx}(h:(iY e f).2=some s):s.length<=64:=by
 unfold iY at h;split at h
 .cases h
 .rename_i b;split at h
  .cases h
  split at h
  .cases h
  .simp only[ab1]at h;subst h;have a:ni f=true:=by cases c:ni f with|true=>rfl|false=>exact absurd (.inl c) b
   simp only[ni,abR,decide_eq_true_eq]at a;exact a.1.2
def Uh{s:Bool}{k:Int}{t:bx}(h:(P.jk s k).2=some t):t.length<=64:=by
 unfold Pp.jk at h;split at h
 .cases h
 .split at h
  .exact Wu h
  .cases h
def YR(N:x9)(h:bJ H c b K)(m:dL T K)(ah:T<=800000000)(x y k:Int):
  ∃p a q l e le,aO tz ay 42 [au b,aa x,aa y,aa k] H=some (.aM [.c le,aa e],a)/\K.Comes x y k q l e/\lY le l/\bJ a p b q/\aH Gx c p H a:=by
 obtain⟨c1,W,j,O,P⟩:=zi h x y k
 unfold eF at j
 cases w:K.look x y k with
 |none=>
  rw[w]at j
  simp only[ajm,ajk]at j
  obtain⟨r,a,G,rfl,rfl⟩:=cG (C:=tz) (f:=42) (args:=[au b,aa x,aa y,aa k]) (H:=H) (fun r a=>r= .aM [.c ap,aa 211]/\a=W) func42 rfl (by
   simp[-aD,f42,j])
  exact⟨c1,_,K,[],211,ap,dK (by simp) G,by unfold Cl.Comes;rw[if_pos w];exact⟨rfl,rfl,rfl⟩,.inl ⟨rfl,rfl⟩,O,P⟩
 |some s0=>
 rw[w]at j
 simp only[ai0,ajj]at j
 obtain⟨u,v,rfl,rfl,X⟩:=qO (vp m.i w).1
 have Q:v<K.nodes.length:=by have:=(vp m.i w).1.2.1.2;omega
 obtain⟨ai,c2,H2,R,S,Y⟩:=ub O (ait X)
 obtain⟨c3,Z,z,r3,U⟩:=Z7 (rK _ _) S.r (m.i.pipe v u) (cT v u) k (by have:=m.g (min v u) (max v u) (cT v u);show(K.pipe v u).dR _<=_;unfold Cl.pipe;omega)
 have I:=S.bH U r3
 obtain⟨D,A⟩:=DD (((K.pipe v u).jk (cT v u) k).1)
 obtain⟨o,E⟩:=DD (((K.pipe v u).jk (cT v u) k).2)
 have B:dL (T+1) (K.eR v u D):=Ao (m.mono (by omega)) v u (by rw[<-A];exact Dc (m.i.pipe v u) _ _) fun s=>by
  rw[<-A]
  exact ai5 (HC _ _ _ _) (by have:=m.g (min v u) (max v u) s;show(K.pp _ _).dR s+1<=_;omega)
 have ab:o=none->K.Comes u v k ((K.eR v u D).flush v) [] 0:=fun h=>by
  unfold Cl.Comes
  rw[if_neg (by rw[w];simp)]
  simp only[ais,E,h,A]
  refine⟨?_,?_,?_⟩<;>first|rfl|trivial
 have ad:∀s,o=some s->∀d l e,Cl.Told (K.eR v u D) u v s d l e->K.Comes u v k (d.flush v) l e:=fun s h d l e F=>by
  unfold Cl.Comes
  rw[if_neg (by rw[w];simp)]
  simp only[ais,E,h,A]
  exact⟨d,F,rfl⟩
 rw[A]at I
 rw[E]at z
 have V:aH Gx c c3 H Z:=(P.trans (Y.mono (ma (by omega)))).trans (U.mono rA)
 obtain⟨r,a,G,p,q,l,e,le,rfl,g2⟩:=af1 (C:=tz) (f:=42) (args:=[au b,aa u,aa v,aa k]) (H:=H) (fun r a=>∃p q l e le,r= .aM [.c le,aa e]/\K.Comes u v k q l e/\lY le l/\bJ a p b q/\aH Gx c p H a) func42 rfl (by
  have aj:tz.kR 36=false:=rfl
  unfold eF at z
  cases o with
  |none=>
   simp only[ajm,ajk]at z
   obtain⟨c4,H4,_,J,L,M⟩:=IK I B.i v
   simp[-aD,f42,j,R,z,qx]
   exact⟨_,_,⟨rfl,rfl⟩,rfl,rfl,_,_,J,c4,_,[],0,ap,⟨rfl,rfl⟩,ab rfl,.inl ⟨rfl,rfl⟩,L,V.trans M⟩
  |some s=>
   simp only[ai0,ajj]at z
   obtain⟨c4,H4,K4,l,e,le,ae,F,af,L,M⟩:=Vm (T:=T+1) I B.i B.n B.t (by omega) u v Q s (by have:=Uh E;omega) N.g
   obtain⟨ag,_⟩:=CP N B (by omega) (show v< (K.eR v u D).nodes.length from Q) F
   obtain⟨c5,H5,_,J,h5,s5⟩:=IK L ag.i v
   simp[-aD,f42,j,R,z,ae,qx]
   exact⟨_,_,⟨rfl,rfl⟩,rfl,rfl,_,_,J,c5,_,l,e,le,⟨rfl,rfl⟩,ad s rfl _ _ _ F,af,h5,(V.trans M).trans s5⟩)
 exact⟨p,a,q,l,e,le,dK (by simp) G,g2⟩
end
end
section
variable{k:aU}{q:ab}
def Cl.jD(K:Cl)(x y:Int):List bx:=if K.two x y then(K.pipe y.toNat x.toNat).q (!cT y.toNat x.toNat)else []
def Rn(K:Cl)(x y k:Int):K.look x y k=dV (K.jD x y) k:=by
 unfold Cl.look Cl.jD Pp.look;split
 .rfl
 .unfold dV;split<;>rfl
def Ks{K:Cl}(h:dM K)(x y:Int):(K.jD x y).length<=1000/\∀t∈K.jD x y,t.length<=1000:=by
 unfold Cl.jD;split
 .have hp:=h.pipe y.toNat x.toNat;exact⟨by have:=hp.q (!cT y.toNat x.toNat);have:=hp.r;omega,hp.b _⟩
 .exact ⟨by simp,by simp⟩
section
variable{H:List Ob}{c:Nat->aU}{b:Nat}{K:Cl}
def Ol(h:bJ H c b K)(z:dM K)(x y:Int):∃a e,aO tz ay 59 [au b,aa x,aa y] H=some (aa (K.jD x y).length,e)/\bJ e a b K/\aH Gx c a H e:=by
 have⟨n,hn⟩:=DD ((K.jD x y).length);have A:=(Ks z x y).1;rw[hn]at A|-
 obtain⟨r,e,B,a,rfl,D⟩:=cG (C:=tz) (f:=59) (args:=[au b,aa x,aa y]) (H:=H) (fun r e=>∃a,r=aa n/\bJ e a b K/\aH Gx c a H e) func59 rfl (by
  simp only[f59,cr];refine bp [(0,au b),(1,aa x),(2,aa y)] (fun G=>G=H) ?_ ?_
  .simp
  rintro l G⟨E,F,I,_⟩k;obtain rfl:H=G:=k.symm;rw[iM];refine Ends.sq ?_;refine bp [(0,au b),(1,aa x),(2,aa y),(7,aa (0:Nat))] (fun G=>G=H) ?_ ?_
  .simp[E,F,I]
  rintro l G J k;obtain rfl:H=G:=k.symm;rw[eC];refine iv (fun j:Nat=>[(0,au b),(1,aa x),(2,aa y),(7,aa j)]) (fun j G=>j<=n/\∃a,bJ G a b K/\aH Gx c a H G) (fun j=>n-j) ?_ 0 J ⟨by omega,c,h,aH.refl _ _ _⟩ fun _=>rfl;rintro j l G ⟨m,o,p,q,_⟩ ⟨N,c2,L,t⟩;have u:(j:Int)<1001:=by omega
  have⟨c3,O,g,v,w⟩:=zi L x y j;rw[Rn]at g;unfold eF at g;have M:adW.wrap ((j:Int)+1)=((j+1:Nat):Int):=cv (by omega);by_cases d:j<n
  .have i:∃s,dV (K.jD x y) (j:Int)=some s:=by unfold dV;rw[if_neg (by omega)];exact⟨_,abM (by rw[hn];omega)⟩
   have⟨s,i⟩:=i;rw[i]at g;simp only[ai0,ajj]at g;simp[-aD,-getElem?_pos,-ad0,m,o,p,q,u,g,M];exact⟨j+1,by omega,rfl,by omega,c3,v,t.trans w⟩
  .have P:j=n:=by omega
   have i:dV (K.jD x y) (j:Int)=none:=by unfold dV;rw[if_neg (by omega)];exact aiE (by rw[hn];omega)
   rw[i]at g;simp only[ajm,ajk]at g;simp[-aD,-getElem?_pos,-ad0,m,o,p,q,u,g];exact⟨by omega,c3,v,t.trans w⟩)
 exact⟨a,e,dK (by simp) B,D⟩
def iH(H:List Ob)(c:Nat->aU)(k:aU)(z:Nat)(q:ab)(rows:List (List ab)):Prop:= ∃h v,q= .sl h v 0 rows.length/\H[h]?=some (.live v z rows)/\c h=k
theorem iH.aK{H':List Ob}{a:Nat->aU}{X:aU->Prop}{z:Nat}{rows:List (List ab)}(h:iH H c k z q rows)(d:aH X c a H H')(e:¬X k):iH H' a k z q rows:=by have⟨h,v,f,g,b⟩:=h;have⟨i,j⟩:=d.get g (by rw[b];exact e);exact⟨h,v,f,i,j.trans b⟩
def Cl.lN(K:Cl)(x:Int)(n:Nat):List Int:=(aiZ n).map fun(i:Nat)=>((K.jD x (i:Int)).length:Int)
def aa3(K:Cl)(x:Int)(n:Nat):K.lN x (n+1)=K.lN x n++[((K.jD x (n:Int)).length:Int)]:=by unfold Cl.lN;rw[aj2,aid];rfl
def c29(h:bJ H c b K)(X:dM K)(x:Int)(n:Nat)(hn:n<=1000):∃q a e,aO tz ay 29 [au b,aa x,aa n] H=some (.c q,e)/\iH e a .none 1 q ((K.lN x n).map aC)/\bJ e a b K/\aH Gx c a H e:=by
 obtain⟨r,e,Y,q,a,rfl,Z⟩:=cG (C:=tz) (f:=29) (args:=[au b,aa x,aa n]) (H:=H) (fun r e=>∃q a,r= .c q/\iH e a .none 1 q ((K.lN x n).map aC)/\bJ e a b K/\aH Gx c a H e) func29 rfl (by
  simp only[f29,cr];rw[fQ];have L:aH (fun _=>False) c (ext c H.length .none) H (H++[ah 1 []]):=aH.of _ (by simp) fun m hm _=>abE hm;refine bp [(0,au b),(1,aa x),(2,aa n),(7,ER H.length 0 0 0)] (fun G=>G=H++[ah 1 []]) ?_ ?_
  .simp
  rintro t G⟨a0,a1,a2,a7,_⟩u;refine eh (fun S=>S.bG=[]/\∃q a,S.env.get 7=some (.c q)/\iH S.heap a .none 1 q ((K.lN x n).map aC)/\bJ S.heap a b K/\aH Gx c a H S.heap) ?_ ?_
  .refine bp [(0,au b),(1,aa x),(2,aa n),(8,aa (0:Nat)),(7,ER H.length 0 0 0)] (fun ad=>ad=G) ?_ ?_
   .simp[a0,a1,a2,a7]
   rintro t G2 g1 ae;obtain rfl:G=G2:=ae.symm;rw[eC];refine iv (fun p:Nat×ab=>[(0,au b),(1,aa x),(2,aa n),(8,aa p.1),(7,.c p.2)]) (fun p G=>p.1<=n/\(∀m∈rf p.2,H.length<=m)/\∃a,iH G a .none 1 p.2 ((K.lN x p.1).map aC)/\bJ G a b K/\aH Gx c a H G) (fun p=>n-p.1) ?_ (0,.sl H.length 0 0 0) g1 ⟨by omega,by simp[rf],_,⟨H.length,0,rfl,by rw[u];simp[Cl.lN],jr (ad3 _)⟩,by rw[u];exact h.aK L fun _ h=>h.elim,by rw[u];exact L.mono fun _ h=>h.elim⟩ fun _=>rfl;rintro⟨j,q⟩ t G ⟨M,N,w,y,k,_⟩ ⟨g2,O,c2,A,B,D⟩;simp only at M N w y k g2 O A B D;by_cases d:j<n
   .have ⟨c3,l,P,h3,Q⟩:=Ol B X x j;have af:=A.aK Q (by simp);obtain⟨i,v,rfl,o,T⟩:=af;have E:((K.lN x j).map aC).length=j:=by simp[Cl.lN]
    have U:=aa3 K x j;have⟨z,hz⟩:=DD ((K.jD x (j:Int)).length);rw[hz]at P U;have⟨R,V⟩:=DD ((K.lN x j).map aC);rw[V]at o E k;rw[E]at k;have m1:j+1<=maxLen:=by unfold maxLen;omega
    have m2:(j+1)*8<=140737488355328:=by omega
    have W:∀K,(l++K)[i]?=some (.live v 1 R):=fun K=>by rw[abE (bf o)];exact o
    have hw:adW.wrap ((j:Int)+1)=((j+1:Nat):Int):=cv (by omega);have ht:R.take j=R:=acu (by omega)
    have fin:∃s,n-s<n-j/\∃q,(((j+1:Nat):Int)=(s:Int)/\ab.sl i (v+1) 0 (j+1)=q)/\s<=n/\(∀m∈rf q,H.length<=m)/\∃a,iH ((l++[Ob.live 0 1 [[I z]]]).set i (Ob.live (v+1) 1 (R++[[I z]]))) a .none 1 q ((K.lN x s).map aC)/\bJ ((l++[Ob.live 0 1 [[I z]]]).set i (Ob.live (v+1) 1 (R++[[I z]]))) a b K/\aH Gx c a H ((l++[Ob.live 0 1 [[I z]]]).set i (Ob.live (v+1) 1 (R++[[I z]]))):=by
     have st:aH (· = .none) c3 (ext c3 l.length .none) l ((l++[Ob.live 0 1 [[I z]]]).set i (Ob.live (v+1) 1 (R++[[I z]]))):=aH.of _ (by simp) fun m hm F=>by rw[aat (fun ag=>F (by rw[<-ag];exact T)),abE hm]
     have ai:H.length<=i:=O i (by simp[rf]);refine⟨j+1,by omega,_,⟨rfl,rfl⟩,by omega,by simp[rf];exact ai,ext c3 l.length .none,⟨i,v+1,?_,?_,?_⟩,h3.aK st fun _ h=> .inl h,?_⟩
     .simp[Cl.lN]
     .rw[ba (W _),U,aid,V];rfl
     .rw[jf (bf o)];exact T
     .have J:=D.trans Q;have sl:=J.len;exact⟨by simp;omega,fun m hm=>by rw[jf (by omega)];exact J.jK m hm,fun m hm F=>by rw[aat (by omega),abE (by omega)];exact J.aK m hm F⟩
    simp[-aD,-getElem?_pos,-ad0,M,N,w,y,k,d,P,W,m1,m2,hw,ht,E];exact fin
   .simp[-getElem?_pos,w,y,k,d];have hj:j=n:=by omega
    rw[<-hj];exact⟨c2,A,B,D⟩
  rintro⟨t,G,ds⟩⟨rfl,q,a,k,g⟩;simp only at k g;simp[k];exact⟨a,g⟩)
 exact⟨q,a,e,dK (by simp) Y,Z⟩
end
structure jj where
 f:Int
 t:Int
 b:bx
deriving DecidableEq
def eW(x:jj):List ab:=[I x.f,I x.t,Sg x.b]
def Tb(l:List jj):bA (l.map eW)=true:=jg _ (fun _=>rfl) l
def Y7(l:List UInt8):(⟨l.toArray⟩:ByteArray).toList=l:=by rw[DJ]
def eqW(x y:jj):eL [Sh.int,Sh.int,Sh.str] [I x.f,I x.t,Sg x.b] [I y.f,I y.t,Sg y.b]=some (decide (x=y)):=by
 have h:∀a b:Int,lR Sh.int (I a) (I b)=some (decide (a=b)):=fun a b=>by
  simp only[lR];by_cases h:a=b
  .subst h;simp
  .simp[h]
 have c:∀a b:bx,lR Sh.str (Sg a) (Sg b)=some (decide (a=b)):=fun a b=>by
  simp only[lR,Y7];by_cases h:a=b
  .subst h;simp
  .simp[h]
 simp only[eL,h,c];congr 1
 have⟨a,b,s⟩:=x;have⟨d,e,g⟩:=y;by_cases i:a=d<;>by_cases j:b=e<;>by_cases k:s=g<;>simp[i,j,k]
def p55(l:List jj)(D:l.length<=1000000000)(x:jj):aS tz ay 0 55 [bh (l.map eW),.agg (eW x)]=some (aR (decide (x∈l)),[]):=by
 refine be func55 rfl ?_;simp only[f55,cr];have⟨n,hn⟩:=DD l.length;have⟨R,g⟩:=DD (l.map eW);have i:R.length=n:=by rw[<-g];simpa using hn
 have w:∀j (t:j<l.length),R[j]?=some (eW l[j]):=fun j t=>by rw[<-g,adf,abM t];rfl
 rw[g];refine bp [(0,bh R),(3,.c (.aJ [eW x] 0 0))] (fun G=>G=[]) ?_ ?_
 .simp[eW]
 rintro u G a rfl;simp at a;have⟨A,B⟩:=a;rw[iM];refine Ends.sq ?_;refine bp [(0,bh R),(3,.c (.aJ [eW x] 0 0)),(5,aa (0:Nat))] (fun G=>G=[]) ?_ ?_
 .simp[A,B]
 rintro u G a rfl;rw[eC];refine iv (fun j:Nat=>[(0,bh R),(3,.c (.aJ [eW x] 0 0)),(5,aa j)]) (fun j G=>j<=n/\G=[]/\∀y∈l.take j, ¬y=x) (fun j=>n-j) ?_ 0 a ⟨by omega,rfl,by simp⟩ fun _=>rfl;rintro j u G ⟨k,m,o,_⟩ ⟨E,rfl,p⟩;by_cases d:j<n
 .have q:j<l.length:=by omega
  have F:j<R.length:=by omega
  have C:adW.wrap ((j:Int)+1)=((j+1:Nat):Int):=cv (by omega);have b:=w j q;have⟨y,r⟩:=DD l[j];rw[r]at b;have f:=eqW y x;simp only[eW]at b m;by_cases e:y=x
  .rw[decide_eq_true e]at f;have s:x∈l:=by rw[<-e, <-r];exact aix q
   simp[-getElem?_pos,-ad0,k,m,o,d,i,b,f,s]
  .rw[decide_eq_false e]at f;simp[-getElem?_pos,-ad0,k,m,o,d,i,b,f,C];refine⟨j+1,by omega,⟨rfl,rfl⟩,by omega,fun z v=>?_⟩;rw[aiH,abM q,r]at v;rcases ain.1 v with h|h
   .exact p z h
   .simp at h;rw[h];exact e
 .have s:¬x∈l:=fun h=>by rw[acu (by omega)]at p;exact p x h rfl
  simp[-getElem?_pos,k,o,d,i,s]
def c55{H:List Ob}{c:Nat->aU}{l:List jj}(g:iH H c k 3 q (l.map eW))(i:l.length<=1000000000)(x:jj):aO tz ay 55 [.c q,.agg (eW x)] H=some (aR (decide (x∈l)),H):=by
 obtain⟨h,v,rfl,a,p⟩:=g;have b:=p55 l i x;have d:=um (lo:=0) (len:=(l.map eW).length) a (by simp);rw[akn,aiF]at d;have e:=zF (n:=5) a d (Tb l);have f:df H (.agg (eW x))=some (.agg (eW x),[]):=by have:ES (eW x)=true:=rfl;simp only[df,mR this];rfl
 simp only[eW]at f b|-;rw[aio]at e
 have j:df H (ER h v 0 (l.map eW).length)=some (bh (l.map eW),[3]):=by
  rw[aio]
  show(match bU H 6 (.sl h v 0 l.length)with
   |some (m,o)=>some (aw.c m,o)
   |none=>none)=_
  rw[e]
 rw[aD,if_neg (by simp[eO])];simp only[dy,f,j,kU,show tz.md 55=0 from rfl,aeU];rw[b,jP];simp[ei,eN,dZ]
end
section
structure LA where
 K:Int
 A:Int
 B:Int
 N:Int
 X:Int
 d:Act
def cM(x:LA):List ab:=[I x.K,I x.A,I x.B,I x.N,I x.X,I x.d.kind,I x.d.id,I x.d.peer,I x.d.hold,aG x.d.need]
def Lg(x:LA):ES (cM x)=true:=by simp[cM,ES,bC]
def xq(K:Cl)(x:Int)(i k:Nat):List jj:=((K.jD x (i:Int)).drop k).map fun b=>⟨x,(i:Int),b⟩
def wB(K:Cl)(x:Int)(a:List Nat):List jj:=(aiZ a.length).flatMap fun i=>xq K x i (a.getD i 0)
section
variable{H:List Ob}{c:Nat->aU}{b:Nat}{K:Cl}
abbrev G9:aU->Prop:=fun k=>Gx k\/k= .cl 9
def Q7(x:aU)(h:Gx x):G9 x:= .inl h
def ku(K:Cl)(x:Int)(a:List Nat)(i:Nat):List jj:=(aiZ i).flatMap fun j=>xq K x j (a.getD j 0)
def NQ(K:Cl)(x:Int)(a:List Nat)(i:Nat):ku K x a (i+1)=ku K x a i++xq K x i (a.getD i 0):=by unfold ku;rw[aj2,aku];simp
def P2{K:Cl}(a:dM K)(x:Int)(b:List Nat)(i:Nat):(ku K x b i).length<=1000*i:=by
 induction i with
 |zero=>simp[ku]
 |succ i c=>rw[NQ,agc];have:=(Ks a x (i:Int)).1;simp only[xq,aio,aj0];omega
def xp(h:bJ H c b K)(hi:dM K)(x:Int){q qw:ab}(l:List jj)(e:List Nat)(hq:iH H c (.cl 9) 3 q (l.map eW))(O:iH H c .none 1 qw (e.map fun n:Nat=>aC n))(hn:e.length<=1000)(hl:l.length+1000000<=1000000000):
  ∃U a o,aO tz ay 31 [au b,.c q,aa x,.c qw] H=some (.c U,o)/\iH o a (.cl 9) 3 U ((l++wB K x e).map eW)/\bJ o a b K/\aH G9 c a H o:=by
 have⟨n,ae⟩:=DD e.length
 have hM:wB K x e=ku K x e n:=by rw[<-ae];rfl
 rw[hM]
 obtain⟨z,A,rfl,wb,cb⟩:=O
 rw[aio,ae]
 have ah:∀j,j<n->(e.map fun n:Nat=>aC n)[j]?=some [I ((e.getD j 0:Nat):Int)]:=fun j hj=>by
  rw[adf,abM (by omega),ae5,abM (by omega)];rfl
 have ai:(e.map fun n:Nat=>aC n).length=n:=by simpa using ae
 have⟨W,hW⟩:=DD (e.map fun n:Nat=>aC n)
 rw[hW]at wb ah ai
 obtain⟨aj,o,h1,U,a,rfl,h2⟩:=cG (C:=tz) (f:=31) (args:=[au b,.c q,aa x,ER z A 0 n]) (H:=H) (fun aj o=>∃q a,aj= .c q/\iH o a (.cl 9) 3 q ((l++ku K x e n).map eW)/\bJ o a b K/\aH G9 c a H o) func31 rfl (by
  simp only[f31,cr]
  refine bp [(0,au b),(1,.c q),(2,aa x),(3,ER z A 0 n)] (fun G=>G=H) ?_ ?_
  .simp
  rintro E G⟨a0,a1,a2,a3,_⟩hG
  obtain rfl:H=G:=hG.symm
  refine eh (fun S=>S.bG=[]/\∃q a,S.env.get 1=some (.c q)/\iH S.heap a (.cl 9) 3 q ((l++ku K x e n).map eW)/\bJ S.heap a b K/\aH G9 c a H S.heap) ?_ ?_
  .refine bp [(0,au b),(2,aa x),(3,ER z A 0 n),(9,aa (0:Nat)),(1,.c q)] (fun G=>G=H) ?_ ?_
   .simp[a0,a1,a2,a3]
   rintro E P m Q
   obtain rfl:H=P:=Q.symm
   rw[eC]
   refine iv (fun p:Nat×ab=>[(0,au b),(2,aa x),(3,ER z A 0 n),(9,aa p.1),(1,.c p.2)]) (fun p G=>p.1<=n/\∃a,iH G a (.cl 9) 3 p.2 ((l++ku K x e p.1).map eW)/\bJ G a b K/\aH G9 c a H G) (fun p=>n-p.1) ?_ (0,q) m ⟨by omega,c,by simpa[ku]using hq,h,aH.refl _ _ _⟩ fun _=>rfl
   rintro⟨j,q⟩E G⟨u,y,r,t,i,_⟩⟨g2,c2,F,M,B⟩
   simp only at u y r t i g2 F M B
   by_cases d:j<n
   .refine bp [(0,au b),(2,aa x),(3,ER z A 0 n),(9,aa j),(1,.c q)] (fun af=>af=G) ?_ ?_
    .simp[u,i,y,r,t,d]
    rintro E P m Q
    obtain rfl:G=P:=Q.symm
    simp at m
    have⟨u,y,r,t,i⟩:=m
    have⟨w,ak⟩:=DD (e.getD j 0)
    have wr:=ah j d
    rw[ak]at wr
    have an:=(B.get wb (by rw[cb];simp)).1
    have⟨L,hL⟩:=DD ((K.jD x (j:Int)).map (fun b=>(⟨x,(j:Int),b⟩:jj)))
    have ao:(K.jD x (j:Int)).length=L.length:=by rw[<-hL];simp
    have ap:ku K x e (j+1)=ku K x e j++L.drop w:=by
     rw[NQ,ak, <-hL];unfold xq;rw[List.map_drop]
    have aA:=P2 hi x e j
    have aB:=(Ks hi x (j:Int)).1
    refine eh (fun S=>S.bG=[]/\∃q a,Has S.env [(0,au b),(2,aa x),(3,ER z A 0 n),(9,aa j),(1,.c q)]/\iH S.heap a (.cl 9) 3 q ((l++ku K x e (j+1)).map eW)/\bJ S.heap a b K/\aH G9 c a H S.heap) ?_ ?_
    .rw[eC]
     refine Ends.bl ?_
     refine bp [(0,au b),(2,aa x),(3,ER z A 0 n),(9,aa j),(10,aa (w:Nat)),(1,.c q)] (fun af=>af=G) ?_ ?_
     .simp[-getElem?_pos,u,i,y,r,t,an,wr,ai,d]
     rintro E P m Q
     obtain rfl:G=P:=Q.symm
     rw[eC]
     refine Ends.bl (amV (fun p:Nat×ab=>[(0,au b),(2,aa x),(3,ER z A 0 n),(9,aa j),(10,aa p.1),(1,.c p.2)]) (fun p G=>w<=p.1/\(p.1=w\/p.1<=L.length)/\∃a,iH G a (.cl 9) 3 p.2 ((l++ku K x e j++(L.drop w).take (p.1-w)).map eW)/\bJ G a b K/\aH G9 c a H G) [] (fun p=>L.length-p.1) _ [0,2,3,9,10,1] (fun _=>rfl) ?_ (w,q) _ m ⟨ad3 _,.inl rfl,c2,by simpa using F,M,B⟩ rfl)
     rintro⟨k,q⟩⟨E,G,ds⟩m⟨aq,ar,c2,F,M,B⟩g6
     simp only at m aq ar F M B g6
     subst g6
     simp at m
     have⟨u,y,r,t,al,i⟩:=m
     have⟨c3,H3,ag,h3,V⟩:=Ol M hi x j
     rw[ao]at ag
     by_cases dk:k<L.length
     .have ⟨c4,D,T,h4,s4⟩:=zi h3 x j k
      rw[Rn]at T
      unfold eF at T
      have hs:∃s,dV (K.jD x j) (k:Int)=some s/\L[k]?=some ⟨x,(j:Int),s⟩:=by
       have X:k< (K.jD x j).length:=by omega
       refine⟨(K.jD x j)[k],?_,?_⟩
       .unfold dV
        rw[if_neg (by omega)]
        exact abM X
       .rw[<-hL,adf,abM X];rfl
      have⟨s,hs,av⟩:=hs
      rw[hs]at T
      simp only[ai0,ajj]at T
      have aw:=F.aK (V.trans s4) (by simp)
      obtain⟨J,v,rfl,Y,k2⟩:=aw
      have⟨R,Z⟩:=DD ((l++ku K x e j++(L.drop w).take (k-w)).map eW)
      have ax:R.length<=l.length+1000*j+1000:=by
       rw[<-Z,aio,agc,agc,ai1,aj0]
       omega
      rw[Z]at Y i
      have⟨ad,hu⟩:=DD R.length
      rw[hu]at i ax
      have m1:ad+1<=maxLen:=by unfold maxLen;omega
      have m2:(ad+1)*32<=140737488355328:=by omega
      have gh:∀K,(D++K)[J]?=some (.live v 3 R):=fun K=>by rw[abE (bf Y)];exact Y
      have O:adW.wrap ((k:Int)+1)=((k+1:Nat):Int):=cv (by omega)
      have ht:R.take ad=R:=acu (by omega)
      have am:(L.drop w).take (k+1-w)=(L.drop w).take (k-w)++[⟨x,(j:Int),s⟩]:=by
       rw[show k+1-w=k-w+1 from by omega,aiH,ai3,show w+(k-w)=k from by omega,av]
       rfl
      have fin:∃N,L.length-N<L.length-k/\∃q,(((k+1:Nat):Int)=(N:Int)/\ab.sl J (v+1) 0 (ad+1)=q)/\w<=N/\(N=w\/N<=L.length)/\∃a,iH ((D++[Ob.live 0 3 [[I x,I j,Sg s]]]).set J (Ob.live (v+1) 3 (R++[[I x,I j,Sg s]]))) a (.cl 9) 3 q ((l++ku K x e j++(L.drop w).take (N-w)).map eW)/\bJ ((D++[Ob.live 0 3 [[I x,I j,Sg s]]]).set J (Ob.live (v+1) 3 (R++[[I x,I j,Sg s]]))) a b K/\aH G9 c a H ((D++[Ob.live 0 3 [[I x,I j,Sg s]]]).set J (Ob.live (v+1) 3 (R++[[I x,I j,Sg s]]))):=by
       have st:aH (· = .cl 9) c4 (ext c4 D.length .none) D ((D++[Ob.live 0 3 [[I x,I j,Sg s]]]).set J (Ob.live (v+1) 3 (R++[[I x,I j,Sg s]]))):=aH.of _ (by simp) fun aE hm X=>by
        rw[aat (fun az=>X (by rw[<-az];exact k2)),abE hm]
       refine⟨k+1,by omega,_,⟨rfl,rfl⟩,by omega,by omega,ext c4 D.length .none,⟨J,v+1,?_,?_,?_⟩,h4.aK st fun k h=>by subst h;simp[Lw],?_⟩
       .rw[am, <-aiu,aid,Z,agc,hu];rfl
       .rw[ba (gh _),am, <-aiu,aid,Z];rfl
       .rw[jf (bf Y)];exact k2
       .exact B.trans (((V.trans s4).mono Q7).trans (st.mono fun k h=> .inr h))
      simp[-aD,-ad0,-aid,-aiu,u,i,y,r,t,al,dk,ag,T,gh,m1,m2,O,ht,hu]
      exact fin
     .simp[-aD,-ad0,-aid,-aiu,u,i,y,r,t,al,dk,ag]
      refine⟨c3,?_,h3,B.trans (V.mono Q7)⟩
      have:=F.aK V (by simp)
      rw[acu (by rw[aj0];omega),aiu, <-ap]at this
      exact this
    rintro⟨E,G3,ds⟩⟨rfl,q,c4,m,g⟩
    simp only at m g
    simp at m
    have⟨u,y,r,t,i⟩:=m
    have O:adW.wrap ((j:Int)+1)=((j+1:Nat):Int):=cv (by omega)
    simp[-aid,-ad0,u,i,y,r,t,O]
    exact⟨j+1,by omega,_,⟨rfl,rfl⟩,by omega,c4,g⟩
   .simp[-aid,r,t,i,d]
    have hj:j=n:=by omega
    rw[<-hj]
    exact⟨c2,F,M,B⟩
  rintro⟨E,G,ds⟩⟨rfl,q,a,i,g⟩
  simp only at i g
  simp[-aid,i]
  exact⟨a,g⟩)
 exact⟨U,a,o,dK (by simp) h1,h2⟩
def rL(K:Cl)(l:List jj)(x:LA):Bool:=
 match K.look x.A x.B x.N with
 |none=>false
 |some s=>decide ((lF (jV s)).2=0)&&!decide ((⟨x.A,x.B,s⟩:jj)∈l)
def Pc(h:bJ H c b K)(E:dM K)(x:LA){q:ab}(l:List jj)(F:iH H c (.cl 9) 3 q (l.map eW))(G:l.length<=1000000000):
  ∃u e,aO tz ay 27 [au b,.c q,.agg (cM x)] H=some (aR (rL K l x),e)/\bJ e u b K/\aH Gx c u H e:=by
 have⟨c1,g,a,k,v⟩:=zi h x.A x.B x.N
 have J:∀s,K.look x.A x.B x.N=some s->s.length<=1000000:=fun s i=>by have:=(vp E i).2;omega
 unfold eF at a
 have L:=F.aK v (by simp)
 have⟨o,n⟩:=DD (K.look x.A x.B x.N)
 have M:(o.getD []).length<=1000000:=by
  cases o with
  |none=>simp
  |some s=>exact J s n
 rw[n]at a
 have d:=ON g (o.getD []) M
 have⟨s,i⟩:=DD (o.getD [])
 rw[i]at a d
 have⟨f,O⟩:=DD ((lF (jV s)).1)
 rw[O]at d
 simp only[bY]at d
 have⟨X,j⟩:=DD (g++[ah 5 [[I f.kind,I f.link,U8 f.seq,U8 f.qD,Sg f.body]]]:List Ob)
 have p:aH (fun _=>False) c1 (ext c1 g.length .none) g X:=by rw[<-j];exact aH.of _ (by simp) fun m hm _=>abE hm
 have w:=c55 (L.aK p fun h=>h) G ⟨x.A,x.B,s⟩
 simp only[eW]at w
 have fin:bJ X (ext c1 g.length .none) b K/\aH Gx c (ext c1 g.length .none) H X:=⟨k.aK p fun _ h=>h.elim,v.trans (p.mono fun _ h=>h.elim)⟩
 have P:rL K l x=(o.isSome&&(decide ((lF (jV s)).2=0)&&!decide ((⟨x.A,x.B,s⟩:jj)∈l))):=by
  unfold rL
  rw[n]
  cases o with
  |none=>rfl
  |some Q=>simp only[ai0]at i;rw[i];rfl
 have⟨z,y⟩:=DD ((lF (jV s)).2)
 obtain⟨r,e,k,rfl,rfl⟩:=cG (C:=tz) (f:=27) (args:=[au b,.c q,.agg (cM x)]) (H:=H) (fun r e=>r=aR (rL K l x)/\e=X) func27 rfl (by
  rw[P,y]
  rw[y]at d
  cases D:o.isSome with
  |false=>
   rw[D]at a
   simp[-aD,f27,cM,a,d,j]
  |true=>
   rw[D]at a
   by_cases t:z=0
   .rw[t]at d
    simp[-aD,f27,cM,a,d,j,w,t]
   .simp[-aD,f27,cM,a,d,j,t])
 exact⟨_,_,dK (by simp) k,fin⟩
def Zq(x:LA)(hn:x.d.need.length<=100000):aS tz ay 1 60 [.agg (cM x)]=some (.agg [I x.d.kind,I x.d.id,I x.d.peer,I x.d.hold,aG x.d.need],[]):=by
 refine be func60 rfl ?_;have c:x.d.need.length<=maxLen:=by unfold maxLen;omega
 have e:x.d.need.length*8<=140737488355328:=by omega
 have f:(x.d.need=[]/\0<x.d.need.length)=False:=eq_false fun⟨a,b⟩=>by rw[a]at b;simp at b
 simp[f60,cM,c,e,f]
def c60(H:List Ob)(x:LA)(hn:x.d.need.length<=100000):aO tz ay 60 [.agg (cM x)] H=some (.agg [I x.d.kind,I x.d.id,I x.d.peer,I x.d.hold,aG x.d.need],H):=by
 have a:=Zq x hn;have b:df H (.agg (cM x))=some (.agg (cM x),[]):=by simp only[df,mR (Lg x)];rfl
 rw[aD,if_neg (by simp[eO])];simp only[dy,b,kU,show tz.md 60=1 from rfl,aeU];rw[a,jP];simp[ei,eN,dZ]
def Cl.rE(K:Cl)(x:LA)(a:Cl)(s:List Ev)(e:Int):Prop:=
 if x.K=0 then K.bP x.A x.d a s e
 else if x.K=1 then K.tP x.A a s e
 else if x.K=2 then a=(K.goes x.A).1/\s=[]/\e=(K.goes x.A).2.2+1000*((K.goes x.A).2.1:Int)
 else if x.K=3 then K.Comes x.A x.B x.N a s e
 else if x.K=4 then a=(K.je x.A x.B x.N).1/\s=[]/\e=(K.je x.A x.B x.N).2
 else if x.K=5 then a=(K.double x.A x.B x.N).1/\s=[]/\e=(K.double x.A x.B x.N).2
 else a=(K.flip x.A x.B x.N x.X).1/\s=[]/\e=(K.flip x.A x.B x.N x.X).2
def aaj{K:Cl}(b:dM K)(a:Int):0<=(K.goes a).2.2/\(K.goes a).2.2<=210/\(K.goes a).2.1<=8000:=by
 unfold Cl.goes;split
 .exact ⟨by simp,by simp,by simp⟩
 .refine ⟨by simp,by simp,?_⟩;simp only;rw[wY];have c:=(Fx a.toNat (others K.nodes.length a.toNat) (K.flush a.toNat,0) (R5 b _)).2.2;have d:=ye K.nodes.length a.toNat;rw[xO,aio]at d;have:=b.n;simp only at c;omega
def xF{T:Nat}(F:x9)(h:bJ H c b K)(m:dL T K)(Q:T<=800000000)(x:LA)(hn:x.d.need.length<=100000):
  ∃k l j s e le,aO tz ay 30 [au b,.agg (cM x)] H=some (.aM [.c le,aa e],l)/\K.rE x j s e/\lY le s/\bJ l k b j/\aH Gx c k H l:=by
 obtain⟨r,l,R,k,j,s,e,le,rfl,S⟩:=cG (C:=tz) (f:=30) (args:=[au b,.agg (cM x)]) (H:=H) (fun r l=>∃k j s e le,r= .aM [.c le,aa e]/\K.rE x j s e/\lY le s/\bJ l k b j/\aH Gx c k H l) func30 rfl (by
  have hA:∀j s e,(if x.K=0 then K.bP x.A x.d j s e else if x.K=1 then K.tP x.A j s e else if x.K=2 then j=(K.goes x.A).1/\s=[]/\e=(K.goes x.A).2.2+1000*((K.goes x.A).2.1:Int)else if x.K=3 then K.Comes x.A x.B x.N j s e else if x.K=4 then j=(K.je x.A x.B x.N).1/\s=[]/\e=(K.je x.A x.B x.N).2 else if x.K=5 then j=(K.double x.A x.B x.N).1/\s=[]/\e=(K.double x.A x.B x.N).2 else j=(K.flip x.A x.B x.N x.X).1/\s=[]/\e=(K.flip x.A x.B x.N x.X).2)->K.rE x j s e:=fun _ _ _ h=>h
  by_cases o:x.K=0
  .have I:=c60 H x hn
   have⟨k,l,j,s,e,le,J,z,g⟩:=Rt (T:=T) h m.i m.n m.t (by omega) x.A x.d (nl:=aG x.d.need) (bi _) (fun _=>⟨rfl,hn⟩) fun n v G=>F.a n _ v G
   simp only[cM,aG,o]at I J|-
   simp[-aD,f30,I,J]
   exact⟨k,j,s,e,le,⟨rfl,rfl⟩,hA _ _ _ (by rw[if_pos o];exact z),g⟩
  by_cases p:x.K=1
  .have ⟨k,l,j,s,e,le,U,z,g⟩:=c61 (T:=T) h m.i m.n m.t (by omega) x.A fun n v G=>F.a n _ v G
   simp[-aD,f30,cM,p,U]
   exact⟨k,j,s,e,le,⟨rfl,rfl⟩,hA _ _ _ (by rw[if_neg o,if_pos p];exact z),g⟩
  by_cases q:x.K=2
  .have ⟨k,l,L,g⟩:=VE h m.i x.A
   have⟨V,W,Y⟩:=aaj m.i x.A
   have M:=hA (K.goes x.A).1 [] ((K.goes x.A).2.2+1000*((K.goes x.A).2.1:Int)) (by rw[if_neg o,if_neg p,if_pos q];exact⟨rfl,rfl,rfl⟩)
   have⟨u,O⟩:=DD ((K.goes x.A).2.1)
   have⟨w,P⟩:=DD ((K.goes x.A).2.2)
   rw[O,P]at L M
   rw[O]at Y
   rw[P]at V W
   have w1:adW.wrap (1000*(u:Int))=1000*(u:Int):=fw (by omega) (by omega)
   have w2:adW.wrap (w+1000*(u:Int))=w+1000*(u:Int):=fw (by omega) (by omega)
   simp[-aD,f30,cM,q,L,w1,w2]
   exact⟨k,_,[],_,ap,⟨rfl,rfl⟩,M,.inl ⟨rfl,rfl⟩,g⟩
  by_cases y:x.K=3
  .have ⟨k,l,j,s,e,le,Z,z,g⟩:=YR F h m Q x.A x.B x.N
   simp[-aD,f30,cM,y,Z]
   exact⟨k,j,s,e,le,⟨rfl,rfl⟩,hA _ _ _ (by rw[if_neg o,if_neg p,if_neg q,if_pos y];exact z),g⟩
  by_cases D:x.K=4
  .have ⟨k,l,ab,g⟩:=c62 h x.A x.B x.N
   simp[-aD,f30,cM,D,ab]
   exact⟨k,_,[],_,ap,⟨rfl,rfl⟩,hA _ _ _ (by rw[if_neg o,if_neg p,if_neg q,if_neg y,if_pos D];exact⟨rfl,rfl,rfl⟩),.inl ⟨rfl,rfl⟩,g⟩
  by_cases E:x.K=5
  .have ⟨k,l,ad,g⟩:=UQ h x.A x.B x.N
   simp[-aD,f30,cM,E,ad]
   exact⟨k,_,[],_,ap,⟨rfl,rfl⟩,hA _ _ _ (by rw[if_neg o,if_neg p,if_neg q,if_neg y,if_neg D,if_pos E];exact⟨rfl,rfl,rfl⟩),.inl ⟨rfl,rfl⟩,g⟩
  .have ⟨k,l,ae,g⟩:=VZ h m.i x.A x.B x.N x.X
   simp[-aD,f30,cM,o,p,q,y,D,E,ae]
   exact⟨k,_,[],_,ap,⟨rfl,rfl⟩,hA _ _ _ (by rw[if_neg o,if_neg p,if_neg q,if_neg y,if_neg D,if_neg E];exact⟨rfl,rfl,rfl⟩),.inl ⟨rfl,rfl⟩,g⟩)
 exact⟨k,l,j,s,e,le,dK (by simp) R,S⟩
end
end
section
variable{es:List Ev}{w:Wk}{n:Nd}{a:Act}{p:Int}{m:cY}
inductive ow (id:Int):cd->List Ev->cd->Prop
 |quiet (b:cd) (es:List Ev) (h:∀e∈es,6<=e.kind/\e.node=id):ow id b es b
 |Mv (b:cd) (s:bW) (r:List bW) (hb:b.aA=s::r) (h0:s.state=0):ow id b [⟨1,id,s.id,0,[]⟩] ⟨b.last,{s with state:=1}::r⟩
 |fin (b:cd) (s:bW) (k:Int) (hs:b.aA.find? (fun x=>decide (x.id=s.id))=some s) (hk:(k=2/\s.state=1)\/(k=3/\s.state=0)):ow id b [⟨k,id,s.id,0,[]⟩] ⟨b.last,ej s.id b.aA⟩
 |exp (b:cd) (s:bW) (r:List bW) (hb:b.aA=s::r) (h1:s.state=1):ow id b [⟨4,id,s.id,0,[]⟩] ⟨b.last,r⟩
 |cH (b:cd) (s:bW) (r:List bW) (a:Int) (hb:b.aA=s::r) (h1:s.state=1):ow id b [] ⟨b.last,{s with cH:=a}::r⟩
 |opens (b:cd) (i:Int) (need:List Int) (hi:b.last<i):ow id b [⟨0,id,i,0,need⟩] ⟨i,b.aA++[⟨i,need,0,0⟩]⟩
 |gone (b:cd) (p:Int):ow id b ((b.aA.filter (bZ p)).map fun s=>⟨5,id,s.id,0,[]⟩) ⟨b.last,b.aA.filter fun s=>!bZ p s⟩
inductive kV (id:Int):cd->List Ev->cd->Prop
 |nil (b:cd):kV id b [] b
 |step {b b' b'':cd} {es es':List Ev}:kV id b es b'->ow id b' es' b''->kV id b (es++es') b''
theorem kV.trans{id:Int}{b a c:cd}{d:List Ev}(h:kV id b es a)(e:kV id a d c):kV id b (es++d) c:=by
 induction e with
 |nil=>grind
 |step i f g=>rw[<-aiu];exact .step g f
def kV.one{id:Int}{b a:cd}(h:ow id b es a):kV id b es a:=by have:=kV.step (.nil b) h;exact this
def BW(w w':Wk):Prop:=w'.n.dr.ai.id=w.n.dr.ai.id/\∃es,w'.seen=w.seen++es/\kV w.n.dr.ai.id w.n.book es w'.n.book
theorem BW.refl(w:Wk):BW w w:=⟨rfl,[],by simp,.nil _⟩
theorem BW.trans{w a b:Wk}(h:BW w a)(e:BW a b):BW w b:=by have⟨f,es,j,g⟩:=h;have⟨c,i,k,d⟩:=e;rw[f]at d c;exact⟨c,es++i,by grind,g.trans d⟩
def BW.same{w':Wk}(a:w'.n.dr.ai.id=w.n.dr.ai.id)(b:w'.seen=w.seen)(c:w'.n.book=w.n.book):BW w w':=⟨a,[],by simp[b],by rw[c];exact .nil _⟩
theorem BW.amR(w:Wk){k:Int}(a:6<=k)(p:Int):BW w (w.amR k p):=⟨rfl,[⟨k,w.n.dr.ai.id,0,p,[]⟩],rfl,.one (.quiet _ _ fun e b=>by grind)⟩
def BW.one{w:Wk}{a:cd}{es:List Ev}(h:ow w.n.dr.ai.id w.n.book es a):BW w ⟨{w.n with book:=a},w.out,w.seen++es,w.e⟩:=⟨rfl,es,rfl,.one h⟩
theorem IH(h:dC w.n.dr=true):BW w w.dg:=by
 unfold Wk.dg;split
 .refine .same ?_ rfl rfl;show(kH w.n.dr).1.ai.id=_;grind [kH]
 .exact .refl w
theorem acJ(l:List cj):∀w:Wk,BW w (l.foldl Wk.iz w):=by
 induction l with
 |nil=>grind [BW.refl]
 |cons k r a=>exact fun w=>((BW.same (w':=(w.oq ⟨k.peer,k.aP,0,false,false,true,false,true⟩).send ⟨k.peer,k.aP,0,false,false,true,false,true⟩ 6) rfl rfl rfl).trans (.amR _ (by omega) k.peer)).trans (a _)
def acM(w:Wk):BW w (dA w):=by
 unfold dA;split
 .exact (acJ w.n.asked w).trans (.same rfl rfl rfl)
 .exact .refl w
def abV(w:Wk):BW w (dq w):=by
 unfold dq;split
 .split
  .exact .same rfl rfl rfl
  .exact .refl w
 .exact .refl w
def ael(w:Wk):BW w (dG w):=by
 unfold dG;split
 .exact .same rfl rfl rfl
 .exact .refl w
def ahe(h:dd w.n)(a:¬(w.n.dr.aQ=0/\jB w.n.book=true)):BW w (fF w):=by have r:=Pq (told:=w.n.told) h.dr a;exact .same r.id rfl rfl
theorem afh(h:dd w.n):BW w (fe w):=by
 unfold fe waits;cases b:w.n.book.aA with
 |nil=>exact .refl w
 |cons s r=>
  simp only;by_cases a:s.state=0
  .rw[if_pos a];simp only;split
   .have c:(kD w.n.book).1=⟨w.n.book.last,{s with state:=1}::r⟩:=by unfold kD;rw[if_neg (by simp[h.bk]),b];simp only;rw[if_neg (by rw[a];decide)]
    rw[c];exact .one (.Mv _ s r b a)
   .exact .refl w
  grind [BW.refl]
def ZM(w:Wk):BW w (iN w):=by
 unfold iN;split
 .exact .same rfl rfl rfl
 .exact .refl w
theorem OA(h:dd w.n):BW w w.iw:=by
 have⟨b,d,e,f⟩:=GZ h;have⟨c,g,i,j⟩:=Eu b;have⟨c1,c2,c3,c4⟩:=IL c;have a:¬((dG (dq (dA w))).n.dr.aQ=0/\jB (dG (dq (dA w))).n.book=true):=by grind
 have⟨d1,d2,d3⟩:=IC c1 a;exact(((((acM w).trans (abV _)).trans (ael _)).trans (ahe c1 a)).trans (afh d1)).trans ((ZM _).trans (.same rfl rfl rfl))
theorem Ww{u:Wk}(h:Reach w u)(a:dd w.n):BW w u/\dd u.n:=by
 induction h with
 |refl=>grind [BW.refl]
 |step h b=>grind [BW.trans,OA,zD]
def RO{v:Wk}(h:jt w v)(a:dd w.n):BW w v:=by obtain⟨u,b,e,_,rfl⟩:=h;have⟨c,d⟩:=Ww b a;exact c.trans (OA d)
theorem ww(b:w.e=0)(a:cd):w.eS a 0=w.put {w.n with book:=a}:=by grind [Wk.eS,Wk.need]
theorem OW(c:dC w.n.dr=true)(d:w.e=0){id a k:Int}(i:(k=2/\a=1)\/(k=3/\a=0))(b:(de w.n.book id a).2=0):BW w ((w.eS (de w.n.book id a).1 (de w.n.book id a).2).dJ k id)/\BW w ((w.eS (de w.n.book id a).1 (de w.n.book id a).2).dJ k id).dg:=by
 have⟨j,⟨s,l,m⟩,f⟩:=FC b;have h:s.id=id:=by grind
 rw[f,b,ww d];have g:BW w ((w.put {w.n with book:=⟨w.n.book.last,ej id w.n.book.aA⟩}).dJ k id):=by have:=BW.one (w:=w) (.fin w.n.book s k (by grind) (by omega));rw[h]at this;exact this
 exact⟨g,g.trans (IH c)⟩
theorem Xb(w:Wk)(p:Int)(a:amN w.n.book=true):BW w ((w.put {w.n with book:=(iS w.n.book p).1}).mT 5 (iS w.n.book p).2.1):=by
 have b:iS w.n.book p=(⟨w.n.book.last,w.n.book.aA.filter fun s=>!bZ p s⟩,(w.n.book.aA.filter (bZ p)).map (·.id),0):=by unfold iS;rw[if_neg (by simp[a])]
 rw[b];have:=BW.one (w:=w) (.gone w.n.book p);have e:(w.put {w.n with book:=⟨w.n.book.last,w.n.book.aA.filter fun s=>!bZ p s⟩}).mT 5 ((w.n.book.aA.filter (bZ p)).map (·.id))=⟨{w.n with book:=⟨w.n.book.last,w.n.book.aA.filter fun s=>!bZ p s⟩},w.out,w.seen++(w.n.book.aA.filter (bZ p)).map (fun s=>⟨5,w.n.dr.ai.id,s.id,0,[]⟩),w.e⟩:=by unfold Wk.mT Wk.put;simp only[ajc];rfl
 grind
theorem Lr(b:dd w.n)(p:Int):BW w (w.shut p):=by
 have⟨w1,a⟩:=DD ((w.put (w.n.eK (setAt (cP p) (fun x=>{x with state:=2}) w.n.af))).amR 7 p);have e:BW w w1:=by rw[<-a];exact(BW.same (w':=w.put (w.n.eK (setAt (cP p) (fun x=>{x with state:=2}) w.n.af))) rfl rfl rfl).trans (.amR _ (by omega) p)
 have f:amN w1.n.book=true:=by rw[<-a];exact b.bk
 have c:dC w1.n.dr=true:=by rw[<-a];exact Jc b.dr fun x g=>⟨rfl,fun i h=>by grind [cS]⟩
 unfold Wk.shut;simp only[a];have d:∀w2:Wk,BW w1 w2->w2.n.book=w1.n.book->BW w ((w2.put {w2.n with book:=(iS w1.n.book p).1}).mT 5 (iS w1.n.book p).2.1):=fun w2 j k=>by grind [BW.trans,Xb]
 cases l:w1.n.book.aA with
 |nil=>grind [BW.refl]
 |cons s r=>
  simp only;split
  .refine d _ (IH c) ?_;unfold Wk.dg;split<;>rfl
  grind [BW.refl]
theorem KK(h:dm n=true):(bg n).e=0:=by grind [bg]
theorem Zj(b:(cO n a).e=0):BW (bg n) (cO n a):=by
 have hn:dm n=true:=by
  cases hn:dm n with
  |true=>rfl
  |false=>
   have c:(bg n).e=180:=by unfold bg;rw[hn];rfl
   unfold cO at b;rw[hn]at b;simp only[aes,if_false]at b;repeat' split at b
   all_goals rw[c]at b;cases b
 have i:=KK hn;have m:dd n:=(JE hn).1;have C:∀e:Int,e≠0->((bg n).fail e).e≠0:=fun e h=>h;unfold cO at b|-;rw[hn]at b|-;simp only[if_true]at b|-;split at b
 .rename_i k;rw[if_pos k];unfold Wk.opens at b|-;split at b
  .rename_i hc;exact absurd b hc
  rename_i hc;rw[if_neg hc];split at b
  .cases b
  rename_i o;rw[if_neg o];have l:(ia (bg n).n.book a.id a.need).2=0:=akp fun h=>hc h;have⟨t,u,D⟩:=MY l;rw[u];refine BW.one (w:=bg n) (.opens _ _ _ ?_);unfold ia at l;rw[if_neg (by simp[t])]at l;split at l
  .cases l
  .rename_i h;exact Int.not_le.1 h
 rename_i v;rw[if_neg v];split at b
 .rename_i k;rw[if_pos k];unfold Wk.release at b|-;split at b
  case isFalse hc=>exact absurd b hc
  rename_i hc;rw[if_pos hc];exact(OW (w:=bg n) m.dr i (.inl ⟨rfl,rfl⟩) hc).2
 rename_i x;rw[if_neg x];split at b
 .rename_i k;rw[if_pos k];unfold Wk.cancel at b|-;split at b
  case isFalse hc=>exact absurd b hc
  rename_i hc;rw[if_pos hc];have g:=OW (w:=bg n) m.dr i (.inr ⟨rfl,rfl⟩) hc;split
  .exact g.2
  .exact g.1
 rename_i y;rw[if_neg y];split at b
 .rename_i k;rw[if_pos k];unfold Wk.tick at b|-;split at b
  case isFalse hc=>exact absurd b hc
  rename_i hc;rw[if_pos hc];clear hc b;have j:=m.bk;show BW (bg n) (if(dN n.book a.hold).2.1≠0 then(((bg n).eS (dN n.book a.hold).1 0).dJ 4 (dN n.book a.hold).2.1).dg else(bg n).eS (dN n.book a.hold).1 0);cases d:n.book.aA with
  |nil=>
   have f:dN n.book a.hold=(n.book,0,0):=by unfold dN;rw[if_neg (by simp[j]),d]
   rw[f,if_neg (by simp),ww i];exact .same rfl rfl rfl
  |cons s r=>
   by_cases c:s.state=1
   case neg=>
    have f:dN n.book a.hold=(n.book,0,0):=by unfold dN;rw[if_neg (by simp[j]),d];simp only;rw[if_neg c]
    rw[f,if_neg (by simp),ww i];exact .same rfl rfl rfl
   by_cases p:max s.cH (min s.cH (4611686018427387904-1)+1)<a.hold
   .have f:dN n.book a.hold=(⟨n.book.last,{s with cH:=max s.cH (min s.cH (4611686018427387904-1)+1)}::r⟩,0,0):=by unfold dN;rw[if_neg (by simp[j]),d];simp only;rw[if_pos c,if_pos p]
    rw[f,if_neg (by simp),ww i];refine⟨rfl,[],by simp[Wk.put],.one (.cH n.book s r _ d c)⟩
   .have f:dN n.book a.hold=(⟨n.book.last,r⟩,s.id,0):=by unfold dN;rw[if_neg (by simp[j]),d];simp only;rw[if_pos c,if_neg p]
    have z:s.id≠0:=by simp only[amN,abR]at j;have q:=j.2;rw[d]at q;simp only[dS,dw,abR,afa,aiX,decide_eq_false_iff_not]at q;omega
    rw[f,if_pos z,ww i];exact(BW.one (w:=bg n) (.exp n.book s r d c)).trans (IH (w:=((bg n).put {n with book:=⟨n.book.last,r⟩}).dJ 4 s.id) m.dr)
 rename_i A;rw[if_neg A];split at b
 .rename_i k;rw[if_pos k];split at b
  .cases b
  rename_i hc;rw[if_neg hc];split at b
  .cases b
  rename_i o;rw[if_neg o];split at b
  case isFalse hc=>cases b
  rename_i B;rw[if_pos B];exact .same rfl rfl rfl
 grind [Lr,bg]
theorem XY(a:(fK n p m).e=0):BW (bg n) (fK n p m):=by
 unfold fK at a|-;split at a
 case isFalse hc=>omega
 rename_i hc;rw[if_pos hc];have hn:=vD hc;have d:=KK hn;have s:dd n:=(JE hn).1
 have g:iU n m=bg n:=by
  unfold iU at hc|-;rw[if_pos hn]at hc|-;split at hc
  .grind
  .cases hc
 rw[g]at a|-;unfold lr at a|-;split at a
 .rename_i k;rw[if_pos k];cases h:n.dr.ai.af.find? (cP p)with
  |none=>exact .refl _
  |some x=>
   rw[h]at a;simp only at a|-;split at a
   .rename_i i;rw[if_pos i];unfold Wk.sC at a|-;by_cases b:(amT (bg n).n.dr p m).2=0
    .have c:(bg n).need (decide ((amT (bg n).n.dr p m).2=0)) 187=bg n:=by unfold Wk.need;simp[b]
     rw[c,if_pos d];have⟨f,j,_⟩:=RY b;refine .same ?_ rfl rfl;show(amT (bg n).n.dr p m).1.ai.id=_;rw[j]
    .exfalso
     have c:(bg n).need (decide ((amT (bg n).n.dr p m).2=0)) 187=(bg n).fail 187:=by unfold Wk.need Wk.fail;simp[b,d]
     rw[c,if_neg (by simp[Wk.fail])]at a;cases a
   grind [BW.refl]
 rename_i l;rw[if_neg l];split at a
 .rename_i k;rw[if_pos k];split at a
  case isFalse hc=>cases a
  rename_i hc;rw[if_pos hc];exact .same rfl rfl rfl
 rename_i o;rw[if_neg o];split at a
 .rename_i k;rw[if_pos k];split at a
  case isFalse hc=>cases a
  rename_i hc;rw[if_pos hc];unfold rN;exact(BW.same (w':=(bg n).put _) rfl rfl rfl).trans (.amR _ (by omega) p)
 rename_i q;rw[if_neg q];split at a
 .rename_i k;rw[if_pos k];split at a
  case isFalse hc=>cases a
  grind [Lr,bg]
 rename_i r;rw[if_neg r];split at a
 .rename_i k;rw[if_pos k];split at a
  case isFalse hc=>cases a
  rename_i hc;rw[if_pos hc];exact(BW.same (w':=(bg n).drop p) rfl rfl rfl).trans (.amR _ (by omega) p)
 .cases a
def afW(l:List cj):∀w:Wk,(l.foldl Wk.iz w).e=w.e:=by
 induction l with
 |nil=>simp
 |cons k r a=>exact fun w=>a _
theorem O6(w:Wk):w.iw.e=w.e:=by
 have hA:(dA w).e=w.e:=by
  unfold dA;split
  .exact afW w.n.asked w
  .rfl
 have c:∀w,(dq w).e=w.e:=fun w=>by
  unfold dq;split
  .split<;>rfl
  .rfl
 have d:∀w,(dG w).e=w.e:=fun w=>by unfold dG;split<;>rfl
 have a:∀w,(fe w).e=w.e:=fun w=>by
  unfold fe;split
  .split<;>rfl
  .rfl
 have b:∀w,(iN w).e=w.e:=fun w=>by unfold iN;split<;>rfl
 show(iN (fe (fF (dG (dq (dA w)))))).e=w.e;rw[b,a];show(dG (dq (dA w))).e=w.e;grind
theorem SC{v:Wk}(h:jt w v):w.e=0/\v.e=0:=by
 obtain⟨u,b,c,_,rfl⟩:=h
 have d:∀ {u:Wk},Reach w u->u.e=w.e:=fun h=>by
  induction h with
  |refl=>rfl
  |step h a=>rw[O6];exact a
 grind [eY.e,O6]
theorem Xa(b:(cO n a).e=0):dm n=true:=by grind [bg,cO]
theorem X3(h:(fK n p m).e=0):dm n=true:=by grind [fK,vD]
def Ow{v:Wk}(h:jt (cO n a) v):dm n=true/\BW (bg n) v:=by have b:=(SC h).1;have hn:=Xa b;exact⟨hn,(Zj b).trans (RO h (Sd hn b).i)⟩
def PZ{v:Wk}(h:jt (fK n p m) v):dm n=true/\BW (bg n) v:=by have a:=(SC h).1;have hn:=X3 a;exact⟨hn,(XY a).trans (RO h (PI hn a).i)⟩
end
section
variable{C:List Ev->Ev->Prop}{E es:List Ev}{b b':cd}
def kg(C:List Ev->Ev->Prop)(E:List Ev):Prop:= ∀P e Q,E=P++e::Q->C P e
def kg.nil(C:List Ev->Ev->Prop):kg C []:=fun P e Q h=>by simp at h
theorem kg.L2(h:kg C E)(f:∀P e Q,es=P++e::Q->C (E++P) e):kg C (E++es):=by
 intro P e Q d;rcases List.append_eq_append_iff.1 d with⟨a,c,b⟩|⟨a,c,b⟩
 .grind
 .cases a with
  |nil=>grind
  |cons x a=>simp only[ai7,aiA]at b;obtain⟨rfl,rfl⟩:=b;exact h P e a c
theorem kg.one{e:Ev}(h:kg C E)(c:C E e):kg C (E++[e]):=h.L2 fun P x Q b=>by
 cases P with
 |nil=>grind
 |cons a P=>simp at b
theorem kg.pre(h:kg C (E++es)):kg C E:=fun P e Q a=>h P e (Q++es) (by grind)
def mC:List Ev->Int->Int
 |[],g=>g
 |e::r,g=>mC r (if e.kind=1 then e.id else g)
def CG(P:List Ev)(e:Ev):Prop:=e.kind=1->mC P 0<e.id
theorem kg.quiet(h:kg CG E)(a:∀e∈es,e.kind≠1):kg CG (E++es):=h.L2 fun P e Q c b=>absurd b (a e (by grind))
structure GI(E:List Ev)(b:cd):Prop where
 o:kg CG E
 p:b.aA.Pairwise fun s t=>s.id<t.id
 l:∀s∈b.aA,s.id<=b.last
 w:∀s∈b.aA,s.state=0->mC E 0<s.id
 g:mC E 0<=b.last
def qv(k:Int->Bool)(i:Int)(E:List Ev):Nat:=E.countP fun e=>k e.kind&&decide (e.id=i)
def Br(k:Int):Bool:=decide (k=0)
def GK(k:Int):Bool:=decide (k=1)
def AT(k:Int):Bool:=decide (2<=k)&&decide (k<=5)
def CA(P:List Ev)(e:Ev):Prop:=1<=e.kind->e.kind<=5->qv Br e.id P=1/\qv AT e.id P=0/\qv GK e.id P=(if e.kind=2\/e.kind=4 then 1 else 0)
structure AI(E:List Ev)(b:cd):Prop where
 o:kg CA E
 p:b.aA.Pairwise fun s t=>s.id<t.id
 l:∀s∈b.aA,s.id<=b.last
 s:∀s∈b.aA,qv Br s.id E=1/\qv AT s.id E=0/\qv GK s.id E=(if s.state=1 then 1 else 0)
 z:∀i,b.last<i->qv Br i E=0/\qv AT i E=0/\qv GK i E=0
theorem aei{id:Int}(h:ow id b es b'):∀e∈es,e.node=id:=by
 cases h with
 |quiet _ a=>grind
 |gone p=>grind
 |cH=>simp
 |_=>simp
theorem Sc{id:Int}(h:kV id b es b'):∀e∈es,e.node=id:=by
 induction h with
 |nil=>simp
 |step a c d=>grind [aei]
end
section
variable{P:Pp}{T:Nat}{K:Cl}{e:Int}
def wG:x9:=⟨fun _ _ _ h=>(Ow h).2.1,fun _ _ _ _ h=>(PZ h).2.1⟩
theorem MM{s:Bool}{k:Int}{b:bx}(h:P.look s k=some b):b∈P.q (!s):=by grind [Pp.look,dV]
theorem Nk(h:dO P)(s:Bool)(k:Int):dO (P.je s k).1/\(P.je s k).1.dR=P.dR:=by
 unfold Pp.je;split
 .grind
 .exact ⟨h.cut s k,rfl⟩
theorem PO(h:dO P)(s:Bool)(k:Int):dO (P.double s k).1/\(P.double s k).1.dR=P.dR:=by
 unfold Pp.double;split
 .grind
 .rename_i b c;refine⟨DP h _ ?_ ?_,rfl⟩
  .unfold nP;have:=h.q (!s);grind
  .unfold nP;split
   .intro t d;rcases ain.1 d with a|a
    .exact h.b _ t a
    .simp at a;rw[a];exact h.b _ b (MM c)
   .exact h.b _
def acN(s:bx)(k:Int):(xQ s k).length=s.length:=by simp[xQ]
theorem Mw(h:dO P)(s:Bool)(k c:Int):dO (P.flip s k c).1/\(P.flip s k c).1.dR=P.dR:=by
 unfold Pp.flip;split
 .grind
 .rename_i b d;split
  .grind
  .refine ⟨DP h _ (by simpa using h.q (!s)) fun t e=>?_,rfl⟩;rcases ak4 e with a|a
   .exact h.b _ t a
   .rw[a,acN];exact h.b _ b (MM d)
def EW(h:dL T K)(a b:Nat)(hp:dO P)(c:P.dR=(K.pipe a b).dR):dL T (K.eR a b P):=Ao h a b hp fun s=>by rw[c];exact h.g _ _ s
def JL{T:Nat}(a:Nat):∀(l:List Nat) (K:Cl),dL T K->dL T (kY a l K)/\(kY a l K).nodes=K.nodes
 |[],K,h=>⟨h,rfl⟩
 |b::l,K,h=>JL a l _ (EW h a b (O7 (h.i.pipe a b) (cT a b)) rfl)
theorem Jy{T:Nat}(a:Nat):∀(l:List Nat) (r:Cl×Nat),dL T r.1->dL T (iq a l r).1/\(iq a l r).1.nodes=r.1.nodes
 |[],r,h=>⟨h,rfl⟩
 |b::l,r,h=>Jy a l (r.1.vT a b,_) (EW h a b (BS (h.i.pipe a b) (cT a b)).1 rfl)
theorem vR(h:dL T K)(a b:Int)(f:Pp->Bool->Pp×Bool)(c:∀P s,dO P->dO (f P s).1/\(f P s).1.dR=P.dR):dL T (K.qY a b f).1/\(K.qY a b f).1.nodes=K.nodes:=by
 unfold Cl.qY;split
 .have ⟨d,e⟩:=c (K.pipe b.toNat a.toNat) (cT b.toNat a.toNat) (h.i.pipe _ _);exact⟨EW h _ _ d e,rfl⟩
 grind
theorem TC{b:Cl}(h:dL T K)(t:T<=800000000){x y k:Int}{l:List Ev}(a:K.Comes x y k b l e):dL (T+9001) b/\b.nodes.length=K.nodes.length:=by
 unfold Cl.Comes at a;split at a
 .grind [dL.mono]
 rename_i w
 obtain⟨j,m⟩:∃j,K.look x y k=some j:=by
  cases z:K.look x y k with
  |none=>grind
  |some s=>simp
 obtain⟨u,v,rfl,rfl,A⟩:=qO (vp h.i m).1;have o:v<K.nodes.length:=by have:=(vp h.i m).1.2.1.2;omega
 have n:dL (T+1) (K.eR v u ((K.pipe v u).jk (cT v u) k).1):=Ao (h.mono (by omega)) v u (Dc (h.i.pipe v u) _ _) fun s=>ai5 (HC _ _ _ _) (by have:=h.g (min v u) (max v u) s;show(K.pp _ _).dR s+1<=_;omega);simp only[ais]at a;split at a
 .obtain ⟨rfl,_⟩:=a;have⟨c,f⟩:=qT n v;exact⟨c.mono (by omega),by rw[f];rfl⟩
 .obtain ⟨d,p,rfl⟩:=a;have⟨c,f⟩:=CP wG n (by omega) (show v< (K.eR v u _).nodes.length from o) p;have⟨q,r⟩:=qT c v;exact⟨q.mono (by omega),by rw[r,f];rfl⟩
theorem agW{d:Cl}(h:dL T K)(f:T<=800000000){x:LA}{s:List Ev}(a:K.rE x d s e):dL (T+9001) d/\d.nodes.length=K.nodes.length:=by
 unfold Cl.rE at a;split at a
 .have ⟨b,c⟩:=Lm wG h (by omega) a;exact⟨b.mono (by omega),c⟩
 split at a
 .unfold Cl.tP at a;split at a
  .grind [dL.mono]
  .have ⟨b,c⟩:=JL x.A.toNat (others K.nodes.length x.A.toNat) K h;have⟨g,i⟩:=Lm wG b (by omega) a;grind [dL.mono]
 split at a
 .grind [Cl.goes,dL.mono,wY,qT,Jy]
 split at a
 .exact TC h f a
 split at a
 .obtain ⟨rfl,_⟩:=a;have⟨b,c⟩:=vR h x.A x.B (fun p s=>p.je s x.N) fun P s hp=>Nk hp s _;exact⟨b.mono (by omega),congrArg _ c⟩
 split at a
 .obtain ⟨rfl,_⟩:=a;have⟨b,c⟩:=vR h x.A x.B (fun p s=>p.double s x.N) fun P s hp=>PO hp s _;exact⟨b.mono (by omega),congrArg _ c⟩
 .obtain ⟨rfl,_⟩:=a;have⟨b,c⟩:=vR h x.A x.B (fun p s=>p.flip s x.N x.X) fun P s hp=>Mw hp s _ _;exact⟨b.mono (by omega),congrArg _ c⟩
end
section
structure mZ where
 win:Int
 fy:Int
 wait:Int
 room:Int
 hold:Int
def fU(r:mZ):List ab:=[I r.win,I r.fy,I r.wait,I r.room,I r.hold]
def bQ(g:Gr):List ab:=[I g.n,.aj (g.bw.map du)]
def zx(g:Gr):ES (bQ g)=true:=by simp[bQ,ES,bC,jU]
def TW(r:mZ):ES (fU r)=true:=rfl
def Ng(g:Gr)(r:mZ)(K:Cl):Prop:= ∀H c, ∃b d a,aO tz ay 16 [.agg (bQ g),.agg (fU r)] H=some (.aM [au b,aa 0],a)/\bJ a d b K/\aH (fun _=>False) c d H a
def UK(g:Gr)(h:g.bw.length<=400):aS tz ay 1 17 [.agg (bQ g)]=some (.agg (bQ g),[]):=by
 refine be func17 rfl ?_;have c:g.bw.length<=maxLen:=by unfold maxLen;omega
 have d:g.bw.length*16<=140737488355328:=by omega
 have e:(g.bw=[]/\0<g.bw.length)=False:=eq_false fun⟨a,b⟩=>by rw[a]at b;simp at b
 have f:(∀a:Edge,a∈g.bw->(du a).length=2)=True:=eq_true fun _ _=>rfl;simp[f17,bQ,c,d,e,f]
def c17(H:List Ob)(g:Gr)(a:g.bw.length<=400):aO tz ay 17 [.agg (bQ g)] H=some (.agg (bQ g),H):=by
 have b:=UK g a;have c:df H (.agg (bQ g))=some (.agg (bQ g),[]):=by simp only[df,mR (zx g)];rfl
 rw[aD,if_neg (by simp[eO])];simp only[dy,c,kU,show tz.md 17=1 from rfl,aeU];rw[b,jP];simp[ei,eN,dZ,bQ]
def adY:ans aaG 31=true:=by kernel_rfl
theorem bJ.ob{H:List Ob}{c:Nat->aU}{b:Nat}{K:Cl}(h:bJ H c b K):∃r,H[b]?=some (ah 8 r):=by have⟨q,mp,mt,a,d,h⟩:=h;exact⟨_,h.hb⟩
def wz(K:Cl)(x:Int)(n:Nat):List Nat:=(aiZ n).map fun(i:Nat)=>(K.jD x (i:Int)).length
def aa4(K:Cl)(x:Int)(n:Nat):((wz K x n).map fun n:Nat=>aC n)=(K.lN x n).map aC:=by simp[wz,Cl.lN]
def zI(x:LA):LA:=⟨min (max x.K 0) 6,x.A,x.B,x.N,x.X,x.d⟩
def xE(K a:Cl)(x:LA)(n:Nat)(l:List jj):List jj:=l++wB a x.A (if x.K=2 then wz K x.A n else [])
abbrev GJ:aU->Prop:=fun k=>Gx k\/k= .cl 10
abbrev GA:aU->Prop:=fun k=>Gx k\/k= .cl 9\/k= .cl 10
def E9(g:Gr)(R:List (List ab))(gc:Nat)(caps:List ab)(b j:Nat)(q:ab)(h:Nat):Env:=[(4,.c (.aJ [bQ g] 0 0)),(2,bh R),(3,.c (.bF gc caps)),(11,au b),(14,aa j),(13,.c q),(15,au h)]
section
variable{σ:Type}{g:Gr}{r:mZ}{acts:List LA}{gc:Nat}{caps:List ab}{K0:Cl}
 {J:σ->List Ob->(Nat->aU)->Prop} {Inv:Nat->Cl->List jj->σ->Prop}
def c9(hN:Ng g r K0)(F:dL 0 K0)(hn:K0.nodes.length=g.n.toNat)(b0:0<=g.n)(bt:g.bw.length<=400)(ha:acts.length<=100)(bu:∀x∈acts,x.d.need.length<=20)
  (P:∀s H D c q,J s H c->aH G9 c q H D->J s D q)
  (hS:∀j K l s x w ev af le b z H c,j<100->Inv j K l s->dL 1000000 K->x∈acts.map zI-> ¬(x.K=3/\rL K l x=true)->K.rE x w ev af->lY le ev->bJ H c b w->J s H c->
   ∃s' q D,aO tz (bB tz (Go.Nx.ev tz)) gc ([au b,.agg (cM x),.c le,aa af,aR z]++caps.map .c) H=some (aR true,D)/\bJ D q b w/\aH GJ c q H D/\J s' D q/\Inv (j+1) w (xE K w x g.n.toNat l) s')
  (s0:σ) (h0:Inv 0 K0 [] s0) (H:List Ob) (c:Nat->aU) (a4:J s0 H c):
  ∃p z s q D,aO tz (bB tz (Go.Nx.ev tz)) 9 [.agg (bQ g),.agg (fU r),bh (acts.map cM),.c (.bF gc caps)] H=some (.aM [.c p,aR true,aR z],D)/\J s D q/\(∃j K l,j<=100/\Inv j K l s)/\aH GA c q H D:=by
 obtain⟨rr,D,h1,p,z,s,q,rfl,Y⟩:=cG (C:=tz) (f:=9) (args:=[.agg (bQ g),.agg (fU r),bh (acts.map cM),.c (.bF gc caps)]) (H:=H) (fun r D=>∃p z s q,r= .aM [.c p,aR true,aR z]/\J s D q/\(∃j K l,j<=100/\Inv j K l s)/\aH GA c q H D) func9 rfl (by
  simp only[f9,cr]
  have⟨R,hR⟩:=DD (acts.map cM)
  have a6:R.length=acts.length:=by rw[<-hR];simp
  have bv:∀j (hj:j<acts.length),R[j]?=some (cM acts[j]):=fun j hj=>by rw[<-hR,adf,abM hj];rfl
  rw[hR]
  refine bp [(4,.c (.aJ [bQ g] 0 0)),(5,.c (.aJ [fU r] 0 0)),(2,bh R),(3,.c (.bF gc caps))] (fun G=>G=H) ?_ ?_
  .simp[bQ,fU]
  rintro E G⟨d,a5,e,k,_⟩M
  obtain rfl:H=G:=M.symm
  have⟨b,c1,y,a7,k1,s1⟩:=hN H c
  have a8:=c17 H g bt
  have eg:=zx g
  refine bp [(4,.c (.aJ [bQ g] 0 0)),(2,bh R),(3,.c (.bF gc caps)),(11,au b),(12,aa 0)] (fun G=>G=y) ?_ ?_
  .simp only[bQ,fU]at a7 a8 d a5|-
   simp[-aD,d,a5,e,k,a7,a8]
  rintro E G⟨d,e,k,n,bx,_⟩M
  obtain rfl:y=G:=M.symm
  refine bp [(4,.c (.aJ [bQ g] 0 0)),(2,bh R),(3,.c (.bF gc caps)),(11,au b)] (fun G=>G=y) ?_ ?_
  .have ⟨rb,hb⟩:=k1.ob
   simp[-getElem?_pos,d,e,k,n,bx,adY,hb,ll]
  rintro E G⟨d,e,k,n,_⟩M
  obtain rfl:y=G:=M.symm
  have aw:aH (fun _=>False) c1 (ext c1 y.length (.cl 9)) y (y++[ah 3 []]):=aH.of _ (by simp) fun m hm _=>abE hm
  refine bp [(4,.c (.aJ [bQ g] 0 0)),(2,bh R),(3,.c (.bF gc caps)),(11,au b),(13,ER y.length 0 0 0)] (fun G=>G=y++[ah 3 []]) ?_ ?_
  .simp[d,e,k,n]
  rintro E G⟨d,e,k,n,o,_⟩M
  have k2:bJ G (ext c1 y.length (.cl 9)) b K0:=by rw[M];exact k1.aK aw fun _ h=>h.elim
  have r2:iH G (ext c1 y.length (.cl 9)) (.cl 9) 3 (.sl y.length 0 0 0) (([]:List jj).map eW):=⟨y.length,0,rfl,by rw[M];simp,jr (ad3 _)⟩
  have s2:aH GA c (ext c1 y.length (.cl 9)) H G:=by rw[M];exact(s1.trans aw).mono fun _ h=>h.elim
  have j2:J s0 G (ext c1 y.length (.cl 9)):=by rw[M];exact P _ _ _ _ _ a4 ((s1.trans aw).mono fun _ h=>h.elim)
  clear M aw
  rw[iM]
  refine Ends.sq ?_
  refine bp [(4,.c (.aJ [bQ g] 0 0)),(2,bh R),(3,.c (.bF gc caps)),(11,au b),(14,aa (0:Nat)),(13,ER y.length 0 0 0)] (fun ap=>ap=G) ?_ ?_
  .simp[d,e,k,n,o]
  rintro E G2 a aT
  obtain rfl:G=G2:=aT.symm
  rw[eC]
  refine Ends.bl (amV (fun p:Nat×ab=>[(4,.c (.aJ [bQ g] 0 0)),(2,bh R),(3,.c (.bF gc caps)),(11,au b),(14,aa p.1),(13,.c p.2)]) (fun p G=>p.1<=acts.length/\∃K l s q,Inv p.1 K l s/\dL (9001*p.1) K/\K.nodes.length=g.n.toNat/\l.length<=1000000*p.1/\iH G q (.cl 9) 3 p.2 (l.map eW)/\bJ G q b K/\J s G q/\aH GA c q H G) [] (fun p=>acts.length-p.1) _ [4,2,3,11,14,13] (fun _=>rfl) ?_ (0,.sl y.length 0 0 0) _ a ⟨by omega,K0,[],s0,_,h0,by simpa using F,hn,by simp,r2,k2,j2,s2⟩ rfl)
  clear a r2 k2 j2 s2 d e k n o F hn h0 a4
  rintro⟨j,al⟩⟨E,G,ds⟩a⟨g2,K,l,s,c2,hI,F,hn,hl,r2,k2,j2,s2⟩g6
  simp only at a g2 F hl r2 g6
  subst g6
  simp at a
  have⟨d,e,k,n,u,o⟩:=a
  by_cases ax:j<acts.length
  case neg=>
   simp[-getElem?_pos,d,e,k,n,u,o,ax,a6]
   exact⟨s,c2,j2,⟨j,by omega,K,l,hI⟩,s2⟩
  refine bp [(4,.c (.aJ [bQ g] 0 0)),(2,bh R),(3,.c (.bF gc caps)),(11,au b),(14,aa j),(13,.c al)] (fun ap=>ap=G) ?_ ?_
  .simp[d,e,k,n,u,o,ax,a6]
  rintro E G2 a aT
  obtain rfl:G=G2:=aT.symm
  simp at a
  have⟨d,e,k,n,u,o⟩:=a
  rw[iM]
  refine Ends.sq ?_
  rw[eC]
  refine Ends.bl ?_
  have⟨x,hx⟩:=DD acts[j]
  have a9:x∈acts:=by rw[<-hx];exact aix ax
  have bz:=bu x a9
  have aV:=bv j ax
  rw[hx]at aV
  have bA:j<R.length:=by omega
  have Z:aH (fun _=>False) c2 (ext c2 G.length .none) G (G++[ah 10 [cM (zI x)]]):=aH.of _ (by simp) fun m hm _=>abE hm
  rw[fQ]
  have⟨X,hX⟩:=DD (zI x)
  have bC:X∈acts.map zI:=by rw[<-hX];exact aks a9
  have b1:X.d.need.length<=20:=by rw[<-hX];exact bz
  have bD:[I (min (max x.K 0) 6),I x.A,I x.B,I x.N,I x.X,I x.d.kind,I x.d.id,I x.d.peer,I x.d.hold,aG x.d.need]=cM X:=by rw[<-hX];rfl
  have⟨h,hh⟩:=DD G.length
  rw[hX,hh]at Z
  have L:(G++[Ob.live 0 10 [cM X]])[h]?=some (ah 10 [cM X]):=by rw[<-hh];simp
  have ay:ext c2 h .none h= .none:=jr (ad3 _)
  refine bp (E9 g R gc caps b j al h) (fun ap=>ap=G++[ah 10 [cM X]]) ?_ ?_
  .rw[<-bD, <-hh]
   simp only[cM]at aV
   simp[-getElem?_pos,E9,d,e,k,n,u,o,aV,bA]
  clear d e k n u o
  rintro E G1 a ba
  rw[<-ba]at Z L
  have⟨c3,bb⟩:=DD (ext c2 h .none)
  rw[bb]at Z ay
  have k3:=k2.aK Z fun _ h=>h.elim
  have r3:=r2.aK Z fun h=>h
  have j3:=P _ _ _ _ _ j2 (Z.mono fun _ h=>h.elim)
  have s3:aH GA c c3 H G1:=s2.trans (Z.mono fun _ h=>h.elim)
  clear ba Z k2 r2 j2 s2 bb
  have bc:l.length<=1000000000:=by omega
  have⟨nl,Q⟩:=DD (aG X.d.need)
  by_cases hf:X.K=3/\rL K l X=true
  .have ⟨c4,H4,T,k4,N⟩:=Pc k3 F.i X l r3 bc
   rw[hf.2]at T
   simp only[cM]at T L
   rw[hf.1,Q]at T L
   simp[E9]at a
   have⟨d,e,k,n,u,o,v⟩:=a
   simp[-aD,-getElem?_pos,d,e,k,n,u,o,v,L,T]
   exact⟨s,c4,P _ _ _ _ _ j3 (N.mono fun _ h=> .inl h),⟨j,by omega,K,l,hI⟩,s3.trans (N.mono fun _ h=> .inl h)⟩
  refine bp (E9 g R gc caps b j al h) (fun G=>∃c4,bJ G c4 b K/\aH Gx c3 c4 G1 G) ?_ ?_
  .simp[E9]at a
   have⟨d,e,k,n,u,o,v⟩:=a
   by_cases h3:X.K=3
   .have ⟨c4,H4,T,k4,N⟩:=Pc k3 F.i X l r3 bc
    have bE:rL K l X=false:=by
     cases hh:rL K l X with
     |false=>rfl
     |true=>exact absurd ⟨h3,hh⟩ hf
    rw[bE]at T
    simp only[cM]at T L
    rw[h3,Q]at T L
    simp[-aD,-getElem?_pos,E9,d,e,k,n,u,o,v,L,T]
    exact⟨c4,k4,N⟩
   .simp only[cM]at L
    rw[Q]at L
    simp[-aD,-getElem?_pos,E9,d,e,k,n,u,o,v,L,h3]
    exact⟨c3,k3,aH.refl _ _ _⟩
  rintro E G2 a⟨c4,k4,N⟩
  have⟨am,az⟩:=N.get L (by rw[ay];simp[Lw])
  rw[ay]at az
  have r4:=r3.aK N (by simp[Lw])
  have j4:=P _ _ _ _ _ j3 (N.mono fun _ h=> .inl h)
  have s5:aH GA c c4 H G2:=s3.trans (N.mono fun _ h=> .inl h)
  clear L ay k3 r3 j3 s3 N
  have bH:(K.oY X.A X.B).length<=1000000:=by
   unfold Cl.oY
   split
   .have:=F.t X.A.toNat X.B.toNat;omega
   .simp
  have⟨bI,c5,U,ad,ms,k5,t5⟩:=Nj k4 X.A X.B bH
  have⟨m,hm⟩:=DD ((K.oY X.A X.B).length)
  have⟨aA,aW⟩:=t5.get am (by rw[az];simp[Lw])
  rw[az]at aW
  have t6:aH (fun _=>False) c5 (ext c5 U.length .none) U (U++[ah 1 []]):=aH.of _ (by simp) fun m hm _=>abE hm
  refine bp (E9 g R gc caps b j al h++[(16,aa m),(17,ER U.length 0 0 0)]) (fun G=>G=U++[ah 1 []]) ?_ ?_
  .simp[E9]at a
   have⟨d,e,k,n,u,o,v⟩:=a
   simp only[cM]at am
   rw[Q]at am
   rcases ms with⟨bd,rfl⟩|⟨hq,vq,rfl,aX,_⟩
   .have:m=0:=by rw[<-hm,bd];rfl
    subst this
    simp[-aD,-getElem?_pos,E9,d,e,k,n,u,o,v,am,ad]
   .rw[hm]at ad
    have bK:m<=((K.oY X.A X.B).map br).length:=by rw[aio,hm];exact ad3 _
    simp[-aD,-getElem?_pos,E9,d,e,k,n,u,o,v,am,ad,aX,hm]
  clear a
  rintro E G3 a aB
  have ag:G3[h]?=some (ah 10 [cM X]):=by rw[aB,abE (bf aA)];exact aA
  have⟨z5,aY⟩:=DD U.length
  have w3:iH G3 (ext c5 U.length .none) .none 1 (.sl z5 0 0 0) (([]:List Nat).map fun aZ:Nat=>aC aZ):=⟨z5,0,rfl,by rw[aB, <-aY];simp,by rw[<-aY];exact jr (ad3 _)⟩
  rw[<-aB]at t6
  have aE:ext c5 U.length .none h= .none:=by rw[jf (bf aA)];exact aW
  have⟨c6,be⟩:=DD (ext c5 U.length .none)
  rw[be]at t6 w3 aE
  rw[aY]at a
  have t7:aH Gx c4 c6 G2 G3:=t5.trans (t6.mono fun _ h=>h.elim)
  have k6:=k5.aK t6 fun _ h=>h.elim
  have r6:=r4.aK t7 (by simp[Lw])
  have j6:=P _ _ _ _ _ j4 (t7.mono fun _ h=> .inl h)
  have s6:aH GA c c6 H G3:=s5.trans (t7.mono fun _ h=> .inl h)
  clear am az k4 r4 j4 s5 ad ms k5 t5 aA aW t6 t7 be aB
  have⟨ai,bg⟩:=DD g.n.toNat
  have bi:g.n=(ai:Int):=by omega
  have bj:ai<=1000:=by rw[<-bg, <-hn];exact F.i.n
  have⟨V,an⟩:=DD (if X.K=2 then wz K X.A ai else [])
  have bL:V.length<=1000:=by
   rw[<-an];split
   .simpa[wz]using bj
   .simp
  refine eh (fun S=>S.bG=[]/\∃aF q,Has S.env (E9 g R gc caps b j al h++[(16,aa m),(17,.c aF)])/\iH S.heap q .none 1 aF (V.map fun aZ:Nat=>aC aZ)/\bJ S.heap q b K/\aH Gx c6 q G3 S.heap) ?_ ?_
  .simp[E9]at a
   have⟨d,e,k,n,u,o,v,O,ao⟩:=a
   simp only[cM]at ag
   rw[Q]at ag
   by_cases Y:X.K=2
   .have ⟨b2,c7,H7,bM,w7,k7,s7⟩:=c29 k6 F.i X.A ai bj
    rw[if_pos Y]at an
    rw[<-aa4,an]at w7
    simp only[bQ,bi]at d
    rw[Y]at ag
    simp[-aD,-getElem?_pos,-ajc,E9,d,e,k,n,u,o,v,O,ao,ag,bM,bQ,bi]
    exact⟨c7,w7,k7,s7⟩
   .rw[if_neg Y]at an
    rw[an]at w3
    simp[-aD,-getElem?_pos,-ajc,E9,d,e,k,n,u,o,v,O,ao,ag,Y]
    exact⟨c6,w3,k6,aH.refl _ _ _⟩
  clear a w3
  rintro⟨E,G4,ds⟩⟨rfl,aF,c7,a,w7,k7,s7⟩
  simp only at a w7 k7 s7
  have⟨aq,aI⟩:=s7.get ag (by rw[aE];simp[Lw])
  rw[aE]at aI
  have r7:=r6.aK s7 (by simp[Lw])
  have j7:=P _ _ _ _ _ j6 (s7.mono fun _ h=> .inl h)
  have s8:aH GA c c7 H G4:=s6.trans (s7.mono fun _ h=> .inl h)
  clear ag aE k6 r6 j6 s6 s7
  have hT:9001*j<=900100:=by omega
  have⟨c8,H8,w,sv,af,le,aL,hA,bN,k8,s9⟩:=xF wG k7 F (by omega) X (by omega)
  have⟨aN,bO⟩:=agW F (by omega) hA
  have⟨ar,aP⟩:=s9.get aq (by rw[aI];simp[Lw])
  rw[aI]at aP
  have r8:=r7.aK s9 (by simp[Lw])
  have w8:=w7.aK s9 (by simp[Lw])
  have j8:=P _ _ _ _ _ j7 (s9.mono fun _ h=> .inl h)
  have bk:aH GA c c8 H H8:=s8.trans (s9.mono fun _ h=> .inl h)
  refine bp (E9 g R gc caps b j al h++[(16,aa m),(17,.c aF),(18,.c le),(19,aa af)]) (fun G=>G=H8) ?_ ?_
  .simp[E9]at a
   have⟨d,e,k,n,u,o,v,O,ao⟩:=a
   simp only[cM]at aq aL
   rw[Q]at aq aL
   simp[-aD,-getElem?_pos,-ajc,E9,d,e,k,n,u,o,v,O,ao,aq,aL]
  clear a aq aI k7 r7 w7 j7 s8 s9 aL
  rintro E G5 a a0
  obtain rfl:H8=G5:=a0.symm
  have⟨q9,c9,H9,bm,r9,k9,aQ⟩:=xp k8 aN.i X.A l V r8 w8 bL (by omega)
  have⟨ae,aS⟩:=aQ.get ar (by rw[aP];simp[Lw])
  rw[aP]at aS
  have j9:=P _ _ _ _ _ j8 aQ
  have bn:aH GA c c9 H H9:=bk.trans (aQ.mono fun _ h=>by rcases h with h|h;exact .inl h;exact .inr (.inl h))
  have bo:xE K w X ai l=l++wB w X.A V:=by unfold xE;rw[an]
  rw[<-bo]at r9
  refine bp (E9 g R gc caps b j q9 h++[(16,aa m),(18,.c le),(19,aa af)]) (fun G=>G=H9) ?_ ?_
  .simp[E9]at a
   have⟨d,e,k,n,u,o,v,O,ao,aj,ak⟩:=a
   simp only[cM]at ar
   rw[Q]at ar
   simp[-aD,-getElem?_pos,-ajc,E9,d,e,k,n,u,o,v,O,ao,aj,ak,ar,bm]
  clear a ar aP k8 r8 w8 j8 bk aQ bm
  rintro E G5 a a0
  obtain rfl:H9=G5:=a0.symm
  have bP:(w.oY X.A X.B).length<=1000000:=by
   unfold Cl.oY
   split
   .have:=aN.t X.A.toNat X.B.toNat;omega
   .simp
  refine eh (fun S=>S.bG=[]/\∃z q,Has S.env (E9 g R gc caps b j q9 h++[(18,.c le),(19,aa af),(20,aR z)])/\bJ S.heap q b w/\aH Gx c9 q H9 S.heap) ?_ ?_
  .simp[E9]at a
   have⟨d,e,k,n,u,o,v,O,aj,ak⟩:=a
   simp only[cM]at ae
   rw[Q]at ae
   by_cases h3:X.K=3
   .have ⟨bI,oO,b3,ad,ms,av,W⟩:=Nj k9 X.A X.B bP
    have⟨m',a1⟩:=DD ((w.oY X.A X.B).length)
    rw[h3]at ae
    rcases ms with⟨bd,rfl⟩|⟨hq,vq,rfl,aX,_⟩
    .simp[-aD,-getElem?_pos,-ajc,E9,d,e,k,n,u,o,v,O,aj,ak,ae,ad]
     exact⟨by omega,oO,av,W⟩
    .rw[a1]at ad
     have bK:m'<=((w.oY X.A X.B).map br).length:=by rw[aio,a1];exact ad3 _
     simp[-aD,-getElem?_pos,-ajc,E9,d,e,k,n,u,o,v,O,aj,ak,ae,ad,aX,a1]
     exact⟨by omega,oO,av,W⟩
   .simp[-aD,-getElem?_pos,-ajc,E9,d,e,k,n,u,o,v,O,aj,ak,ae,h3]
    exact⟨c9,k9,aH.refl _ _ _⟩
  clear a
  rintro⟨E,G6,ds⟩⟨rfl,z,oO,a,av,W⟩
  simp only at a av W
  have⟨a2,bR⟩:=W.get ae (by rw[aS];simp[Lw])
  rw[aS]at bR
  have bS:=r9.aK W (by simp[Lw])
  have bT:=P _ _ _ _ _ j9 (W.mono fun _ h=> .inl h)
  have bU:aH GA c oO H G6:=bn.trans (W.mono fun _ h=> .inl h)
  clear ae aS k9 r9 j9 bn W
  have⟨s',ld,b4,a3,bV,bq,bW,bs⟩:=hS j K l s X w sv af le b z G6 oO (by omega) hI (F.mono (by omega)) bC hf hA bN av bT
  have bX:=bS.aK bq (by simp[Lw])
  rw[bg]at bs
  simp[E9]at a
  have⟨d,e,k,n,u,o,v,aj,ak,bY⟩:=a
  simp only[cM,ai7,aiD]at a2 a3
  rw[Q]at a2 a3
  have hw:adW.wrap ((j:Int)+1)=((j+1:Nat):Int):=cv (by omega)
  simp[-aD,-getElem?_pos,-ajc,-ad0,E9,d,e,k,n,u,o,v,aj,ak,bY,a2,a3,hw]
  have bZ:(xE K w X ai l).length<=1000000*(j+1):=by
   rw[bo,agc]
   have:=P2 aN.i X.A V V.length
   have Y:wB w X.A V=ku w X.A V V.length:=rfl
   rw[Y]
   omega
  exact⟨j+1,by omega,q9,⟨rfl,rfl⟩,by omega,w,xE K w X ai l,s',bs,aN.mono (by omega),by rw[bO,hn],bZ,ld,bX,bV,bW,bU.trans (bq.mono fun _ h=>by rcases h with h|h;exact .inl h;exact .inr (.inr h))⟩)
 exact⟨p,z,s,q,D,dK (by simp) h1,Y⟩
end
end
section
variable [W]
def Zr(x y:Edge):aS tz ay 0 40 [.agg (du x),.agg (du y)]=some (aR (nX x y),[]):=by
 refine be func40 rfl ?_;unfold nX;by_cases b:x.a<y.a
 .simp[f40,du,b]
 by_cases c:x.a=y.a;all_goals simp[f40,du,b,c]
def oF(a b:Int):Int:=if a<b then -1 else if a>b then 1 else 0
def aof(a:Int):aS tz ay 0 340 [aa a]=some (aR false,[]):=by refine be func340 rfl ?_;simp[f340]
def abo(a b:Int):aS tz ay 0 334 [aa a,aa b]=some (aa (oF a b),[]):=by
 refine be func334 rfl ?_;unfold oF;by_cases c:a<b
 .simp[f334,aof,c]
 by_cases d:a>b;all_goals simp[f334,aof,c,d]
def XT(a b:Int):aS tz ay 0 333 [bh [[I a],[I b]]]=some (aa (if a=0 then b else a),[]):=by
 refine be func333 rfl ?_;simp only[f333,cr];refine bp [(0,bh [[I a],[I b]]),(2,aa 0)] (fun G=>G=[]) ?_ ?_
 .simp
 rintro g G⟨i,k,_⟩rfl;refine bp [(0,bh [[I a],[I b]]),(2,aa 0),(3,aa 0)] (fun G=>G=[]) ?_ ?_
 .simp[i,k]
 rintro g G⟨i,k,l,_⟩rfl;rw[iM];refine Ends.sq ?_;refine bp [(3,aa 0),(6,bh [[I a],[I b]]),(7,aa 2),(8,aa (0:Nat))] (fun G=>G=[]) ?_ ?_
 .simp[i,k,l]
 rintro g G m rfl;rw[eC];refine iv (fun j:Nat=>[(3,aa 0),(6,bh [[I a],[I b]]),(7,aa 2),(8,aa j)]) (fun j G=>G=[]/\(j=0\/j=1/\a=0\/j=2/\a=0/\b=0)) (fun j=>2-j) ?_ 0 m ⟨rfl,.inl rfl⟩ fun _=>rfl;rintro j g G ⟨c,d,e,f,_⟩ ⟨rfl,n⟩;rcases n with rfl|⟨rfl,rfl⟩|⟨rfl,rfl,rfl⟩
 .by_cases h:a=0
  .subst h;simp[c,d,e,f];exact⟨1,by omega,rfl,by simp⟩
  .simp[c,d,e,f,h]
 .by_cases h:b=0
  .subst h;simp[c,d,e,f];exact⟨2,by omega,rfl,by simp⟩
  .simp[c,d,e,f,h]
 .simp[c,d,e,f]
def xe(x y:Edge):Int:=if oF x.a y.a=0 then oF x.b y.b else oF x.a y.a
def adV(x y:Edge):decide (0<=xe x y)=!nX x y:=by
 unfold xe oF nX;by_cases d:x.a<y.a
 .simp[d]
 by_cases c:x.a=y.a
 .by_cases e:x.b<y.b
  .simp[c,e]
  .by_cases f:x.b=y.b
   .simp[c,f]
   .have:y.b<x.b:=by omega
    simp[c,e,this]
 .have:y.a<x.a:=by omega
  simp[d,c,this]
def US(x y:Edge):aS tz ay 0 293 [.agg (du x),.agg (du y)]=some (aa (xe x y),[]):=by refine be func293 rfl ?_;have c:=XT (oF x.a y.a) (oF x.b y.b);have d:xe x y=if oF x.a y.a=0 then oF x.b y.b else oF x.a y.a:=rfl;rw[<-d]at c;simp[f293,du,abo,c]
def lK(g:Gr)(e:Edge):Bool:=decide (e.a<0)||decide (e.a>=e.b)||decide (e.b>=g.n)
def acL(g:Gr)(e:Edge):aS tz ay 0 291 [.agg (du e),.c (.aJ [bQ g] 0 0)]=some (aR (lK g e),[]):=by
 refine be func291 rfl ?_;unfold lK;by_cases d:e.a<0
 .simp[f291,du,bQ,d]
 by_cases f:e.a>=e.b
 .simp[f291,du,bQ,d,f]
 by_cases h:e.b>=g.n;all_goals simp[f291,du,bQ,d,f,h]
def LI:∀l:List Edge,uY l=true↔ ∀j (h:j+1<l.length),nX (l[j]'(by omega)) l[j+1]=true
 |[]=>by simp[uY]
 |[x]=>by simp[uY]
 |x::y::r=>by
  have b:=LI (y::r)
  unfold uY
  simp only[abR]
  rw[b]
  constructor
  .rintro⟨c,d⟩j a
   cases j with
   |zero=>exact c
   |succ j=>exact d j (by simp at a|-;omega)
  .intro h
   exact⟨h 0 (by simp),fun j a=>h (j+1) (by simp at a|-;omega)⟩
def nD(g:Gr):fa g=true↔0<=g.n/\g.n<=64/\g.bw.length<=400/\(∀j (h:j<g.bw.length),lK g g.bw[j]=false)/\∀j (h:j+1<g.bw.length),nX (g.bw[j]'(by omega)) g.bw[j+1]=true:=by
 unfold fa;simp only[abR,afa,decide_eq_false_iff_not,LI];constructor
 .rintro⟨⟨⟨⟨d,f⟩,i⟩,a⟩,b⟩;refine⟨by omega,by omega,by omega,fun j c=>?_,b⟩;rw[aja]at a;have:=a _ (aix c);unfold lK;simpa using this
 .rintro⟨d,f,i,a,b⟩;refine⟨⟨⟨⟨by omega,by omega⟩,by omega⟩,?_⟩,b⟩;rw[aja];intro e k;obtain⟨j,c,rfl⟩:=ajZ.1 k;have:=a j c;unfold lK at this;simpa using this
def uS{g:Gr}(h:¬(0<=g.n/\g.n<=64/\g.bw.length<=400/\(∀j (h:j<g.bw.length),lK g g.bw[j]=false)/\∀j (h:j+1<g.bw.length),nX (g.bw[j]'(by omega)) g.bw[j+1]=true)):fa g=false:=by
 cases a:fa g with
 |false=>rfl
 |true=>exact absurd ((nD g).1 a) h
def UU(g:Gr):aS tz ay 0 26 [.agg (bQ g)]=some (aR (fa g),[]):=by
 refine be func26 rfl ?_;simp only[f26,cr];have⟨R,A⟩:=DD (g.bw.map du);have⟨n,hn⟩:=DD g.bw.length;have l:R.length=n:=by rw[<-A];simpa using hn
 have H:∀j (B:j<g.bw.length),R[j]?=some (du g.bw[j]):=fun j B=>by rw[<-A,adf,abM B];rfl
 have P:bQ g=[I g.n,.aj R]:=by unfold bQ;rw[A]
 rw[P];refine bp [(1,.c (.aJ [[I g.n,.aj R]] 0 0)),(2,aR false)] (fun G=>G=[]) ?_ ?_
 .simp
 rintro C G⟨r,s,_⟩rfl;by_cases c:g.n<0\/64<g.n\/400<n
 .rw[uS (by omega)];by_cases c1:g.n<0
  .simp[r,s,c1]
  by_cases c2:64<g.n
  .simp[r,s,c1,c2]
  .have c3:(400:Int)<n:=by omega
   simp[r,s,c1,c2,l,c3]
 have c1:¬g.n<0:=by omega
 have c2:¬64<g.n:=by omega
 have c3:¬(400:Int)<n:=by omega
 refine bp [(1,.c (.aJ [[I g.n,.aj R]] 0 0)),(2,aR false)] (fun G=>G=[]) ?_ ?_
 .simp[r,s,c1,c2,l,c3]
 rintro C G⟨r,s,_⟩rfl;rw[iM];refine Ends.sq ?_;refine bp [(1,.c (.aJ [[I g.n,.aj R]] 0 0)),(3,aa (0:Nat))] (fun G=>G=[]) ?_ ?_
 .simp[r,s]
 rintro C G Q rfl;rw[eC];refine iv (fun j:Nat=>[(1,.c (.aJ [[I g.n,.aj R]] 0 0)),(3,aa j)]) (fun j _=>j<=n/\(∀i (h:i<g.bw.length),i<j->lK g g.bw[i]=false)/\∀i (h:i+1<g.bw.length),i+1<j->nX (g.bw[i]'(by omega)) g.bw[i+1]=true) (fun j=>n-j) ?_ 0 Q ⟨by omega,fun i _ h=>absurd h (by omega),fun i _ h=>absurd h (by omega)⟩ fun _=>rfl;rintro j C G ⟨o,p,_⟩ ⟨Z,J,K⟩;by_cases d:j<n
 case neg=>
  have B:j=n:=by omega
  have S:fa g=true:=(nD g).2 ⟨by omega,by omega,by omega,fun i q=>J i q (by omega),fun i q=>K i q (by omega)⟩;simp[o,p,d,l,S]
 have D:j<g.bw.length:=by omega
 have t:j<R.length:=by omega
 have m:=H j D;have⟨e,v⟩:=DD g.bw[j];rw[v]at m;simp only[du]at m;have T:adW.wrap ((j:Int)+1)=((j+1:Nat):Int):=cv (by omega);have E:lK g e=true->fa g=false:=fun h=>uS fun⟨_,_,_,U,_⟩=>by have:=U j D;rw[v,h]at this;cases this
 have x:lK g e=(decide (e.a<0)||decide (e.a>=e.b)||decide (e.b>=g.n)):=rfl;by_cases c4:e.a<0
 .rw[E (by rw[x];simp[c4])];simp[-getElem?_pos,-ad0,o,p,d,l,t,m,c4]
 by_cases c5:e.a>=e.b
 .rw[E (by rw[x];simp[c5])];simp[-getElem?_pos,-ad0,o,p,d,l,t,m,c4,c5]
 by_cases u:e.b>=g.n
 .rw[E (by rw[x];simp[u])];simp[-getElem?_pos,-ad0,o,p,d,l,t,m,c4,c5,u]
 have V:lK g e=false:=by rw[x];simp[c4,c5,u]
 have L:∀i (h:i<g.bw.length),i<j+1->lK g g.bw[i]=false:=fun i q W=>by
  by_cases h:i=j
  .subst h;rw[v];exact V
  .exact J i q (by omega)
 by_cases X:j=0
 .subst X;simp[-getElem?_pos,-ad0,o,p,d,l,t,m,c4,c5,u];exact⟨1,by omega,rfl,by omega,L,fun i _ h=>absurd h (by omega)⟩
 obtain⟨k,rfl⟩:∃k,j=k+1:=⟨j-1,by omega⟩;have y:=H k (by omega);have⟨f,F⟩:=DD (g.bw[k]'(by omega));rw[F]at y;simp only[du]at y;have M:adW.wrap (((k+1:Nat):Int)-1)=(k:Int):=by rw[fw (by omega) (by omega)];omega
 have N:k<n:=by omega
 have O:(0:Int)< ((k+1:Nat):Int):=by omega
 have w:=Zr f e;simp only[du]at w;cases z:nX f e with
 |false=>
  rw[uS fun⟨_,_,_,_,Y⟩=>by have:=Y k D;rw[v,F,z]at this;cases this]
  rw[z]at w;simp[-getElem?_pos,-ad0,o,p,d,l,t,m,y,c4,c5,u,O,M,N,w]
 |true=>
  rw[z]at w;simp[-getElem?_pos,-ad0,o,p,d,l,t,m,y,c4,c5,u,O,M,N,w,T];refine⟨k+1+1,by omega,rfl,by omega,L,fun i q W=>?_⟩;by_cases h:i=k
  .subst h;rw[v,F];exact z
  .exact K i q (by omega)
end
section
variable [W]
def Xm(H:List Ob)(g:Gr)(e:Edge):aO tz ay 291 [.agg (du e),.c (.aJ [bQ g] 0 0)] H=some (aR (lK g e),H):=by have h:=acL g e;have a:=jU g.bw;simp only[du,bQ]at h|-;simp[h,a]
def xW(g:Gr)(Z:g.bw.length<=1000000000):aS tz ay 0 245 [.agg (bQ g)]=some (aa (if fa g=true then 0 else 30),[]):=by
 refine be func245 rfl ?_;simp only[f245,cr];have⟨R,l⟩:=DD (g.bw.map du);have⟨n,hn⟩:=DD g.bw.length;have b:R.length=n:=by rw[<-l];simpa using hn
 have J:∀j (m:j<g.bw.length),R[j]?=some (du g.bw[j]):=fun j m=>by rw[<-l,adf,abM m];rfl
 have C:bQ g=[I g.n,.aj R]:=by unfold bQ;rw[l]
 have D:bA R=true:=by rw[<-l];exact jU _
 have o:=SB (g:=291) (caps:=[.aJ [bQ g] 0 0]) g.bw (by unfold maxLen;omega) (lK g) (by rw[(show tz.md 291=0 from rfl)];decide) (by rw[C];simp[ES,bC,bA,D]) (jU _) (fun x _=>Xm [] g x);rw[l,C]at o;rw[C];refine bp [(1,.c (.aJ [[I g.n,.aj R]] 0 0)),(2,aa 0)] (fun G=>G=[]) ?_ ?_
 .simp
 rintro s G⟨a,a2,_⟩rfl;refine bp [(1,.c (.aJ [[I g.n,.aj R]] 0 0)),(3,.c (.bF 291 [.aJ [[I g.n,.aj R]] 0 0]))] (fun G=>G=[]) ?_ ?_
 .simp[a]
 rintro s G⟨a,K,_⟩rfl;by_cases c:g.n<0\/64<g.n\/400<n
 .rw[uS (by omega)];by_cases c1:g.n<0
  .simp[a,c1]
  by_cases c2:64<g.n
  .simp[a,c1,c2]
  .have c3:(400:Int)<n:=by omega
   simp[a,c1,c2,b,c3]
 have c1:¬g.n<0:=by omega
 have c2:¬64<g.n:=by omega
 have c3:¬(400:Int)<n:=by omega
 cases t:g.bw.any (lK g)with
 |true=>
  rw[t]at o;rw[uS fun⟨_,_,_,Q,_⟩=>by have⟨e,p,L⟩:=akq.1 t;obtain⟨j,m,rfl⟩:=ajZ.1 p;rw[Q j m]at L;cases L]
  simp[a,K,c1,c2,c3,b,D,o]
 |false=>
 rw[t]at o;have S:∀i (h:i<g.bw.length),lK g g.bw[i]=false:=fun i q=>by have:=aja.1 t _ (aix q);simpa using this
 refine bp [(1,.c (.aJ [[I g.n,.aj R]] 0 0))] (fun G=>G=[]) ?_ ?_
 .simp[a,K,c1,c2,c3,b,D,o]
 rintro s G⟨a,_⟩rfl;rw[iM];refine Ends.sq ?_;refine bp [(1,.c (.aJ [[I g.n,.aj R]] 0 0)),(28,aa n),(29,aa (0:Nat))] (fun G=>G=[]) ?_ ?_
 .simp[a,b]
 rintro s G T rfl;rw[eC];refine iv (fun j:Nat=>[(1,.c (.aJ [[I g.n,.aj R]] 0 0)),(28,aa n),(29,aa j)]) (fun j G=>G=[]/\j<=n/\∀i (h:i+1<g.bw.length),i+1<j->nX (g.bw[i]'(by omega)) g.bw[i+1]=true) (fun j=>n-j) ?_ 0 T ⟨rfl,by omega,fun i _ h=>absurd h (by omega)⟩ fun _=>rfl;rintro j s G ⟨E,v,w,_⟩ ⟨rfl,g2,M⟩;by_cases d:j<n
 case neg=>
  have m:j=n:=by omega
  have U:fa g=true:=(nD g).2 ⟨by omega,by omega,by omega,S,fun i q=>M i q (by omega)⟩;simp[v,w,d,U]
 have N:j<g.bw.length:=by omega
 have V:adW.wrap ((j:Int)+1)=((j+1:Nat):Int):=cv (by omega);by_cases W:j=0
 .subst W;simp[-getElem?_pos,-ad0,E,v,w,d];exact⟨1,by omega,rfl,by omega,fun i _ h=>absurd h (by omega)⟩
 obtain⟨k,rfl⟩:∃k,j=k+1:=⟨j-1,by omega⟩;have y:=J (k+1) N;have z:=J k (by omega);have⟨e,p⟩:=DD g.bw[k+1];have⟨f,F⟩:=DD (g.bw[k]'(by omega));rw[p]at y;rw[F]at z;simp only[du]at y z;have O:adW.wrap (((k+1:Nat):Int)-1)=(k:Int):=by rw[fw (by omega) (by omega)];omega
 have P:k<n:=by omega
 have ab:(0:Int)< ((k+1:Nat):Int):=by omega
 have A:=US f e;have r:=adV f e;have⟨u,X⟩:=DD (xe f e);rw[X]at A r;simp only[du]at A;cases B:nX f e with
 |false=>
  rw[uS fun⟨_,_,_,_,Y⟩=>by have:=Y k N;rw[p,F,B]at this;cases this]
  rw[B]at r;have H:0<=u:=by simpa using r
  simp[-getElem?_pos,-ad0,E,v,w,d,b,y,z,O,P,A,H]
 |true=>
  rw[B]at r;have H:¬0<=u:=by simpa using r
  simp[-getElem?_pos,-ad0,E,v,w,d,b,y,z,O,P,A,H,V];refine⟨k+1+1,by omega,rfl,by omega,fun i q ad=>?_⟩;by_cases h:i=k
  .subst h;rw[p,F];exact B
  .exact M i q (by omega)
end
def rD(g:Gr)(l:List LA):Bool:=(l.take 101).all (fun x=>decide (x.d.need.length<=20))&&(fa g&&decide (g.n<=5)&&decide (l.length<=100))
def p8(g:Gr)(l:List LA):aS tz ay 0 8 [.agg (bQ g),bh (l.map cM)]=some (aR (rD g l),[]):=by
 refine be func8 rfl ?_;simp only[f8,cr];have⟨R,s⟩:=DD (l.map cM);have⟨n,hn⟩:=DD l.length;have a:R.length=n:=by rw[<-s];simpa using hn
 have F:∀j (v:j<l.length),R[j]?=some (cM l[j]):=fun j v=>by rw[<-s,adf,abM v];rfl
 have b:=UU g;have m:=jU g.bw;have⟨E,w⟩:=DD (g.bw.map du);have y:bQ g=[I g.n,.aj E]:=by unfold bQ;rw[w]
 rw[w]at m;rw[s,y];rw[y]at b;refine bp [(2,.c (.aJ [[I g.n,.aj E]] 0 0)),(1,bh R)] (fun G=>G=[]) ?_ ?_
 .simp
 rintro z G⟨H,J,_⟩rfl;rw[iM];refine Ends.sq ?_;refine bp [(2,.c (.aJ [[I g.n,.aj E]] 0 0)),(1,bh R),(5,aa (0:Nat))] (fun G=>G=[]) ?_ ?_
 .simp[J,H]
 rintro z G K rfl;rw[eC];refine iv (fun j:Nat=>[(2,.c (.aJ [[I g.n,.aj E]] 0 0)),(1,bh R),(5,aa j)]) (fun j G=>G=[]/\j<=101/\∀i (h:i<l.length),i<j->l[i].d.need.length<=20) (fun j=>101-j) ?_ 0 K ⟨rfl,by omega,fun i _ h=>absurd h (by omega)⟩ fun _=>rfl;rintro j z G ⟨e,f,k,_⟩ ⟨rfl,O,A⟩;by_cases d:j<n/\j<101
 case neg=>
  have L:(l.take 101).all (fun x=>decide (x.d.need.length<=20))=true:=by
   rw[ahI];intro x p;obtain⟨i,q,rfl⟩:=ajZ.1 p;rw[List.getElem_take];have:i<l.length:=by simp at q;omega
   have:=A i this (by simp at q;omega);simpa using this
  have⟨o,B⟩:=DD (fa g);have t:rD g l=(o&&decide (g.n<=5)&&decide (n<=100)):=by unfold rD;rw[L,B,hn];rfl
  rw[t];rw[B]at b
  have C:decide ((n:Int)<=100)=decide (n<=100):=by
   by_cases h:n<=100
   .rw[decide_eq_true h,decide_eq_true (by omega)]
   .rw[decide_eq_false h,decide_eq_false (by omega)]
  cases o with
  |false=>
   by_cases d1:j<n
   .have d2:¬(j:Int)<101:=by omega
    simp[f,e,k,d1,d2,a,b,m]
   .simp[f,e,k,d1,a,b,m]
  |true=>
   by_cases d5:g.n<=5
   .by_cases d1:j<n
    .have d2:¬(j:Int)<101:=by omega
     simp[f,e,k,d1,d2,a,b,m,d5,C]
    .simp[f,e,k,d1,a,b,m,d5,C]
   .by_cases d1:j<n
    .have d2:¬(j:Int)<101:=by omega
     simp[f,e,k,d1,d2,a,b,m,d5]
    .simp[f,e,k,d1,a,b,m,d5]
 have⟨d1,d2⟩:=d;have D:(j:Int)<101:=by omega
 have M:j<l.length:=by omega
 have r:=F j M;have⟨x,p⟩:=DD l[j];rw[p]at r;simp only[cM,aG]at r;have N:adW.wrap ((j:Int)+1)=((j+1:Nat):Int):=cv (by omega);by_cases c:20<x.d.need.length
 .have t:rD g l=false:=by
   have:(l.take 101).all (fun x=>decide (x.d.need.length<=20))=false:=by rw[List.all_eq_false];refine⟨x,?_,by simp;omega⟩;rw[<-p,ajZ];exact⟨j,by simp;omega,by rw[List.getElem_take]⟩
   unfold rD;rw[this];rfl
  rw[t];have u:(20:Int)< (x.d.need.length:Nat):=by omega
  simp[-getElem?_pos,-ad0,f,e,k,d1,D,a,r,u]
 .have u:¬(20:Int)< (x.d.need.length:Nat):=by omega
  simp[-getElem?_pos,-ad0,f,e,k,d1,D,a,r,u,N];refine⟨j+1,by omega,rfl,by omega,fun i q P=>?_⟩;by_cases h:i=j
  .subst h;rw[p];omega
  .exact A i q (by omega)
def Zx(a:Int)(l m:List Edge):eM a (l++m)=eM a l++eM a m:=by
 induction l with
 |nil=>rfl
 |cons e r b=>
  simp only[ai7,eM];split
  .rw[b];rfl
  .split
   .rw[b];rfl
   .exact b
def DY(a:Int)(l:List Edge):(eM a l).length<=l.length:=by
 induction l with
 |nil=>simp[eM]
 |cons e r b=>
  simp only[eM];split
  .simp;omega
  .split
   .simp;omega
   .simp;omega
def Yh:tz.dF 248=rh:=by kernel_rfl
def Ag(l:List (List ab)):rowsOf (.aj l)=some l:=rfl
def Jv(l:List Edge):rC (l.map du)=some l:=by
 induction l with
 |nil=>rfl
 |cons x r a=>simp[rC,du,a]
def abu(g:Gr)(b:fa g=true)(a:Int):aS tz ay 0 248 [.agg (bQ g),aa a]=some (cw (ec g a)):=by unfold aS ay;rw[gW Px,Yh];simp[rh,bQ,Ag,Jv,b,cw,bi]
def YT:tz.dH 168=true:=by kernel_rfl
def aaT:tz.dF 168=wi:=by kernel_rfl
def UR(g:Gr)(a:fa g=true){c:List Int}{k:Nat}(hc:pa g=some (c,k)):aS tz ay 0 168 [.agg (bQ g)]=some (.aM [ER 0 0 0 c.length,aa k,aa 0],[ah 1 (c.map aC)]):=by unfold aS ay;rw[gW YT,aaT];simp[wi,bQ,Ag,Jv,a,hc,bi]
instance iW8:W:=W2
section
variable{H H':List Ob}{r:aw}
def aa0:aO tz ay 114 [.c ap] H=some (ER H.length 0 0 0,H++[ah 1 []]):=by
 have a:aS tz ay 0 114 [.c ap]=some (ER 0 0 0 0,[ah 1 []]):=by unfold aS ay;rw[gW Nb,Rs];rfl
 simp[NW,a]
def X8(g:Gr)(F:fa g=true)(a:Int):aS tz ay 0 248 [.agg (bQ g),aa a]=some (cw (ec g a)):=by
 refine be func248 rfl ?_;simp only[f248,cr];have af:=((nD g).1 F).2.2.1;have H:=xW g (by omega);rw[if_pos F]at H;have⟨R,C⟩:=DD (g.bw.map du);have⟨n,hn⟩:=DD g.bw.length;have t:R.length=n:=by rw[<-C];simpa using hn
 have V:∀j (D:j<g.bw.length),R[j]?=some (du g.bw[j]):=fun j D=>by rw[<-C,adf,abM D];rfl
 have W:bA R=true:=by rw[<-C];exact jU _
 have X:bQ g=[I g.n,.aj R]:=by unfold bQ;rw[C]
 rw[X]at H|-;have Y:ec g a=cD (eM a g.bw):=by unfold ec;rw[if_pos F]
 rw[Y];refine bp [(2,.c (.aJ [[I g.n,.aj R]] 0 0)),(1,aa a)] (fun G=>G=[]) ?_ ?_
 .simp
 rintro E G⟨y,z,_⟩rfl;refine bp [(2,.c (.aJ [[I g.n,.aj R]] 0 0)),(1,aa a)] (fun G=>G=[]) ?_ ?_
 .simp[y,z,H,W]
 rintro E G⟨y,z,_⟩rfl;refine bp [(2,.c (.aJ [[I g.n,.aj R]] 0 0)),(1,aa a),(5,.c ap)] (fun G=>G=[]) ?_ ?_
 .simp[y,z]
 rintro E G⟨y,z,Z,_⟩rfl;rw[iM];refine Ends.sq ?_;refine bp [(1,aa a),(12,bh R),(13,aa n),(14,aa (0:Nat)),(5,.c ap)] (fun G=>G=[]) ?_ ?_
 .simp[z,y,Z,t]
 rintro E G g1 rfl;rw[eC];refine iv (fun p:Nat×ab=>[(1,aa a),(12,bh R),(13,aa n),(14,aa p.1),(5,.c p.2)]) (fun p G=>p.1<=n/\nm G p.2 (eM a (g.bw.take p.1))) (fun p=>n-p.1) ?_ (0,ap) g1 ⟨by omega,.inl ⟨rfl,rfl⟩⟩ fun _=>rfl;rintro⟨j,ad⟩ E G ⟨i,k,m,o,e,_⟩ ⟨g2,q⟩;simp only at i k m o e g2 q;by_cases d:j<n
 case neg=>
  have D:g.bw.take j=g.bw:=acu (by omega);rw[D]at q;have J:=DY a g.bw;have M:=bi (cD (eM a g.bw));rcases q with⟨h0,rfl⟩|⟨h,v,N,rfl,b⟩
  .rw[h0];simp[-aD,i,k,m,o,e,d,aa0,cw,cD,gv,dt]
  .have hc:=LQ b rfl (by omega);have⟨ag,hL⟩:=DD (eM a g.bw);rw[hL]at b hc e M|-;simp[-aD,i,k,m,o,e,d,hc,cw,M]
 have O:j<g.bw.length:=by omega
 have ah:j<R.length:=by omega
 have r:=V j O;have⟨ae,P⟩:=DD g.bw[j];have⟨u,w⟩:=ae;rw[P]at r;simp only[du]at r;have A:adW.wrap ((j:Int)+1)=((j+1:Nat):Int):=cv (by omega);have f:eM a (g.bw.take (j+1))=eM a (g.bw.take j)++eM a [⟨u,w⟩]:=by rw[aiH,abM O,P,Zx];rfl
 have J:=DY a (g.bw.take j);rw[ai1]at J;have⟨l,hl⟩:=DD (eM a (g.bw.take j));rw[hl]at q f J;have Q:l.length+1<=maxLen:=by unfold maxLen;omega
 have S:(l.length+1)*8<=140737488355328:=by omega
 have T:∀(x:Int) (K:Ob),eM a (g.bw.take (j+1))=[]++[x]->nm (G++[K,Ob.live 0 1 [[I x]],Ob.live 0 1 [[I x]]]) (.sl (G.length+2) 0 0 1) (eM a (g.bw.take (j+1))):=fun x K s=> .inr ⟨G.length+2,0,by rw[s];simp,by rw[s];rfl,by rw[s,aea (by omega),show G.length+2-G.length=2 from by omega];rfl⟩;have U:∀(x:Int) (K:Ob) (h v:Nat),G[h]?=some (.live v 1 (l.map aC))->eM a (g.bw.take (j+1))=l++[x]->nm ((G++[K,Ob.live 0 1 [[I x]]]).set h (Ob.live (v+1) 1 (l.map aC++[[I x]]))) (.sl h (v+1) 0 (l.length+1)) (eM a (g.bw.take (j+1))):=fun x K h v b s=> .inr ⟨h,v+1,by rw[s];simp,by rw[s];simp,by rw[s,ba (show(G++_)[h]?=some (.live v 1 (l.map aC))by rw[abE (bf b)];exact b)];simp[aC]⟩;by_cases c1:a=u
 .subst c1;have B:eM a [⟨a,w⟩]=[w]:=by simp[eM]
  rw[B]at f;rcases q with⟨rfl,rfl⟩|⟨h,v,N,rfl,b⟩
  .simp[-getElem?_pos,-ad0,i,k,m,o,e,d,t,r,A];exact⟨j+1,by omega,_,⟨rfl,rfl⟩,by omega,T _ _ f⟩
  .have L:∀K,(G++K)[h]?=some (.live v 1 (l.map aC)):=fun K=>by rw[abE (bf b)];exact b
   simp[-getElem?_pos,-ad0,i,k,m,o,e,d,t,r,A,L,Q,S];exact⟨j+1,by omega,_,⟨rfl,rfl⟩,by omega,U _ _ _ _ b f⟩
 by_cases c2:a=w
 .subst c2;have B:eM a [⟨u,a⟩]=[u]:=by simp[eM,c1]
  rw[B]at f;rcases q with⟨rfl,rfl⟩|⟨h,v,N,rfl,b⟩
  .simp[-getElem?_pos,-ad0,i,k,m,o,e,d,t,r,c1,A];exact⟨j+1,by omega,_,⟨rfl,rfl⟩,by omega,T _ _ f⟩
  .have L:∀K,(G++K)[h]?=some (.live v 1 (l.map aC)):=fun K=>by rw[abE (bf b)];exact b
   simp[-getElem?_pos,-ad0,i,k,m,o,e,d,t,r,c1,A,L,Q,S];exact⟨j+1,by omega,_,⟨rfl,rfl⟩,by omega,U _ _ _ _ b f⟩
 .have B:eM a [⟨u,w⟩]=[]:=by simp[eM,c1,c2]
  rw[B,aeU]at f;simp[-getElem?_pos,-ad0,i,k,m,o,e,d,t,r,c1,c2,A]
  have g4:nm (G++[Ob.live 0 2 [[I u,I w]]]) ad (eM a (g.bw.take (j+1))):=by
   rw[f];refine q.aK fun ai hm=>abE ?_;rcases q with⟨_,rfl⟩|⟨h,v,_,rfl,b⟩
   .simp[rf]at hm
   .simp[rf]at hm;subst hm;exact bf b
  exact⟨j+1,by omega,_,⟨rfl,rfl⟩,by omega,g4⟩
def GU:∀(rows:List (List ab)) (l:List Edge),rC rows=some l->rows=l.map du
 |[],l,h=>by simp[rC]at h;subst h;rfl
 |r::e,l,h=>by
  unfold rC at h
  split at h
  .rename_i c;cases c
  .rename_i a b f c
   cases c
   split at h
   .rename_i g d
    cases h
    rw[GU _ _ d]
    rfl
   .cases h
  .cases h
def P8{P:Program}{f:FuncId}{n:Int}{l:ab}{rows:List (List ab)}(b:rowsOf l=some rows){args:List aw}(h:Call P f (.agg [I n,.aj rows]::args) H r H'):Call P f (.agg [I n,l]::args) H r H':=by refine N1 (fun p q a=>?_) h;simp only[bT,aL,aY]at a|-;obtain⟨y,t,rfl,⟨c,rfl,d,t1,e,g,i,t2,j,k,m⟩,o⟩:=a;exact⟨_,t,rfl,⟨c,rfl,d,t1,e,g,i,t2,j,PY b k,m⟩,o⟩
def MF(e:gU tz){c:List aw}(h:rh c H=some (r,H')):Call aaG 248 c H r H':=by
 unfold rh at h;split at h
 .rename_i n l a;split at h
  .rename_i rows d;split at h
   .rename_i b f;split at h
    .rename_i g;injection h with h;have i:(cw (ec ⟨n,b⟩ a)).1=r:=by rw[h]
     have j:(cw (ec ⟨n,b⟩ a)).2=H':=by rw[h]
     subst i j;rw[GU _ _ f]at d;refine P8 d (oP e ?_);have:=X8 ⟨n,b⟩ g a;simp only[bQ]at this;simp[this,cw,bi,jU]
    .cases h
   .cases h
  .cases h
 .cases h
end
instance iW9:W:=W1
section
variable{c:List Int}{g:Gr}{n:Nat}
theorem A6:∀(n:Nat) (k:Int) (l:List Int),(∀i:Nat,i<n->k+i∈l)->n<=l.length
 |0,_,_,_=>akg _
 |n+1,k,l,h=>by
  have a:=h n (by omega)
  have b:=A6 n k (l.erase (k+n)) fun i c=>by
   rw[List.mem_erase_of_ne (by omega)]
   exact h i (by omega)
  grind
def zQ(l:List Int):∀(n:Nat) (k:Int),k<=mP l n k
 |0,k=>aka _
 |n+1,k=>by
  unfold mP
  split
  .have:=zQ l n (k+1);omega
  omega
theorem P9(l:List Int):∀(n:Nat) (k:Int),mP l n k∈l->∀i:Nat,i<=n->k+i∈l
 |0,k,h,i,a=>by
  grind [mP]
 |n+1,k,h,i,a=>by
  unfold mP at h
  split at h
  .rename_i b
   cases i with
   |zero=>simpa using b
   |succ i=>
    have:=P9 l n (k+1) h i (by omega)
    rw[show k+((i+1:Nat):Int)=k+1+(i:Int)from by omega]
    exact this
  grind
theorem acQ(l:List Int)(n:Nat)(k:Int)(h:l.length<=n):¬mP l n k∈l:=fun hm=>by have:=A6 (n+1) k l fun i a=>P9 l n k hm i (by omega);omega
theorem NB{a b:Int}:∀ {l:List Edge},b∈eM a l↔ ∃e∈l,(a=e.a/\b=e.b)\/(a≠e.a/\a=e.b/\b=e.a)
 |[]=>by simp[eM]
 |e::r=>by
  have c:=@NB a b r
  grind [eM]
structure qI(g:Gr)(n:Nat):Prop where
 n:g.n=(n:Int)
 e:∀e∈g.bw,0<=e.a/\e.a<e.b/\e.b<g.n
 m:∀a b,b∈ec g a↔ ∃e∈g.bw,(a=e.a/\b=e.b)\/(a≠e.a/\a=e.b/\b=e.a)
 s:∀a,ek (ec g a)=true
theorem pz{b:Nat}(h:b<c.length):bD c (b:Int)=c[b]:=by grind [bD]
structure Ax(g:Gr)(n k:Nat)(c:List Int):Prop where
 l:c.length=n
 nn:∀i:Nat,i<n->0<=bD c i
 z:∀i:Nat,n<=i+k->i<n->bD c i≠0
 p:∀e∈g.bw,bD c e.a≠0->bD c e.b≠0->bD c e.a≠bD c e.b
theorem tV(a:qI g n)(i:Nat)(b:i<n):bD (iW g c) (i:Int)=ke g c i:=by grind [bD,iW,qI.n]
theorem vo{i:Nat}(h:bD c i≠0):ke g c i=bD c i:=by grind [ke]
theorem YW{k:Nat}(d:qI g n)(h:Ax g n k c):Ax g n (k+1) (iW g c):=by
 have ne:∀i:Nat,i<n->bD (iW g c) i≠0->bD c i=0->(∀b∈ec g i, ¬(bD c b=0/\b>(i:Int)))/\ ¬bD (iW g c) i∈(ec g i).map (bD c):=fun i r hn A=>by grind [tV,ke,acQ]
 refine⟨by grind [iW,qI.n],fun i r=>?_,fun i J E=>?_,fun e f B o=>?_⟩
 .rw[tV d i r];unfold ke;simp only;split
  .exact h.nn i r
  .have:=zQ ((ec g i).map (bD c)) ((ec g i).length+1) 1;omega
 .rw[tV d i E];by_cases A:bD c i=0
  .unfold ke;simp only;rw[if_neg]
   .have:=zQ ((ec g i).map (bD c)) ((ec g i).length+1) 1;omega
   .rintro (j|j)
    .exact j A
    .rw[akq]at j;have⟨b,o,j⟩:=j;simp only[abR,decide_eq_true_eq]at j;have⟨e,f,F⟩:=(d.m _ _).1 o;have G:=d.e e f;have H:=d.n;have K:b<n:=by rcases F with⟨_,h⟩|⟨_,_,h⟩<;>omega
     have:=h.z b.toNat (by omega) (by omega);rw[show((b.toNat:Nat):Int)=b from by omega]at this;exact this j.1
  grind [vo]
 .have G:=d.e e f;have H:=d.n;obtain⟨x,s⟩:∃x:Nat,e.a=x:=⟨e.a.toNat,by omega⟩;obtain⟨y,t⟩:∃y:Nat,e.b=y:=⟨e.b.toNat,by omega⟩;have p:=h.p e f;have C:(y:Int)∈ec g x:=(d.m _ _).2 ⟨e,f,.inl ⟨s.symm,t.symm⟩⟩;have I:(x:Int)∈ec g y:=(d.m _ _).2 ⟨e,f,.inr ⟨by omega,t.symm,s.symm⟩⟩;simp only[s,t]at B o p|-;have u:x<n:=by omega
  have v:y<n:=by omega
  by_cases q:bD c x=0
  .have ⟨D,w⟩:=ne x u B q;by_cases l:bD c y=0
   .exact absurd ⟨l,by omega⟩ (D y C)
   .intro f;refine w ?_;rw[f,tV d y v,vo l];exact aks C
  .by_cases l:bD c y=0
   .have ⟨D,w⟩:=ne y v o l;intro f;refine w ?_;rw[<-f,tV d x u,vo q];exact aks I
   .rw[tV d x u,tV d y v,vo q,vo l];exact p q l
theorem LJ{g:Gr}{n:Nat}(j:qI g n):∀(m k:Nat) (c:List Int) (t:Nat),Ax g n k c->m+k=n+1->k<=n->∃d u,ul g m c t=some (d,u)/\d.length=n/\(∀i:Nat,i<n->1<=bD d i)/\∀e∈g.bw,bD d e.a≠bD d e.b
 |0,k,c,t,h,hm,q=>by omega
 |m+1,k,c,t,h,hm,w=>by
  unfold ul
  by_cases o:(0:Int)∈c
  .rw[if_pos o]
   have⟨i,f,e⟩:=ajZ.1 o
   have v:i<n:=by grind [Ax.l]
   have:=pz f
   rw[e]at this
   have q:¬n<=i+k:=fun q=>h.z i q v this
   exact LJ j m (k+1) _ _ (YW j h) (by omega) (by omega)
  .rw[if_neg o]
   have r:∀i:Nat,i<n->bD c i≠0:=fun i f s=>o (by
    grind [pz,Ax.l])
   refine⟨c,t,rfl,h.l,fun i f=>?_,fun e s=>?_⟩
   .have:=r i f;have:=h.nn i f;omega
   .have x:=j.e e s
    have y:=j.n
    have A:=r e.a.toNat (by omega)
    grind [Ax.p]
theorem S9(d:qI g n):∃c t,pa g=some (c,t)/\c.length=n/\(∀i:Nat,i<n->1<=bD c i)/\∀e∈g.bw,bD c e.a≠bD c e.b:=by
 have f:Ax g n 0 (ahv n 0):=by
  have j:∀i:Int,bD (ahv n 0) i=0:=fun i=>by grind [bD]
  exact⟨by simp,fun i _=>by grind,fun i k l=>absurd k (by omega),fun e _ h=>absurd (j _) h⟩
 unfold pa;rw[show g.n.toNat=n from by rw[d.n];rfl];exact LJ d (n+1) 0 _ 0 f rfl (akg _)
theorem vX(h:fa g=true):qI g g.n.toNat:=by
 have c:∀e∈g.bw,0<=e.a/\e.a<e.b/\e.b<g.n:=fun e d=>by unfold fa at h;simp only[abR,afa,aja]at h;have:=h.1.2 e d;simp only[ai9,decide_eq_true_eq,not_or]at this;omega
 have hn:0<=g.n:=by unfold fa at h;simp only[abR,afa,decide_eq_false_iff_not]at h;omega
 refine⟨by omega,c,fun a b=>?_,fun a=>?_⟩
 .unfold ec;rw[if_pos h,vA,NB]
 grind [ec,QQ]
def io(c:List Int)(i:Int)(b:Int):aI:=⟨b,1,0,decide (bD c i>bD c b),decide (bD c i>bD c b),!decide (bD c i>bD c b),decide (bD c i>bD c b),!decide (bD c i>bD c b)⟩
def dx(g:Gr)(c:List Int)(i:Nat):cQ:=⟨i,0,(ec g i).map (io c i)⟩
def pP(g:Gr)(c:List Int)(i:Nat):Dr:=⟨dx g c i,0,[]⟩
def iD(g:Gr)(c:List Int)(i:Nat):Nd:=kC (pP g c i)
theorem QN:∀ {l:List Int},ek l=true->l.Pairwise (· < ·)
 |[],_=> .nil
 |[x],_=>by simp
 |x::y::r,h=>by
  have a:(decide (x<y)&&ek (y::r))=true:=h
  simp only[abR,decide_eq_true_eq]at a
  have b:=QN a.2
  grind [ahg]
def RN(c:List Int)(i:Int):∀(l:List Int) (a:Int),l.Pairwise (· < ·)->(∀b∈l,a<b/\b≠i)->dU i a (l.map (io c i))=true
 |[],_,_,_=>rfl
 |b::r,a,hp,h=>by
  have d:=ahg.1 hp
  have e:=h b (ajz ..)
  simp only[ag9,dU,abR]
  refine⟨?_,RN c i r b d.2 fun x f=>⟨d.1 x f,(h x (aiO _ f)).2⟩⟩
  simp[cS,io,e.1,e.2]
def PP(c:List Int)(i:Int):∀(l:List Int) (a:Int),l.Pairwise (· < ·)->(∀b∈l,a<b/\b<64)->mL a ((l.map (io c i)).map fun x=>⟨x.peer,x.aP⟩)=true
 |[],_,_,_=>rfl
 |b::r,a,hp,h=>by
  have d:=ahg.1 hp
  have e:=h b (ajz ..)
  simp only[ag9,mL,abR]
  refine⟨?_,PP c i r b d.2 fun x f=>⟨d.1 x f,(h x (aiO _ f)).2⟩⟩
  simp[io,e.1,e.2]
def L6(c:List Int)(i b:Int):∀(l:List Int),b∈l->gR ((l.map (io c i)).map fun x=>⟨x.peer,x.aP⟩) b=1
 |x::r,h=>by
  simp only[ag9,gR,io]
  split
  .rfl
  .rename_i a
   rcases aeM.1 h with rfl|h
   .omega
   .exact L6 c i b r h
theorem F8{i:Nat}(a:qI g n)(f:i<n):∀b∈ec g i,0<=b/\b<n/\b≠i:=fun b c=>by have⟨e,d,h⟩:=(a.m _ _).1 c;have:=a.e e d;grind [qI.n]
theorem HK(e:qI g n)(hn:n<=64)(c:List Int){i:Nat}(m:i<n):dm (iD g c i)=true/\(pP g c i).ai.af.length<=100:=by
 have a:=F8 e m;have hp:=QN (e.s i);have f:=RN c i (ec g i) (-1) hp fun b h=>⟨by have:=a b h;omega,(a b h).2.2⟩;have o:=PP c i (ec g i) (-1) hp fun b h=>by have:=a b h;omega
 have j:∀x∈(ec g i).map (io c i),x.peer<64:=fun x d=>by obtain⟨b,h,rfl⟩:=aiK.1 d;have:=a b h;show b<64;omega
 have q:=wC (id:=(i:Int)) (by omega) f j (aka _) (by omega);have r:((ec g i).map (io c i)).length<64:=by rw[if_pos (by omega)]at q;omega
 refine⟨?_,by show((ec g i).map (io c i)).length<=100;omega⟩;have d1:eo (dx g c i)=true:=jn.2 ⟨by show(0:Int)<=(i:Int);omega,aka _,(show(0:Int)<=2 by omega),r,f⟩;have d2:dC (pP g c i)=true:=by rw[ic];refine⟨d1,aka _,(show(0:Int)<=2 by omega),rfl,fun _=>rfl,fun p hp=>absurd hp (by simp[pP])⟩
 have d3:sj (iD g c i)=true:=by
  unfold sj;have k:(iD g c i).known=((ec g i).map (io c i)).map fun x=>⟨x.peer,x.aP⟩:=rfl;have t:(iD g c i).af=(ec g i).map (io c i):=rfl;have u:(iD g c i).id=(i:Int):=rfl;have v:(iD g c i).told=[]:=rfl;have w:((iD g c i).af.any (lU (iD g c i)))=false:=by rw[t,aja];intro x d;have y:=j x d;obtain⟨b,h,rfl⟩:=aiK.1 d;have z:=L6 c i b _ h;unfold lU;rw[k];have l:(io c i b).peer=b:=rfl;have A:(io c i b).aP=1:=rfl;have B:(io c i b).state=0:=rfl;rw[l]at y;rw[l,A,B,z];simp;omega
  rw[w,k,u,v,o];simp[kZ,gJ,cD,gv,dt,ek];omega
 unfold dm;have d4:pF (iD g c i)=true:=by unfold pF;rw[d3];have:(iD g c i).asked=[]:=rfl;rw[this];rfl
 have d5:(iD g c i).dr=pP g c i:=rfl;rw[d5,d2,d4];rfl
end
instance iW10:W:=W3
section
variable{c:List Int}{b:Int}{g:Gr}{n:Nat}
def SX:tz.dH 248=true:=by kernel_rfl
def Xl:tz.dF 248=rh:=by kernel_rfl
def adR:tz.dH 45=true:=by kernel_rfl
def S5:tz.dF 45=fJ 1:=by kernel_rfl
def afK:tz.md 45=0:=by kernel_rfl
def Vt(x:Int):aO tz ay 294 [aa x] []=some (aR (decide (x<0)),[]):=by
 have h:aS tz ay 0 294 [aa x]=some (aR (decide (x<0)),[]):=by refine be func294 rfl ?_;simp[f294]
 simp[h]
def aav{a:Int}(l:0<=b)(m:b<c.length):aO tz ay 295 [aa b,.c (.aJ [[.aj (c.map aC)]] 0 0),.c (.aJ [[I a]] 0 0)] []=some (aR (decide (bD c b=0)&&decide (b>a)),[]):=by
 obtain⟨n,rfl⟩:∃n:Nat,b=n:=⟨b.toNat,by omega⟩;have hn:n<c.length:=by omega
 have j:bD c (n:Int)=c[n]:=pz hn;have f:=bi c;have e:(c.map aC)[n]?=some [I c[n]]:=by rw[adf,abM hn];rfl
 rw[j];have⟨x,k⟩:=DD c[n];rw[k]at e|-;have⟨C,g⟩:=DD (c.map aC);have i:n<C.length:=by rw[<-g];simpa using hn
 rw[g]at e f|-
 have h:aS tz ay 0 295 [aa n,.c (.aJ [[.aj C]] 0 0),.c (.aJ [[I a]] 0 0)]=some (aR (decide (x=0)&&decide ((n:Int)>a)),[]):=by
  refine be func295 rfl ?_;by_cases d:x=0
  .subst d;simp[-getElem?_pos,f295,e,i]
  .simp[-getElem?_pos,f295,e,i,d]
 simp[h,f]
def adF{o:List Int}{a:Nat}(s:0<=b)(t:b<c.length)(f:a<o.length):aO tz ay 296 [aa b,.c (.aJ [[.aj (c.map aC)]] 0 0),.c (.aJ [[.aj (o.map aC)]] 0 0),.c (.aJ [[I a]] 0 0)] []=some (aR (decide (bD c b=o[a])),[]):=by
 obtain⟨n,rfl⟩:∃n:Nat,b=n:=⟨b.toNat,by omega⟩;have hn:n<c.length:=by omega
 have l:bD c (n:Int)=c[n]:=pz hn;have g:=bi c;have i:=bi o;have d:(c.map aC)[n]?=some [I c[n]]:=by rw[adf,abM hn];rfl
 have e:(o.map aC)[a]?=some [I o[a]]:=by rw[adf,abM f];rfl
 rw[l];have⟨x,m⟩:=DD c[n];have⟨y,p⟩:=DD o[a];rw[m]at d|-;rw[p]at e|-;have⟨C,j⟩:=DD (c.map aC);have q:n<C.length:=by rw[<-j];simpa using hn
 have⟨O,k⟩:=DD (o.map aC);have r:a<O.length:=by rw[<-k];simpa using f
 rw[j]at d g|-;rw[k]at e i|-;have h:aS tz ay 0 296 [aa n,.c (.aJ [[.aj C]] 0 0),.c (.aJ [[.aj O]] 0 0),.c (.aJ [[I a]] 0 0)]=some (aR (decide (x=y)),[]):=by refine be func296 rfl ?_;simp[-getElem?_pos,f296,d,q,e,r]
 simp[h,g,i]
def NZ(l:List Int):∀(n k:Nat) (s:Int),(∀i:Nat,i<k->s+i∈l)-> ¬s+k∈l->k<=n->mP l n s=s+k
 |0,k,s,a,b,c=>by
  have:k=0:=by omega
  subst this
  simp[mP]
 |n+1,0,s,a,b,c=>by
  unfold mP
  rw[if_neg (by simpa using b)]
  simp
 |n+1,k+1,s,a,b,c=>by
  unfold mP
  rw[if_pos (by simpa using a 0 (by omega)),NZ l n k (s+1) (fun i d=>by
   have:=a (i+1) (by omega)
   rwa [show s+1+(i:Int)=s+((i+1:Nat):Int)from by omega]) (by rwa [show s+1+(k:Int)=s+((k+1:Nat):Int)from by omega]) (by omega)]
  omega
def ana(g:Gr)(n:Nat)(c:List Int)(i:Nat):List Int:=(aiZ n).map fun j=>if j<i then ke g c j else bD c j
def wV(g:Gr)(n:Nat)(c:List Int)(i:Nat):(ana g n c i).length=n:=by simp[ana]
def anL{i j:Nat}(h:j<n):(ana g n c i)[j]?=some (if j<i then ke g c j else bD c j):=by unfold ana;rw[adf,ajF h];rfl
def aeF(h:c.length=n):ana g n c 0=c:=by
 apply aju;intro j;by_cases a:j<n
 .rw[anL a,if_neg (by omega),abM (by omega),pz (by omega)]
 .rw[aiE (by rw[wV];omega),aiE (by omega)]
def afR(h:g.n=n):ana g n c n=iW g c:=by unfold ana iW;rw[h,ais];apply ajp;intro j a;rw[if_pos (alB.1 a)]
def Zb{i:Nat}(h:i<n):ana g n c (i+1)=(ana g n c i).set i (ke g c i):=by
 apply aju;intro j;by_cases a:j<n
 .rw[anL a];by_cases e:i=j
  .subst e;rw[ahr (by rw[wV];exact h),if_pos (by omega)]
  .rw[aat e,anL a];congr 1
   by_cases q:j<i
   .rw[if_pos (by omega),if_pos q]
   .rw[if_neg (by omega),if_neg q]
 .rw[aiE (by rw[wV];omega),aiE (by rw[aiP,wV];omega)]
def XS(c:fa g=true)(a:Int)(H:List Ob):aO tz ay 248 [.agg (bQ g),aa a] H=some (ER H.length 0 0 (ec g a).length,H++[ah 1 ((ec g a).map aC)]):=by
 have b:aS tz ay 0 248 [.agg (bQ g),aa a]=some (cw (ec g a)):=by unfold aS ay;rw[gW SX,Xl];simp[rh,bQ,Ag,Jv,c,cw,bi]
 have d:=jU g.bw;have e:=bi (ec g a);simp only[bQ]at b|-;simp[b,d,e,cw]
def abn(hc:c.length<=1000000)(H:List Ob):aO tz ay 45 [bh (c.map aC)] H=some (ER H.length 0 0 c.length,H++[ah 1 (c.map aC)]):=by
 have a:=bi c;have b:aS tz ay 0 45 [bh (c.map aC)]=some (ER 0 0 0 c.length,[ah 1 (c.map aC)]):=by unfold aS ay;rw[gW adR,S5];have d:=u7 aC 1 (fun _=>rfl) c;simp[fJ,Ag,d,a,hc]
 simp[afK,b,a]
end
def Um{g:Gr}{n:Nat}{c:List Int}(Y:fa g=true)(hn:g.n=n)(hc:c.length=n)(hp:∀x∈c,0<=x):aS tz ay 0 246 [.agg (bQ g),bh (c.map aC)]=some (.aM [ER 0 0 0 n,aa 0],[ah 1 ((iW g c).map aC)]):=by
 refine be func246 rfl ?_;simp only[f246,cr];have hI:=vX Y;rw[hn,ais]at hI;have⟨q1,q2,q3,q4,q5⟩:=(nD g).1 Y;have bn:n<=64:=by omega
 have ao:=xW g (by omega);rw[if_pos Y]at ao;have aH:=fun a ap=>XS Y a ap;have aq:=fun ap=>abn (c:=c) (by omega) ap;have ar:=vL (g:=294) (caps:=[]) c (by unfold maxLen;omega) (fun x=>decide (x<0)) (by rw[(show tz.md 294=0 from rfl)];decide) rfl (bi c) (fun x _=>Vt x);have aZ:(c.any fun x=>decide (x<0))=false:=by rw[aja];intro x hx;have:=hp x hx;simp;omega
 rw[aZ]at ar;have M:=bi c;have aI:=jU g.bw;have⟨R,hR⟩:=DD (g.bw.map du);have H:bQ g=[I n,.aj R]:=by unfold bQ;rw[hn,hR]
 rw[hR]at aI;rw[H]at ao aH|-;have aK:(c.map aC).length=n:=by simpa using hc
 refine bp [(2,.c (.aJ [[I n,.aj R]] 0 0)),(3,.c (.aJ [[.aj (c.map aC)]] 0 0))] (fun G=>G=[]) ?_ ?_
 .simp
 rintro s G⟨J,B,_⟩rfl;have⟨C,Z⟩:=DD (c.map aC);rw[Z]at B M aK ar aq;rw[hc]at aq;refine bp [(2,.c (.aJ [[I n,.aj R]] 0 0)),(3,.c (.aJ [[.aj C]] 0 0))] (fun G=>G=[]) ?_ ?_
 .simp[J,B,ao,aI]
 rintro s G⟨J,B,_⟩rfl;refine bp [(2,.c (.aJ [[I n,.aj R]] 0 0)),(3,.c (.aJ [[.aj C]] 0 0))] (fun G=>G=[]) ?_ ?_
 .simp[J,B,aK,ar,M]
 rintro s G⟨J,B,_⟩rfl;refine bp [(2,.c (.aJ [[I n,.aj R]] 0 0)),(3,.c (.aJ [[.aj C]] 0 0)),(7,au 1)] (fun G=>G=[ah 1 C,ah 1 [[.sl 0 0 0 n]]]) ?_ ?_
 .simp[-aD,J,B,aq]
 rintro s G⟨J,B,a7,_⟩rfl;refine bp [(7,au 1)] (fun G=>G[0]?=some (ah 1 ((iW g c).map aC))/\G[1]?=some (ah 1 [[.sl 0 0 0 n]])) ?_ ?_
 .refine eh (fun S=>Has S.env [(2,.c (.aJ [[I n,.aj R]] 0 0)),(3,.c (.aJ [[.aj C]] 0 0)),(7,au 1),(27,aa n),(28,aa (0:Nat))]/\S.bG=[]/\S.heap=[ah 1 C,ah 1 [[.sl 0 0 0 n]]]) ?_ ?_
  .simp[J,B,a7]
  rintro⟨s,G,u⟩⟨e,rfl,rfl⟩;simp only at e;rw[eC];refine Ends.bl (amV (fun i:Nat=>[(2,.c (.aJ [[I n,.aj R]] 0 0)),(3,.c (.aJ [[.aj C]] 0 0)),(7,au 1),(27,aa n),(28,aa i)]) (fun i G=>i<=n/\G[0]?=some (ah 1 ((ana g n c i).map aC))/\G[1]?=some (ah 1 [[.sl 0 0 0 n]])) [] (fun i=>n-i) _ [2,3,7,27,28] (fun _=>rfl) ?_ 0 _ e ⟨by omega,by rw[aeF hc,Z];rfl,rfl⟩ rfl);rintro i ⟨s,G,u⟩ e ⟨i0,Q,af⟩ g5;simp only at e i0 Q af g5;subst g5;simp at e;have⟨f,h,j,l,p⟩:=e;by_cases d:i<n
  case neg=>
   have hi:i=n:=by omega
   rw[hi,afR hn]at Q;simp[-getElem?_pos,f,h,j,l,p,d,Q,af]
  refine eh (fun S=>Has S.env [(2,.c (.aJ [[I n,.aj R]] 0 0)),(3,.c (.aJ [[.aj C]] 0 0)),(7,au 1),(27,aa n),(28,aa i),(29,aR true)]/\S.bG=[]/\S.heap=G) ?_ ?_
  .simp[f,h,j,l,p,d]
  rintro⟨s,T,u⟩⟨e,rfl,H⟩;simp only at e H;obtain rfl:G=T:=H.symm;simp at e;have⟨f,h,j,l,p,a0⟩:=e;refine eh (fun S=>Has S.env [(2,.c (.aJ [[I n,.aj R]] 0 0)),(3,.c (.aJ [[.aj C]] 0 0)),(7,au 1),(27,aa n),(28,aa i)]/\S.bG=[]/\S.heap=G) ?_ ?_
  .simp[f,h,j,l,p,a0]
  rintro⟨s,T,u⟩⟨e,rfl,H⟩;simp only at e H;obtain rfl:G=T:=H.symm;simp at e;have⟨f,h,j,l,p⟩:=e;have hw:adW.wrap ((i:Int)+1)=((i+1:Nat):Int):=cv (by omega);refine eh (fun S=>Has S.env [(2,.c (.aJ [[I n,.aj R]] 0 0)),(3,.c (.aJ [[.aj C]] 0 0)),(7,au 1),(27,aa n),(28,aa i)]/\S.bG=[]/\S.heap[0]?=some (ah 1 ((ana g n c (i+1)).map aC))/\S.heap[1]?=some (ah 1 [[.sl 0 0 0 n]])) ?_ ?_
  case refine_2=>rintro⟨s,T,u⟩ ⟨e,rfl,D,v⟩;simp only at e D v;simp at e;have⟨f,h,j,l,p⟩:=e;simp[-getElem?_pos,-ad0,f,h,j,l,p,hw];exact⟨i+1,by omega,rfl,by omega,D,v⟩
  rw[eC];refine Ends.bl ?_;have l0:=bf Q;have l1:=bf af;have⟨N,hN⟩:=DD G.length;have⟨r,ab⟩:=DD (ec g (i:Int));have⟨O,hO⟩:=DD (ana g n c i);have a1:O.length=n:=by rw[<-hO];exact wV ..
  have av:O[i]?=some (bD c i):=by rw[<-hO,anL d,if_neg (by omega)]
  have a2:bD c (i:Int)=c[i]'(by omega):=pz (by omega);have aw:C[i]?=some [I (bD c i)]:=by rw[<-Z,adf,abM (by omega),a2];rfl
  have ag:∀b∈r,0<=b/\b<n/\b≠i:=fun b E=>by rw[<-ab]at E;exact F8 hI d b E
  have a3:r.length<=400:=by rw[<-ab];unfold ec;rw[if_pos Y];have v:=DW (eM i g.bw);have L:=DY i g.bw;omega
  have aL:=aH (i:Int);rw[ab]at aL;rw[hO]at Q;have ad:ana g n c (i+1)=O.set i (ke g c i):=by rw[Zb d,hO]
  have t0:∀K,(G++K)[0]?=some (ah 1 (O.map aC)):=fun K=>by rw[abE l0];exact Q
  have t1:∀K,(G++K)[1]?=some (ah 1 [[.sl 0 0 0 n]]):=fun K=>by rw[abE l1];exact af
  have tN:∀x K,(G++x::K)[N]?=some x:=fun x K=>by rw[aea (by omega),hN,ajB];rfl
  have a4:∀x y K,(G++x::y::K)[N+1]?=some y:=fun x y K=>by rw[aea (by omega),hN,akC];rfl
  have sN:∀x y,(G++[x]).set N y=G++[y]:=fun x y=>by rw[ajw _ _ (by omega),hN,ajB];rfl
  refine eh (fun S=>Has S.env [(2,.c (.aJ [[I n,.aj R]] 0 0)),(3,.c (.aJ [[.aj C]] 0 0)),(7,au 1),(27,aa n),(28,aa i),(8,au N)]/\S.bG=[]/\S.heap=G++[ah 1 [[I i]]]) ?_ ?_
  .simp[-getElem?_pos,f,h,j,l,p,hN,tN,sN]
  rintro⟨s,G1,u⟩⟨e,rfl,ax⟩;simp only at e ax;simp at e;have⟨f,h,j,l,p,t⟩:=e;refine eh (fun S=>Has S.env [(2,.c (.aJ [[I n,.aj R]] 0 0)),(3,.c (.aJ [[.aj C]] 0 0)),(7,au 1),(27,aa n),(28,aa i),(8,au N),(9,ER (N+1) 0 0 r.length)]/\S.bG=[]/\S.heap=G++[ah 1 [[I i]],ah 1 (r.map aC)]) ?_ ?_
  .simp[-aD,-getElem?_pos,f,h,j,l,p,t,ax,tN,aL,hN]
  clear ax;rintro⟨s,w,u⟩ ⟨e,rfl,U⟩;simp only at e U;simp at e;have⟨f,h,j,l,p,t,z⟩:=e;have D:w[0]?=some (ah 1 (O.map aC)):=by rw[U];exact t0 _
  have v:w[1]?=some (ah 1 [[.sl 0 0 0 n]]):=by rw[U];exact t1 _
  have L:w[N]?=some (ah 1 [[I i]]):=by rw[U];exact tN _ _
  have h3:w[N+1]?=some (ah 1 (r.map aC)):=by rw[U];exact a4 _ _ _
  have bo:2<=N:=by omega
  clear U;have az:=vL (g:=295) (caps:=[.aJ [[.aj C]] 0 0,.aJ [[I i]] 0 0]) r (by unfold maxLen;omega) (fun b=>decide (bD c b=0)&&decide (b>(i:Int))) (by rw[(show tz.md 295=0 from rfl)];decide) (by simp[ES,bC,bA,M]) (bi r) (fun b E=>by have:=aav (c:=c) (a:=i) (ag b E).1 (by rw[hc];exact(ag b E).2.1);rw[Z]at this;exact this)
  have aA:=bi r;have ai:(r.map aC).length=r.length:=aio ..;have⟨ak,hL⟩:=DD (r.map aC);have⟨m,hm⟩:=DD r.length;rw[hL]at h3 az aA ai;rw[hm]at z ai a3;have aN:ak.take m=ak:=acu (by omega);have bq:(((i:Int)).toNat)=i:=by omega
  have iC:i<C.length:=by omega
  by_cases V:bD c i=0
  case neg=>have ae:ke g c i=bD c i:=vo V;have aB:O.set i (bD c i)=O:=lJ av;rw[ae,aB]at ad;rw[ad];simp[-getElem?_pos,f,h,j,l,p,t,z,D,v,L,h3,aw,iC,V]
  have⟨an,aE⟩:=DD (r.any fun b=>decide (bD c b=0)&&decide (b>(i:Int)));rw[aE]at az;have aP:aO tz ay 152 [ER (N+1) 0 0 m,.c (.bF 295 [.aJ [[.aj C]] 0 0,.ptr N 0 0 0])] w=some (aR an,w):=by simp[-getElem?_pos,L,h3,ai,aN,aA,M,az]
  cases an with
  |true=>
   have ae:ke g c i=bD c i:=by unfold ke;simp only[ab];rw[if_pos (.inr aE)]
   have aB:O.set i (bD c i)=O:=lJ av;rw[ae,aB]at ad;rw[ad];simp[-aD,-getElem?_pos,f,h,j,l,p,t,z,D,v,L,aw,iC,V,aP]
  |false=>
  have⟨F,aF⟩:=DD (r.map (bD c));have br:F.length=m:=by rw[<-aF];simpa using hm
  have ae:ke g c i=mP F (m+1) 1:=by unfold ke;simp only[ab];rw[if_neg (by rw[aE];simp[V]),aF,hm]
  refine eh (fun S=>Has S.env [(2,.c (.aJ [[I n,.aj R]] 0 0)),(3,.c (.aJ [[.aj C]] 0 0)),(7,au 1),(27,aa n),(28,aa i),(8,au N),(9,ER (N+1) 0 0 m)]/\S.bG=[]/\S.heap=w) ?_ ?_
  .simp[-aD,-getElem?_pos,f,h,j,l,p,t,z,D,v,L,aw,iC,V,aP]
  rintro⟨s,T,u⟩⟨e,rfl,aQ⟩;simp only at e aQ;obtain rfl:w=T:=aQ.symm;simp at e;have⟨f,h,j,l,p,t,z⟩:=e;have a5:(O.map aC)[i]?=some [I 0]:=by rw[adf,av,V];rfl
  have a6:i< (O.map aC).length:=by rw[aio];omega
  have a8:i<O.length:=by omega
  have a9:(O.map aC).set i [I 1]=(O.set i 1).map aC:=by rw[aiC];rfl
  refine eh (fun S=>Has S.env [(2,.c (.aJ [[I n,.aj R]] 0 0)),(3,.c (.aJ [[.aj C]] 0 0)),(7,au 1),(27,aa n),(28,aa i),(8,au N),(9,ER (N+1) 0 0 m)]/\S.bG=[]/\S.heap=w.set 0 (ah 1 ((O.set i 1).map aC))) ?_ ?_
  .simp[-getElem?_pos,-aiC,f,h,j,l,p,t,z,D,v,L,a5,a6,a8,d,a9]
  rintro⟨s,G3,u⟩⟨e,rfl,W⟩;simp only at e W;simp at e;rw[eC];have A:G3[0]?=some (ah 1 ((O.set i 1).map aC)):=by rw[W];exact ba D
  have j1:G3[1]?=some (ah 1 [[.sl 0 0 0 n]]):=by rw[W,aat (by omega)];exact v
  have j2:G3[N]?=some (ah 1 [[I i]]):=by rw[W,aat (by omega)];exact L
  have j3:G3[N+1]?=some (ah 1 ak):=by rw[W,aat (by omega)];exact h3
  clear W;refine Ends.bl (amV (fun k:Nat=>[(2,.c (.aJ [[I n,.aj R]] 0 0)),(3,.c (.aJ [[.aj C]] 0 0)),(7,au 1),(27,aa n),(28,aa i),(8,au N),(9,ER (N+1) 0 0 m)]) (fun k K=>(∀q:Nat,q<k->(1:Int)+q∈F)/\K[0]?=some (ah 1 ((O.set i ((1:Int)+k)).map aC))/\K[1]?=some (ah 1 [[.sl 0 0 0 n]])/\K[N]?=some (ah 1 [[I i]])/\K[N+1]?=some (ah 1 ak)) [] (fun k=>m+1-k) _ [2,3,7,27,28,8,9] (fun _=>rfl) ?_ 0 _ (by simpa using e) ⟨fun q hq=>by omega,A,j1,j2,j3⟩ rfl);clear A j1 j2 j3 e;rintro k ⟨s,K,u⟩ e ⟨k1,A,j1,j2,j3⟩ g5;simp only at e k1 A j1 j2 j3 g5;subst g5;simp at e;have⟨f,h,j,l,p,t,z⟩:=e;have bs:k<=m:=by have:=A6 k 1 F k1;omega
  have aT:i< (O.set i ((1:Int)+k)).length:=by rw[aiP];omega
  have aU:(O.set i ((1:Int)+k))[i]=1+k:=by simp
  have aG:=vL (g:=296) (caps:=[.aJ [[.aj C]] 0 0,.aJ [[.aj ((O.set i ((1:Int)+k)).map aC)]] 0 0,.aJ [[I i]] 0 0]) r (by unfold maxLen;omega) (fun b=>decide (bD c b=1+k)) (by rw[(show tz.md 296=0 from rfl)];decide) (by simp[-aiC,ES,bC,bA,M,bi]) (bi r) (fun b E=>by have:=adF (c:=c) (o:=O.set i ((1:Int)+k)) (a:=i) (ag b E).1 (by rw[hc];exact(ag b E).2.1) aT;rw[Z,aU]at this;exact this)
  have bb:(r.any fun b=>decide (bD c b=1+k))=decide ((1:Int)+k∈F):=by rw[<-aF,aj3];simp
  rw[bb,hL]at aG;have⟨P,X⟩:=DD ((O.set i ((1:Int)+k)).map aC);have aV:P.length=n:=by rw[<-X];simp[a1]
  have bc:P[i]?=some [I (1+k)]:=by rw[<-X,adf,abM aT,aU];rfl
  have bd:bA P=true:=by rw[<-X];exact bi _
  have bg:P.take n=P:=acu (by omega);rw[X]at A aG;have al:aO tz ay 152 [ER (N+1) 0 0 m,.c (.bF 296 [.aJ [[.aj C]] 0 0,.ptr 1 0 0 0,.ptr N 0 0 0])] K=some (aR (decide ((1:Int)+k∈F)),K):=by simp[-getElem?_pos,A,j1,j2,j3,ai,aN,aV,bg,bd,aA,M,aG,am0]
  by_cases am:(1:Int)+k∈F
  case neg=>have bj:=NZ F (m+1) k 1 k1 am (by omega);rw[ad,ae,bj,X];rw[decide_eq_false am]at al;simp[-aD,-getElem?_pos,f,h,j,l,p,t,z,A,j1,al]
  rw[decide_eq_true am]at al;have bk:adW.wrap ((1:Int)+k+1)=1+((k+1:Nat):Int):=by rw[wrap_i64]<;>omega
  have bm:P.set i [I (1+((k+1:Nat):Int))]=(O.set i (1+((k+1:Nat):Int))).map aC:=by rw[<-X,aiC,ajN,aiC];rfl
  have iP:i<P.length:=by omega
  simp[-aD,-getElem?_pos,-ad0,-aiC,f,h,j,l,p,t,z,A,j1,j2,bc,iP,d,aV,al,bk,bm];refine⟨k+1,by omega,fun q hq=>?_,ba A,?_,j3⟩
  .by_cases e1:q=k
   .subst e1;exact am
   .exact k1 q (by omega)
  .rw[aat (by omega)];exact j2
 rintro s G⟨a7,_⟩⟨g0,e⟩;have aW:=bi (iW g c);have aX:((iW g c).map aC).length=n:=by simp[iW,hn]
 have⟨aY,hU⟩:=DD ((iW g c).map aC);rw[hU]at g0 aW aX|-;have hk:aY.take n=aY:=acu (by omega);simp[-getElem?_pos,a7,g0,e,aW,aX,hk]
def agf{c:List Int}(hp:∀x∈c,0<=x)(b:Int):0<=bD c b:=by
 unfold bD;rw[ae5];by_cases h:b.toNat<c.length
 .rw[abM h];exact hp _ (aix h)
 .rw[aiE (by omega)];exact aka _
def Ui{g:Gr}{c:List Int}(hp:∀x∈c,0<=x):∀x∈iW g c,0<=x:=by
 intro x b;unfold iW at b;obtain⟨a,_,rfl⟩:=aiK.1 b;unfold ke;simp only;split
 .exact agf hp _
 .have:=zQ ((ec g a).map (bD c)) ((ec g a).length+1) 1;omega
def Ux{g:Gr}(r:fa g=true){a:List Int}{j:Nat}(s:pa g=some (a,j)):aS tz ay 0 168 [.agg (bQ g)]=some (.aM [ER 0 0 0 a.length,aa j,aa 0],[ah 1 (a.map aC)]):=by
 refine be func168 rfl ?_;simp only[f168,cr];have⟨q1,q2,q3,q4,q5⟩:=(nD g).1 r;obtain⟨n,hn⟩:∃n:Nat,g.n=n:=⟨g.n.toNat,by omega⟩;have af:n<=64:=by omega
 have u:=xW g (by omega);rw[if_pos r]at u;have L:=fun(c:List Int) hc hp=>Um (c:=c) r hn hc hp;have w:=jU g.bw;have⟨R,M⟩:=DD (g.bw.map du);have U:bQ g=[I n,.aj R]:=by unfold bQ;rw[hn,M]
 rw[M]at w;rw[U]at u L|-;unfold pa at s;rw[hn,ais]at s;refine bp [(1,.c (.aJ [[I n,.aj R]] 0 0))] (fun G=>G=[]) ?_ ?_
 .simp
 rintro k G⟨z,_⟩rfl;refine bp [(1,.c (.aJ [[I n,.aj R]] 0 0))] (fun G=>G=[]) ?_ ?_
 .simp[z,u,w]
 rintro k G⟨z,_⟩rfl;refine bp [(1,.c (.aJ [[I n,.aj R]] 0 0)),(6,ER 0 0 0 n),(7,aa (0:Nat))] (fun G=>G=[ah 1 ((ahv n (0:Int)).map aC)]) ?_ ?_
 .have V:n<=maxLen:=by unfold maxLen;omega
  have W:n*8<=140737488355328:=by omega
  have X:8*(n:Int)<=281474976710656:=by omega
  simp[z,V,W,X]
 rintro k G Y rfl;refine eh (fun S=>∃h v,S.env.get 6=some (ER h v 0 n)/\S.env.get 7=some (aa j)/\S.bG=[]/\S.heap[h]?=some (.live v 1 (a.map aC))/\a.length=n) ?_ ?_
 .rw[eC];refine iv (fun x:Nat×List Int×Nat×Nat×Nat=>[(1,.c (.aJ [[I n,.aj R]] 0 0)),(6,ER x.2.2.2.1 x.2.2.2.2 0 n),(7,aa x.2.2.1)]) (fun x G=>ul g x.1 x.2.1 x.2.2.1=some (a,j)/\x.2.1.length=n/\(∀y∈x.2.1,0<=y)/\x.2.2.1+x.1<=n+1/\G[x.2.2.2.1]?=some (.live x.2.2.2.2 1 (x.2.1.map aC))) (fun x=>x.1) ?_ (n+1,ahv n 0,0,0,0) Y ⟨s,by simp,by simp,by simp,rfl⟩ fun _=>rfl;rintro⟨m,c,t,h,v⟩ k G ⟨A,B,D,_⟩ ⟨b,l,E,Z,d⟩;simp only at A B D b l E Z d;have F:=Hd c 0 (by unfold maxLen;omega);have H:=L c l E;have f:=bi c;have N:=bi (iW g c);have ab:(iW g c).length=n:=by simp[iW,hn]
  unfold aG at F;have⟨C,i⟩:=DD (c.map aC);have o:C.length=n:=by rw[<-i];simpa using l
  have p:C.take n=C:=acu (by omega);rw[i]at d F H f;have⟨ad,J⟩:=DD ((iW g c).map aC);rw[J]at H N;have q:aO tz ay 128 [ER h v 0 n,aa 0] G=some (aR (decide ((0:Int)∈c)),G):=by simp[d,o,p,f,F]
  cases m with
  |zero=>simp[ul]at b
  |succ m=>
  unfold ul at b;by_cases e:(0:Int)∈c
  case neg=>rw[if_neg e]at b;simp only[ab1,aca]at b;obtain⟨rfl,rfl⟩:=b;rw[decide_eq_false e]at q;simp[-aD,A,B,D,q,d,l,i];exact⟨_,_,⟨rfl,rfl⟩,d⟩
  rw[if_pos e]at b;rw[decide_eq_true e]at q;have ae:aO tz ay 246 [.agg [I n,.aj R],ER h v 0 n] G=some (.aM [ER G.length 0 0 n,aa 0],G++[ah 1 ad]):=by simp[d,o,p,f,w,N,H];intro x O;rw[<-J]at O;obtain⟨ag,_,rfl⟩:=aiK.1 O;rfl
  have hw:adW.wrap ((t:Int)+1)=((t+1:Nat):Int):=cv (by omega);simp[-aD,-ad0,A,B,D,q,ae,hw];exact⟨m,by omega,iW g c,t+1,G.length,0,⟨⟨rfl,rfl⟩,rfl⟩,b,ab,Ui E,by omega,by rw[aea (ad3 _),ajB,J];rfl⟩
 rintro⟨k,G,ds⟩⟨h,v,P,Q,rfl,K,T⟩;simp only at P Q K;have f:=bi a;have⟨C,i⟩:=DD (a.map aC);have o:C.length=n:=by rw[<-i];simpa using T
 have p:C.take n=C:=acu (by omega);rw[i]at K f|-;simp[P,Q,K,f,o,p,T]
def agM(e:gU tz){a:List aw}{H:List Ob}{r:aw}{b:List Ob}(h:wi a H=some (r,b)):Call aaG 168 a H r b:=by
 unfold wi at h;split at h
 .rename_i n l;split at h
  .rename_i rows d;split at h
   .rename_i i f;split at h
    .rename_i g;split at h
     .rename_i c k hc;cases h;rw[GU _ _ f]at d;refine P8 d (oP e ?_);have:=Ux g hc;simp only[bQ]at this;simp[this,bi,jU]
     .cases h
    .cases h
   .cases h
  .cases h
 .cases h
section
variable [W]
variable{f:FuncId}{vs:List aw}{H H':List Ob}{r:aw}
def gB(w:W){h:List aw->List Ob->Option (aw×List Ob)}(e:(@tz w).dF f=h)(a:(@tz w).dF f vs H=some (r,H')):h vs H=some (r,H'):=by rw[<-e];exact a
def wE(w:W)(b:f∈qj)(a:(@tz w).dF f vs H=some (r,H')):Call aaG f vs H r H':=by
 have c:f=52\/f=124\/f=191\/f=195\/f=200:=by simpa[qj]using b
 rcases c with rfl|rfl|rfl|rfl|rfl
 .exact absurd a (by simp[show(@tz w).dF 52=fun _ _=>none by kernel_rfl])
 .exact QM (gB w (h:=nw 8) (by kernel_rfl) a)
 .exact K7 (gB w (h:=uh) (by kernel_rfl) a)
 .exact M0 (gB w (h:=ue 4 [I 0,ap,I 0,I 0]) (by kernel_rfl) a)
 .exact Od (gB w (h:=nw 2) (by kernel_rfl) a)
def JO(w:W)(a:(@tz w).dH f=true):f∈qj\/f∈sT w.k:=by have b:(qj.contains f||(sT w.k).contains f)=true:=(Bool.and_eq_true_iff.1 a).2;simpa[ajJ]using b
def EF(w:W)(a:w.k≠4){g:FuncId}(h:(@tz w).kR g=true):False:=by have:(ajx g 147&&ajx w.k 4)=true:=h;simp at this;exact a this.2
def Bt:gU (@tz W2):={
 enters:=uI
 qS:=fun f vs H r H' b a=>by
  rcases JO W2 b with h|h
  .exact wE W2 h a
  .obtain rfl:f=114:=akz.1 h
   exact Ig ov (gB W2 (h:=ng) (by kernel_rfl) a)
 kR:=fun g vs h=>(EF W2 (by decide) h).elim
 follows:=wW
 code:=@yJ W2}
def acE:gU (@tz W3):={
 enters:=uI
 qS:=fun f vs H r H' b a=>by
  rcases JO W3 b with h|h
  .exact wE W3 h a
  .have c:f=114\/f=248\/f=45:=by
    have d:f∈ [114,248,45]:=h
    simpa using d
   rcases c with rfl|rfl|rfl
   .exact Ig ov (gB W3 (h:=ng) (by kernel_rfl) a)
   .exact MF Bt (gB W3 (h:=rh) (by kernel_rfl) a)
   .exact R7 ov (gB W3 (h:=fJ 1) (by kernel_rfl) a)
 kR:=fun g vs h=>(EF W3 (by decide) h).elim
 follows:=wW
 code:=@yJ W3}
def vK:List Nat:=[43,44,45,46,47,57,98,114,190,185,318,168,248]
def Qz(w:W)(b:f∈vK)(a:(@tz w).dF f vs H=some (r,H')):Call aaG f vs H r H':=by
 have c:f=43\/f=44\/f=45\/f=46\/f=47\/f=57\/f=98\/f=114\/f=190\/f=185\/f=318\/f=168\/f=248:=by simpa[vK]using b
 rcases c with rfl|rfl|rfl|rfl|rfl|rfl|rfl|rfl|rfl|rfl|rfl|rfl|rfl
 .exact Wa ov (gB w (h:=fJ 10) (by kernel_rfl) a)
 .exact Vl ov (gB w (h:=fJ 8) (by kernel_rfl) a)
 .exact R7 ov (gB w (h:=fJ 1) (by kernel_rfl) a)
 .exact SM ov (gB w (h:=fJ 2) (by kernel_rfl) a)
 .exact Z4 ov (gB w (h:=fJ 4) (by kernel_rfl) a)
 .exact o57 ov (gB w (h:=fJ 3) (by kernel_rfl) a)
 .exact V9 (gB w (h:=hAs) (by kernel_rfl) a)
 .exact Ig ov (gB w (h:=ng) (by kernel_rfl) a)
 .exact ZD ov (gB w (h:=jX gJ) (by kernel_rfl) a)
 .exact WI ov (gB w (h:=jX jZ) (by kernel_rfl) a)
 .exact Zg Bt (gB w (h:=jX gD) (by kernel_rfl) a)
 .exact agM acE (gB w (h:=wi) (by kernel_rfl) a)
 .exact MF Bt (gB w (h:=rh) (by kernel_rfl) a)
def SO(hA:Call aaG 7 [] [] (aR true) []):gU (@tz W1):={
 enters:=uI
 qS:=fun f vs H r H' i b=>by
  rcases JO W1 i with h|h
  .exact wE W1 h b
  .have c:f∈vK\/f=7:=by
    have d:f∈sT 1:=h
    by_cases e:f=7
    .exact .inr e
    .left
     simp only[sT,vK,aeM,aiV,or_false,e]at d|-
     exact d
   rcases c with c|rfl
   .exact Qz W1 c b
   .have a:=gB W1 (h:=Aj) (by kernel_rfl) b
    unfold Aj at a
    split at a
    .cases a
     exact hA
    .cases a
 kR:=fun g vs h=>(EF W1 (by decide) h).elim
 follows:=wW
 code:=@yJ W1}
end
end Go.Nx
namespace Go.Nx
open Go Go.Proofs Tryz
theorem nO{a:Go.Act}{t:Nat}(h:t<a.tmps.size)(v:Value):(a.put (some t) v).eval (.tmp t)=v:=by simp[Go.Act.put,anf,aiR,h]
set_option maxHeartbeats 1000000 in
def aga(args:Array Value)(w:World):CallsD aaG 147 args .returning w fun e u j=>u= .returning/\e= .returned (.tuple #[])/\j=(w.alloc (.cells #[.int .i64 0] 269)).setCell ⟨w.heap.size,0,none⟩ (.int .i64 0):=by
 refine callsD_of_wpS func147 rfl fun k cs l=>?_;have m:∀w,(alv .nilIface 20 269 true).run aaG w= .ok (.tuple #[.agg #[.int .i64 0],.bool false]) w:=fun w=>by kernel_rfl
 have n:13<=(args++ak1 (f147.ntmps-args.size) undef).size:=by rw[ntmps147];simp;omega
 generalize args++ak1 (f147.ntmps-args.size) undef=T at n;have i:2<T.size:=by omega
 have a:3<T.size:=by omega
 have b:4<T.size:=by omega
 have c:5<T.size:=by omega
 have d:6<T.size:=by omega
 have f:7<T.size:=by omega
 have g:8<T.size:=by omega
 have h:9<T.size:=by omega
 apply wpS_seq;apply wpS_region;simp[wpOpsS,go_sem,recoverD,l,m,Exit.thenS,i,a,b,c,d,f,g,h];apply wpS_seq;apply wpS_region;simp[wpOpsS,go_sem,Exit.thenS,a,b,c,d,f,g,h];refine wpS_cond (t:=false) (by simp[anf,i,a,b,c,d,f,g,h]) ?_;simp only[aes,if_false];refine wpS_of_wp (wp_skip ?_);cases k;simp_all[bodyPostS,results,Tryz.results147]
end Go.Nx
namespace Go.Nx
open Go Go.Proofs Go.RowKit Go.Lib
variable{Γ:az}{H:List Ob}{w:World}
def az.to(Γ:az)(w:World):az:={Γ with w:=w}
def zJ(a:aZ Γ H)(c:Below Γ.w.heap.size Γ.w w):Γ.Le (Γ.to w)where
 F _ _ h:=h
 mem b z h:=c.block b (a.F b z h)
 hs _ i v d:=⟨i,v,d,ad3 _,fun _=>rfl⟩
def Q3(c:aZ Γ H)(a:Below Γ.w.heap.size Γ.w w):Γ.cL (Γ.to w)where
 le:=zJ c a
 os:=a.os
 tape:=a.tape
 output:=a.output
 size:=a.size
 frame b h _:=a.block b h
 mF _ _ h:= .inl h
 lj _ h:= .inl h
def anD(a:aZ Γ H)(c:Below Γ.w.heap.size Γ.w w):aZ (Γ.to w) H where
 len:=a.len
 ob h o e:=(a.ob h o e).aK (zJ a c) rfl (fun _ _ _ _ _ _ d f=>⟨c.block _ (a.X _ d),f,d⟩)
 apart:=a.apart
 F b z h:=aiS (a.F b z h) c.size
 X b h:=aiS (a.X b h) c.size
 G:=a.G.le (zJ a c)
def az.bare(Γ:az):az:=⟨Γ.w,Γ.F,fun _=>False,[]⟩
def wJ(a:aZ Γ H):aZ Γ.bare []where
 len:=rfl
 ob h o b:=by simp at b
 apart h _ _ _ o _ _ _ _ b:=by simp at b
 F:=a.F
 X _ h:=h.elim
 G:=fun p hp=>⟨(a.G p hp).1,by
  have h:=a.G p hp
  simp only[sK,aeM,aiV,or_false]at hp
  rcases hp with rfl|rfl
  .have ⟨_,h⟩:=h
   simp only[li,ag9,aiU,bE,cR,aB]at h|-
   exact h
  .have ⟨_,h⟩:=h
   simp only[bE,cR,aB]at h|-
   exact h⟩
def HM{a:az}(h:Γ.bare.cL a):Below Γ.w.heap.size Γ.w a.w:=⟨h.os,h.tape,h.output,h.size,fun k b=>h.frame k b (fun h=>h)⟩
def GF{P:Program}{f:FuncId}{args:List aw}{r:aw}{c:List Ob}(hc:Call P f args [] r c)(g:aZ Γ H){args':Array Value}(h:bT Γ.bare args args'.toList):
  Calls P f args' Γ.w fun e b=>∃y a,e= .returned y/\a.w=b/\Below Γ.w.heap.size Γ.w b/\aZ a c/\aL a r y:=
 (hc.2 _ (wJ g) _ h).mono fun e b ⟨y,a,i,d,j,k,l⟩=>⟨y,a,i,d,d▸HM j,k,l⟩
def aeD(f:List aw):enters aaG 147=true/\∀Γ H,aZ Γ H->∀args:Array Value,bT Γ f args.toList->CallsD aaG 147 args .returning Γ.w fun e u a=>u= .returning/\∃y b,e= .returned y/\b.w=a/\Γ.cL b/\aZ b H:=by
 refine⟨by kernel_rfl,fun Γ H c args _=>(aga args Γ.w).mono fun e u a ⟨g,h,i⟩=>?_⟩;have d:Below Γ.w.heap.size Γ.w a:=by rw[i];exact((Below.refl _ _).alloc (ad3 _) _).setCell (p:=⟨Γ.w.heap.size,0,none⟩) (ad3 _) _
 exact⟨g,_,Γ.to a,h,rfl,Q3 c d,anD c d⟩
end Go.Nx
namespace Go.Proofs
open Go.Shelf
def Tryz.MX:aml:=⟨fun|169=>52|n=>n,fun|70=>134|9=>9|0=>0|72=>137|37=>135|127=>210|3=>3|5=>5|n=>n,fun|n=>n⟩
def Tryz.Te:amH aaG Tryz.MX:={
 mixed:=by kernel_rfl
 f169:=Tryz.func52.trans (congrArg some (by kernel_rfl))
 t0:=amg
 a0:=Tryz.isAgg0
 z0:=Tryz.sizeOf0
 v0:=amw
 t3:=amf
 a3:=Tryz.isAgg3
 z3:=Tryz.sizeOf3
 v3:=amv
 t9:=alf
 a9:=Tryz.isAgg9
 z9:=Tryz.sizeOf9
 v9:=amt
 t37:=Tryz.underlying135
 a37:=Tryz.isAgg135
 z37:=Tryz.sizeOf135
 v37:=Tryz.zeroValue135
 t70:=akY
 a70:=Tryz.isAgg134
 z70:=Tryz.sizeOf134
 v70:=Tryz.zeroValue134
 t72:=Tryz.underlying137
 a72:=Tryz.isAgg137
 z72:=Tryz.sizeOf137
 v72:=Tryz.zeroValue137
 t127:=Tryz.underlying210
 a127:=Tryz.isAgg210
 z127:=Tryz.sizeOf210
 v127:=Tryz.zeroValue210}
def Tryz.YF:aml:=⟨fun|138=>86|195=>143|218=>144|143=>145|219=>229|217=>280|225=>281|224=>282|267=>283|266=>322|314=>323|n=>n,fun|9=>9|3=>3|4=>4|5=>5|0=>0|46=>248|146=>439|51=>349|n=>n,fun|1=>1|n=>n⟩
def Tryz.P3:amI aaG Tryz.YF:={
 mixed:=by kernel_rfl
 f138:=Tryz.func86.trans (congrArg some (by kernel_rfl))
 f143:=Tryz.func145.trans (congrArg some (by kernel_rfl))
 f195:=Tryz.func143.trans (congrArg some (by kernel_rfl))
 f217:=Tryz.func280.trans (congrArg some (by kernel_rfl))
 f218:=Tryz.func144.trans (congrArg some (by kernel_rfl))
 f219:=Tryz.func229.trans (congrArg some (by kernel_rfl))
 f224:=Tryz.func282.trans (congrArg some (by kernel_rfl))
 f225:=Tryz.func281.trans (congrArg some (by kernel_rfl))
 f266:=Tryz.func322.trans (congrArg some (by kernel_rfl))
 f267:=Tryz.func283.trans (congrArg some (by kernel_rfl))
 f314:=Tryz.func323.trans (congrArg some (by kernel_rfl))
 t0:=amg
 a0:=Tryz.isAgg0
 z0:=Tryz.sizeOf0
 v0:=amw
 t3:=amf
 a3:=Tryz.isAgg3
 z3:=Tryz.sizeOf3
 v3:=amv
 t4:=ame
 a4:=Tryz.isAgg4
 z4:=Tryz.sizeOf4
 v4:=Tryz.zeroValue4
 t5:=amd
 a5:=Tryz.isAgg5
 z5:=Tryz.sizeOf5
 v5:=amu
 t9:=alf
 a9:=Tryz.isAgg9
 z9:=Tryz.sizeOf9
 v9:=amt
 t46:=Tryz.underlying248
 a46:=Tryz.isAgg248
 z46:=Tryz.sizeOf248
 v46:=Tryz.zeroValue248
 t51:=alT
 a51:=Tryz.isAgg349
 z51:=Tryz.sizeOf349
 v51:=Tryz.zeroValue349
 t146:=Tryz.underlying439
 a146:=Tryz.isAgg439
 z146:=Tryz.sizeOf439
 v146:=Tryz.zeroValue439
 g1:=by kernel_rfl}
end Go.Proofs
namespace Go.Nx
open Go Go.Proofs Tryz
instance iW11:W:=W4
abbrev oK:=FuncId->List aw->List Ob->Option (aw×List Ob)
noncomputable def tzO(l:List Nat)(a:oK):bu:={tz with dH:=fun f=>l.contains f,dF:=a}
def aeo(l:List Nat)(a:oK):ly (tzO l a) 0 60=true:=by kernel_rfl
def aaH(l:List Nat)(a:oK):ly (tzO l a) 60 60=true:=by kernel_rfl
def Xw(l:List Nat)(a:oK):ly (tzO l a) 120 60=true:=by kernel_rfl
def aaZ(l:List Nat)(a:oK):ly (tzO l a) 180 60=true:=by kernel_rfl
def ago(l:List Nat)(a:oK):ly (tzO l a) 240 60=true:=by kernel_rfl
def S8(l:List Nat)(a:oK):ly (tzO l a) 300 60=true:=by kernel_rfl
def WV(l:List Nat)(a:oK):ly (tzO l a) 360 60=true:=by kernel_rfl
def U3(l:List Nat)(b:oK)(f:Nat)(h:Func)(c:Code)(e:f≠52)(d:(tzO l b).P.funcs[f]?=some h)(g:h.body=some c):codeOk (tzO l b) f (h.params.size+h.nfree) h.ntmps c=true:=by
 have i:f<417:=by have:=(ajC.1 d).1;change f<aaG.funcs.size at this;rwa [Rw]at this
 by_cases j:f<60
 .exact mB (a:=0) (n:=60) (aeo l b) (by omega) (by omega) e d g
 by_cases k:f<120
 .exact mB (a:=60) (n:=60) (aaH l b) (by omega) (by omega) e d g
 by_cases m:f<180
 .exact mB (a:=120) (n:=60) (Xw l b) (by omega) (by omega) e d g
 by_cases o:f<240
 .exact mB (a:=180) (n:=60) (aaZ l b) (by omega) (by omega) e d g
 by_cases p:f<300
 .exact mB (a:=240) (n:=60) (ago l b) (by omega) (by omega) e d g
 by_cases q:f<360
 .exact mB (a:=300) (n:=60) (S8 l b) (by omega) (by omega) e d g
 .exact mB (a:=360) (n:=60) (WV l b) (by omega) (by omega) e d g
def zL(l:List Nat)(d:oK)(k:52∈l)(m:∀f a H r b,f∈l->d f a H=some (r,b)->Call aaG f a H r b):gU (tzO l d):={
 enters:=uI
 qS:=fun f a H r b i n=>m f a H r b (by simpa[tzO,ajJ]using i) n
 kR:=fun g a h=>by
  have o:(ajx g 147&&ajx 4 4)=true:=h
  obtain rfl:g=147:=by simpa using o
  exact aeD a
 follows:=wW
 code:=fun f p c i q s=>U3 l d f p c (fun e=>by
  subst e
  have j:l.contains 52=false:=i
  rw[ajJ.2 k]at j
  cases j) q s}
end Go.Nx
namespace Go.Nx
open Go Go.Proofs Go.RowKit
variable{vs:List aw}{H H':List Ob}{r:aw}
def wq{l:ab}{s:List UInt8}(h:strOf l=some s):∃b:ByteArray,l= .v (.string b)/\b.data.toList=s:=by
 unfold strOf at h;split at h
 .cases h;exact⟨_,rfl,rfl⟩
 .cases h
def Qp(c:UInt8):∀s:List UInt8,yt c s=s.count c
 |[]=>rfl
 |x::r=>by
  simp only[yt,List.count_cons,Qp c r,beq_iff_eq]
  omega
def Mu(c:UInt8):∀(s:List UInt8) (i:Nat),yM c i s=if alK s c= -1 then -1 else alK s c+i
 |[],i=>rfl
 |x::r,i=>by
  have a:=Lib.indexByte_ge r c
  simp only[yM,alK,Mu c r,beq_iff_eq]
  split<;>split<;>simp_all<;>omega
def Qy{b:ByteArray}{c:UInt8}(h:b.data.toList=[c]):b=⟨#[c]⟩:=by
 have⟨d⟩:=b;simp at h;have:d= #[c]:=by rw[<-amm];simpa using h
 rw[this]
def T0(h:AF vs H=some (r,H')):Call aaG 86 vs H r H':=by
 unfold AF at h;split at h
 .split at h
  .rename_i a b _ _ s c i j;cases h;obtain⟨f,rfl,rfl⟩:=wq i;obtain⟨p,rfl,k⟩:=wq j;obtain rfl:=Qy k;refine⟨by kernel_rfl,fun d l g hc=>?_⟩;simp only[bT,aL,aB]at hc;obtain⟨y,q,t,⟨rfl,_⟩,u,v,m,⟨rfl,_⟩,rfl⟩:=hc;subst m;obtain rfl:g= #[.string f,.string ⟨#[c]⟩]:=by cases g;simp_all
   exact(Any.strings_Count_one Tryz.P3 f c d.w).mono fun e x ⟨n,o⟩=>⟨_,d,n,o.symm,.refl d,l,by
    simp only[aL,aB,Qp,Lib.countByte]
    exact⟨trivial,rfl⟩⟩
  .cases h
 .cases h
def agv(h:AO vs H=some (r,H')):Call aaG 280 vs H r H':=by
 unfold AO at h;split at h
 .split at h
  .rename_i a c _ s g;split at h
   .rename_i p;cases h;obtain⟨b,rfl,rfl⟩:=wq g;refine⟨by kernel_rfl,fun d i f hc=>?_⟩;simp only[bT,aL,aB]at hc;obtain⟨y,q,t,⟨rfl,_⟩,u,v,j,⟨rfl,_⟩,rfl⟩:=hc;subst j;obtain rfl:f= #[.string b,.int .u8 c]:=by cases f;simp_all
    exact(Any.stringslite_IndexByte {Tryz.P3 with} b c d.w).mono fun e x ⟨k,l⟩=>⟨_,d,k,l.symm,.refl d,i,by
     have m:=Mu (al1 c.toNat) b.data.toList 0
     have n:c.toNat.toUInt8=al1 c.toNat:=rfl
     simp only[aL,aB,n,m]
     refine⟨?_,rfl⟩
     split
     .rename_i o;rw[o]
     .simp⟩
   .cases h
  .cases h
 .cases h
end Go.Nx
namespace Go.Nx
open Go Go.Proofs Tryz
def J9:List Nat:=qj++vK++[86,280]
noncomputable abbrev tz0:bu:=tzO J9 tz.dF
def JM:gU tz0:=zL J9 tz.dF (by decide) (fun f e H r g b a=>by
 have c:f∈qj\/f∈vK\/f∈ [86,280]:=by
  rcases ain.1 b with h|h
  .rcases ain.1 h with h|h
   .exact .inl h
   .exact .inr (.inl h)
  .exact .inr (.inr h)
 rcases c with h|h|h
 .exact wE W4 h a
 .exact Qz W4 h a
 .have d:f=86\/f=280:=by simpa using h
  rcases d with rfl|rfl
  .exact T0 (gB W4 (h:=AF) (by kernel_rfl) a)
  .exact agv (gB W4 (h:=AO) (by kernel_rfl) a))
def call285:Call aaG 285 [.c (Sg [49]),.c (Sg [44])] [] (ER 0 0 0 1) [ah 1 [[Sg [49]]]]:=xH (n:=60) JM (by kernel_rfl)
def call233(p:Option Addr):Call aaG 233 [.c (.v (.pointer p)),.c (Sg [49])] [] (aa 1) []:=xH (n:=60) JM (by kernel_rfl)
section
variable{Γ:az}{H:List Ob}{w:World}
def SJ(k:aZ Γ H)(l:ajb Γ.w.heap.size Γ.w w):Calls aaG 285 #[.string ⟨#[49]⟩,.string ⟨#[44]⟩] w fun e d=>∃b o cap,e= .returned (.slice (some ⟨b,o,none⟩) 1 cap)/\d.cell? ⟨b,o,none⟩=some (.string ⟨#[49]⟩)/\ajb w.heap.size w d:=by
 refine(GF call285 (Γ:=Γ.to w) (anD k l) (args':= #[.string ⟨#[49]⟩,.string ⟨#[44]⟩]) ?_).mono ?_
 .simp only[bT,aL,aB];exact⟨_,_,rfl,⟨rfl,rfl⟩,_,_,rfl,⟨rfl,rfl⟩,rfl⟩
 .rintro e d⟨y,s,rfl,rfl,m,n,g⟩;simp only[aL,aB]at g;obtain⟨t,ver,a,cap,p,_,rfl,q⟩:=g;have⟨u,i,v,c⟩:=n.obj (h:=0) (ver:=0) (z:=1) (rows:=[[Sg [49]]]) rfl;rw[p]at i;cases i;rcases q rfl with⟨f,_⟩|⟨b,x,f,rfl,rfl,A,r⟩
  .simp only[f]at c;cases c
  .simp only[f]at c;have⟨_,_,_,_,_,cells,T,B,C,j⟩:=c;obtain rfl:=r (by omega);simp only[bE,cR,aB,and_true]at j;obtain⟨_,D,c1,rfl,_⟩:=j;exact⟨b,_,_,rfl,by simpa using c1,m⟩
def S4(c:aZ Γ H)(d:ajb Γ.w.heap.size Γ.w w)(p:Option Addr):Calls aaG 233 #[.pointer p,.string ⟨#[49]⟩] w fun e a=>e= .returned (.int .i64 1)/\ajb w.heap.size w a:=by
 refine(GF (call233 p) (Γ:=Γ.to w) (anD c d) (args':= #[.pointer p,.string ⟨#[49]⟩]) ?_).mono ?_
 .simp only[bT,aL,aB];exact⟨_,_,rfl,⟨rfl,rfl⟩,_,_,rfl,⟨rfl,rfl⟩,rfl⟩
 .rintro e a⟨y,g,rfl,rfl,f,h,b⟩;simp only[aL,aB]at b;obtain⟨rfl,_⟩:=b;exact⟨rfl,f⟩
def Ws:(aaG.info? 3).map (fun i=>(i.zero,i.size,i.bytes))=some (some (.int .i64 0),1,8):=by kernel_rfl
set_option maxRecDepth 100000 in
def WX(h:aZ Γ H)(p:Option Addr):Calls aaG 234 #[.pointer p,.string ⟨#[49]⟩] Γ.w fun e i=>∃b cap a,e= .returned (.slice (some ⟨b,0,none⟩) 1 cap)/\Γ.w.heap.size<=b/\i.heap[b]?=some (.cells a 3 (0,0))/\a[0]?=some (.int .i64 1)/\1<=cap/\cap<=maxLen/\a.size=cap/\ajb Γ.w.heap.size Γ.w i:=by
 have⟨r,s,t,v,x⟩:=info_parts Ws;have M:∀(l:Go.Fn) (first cap:Array Value) (w:World),(Instr.makeFunc l first cap).run aaG w= .ok (.func l first cap) w:=fun _ _ _ _=>rfl;go_enter func234,ntmps234
 go_wp2_with fail
 refine(SJ h (aj4 _ _)).mono ?_;rintro e w1 ⟨b,o,cap,rfl,N,d⟩;go_wp2_with fail
 refine wp_loop_rounds 2 ?_;rw[rounds_succ];go_wp2_with fail
 refine(S4 h d p).mono ?_;rintro e w2 ⟨rfl,y⟩;have c:ajb Γ.w.heap.size Γ.w w2:=d.trans (y.mono d.size);go_wp2_with (at_builtin;refine wpList_append_own _ rfl _ _ 30 rfl Γ.w.heap.size 3 r (.int .i64 0) 1 8 underlying30 s t v x rfl (by decide) _ 0 [] rfl ⟨rfl,.inl ⟨rfl,rfl⟩⟩ ⟨w2.heap.size,0,none⟩ 1 1 [.int .i64 1] rfl rfl ?c1 ?c2 ?c3 ?c4 ?c5 ?_)
 case c1=>
  intro j u f;match j with
  |0=>simp at f;subst f;rw[show(⟨w2.heap.size,0,none⟩:Addr).add 0=⟨w2.heap.size,0,none⟩from rfl,aly _ _ _ _ rfl];rfl
  |j+1=>simp at f
 case c2=>intro u m;simp at m;subst m;rfl
 case c3=>unfold maxLen;omega
 case c4=>omega
 case c5=>have:=c.size;simp;omega
 intro O w3 z A _;have B:ajb Γ.w.heap.size Γ.w w3:=(c.alloc c.size _).grown A (by have:=c.size;simp;omega) (fun k C=>by cases C);obtain⟨P,⟨rfl,D⟩|⟨g,E,a,rfl,F,G,I,J,K,n⟩⟩:=z
 .cases D
 have L:a[0]?=some (.int .i64 1):=by
  have q:(a.toList.take 1)[0]?=some (.int .i64 1):=by have e:0+1=1:=rfl;simp only[Nat.mul_one]at n;rw[n];rfl
  rw[aj6 (by omega)]at q;simpa using q
 go_wp2
 rw[rounds_succ];go_wp2
 go_end0
 go_wp2
 go_ret
 exact⟨g,E,a,rfl,F,G,L,I,J,by simpa using K,B⟩
def az.pY(Γ:az)(w:World)(b cap:Nat):az:=⟨w,Γ.F,fun k=>Γ.X k\/k=b,Γ.hs++[(⟨some b,0,cap,1⟩,0)]⟩
def agV(a:aZ Γ H)(c:ajb Γ.w.heap.size Γ.w w){b cap:Nat}{e:Array Value}{T:TypeId}{l:ab}{y:Value}(r:Γ.w.heap.size<=b)(g:w.heap[b]?=some (.cells e T (0,0)))(x:e[0]?=some y)(A:∀Γ,aB Γ l y)(B:1<=cap)(C:cap<=maxLen)(D:e.size=cap):
  Γ.cL (Γ.pY w b cap)/\aZ (Γ.pY w b cap) (H++[ah 1 [[l]]]):=by
 have j:b<w.heap.size:=by
  rcases aj7 b w.heap.size with h|h
  .exact h
  .simp[ajE h]at g
 have s:Γ.Le (Γ.pY w b cap):=⟨fun _ _ h=>h,fun k z h=>c.block k (a.F k z h),fun h i v t=>⟨i,v,by
  have j:h<Γ.hs.length:=(abW.1 t).1
  simp only[az.pY]
  rw[abE j];exact t,ad3 _,fun _=>rfl⟩⟩
 refine⟨⟨s,c.os,c.tape,c.output,c.size,fun k m _=>c.block k m,fun k z h=> .inl h,fun k h=>?_⟩,?_⟩
 .rcases h with h|rfl
  .exact .inl h
  .exact .inr r
 refine a.put s H.length (by simp[az.pY,a.len]) (fun n hn=>⟨ot _ _ _ hn,by simp only[az.pY];exact ot _ _ _ (by rw[<-a.len];exact hn)⟩) (fun o p=>?_) (fun o E v G p _ f u=>?_) (fun k m _=>c.block k m)
  (fun b z d=> .inl d) (fun b q=> .inl q) (fun k z d=>aiS (a.F k z d) c.size) (fun k q=>?_)
 .simp at p
  subst p
  refine⟨⟨some b,0,cap,1⟩,by simp[az.pY,a.len],C,rfl,.inr rfl,fun z d=>?_,by simpa using B,by simp,e,T,.fresh g,by simp[D],?_⟩
  .have:=a.F _ _ d
   omega
  .simp only[bE,cR,and_true]
   refine⟨rfl,y,?_,A _⟩
   rw[cell_of (w:=(Γ.pY w b cap).w) g]
   exact x
 .simp only[az.pY]at f
  rw[a.len]at f
  simp at f
  rw[<-f.1]at u
  cases u
  exact .inl r
 .rcases q with h|rfl
  .exact aiS (a.X k h) c.size
  .exact j
def adw{d:List aw}{r:aw}{f:List Ob}(h:zu d H=some (r,f)):Call aaG 234 d H r f:=by
 unfold zu at h;split at h
 .split at h
  .rename_i x z a _ j;cases h;obtain⟨A,rfl,k⟩:=wq j;obtain rfl:=Qy k;refine⟨by kernel_rfl,fun Γ c g hc=>?_⟩;simp only[bT,aL,aB]at hc;obtain⟨y,B,C,⟨D,E,p,F,G,rfl,J⟩,K,L,m,⟨rfl,_⟩,rfl⟩:=hc;subst m;obtain rfl:g= #[.pointer p,.string ⟨#[49]⟩]:=by cases g;simp_all
   refine(WX c p).mono ?_;rintro e M ⟨b,cap,N,rfl,n,o,q,i,s,t,u⟩;have⟨v,w⟩:=agV c u n o q (l:=I 1) (fun _=>⟨rfl,rfl⟩) i s t;refine⟨_,_,rfl,rfl,v,w,?_⟩;simp only[aL,aB];refine⟨⟨some b,0,cap,1⟩,0,some ⟨b,0,none⟩,cap,by simp[az.pY,c.len],ad3 _,rfl,fun _=> .inr ⟨b,_,rfl,rfl,by simp,by simpa using i,fun _=>by simp⟩⟩
  .cases h
 .cases h
end
end Go.Nx
namespace Go.Nx
open Go Go.Proofs Go.RowKit
def Av:List UInt8->List UInt8->Bool
 |[],[]=>true
 |a::l,b::m=>ajx a.toNat b.toNat&&Av l m
 |_,_=>false
def Mm:∀ {l m:List UInt8},Av l m=true->l=m
 |[],[],_=>rfl
 |a::l,b::m,h=>by
  simp only[Av,abR,akv]at h
  rw[UInt8.toNat_inj.1 h.1,Mm h.2]
def DU:Int->Int->Bool
 | .ofNat a,.ofNat b=>ajx a b
 | .negSucc a,.negSucc b=>ajx a b
 |_,_=>false
def Nc:∀ {a b:Int},DU a b=true->a=b
 | .ofNat a,.ofNat b,h=>by rw[ajv h]
 | .negSucc a,.negSucc b,h=>by rw[ajv h]
def FV:Value->Value->Bool
 | .int .i64 n,.int .i64 m=>DU n m
 | .int .u64 n,.int .u64 m=>DU n m
 | .bool true,.bool true=>true
 | .bool false,.bool false=>true
 | .slice none 0 0,.slice none 0 0=>true
 | .string s,.string t=>Av s.data.toList t.data.toList
 |_,_=>false
def SN{x y:Value}(h:FV x y=true):x=y:=by
 unfold FV at h;split at h
 .rw[Nc h]
 .rw[Nc h]
 .rfl
 .rfl
 .rfl
 .rename_i s t;have a:=Mm h;have⟨⟨s⟩⟩:=s;simp_all
 .cases h
mutual
def mq:ab->ab->Bool
 | .v x,.v y=>FV x y
 | .aj r,.aj s=>tf r s
 | .ptr a b c d,.ptr e f g h=>ajx a e&&ajx b f&&ajx c g&&ajx d h
 | .sl a b c d,.sl e f g h=>ajx a e&&ajx b f&&ajx c g&&ajx d h
 | .mr a,.mr b=>ajx a b
 |_,_=>false
def sH:List ab->List ab->Bool
 |[],[]=>true
 |a::l,b::m=>mq a b&&sH l m
 |_,_=>false
def tf:List (List ab)->List (List ab)->Bool
 |[],[]=>true
 |a::l,b::m=>sH a b&&tf l m
 |_,_=>false
end
mutual
theorem Hb:∀ {a b:ab},mq a b=true->a=b
 | .v x,b,h=>by
  cases b<;>simp only[mq]at h<;>first|cases h|rw[SN h]
 | .aj r,b,h=>by
  cases b<;>simp only[mq]at h<;>first|cases h|rw[Cu h]
 | .ptr a b c d,x,h=>by
  cases x<;>simp only[mq,abR,akv]at h<;>first|cases h;done|grind
 | .sl a b c d,x,h=>by
  cases x<;>simp only[mq,abR,akv]at h<;>first|cases h;done|grind
 | .mr a,x,h=>by
  cases x<;>simp only[mq,akv]at h<;>first|cases h;done|grind
 | .aJ ..,_,h=>by simp[mq]at h
 | .eU ..,_,h=>by simp[mq]at h
 | .bF ..,_,h=>by simp[mq]at h
 | .ig ..,_,h=>by simp[mq]at h
 | .mG ..,_,h=>by simp[mq]at h
theorem Ae:∀ {a b:List ab},sH a b=true->a=b
 |[],[],_=>rfl
 |a::l,b::m,h=>by
  simp only[sH,abR]at h
  rw[Hb h.1,Ae h.2]
 |[],_::_,h=>by simp[sH]at h
 |_::_,[],h=>by simp[sH]at h
theorem Cu:∀ {a b:List (List ab)},tf a b=true->a=b
 |[],[],_=>rfl
 |a::l,b::m,h=>by
  simp only[tf,abR]at h
  rw[Ae h.1,Cu h.2]
 |[],_::_,h=>by simp[tf]at h
 |_::_,[],h=>by simp[tf]at h
end
def zj:List (List ab×ab)->List (List ab×ab)->Bool
 |[],[]=>true
 |(a,x)::l,(b,y)::m=>sH a b&&mq x y&&zj l m
 |_,_=>false
theorem LG:∀ {l m:List (List ab×ab)},zj l m=true->l=m
 |[],[],_=>rfl
 |(a,x)::l,(b,y)::m,h=>by
  simp only[zj,abR]at h
  rw[Ae h.1.1,Hb h.1.2,LG h.2]
def Cc:Ob->Ob->Bool
 | .live v z r,.live a b c=>ajx v a&&ajx z b&&tf r c
 | .dead,.dead=>true
 | .mp e,.mp f=>zj e f
 |_,_=>false
def agq{a b:Ob}(h:Cc a b=true):a=b:=by unfold Cc at h;grind [akv,Cu,LG]
def xC:List Ob->List Ob->Bool
 |[],[]=>true
 |a::l,b::m=>Cc a b&&xC l m
 |_,_=>false
theorem NN:∀ {l m:List Ob},xC l m=true->l=m
 |[],[],_=>rfl
 |a::l,b::m,h=>by
  simp only[xC,abR]at h
  rw[agq h.1,NN h.2]
def sJ:List aw->List aw->Bool
 |[],[]=>true
 | .c a::l,.c b::m=>mq a b&&sJ l m
 | .agg a::l,.agg b::m=>sH a b&&sJ l m
 |_,_=>false
theorem Cy:∀ {l m:List aw},sJ l m=true->l=m
 |[],[],_=>rfl
 | .c a::l,.c b::m,h=>by
  simp only[sJ,abR]at h
  rw[Hb h.1,Cy h.2]
 | .agg a::l,.agg b::m,h=>by
  simp only[sJ,abR]at h
  rw[Ae h.1,Cy h.2]
def zK:Ob->Ob->Ob
 | .live v z _,.live _ _ []=> .live v z []
 |o,_=>o
def nF:List Ob->List Ob->List Ob
 |o::H,x::R=>zK o x::nF H R
 |H,_=>H
theorem ab3(o x:Ob):zK o x=o\/∃v z rows,o= .live v z rows/\zK o x= .live v z []:=by unfold zK;grind
def Jf:∀(H R:List Ob) (i:Nat),(nF H R)[i]?=H[i]?\/∃v z rows,H[i]?=some (.live v z rows)/\(nF H R)[i]?=some (.live v z [])
 |[],R,i=>by cases R<;>exact .inl rfl
 |o::H,[],i=> .inl rfl
 |o::H,x::R,i=>by
  cases i with
  |zero=>
   grind [nF,ab3]
  |succ i=>
   simp only[nF,List.getElem?_cons_succ]
   exact Jf H R i
def KX:∀(H R:List Ob),(nF H R).length=H.length
 |[],R=>by rfl
 |o::H,[]=>rfl
 |o::H,x::R=>by simp only[nF,aip,KX H R]
theorem Nw{H R:List Ob}{i:Nat}{o:Ob}(h:(nF H R)[i]?=some o):∃a,H[i]?=some a/\a.there=o.there:=by
 rcases Jf H R i with e|⟨v,z,rows,c,b⟩
 .grind
 .rw[h]at b;cases b;exact⟨_,c,rfl⟩
def ahj{d:az}{H:List Ob}(a:aZ d H)(R:List Ob):aZ d (nF H R)where
 len:=by rw[KX];exact a.len
 ob i o h:=by
  rcases Jf H R i with e|⟨v,z,rows,f,c⟩
  .grind [aZ.ob]
  .rw[h]at c
   cases c
   have⟨g,k,l,m⟩:=a.ob i _ f
   refine⟨g,k,l,?_⟩
   grind [bE]
 apart i j v n o p g q b f c r s t u w x:=by
  grind [Nw,aZ.apart]
 F:=a.F
 X:=a.X
 G:=a.G
theorem Call.nF{P:Program}{f:FuncId}{args:List aw}{H b R:List Ob}{r:aw}(h:Call P f args H r b)(e:Nx.nF b R=R):Call P f args H r R:=
 ⟨h.1,fun c d a hc=>(h.2 c d a hc).mono fun _ _ ⟨y,g,i,j,k,l,m⟩=>⟨y,g,i,j,k,e▸ahj l R,m⟩⟩
abbrev EI:=List (List aw×List Ob×aw×List Ob)
def xR:EI->List aw->List Ob->Option (aw×List Ob)
 |[],_,_=>none
 |(a,h,r)::t,b,H=>cond (sJ a b&&xC h H) (some r) (xR t b H)
def KU{P:Program}{f:FuncId}:∀ {T:EI} {b:List aw} {H:List Ob} {r:aw} {c:List Ob},xR T b H=some (r,c)->(∀e∈T,Call P f e.1 e.2.1 e.2.2.1 e.2.2.2)->Call P f b H r c
 |(a,h,g)::t,b,H,r,c,e,d=>by
  unfold xR at e
  cases hc:(sJ a b&&xC h H)with
  |true=>
   rw[hc]at e
   cases e
   simp only[abR]at hc
   have:=d _ (ajz ..)
   grind [Cy,NN]
  |false=>
   rw[hc]at e
   exact KU e fun e h=>d e (aiO _ h)
end Go.Nx
namespace Go.Nx
open Go Go.Proofs Tryz
def D6:List Nat:=J9++[234]
noncomputable abbrev tz1:bu:=tzO D6 tz.dF
def od:gU tz1:=zL D6 tz.dF (by decide) (fun f b H r c d a=>by
 rcases ain.1 d with h|h
 .exact JM.qS f b H r c (by simpa[tzO,ajJ]using h) a
 .obtain rfl:f=234:=by simpa using h
  exact adw (gB W4 (h:=zu) (by kernel_rfl) a))
def fit{C:bu}(b:gU C)(n:Nat){f:FuncId}{a:List aw}{G R:List Ob}{r:aw}(h:(bB C (run C n) f a G).map (fun p=>(p.1,nF p.2 R))=some (r,R)):Call C.P f a G r R:=by have⟨⟨x,H⟩,c,d⟩:=ab4.1 h;injection d with e g;subst e;exact(xH b c).nF g
def oT:List Ob:=[ah 1 [],ah 2 [],ah 6 [],ah 5 [],ah 3 [],ah 1 [[I 0]],.live 1 10 [],ah 1 [[Sg [5,0,1]]],.live 5 6 [[I 3,I 0,I 1,I 0,I 0,.aj []],[I 6,I 0,I 0,I 0,I 0,.aj []],[I 7,I 0,I 1,I 0,I 0,.aj []],[I 6,I 1,I 0,I 0,I 0,.aj []],[I 7,I 1,I 0,I 0,I 0,.aj []],[I 0,I 0,I 0,I 1,I 0,.aj [[I 1]]]],ah 8 [[I 2,I 8,I 1,I 8,I 9,.sl 13 0 0 2,.mr 15,.mr 16]],ah 6 [[I 3,I 0,I 1,I 0,I 0,.aj []]],.mp [([I 0,I 1],.ptr 31 0 0 0)],ah 3 [[I 5,I 1,I 0]],ah 3 [[I 2,I 8,.mr 29]],ah 6 [[I 6,I 0,I 0,I 0,I 0,.aj []]],ah 1 [[Sg [6,0,1]]],ah 1 [[Sg [78,1,1,0,1,0,0,0,0,0,0,0,0,0,0,0,0,0,0,0,0,0,3,5,0,1,81,62,229,102]],[Sg []],[Sg []],[Sg []],[Sg []],[Sg []],[Sg []],[Sg []]],ah 6 [[I 7,I 0,I 1,I 0,I 0,.aj []]],.mp [([I 0,I 1],.ptr 22 0 0 0),([I 1,I 0],.ptr 70 0 0 0)],ah 2 [[.sl 24 0 1 0,I 0]],ah 3 [[.sl 54 0 0 8,I 0,I 0]],ah 3 [[I 6,I 1,I 0]],ah 11 [[I 1,I 2,I 8,I 1,.sl 37 0 0 1,.v (.int .u64 0),I 1,I 1,.v (.int .u64 0),B false,I 0]],ah 6 [[I 6,I 1,I 0,I 0,I 0,.aj []]],.mp [([I 0,I 1],.ptr 55 0 0 0),([I 1,I 0],.ptr 99 0 0 0)],ah 11 [[I 1,I 2,I 8,I 1,.sl 80 0 0 1,.v (.int .u64 0),I 1,I 1,.v (.int .u64 1),B false,I 0]],ah 1 [[Sg [78,1,1,0,1,0,0,0,0,0,0,0,0,0,0,0,0,0,0,0,1,0,3,6,0,1,152,36,136,154]],[Sg []],[Sg []],[Sg []],[Sg []],[Sg []],[Sg []],[Sg []]],.mp [],ah 10 [[I 0,I 2,.aj [[I 1,I 1,I 1,B true,B true,B false,B true,B false]],I 0,.aj [],I 0,.aj [],.aj [[I 1,I 1]],.aj [[I 1]],.aj []],[I 1,I 0,.aj [],I 0,.aj [],I 0,.aj [],.aj [],.aj [],.aj []]],.mp [([I 0,I 1],.ptr 22 0 0 0)],ah 2 [[.sl 24 0 0 1,I 1]],ah 5 [[.ptr 32 0 0 0,.ptr 33 0 0 0,ap,ap,.ptr 30 0 0 0]],ah 11 [[I 1,I 2,I 8,I 1,ap,.v (.int .u64 0),I 0,I 0,.v (.int .u64 0),B false,I 0]],.mp [([I 0,I 1],.ptr 55 0 0 0)],ah 10 [[I 0,I 2,.aj [[I 1,I 1,I 1,B true,B true,B false,B true,B false]],I 0,.aj [],I 0,.aj [],.aj [[I 1,I 1]],.aj [[I 1]],.aj []],[I 1,I 0,.aj [[I 0,I 1,I 0,B false,B false,B true,B false,B true]],I 0,.aj [],I 0,.aj [],.aj [[I 0,I 1]],.aj [],.aj []]],ah 5 [[.ptr 32 0 0 0,.ptr 33 0 0 0,ap,.sl 64 0 0 1,.ptr 30 0 0 0]],ah 2 [[.sl 72 0 0 1,I 1]],ah 6 [[I 7,I 1,I 0,I 0,I 0,.aj []]],ah 5 [[.ptr 32 0 0 0,.ptr 33 0 0 0,.sl 108 0 0 1,.sl 64 0 0 1,.ptr 30 0 0 0]],ah 11 [[I 1,I 2,I 8,I 1,.sl 37 0 1 0,.v (.int .u64 1),I 0,I 0,.v (.int .u64 1),B true,I 0]],ah 2 [[.sl 72 0 1 0,I 0]],ah 3 [[.sl 98 0 0 8,I 0,I 0]],ah 11 [[I 1,I 2,I 8,I 1,.sl 37 0 0 1,.v (.int .u64 0),I 0,I 0,.v (.int .u64 0),B false,I 0]],ah 3 [[.sl 54 0 0 8,I 0,I 1]],.live 1 5 [],.live 1 1 [[I 0],[I 0]],ah 11 [[I 1,I 2,I 8,I 1,.sl 80 0 0 1,.v (.int .u64 0),I 0,I 0,.v (.int .u64 1),B true,I 0]],.live 2 5 [[I 6,I 1,I 0,I 0,ap]],.live 2 1 [[I 0],[I 0],[I 0]],ah 3 [[.sl 98 0 0 8,I 0,I 1]],.live 3 5 [[I 6,I 1,I 0,I 0,ap]],.live 3 1 [[I 0],[I 0],[I 0],[I 0]],ah 10 [[I 0,I 0,.aj [[I 1,I 1,I 0,B true,B true,B false,B true,B false]],I 0,.aj [],I 0,.aj [],.aj [[I 1,I 1]],.aj [],.aj []],[I 1,I 0,.aj [[I 0,I 1,I 0,B false,B false,B true,B false,B true]],I 0,.aj [],I 0,.aj [],.aj [[I 0,I 1]],.aj [],.aj []]],.live 4 5 [[I 6,I 1,I 0,I 0,ap],[I 6,I 0,I 0,I 1,ap]],.live 4 1 [[I 0],[I 0],[I 0],[I 0],[I 0]],ah 6 [[I 0,I 0,I 0,I 1,I 0,.aj [[I 1]]]],ah 11 [],ah 10 [[I 0,I 0,.aj [],I 0,.aj [],I 0,.aj [],.aj [],.aj [],.aj []],[I 1,I 0,.aj [],I 0,.aj [],I 0,.aj [],.aj [],.aj [],.aj []]],ah 2 [[.sl 13 0 0 2,.aj []]],ah 10 [[I 0,I 0,.aj [[I 1,I 1,I 0,B true,B true,B false,B true,B false]],I 2,.aj [[I 1]],I 1,.aj [[I 1,.aj [[I 1]],I 1,I 0]],.aj [[I 1,I 1]],.aj [],.aj []],[I 1,I 0,.aj [[I 0,I 1,I 0,B false,B false,B true,B false,B true]],I 0,.aj [],I 0,.aj [],.aj [[I 0,I 1]],.aj [],.aj []]],.live 5 6 [],ah 10 [],ah 8 [],.live 5 5 [[I 6,I 1,I 0,I 0,ap],[I 6,I 0,I 0,I 1,ap],[I 0,I 0,I 1,I 0,.aj [[I 1]]],[I 1,I 0,I 1,I 0,ap]],.live 5 1 [[I 0],[I 0],[I 0],[I 0],[I 0],[I 0]]]
def hp:List Nat->List Ob
 |[]=>[]
 |i::r=>oT.getD i .dead::hp r
def zn:List Ob:=hp [2,2,8,2,2,2,2,2,2,2,2,2,2]
def call48:Call aaG 48 [.c (Sg te)] [] (.aM [ER 2 5 0 6,aa 0,aa 0]) zn:=fit od 100 (by kernel_rfl)
def OT:List Ob:=hp [2,2,8,2,2,2,2,2,2,2,2,2,2,57,58,27,27,9,10]
def Nz:List Ob:=hp [2,2,8,2,2,2,2,2,2,2,2,2,2,28,1,11,29,9,10,6,3,1,30,4,12,0,0,1,1,27,13,31,42,32,0,0,0,7]
def UG:Call aaG 92 [au 17,.agg [I 3,I 0,I 1,I 0,I 0,.aj []]] OT (.aM [.c (ap),aa 0]) Nz:=fit od 200 (by kernel_rfl)
def OR:List Ob:=hp [2,2,8,2,2,2,2,2,2,2,2,2,2,28,1,11,29,9,10,6,3,1,30,4,12,0,0,1,1,27,13,31,42,32,0,0,0,7,3,5,5,14]
def Og:List Ob:=hp [2,2,8,2,2,2,2,2,2,2,2,2,2,28,1,11,29,9,10,6,3,1,30,4,12,0,0,1,1,33,13,31,22,32,0,0,0,7,3,5,5,14,0,0,1,0,0,1,0,0,3,3,3,1,16,43]
def adg:Call aaG 92 [au 17,.agg [I 6,I 0,I 0,I 0,I 0,.aj []]] OR (.aM [.c (ap),aa 0]) Og:=fit od 200 (by kernel_rfl)
def O2:List Ob:=hp [2,2,8,2,2,2,2,2,2,2,2,2,2,28,1,11,29,9,10,6,3,1,30,4,12,0,0,1,1,33,13,31,22,32,0,0,0,7,44,5,45,14,0,0,1,0,0,1,0,0,3,3,3,1,16,43,5,17]
def Ma:List Ob:=hp [2,2,8,2,2,2,2,2,2,2,2,2,2,34,1,11,18,9,10,6,3,1,19,4,12,0,0,1,1,33,13,35,22,46,0,0,0,7,44,5,45,14,0,0,1,0,0,1,0,0,3,3,3,1,16,20,5,17,1,1,1,1,3,0,7,1,4,6,3,1,36,4,21,0,0,1,1,0,0,0,15,0,0,1]
def Tq:Call aaG 92 [au 17,.agg [I 7,I 0,I 1,I 0,I 0,.aj []]] O2 (.aM [bh [[I 6,I 1,I 0,I 0,ap]],aa 0]) Ma:=fit od 200 (by kernel_rfl)
def Qd:List Ob:=hp [2,2,8,2,2,2,2,2,2,2,2,2,2,34,1,11,18,9,10,6,3,1,19,4,12,0,0,1,1,33,13,35,22,46,0,0,0,7,47,5,48,14,0,0,1,0,0,1,0,0,3,3,3,1,16,20,5,17,1,1,1,1,3,0,7,1,4,6,3,1,36,4,21,0,0,1,1,0,0,0,15,0,0,1,5,23]
def Sq:List Ob:=hp [2,2,8,2,2,2,2,2,2,2,2,2,2,34,1,11,18,9,10,6,3,1,19,4,12,0,0,1,1,24,13,35,22,25,0,0,0,7,47,5,48,14,0,0,1,0,0,1,0,0,3,3,3,1,16,20,5,17,1,1,1,1,3,0,7,1,4,6,3,1,36,4,21,0,0,1,1,0,0,0,15,0,0,1,5,23,0,0,1,0,0,1,0,0,3,3,3,1,26,49]
def adh:Call aaG 92 [au 17,.agg [I 6,I 1,I 0,I 0,I 0,.aj []]] Qd (.aM [.c (ap),aa 0]) Sq:=fit od 200 (by kernel_rfl)
def N3:List Ob:=hp [2,2,8,2,2,2,2,2,2,2,2,2,2,34,1,11,18,9,10,6,3,1,19,4,12,0,0,1,1,24,13,35,22,25,0,0,0,7,50,5,51,14,0,0,1,0,0,1,0,0,3,3,3,1,16,20,5,17,1,1,1,1,3,0,7,1,4,6,3,1,36,4,21,0,0,1,1,0,0,0,15,0,0,1,5,23,0,0,1,0,0,1,0,0,3,3,3,1,26,49,5,37]
def RV:List Ob:=hp [2,2,8,2,2,2,2,2,2,2,2,2,2,52,1,11,18,9,10,6,3,1,19,4,12,0,0,1,1,24,13,38,39,25,0,0,0,7,50,5,51,14,0,0,1,0,0,1,0,0,3,3,3,1,16,20,5,17,1,1,1,1,3,0,7,1,4,6,3,1,40,4,21,0,0,1,1,0,0,0,15,0,0,1,5,23,0,0,1,0,0,1,0,0,3,3,3,1,26,41,5,37,1,1,1,1,3,0,15,1,4,6,0,0,1,0,0,1]
def agB:Call aaG 92 [au 17,.agg [I 7,I 1,I 0,I 0,I 0,.aj []]] N3 (.aM [bh [[I 6,I 0,I 0,I 1,ap]],aa 0]) RV:=fit od 200 (by kernel_rfl)
def OO:List Ob:=hp [2,2,8,2,2,2,2,2,2,2,2,2,2,52,1,11,18,9,10,6,3,1,19,4,12,0,0,1,1,24,13,38,39,25,0,0,0,7,53,5,54,14,0,0,1,0,0,1,0,0,3,3,3,1,16,20,5,17,1,1,1,1,3,0,7,1,4,6,3,1,40,4,21,0,0,1,1,0,0,0,15,0,0,1,5,23,0,0,1,0,0,1,0,0,3,3,3,1,26,41,5,37,1,1,1,1,3,0,15,1,4,6,0,0,1,0,0,1,5,55]
def Sk:List Ob:=hp [2,2,8,2,2,2,2,2,2,2,2,2,2,59,1,11,18,9,10,6,3,1,19,4,12,0,0,1,1,24,13,38,39,25,0,0,0,7,53,5,54,14,0,0,1,0,0,1,0,0,3,3,3,1,16,20,5,17,1,1,1,1,3,0,7,1,4,6,3,1,40,4,21,0,0,1,1,0,0,0,15,0,0,1,5,23,0,0,1,0,0,1,0,0,3,3,3,1,26,41,5,37,1,1,1,1,3,0,15,1,4,6,0,0,1,0,0,1,5,55,6,0,0,1]
def VX:Call aaG 92 [au 17,.agg [I 0,I 0,I 0,I 1,I 0,.aj [[I 1]]]] OO (.aM [bh [[I 0,I 0,I 1,I 0,.aj [[I 1]]],[I 1,I 0,I 1,I 0,ap]],aa 0]) Sk:=fit od 200 (by kernel_rfl)
def Ah:EI:=[([au 17,.agg [I 3,I 0,I 1,I 0,I 0,.aj []]],OT,.aM [.c (ap),aa 0],Nz),([au 17,.agg [I 6,I 0,I 0,I 0,I 0,.aj []]],OR,.aM [.c (ap),aa 0],Og),([au 17,.agg [I 7,I 0,I 1,I 0,I 0,.aj []]],O2,.aM [bh [[I 6,I 1,I 0,I 0,ap]],aa 0],Ma),([au 17,.agg [I 6,I 1,I 0,I 0,I 0,.aj []]],Qd,.aM [.c (ap),aa 0],Sq),([au 17,.agg [I 7,I 1,I 0,I 0,I 0,.aj []]],N3,.aM [bh [[I 6,I 0,I 0,I 1,ap]],aa 0],RV),([au 17,.agg [I 0,I 0,I 0,I 1,I 0,.aj [[I 1]]]],OO,.aM [bh [[I 0,I 0,I 1,I 0,.aj [[I 1]]],[I 1,I 0,I 1,I 0,ap]],aa 0],Sk)]
def afo:∀e∈Ah,Call aaG 92 e.1 e.2.1 e.2.2.1 e.2.2.2:=by
 intro e a;simp only[Ah,aeM,aiV,or_false]at a;rcases a with rfl|rfl|rfl|rfl|rfl|rfl
 .exact UG
 .exact adg
 .exact Tq
 .exact adh
 .exact agB
 .exact VX
def Ru:List Nat:=D6++[92]
noncomputable abbrev zZ:oK:=fun f a H=>cond (ajx f 92) (xR Ah a H) (tz.dF f a H)
noncomputable abbrev XA:bu:=tzO Ru zZ
def aal:gU XA:=zL Ru zZ (by decide) (fun f b H r c g e=>by
 cases a:ajx f 92 with
 |true=>
  have d:xR Ah b H=some (r,c):=by simpa[zZ,a]using e
  rw[ajv a];exact KU d afo
 |false=>
  have d:tz.dF f b H=some (r,c):=by simpa[zZ,a]using e
  rcases ain.1 g with h|h
  .exact od.qS f b H r c (by simpa[tzO,ajJ]using h) d
  .rw[akz.1 h]at a;cases a)
def Ct:List Ob:=hp [2,2,60,2,2,2,2,2,2,2,2,2,2,61,1,11,18,62,2,6,3,1,1,4,4,0,0,1,1,24,4,3,56,56,0,0,0,0,63,0,64,2,0,0,1,0,0,1,0,0,3,3,3,1,0,4,0,2,1,1,1,1,3,0,0,1,4,6,3,1,1,4,4,0,0,1,1,0,0,0,0,0,0,1,0,2,0,0,1,0,0,1,0,0,3,3,3,1,0,4,0,2,1,1,1,1,3,0,0,1,4,6,0,0,1,0,0,1,0,2,6,0,0,1,0]
def call49:Call aaG 49 [.agg [I 2,.aj []],.agg [I 2,I 8,I 1,I 8,I 9],ER 2 5 0 6] zn (.aM [ER 38 5 0 4,ER 40 5 0 6,aa 0]) Ct:=fit aal 200 (by kernel_rfl)
def Rb:List (List ab):=[[I 6,I 1,I 0,I 0,ap],[I 6,I 0,I 0,I 1,ap],[I 0,I 0,I 1,I 0,.aj [[I 1]]],[I 1,I 0,I 1,I 0,ap]]
def WT:obj Ct 38 5=some (5,Rb):=by kernel_rfl
def yu:List UInt8:=[108,105,118,101,32,49,32,48,10]
def JF:List UInt8:=[108,105,118,101,32,48,32,49,10]
def Mj:List UInt8:=[111,112,101,110,101,100,32,48,32,49,32,49,10]
def X9:List UInt8:=[103,114,97,110,116,101,100,32,48,32,49,10]
def ZQ:Call aaG 51 [.agg [I 6,I 1,I 0,I 0,ap]] [] (.c (Sg yu)) [ah 9 []]:=fit od 100 (by kernel_rfl)
def Y5:Call aaG 51 [.agg [I 6,I 0,I 0,I 1,ap]] [] (.c (Sg JF)) [ah 9 []]:=fit od 100 (by kernel_rfl)
def YJ:Call aaG 51 [.agg [I 0,I 0,I 1,I 0,.aj [[I 1]]]] [] (.c (Sg Mj)) [ah 9 []]:=fit od 100 (by kernel_rfl)
def Ts:Call aaG 51 [.agg [I 1,I 0,I 1,I 0,ap]] [] (.c (Sg X9)) [ah 9 []]:=fit od 100 (by kernel_rfl)
end Go.Nx
namespace Go.Proofs.BuQ
open Go Go.Proofs Go.RowKit
def Hc:(aaG.info? 137).map (·.size)=some 2:=by kernel_rfl
def OF:liesAt aaG aaG.depth 137 (2 / aaG.cellsOf 137) 0 137 1=true:=by kernel_rfl
def MD:(aaG.info? 5).map (fun i=>(i.zero,i.size,i.bytes))=some (some (.int .u8 0),1,1):=by kernel_rfl
set_option maxRecDepth 8000 in
def abQ:Builder.Extra aaG Tryz.MX:={
 sizeBuilder:=Hc
 liesBuilder:=OF
 t5:=amd
 a5:=Tryz.isAgg5
 z5:=Tryz.sizeOf5
 v5:=amu
 infoByte:=MD
 cellsByte:=by kernel_rfl
 sizeByte:=by kernel_rfl
 neB5:=Nat.ne_of_beq_eq_false (by kernel_rfl)}
def string(B b:Nat)(l:List UInt8)(w:World)(h:alL 137 5 B b (alp l) w)(a:B<=w.heap.size):Calls aaG 52 #[.pointer (some ⟨b,0,none⟩)] w fun e c=>e= .returned (.string ⟨l.toArray⟩)/\Below B w c:=
 Any.Builder_String_any Tryz.Te abQ B b l w h a
set_option maxHeartbeats 1000000 in
set_option maxRecDepth 100000 in
def aaf(b:Nat)(w:World)(d:w.cell? ⟨b,0,none⟩=some (.pointer (some ⟨b,0,none⟩))):Calls aaG 93 #[.pointer (some ⟨b,0,none⟩)] w fun e a=>e= .returned (.tuple #[])/\a=w:=by
 have⟨j,c,_⟩:=ab4.1 Hc;go_enter Tryz.func93,Tryz.ntmps93
 go_wp2
 rw[Lib.run_neq_ptr_same w _ akY c];go_wp2
 go_end0
 exact⟨rfl,rfl⟩
set_option maxHeartbeats 1000000 in
set_option maxRecDepth 100000 in
def Zu(b:Nat)(w:World)(g:w.cell? ⟨b,0,none⟩=some (.pointer none))(a:w.shape? b=some (137,2))(h:w.frozen? ⟨b,0,none⟩=false):Calls aaG 93 #[.pointer (some ⟨b,0,none⟩)] w fun e d=>e= .returned (.tuple #[])/\d=w.setCell ⟨b,0,none⟩ (.pointer (some ⟨b,0,none⟩)):=by
 have⟨j,c,f⟩:=ab4.1 Hc;go_enter Tryz.func93,Tryz.ntmps93
 go_wp2
 rw[Lib.run_to_unsafe w ⟨b,0,none⟩ akY Tryz.underlying285 c (by rw[f];decide) a (Nat.zero_lt_succ 1)];simp only[ajd];rw[aky];go_wp2
 rw[run_callFunc_extern Tryz.func154 (by kernel_rfl) (by kernel_rfl) (by kernel_rfl) (e:=amb) (by kernel_rfl)];rw[Lib.run_noEscape];simp only[ajd];rw[aky];go_wp2
 rw[Lib.run_from_unsafe w ⟨b,0,none⟩ Tryz.underlying285 akY c a OF];simp only[ajd];rw[aky];go_wp2
 go_end0
 exact⟨rfl,rfl⟩
def check(B b:Nat)(c:List Value)(w:World)(h:alL 137 5 B b c w):Calls aaG 93 #[.pointer (some ⟨b,0,none⟩)] w fun e a=>e= .returned (.tuple #[])/\(akc 137 5 B b (.pointer (some ⟨b,0,none⟩)) c a/\Below B w a):=by
 rcases h with h|h
 .refine (Zu b w h.cell0 h.shape h.frozen0).mono ?_;rintro e a ⟨rfl,rfl⟩;exact⟨rfl,h.used _,(Below.refl B w).setCell (p:=⟨b,0,none⟩) h.1 _⟩
 .refine (aaf b w h.cell0).mono ?_;rintro e a ⟨rfl,rfl⟩;exact⟨rfl,h,Below.refl B _⟩
set_option maxHeartbeats 2000000 in
set_option maxRecDepth 100000 in
def write(B b:Nat)(a:List Value)(s:ByteArray)(w:World)(h:alL 137 5 B b a w)(H:a.length+s.size<=140737488355328)(I:B<=w.heap.size):
  Calls aaG 50 #[.pointer (some ⟨b,0,none⟩),.string s] w fun e l=>e= .returned (.tuple #[.int .i64 s.size,.nilIface])/\(akc 137 5 B b (.pointer (some ⟨b,0,none⟩)) (a++Lib.strCells s) l/\Below B w l):=by
 have⟨u,x,y,z,A⟩:=info_parts MD
 go_enter Tryz.func50,Tryz.ntmps50
 go_wp2_with fail
 refine(check B b a _ h).mono ?_
 rintro e w1⟨rfl,C,f⟩
 have⟨m,v,c,n,D⟩:=C
 have J:w1.cell? ⟨b,0,none⟩=some (.pointer (some ⟨b,0,none⟩)):=by rw[alh c];rfl
 have c1:w1.cell? ⟨b,1,none⟩=some v:=by rw[alh c];rfl
 go_wp2_with (at_builtin;refine Lib.wpList_append_own_string _ rfl _ _ 135 9 rfl B 5 u Tryz.underlying135 alf x y z A _ _ _ rfl n s rfl ?c3 ?c4 ?c5 ?_)
 case c3=>unfold maxLen;omega
 case c4=>omega
 case c5=>have:=f.size;omega
 intro E w2 o q _
 have F:b<w1.heap.size:=by
  rcases aj7 b w1.heap.size with i|i
  .exact i
  .simp[ajE i]at c
 have d:w2.heap[b]?=some (.cells #[.pointer (some ⟨b,0,none⟩),v] 137 (0,0)):=by
  rw[q.block b F (fun e=>D e.symm)]
  exact c
 have d0:w2.cell? ⟨b,0,none⟩=some (.pointer (some ⟨b,0,none⟩)):=by rw[alh d];rfl
 have d1:w2.cell? ⟨b,1,none⟩=some v:=by rw[alh d];rfl
 have f1:w2.frozen? ⟨b,1,none⟩=false:=Lib.frozen_of_heap d 1
 obtain⟨r,t,cap,rfl⟩:∃r t cap,E= .slice r t cap:=by
  rcases o.2 with⟨j,_⟩|⟨g,cap,K,j,_⟩
  .exact ⟨_,_,_,j⟩
  .exact ⟨_,_,_,j⟩
 go_wp2
 go_ret2
 refine⟨rfl,?_,?_⟩
 .exact Lib.BuilderAt.put (T:=137) (e:=5) m d (bs':=a++Lib.strCells s) (by simpa[Lib.strCells_length]using o) (by decide)
 .exact (f.grown q (by have:=f.size;omega) (fun k G=>(n.lt k G).1)).setCell (p:=⟨b,1,none⟩) m _
end Go.Proofs.BuQ
namespace Go.Nx
open Go Go.Proofs Tryz
section
def Uf{b:az}(g:aZ b []){w:World}(h:ajb b.w.heap.size b.w w):Calls aaG 48 #[.string ⟨te.toArray⟩] w fun e c=>∃y a,e= .returned (.tuple #[y,.int .i64 0,.int .i64 0])/\a.w=c/\(b.to w).bare.cL a/\aZ a zn/\aB a (.sl 2 5 0 6) y:=by
 refine(call48.2 _ (wJ (anD g h)) #[.string ⟨te.toArray⟩] ?_).mono ?_
 .simp only[bT,aL,aB];exact⟨_,_,rfl,⟨rfl,rfl⟩,rfl⟩
 .rintro e c⟨y,a,rfl,rfl,j,k,d⟩;simp only[aL,bT,aB]at d;obtain⟨f,rfl,i,l,m,n,o,p,rfl,⟨rfl,_⟩,q,r,rfl,⟨rfl,_⟩,rfl⟩:=d;obtain rfl:f= #[i,.int .i64 0,.int .i64 0]:=by cases f;simp_all
  grind [aB]
def Told(w:World)(b o:Nat)(y:Value):Prop:=
 w.cell? ⟨b,o,none⟩=some (.int .i64 6)/\w.cell? ⟨b,o+1,none⟩=some (.int .i64 1)/\w.cell? ⟨b,o+2,none⟩=some (.int .i64 0)/\w.cell? ⟨b,o+3,none⟩=some (.int .i64 0)/\w.cell? ⟨b,o+4,none⟩=some (.slice none 0 0)/\
 w.cell? ⟨b,o+5,none⟩=some (.int .i64 6)/\w.cell? ⟨b,o+6,none⟩=some (.int .i64 0)/\w.cell? ⟨b,o+7,none⟩=some (.int .i64 0)/\w.cell? ⟨b,o+8,none⟩=some (.int .i64 1)/\w.cell? ⟨b,o+9,none⟩=some (.slice none 0 0)/\
 w.cell? ⟨b,o+10,none⟩=some (.int .i64 0)/\w.cell? ⟨b,o+11,none⟩=some (.int .i64 0)/\w.cell? ⟨b,o+12,none⟩=some (.int .i64 1)/\w.cell? ⟨b,o+13,none⟩=some (.int .i64 0)/\w.cell? ⟨b,o+14,none⟩=some y/\
 w.cell? ⟨b,o+15,none⟩=some (.int .i64 1)/\w.cell? ⟨b,o+16,none⟩=some (.int .i64 0)/\w.cell? ⟨b,o+17,none⟩=some (.int .i64 1)/\w.cell? ⟨b,o+18,none⟩=some (.int .i64 0)/\w.cell? ⟨b,o+19,none⟩=some (.slice none 0 0)
def Uw{d:az}(t:aZ d zn){y h:Value}(u:aB d (.sl 2 5 0 6) y)(v:aB d (.aj []) h):Calls aaG 49 #[.agg #[.int .i64 2,h],.agg #[.int .i64 2,.int .i64 8,.int .i64 1,.int .i64 8,.int .i64 9],y] d.w fun e i=>∃b o cap z f c,e= .returned (.tuple #[.slice (some ⟨b,o,none⟩) 4 cap,z,.int .i64 0])/\c.w=i/\d.cL c/\aZ c Ct/\Told i b o f/\aB c.bare (.aj [[I 1]]) f:=by
 refine(call49.2 _ t #[.agg #[.int .i64 2,h],.agg #[.int .i64 2,.int .i64 8,.int .i64 1,.int .i64 8,.int .i64 9],y] ?_).mono ?_
 .simp only[bT,aL,aY];refine⟨_,_,rfl,⟨_,rfl,_,_,rfl,?_,_,_,rfl,v,rfl⟩,_,_,rfl,⟨_,rfl,_,_,rfl,?_,_,_,rfl,?_,_,_,rfl,?_,_,_,rfl,?_,_,_,rfl,?_,rfl⟩,_,_,rfl,u,rfl⟩<;>simp[aB,aiw]
 .rintro e i⟨r,c,rfl,rfl,x,l,m⟩;simp only[aL,bT]at m;obtain⟨n,rfl,A,T,U,p,B,V,rfl,_,W,X,rfl,q,rfl⟩:=m;simp only[aB]at q p;obtain⟨rfl,_⟩:=q;obtain rfl:n= #[A,B,.int .i64 0]:=by cases n;simp_all
  obtain⟨Y,Z,a,cap,C,_,rfl,D⟩:=p;have⟨aa,s,k2,g⟩:=l.obj WT;rw[C]at s;cases s;rcases D rfl with⟨j,_⟩|⟨b,a',j,rfl,rfl,ab,E⟩
  .simp only[j]at g;cases g
  .simp only[j]at g;have⟨F,_,_,_,_,cells,ad,m6,m7,k⟩:=g;obtain rfl:=E (by omega);rw[F]at k;simp only[Rb,bE,cR,aB,and_true,true_and,aip,aiQ]at k;obtain⟨⟨⟨_,G,rfl,_⟩,⟨_,H,rfl,_⟩,⟨_,J,rfl,_⟩,⟨_,K,rfl,_⟩,⟨_,L,rfl,_⟩⟩,⟨⟨_,oO,rfl,_⟩,⟨_,M,rfl,_⟩,⟨_,c12,rfl,_⟩,⟨_,c13,rfl,_⟩,⟨_,c14,rfl,_⟩⟩,⟨⟨_,N,rfl,_⟩,⟨_,c21,rfl,_⟩,⟨_,O,rfl,_⟩,⟨_,P,rfl,_⟩,⟨f,Q,R⟩⟩,⟨⟨_,xF,rfl,_⟩,⟨_,xp,rfl,_⟩,⟨_,S,rfl,_⟩,⟨_,xY,rfl,_⟩,⟨_,og,rfl,_⟩⟩⟩:=k;rw[akX,aiB];refine⟨b,_,_,_,f,c,rfl,rfl,x,l,⟨G,H,J,K,L,oO,M,c12,c13,c14,N,c21,O,P,Q,xF,xp,S,xY,og⟩,?_⟩;simp only[bE,cR,aB,and_true,true_and,aip,aiQ];exact R
def eZ{a:az}{i:List Ob}(d:aZ a i){w:World}(j:ajb a.w.heap.size a.w w){l:List ab}{s:List UInt8}{k:List Ob}(hc:Call aaG 51 [.agg l] [] (.c (Sg s)) k){b:Array Value}(m:aY a.bare l b.toList):Calls aaG 51 #[.agg b] w fun e f=>e= .returned (.string ⟨s.toArray⟩)/\ajb w.heap.size w f:=by
 have g:ajb a.bare.w.heap.size a.bare.w w:=j;refine(GF hc (Γ:=a.bare.to w) (anD (wJ d) g) (args':= #[.agg b]) ?_).mono ?_
 .simp only[bT,aL];exact⟨_,_,rfl,⟨_,rfl,kw (zJ (wJ d) g) _ _ m⟩,rfl⟩
 .rintro e f⟨y,o,rfl,rfl,n,p,h⟩;simp only[aL,aB]at h;obtain⟨rfl,_⟩:=h;exact⟨rfl,n⟩
def gu{w c:World}(d:ajb w.heap.size w c){a:Addr}{v:Value}(h:w.cell? a=some v):c.cell? a=some v:=by
 have e:a.block<w.heap.size:=by
  rcases aj7 a.block w.heap.size with b|b
  .exact b
  .simp[World.cell?,ajE b]at h
 rw[d.cell e];exact h
def rJ{T e:TypeId}{B b:Nat}{p:Value}{d:List Value}{w f:World}(h:akc T e B b p d w)(i:ajb w.heap.size w f):akc T e B b p d f:=by
 have k:=h.lt;have⟨l,v,m,⟨n,a⟩,o⟩:=h;refine⟨l,v,by rw[i.block _ k];exact m,⟨n,?_⟩,o⟩;rcases a with a|⟨g,cap,q,r,s,j,t⟩
 .exact .inl a
 .have u:g<w.heap.size:=by
   rcases aj7 g w.heap.size with c|c
   .exact c
   .simp[ajE c]at j
  exact .inr ⟨g,cap,q,r,s,by rw[i.block _ u];exact j,t⟩
set_option maxRecDepth 100000 in
def afp{b:az}(X:aZ b [])(n:Value)(Y:∀Z,aB Z (.aj []) n):Calls aaG 25 #[.agg #[.int .i64 2,n],.agg #[.int .i64 2,.int .i64 8,.int .i64 1,.int .i64 8,.int .i64 9],.string ⟨te.toArray⟩] b.w fun e w'=>e= .returned (.tuple #[.string ⟨wK.toArray⟩,.int .i64 0,.int .i64 0])/\ajb b.w.heap.size b.w w':=by
 go_enter func25,ntmps25
 go_wp2_with fail
 have t:ajb b.w.heap.size b.w ((b.w.alloc (Obj.cells #[ajo adW 2,n] 24)).alloc (Obj.cells #[ajo adW 2,ajo adW 8,ajo adW 1,ajo adW 8,ajo adW 9] 26)):=((aj4 _ _).alloc (ad3 _) _).alloc (by simp) _;refine(Uf X t).mono ?_;rintro e w1 ⟨aP,i,rfl,rfl,F,aa,hy⟩;have j:=HM F;have d0:i.w.cell? ⟨b.w.heap.size,0,none⟩=some (.int .i64 2):=gu j (by simp[go_sem,az.to]);have d1:i.w.cell? ⟨b.w.heap.size,1,none⟩=some n:=gu j (by simp[go_sem,az.to]);have e0:i.w.cell? ⟨b.w.heap.size+1,0,none⟩=some (.int .i64 2):=gu j (by simp[go_sem,az.to]);have e1:i.w.cell? ⟨b.w.heap.size+1,1,none⟩=some (.int .i64 8):=gu j (by simp[go_sem,az.to]);have e2:i.w.cell? ⟨b.w.heap.size+1,2,none⟩=some (.int .i64 1):=gu j (by simp[go_sem,az.to]);have e3:i.w.cell? ⟨b.w.heap.size+1,3,none⟩=some (.int .i64 8):=gu j (by simp[go_sem,az.to]);have e4:i.w.cell? ⟨b.w.heap.size+1,4,none⟩=some (.int .i64 9):=gu j (by simp[go_sem,az.to]);go_wp2_with fail
 refine(Uw aa hy (Y _)).mono ?_;rintro e w2 ⟨aQ,aR,cap,aS,y3,a,rfl,rfl,ab,o,ht,k⟩;have G:ajb b.w.heap.size b.w a.w:=t.trans ((HM (F.trans ab)).mono t.size);go_wp2_with fail
 have u:akc 137 5 a.w.heap.size a.w.heap.size (.pointer none) [] (a.w.alloc (.cells #[.pointer none,.slice none 0 0] 137)):=⟨ad3 _,.slice none 0 0,heap_alloc_new _ _,⟨rfl,.inl ⟨rfl,rfl⟩⟩,by simp[Value.ownBlock]⟩;have c:ajb a.w.heap.size a.w (a.w.alloc (.cells #[.pointer none,.slice none 0 0] 137)):=(aj4 _ _).alloc (ad3 _) _;generalize(a.w.alloc (.cells #[.pointer none,.slice none 0 0] 137))=W0 at u c|-;have⟨ad,ae,af,ag,ah,oO,ld,c12,c13,c14,ai,c21,ak,al,am,xF,xp,an,xY,og⟩:=ht
 obtain⟨l,m,rfl⟩:∃l m,y3= .slice (some l) 1 m:=by
  simp only[aB]at k;rcases k with⟨_,h⟩|⟨l,m,_,h,_⟩
  .cases h
  .exact ⟨l,m,h⟩
 refine wp_loop_rounds 5 ?_;rw[rounds_succ];have ao:=gu c ad;have ap:=gu c ae;have aq:=gu c af;have ar:=gu c ag;have au:=gu c ah;go_wp2_with fail
 have p:=c.alloc c.size (.cells #[.int .i64 6,.int .i64 1,.int .i64 0,.int .i64 0,.slice none 0 0] 43);refine(eZ o p ZQ ?_).mono ?_
 .simp only[aY];refine⟨_,_,rfl,?_,_,_,rfl,?_,_,_,rfl,?_,_,_,rfl,?_,_,_,rfl,?_,rfl⟩<;>first|exact k|simp[aB,aiw]
 rintro e u0⟨rfl,x⟩;have H:=rJ (rJ u ((aj4 _ _).alloc (ad3 _) _)) x;have y:=p.trans (x.mono p.size);go_wp2_with fail
 refine(BuQ.write _ _ _ _ _ (.inl H) (ajR (by kernel_rfl)) y.size).mono ?_;rintro e W1 ⟨rfl,I,J⟩;have K:akc 137 5 a.w.heap.size a.w.heap.size (.pointer (some ⟨a.w.heap.size,0,none⟩)) (alp (yu)) W1:=I;have d:=y.trans J;clear I H u x p y J c ao ap aq ar au;go_wp2_with fail
 rw[rounds_succ];have av:=gu d oO;have aw:=gu d ld;have ax:=gu d c12;have ay:=gu d c13;have aA:=gu d c14;go_wp2_with fail
 have q:=d.alloc d.size (.cells #[.int .i64 6,.int .i64 0,.int .i64 0,.int .i64 1,.slice none 0 0] 43);refine(eZ o q Y5 ?_).mono ?_
 .simp only[aY];refine⟨_,_,rfl,?_,_,_,rfl,?_,_,_,rfl,?_,_,_,rfl,?_,_,_,rfl,?_,rfl⟩<;>first|exact k|simp[aB,aiw]
 rintro e u1⟨rfl,z⟩;have L:=rJ (rJ K ((aj4 _ _).alloc (ad3 _) _)) z;have A:=q.trans (z.mono q.size);go_wp2_with fail
 refine(BuQ.write _ _ _ _ _ (.inr L) (ajR (by kernel_rfl)) A.size).mono ?_;rintro e W2 ⟨rfl,M,N⟩;have O:akc 137 5 a.w.heap.size a.w.heap.size (.pointer (some ⟨a.w.heap.size,0,none⟩)) (alp (yu++JF)) W2:=M;have f:=A.trans N;clear M L K z q A N d av aw ax ay aA;go_wp2_with fail
 rw[rounds_succ];have aC:=gu f ai;have aD:=gu f c21;have aE:=gu f ak;have aF:=gu f al;have aG:=gu f am;go_wp2_with fail
 have r:=f.alloc f.size (.cells #[.int .i64 0,.int .i64 0,.int .i64 1,.int .i64 0,.slice (some l) 1 m] 43);refine(eZ o r YJ ?_).mono ?_
 .simp only[aY];refine⟨_,_,rfl,?_,_,_,rfl,?_,_,_,rfl,?_,_,_,rfl,?_,_,_,rfl,?_,rfl⟩<;>first|exact k|simp[aB,aiw]
 rintro e u2⟨rfl,B⟩;have P:=rJ (rJ O ((aj4 _ _).alloc (ad3 _) _)) B;have C:=r.trans (B.mono r.size);go_wp2_with fail
 refine(BuQ.write _ _ _ _ _ (.inr P) (ajR (by kernel_rfl)) C.size).mono ?_;rintro e W3 ⟨rfl,Q,R⟩;have S:akc 137 5 a.w.heap.size a.w.heap.size (.pointer (some ⟨a.w.heap.size,0,none⟩)) (alp (yu++JF++Mj)) W3:=Q;have g:=C.trans R;clear Q P O B r C R f aC aD aE aF aG;go_wp2_with fail
 rw[rounds_succ];have aH:=gu g xF;have aI:=gu g xp;have aJ:=gu g an;have aK:=gu g xY;have aL:=gu g og;go_wp2_with fail
 have s:=g.alloc g.size (.cells #[.int .i64 1,.int .i64 0,.int .i64 1,.int .i64 0,.slice none 0 0] 43);refine(eZ o s Ts ?_).mono ?_
 .simp only[aY];refine⟨_,_,rfl,?_,_,_,rfl,?_,_,_,rfl,?_,_,_,rfl,?_,_,_,rfl,?_,rfl⟩<;>first|exact k|simp[aB,aiw]
 rintro e u3⟨rfl,D⟩;have T:=rJ (rJ S ((aj4 _ _).alloc (ad3 _) _)) D;have E:=s.trans (D.mono s.size);go_wp2_with fail
 refine(BuQ.write _ _ _ _ _ (.inr T) (ajR (by kernel_rfl)) E.size).mono ?_;rintro e W4 ⟨rfl,U,V⟩;have aM:akc 137 5 a.w.heap.size a.w.heap.size (.pointer (some ⟨a.w.heap.size,0,none⟩)) (alp (wK)) W4:=U;have W:=E.trans V;clear U T S D s E V g aH aI aJ aK aL;go_wp2_with fail
 rw[rounds_succ];go_wp2_with fail
 refine(BuQ.string _ _ wK _ (.inr aM) W.size).mono ?_;rintro e w9 ⟨rfl,aN⟩;have aO:ajb b.w.heap.size b.w w9:=G.trans ((W.trans aN).mono G.size);go_wp2
 refine bodyPost_ret (v:= .tuple #[.string ⟨wK.toArray⟩,.int .i64 0,.int .i64 0]) ?_ rfl ?_
 .simp[results,Tryz.results25]
 .exact ⟨rfl,aO⟩
end
def TJ{d:List aw}{H:List Ob}{r:aw}{f:List Ob}(h:zV d H=some (r,f)):Call aaG 25 d H r f:=by
 unfold zV at h;split at h
 .split at h
  .rename_i a s q;split at h
   .rename_i B;cases h;obtain⟨g,rfl,C⟩:=wq q;obtain rfl:g=⟨te.toArray⟩:=by have⟨⟨x⟩⟩:=g;grind
    refine⟨by kernel_rfl,fun t c u hc=>?_⟩;simp only[bT,aL,aY]at hc;obtain⟨y,D,E,⟨z,rfl,F,G,I,i,b,J,rfl,K,rfl⟩,L,M,rfl,⟨v,rfl,N,O,P,j,Q,w1,rfl,k,R,w2,rfl,l,S,w3,rfl,m,T,w4,rfl,n,rfl⟩,U,V,rfl,o,rfl⟩:=hc;have hn:∀w,aB w (.aj []) b:=by grind [aB]
    simp only[aB]at i j k l m n o;obtain⟨rfl,_⟩:=i;obtain⟨rfl,_⟩:=j;obtain⟨rfl,_⟩:=k;obtain⟨rfl,_⟩:=l;obtain⟨rfl,_⟩:=m;obtain⟨rfl,_⟩:=n;obtain⟨rfl,_⟩:=o;obtain rfl:z= #[.int .i64 2,b]:=by grind
    obtain rfl:v= #[.int .i64 2,.int .i64 8,.int .i64 1,.int .i64 8,.int .i64 9]:=by grind
    obtain rfl:u= #[.agg #[.int .i64 2,b],.agg #[.int .i64 2,.int .i64 8,.int .i64 1,.int .i64 8,.int .i64 9],.string ⟨te.toArray⟩]:=by grind
    refine(afp c b hn).mono ?_;rintro e A ⟨rfl,p⟩;refine⟨_,t.to A,rfl,rfl,Q3 c p,anD c p,?_⟩;simp only[aL,bT];exact⟨_,rfl,_,_,rfl,⟨rfl,rfl⟩,_,_,rfl,⟨rfl,rfl⟩,_,_,rfl,⟨rfl,rfl⟩,rfl⟩
   .cases h
  .cases h
 .cases h
noncomputable abbrev Kx:bu:=tzO [52,25] tz.dF
def abF:gU Kx:=zL [52,25] tz.dF (by decide) (fun f c H r d e a=>by
 have b:f=52\/f=25:=by grind
 rcases b with rfl|rfl
 .exact wE W4 (by decide) a
 .exact TJ (gB W4 (h:=zV) (by kernel_rfl) a))
noncomputable def Xk:List Ob:=((bB Kx (run Kx 60) 7 [] []).getD (.c ap,[])).2
def call7:Call aaG 7 [] [] (aR true) Xk:=xH (n:=60) abF (by kernel_rfl)
def o7:Call aaG 7 [] [] (aR true) []:=⟨call7.1,fun j l a hc=>(call7.2 j l a hc).mono fun e s ⟨y,f,m,n,b,d,t⟩=>by
 have q:j.hs=[]:=ae4 l.len.symm;have r:=wJ d
 refine⟨y,⟨f.w,f.F,f.X,[]⟩,m,n,⟨⟨b.le.F,b.le.mem,fun h i v k=>?_⟩,b.os,b.tape,b.output,b.size,b.frame,b.mF,b.lj⟩,⟨rfl,fun h o g=>by simp at g,fun h _ _ _ o _ _ _ _ g=>by simp at g,d.F,d.X,fun p hp=>⟨(d.G p hp).1,by
  have c:=r.G p hp
  simp only[sK,aeM,aiV,or_false]at hp
  rcases hp with rfl|rfl
  .have ⟨_,c⟩:=c
   simp only[li,ag9,aiU,bE,cR,aB]at c|-
   exact c
  .have ⟨_,c⟩:=c
   simp only[bE,cR,aB]at c|-
   exact c⟩⟩,?_⟩
 .rw[q]at k;simp at k
 grind [aL,aB]⟩
def abU:gU (@tz W1):=SO o7
def hA:aS (@tz W1) (bB (@tz W1) (ev (@tz W1))) 0 7 []=some (aR true,[]):=by rfl
instance iW12:W:=W1
def Vc(H:List Ob)(x:Int):aO tz ay 297 [aa x] H=some (aR (decide (x<1)),H):=by
 have h:aS tz ay 0 297 [aa x]=some (aR (decide (x<1)),[]):=by refine be func297 rfl ?_;simp[f297]
 simp[h]
def agN(H:List Ob)(c:List Int)(e:Edge)(r:0<=e.a/\e.a<c.length)(s:0<=e.b/\e.b<c.length):aO tz ay 298 [.agg (du e),.c (.aJ [[.aj (c.map aC)]] 0 0)] H=some (aR (decide (bD c e.a=bD c e.b)),H):=by
 obtain⟨x,d⟩:∃x:Nat,e.a=x:=⟨e.a.toNat,by omega⟩;obtain⟨y,f⟩:∃y:Nat,e.b=y:=⟨e.b.toNat,by omega⟩;have g:x<c.length:=by omega
 have i:y<c.length:=by omega
 have n:=bi c
 have h:aS tz ay 0 298 [.agg (du e),.c (.aJ [[.aj (c.map aC)]] 0 0)]=some (aR (decide (bD c e.a=bD c e.b)),[]):=by
  refine be func298 rfl ?_;have⟨u,j⟩:=DD (bD c e.a);have⟨v,k⟩:=DD (bD c e.b);have l:(c.map aC)[x]?=some [I u]:=by rw[adf,abM g, <-j,d,pz g];rfl
  have m:(c.map aC)[y]?=some [I v]:=by rw[adf,abM i, <-k,f,pz i];rfl
  have⟨R,o⟩:=DD (c.map aC);have t:R.length=c.length:=by grind
  rw[o]at l m|-;rw[j,k];simp only[du,d,f];have p:x<R.length:=by omega
  have q:y<R.length:=by omega
  simp[-getElem?_pos,f298,l,m,p,q]
 simp only[du]at h|-;simp[h,n,bA]
def ZV{g:Gr}{c:List Int}(f:fa g=true)(s:c.length=g.n.toNat)(t:∀i:Nat,i<g.n.toNat->1<=bD c i)(hp:∀e∈g.bw,bD c e.a≠bD c e.b):aS tz ay 0 247 [.agg (bQ g),bh (c.map aC)]=some (aR true,[]):=by
 refine be func247 rfl ?_;have⟨u,v,w,_,_⟩:=(nD g).1 f;have j:=vX f;have d:=xW g (by omega);rw[if_pos f]at d;have o:c.any (fun x=>decide (x<1))=false:=by grind [ajZ,pz]
 have p:g.bw.any (fun e=>decide (bD c e.a=bD c e.b))=false:=by grind
 have k:=vL (g:=297) (caps:=[]) c (by unfold maxLen;omega) (fun x=>decide (x<1)) (by simp) rfl (bi _) (fun x _=>Vc [] x);have h:=SB (g:=298) (caps:=[.aJ [[.aj (c.map aC)]] 0 0]) g.bw (by unfold maxLen;omega) (fun e=>decide (bD c e.a=bD c e.b)) (by simp) (by simp) (jU _) (fun e l=>agN [] c e (by have:=j.e e l;omega) (by have:=j.e e l;omega));rw[o]at k;rw[p]at h;have q:=bi c;have m:=jU g.bw;have hn:(c.length:Int)=g.n:=by omega
 simp only[bQ]at d|-;have⟨E,r⟩:=DD (g.bw.map du);rw[r]at d h m|-;simp[-aD,f247,hn];simp[f247,d,k,h,q,m,hn,eO]
section
variable{H:List Ob}{q:ab}{l:List aI}{g:Gr}
def mz(H:List Ob)(q:ab)(l:List aI):Prop:=(l=[]/\q=ap)\/∃h v,l≠ []/\q= .sl h v 0 l.length/\H[h]?=some (.live v 8 (l.map ax))
theorem mz.aK{H':List Ob}(h:mz H q l)(b:∀m∈rf q,H'[m]?=H[m]?):mz H' q l:=by
 rcases h with h|⟨h,v,a,rfl,c⟩
 .exact .inl h
 .exact .inr ⟨h,v,a,rfl,by grind [rf]⟩
theorem mz.lt(h:mz H q l):∀m∈rf q,m<H.length:=by
 rcases h with⟨_,rfl⟩|⟨h,v,a,rfl,b⟩
 .intro m hm;simp[rf]at hm
 grind [rf]
def uv(H:List Ob)(q:ab)(D:Nat->cQ)(n:Nat):Prop:=(n=0/\q=ap)\/∃h v rows,n≠0/\q= .sl h v 0 n/\H[h]?=some (.live v 3 rows)/\rows.length=n/\∀k,k<n->∃r,rows[k]?=some [I (D k).id,I (D k).phase,r]/\mz H r (D k).af
theorem uv.aK{H H':List Ob}{q:ab}{D:Nat->cQ}{n:Nat}(h:uv H q D n)(b:∀m,m<H.length->H'[m]?=H[m]?):uv H' q D n:=by
 rcases h with h|⟨h,v,rows,c,rfl,a,d,e⟩
 .exact .inl h
 .refine .inr ⟨h,v,rows,c,rfl,by rw[b h (bf a)];exact a,d,fun k f=>?_⟩;grind [mz.aK,mz.lt]
def mQ(l:List aI):ab:=if l=[]then ap else .aj (l.map ax)
def pL(d:cQ):List ab:=[I d.id,I d.phase,mQ d.af]
def nr(D:Nat->cQ)(n:Nat):ab:=if n=0 then ap else .aj ((aiZ n).map fun i=>pL (D i))
theorem xo(l:List aI):bC (mQ l)=true:=by grind [mQ,bC,bK]
theorem mz.view(h:mz H q l)(m:Nat):∃c,bU H (m+1) q=some (mQ l,c):=by
 rcases h with⟨rfl,rfl⟩|⟨h,v,d,rfl,a⟩
 .exact ⟨[],by simp[mQ]⟩
 .have b:=um (lo:=0) (len:=(l.map ax).length) a (by simp);rw[akn,aiF,aio]at b;have:=zF (n:=m) a b (bK l);grind [mQ]
theorem Rv{g:ab->Option (ab×List Nat)}:∀(rows a:List (List ab)),rows.length=a.length->(∀k (h:k<rows.length) (j:k<a.length), ∃b,eX g rows[k]=some (a[k],b))->∃b,am0 g rows=some (a,b)
 |[],[],_,_=>⟨[],rfl⟩
 |[],_::_,h,_=>by simp at h
 |_::_,[],h,_=>by simp at h
 |r::c,l::d,m,h=>by
  have⟨e,f⟩:=h 0 (by simp) (by simp)
  have⟨i,n⟩:=Rv c d (by grind) fun k o p=>h (k+1) (by simp;omega) (by simp;omega)
  simp only[amZ]at f
  exact⟨e++i,by grind [am0]⟩
theorem aet{rows rows':List (List ab)}(d:rows.length=rows'.length)(h:∀k (h:k<rows.length) (m:k<rows'.length), ∃b,eX (bU H 6) rows[k]=some (rows'[k],b)):∃b,jb (bU H 6) rows=some (rows',b):=by
 unfold jb;split
 .rename_i f
  have:rows=rows':=by
   refine List.ext_getElem d fun k c g=>?_;have⟨b,e⟩:=h k c g
   have i:ES rows[k]=true:=by
    have j:∀(l:List (List ab)) (k:Nat) (c:k<l.length),bA l=true->ES l[k]=true:=by
     intro l;induction l with
     |nil=>simp
     |cons a r n=>grind [bA]
    exact j rows k c f
   rw[mR i]at e;injection e with e;injection e
  exact⟨[],by rw[this]⟩
 .exact Rv rows rows' d h
theorem uv.view{H:List Ob}{q:ab}{D:Nat->cQ}{n:Nat}(h:uv H q D n):fh true H ([],[]) q=some (nr D n,[],[]):=by
 rcases h with⟨rfl,rfl⟩|⟨h,v,rows,l,rfl,c,d,e⟩
 .rfl
 .have ⟨b,m⟩:=aet (H:=H) (rows:=rows) (rows':=(aiZ n).map fun i=>pL (D i)) (by simpa using d) fun k f o=>by have⟨r,a,g⟩:=e k (by omega);have⟨b,j⟩:=g.view 5;rw[abM f]at a;injection a with a;rw[a];simp only[List.getElem_map,List.getElem_range,pL];refine⟨b,?_⟩;simp only[eX];rw[j];simp
  have p:=um (lo:=0) (len:=rows.length) c (by simp);grind [obj,fh,bC,nr]
theorem acd{n i:Nat}(a:qI g n)(hn:n<=64)(b:i<n):(ec g i).length<64:=by have:=(HK a hn [] b).1;grind [ic,dm,jn,iD,kC,pP,dx]
theorem S7{c:List Int}(Y:fa g=true)(hl:c.length=g.n.toNat)(h1:∀i:Nat,i<g.n.toNat->1<=bD c i)(hp:∀aF∈g.bw,bD c aF.a≠bD c aF.b):
  aS tz ay 1 169 [.agg (bQ g),bh (c.map aC)]=some (.aM [.c (nr (dx g c) g.n.toNat),aa 0],[]):=by
 refine be func169 rfl ?_
 simp only[f169,cr]
 have⟨g0,bb,g4,_,_⟩:=(nD g).1 Y
 have gi:=vX Y
 have Z:=xW g (by omega)
 rw[if_pos Y]at Z
 have ad:=ZV Y hl h1 hp
 have ae:=fun i=>abu g Y i
 have hf:=bi c
 have hE:=jU g.bw
 have⟨n,hn⟩:=DD g.n.toNat
 have aW:g.n=(n:Int):=by omega
 rw[hn]at gi hl|-
 have ao:∀ag:Nat,ag<n->(c.map aC)[ag]?=some [I (bD c ag)]:=fun ag hx=>by
  rw[adf,abM (by omega),pz (by omega)];rfl
 simp only[bQ]at Z ad ae|-
 rw[aW]at Z ad ae|-
 have⟨E,aX⟩:=DD (g.bw.map du)
 rw[aX]at Z ad ae hE|-
 have⟨R,hR⟩:=DD (c.map aC)
 have aG:R.length=n:=by rw[<-hR];simpa using hl
 rw[hR]at ad hf ao|-
 refine bp [(2,.c (.aJ [[I n,.aj E]] 0 0)),(1,bh R)] (fun G=>G=[]) ?_ ?_
 .simp
 rintro A G⟨O,P,_⟩rfl
 refine bp [(2,.c (.aJ [[I n,.aj E]] 0 0)),(1,bh R)] (fun G=>G=[]) ?_ ?_
 .simp[O,P,Z,hE]
 rintro A G⟨O,P,_⟩rfl
 refine bp [(2,.c (.aJ [[I n,.aj E]] 0 0)),(1,bh R)] (fun G=>G=[]) ?_ ?_
 .simp[O,P,ad,hE,hf]
 rintro A G⟨O,P,_⟩rfl
 refine bp [(2,.c (.aJ [[I n,.aj E]] 0 0)),(1,bh R),(7,.c ap)] (fun G=>G=[]) ?_ ?_
 .simp[O,P]
 rintro A G⟨O,P,a7,_⟩rfl
 rw[iM]
 refine Ends.sq ?_
 refine bp [(1,bh R),(2,.c (.aJ [[I n,.aj E]] 0 0)),(23,aa n),(24,aa (0:Nat)),(7,.c ap)] (fun G=>G=[]) ?_ ?_
 .simp[P,O,a7]
 rintro A G e rfl
 rw[eC]
 refine iv (fun p:Nat×ab=>[(1,bh R),(2,.c (.aJ [[I n,.aj E]] 0 0)),(23,aa n),(24,aa p.1),(7,.c p.2)]) (fun p G=>p.1<=n/\uv G p.2 (dx g c) p.1) (fun p=>n-p.1) ?_ (0,ap) e ⟨by omega,.inl ⟨rfl,rfl⟩⟩ fun _=>rfl
 rintro⟨i,q⟩A G⟨s,t,w,o,x,_⟩⟨g2,g3⟩
 simp only at s t w o x g2 g3
 by_cases d:i<n
 case neg=>
  have hi:i=n:=by omega
  rw[hi]at g3 o
  simp[-fh,s,t,w,o,x]
  rw[g3.view]
  rfl
 rw[fQ]
 refine bp [(1,bh R),(2,.c (.aJ [[I n,.aj E]] 0 0)),(23,aa n),(24,aa i),(7,.c q)] (fun aq=>aq=G) ?_ ?_
 .simp[s,t,w,o,x,d]
 rintro A U e V
 obtain rfl:G=U:=V.symm
 simp at e
 have⟨s,t,w,o,x⟩:=e
 have hw:adW.wrap ((i:Int)+1)=((i+1:Nat):Int):=cv (by omega)
 have⟨b,hb⟩:=DD G.length
 have⟨f,aH⟩:=DD (ec g i)
 have ar:=F8 gi d
 have aY:=acd gi (by omega) d
 have aI:=ae i
 have aZ:(dx g c i).af=f.map (io c i):=by rw[<-aH];rfl
 rw[aH]at ar aY aI
 refine eh (fun S=>S.bG=[]/\∃q',Has S.env [(1,bh R),(2,.c (.aJ [[I n,.aj E]] 0 0)),(23,aa n),(24,aa i),(7,.c q')]/\uv S.heap q' (dx g c) (i+1)) ?_ ?_
 .rw[eC]
  refine Ends.bl ?_
  rw[fQ]
  refine bp [(1,bh R),(2,.c (.aJ [[I n,.aj E]] 0 0)),(23,aa n),(24,aa i),(7,.c q),(8,aa i),(9,au b)] (fun aq=>aq=G++[ah 3 [[I i,I 0,ap]]]) ?_ ?_
  .simp[s,t,w,o,x,hb]
  rintro A U e V
  have t1:U[b]?=some (ah 3 [[I i,I 0,ap]]):=by rw[V, <-hb];simp
  have low:∀m,m<b->U[m]?=G[m]?:=fun m hm=>by rw[V,abE (by omega)]
  have ai:U.length=b+1:=by rw[V];simp;omega
  clear V
  refine eh (fun S=>S.bG=[]/\∃r,Has S.env [(1,bh R),(2,.c (.aJ [[I n,.aj E]] 0 0)),(23,aa n),(24,aa i),(7,.c q),(9,au b)]/\S.heap[b]?=some (ah 3 [[I i,I 0,r]])/\mz S.heap r (f.map (io c i))/\(∀m,m<b->S.heap[m]?=G[m]?)) ?_ ?_
  .refine bp [(1,bh R),(2,.c (.aJ [[I n,.aj E]] 0 0)),(23,aa n),(24,aa i),(7,.c q),(8,aa i),(9,au b),(31,ER (b+1) 0 0 f.length),(32,aa f.length),(33,aa (0:Nat))] (fun G=>G=U++[ah 1 (f.map aC)]) ?_ ?_
   .simp at e
    have⟨s,t,w,o,x,b8,J⟩:=e
    simp[s,t,w,o,x,b8,J,aI,cw,hE,ai]
   rintro A G3 e ak
   have aL:G3[b]?=some (ah 3 [[I i,I 0,ap]]):=by rw[ak,abE (by omega)];exact t1
   have aN:G3[b+1]?=some (ah 1 (f.map aC)):=by rw[ak, <-ai];simp
   have aO:∀m,m<b->G3[m]?=G[m]?:=fun m hm=>by rw[ak,abE (by omega)];exact low m hm
   clear ak t1 low ai
   rw[eC]
   refine Ends.bl (amV (fun p:Nat×ab=>[(1,bh R),(2,.c (.aJ [[I n,.aj E]] 0 0)),(23,aa n),(24,aa i),(7,.c q),(8,aa i),(9,au b),(31,ER (b+1) 0 0 f.length),(32,aa f.length),(33,aa p.1)]) (fun p G'=>p.1<=f.length/\G'[b]?=some (ah 3 [[I i,I 0,p.2]])/\G'[b+1]?=some (ah 1 (f.map aC))/\mz G' p.2 ((f.take p.1).map (io c i))/\(∀m∈rf p.2,b+1<m)/\∀m,m<b->G'[m]?=G[m]?) [] (fun p=>f.length-p.1) _ [1,2,23,24,7,8,9,31,32,33] (fun _=>rfl) ?_ (0,ap) _ e ⟨by omega,aL,aN,.inl ⟨rfl,rfl⟩,by simp[rf],aO⟩ rfl)
   clear e aL aN aO s t w o x
   rintro⟨j,r⟩⟨A,G4,ds⟩e⟨g2,z,F,C,k4,M⟩g6
   simp only at e g2 z F C k4 M g6
   subst g6
   simp at e
   have⟨s,t,w,o,x,b8,J,av,aw,az⟩:=e
   by_cases Q:j<f.length
   case neg=>
    have hj:f.take j=f:=acu (by omega)
    rw[hj]at C
    simp[-ajc,-akL,s,t,w,o,x,b8,J,av,aw,az,Q]
    exact⟨r,z,C,M⟩
   obtain⟨y,hy⟩:∃y:Nat,f[j]=y:=⟨f[j].toNat,by have:=ar _ (aix Q);omega⟩
   have aA:y<n:=by have:=ar _ (aix Q);omega
   have m1:(f.map aC)[j]?=some [I y]:=by rw[adf,abM Q,hy];rfl
   have m2:=ao i d
   have m3:=ao y aA
   have aP:adW.wrap ((j:Int)+1)=((j+1:Nat):Int):=cv (by omega)
   have⟨L,hL⟩:=DD ((f.take j).map (io c i))
   have bc:L.length<=64:=by rw[<-hL];simp;omega
   have ho:(f.take (j+1)).map (io c i)=L++[io c i y]:=by
    rw[aiH,abM Q,hy,aid,hL];rfl
   rw[hL]at C
   have⟨u,hu⟩:=DD (bD c (i:Int))
   have⟨v,hv⟩:=DD (bD c (y:Int))
   have al:ax (io c i y)=[I y,I 1,I 0,B (decide (u>v)),B (decide (u>v)),B (!decide (u>v)),B (decide (u>v)),B (!decide (u>v))]:=by simp only[io,ax,hu,hv]
   rw[hu]at m2
   rw[hv]at m3
   have⟨S1,aB⟩:=DD (ax (io c i y))
   rw[aB]at al
   have⟨NR,am⟩:=DD (f.map aC)
   have aQ:NR.length=f.length:=by rw[<-am];simp
   rw[am]at F m1
   have aR:=bf F
   have bd:f.length<=NR.length:=by omega
   have iR:i<R.length:=by omega
   have yR:y<R.length:=by omega
   have gb:∀K,(G4++K)[b]?=some (ah 3 [[I i,I 0,r]]):=fun K=>by rw[abE (bf z)];exact z
   have⟨a0,ht⟩:=DD (decide (v<u))
   have a1:decide (u>v)=a0:=ht
   rw[a1]at al
   rcases C with⟨a2,rfl⟩|⟨h,H,a3,rfl,T⟩
   .simp[-ajc,-akL,-getElem?_pos,-ad0,s,t,w,o,x,b8,J,av,aw,az,Q,m1,m2,m3,z,F,aP,iR,yR,d,aA,aG,aQ,gb,ht]
    rw[<-am]at F
    refine⟨j+1,by omega,rfl,by omega,.sl (G4.length+1) 0 0 1,ba (gb _),?_,?_,fun m hm=>?_,fun m hm=>?_⟩
    .rw[abE aR];exact F
    .rw[ho,a2]
     refine .inr ⟨G4.length+1,0,by simp,by simp,?_⟩
     rw[aat (by omega),jh]
     simp only[aiD,ag9,aiU,aB,al]
     rfl
    .simp[rf]at hm;omega
    .rw[aat (by omega),abE (by omega)];exact M m hm
   .have W:∀K,(G4++K)[h]?=some (.live H 8 (L.map ax)):=fun K=>by rw[abE (bf T)];exact T
    have bg:b+1<h:=k4 h (by simp[rf])
    have⟨LR,aD⟩:=DD (L.map ax)
    have a4:LR.length=L.length:=by rw[<-aD];simp
    rw[aD]at T W
    have n1:L.length+1<=maxLen:=by unfold maxLen;omega
    have n2:(L.length+1)*32<=140737488355328:=by omega
    have aT:∀K aU,((G4++K).set h aU)[b]?=some (ah 3 [[I i,I 0,.sl h H 0 L.length]]):=fun K aU=>by rw[aat (by omega)];exact gb K
    have aE:LR.take L.length=LR:=acu (by omega)
    simp[-ajc,-akL,-getElem?_pos,-ad0,s,t,w,o,x,b8,J,av,aw,az,Q,m1,m2,m3,z,F,aP,iR,yR,d,aA,aG,aQ,gb,ht,W,T,n1,n2,aE,a4,aT]
    rw[<-am]at F
    refine⟨j+1,by omega,rfl,by omega,.sl h (H+1) 0 (L.length+1),ba (aT _ _),?_,?_,fun m hm=>?_,fun m hm=>?_⟩
    .rw[aat (by omega),abE aR];exact F
    .rw[ho]
     refine .inr ⟨h,H+1,by simp,by simp,?_⟩
     rw[aat (by omega),ba (W _),aid,aD]
     simp only[ag9,aiU,aB,al]
    .simp[rf]at hm;omega
    .rw[aat (by omega),aat (by omega),abE (by omega)];exact M m hm
  clear e t1 low ai
  rintro⟨A,N,ds⟩⟨rfl,r,e,z,C,M⟩
  simp only at e z C M
  simp at e
  have⟨s,t,w,o,x,J⟩:=e
  have lb:=bf z
  have gb:∀K,(N++K)[b]?=some (ah 3 [[I i,I 0,r]]):=fun K=>by rw[abE lb];exact z
  have a5:∀k,k<i->∀D,mz G D (dx g c k).af->mz N D (dx g c k).af:=fun k hk D X=>X.aK fun m hm=>M m (by have:=X.lt m hm;omega)
  have bj:∀k,(dx g c k).id=(k:Int)/\(dx g c k).phase=0:=fun k=>⟨rfl,rfl⟩
  rw[<-aZ]at C
  rcases g3 with⟨rfl,rfl⟩|⟨h,H,rows,a3,rfl,T,aV,a6⟩
  .simp[-ajc,-akL,-ad0,s,t,w,o,x,J,z]
   refine .inr ⟨N.length+1,0,[[I 0,I 0,r]],by simp,rfl,by rw[jh];rfl,rfl,fun k hk=>⟨r,?_,?_⟩⟩
   .obtain rfl:k=0:=by omega
    rfl
   .obtain rfl:k=0:=by omega
    exact C.aK fun m hm=>abE (C.lt m hm)
  .have a8:h<b:=by rw[<-hb];exact bf T
   have an:N[h]?=some (.live H 3 rows):=by rw[M h a8];exact T
   have W:∀K,(N++K)[h]?=some (.live H 3 rows):=fun K=>by rw[abE (bf an)];exact an
   have n1:i+1<=maxLen:=by unfold maxLen;omega
   have n2:(i+1)*40<=140737488355328:=by omega
   have aE:rows.take i=rows:=acu (by omega)
   simp[-ajc,-akL,-ad0,s,t,w,o,x,J,z,an,W,n1,n2,aE,aV]
   refine .inr ⟨h,H+1,rows++[[I i,I 0,r]],by omega,rfl,ba (W _),by simp;omega,fun k hk=>?_⟩
   have up:∀D l,mz N D l->mz ((N++[Ob.live 0 3 [[I i,I 0,r]]]).set h (Ob.live (H+1) 3 (rows++[[I i,I 0,r]]))) D l:=fun D l X=>by
    refine X.aK fun m hm=>?_
    rw[aat,abE (X.lt m hm)]
    rintro rfl
    rcases X with⟨_,rfl⟩|⟨h',bk,_,rfl,hx⟩
    .simp[rf]at hm
    .simp[rf]at hm
     subst hm
     rw[an]at hx
     cases hx
   by_cases a9:k=i
   .subst a9
    exact⟨r,by rw[aea (by omega),aV,ajB];rfl,up _ _ C⟩
   .have ⟨D,e1,e2⟩:=a6 k (by omega)
    exact⟨D,by rw[abE (by omega)];exact e1,up _ _ (a5 k (by omega) D e2)⟩
 clear s t w o x
 rintro⟨A,N,ds⟩⟨rfl,q',e,z⟩
 simp only at e z
 simp at e
 have⟨s,t,w,o,x⟩:=e
 simp[-ad0,s,t,w,o,x,hw]
 grind
end
section
variable{g:Gr}{c:List Int}{k z n:Nat}{H:List Ob}{q:ab}{rows:List (List ab)}
def oH(D:Nat->cQ)(n:Nat):List (List ab):=(aiZ n).map fun i=>pL (D i)
def YY(D:Nat->cQ)(n:Nat):da (nr D n)= .aj (oH D n):=by
 unfold nr oH;split
 .simp_all
 .rfl
theorem VA(D:Nat->cQ)(n:Nat):bC (nr D n)=true:=by grind [nr,jg,pL,ES,xo,bC]
theorem Pf{b:Type}(f:b->List ab)(a:List Nat)(h:∀x,a.contains (f x).length=false/\cW a (f x)=true)(l:List b):gZ a (l.map f)=true:=by
 induction l with
 |nil=>rfl
 |cons x r c=>simp_all
theorem abh(l:List aI):fW [1] (mQ l)=true:=by
 unfold mQ;split
 .rfl
 .exact Pf _ _ (fun x=>⟨rfl,rfl⟩) _
theorem acP(D:Nat->cQ)(n:Nat):fW [1] (nr D n)=true:=by grind [nr,Pf,pL,cW,abh,fW]
theorem acq(l:fa g=true)(hc:pa g=some (c,k))(q:c.length=g.n.toNat)(s:∀i:Nat,i<g.n.toNat->1<=bD c i)(hp:∀e∈g.bw,bD c e.a≠bD c e.b):
  aS tz ay 1 104 [.agg (bQ g)]=some (.aM [.agg [.aj (oH (dx g c) g.n.toNat),.aj []],aa 0],[]):=by
 refine be func104 rfl ?_
 have f:=UR g l hc
 have d:=S7 l q s hp
 have h:=jU g.bw
 have⟨n,hn⟩:=DD g.n.toNat
 rw[hn]at d|-
 have t1:=YY (dx g c) n
 have t2:=VA (dx g c) n
 have t3:=acP (dx g c) n
 have t4:bA (oH (dx g c) n)=true:=jg _ (fun i=>by simp[pL,ES,xo,bC]) _
 have t0:nr (dx g c) n=ap\/∃r,nr (dx g c) n= .aj r:=by grind [nr]
 have⟨Q,m⟩:=DD (nr (dx g c) n)
 rw[m]at t0
 have⟨T,t⟩:=DD (oH (dx g c) n)
 rw[m]at d t1 t2 t3
 rw[t]at t1 t4|-
 simp only[bQ]at f d|-
 have⟨E,u⟩:=DD (g.bw.map du)
 have⟨R,v⟩:=DD (c.map aC)
 have o:R.length=c.length:=by grind
 have p:bA R=true:=by grind [bi]
 have tk:R.take c.length=R:=acu (by omega)
 rw[u]at f d h|-
 rw[v]at f d
 rcases t0 with rfl|⟨r,rfl⟩
 .simp only[SR]at t1
  simp[-ajc,f104,f,d,h,p,o,tk,t1,t2,t3,t4]
 .have j:ab.aj r= .aj T:=t1
  injection j with j
  subst j
  simp only[fW]at t3
  simp only[bC]at t2
  simp[-ajc,f104,f,d,h,p,o,tk,t2,t3,t4]
def nW(d:cQ):List ab:=[I d.id,I d.phase,mQ d.af,I 0,ap]
def nf(D:Nat->cQ)(n:Nat):List (List ab):=(aiZ n).map fun i=>nW (D i)
theorem Xy(D:Nat->cQ)(n:Nat):nf D (n+1)=nf D n++[nW (D n)]:=by grind [nf,aj2]
def MN(D:Nat->cQ)(n:Nat):bA (nf D n)=true:=jg _ (fun i=>by simp[nW,ES,xo,bC]) _
def oR(H:List Ob)(z:Nat)(q:ab)(n:Nat)(rows:List (List ab)):Prop:=(n=0/\q=ap)\/∃h v,n≠0/\q= .sl h v 0 n/\H[h]?=some (.live v z rows)/\rows.length=n
theorem oR.view(h:oR H z q n rows)(d:bA rows=true)(e:n=0->rows=[]):fh true H ([],[]) (da q)=some (.aj rows,[],[]):=by
 rcases h with⟨rfl,rfl⟩|⟨h,v,f,rfl,a,b⟩
 .simp_all
 .have c:=um (lo:=0) (len:=rows.length) a (by simp);rw[akn,aiF,b]at c;simp_all
theorem oR.aK{H':List Ob}(h:oR H z q n rows)(c:∀m∈rf q,H'[m]?=H[m]?):oR H' z q n rows:=by
 rcases h with h|⟨h,v,a,rfl,d,b⟩
 .exact .inl h
 .exact .inr ⟨h,v,a,rfl,by grind [rf],b⟩
theorem Zy(F:fa g=true)(hc:pa g=some (c,k))(P:c.length=g.n.toNat)(Q:∀i:Nat,i<g.n.toNat->1<=bD c i)(hp:∀e∈g.bw,bD c e.a≠bD c e.b):
  aS tz ay 1 65 [.agg (bQ g)]=some (.aM [.agg [.aj (nf (dx g c) g.n.toNat),.aj []],aa 0],[]):=by
 refine be func65 rfl ?_
 simp only[f65,cr]
 have j:=acq F hc P Q hp
 have am:=((nD g).1 F).2.1
 have H:=jU g.bw
 have⟨n,hn⟩:=DD g.n.toNat
 rw[hn]at j|-
 have t4:bA (oH (dx g c) n)=true:=jg _ (fun i=>by simp[pL,ES,xo,bC]) _
 have t5:∀i,i<n->(oH (dx g c) n)[i]?=some (pL (dx g c i)):=fun i J=>by
  grind [oH]
 have t6:(oH (dx g c) n).length=n:=by simp[oH]
 have⟨T,R⟩:=DD (oH (dx g c) n)
 rw[R]at j t4 t5 t6
 simp only[bQ]at j|-
 have⟨E,S⟩:=DD (g.bw.map du)
 rw[S]at j H|-
 refine bp [(1,.c (.aJ [[I g.n,.aj E]] 0 0)),(2,au 0)] (fun G=>G=[ah 2 [[ap,ap]]]) ?_ ?_
 .simp
 rintro l G⟨U,f,_⟩rfl
 refine bp [(4,au 1),(5,aa 0),(2,au 0)] (fun G=>G=[ah 2 [[ap,ap]],ah 2 [[.aj T,.aj []]]]) ?_ ?_
 .simp[U,f,j,H,t4]
 rintro l G⟨o,V,f,_⟩rfl
 refine bp [(4,au 1),(2,au 0)] (fun G=>G=[ah 2 [[ap,ap]],ah 2 [[.aj T,.aj []]]]) ?_ ?_
 .simp[o,V,f]
 rintro l G⟨o,f,_⟩rfl
 refine bp [(4,au 1),(6,au 2),(2,au 0)] (fun G=>G=[ah 2 [[ap,ap]],ah 2 [[.aj T,.aj []]],ah 2 [[ap,ap]]]) ?_ ?_
 .simp[o,f]
 rintro l G⟨o,W,f,_⟩rfl
 rw[iM]
 refine Ends.sq ?_
 refine bp [(2,au 0),(6,au 2),(19,bh T),(20,aa n),(21,aa (0:Nat))] (fun G=>G=[ah 2 [[ap,ap]],ah 2 [[.aj T,.aj []]],ah 2 [[ap,ap]]]) ?_ ?_
 .simp[o,W,f,t6]
 rintro l G Y rfl
 rw[eC]
 refine iv (fun i:Nat=>[(2,au 0),(6,au 2),(19,bh T),(20,aa n),(21,aa i)]) (fun i G=>i<=n/\G[0]?=some (ah 2 [[ap,ap]])/\∃q,G[2]?=some (ah 2 [[q,ap]])/\oR G 5 q i (nf (dx g c) i)/\∀m∈rf q,2<m) (fun i=>n-i) ?_ 0 Y ⟨by omega,rfl,ap,rfl,.inl ⟨rfl,rfl⟩,by simp[rf]⟩ fun _=>rfl
 rintro i l G⟨w,x,y,z,s,_⟩⟨g2,L,q,t,A,Z⟩
 by_cases d:i<n
 case neg=>
  have J:i=n:=by omega
  rw[J]at A s
  have hv:=oR.view (A.aK (H':=G.set 0 (ah 2 [[q,ap]])) fun m hm=>by grind) (MN _ _) (fun h=>by rw[h];rfl)
  have ab:(G.set 0 (ah 2 [[q,ap]]))[0]?=some (ah 2 [[q,ap]]):=ba L
  simp[-fh,w,x,y,z,s,L,t,ab]
  rw[hv]
  rfl
 have p:=t5 i d
 simp only[pL]at p
 have⟨ad,hQ⟩:=DD (mQ (dx g c i).af)
 have ae:nW (dx g c i)=[I (dx g c i).id,I (dx g c i).phase,ad,I 0,ap]:=by grind [nW]
 have r:=Xy (dx g c) i
 rw[ae]at r
 rw[hQ]at p
 have M:adW.wrap ((i:Int)+1)=((i+1:Nat):Int):=cv (by omega)
 have⟨x1,ag⟩:=DD ((dx g c i).id)
 have⟨x2,ai⟩:=DD ((dx g c i).phase)
 rw[ag,ai]at p r
 have l3:=bf t
 have B:∀K,(G++K)[0]?=some (ah 2 [[ap,ap]]):=fun K=>by grind
 have C:∀K,(G++K)[2]?=some (ah 2 [[q,ap]]):=fun K=>by grind
 rcases A with⟨rfl,rfl⟩|⟨h,v,an,rfl,u,N⟩
 .simp[-fh,-getElem?_pos,-ad0,w,x,y,z,s,t,B,C,p,d,t6,M]
  refine⟨1,by omega,rfl,by omega,.inr ⟨G.length+2,0,by simp,rfl,?_,by simp[nf]⟩,fun m hm=>by grind [rf]⟩
  rw[aat (by omega),aea (by omega),show G.length+2-G.length=2 from by omega,r]
  rfl
 .have ⟨D,ak⟩:=DD (nf (dx g c) i)
  rw[ak]at u N r
  have ao:2<h:=Z h (by simp[rf])
  have gh:∀K,(G++K)[h]?=some (.live v 5 D):=fun K=>by rw[abE (bf u)];exact u
  have O:∀K X,((G++K).set h X)[2]?=some (ah 2 [[.sl h v 0 i,ap]]):=fun K X=>by rw[aat (by omega)];exact C K
  have n1:i+1<=maxLen:=by unfold maxLen;omega
  have n2:(i+1)*72<=140737488355328:=by omega
  have al:D.take i=D:=acu (by omega)
  simp[-fh,-getElem?_pos,-ad0,w,x,y,z,s,t,B,C,O,gh,u,p,d,t6,M,n1,n2,al,N]
  refine⟨i+1,by omega,rfl,by omega,by rw[aat (by omega)];exact B _,_,ba (O _ _),.inr ⟨h,v+1,by omega,rfl,?_,by rw[r];simp;omega⟩,fun m hm=>by simp[rf]at hm;omega⟩
  grind
end
section
variable{q:ab}{n k:Nat}{g:Gr}{c:List Int}
def oR.own{H:List Ob}{z:Nat}{rows:List (List ab)}(h:oR H z q n rows)(e:bA rows=true):(n=0/\fh false H ([],[]) (da q)=some (.aj [],[],[]))\/n≠0/\∃a,fh false H ([],[]) (da q)=some (.sl 0 0 0 n,a,[ah z rows]):=by
 rcases h with⟨rfl,rfl⟩|⟨h,v,f,rfl,b,c⟩
 .simp
 .have d:=um (lo:=0) (len:=rows.length) b (by simp);rw[akn,aiF,c]at d;simp_all
def kO(g:Gr)(c:List Int)(n:Nat):List (List ab):=(aiZ n).map fun i=>aT (iD g c i)
theorem afS(g:Gr)(c:List Int)(n:Nat):kO g c (n+1)=kO g c n++[aT (iD g c n)]:=by grind [kO,aj2]
def GB(g:Gr)(c:List Int)(n:Nat):bA (kO g c n)=true:=jg _ (fun i=>yh _) _
def c66(H:List Ob)(d:qI g n)(hn:n<=64)(c:List Int){i:Nat}(e:i<n):aO tz ay 66 [.agg (nW (dx g c i))] H=some (.aM [.agg (aT (iD g c i)),aa 0],H):=by
 have⟨f,h⟩:=HK d hn c e;have a:=p66 (pP g c i) h (by simp[pP]);have b:dm (kC (pP g c i))=true:=f;rw[if_pos b,if_pos b]at a
 have j:df H (.agg (nW (dx g c i)))=some (.agg (cU (pP g c i)),[]):=by
  have k:ES (nW (dx g c i))=true:=by simp[nW,ES,xo,bC]
  simp only[df,mR k]
  have:da (mQ (dx g c i).af)= .aj ((dx g c i).af.map ax):=by
   unfold mQ;split
   .simp_all
   .rfl
  simp only[nW,ag9,aiU,this];rfl
 rw[aD,if_neg (by simp[eO])];simp only[dy,j,kU,show tz.md 66=1 from rfl,aeU];rw[a,jP];simp[ei,eN,dZ,aT,iD]
def sP(n:Nat)(rows:List (List ab)):aw×List Ob:=if n=0 then(.aM [.agg [.aj [],.aj []],aa 0],[])else(.aM [.agg [.sl 0 0 0 n,.aj []],aa 0],[ah 10 rows])
theorem YX(z:fa g=true)(hc:pa g=some (c,k))(Y:c.length=g.n.toNat)(Z:∀i:Nat,i<g.n.toNat->1<=bD c i)(hp:∀e∈g.bw,bD c e.a≠bD c e.b):
  aS tz ay 0 33 [.agg (bQ g)]=some (sP g.n.toNat (kO g c g.n.toNat)):=by
 have⟨n,hn⟩:=DD g.n.toNat
 have o:=Zy z hc Y Z hp
 rw[hn]at o|-
 have⟨V1,M⟩:=DD ((sP n (kO g c n)).1)
 have⟨V2,N⟩:=DD ((sP n (kO g c n)).2)
 have hV:sP n (kO g c n)=(V1,V2):=by grind
 rw[hV]
 refine be func33 rfl ?_
 simp only[f33,cr]
 have ar:=((nD g).1 z).2.1
 have O:=vX z
 rw[hn]at O
 have P:=jU g.bw
 have t4:=MN (dx g c) n
 have t5:∀i,i<n->(nf (dx g c) n)[i]?=some (nW (dx g c i)):=fun i Q=>by
  grind [nf]
 have t6:(nf (dx g c) n).length=n:=by simp[nf]
 have⟨T,hT⟩:=DD (nf (dx g c) n)
 rw[hT]at o t4 t5 t6
 simp only[bQ]at o|-
 have⟨ad,ae⟩:=DD (g.bw.map du)
 rw[ae]at o P|-
 refine bp [(1,.c (.aJ [[I g.n,.aj ad]] 0 0)),(2,au 0)] (fun G=>G=[ah 2 [[ap,ap]]]) ?_ ?_
 .simp
 rintro p G⟨a1,f,_⟩rfl
 refine bp [(4,au 1),(5,aa 0),(2,au 0)] (fun G=>G=[ah 2 [[ap,ap]],ah 2 [[.aj T,.aj []]]]) ?_ ?_
 .simp[a1,f,o,P,t4]
 rintro p G⟨r,a5,f,_⟩rfl
 refine bp [(4,au 1),(2,au 0)] (fun G=>G=[ah 2 [[ap,ap]],ah 2 [[.aj T,.aj []]]]) ?_ ?_
 .simp[r,a5,f]
 rintro p G⟨r,f,_⟩rfl
 refine bp [(4,au 1),(6,au 2),(2,au 0)] (fun G=>G=[ah 2 [[ap,ap]],ah 2 [[.aj T,.aj []]],ah 2 [[ap,ap]]]) ?_ ?_
 .simp[r,f]
 rintro p G⟨r,a6,f,_⟩rfl
 rw[iM]
 refine Ends.sq ?_
 refine bp [(2,au 0),(6,au 2),(21,bh T),(22,aa n),(23,aa (0:Nat))] (fun G=>G=[ah 2 [[ap,ap]],ah 2 [[.aj T,.aj []]],ah 2 [[ap,ap]]]) ?_ ?_
 .simp[r,a6,f,t6]
 rintro p G g1 rfl
 rw[eC]
 refine iv (fun i:Nat=>[(2,au 0),(6,au 2),(21,bh T),(22,aa n),(23,aa i)]) (fun i G=>i<=n/\G[0]?=some (ah 2 [[ap,ap]])/\∃q,G[2]?=some (ah 2 [[q,ap]])/\oR G 10 q i (kO g c i)/\∀m∈rf q,2<m) (fun i=>n-i) ?_ 0 g1 ⟨by omega,rfl,ap,rfl,.inl ⟨rfl,rfl⟩,by simp[rf]⟩ fun _=>rfl
 rintro i p G⟨A,B,C,D,t,_⟩⟨g2,R,q,u,E,g6⟩
 by_cases d:i<n
 case neg=>
  have Q:i=n:=by omega
  rw[Q]at E t
  have s:=oR.own (E.aK (H':=G.set 0 (ah 2 [[q,ap]])) fun m hm=>by grind) (GB _ _ _)
  have ag:(G.set 0 (ah 2 [[q,ap]]))[0]?=some (ah 2 [[q,ap]]):=ba R
  simp[-fh,A,B,C,D,t,R,u,ag]
  rcases s with⟨F,s⟩|⟨F,bs,s⟩
  .rw[s]
   rw[<-M, <-N]
   unfold sP
   rw[if_pos F]
   rfl
  .rw[s]
   rw[<-M, <-N]
   unfold sP
   rw[if_neg F]
   rfl
 have w:=t5 i d
 have j:=fun ak=>c66 ak O (by omega) c d
 have⟨x,hx⟩:=DD (iD g c i)
 have l:=afS g c i
 rw[hx]at l j
 simp only[nW]at w j
 have⟨av,hQ⟩:=DD (mQ (dx g c i).af)
 have⟨x1,al⟩:=DD ((dx g c i).id)
 have⟨x2,am⟩:=DD ((dx g c i).phase)
 simp only[aT]at l j
 rw[hQ,al,am]at w j
 have S:adW.wrap ((i:Int)+1)=((i+1:Nat):Int):=cv (by omega)
 have l3:=bf u
 have H:∀K,(G++K)[0]?=some (ah 2 [[ap,ap]]):=fun K=>by grind
 have J:∀K,(G++K)[2]?=some (ah 2 [[q,ap]]):=fun K=>by grind
 have⟨y0,U⟩:=DD (I x.dr.ai.id)
 have⟨y1,w1⟩:=DD (I x.dr.ai.phase)
 have⟨y2,w2⟩:=DD (ab.aj (x.dr.ai.af.map ax))
 have⟨y3,w3⟩:=DD (I x.dr.aQ)
 have⟨y4,w4⟩:=DD (aG x.dr.need)
 have⟨y5,w5⟩:=DD (I x.book.last)
 have⟨y6,w6⟩:=DD (ab.aj (x.book.aA.map aN))
 have⟨y7,w7⟩:=DD (ab.aj (x.known.map aW))
 have⟨y8,w8⟩:=DD (aG x.told)
 have⟨y9,V⟩:=DD (ab.aj (x.asked.map aW))
 rw[U,w1,w2,w3,w4,w5,w6,w7,w8,V]at l j
 clear U w1 w2 w3 w4 w5 w6 w7 w8 V
 rcases E with⟨rfl,rfl⟩|⟨h,v,aw,rfl,y,W⟩
 .simp[-aD,-fh,-getElem?_pos,-ad0,A,B,C,D,t,u,H,J,w,d,t6,S,j]
  refine⟨1,by omega,rfl,by omega,.inr ⟨G.length+3,0,by simp,rfl,?_,by simp[kO]⟩,fun m hm=>by grind [rf]⟩
  rw[aat (by omega),aea (by omega),show G.length+3-G.length=3 from by omega,l]
  rfl
 .have ⟨L,an⟩:=DD (kO g c i)
  rw[an]at y W l
  have az:2<h:=g6 h (by simp[rf])
  have gh:∀K,(G++K)[h]?=some (.live v 10 L):=fun K=>by rw[abE (bf y)];exact y
  have ao:∀K X,((G++K).set h X)[2]?=some (ah 2 [[.sl h v 0 i,ap]]):=fun K X=>by rw[aat (by omega)];exact J K
  have n1:i+1<=maxLen:=by unfold maxLen;omega
  have n2:(i+1)*176<=140737488355328:=by omega
  have aq:L.take i=L:=acu (by omega)
  simp[-aD,-fh,-getElem?_pos,-ad0,A,B,C,D,t,u,H,J,ao,gh,y,w,d,t6,S,n1,n2,aq,W,j]
  refine⟨i+1,by omega,rfl,by omega,by rw[aat (by omega)];exact H _,.inr ⟨h,v+1,by omega,rfl,?_,by rw[l];simp;omega⟩,fun m hm=>by simp[rf]at hm;omega⟩
  grind
def kM(g:Gr)(c:List Int)(r:mZ):Cl:=⟨r.win,r.fy,r.wait,r.room,r.hold,(aiZ g.n.toNat).map (iD g c),fun _ _=>wO r.win r.fy r.wait r.room,fun _ _=>⟨[],0⟩⟩
def xY(H:List Ob)(j:fa g=true)(hc:pa g=some (c,k))(l:c.length=g.n.toNat)(m:∀i:Nat,i<g.n.toNat->1<=bD c i)(hp:∀e∈g.bw,bD c e.a≠bD c e.b):
  ∃q K,aO tz ay 33 [.agg (bQ g)] H=some (.aM [.agg [q,.aj []],aa 0],H++K)/\((g.n.toNat=0/\q= .aj []/\K=[])\/g.n.toNat≠0/\q= .sl H.length 0 0 g.n.toNat/\K=[ah 10 (kO g c g.n.toNat)]):=by
 have f:=YX j hc l m hp
 have h:=GB g c g.n.toNat
 have⟨n,hn⟩:=DD g.n.toNat
 rw[hn]at f h|-
 have⟨R,o⟩:=DD (kO g c n)
 rw[o]at f h|-
 have p:df H (.agg (bQ g))=some (.agg (bQ g),[]):=by simp only[df,mR (zx g)];rfl
 rw[aD,if_neg (by simp[eO])]
 simp only[dy,p,kU,show tz.md 33=0 from rfl,aeU]
 rw[f]
 unfold sP
 by_cases d:n=0
 .rw[if_pos d,jP]
  refine⟨.aj [],[],?_,.inl ⟨d,rfl,rfl⟩⟩
  simp[ei,eN,dZ]
 .rw[if_neg d,jP]
  refine⟨.sl H.length 0 0 n,[ah 10 R],?_,.inr ⟨d,rfl,rfl⟩⟩
  simp[ei,eN,dZ,h]
def abx(r:mZ){R:List (List ab)}(b:bA R=true)(a:aO tz ay 33 [.agg (bQ g)] []=some (.aM [.agg [.sl 0 0 0 n,.aj []],aa 0],[ah 10 R])):
  aS tz ay 2 16 [.agg (bQ g),.agg (fU r)]=some (.aM [au 4,aa 0],[ah 10 R,ah 2 [[.sl 0 0 0 n,.aj []]],.mp [],.mp [],ah 8 [[I r.win,I r.fy,I r.wait,I r.room,I r.hold,.sl 0 0 0 n,.mr 2,.mr 3]]]):=by
 refine be func16 rfl ?_
 simp only[bQ,fU]at a|-
 simp[-aD,f16,a,zp,zM]
def afq(r:mZ)(a:aO tz ay 33 [.agg (bQ g)] []=some (.aM [.agg [.aj [],.aj []],aa 0],[])):
  aS tz ay 2 16 [.agg (bQ g),.agg (fU r)]=some (.aM [au 3,aa 0],[ah 2 [[.aj [],.aj []]],.mp [],.mp [],ah 8 [[I r.win,I r.fy,I r.wait,I r.room,I r.hold,.aj [],.mr 1,.mr 2]]]):=by
 refine be func16 rfl ?_
 simp only[bQ,fU]at a|-
 simp[-aD,f16,a,zp,zM]
def My(r:mZ){K:List Ob}{mp mt b:Nat}{a:Nat->aU}(d:K[b]?=some (ah 8 [[I r.win,I r.fy,I r.wait,I r.room,I r.hold,q,.mr mp,.mr mt]]))(e:K[mp]?=some (.mp []))(f:K[mt]?=some (.mp []))
  (h:a b= .cl 0) (c1:a mp= .cl 2) (c2:a mt= .cl 3) (i:sZ K a q ((aiZ g.n.toNat).map (iD g c))):bJ K a b (kM g c r):=
 ⟨q,mp,mt,[],[],d,i,e,f,rfl,rfl,h,c1,c2,fun _ _=> .inl ⟨rfl,rfl⟩,fun _ _=> .inl ⟨rfl,rfl⟩⟩
def wo(c:Nat->aU)(n:Nat)(l:List aU):Nat->aU:=fun m=>if m<n then c m else l.getD (m-n) .none
def adK(r:mZ)(v:fa g=true)(hc:pa g=some (c,k))(w:c.length=g.n.toNat)(x:∀i:Nat,i<g.n.toNat->1<=bD c i)(hp:∀e∈g.bw,bD c e.a≠bD c e.b):Ng g r (kM g c r):=by
 intro H h;have j:=GB g c g.n.toNat;have y:df H (.agg (bQ g))=some (.agg (bQ g),[]):=by simp only[df,mR (zx g)];rfl
 have z:df H (.agg (fU r))=some (.agg (fU r),[]):=by simp only[df,mR (TW r)];rfl
 have p:((aiZ g.n.toNat).map (iD g c)).map aT=kO g c g.n.toNat:=by unfold kO;rw[ajc];rfl
 have⟨N,o⟩:=DD H.length;have d:∀(K:List Ob) k,(H++K)[k+N]?=K[k]?:=fun K k=>Qc _ _ o;have f:∀l k,wo h N l (k+N)=l.getD k .none:=fun l k=>by unfold wo;rw[if_neg (by omega),alU]
 have s:∀(K:List Ob) l,aH (fun _=>False) h (wo h N l) H (H++K):=fun K l=>⟨by simp,fun m hm=>by unfold wo;rw[if_pos (by omega)],fun m hm _=>abE hm⟩;have⟨q,K,t,A⟩:=xY [] v hc w x hp;rw[aD,if_neg (by simp[eO])];simp only[dy,y,z,kU,show tz.md 16=2 from rfl,aeU];rcases A with⟨u,rfl,rfl⟩|⟨u,rfl,rfl⟩
 .rw[afq r (by simpa using t),jP];refine⟨3+N,wo h N [.none,.cl 2,.cl 3,.cl 0],H++[ah 2 [[.aj [],.aj []]],.mp [],.mp [],ah 8 [[I r.win,I r.fy,I r.wait,I r.room,I r.hold,.aj [],.mr (1+N),.mr (2+N)]]],?_,?_,s _ _⟩
  .simp[ei,pB,jm,nT,anq,eN,dX,dZ,ES,bC,bA,o];exact⟨by omega,by omega,by omega⟩
  .refine My r (by rw[d];rfl) (by rw[d];rfl) (by rw[d];rfl) (f _ _) (f _ _) (f _ _) (.inl ⟨by rw[u];rfl,rfl⟩)
 .rw[abx r j (by simpa using t),jP];have⟨R,B⟩:=DD (kO g c g.n.toNat);rw[B]at j p|-;have C:dX N (ah 10 R)=ah 10 R:=qy j;have D:R.map (fun r=>r.map (dZ N))=R:=by simpa[dX]using C
  refine⟨4+N,wo h N [.cl 1,.none,.cl 2,.cl 3,.cl 0],H++[ah 10 R,ah 2 [[.sl N 0 0 g.n.toNat,.aj []]],.mp [],.mp [],ah 8 [[I r.win,I r.fy,I r.wait,I r.room,I r.hold,.sl N 0 0 g.n.toNat,.mr (2+N),.mr (3+N)]]],?_,?_,s _ _⟩
  .simp[ei,pB,jm,nT,anq,eN,dX,dZ,ES,bC,bA,o];exact⟨.inl j,by omega,D,by omega,by omega⟩
  .refine My r (by rw[d];rfl) (by rw[d];rfl) (by rw[d];rfl) (f _ _) (f _ _) (f _ _) (.inr ⟨N,0,by simp,?_,?_⟩)
   .have:=d [ah 10 R,ah 2 [[.sl N 0 0 g.n.toNat,.aj []]],.mp [],.mp [],ah 8 [[I r.win,I r.fy,I r.wait,I r.room,I r.hold,.sl N 0 0 g.n.toNat,.mr (2+N),.mr (3+N)]]] 0;rw[aiW]at this;rw[this,p];rfl
   .have:=f [.cl 1,.none,.cl 2,.cl 3,.cl 0] 0;rw[aiW]at this;exact this
end
section
variable{T:Nat}{K K':Cl}{l F:List Ev}{e:Int}
def Bk(K:Cl)(ev:List Ev)(K':Cl):Prop:=(K'.nodes=K.nodes/\ev=[])\/∃(i:Nat) (a:Nd) (h:i<K.nodes.length),K'.nodes=K.nodes.set i a/\kV (i:Int) K.nodes[i].book ev a.book/\ev.length<=9000
theorem Li{n:Nd}{v:Wk}{i:Nat}(h:BW (bg n) v)(hid:n.dr.ai.id=(i:Int)):v.n.dr.ai.id=(i:Int)/\kV (i:Int) n.book v.seen v.n.book:=by have⟨a,b,c,d⟩:=h;grind [bg]
def rI(i:Int)(E:List Ev):List Ev:=E.filter fun e=>decide (e.node=i)
def yf(i:Int)(E F:List Ev):rI i (E++F)=rI i E++rI i F:=ajl ..
theorem Bs{i:Int}(h:∀e∈F,e.node=i):rI i F=F:=ajq.2 fun e a=>by grind
theorem Mx{i j:Int}(h:∀e∈F,e.node=i)(a:i≠j):rI j F=[]:=alk.2 fun e b=>by grind
structure wH(P:List Ev->cd->Prop)(K:Cl)(E:List Ev):Prop where
 b:∀i (h:i<K.nodes.length),P (rI (i:Int) E) K.nodes[i].book
 n:∀e∈E,0<=e.node/\e.node<K.nodes.length
theorem wH.step{P:List Ev->cd->Prop}(o:∀id E d b f,P E b->kV id b d f->P (E++d) f){E ev:List Ev}(h:wH P K E)(g:Bk K ev K'):wH P K' (E++ev):=by
 rcases g with⟨c,rfl⟩|⟨i,p,k,c,l,_⟩
 .rw[aeU];exact⟨fun i k=>by grind [wH.b],fun e a=>by rw[c];exact h.n e a⟩
 .have hn:=Sc l;have m:K'.nodes.length=K.nodes.length:=by grind
  refine⟨fun j q=>?_,fun e a=>?_⟩
  .simp only[c];rw[amk,yf];split
   .grind [Bs,wH.b]
   .rename_i r;rw[Mx (j:=(j:Int)) hn (by omega),aeU];grind [wH.b]
  .rw[m];rcases ain.1 a with a|a
   .exact h.n e a
   grind
theorem Bk.len{ev:List Ev}(h:Bk K ev K'):ev.length<=9000:=by
 rcases h with⟨_,rfl⟩|⟨_,_,_,_,_,h⟩
 .simp
 .exact h
end
section
variable{H:List Ob}{c:Nat->aU}{n:Nat}{g:Gr}
def jd(s:List Int)(e:Ev):List Int:=if e.kind=1 then s.set e.node.toNat e.id else s
theorem J6(s:List Int)(e:Ev):(jd s e).length=s.length:=by grind [jd]
def xZ:List Int->List Ev->Prop
 |_,[]=>True
 |s,e::r=>(0<=e.node/\e.node<s.length)/\(e.kind=1->s.getD e.node.toNat 0<e.id)/\xZ (jd s e) r
structure vt(p:Nat)(s:List Int)(H:List Ob)(c:Nat->aU):Prop where
 o:∃h v,H[p]?=some (ah 1 [[.sl h v 0 s.length]])/\H[h]?=some (.live v 1 (s.map aC))/\c h= .cl 10/\h≠p
 c:c p= .cl 10
theorem vt.aK{p:Nat}{s:List Int}{H':List Ob}{a:Nat->aU}(h:vt p s H c)(b:aH G9 c a H H'):vt p s H' a:=by have⟨⟨h,v,d,e,f,g⟩,i⟩:=h;have⟨j,k⟩:=b.get d (by grind);have⟨l,m⟩:=b.get e (by grind);exact⟨⟨h,v,j,l,m.trans f,g⟩,k.trans i⟩
theorem oO{p b:Nat}{s:List Int}{le:ab}{ev:List Ev}(x:LA)(e:Int)(z:Bool)(hJ:vt p s H c)(U:lY le ev)(ho:xZ s ev)(al:ev.length<=9000):
  ∃w,aO tz (bB tz (Go.Nx.ev tz)) 10 [au b,.agg (cM x),.c le,aa e,aR z,au p] H=some (aR true,w)/\vt p (ev.foldl jd s) w c/\aH (· = .cl 10) c c H w:=by
 have⟨⟨h,v,V,M,h3,W⟩,h5⟩:=hJ
 have⟨n,hn⟩:=DD s.length
 rw[hn]at V
 have⟨m,hm⟩:=DD ev.length
 have hx:∀X,[I X]=[I X]:=fun _=>rfl
 have Y:∀X:Ob,(H.set h X)[p]?=some (ah 1 [[.sl h v 0 n]]):=fun X=>by rw[aat W];exact V
 obtain⟨r,w,e1,rfl,N⟩:=cG (C:=tz) (f:=10) (args:=[au b,.agg (cM x),.c le,aa e,aR z,au p]) (H:=H) (fun r w=>r=aR true/\w=H.set h (.live v 1 ((ev.foldl jd s).map aC))) func10 rfl (by
  simp only[f10,cr]
  refine bp [(2,.c le),(5,au p)] (fun G=>G=H) ?_ ?_
  .simp[cM]
  rintro Z G⟨a2,a5,_⟩a
  obtain rfl:H=G:=a.symm
  rw[iM]
  refine Ends.sq ?_
  refine bp [(2,.c le),(5,au p),(12,aa (0:Nat))] (fun G=>G=H) ?_ ?_
  .simp[a2,a5]
  rintro Z G N a
  obtain rfl:H=G:=a.symm
  rw[eC]
  refine iv (fun g:Nat×List Int=>[(2,.c le),(5,au p),(12,aa g.1)]) (fun g G=>g.1<=m/\g.2.length=n/\xZ g.2 (ev.drop g.1)/\(ev.drop g.1).foldl jd g.2=ev.foldl jd s/\G=H.set h (.live v 1 (g.2.map aC))) (fun g=>m-g.1) ?_ (0,s) N ⟨by omega,hn,ho,rfl,(lJ M).symm⟩ fun _=>rfl
  rintro⟨j,t⟩Z G⟨o,B,D,_⟩⟨g2,F,O,k,a⟩
  simp only at o B D g2 F O k a
  by_cases d:j<m
  case neg=>
   have hj:ev.drop j=[]:=List.drop_eq_nil_iff.2 (by omega)
   rw[hj,List.foldl_nil]at k
   rw[k]at a
   rcases U with⟨rfl,rfl⟩|rfl
   .have:j=0:=by simp at hm;omega
    subst this
    simp[o,B,D]
    exact a
   .have ⟨R,q⟩:=DD (ev.map gw)
    have J:R.length=m:=by rw[<-q];simpa using hm
    rw[q]at o
    simp[o,B,D,J,d]
    exact a
  have P:j<ev.length:=by omega
  have⟨y,hy⟩:=DD ev[j]
  have aj:ev.drop j=y::ev.drop (j+1):=by rw[<-hy];exact agO P
  rw[aj]at O k
  have⟨⟨o1,o2⟩,o3,K⟩:=O
  rw[ai2]at k
  rcases U with⟨rfl,rfl⟩|rfl
  .simp at P
  have u:(ev.map gw)[j]?=some (gw y):=by rw[adf,abM P,hy];rfl
  simp only[gw]at u
  have⟨am,hq⟩:=DD (if y.kind=0 then aG y.need else ap)
  rw[hq]at u
  have⟨R,q⟩:=DD (ev.map gw)
  have J:R.length=m:=by rw[<-q];simpa using hm
  rw[q]at o u
  have ad:j<R.length:=by omega
  obtain⟨i,Q⟩:∃i:Nat,y.node=i:=⟨y.node.toNat,by omega⟩
  rw[Q]at u o1 o2
  have ae:i<n:=by omega
  have gp:G[p]?=some (ah 1 [[.sl h v 0 n]]):=by rw[a];exact Y _
  have S:G[h]?=some (.live v 1 (t.map aC)):=by rw[a];exact ba M
  have⟨A,L⟩:=DD (t.map aC)
  have af:A.length=n:=by rw[<-L];simpa using F
  have⟨ag,hu⟩:=DD (t.getD i 0)
  have ai:A[i]?=some [I ag]:=by
   rw[<-L,adf,abM (by omega), <-hu,ae5,abM (by omega)];rfl
  rw[L]at S
  have an:n<=A.length:=by omega
  have ao:i<A.length:=by omega
  have hw:adW.wrap ((j:Int)+1)=((j+1:Nat):Int):=cv (by omega)
  have c0:¬(i:Int)<0:=by omega
  have c1:¬(i:Int)>=n:=by omega
  have tk:A.take n=A:=acu (by omega)
  by_cases E:y.kind=1
  .have o5:=o3 E
   rw[Q,ais,hu]at o5
   have c2:¬y.id<=ag:=by omega
   rw[E]at u
   simp[-getElem?_pos,-ad0,o,B,D,J,d,u,ad,gp,S,ai,c0,c1,c2,ae,af,tk,hw]
   have T:jd t y=t.set i y.id:=by unfold jd;rw[if_pos E,Q];rfl
   rw[T]at K k
   refine⟨j+1,by omega,⟨q.symm,rfl⟩,by omega,t.set i y.id,by simpa using F,K,k,?_⟩
   rw[a,ajN,aiC,L]
   rfl
  .simp[-getElem?_pos,-ad0,o,B,D,J,d,u,ad,gp,S,ai,c0,c1,ae,af,tk,hw,E]
   have T:jd t y=t:=by unfold jd;rw[if_neg E]
   rw[T]at K k
   exact⟨j+1,by omega,⟨q.symm,rfl⟩,by omega,t,F,K,k,a⟩)
 have ak:∀(l:List Ev) (s:List Int),(l.foldl jd s).length=s.length:=fun l=>by
  induction l with
  |nil=>intro s;rfl
  |cons aq r ih=>intro s;rw[ai2,ih,J6]
 subst N
 refine⟨_,dK (by simp) e1,⟨⟨h,v,?_,ba M,h3,W⟩,h5⟩,⟨by simp,fun _ _=>rfl,fun ar hk hc=>?_⟩⟩
 .rw[ak,hn];exact Y _
 grind
structure Ay(n:Nat)(K:Cl)(s:List Int):Prop where
 e:∃E,wH GI K E/\∀i,i<n->s.getD i 0=mC (rI (i:Int) E) 0
 kl:K.nodes.length=n
 sl:s.length=n
theorem Yc(a:fa g=true)(c:List Int)(r:mZ):dL 0 (kM g c r):=by
 have e:=vX a;have f:=((nD g).1 a).2.1;have j:(kM g c r).nodes.length=g.n.toNat:=by simp[kM]
 have b:∀i (h:i< (kM g c r).nodes.length),(kM g c r).nodes[i]=iD g c i:=fun i h=>by simp[kM]
 refine⟨⟨fun x y=>?_,by omega,fun x y=>ad3 _,fun x y=>akg _⟩,⟨fun i d=>?_,fun i d=>?_⟩,fun x y=>ad3 _,fun x y s=>ad3 _⟩
 .exact ⟨fun s=>Uu _ _ _ _ _,fun s=>akg _,fun s t h=>by simp[kM,wO]at h,by show(eB r.room 0 1000).toNat<=1000;unfold eB;omega⟩
 .grind [ZZ,HK]
 .rw[b];rfl
theorem afJ{l:List LA}(h:rD g l=true):fa g=true/\g.n<=5/\l.length<=100/\∀x∈l,x.d.need.length<=20:=by grind [rD,acu]
end
section
structure Vw where
 side:Option (Int×Int)
 known:Int
 asked:List Int
abbrev Mg:=Int->Int->Prop
def Mg.put(F:Mg)(k e:Int):Mg:=fun a b=>F a b\/(a=k/\b=e)
structure amP(X Y:Vw)(F R:Mg):Prop where
 i1:∀e s,Y.side=some (e,s)->∃s',X.side=some (e,s')
 i2:∀e s,X.side=some (e,s)->s=0\/s=2->Y.side=some (e,0)
 i3:∀e,X.side=some (e,1)->R 6 e->Y.side=some (e,0)
 i5:∀e,X.side=some (e,3)->R 8 e->Y.side=none
 i6:∀e,F 5 e->Y.known<e->X.side=some (e,1)
 i6a:∀e,e∈Y.asked->X.side=some (e,1)
 i7:Y.known<=X.known
 i7f:∀e,F 5 e->e<=X.known
 i8:∀e,F 7 e->e<=X.known/\∀s,X.side=some (e,s)->s=3
 i9:∀e,R 8 e->e<=X.known/\∀s,X.side=some (e,s)->s=3
 i10:∀e,Y.side=some (e,2)->X.side=some (e,3)
 i11:∀e,R 6 e->e<=X.known
 kx:∀e s,X.side=some (e,s)->e=X.known
 ky:∀e s,Y.side=some (e,s)->e=Y.known
 ka:∀e,e∈Y.asked->Y.side=none/\Y.known<e
 sx:∀e s,X.side=some (e,s)->0<=s/\s<=3
 sy:∀e s,Y.side=some (e,s)->s=0\/s=2
section
variable{X Y:Vw}{F R F' R':Mg}{e:Int}
theorem amP.sub(h:amP X Y F R)(d:∀k e,F' k e->F k e)(c:∀k e,R' k e->R k e):amP X Y F' R':=
 ⟨h.i1,h.i2,fun e a b=>h.i3 e a (c _ _ b),fun e a b=>h.i5 e a (c _ _ b),fun e a b=>h.i6 e (d _ _ a) b,h.i6a,h.i7,fun e a=>h.i7f e (d _ _ a),fun e a=>h.i8 e (d _ _ a),fun e a=>h.i9 e (c _ _ a),h.i10,fun e a=>h.i11 e (c _ _ a),h.kx,h.ky,h.ka,h.sx,h.sy⟩
theorem amP.add(h:amP X Y F R)(c:X.side=none)(l:List Int):amP ⟨some (X.known+1,1),X.known+1,l⟩ Y F R:=by
 have d:Y.side=none:=by
  cases g:Y.side with
  |none=>rfl
  |some p=>have⟨j,f⟩:=h.i1 p.1 p.2 g;rw[c]at f;cases f
 have hA:Y.asked=[]:=by
  cases i:Y.asked with
  |nil=>rfl
  |cons a r=>have:=h.i6a a (by simp[i]);rw[c]at this;cases this
 refine⟨fun e s a=>?_,fun e s a b=>?_,fun e a b=>?_,fun e a b=>?_,fun e a b=>?_,fun e a=>?_,?_,fun e a=>?_,fun e a=>?_,fun e a=>?_,fun e a=>?_,fun e a=>?_,fun e s a=>?_,h.ky,h.ka,fun e s a=>?_,h.sy⟩
 .rw[d]at a;cases a
 .cases a;omega
 .cases a;have:=h.i11 _ b;omega
 .cases a
 .have:=h.i6 e a b;rw[c]at this;cases this
 .rw[hA]at a;cases a
 .have:=h.i7;simp only;omega
 .have:=h.i7f e a;simp only;omega
 .have:=(h.i8 e a).1;exact⟨by simp only;omega,fun s q=>by cases q;omega⟩
 .have:=(h.i9 e a).1;exact⟨by simp only;omega,fun s q=>by cases q;omega⟩
 .rw[d]at a;cases a
 .have:=h.i11 e a;simp only;omega
 .cases a;rfl
 .cases a;omega
def amP.aoK(h:amP X Y F R)(d:X.side=some (e,0))(l:List Int):amP ⟨some (e,2),X.known,l⟩ Y F R:=by
 have f:=h.i2 e 0 d (.inl rfl);refine⟨fun c s a=>?_,fun c s a b=>?_,fun c a b=>?_,fun c a b=>?_,fun c a b=>?_,fun c a=>?_,h.i7,h.i7f,fun c a=>?_,fun c a=>?_,fun c a=>?_,h.i11,fun c s a=>?_,h.ky,h.ka,fun c s a=>?_,h.sy⟩
 .rw[f]at a;cases a;exact⟨2,rfl⟩
 .cases a;exact f
 .cases a
 .cases a
 .have:=h.i6 c a b;rw[d]at this;cases this
 .have:=h.i6a c a;rw[d]at this;cases this
 .refine ⟨(h.i8 c a).1,fun s q=>?_⟩;cases q;have:=(h.i8 _ a).2 _ d;cases this
 .refine ⟨(h.i9 c a).1,fun s q=>?_⟩;cases q;have:=(h.i9 _ a).2 _ d;cases this
 .rw[f]at a;cases a
 .cases a;exact h.kx _ _ d
 .cases a;omega
def amP.tell(h:amP X Y F R)(d:X.side=some (e,1)):amP X Y (F.put 5 e) R:=by
 have f:∀c,F.put 5 e 7 c->F 7 c:=fun c h=>h.elim id fun h=>absurd h.1 (by decide);refine⟨h.i1,h.i2,h.i3,h.i5,fun c a b=>?_,h.i6a,h.i7,fun c a=>?_,fun c a=>h.i8 c (f _ a),h.i9,h.i10,h.i11,h.kx,h.ky,h.ka,h.sx,h.sy⟩
 .rcases a with a|⟨_,rfl⟩
  .exact h.i6 c a b
  .exact d
 .rcases a with a|⟨_,rfl⟩
  .exact h.i7f c a
  .exact Int.le_of_eq (h.kx _ _ d)
def amP.apm(h:amP X Y F R)(d:X.side=some (e,2))(l:List Int):amP ⟨some (e,3),X.known,l⟩ Y (F.put 7 e) R:=by
 have f:=h.i2 e 2 d (.inr rfl);have g:∀c,F.put 7 e 5 c->F 5 c:=fun c h=>h.elim id fun h=>absurd h.1 (by decide);refine⟨fun c s a=>?_,fun c s a b=>?_,fun c a b=>?_,fun c a b=>?_,fun c a b=>?_,fun c a=>?_,h.i7,fun c a=>h.i7f c (g _ a),fun c a=>?_,fun c a=>?_,fun c a=>?_,h.i11,fun c s a=>?_,h.ky,h.ka,fun c s a=>?_,h.sy⟩
 .rw[f]at a;cases a;exact⟨3,rfl⟩
 .cases a;omega
 .cases a
 .cases a;have:=(h.i9 _ b).2 _ d;cases this
 .have:=h.i6 c (g _ a) b;rw[d]at this;cases this
 .have:=h.i6a c a;rw[d]at this;cases this
 .rcases a with a|⟨_,rfl⟩
  .exact ⟨(h.i8 c a).1,fun s q=>by cases q;rfl⟩
  .exact ⟨Int.le_of_eq (h.kx _ _ d),fun s q=>by cases q;rfl⟩
 .exact ⟨(h.i9 c a).1,fun s q=>by cases q;rfl⟩
 .rw[f]at a;cases a
 .cases a;exact h.kx _ _ d
 .cases a;omega
theorem amP.answer(h:amP X Y F R)(f:e∈Y.asked):amP X ⟨some (e,0),e,[]⟩ F (R.put 6 e):=by
 have d:=h.i6a e f;have⟨i,j⟩:=h.ka e f;have k:=h.kx _ _ d;have g:∀c,R.put 6 e 8 c->R 8 c:=fun c h=>h.elim id fun h=>absurd h.1 (by decide);refine⟨fun c s a=>?_,fun c s a b=>?_,fun c a b=>?_,fun c a b=>?_,fun c a b=>?_,fun c a=>?_,?_,h.i7f,h.i8,fun c a=>h.i9 c (g _ a),fun c a=>?_,fun c a=>?_,h.kx,fun c s a=>?_,fun c a=>?_,h.sx,fun c s a=>?_⟩
 .cases a;exact⟨1,d⟩
 .rw[d]at a;cases a;omega
 .rw[d]at a;cases a;rfl
 .rw[d]at a;cases a
 .exact h.i6 c a (by simp only at b;omega)
 .cases a
 .simp only;omega
 .cases a
 .rcases a with a|⟨_,rfl⟩
  .exact h.i11 c a
  .omega
 .cases a;rfl
 .cases a
 .cases a;exact .inl rfl
def amP.aoM(h:amP X Y F R)(f:Y.side=some (e,2)):amP X ⟨none,Y.known,Y.asked⟩ F (R.put 8 e):=by
 have d:=h.i10 e f;have g:∀c,R.put 8 e 6 c->R 6 c:=fun c h=>h.elim id fun h=>absurd h.1 (by decide);refine⟨fun c s a=>?_,fun c s a b=>?_,fun c a b=>?_,fun c a b=>rfl,h.i6,h.i6a,h.i7,h.i7f,h.i8,fun c a=>?_,fun c a=>?_,fun c a=>h.i11 c (g _ a),h.kx,fun c s a=>?_,fun c a=>?_,h.sx,fun c s a=>?_⟩
 .cases a
 .rw[d]at a;cases a;omega
 .rw[d]at a;cases a
 .rcases a with a|⟨_,rfl⟩
  .exact h.i9 c a
  .exact ⟨Int.le_of_eq (h.kx _ _ d),fun s q=>by rw[d]at q;cases q;rfl⟩
 .cases a
 .cases a
 .have:=(h.ka c a).1;rw[f]at this;cases this
 .cases a
def amP.known(h:amP X Y F R)(hm:R 6 e)(d:X.side=some (e,1))(l:List Int):amP ⟨some (e,0),X.known,l⟩ Y F R:=by
 have f:=h.i3 e d hm;refine⟨fun c s a=>?_,fun c s a b=>?_,fun c a b=>?_,fun c a b=>?_,fun c a b=>?_,fun c a=>?_,h.i7,h.i7f,fun c a=>?_,fun c a=>?_,fun c a=>?_,h.i11,fun c s a=>?_,h.ky,h.ka,fun c s a=>?_,h.sy⟩
 .rw[f]at a;cases a;exact⟨0,rfl⟩
 .cases a;exact f
 .cases a
 .cases a
 .have g:=h.i6 c a b;rw[d]at g;cases g;have:=h.ky _ _ f;omega
 .have:=(h.ka c a).1;rw[f]at this;cases this
 .refine ⟨(h.i8 c a).1,fun s q=>?_⟩;cases q;have:=(h.i8 _ a).2 _ d;cases this
 .refine ⟨(h.i9 c a).1,fun s q=>?_⟩;cases q;have:=(h.i9 _ a).2 _ d;cases this
 .rw[f]at a;cases a
 .cases a;exact h.kx _ _ d
 .cases a;omega
def amP.closed(h:amP X Y F R)(hm:R 8 e)(f:X.side=some (e,3))(l:List Int):amP ⟨none,X.known,l⟩ Y F R:=by
 have g:=h.i5 e f hm;refine⟨fun c s a=>?_,fun c s a b=>?_,fun c a b=>?_,fun c a b=>?_,fun c a b=>?_,fun c a=>?_,h.i7,h.i7f,fun c a=>⟨(h.i8 c a).1,fun s q=>by cases q⟩,fun c a=>⟨(h.i9 c a).1,fun s q=>by cases q⟩,fun c a=>?_,h.i11,fun c s a=>?_,h.ky,h.ka,fun c s a=>?_,h.sy⟩
 .rw[g]at a;cases a
 .cases a
 .cases a
 .cases a
 .have d:=h.i6 c a b;rw[f]at d;cases d
 .have d:=h.i6a c a;rw[f]at d;cases d
 .rw[g]at a;cases a
 .cases a
 .cases a
def amP.ask(h:amP X Y F R)(hm:F 5 e)(g:Y.side=none)(d:Y.known<e):amP X ⟨none,Y.known,Y.asked++[e]⟩ F R:=by
 have f:=h.i6 e hm d;refine⟨fun c s a=>(by cases a),fun c s a b=>?_,fun c a b=>?_,fun c a b=>rfl,h.i6,fun c a=>?_,h.i7,h.i7f,h.i8,h.i9,fun c a=>(by cases a),h.i11,h.kx,fun c s a=>(by cases a),fun c a=>?_,h.sx,fun c s a=>(by cases a)⟩
 .rw[f]at a;cases a;omega
 .have:=h.i3 c a b;rw[g]at this;cases this
 .rcases ain.1 a with a|a
  .exact h.i6a c a
  .simp only[akz]at a;subst a;exact f
 .rcases ain.1 a with a|a
  .exact ⟨rfl,(h.ka c a).2⟩
  .simp only[akz]at a;subst a;exact⟨rfl,d⟩
def amP.close(h:amP X Y F R)(hm:F 7 e)(f:Y.side=some (e,0)):amP X ⟨some (e,2),Y.known,Y.asked⟩ F R:=by
 have⟨i,d⟩:=h.i1 e 0 f;have g:=(h.i8 e hm).2 _ d;subst g;refine⟨fun c s a=>?_,fun c s a b=>?_,fun c a b=>?_,fun c a b=>?_,h.i6,h.i6a,h.i7,h.i7f,h.i8,h.i9,fun c a=>?_,h.i11,h.kx,fun c s a=>?_,fun c a=>?_,h.sx,fun c s a=>?_⟩
 .cases a;exact⟨3,d⟩
 .rw[d]at a;cases a;omega
 .rw[d]at a;cases a
 .have:=h.i5 c a b;rw[f]at this;cases this
 .cases a;exact d
 .cases a;exact h.ky _ _ f
 .have:=(h.ka c a).1;rw[f]at this;cases this
 .cases a;exact .inr rfl
def amP.law(h:amP X Y F R):(∀e,X.side=some (e,0)->Y.side=some (e,0))/\(Y.side≠none->X.side≠none)/\∀e s d f,X.side=some (e,s)->Y.side=some (d,f)->e=d:=by
 refine⟨fun e a=>h.i2 e 0 a (.inl rfl),fun a b=>?_,fun e s d f a b=>?_⟩
 .cases g:Y.side with
  |none=>exact a g
  |some p=>have⟨f,c⟩:=h.i1 p.1 p.2 g;rw[b]at c;cases c
 .have ⟨i,c⟩:=h.i1 d f b;rw[a]at c;cases c;rfl
end
end
section
def K9(l:List aI)(p:Int):Option (Int×Int):=(l.find? (cP p)).map fun x=>(x.aP,x.state)
def amW(l:List cj)(p:Int):List Int:=(l.filter fun k=>decide (k.peer=p)).map (·.aP)
def vw(n:Nd)(p:Int):Vw:=⟨K9 n.dr.ai.af p,gR n.known p,amW n.asked p⟩
def Mg.out(F:Mg)(l:List cB)(p:Int):Mg:=fun k e=>F k e\/∃m∈l,m.dst=p/\m.fN.kind=k/\m.fN.aP=e
def PJ(Z:Int->Vw)(F R:Int->Mg)(w:Wk)(p:Int):Prop:=(w.n.dr.ai.id<p->amP (vw w.n p) (Z p) ((F p).out w.out p) (R p))/\(p<w.n.dr.ai.id->amP (Z p) (vw w.n p) (R p) ((F p).out w.out p))
def amP.anr{X Y:Vw}{F R c d:Mg}(h:amP X Y F R)(f:∀e,c 5 e->F 5 e)(j:∀e,c 7 e->F 7 e)(g:∀e,d 6 e->R 6 e)(i:∀e,d 8 e->R 8 e):amP X Y c d:=
 ⟨h.i1,h.i2,fun e a b=>h.i3 e a (g _ b),fun e a b=>h.i5 e a (i _ b),fun e a b=>h.i6 e (f _ a) b,h.i6a,h.i7,fun e a=>h.i7f e (f _ a),fun e a=>h.i8 e (j _ a),fun e a=>h.i9 e (i _ a),h.i10,fun e a=>h.i11 e (g _ a),h.kx,h.ky,h.ka,h.sx,h.sy⟩
def amP.Rb{X Y:Vw}{F R c:Mg}(h:amP X Y F R)(d:∀e,c 5 e->F 5 e\/X.side=some (e,1))(f:∀e,c 7 e->F 7 e):amP X Y c R:=
 ⟨h.i1,h.i2,h.i3,h.i5,fun e a b=>(d e a).elim (fun a=>h.i6 e a b) id,h.i6a,h.i7,fun e a=>(d e a).elim (h.i7f e) fun a=>by have:=h.kx _ _ a;omega,fun e a=>h.i8 e (f _ a),h.i9,h.i10,h.i11,h.kx,h.ky,h.ka,h.sx,h.sy⟩
variable{S:Int->Prop}{Z:Int->Vw}{F R:Int->Mg}{w w':Wk}
abbrev VJ(S:Int->Prop)(Z:Int->Vw)(F R:Int->Mg)(w:Wk):Prop:=(∀m∈w.out,m.src=w.n.dr.ai.id)/\∀p,S p->PJ Z F R w p
theorem PJ.same{p:Int}(h:PJ Z F R w p)(c:w'.n.dr.ai.id=w.n.dr.ai.id)(d:vw w'.n p=vw w.n p)(f:∀m∈w'.out,m∈w.out\/m.fN.kind<5\/m.dst≠p):PJ Z F R w' p:=by
 have b:∀k e,5<=k->(F p).out w'.out p k e->(F p).out w.out p k e:=by unfold Mg.out;grind
 unfold PJ at*;rw[c,d];exact⟨fun q=>(h.1 q).anr (fun e=>b 5 e (by omega)) (fun e=>b 7 e (by omega)) (fun _ a=>a) fun _ a=>a,fun q=>(h.2 q).anr (fun _ a=>a) (fun _ a=>a) (fun e=>b 6 e (by omega)) fun e=>b 8 e (by omega)⟩
def Sm(w w':Wk):Prop:=w'.n.dr.ai.id=w.n.dr.ai.id/\(∀p,K9 w'.n.dr.ai.af p=K9 w.n.dr.ai.af p)/\w'.n.known=w.n.known/\w'.n.asked=w.n.asked/\∀m∈w'.out,m∈w.out\/(m.fN.kind<5/\m.src=w.n.dr.ai.id)
def Sm.vj(h:Sm w w')(a:VJ S Z F R w):VJ S Z F R w':=by have⟨b,d,e,f,c⟩:=h;exact⟨fun m hm=>by rw[b];exact(c m hm).elim (a.1 m) (·.2),fun p g=>(a.2 p g).same b (by unfold vw;rw[d,e,f]) fun m hm=>(c m hm).imp id fun h=> .inl h.1⟩
theorem Sm.trans{a:Wk}(h:Sm w w')(b:Sm w' a):Sm w a:=by grind [Sm]
theorem anU(w:Wk):Sm w w.dg:=by grind [Sm,Wk.dg,kH,Wk.put]
theorem apb(w:Wk):Sm w (dq w):=by grind [Sm,dq,Wk.put,Nd.amO]
theorem aoU(w:Wk):Sm w (dG w):=by grind [Sm,dG,Wk.put,Nd.amO]
theorem ao1(w:Wk):Sm w (fe w):=by grind [Sm,fe,Wk.put,Wk.dJ]
def amY(x:aI):Int×Int×Int:=(x.peer,x.aP,x.state)
theorem anW{p:Int}:∀ {l m:List aI},l.map amY=m.map amY->K9 l p=K9 m p
 |[],[],_=>rfl
 |[],_::_,h=>by simp at h
 |_::_,[],h=>by simp at h
 |x::l,y::m,h=>by
  simp only[ag9,aiA]at h
  have:=anW (p:=p) h.2
  simp only[K9,akh,cP,amY,aca]at*
  grind
def anP{f:aI->aI}(h:∀x,amY (f x)=amY x)(l:List aI):(l.map f).map amY=l.map amY:=by rw[ajc];exact ajp fun x _=>h x
theorem an9{q:aI->Bool}{f:aI->aI}(h:∀x,amY (f x)=amY x):∀l:List aI,(setAt q f l).map amY=l.map amY
 |[]=>rfl
 |x::r=>by
  have:=an9 (q:=q) h r
  grind [setAt]
def DrS(d a:Dr)(l:List cB):Prop:=a.ai.id=d.ai.id/\a.ai.af.map amY=d.ai.af.map amY/\∀m∈l,m.fN.kind<5/\m.src=d.ai.id
theorem apQ{d:Dr}(h:dC d=true):DrS d (cq d).1 (cq d).2:=by
 have e:eo ⟨d.ai.id,eG d,d.ai.af⟩=true:=pW h;have g:∀x,amY (cI d.ai.id (eG d) x).1=amY x:=fun x=>by unfold cI amY;grind
 have i:∀id b c x,amY (bL id b c x).1=amY x:=fun _ _ _ x=>by unfold bL amY;grind
 refine⟨(yK h).1,?_,?_⟩
 .simp only[cq,rl];rw[anP (fun x=>i _ _ _ x)];unfold fx;rw[if_neg (by simp[e])];simp only;split
  .simp only;rw[anP (f:=fun x=>{x with cK:=true}) (fun _=>rfl),anP g]
  .exact anP g _
 .simp only[cq,rl,fx];rw[if_neg (by simp[e])];have j:∀id k x, ∀m∈(cI id k x).2,m.fN.kind<5/\m.src=id:=fun _ _ _ _=>by grind [cI,ft]
  have l:∀id b c x, ∀m∈(bL id b c x).2,m.fN.kind<5/\m.src=id:=fun _ _ _ _ _=>by grind [bL,ft]
  intro m hm;rcases ain.1 hm with hm|hm
  .split at hm<;>(have⟨x,_,a⟩:=amj.1 hm;exact j _ _ x m a)
  .have ⟨x,_,a⟩:=amj.1 hm;split at a<;>exact l _ _ _ x m a
theorem apv{d:Dr}(h:dC d=true):DrS d (lC d).1 (lC d).2.1:=by
 have e:∀(k:Nat) (a:Dr) (out:List cB),dC a=true->DrS d a out->DrS d (qg k a out).1 (qg k a out).2:=by
  intro k;induction k with
  |zero=>exact fun _ _ _ h=>h
  |succ k f=>
   intro a out b g;have i:=apQ b;have c:DrS d (cq a).1 (out++(cq a).2):=by grind [DrS]
   unfold qg;split
   .exact c
   .exact f _ _ (Rg b) c
 unfold lC;rw[if_neg (by simp[h])];exact e _ d [] h ⟨rfl,rfl,by simp⟩
theorem ao0(h:dC w.n.dr=true):Sm w (fF w):=by have:=apv h;refine⟨this.1,fun p=>anW this.2.1,rfl,rfl,fun m hm=>?_⟩;have:=this.2.2 m;unfold fF at hm;grind
theorem ank(y:aI)(r:List aI)(p:Int):K9 (y::r) p=if y.peer=p then some (y.aP,y.state)else K9 r p:=by unfold K9 cP;grind
theorem anS{x:aI}{p:Int}:∀ {l:List aI},cJ l x.peer=false->K9 (fR x l) p=if x.peer=p then some (x.aP,x.state)else K9 l p
 |[],h=>by grind [fR,ank]
 |y::r,h=>by
  have:=anS (x:=x) (p:=p) (l:=r)
  grind [fR,ank,cJ]
theorem anY{p q s:Int}:∀ {l:List aI},K9 (setAt (cP q) (fun x=>{x with state:=s}) l) p=if p=q then(K9 l q).map fun e=>(e.1,s)else K9 l p
 |[]=>by simp[K9,setAt]
 |y::r=>by
  have:=anY (p:=p) (q:=q) (s:=s) (l:=r)
  grind [setAt,ank,cP]
theorem aop{p q:Int}:∀ {l:List aI},K9 (n9 q l) p=if p=q then none else K9 l p
 |[]=>by simp[K9,n9]
 |y::r=>by
  have:=aop (p:=p) (q:=q) (l:=r)
  grind [n9,ank]
theorem anM{p q e:Int}:∀ {l:List cj},(l.Pairwise fun x y=>x.peer<y.peer)->gR (fS q e l) p=if q=p then e else gR l p
 |[],h=>by simp[gR,fS]
 |y::r,h=>by
  have:=anM (p:=p) (q:=q) (e:=e) (ahg.1 h).2
  have a:=(ahg.1 h).1
  grind [gR,fS]
theorem aoi{id th:Int}{nd:List Int}{p:Int}:∀ {l:List aI},(l.Pairwise fun x y=>x.peer<y.peer)->K9 (l.flatMap fun x=>(dD id th nd x).1) p=(K9 l p).bind fun e=>if e.2≠2\/(th=2/\p∈nd)then some e else if p>id then some (e.1,3)else none
 |[],_=>rfl
 |y::r,h=>by
  have a:=aoi (id:=id) (th:=th) (nd:=nd) (p:=p) (ahg.1 h).2
  have d:=(ahg.1 h).1
  have f:∀ {l:List aI},(∀x∈l,p<x.peer)->K9 l p=none:=fun{l}=>by
   unfold K9 cP;grind
  rw[aiz,ank]
  unfold dD at*
  by_cases c:y.peer=p
  .have g:=f (l:=r) (by rw[<-c];exact d)
   rw[g]at a
   subst c
   rw[if_pos rfl,alg]
   by_cases q:y.state≠2\/(th=2/\y.peer∈nd)
   .simp only[if_pos q,akJ,ank,if_true]
   .by_cases b:y.peer>id
    .simp only[if_neg q,if_pos b,akJ,ank,if_true]
    .simp only[if_neg q,if_neg b,aiD]
     exact a
  .rw[if_neg c, <-a]
   split
   .simp only[akJ,ank,if_neg c]
   .split
    .simp only[akJ,ank,if_neg c]
    .rfl
def an5{x:aI}{p:Int}:∀ {l:List aI},(l.Pairwise fun x y=>x.peer<y.peer)->x∈l->x.peer=p->K9 l p=some (x.aP,x.state)
 |y::r,h,a,hp=>by
  rw[ank]
  rcases aeM.1 a with rfl|a
  .rw[if_pos hp]
  .rw[if_neg (by have:=(ahg.1 h).1 x a;omega)]
   exact an5 (ahg.1 h).2 a hp
def aoz{l:List aI}{p:Int}{x:aI}(h:l.find? (cP p)=some x):K9 l p=some (x.aP,x.state):=by unfold K9;rw[h];rfl
theorem VJ.one(q:Int)(h:VJ S Z F R w)(a:w'.n.dr.ai.id=w.n.dr.ai.id)(d:∀p,p≠q->vw w'.n p=vw w.n p)(e:∀m∈w'.out,m∈w.out\/(m.src=w.n.dr.ai.id/\(m.fN.kind<5\/m.dst=q)))(f:S q->PJ Z F R w' q):VJ S Z F R w':=by
 refine⟨fun m hm=>by rw[a];exact(e m hm).elim (h.1 m) (·.1),fun p b=>?_⟩;by_cases c:p=q
 .rw[c];exact f (c▸b)
 .exact (h.2 p b).same a (d p c) fun m hm=>by grind
theorem aoh{F:Mg}{l:List cB}{m:cB}{p k e:Int}(h:F.out (l++[m]) p k e):F.out l p k e\/(k=m.fN.kind/\e=m.fN.aP):=by unfold Mg.out at*;grind
theorem apx{k:cj}{r:List cj}(h:VJ S Z F R (w.put {w.n with asked:=k::r}))(b:k.peer<w.n.dr.ai.id)(f:cJ w.n.dr.ai.af k.peer=false)(g:∀x∈r,k.peer≠x.peer)(i:w.n.known.Pairwise fun x y=>x.peer<y.peer):
  VJ S Z F R ((w.iz k).put {(w.iz k).n with asked:=r}):=by
 have d:∀p,vw ((w.iz k).put {(w.iz k).n with asked:=r}).n p=if k.peer=p then⟨some (k.aP,0),k.aP,[]⟩else vw (w.put {w.n with asked:=k::r}).n p:=fun p=>by
  show Vw.mk (K9 (fR ⟨k.peer,k.aP,0,false,false,true,false,true⟩ w.n.dr.ai.af) p) (gR (fS k.peer k.aP w.n.known) p) (amW r p)=_
  rw[anS f,anM i]
  by_cases c:k.peer=p
  .have:amW r p=[]:=by unfold amW;rw[alk.2 fun x j=>by have:=g x j;simp;omega];rfl
   simp only[if_pos c,this]
  .have:amW (k::r) p=amW r p:=by grind [amW]
   rw[if_neg c,if_neg c,if_neg c, <-this]
   rfl
 refine h.one k.peer rfl (fun p hp=>by rw[d,if_neg (ait hp)]) (fun m hm=>?_) fun l=>⟨fun c=>absurd c (Int.not_lt.2 (Int.le_of_lt b)),fun _=>?_⟩
 .have:m∈w.out++[ft w.n.id ⟨k.peer,k.aP,0,false,false,true,false,true⟩ 6]:=hm
  grind [ft,Wk.put]
 .rw[d,if_pos rfl]
  refine(((h.2 k.peer l).2 b).answer (e:=k.aP) ?_).anr (fun _ a=>a) (fun _ a=>a) (fun e a=>?_) fun e a=>?_
  .show k.aP∈amW (k::r) k.peer
   grind [amW]
  .exact (aoh a).imp id fun⟨_,h⟩=>⟨rfl,h⟩
  .exact (aoh a).elim .inl fun h=>by cases h.1
def aoZ(h:VJ S Z F R w)(c:dd w.n)(a:gN w.n.known):VJ S Z F R (dA w):=by
 unfold dA;split
 case isFalse=>exact h
 have d:∀(r:List cj) (v:Wk),am4 w v r->gN v.n.known->VJ S Z F R (v.put {v.n with asked:=r})->VJ S Z F R ((r.foldl Wk.iz v).put {(r.foldl Wk.iz v).n with asked:=[]}):=by
  intro r;induction r with
  |nil=>exact fun _ _ _ h=>h
  |cons k r e=>
   intro v b a f;have⟨j,g,i,l,m⟩:=b.ask k (by simp);have hid:v.n.id<64:=by rw[b.id];exact c.id
   refine e (v.iz k) (Qf b hid) (gN.td (p:=k.peer) a (by omega) (by omega)) ?_;exact apx f g i (ahg.1 b.ad).1 a.s
 exact d w.n.asked w (agL c) a h
theorem aoO(h:VJ S Z F R w)(t:dd w.n):VJ S Z F R (iN w):=by
 unfold iN;split
 case isFalse=>exact h
 have u:=t.af.2
 have c:∀(l:List aI) (d:List Int) (out:List cB), ∀m∈(jq w.n.id l d out).2,m∈out\/∃x∈l,amU x=true/\m=ft w.n.id x 5:=by
  intro l;induction l with
  |nil=>exact fun _ _ m h=> .inl h
  |cons x r A=>intro d out m hm;unfold jq at hm;grind
 refine⟨fun m hm=>(c _ _ _ m hm).elim (h.1 m) fun⟨x,_,_,e⟩=>by rw[e];rfl,fun p v=>?_⟩;have hp:=h.2 p v
 have f:∀k e,5<=k->(F p).out w.tell.out p k e->(F p).out w.out p k e\/(k=5/\K9 w.n.dr.ai.af p=some (e,1)):=by
  intro k e B a;rcases a with a|⟨m,b,g,i,j⟩
  .exact .inl (.inl a)
  .rcases c _ _ _ m b with b|⟨x,y,o,rfl⟩
   .exact .inl (.inr ⟨m,b,g,i,j⟩)
   .have z:=an5 u.s y g;simp only[amU,decide_eq_true_eq]at o;exact .inr ⟨i.symm,by rw[z,o];have:x.aP=e:=j;rw[this]⟩
 refine⟨fun q=>(hp.1 q).Rb (fun e a=>?_) fun e a=>?_,fun q=>(hp.2 q).anr (fun _ a=>a) (fun _ a=>a) (fun e a=>?_) fun e a=>?_⟩
 .exact (f 5 e (by omega) a).imp id fun h=>h.2
 all_goals exact(f _ e (by omega) a).elim id fun h=>by cases h.1
theorem apC(h:VJ S Z F R w)(t:dd w.n):VJ S Z F R w.lA:=by
 have j:=t.af.2;refine⟨fun m hm=>(ain.1 hm).elim (h.1 m) fun hm=>?_,fun p u=>?_⟩
 .have ⟨x,_,l⟩:=amj.1 hm;show m.src=w.n.dr.ai.id;grind [dD,ft]
 have hp:=h.2 p u;have b:vw w.lA.n p=⟨(K9 w.n.dr.ai.af p).bind fun e=>if e.2≠2\/(w.n.dr.aQ=2/\p∈w.n.dr.need)then some e else if p>w.n.dr.ai.id then some (e.1,3)else none,gR w.n.known p,amW w.n.asked p⟩:=by show Vw.mk (K9 (w.n.dr.ai.af.flatMap _) p) _ _=_;rw[aoi j.s];rfl
 have i:∀k e,5<=k->(F p).out w.lA.out p k e->(F p).out w.out p k e\/(K9 w.n.dr.ai.af p=some (e,2)/\ ¬(w.n.dr.aQ=2/\p∈w.n.dr.need)/\k=if p>w.n.dr.ai.id then 7 else 8):=by
  intro k e o a;rcases a with a|⟨m,d,g,y,z⟩
  .exact .inl (.inl a)
  .rcases ain.1 d with d|d
   .exact .inl (.inr ⟨m,d,g,y,z⟩)
   .have ⟨x,l,B⟩:=amj.1 d;have C:=an5 j.s l rfl;grind [dD,ft]
 have⟨v,r⟩:=DD (vw w.lA.n p);have A:vw w.n p=⟨K9 w.n.dr.ai.af p,gR w.n.known p,amW w.n.asked p⟩:=rfl;rw[r]at b;show(w.n.dr.ai.id<p->amP (vw w.lA.n p) _ _ _)/\(p<w.n.dr.ai.id->amP _ (vw w.lA.n p) _ _);rw[r];by_cases c:∃e,K9 w.n.dr.ai.af p=some (e,2)/\ ¬(w.n.dr.aQ=2/\p∈w.n.dr.need)
 .have ⟨e,c1,c2⟩:=c;rw[c1,alg,if_neg (by simpa using c2)]at b;refine⟨fun q=>?_,fun q=>?_⟩
  .rw[if_pos q]at b;rw[b];refine((hp.1 q).apm (e:=e) c1 _).anr (fun f a=>?_) (fun f a=>?_) (fun _ a=>a) fun _ a=>a
   .have:=i 5 f (by omega) a;grind [Mg.put]
   .have:=i 7 f (by omega) a;unfold Mg.put at*;grind
  .rw[if_neg (by omega)]at b;rw[b];refine((hp.2 q).aoM (e:=e) c1).anr (fun _ a=>a) (fun _ a=>a) (fun f a=>?_) fun f a=>?_
   .have:=i 6 f (by omega) a;grind [Mg.put]
   .have:=i 8 f (by omega) a;unfold Mg.put at*;grind
 .have d:v=vw w.n p:=by
   rw[b,A];congr 1
   cases j:K9 w.n.dr.ai.af p with
   |none=>rfl
   |some e=>grind
  have g:∀k e,5<=k->(F p).out w.lA.out p k e->(F p).out w.out p k e:=fun k e o a=>by have:=i k e o a;grind
  rw[d];exact⟨fun q=>(hp.1 q).anr (fun e=>g 5 e (by omega)) (fun e=>g 7 e (by omega)) (fun _ a=>a) fun _ a=>a,fun q=>(hp.2 q).anr (fun _ a=>a) (fun _ a=>a) (fun e=>g 6 e (by omega)) fun e=>g 8 e (by omega)⟩
def aox(h:VJ S Z F R w)(a:dd w.n)(c:gN w.n.known):VJ S Z F R w.iw:=by
 have⟨d,k,l,m⟩:=GZ a;have⟨e,o,f,g⟩:=Eu d;have⟨c1,c2,c3,c4⟩:=IL e;have i:¬((dG (dq (dA w))).n.dr.aQ=0/\jB (dG (dq (dA w))).n.book=true):=by rw[c3,c4,f];exact g
 have⟨d1,d2,d3⟩:=IC c1 i;have⟨b,p⟩:=Qr d1;have⟨j,q⟩:=Lp b;exact apC (aoO ((ao1 _).vj ((ao0 c1.dr).vj ((aoU _).vj ((apb _).vj (aoZ h a c))))) b) j
def aoo{v:Wk}(h:jt w v)(c:eY w)(d:VJ S Z F R w):VJ S Z F R v:=by
 obtain⟨u,e,b,_,rfl⟩:=h
 have f:∀ {u:Wk},Reach w u->eY u/\VJ S Z F R u:=fun h=>by
  induction h with
  |refl=>exact⟨c,d⟩
  |step h a=>exact⟨a.1.iw,aox a.2 a.1.i a.1.k⟩
 exact aox (f e).2 b.i b.k
theorem an6{id a k:Int}:Sm w (w.eS (de w.n.book id a).1 (de w.n.book id a).2)/\Sm w ((w.eS (de w.n.book id a).1 (de w.n.book id a).2).dJ k id):=by grind [Sm,Wk.eS,Wk.dJ,Wk.put,Wk.need]
theorem apn(id:Int)(a:List Int):Sm w (w.opens id a):=by grind [Sm,Wk.opens,Wk.put,Wk.fail]
theorem apF(id:Int):Sm w (w.release id):=by
 unfold Wk.release;split
 .exact an6.2.trans (anU _)
 .grind [Sm,Wk.fail]
theorem aoS(id:Int):Sm w (w.cancel id):=by
 unfold Wk.cancel;split
 .split
  .exact an6.2.trans (anU _)
  .exact an6.2
 .grind [Sm,Wk.fail]
theorem aoD(a:Int):Sm w (w.tick a):=by
 unfold Wk.tick;have h:∀b,Sm w (w.eS b 0)/\∀k i,Sm w ((w.eS b 0).dJ k i):=fun b=>by grind [Sm,Wk.eS,Wk.dJ,Wk.put,Wk.need]
 split
 .split
  .exact ((h _).2 _ _).trans (anU _)
  .exact (h _).1
 .grind [Sm,Wk.fail]
theorem ao6(w:Wk)(q:Int):(w.shut q).n.dr.ai.id=w.n.dr.ai.id/\(w.shut q).out=w.out/\∀p,vw (w.shut q).n p=if p=q then⟨(K9 w.n.dr.ai.af q).map fun e=>(e.1,2),gR w.n.known q,amW w.n.asked q⟩else vw w.n p:=by
 have⟨w1,a⟩:=DD ((w.put (w.n.eK (setAt (cP q) (fun x=>{x with state:=2}) w.n.af))).amR 7 q)
 have g:∀p,vw w1.n p=if p=q then⟨(K9 w.n.dr.ai.af q).map fun e=>(e.1,2),gR w.n.known q,amW w.n.asked q⟩else vw w.n p:=fun p=>by
  rw[<-a];show Vw.mk (K9 (setAt _ _ w.n.dr.ai.af) p) _ _=_;rw[anY];by_cases c:p=q
  .rw[if_pos c,if_pos c,c];rfl
  .rw[if_neg c,if_neg c];rfl
 have d:∀w2 b l,Sm w1 w2->w2.out=w1.out->((w2.put {w2.n with book:=b}).mT 5 l).n.dr.ai.id=w.n.dr.ai.id/\((w2.put {w2.n with book:=b}).mT 5 l).out=w.out/\∀p,vw ((w2.put {w2.n with book:=b}).mT 5 l).n p=if p=q then⟨(K9 w.n.dr.ai.af q).map fun e=>(e.1,2),gR w.n.known q,amW w.n.asked q⟩else vw w.n p:=fun w2 b l h i=>⟨h.1.trans (by rw[<-a];rfl),i.trans (by rw[<-a];rfl),fun p=>by rw[<-g p];show Vw.mk (K9 w2.n.dr.ai.af p) (gR w2.n.known p) (amW w2.n.asked p)=_;rw[h.2.1,h.2.2.1,h.2.2.2.1];rfl⟩
 unfold Wk.shut;simp only[a];have f:Sm w1 w1:=by grind [Sm]
 have j:w1.dg.out=w1.out:=by unfold Wk.dg;split<;>rfl
 split
 .exact d _ _ _ f rfl
 .split
  .exact d _ _ _ (anU _) j
  .exact d _ _ _ f rfl
def aoq{q e:Int}(h:VJ S Z F R w)(a:K9 w.n.dr.ai.af q=some (e,0))(hc:q<w.n.dr.ai.id->R q 7 e):VJ S Z F R (w.shut q):=by
 have⟨b,d,f⟩:=ao6 w q;have i:vw (w.shut q).n q=⟨some (e,2),gR w.n.known q,amW w.n.asked q⟩:=by rw[f,if_pos rfl,a];rfl
 refine h.one q b (fun p hp=>by rw[f,if_neg hp]) (fun m hm=> .inl (by rw[<-d];exact hm)) fun g=>?_;unfold PJ;rw[b,d,i];exact⟨fun c=>((h.2 q g).1 c).aoK a _,fun c=>((h.2 q g).2 c).close (hc c) a⟩
theorem ao3{n:Nd}{a:Act}{v:Wk}(h:jt (cO n a) v)(d:VJ S Z F R (bg n)):VJ S Z F R v:=by
 have b:=(SC h).1;have hn:=Xa b;refine aoo h (Sd hn b) ?_;clear h;unfold cO at b|-;simp only[hn,if_true]at b|-;split
 .exact (apn _ _).vj d
 split
 .exact (apF _).vj d
 split
 .exact (aoS _).vj d
 split
 .exact (aoD _).vj d
 rename_i j l o q;rw[if_neg j,if_neg l,if_neg o,if_neg q]at b;split
 .rename_i k;rw[if_pos k]at b;split
  .rename_i c;rw[if_pos c]at b;cases b
  split
  .rename_i c;grind [Wk.fail]
  split
  .rename_i c1 c2 c3;have f:=(JE hn).2.1.s;have hp:cJ n.dr.ai.af a.peer=false:=by simpa using c2
   have hid:n.dr.ai.id<a.peer:=by grind
   have r:K9 n.dr.ai.af a.peer=none:=by unfold K9 cJ cP at*;grind
   refine d.one a.peer rfl (fun p g=>?_) (fun m hm=> .inl hm) fun t=>⟨fun _=>?_,fun c=>absurd c (Int.not_lt.2 (Int.le_of_lt hid))⟩
   .show Vw.mk (K9 (fR _ n.dr.ai.af) p) (gR (fS _ _ n.known) p) _=_;rw[anS hp,anM f];show Vw.mk (if a.peer=p then _ else _) (if a.peer=p then _ else _) _=_;rw[if_neg (ait g),if_neg (ait g)];rfl
   .show amP (Vw.mk (K9 (fR _ n.dr.ai.af) a.peer) (gR (fS _ _ n.known) a.peer) _) _ _ _;rw[anS hp,anM f];show amP (Vw.mk (if a.peer=a.peer then _ else _) (if a.peer=a.peer then _ else _) _) _ _ _;rw[if_pos rfl,if_pos rfl];exact((d.2 a.peer t).1 hid).add r _
  .grind [Wk.fail]
 split
 .rename_i e k;rw[if_neg e,if_pos k]at b;split
  .rename_i c;rw[if_pos c]at b;cases b
  rename_i c;rw[if_neg c]at b;split
  .grind [Wk.fail]
  .rename_i x i;simp only[i]at b;split
   .rename_i z;exact aoq (w:=bg n) d (by show K9 n.dr.ai.af a.peer=some (x.aP,0);rw[aoz i];grind [nR]) fun u=>by simp[bg]at u;grind
   .grind [Wk.fail]
 .rename_i e y;rw[if_neg e,if_neg y]at b;cases b
theorem apD{p:Int}{m:cY}:Sm w (w.sC p m):=by
 have a:∀q (f:aI->aI) (l:List aI) i,(∀x,amY (f x)=amY x)->K9 (setAt q f l) i=K9 l i:=fun _ _ l _ h=>anW (an9 h l)
 have b:∀d:cQ,(jT d p m).2=0->(jT d p m).1.id=d.id/\∀i,K9 (jT d p m).1.af i=K9 d.af i:=fun d h=>by
  unfold jT at h|-;split
  .simp_all
  .split
   .simp_all
   .repeat' split
    all_goals first|(refine⟨rfl,fun i=>a _ _ _ i ?_⟩;intro x;rfl)|simp_all
 have c:(amT w.n.dr p m).2=0->(amT w.n.dr p m).1.ai.id=w.n.dr.ai.id/\∀i,K9 (amT w.n.dr p m).1.ai.af i=K9 w.n.dr.ai.af i:=fun h=>by
  unfold amT at h|-;have:=b w.n.dr.ai;split
  .simp_all
  .split
   .repeat' split
    all_goals first|(refine⟨rfl,fun i=>a _ _ _ i ?_⟩;intro x;rfl)|simp_all
   .split<;>simp_all
 grind [Sm,Wk.sC,Wk.put,Wk.need]
def an3{l:List aI}{p e s:Int}(h:iV l p e s=true):K9 l p=some (e,s):=by have⟨x,a,b,c⟩:=agC h;rw[aoz a,b,c]
theorem ao7{n:Nd}{p:Int}{m:cY}{v:Wk}(h:jt (fK n p m) v)(b:VJ S Z F R (bg n))(hm:R p m.kind m.aP):VJ S Z F R v:=by
 have a:=(SC h).1;have hn:=X3 a;refine aoo h (PI hn a) ?_;clear h;have s:=KK hn;have t:iU n m=bg n:=by unfold fK iU at a;unfold iU;grind [Wk.fail]
 unfold fK at a|-;rw[t,if_pos s]at a|-;unfold lr at a|-;by_cases r:m.kind=1\/m.kind=2\/m.kind=3\/m.kind=4
 .rw[if_pos r];split
  .split
   .exact apD.vj b
   .exact b
  .exact b
 rw[if_neg r]at a|-;by_cases j:m.kind=5
 .rw[if_pos j]at a|-;split
  case isFalse c=>rw[if_neg c]at a;cases a
  rename_i c;have u:kN [] (n.asked++[⟨p,m.aP⟩])=true/\ju n ⟨p,m.aP⟩=true:=by grind
  simp only[ju,abR,afa,decide_eq_true_eq]at u;have x:p<n.dr.ai.id:=by grind
  have d:K9 n.dr.ai.af p=none:=by unfold K9 cJ cP at*;grind
  have f:∀q,vw {n with asked:=n.asked++[⟨p,m.aP⟩]} q=if q=p then⟨none,gR n.known p,amW n.asked p++[m.aP]⟩else vw n q:=fun q=>by
   show Vw.mk (K9 n.dr.ai.af q) (gR n.known q) (amW (n.asked++[_]) q)=_;by_cases c:q=p
   .subst c;rw[if_pos rfl,d];unfold amW;simp
   .rw[if_neg c];unfold vw amW;simp[ait c]
  refine b.one p rfl (fun q i=>(f q).trans (if_neg i)) (fun m hm=> .inl hm) fun g=>⟨fun c=>absurd c (Int.not_lt.2 (Int.le_of_lt x)),fun c=>?_⟩;show amP _ (vw {n with asked:=n.asked++[⟨p,m.aP⟩]} p) _ _;rw[f,if_pos rfl];exact((b.2 p g).2 c).ask (e:=m.aP) (by rw[<-j];exact hm) d (by grind [vw,bg])
 rw[if_neg j]at a|-;by_cases k:m.kind=6
 .rw[if_pos k]at a|-;split
  case isFalse c=>rw[if_neg c]at a;cases a
  rename_i c;have d:K9 n.dr.ai.af p=some (m.aP,1):=an3 (by grind)
  have f:∀q,vw (rN n p (bg n)).n q=if q=p then⟨some (m.aP,0),gR n.known p,amW n.asked p⟩else vw n q:=fun q=>by
   show Vw.mk (K9 (setAt _ _ n.dr.ai.af) q) (gR n.known q) (amW n.asked q)=_;rw[anY];by_cases c:q=p
   .subst c;rw[if_pos rfl,if_pos rfl,d];rfl
   .rw[if_neg c,if_neg c];rfl
  refine b.one p rfl (fun q i=>(f q).trans (if_neg i)) (fun m hm=> .inl hm) fun g=>⟨fun c=>?_,fun c=>?_⟩
  .rw[f,if_pos rfl];exact((b.2 p g).1 c).known (by rw[<-k];exact hm) d _
  .have:=((b.2 p g).2 c).sy _ _ d;omega
 rw[if_neg k]at a|-;by_cases l:m.kind=7
 .rw[if_pos l]at a|-;split
  case isFalse c=>rw[if_neg c]at a;cases a
  rename_i c;exact aoq (w:=bg n) b (an3 (e:=m.aP) (by grind [bg])) fun _=>by rw[<-l];exact hm
 rw[if_neg l]at a|-;by_cases o:m.kind=8
 .rw[if_pos o]at a|-;split
  case isFalse c=>rw[if_neg c]at a;cases a
  rename_i c;have d:=an3 c
  have f:∀q,vw (((bg n).drop p).amR 8 p).n q=if q=p then⟨none,gR n.known p,amW n.asked p⟩else vw n q:=fun q=>by
   show Vw.mk (K9 (n9 _ n.dr.ai.af) q) (gR n.known q) (amW n.asked q)=_;rw[aop];by_cases c:q=p
   .subst c;rw[if_pos rfl,if_pos rfl]
   .rw[if_neg c,if_neg c];rfl
  refine b.one p rfl (fun q i=>(f q).trans (if_neg i)) (fun m hm=> .inl hm) fun g=>⟨fun c=>?_,fun c=>?_⟩
  .rw[f,if_pos rfl];exact((b.2 p g).1 c).closed (by rw[<-o];exact hm) d _
  .have:=((b.2 p g).2 c).sy _ _ d;omega
 .rw[if_neg o]at a;cases a
end
def aow(x:Int):(((jx x).toNat:Nat):Int)=x % 256:=by
 unfold jx;have:ajf.wrap x=x % 256:=by simp[IntKind.wrap,IntKind.bits,IntKind.signed]
 rw[this,am2];omega
def apL(m:cY)(h:(ln (jv m).1).2=0):(ln (jv m).1).1=m:=by
 by_cases a:vU m=false
 .have:(jv m).1=[]:=by unfold jv;rw[if_pos a]
  rw[this]at h;simp[ln]at h
 .have c:(jv m).1=(QI m).take (amX m.kind).toNat:=by unfold jv;rw[if_neg a]
  rw[c]at h|-;have b:amX m.kind=3/\m.num=0/\1<=m.kind/\m.kind<=8\/amX m.kind=5/\m.kind=9:=by simp only[vU,amX]at a|-;grind
  have d:0<=m.aP/\m.aP<=65535/\0<=m.num/\m.num<=65535:=by simp only[vU]at a;grind
  have f:ln ((QI m).take (amX m.kind).toNat)=(EQ ((QI m).take (amX m.kind).toNat),0):=by unfold ln at h|-;grind
  rw[f];have⟨k,e,n⟩:=m;have g:∀x:Int,(((jx (x.fdiv 256)).toNat:Nat):Int)=x / 256 % 256:=fun x=>by rw[aow,ane _ (by decide)]
  simp only at b d;rcases b with⟨s,rfl,i,j⟩|⟨s,rfl⟩;all_goals rw[s];simp[EQ,QI,Fi,aow,g];omega
def aoV(f:Fm)(h:(jW f).2=0)(a:(lF (jV (jW f).1)).2=0):(lF (jV (jW f).1)).1.body=f.body:=by
 have b:¬ni f=false:=fun c=>by unfold jW at h;rw[if_pos c]at h;cases h
 have d:(jW f).1=vg f++qH (ru (vg f)):=by unfold jW;rw[if_neg b]
 rw[d]at a|-;have i:(vg f).length=23+f.body.length:=by simp[vg,nZ];omega
 have e:(vg f).drop 23=f.body:=by unfold vg;rw[List.drop_append];simp[nZ]
 have g:xy (vg f++qH (ru (vg f)))=some (vg f):=by
  unfold xy;rw[if_neg (by simp[qH])];have:(vg f++qH (ru (vg f))).length-4=(vg f).length:=by simp[qH]
  rw[this,ai8,List.drop_left']<;>simp
 unfold jV at a|-;rw[g]at a|-;by_cases c1:(vg f++qH (ru (vg f))).length<27
 .rw[if_pos c1]at a;cases a
 by_cases c2:(vg f++qH (ru (vg f))).getD 0 0=78
 case neg=>rw[if_neg c1,if_pos c2]at a;cases a
 by_cases c3:(vg f++qH (ru (vg f))).getD 1 0=1
 case neg=>rw[if_neg c1,if_neg (fun h=>h c2),if_pos c3]at a;cases a
 rw[if_neg c1,if_neg (fun h=>h c2),if_neg (fun h=>h c3)]at a|-;split at a
 .cases a
 .rename_i c4;rw[if_neg c4];simp only at a|-;split at a
  .rename_i c5;rw[if_pos c5];exact e
  .cases a
section
abbrev Ms:=Nat->Nat->cY->Prop
def mg(M:cY->Prop):Mg:=fun k e=>∃m,M m/\m.kind=k/\m.aP=e
def Au(M:cY->Prop)(s:bx):Prop:=(ln s).2=0->M (ln s).1
def FAu(M:cY->Prop)(s:bx):Prop:=(lF (jV s)).2=0->Au M (lF (jV s)).1.body
def apk{M:cY->Prop}{m:cY}(h:M m):Au M (jv m).1:=fun a=>by rw[apL m a];exact h
def an8{M:cY->Prop}:Au M []:=fun h=>by simp[ln]at h
structure AuI(M:Ms)(K:Cl):Prop where
 t:∀a b, ∀m∈(K.tr a b).left,M a b m
 q:∀a b, ∀s∈((K.pipe a b).e (cT a b)).queue,Au (M a b) s
section
variable{M M':Ms}{K K':Cl}{P P':Pp}
theorem AuI.mono(h:AuI M K)(c:∀a b m,M a b m->M' a b m):AuI M' K:=⟨fun a b m hm=>c _ _ _ (h.t a b m hm),fun a b s d e=>c _ _ _ (h.q a b s d e)⟩
theorem AuI.eR(h:AuI M K){a b:Nat}(k:∀s, ∀x∈(P.e s).queue,x∈((K.pipe a b).e s).queue\/(s=cT a b/\Au (M a b) x)):AuI M (K.eR a b P):=by
 refine⟨h.t,fun d f x g=>?_⟩;by_cases c:min d f=min a b/\max d f=max a b
 .have j:(K.eR a b P).pipe d f=P:=if_pos c;have l:K.pipe a b=K.pipe d f:=by unfold Cl.pipe;rw[c.1,c.2]
  rw[j]at g;rcases k _ x g with i|⟨i,m⟩
  .rw[l]at i;exact h.q d f x i
  .have:d=a/\f=b:=by simp only[cT,decide_eq_decide]at i;omega
   rw[this.1,this.2];exact m
 .have j:(K.eR a b P).pipe d f=K.pipe d f:=if_neg c;rw[j]at g;exact h.q d f x g
theorem AuI.mO(h:AuI M K){a b:Nat}{t:Tr}(g:∀m∈t.left,M a b m):AuI M (K.mO a b t):=by
 refine⟨fun d f m hm=>?_,h.q⟩;have e:(K.mO a b t).tr d f=if d=a/\f=b then t else K.tr d f:=rfl;rw[e]at hm;split at hm
 .rename_i c;rw[c.1,c.2];exact g m hm
 .exact h.t d f m hm
theorem aoQ(p:Pp)(s:Bool)(x:bx):(∀t, ∀y∈((p.send s x).1.e t).queue,y∈(p.e t).queue\/(t=s/\y=x))/\(p.send s x).1.q=p.q:=by refine⟨fun t y a=>?_,rfl⟩;have e:(p.send s x).1.e t=if t=s then(nC (p.e s) x).1 else p.e t:=rfl;rw[e]at a;unfold nC at a;grind
def an7(s:Bool):∀(a:List cY) (p:Pp),(∀t, ∀y∈((sendAll s a p).1.e t).queue,y∈(p.e t).queue\/(t=s/\∃m∈a,y=(jv m).1))/\(sendAll s a p).1.q=p.q
 |[],p=>⟨fun _ _ h=> .inl h,rfl⟩
 |m::a,p=>by
  have c:=aoQ p s (jv m).1
  have f:=an7 s a (p.send s (jv m).1).1
  unfold sendAll
  split
  .refine ⟨fun t y d=>?_,f.2.trans c.2⟩
   rcases f.1 t y d with h|⟨h,g,b,i⟩
   .rcases c.1 t y h with h|⟨h,b⟩
    .exact .inl h
    .exact .inr ⟨h,m,by simp,b⟩
   .exact .inr ⟨h,g,by simp[b],i⟩
  .refine ⟨fun t y d=>(c.1 t y d).imp id fun⟨h,b⟩=>⟨h,m,by simp,b⟩,c.2⟩
def AuI.oV(h:AuI M K)(a b:Nat):AuI M (K.oV a b):=by have d:=(an7 (cT a b) ((K.tr a b).left.drop (K.tr a b).bN) (K.pipe a b)).1;refine AuI.mO (h.eR fun s x c=>?_) (h.t a b);exact(d s x c).imp id fun⟨e,m,hm,c⟩=>⟨e,by rw[c];exact apk (h.t a b m (ajY hm))⟩
def AuI.flush(h:AuI M K)(a:Nat):AuI M (K.flush a):=by
 have:∀(l:List Nat) (K:Cl),AuI M K->AuI M (l.foldl (fun c b=>c.oV a b) K):=fun l=>by
  induction l with
  |nil=>exact fun K h=>h
  |cons b l d=>exact fun K h=>d _ (h.oV a b)
 exact this _ K h
def AuI.take(h:AuI M K){n:Nd}:∀ {l:List cB},(∀m∈l,0<=m.src->0<=m.dst->M m.src.toNat m.dst.toNat m.fN)->AuI M (K.take n l):=fun{l} b=>by
 have:∀(l:List cB) (K:Cl),(∀m∈l,0<=m.src->0<=m.dst->M m.src.toNat m.dst.toNat m.fN)->AuI M K->AuI M (l.foldl Cl.il K):=fun l=>by
  induction l with
  |nil=>exact fun K _ h=>h
  |cons m l d=>
   refine fun K b h=>d _ (fun x a=>b x (by simp[a])) ?_;unfold Cl.il;split
   .rename_i c;refine h.mO fun x a=>?_;rcases ain.1 a with a|a
    .exact h.t _ _ x a
    .rw[akz.1 a];exact b m (by simp) c.1.1 c.2.1.1
   .exact h
 exact(this l (K.pc n) b ⟨h.t,h.q⟩).flush _
def AuI.tell(h:AuI M K)(a b:Nat):AuI M (K.tell a b):=h.mO fun m hm=>by
 split at hm
 .exact h.t a b m hm
 .exact h.t a b m (List.mem_of_mem_tail hm)
def QS(P P':Pp):Prop:= ∀s, ∀x∈(P'.e s).queue,x∈(P.e s).queue
theorem anV(s:Bool){x:Lk}(h:∀y∈x.queue,y∈(P.e s).queue):QS P (P.jO s x):=fun t y a=>by have e:(P.jO s x).e t=if t=s then x else P.e t:=rfl;rw[e]at a;grind
def AuI.qs(h:AuI M K){a b:Nat}(c:QS (K.pipe a b) P):AuI M (K.eR a b P):=h.eR fun s x d=> .inl (c s x d)
theorem aph(s:Bool):QS P (P.tick s):=anV s fun y a=>by unfold oS at a;grind
def aoE(s:Bool):QS P (P.go s).1:=anV s fun y a=>a
theorem apt{e:Lk}{f:Fm}:∀y∈(iY e f).1.queue,y∈e.queue:=fun y a=>by
 have b:∀y∈(anj e f).queue,y∈e.queue:=fun y a=>by
  unfold anj at a;split at a
  .exact ajY a
  .exact a
 unfold iY at a;grind
def aoG(s:Bool)(k:Int):QS P (P.jk s k).1:=by
 have a:QS P (P.cut s k):=fun _ _ h=>h;unfold Pp.jk;split
 .exact fun _ _ h=>h
 split
 .have b:∀t,QS P (((P.cut s k).jO s (iY ((P.cut s k).e s) t).1)):=fun t=>anV (P:=P.cut s k) s apt;have c:∀(Q:Pp) (o:Option bx),QS P Q->QS P (Q.zN s o):=fun Q o h=>by cases o<;>exact h
  exact c _ _ (b _)
 .exact a
def apf(s:Bool)(k:Int):QS P (P.je s k).1:=by unfold Pp.je;split<;>exact fun _ _ h=>h
def aoR(s:Bool)(k:Int):QS P (P.double s k).1:=by unfold Pp.double;split<;>exact fun _ _ h=>h
def apI(s:Bool)(k x:Int):QS P (P.flip s k x).1:=by
 unfold Pp.flip;split
 .exact fun _ _ h=>h
 .split<;>exact fun _ _ h=>h
def AuI.qY(h:AuI M K)(a b:Int){f:Pp->Bool->Pp×Bool}(c:∀P s,QS P (f P s).1):AuI M (K.qY a b f).1:=by
 unfold Cl.qY;split
 .exact h.qs (c _ _)
 .exact h
def aoy(a:Nat):∀(l:List Nat) (K:Cl),AuI M K->AuI M (kY a l K)
 |[],_,h=>h
 |_::l,_,h=>aoy a l _ (h.qs (aph _))
end
end
section
def anT(M:Ms)(l:List jj):Prop:= ∀x∈l, ∀a b:Nat,x.f=a->x.t=b->FAu (M a b) x.b
structure EpI(M:Ms)(K:Cl):Prop where
 a:AuI M K
 p:∀x y (_:x<y) (hy:y<K.nodes.length),amP (vw (K.nodes[x]'(by omega)) y) (vw K.nodes[y] x) (mg (M x y)) (mg (M y x))
section
variable{M M':Ms}{K K':Cl}{T:Nat}{e:Int}{l:List Ev}
def Ms.put(M:Ms)(i:Nat)(out:List cB):Ms:=fun a b m=>M a b m\/(a=i/\∃x∈out,x.dst=(b:Int)/\x.fN=m)
def zOf(K:Cl)(i:Nat)(p:Int):Vw:=vw (K.nodes.getD p.toNat .zero) i
def aor(h:EpI M K)(l:AL K){i:Nat}(d:i<K.nodes.length):VJ (fun p=>0<=p/\p<K.nodes.length) (zOf K i) (fun p=>mg (M i p.toNat)) (fun p=>mg (M p.toNat i)) (bg K.nodes[i]):=by
 have hid:=l.id i d;refine⟨fun m hm=>by simp[bg]at hm,fun p hp=>?_⟩;obtain⟨j,rfl⟩:∃j:Nat,p=j:=⟨p.toNat,by omega⟩;have f:j<K.nodes.length:=by omega
 have n:zOf K i j=vw K.nodes[j] i:=by unfold zOf;rw[ae5,ais,abM f];rfl
 have g:∀(F:Mg) k e,F.out (bg K.nodes[i]).out j k e->F k e:=fun F k e a=>by unfold Mg.out bg at a;simpa using a
 unfold PJ;rw[n];refine⟨fun c=>?_,fun c=>?_⟩
 .have b:i<j:=by have:K.nodes[i].dr.ai.id< (j:Int):=c;omega
  exact(h.p i j b f).sub (g _) fun _ _ a=>a
 .have b:j<i:=by have:(j:Int)<K.nodes[i].dr.ai.id:=c;omega
  exact(h.p j i b d).sub (fun _ _ a=>a) (g _)
def aoa(h:EpI M K)(H:AL K){c:Cl}(D:AuI M c)(I:c.nodes=K.nodes){i:Nat}(J:i<K.nodes.length){v:Wk}(r:VJ (fun p=>0<=p/\p<K.nodes.length) (zOf K i) (fun p=>mg (M i p.toNat)) (fun p=>mg (M p.toNat i)) v)(hid:v.n.dr.ai.id=i)(hn:(c.take v.n v.out).nodes=K.nodes.set i v.n):
  EpI (M.put i v.out) (c.take v.n v.out):=by
 have hm:∀a b m,M a b m->M.put i v.out a b m:=fun _ _ _ h=> .inl h
 refine⟨(D.mono hm).take fun x f d u=> .inr ⟨by have:=r.1 x f;omega,x,f,by omega,rfl⟩,fun x y E s=>?_⟩
 have t:y<K.nodes.length:=by rw[hn,aiP]at s;exact s
 have g:∀j (l:j< (c.take v.n v.out).nodes.length) (F:j<K.nodes.length),(c.take v.n v.out).nodes[j]=if i=j then v.n else K.nodes[j]:=fun j l F=>by
  simp only[hn,amk]
 have w:∀j (l:j<K.nodes.length),zOf K i j=vw K.nodes[j] i:=fun j l=>by unfold zOf;rw[ae5,ais,abM l];rfl
 have z:∀(b:Nat) k e,mg (M.put i v.out i b) k e->(mg (M i b)).out v.out b k e:=fun b k e a=>by
  obtain⟨m,d|⟨_,x,f,u,rfl⟩,o,A⟩:=a
  .exact .inl ⟨m,d,o,A⟩
  .exact .inr ⟨x,f,u,o,A⟩
 have q:∀a b k e,a≠i->mg (M.put i v.out a b) k e->mg (M a b) k e:=fun a b k e G a=>by
  obtain⟨m,d|⟨d,_⟩,o⟩:=a
  .exact ⟨m,d,o⟩
  .exact absurd d G
 rw[g x (by omega) (by omega),g y s t]
 by_cases B:i=x
 .subst B
  rw[if_pos rfl,if_neg (by omega)]
  have:=(r.2 y ⟨by omega,by omega⟩).1 (by rw[hid];omega)
  rw[w y t]at this
  exact this.sub (z y) fun k e a=>q _ _ k e (by omega) a
 .rw[if_neg B]
  by_cases C:i=y
  .subst C
   rw[if_pos rfl]
   have:=(r.2 x ⟨by omega,by omega⟩).2 (by rw[hid];omega)
   rw[w x (by omega)]at this
   exact this.sub (fun k e a=>q _ _ k e (by omega) a) (z x)
  .rw[if_neg C]
   exact(h.p x y E t).sub (fun k e a=>q _ _ k e (by omega) a) fun k e a=>q _ _ k e (by omega) a
theorem EpI.of(h:EpI M K)(a:AuI M K')(hn:K'.nodes=K.nodes):EpI M K':=⟨a,fun x y b c=>by simp only[hn];exact h.p x y b (by rw[<-hn];exact c)⟩
def Le(M M':Ms):Prop:= ∀a b m,M a b m->M' a b m
def aon(h:EpI M K)(c:dL T K)(o:T<=900000000){a:Int}{d:Act}(b:K.bP a d K' l e):∃M',Le M M'/\EpI M' K':=by
 unfold Cl.bP at b;split at b
 .obtain ⟨rfl,_⟩:=b;exact⟨M,fun _ _ _ h=>h,h⟩
 rename_i hc;have hth:K.there a:=akp fun hn=>hc (.inl hn);obtain⟨i,rfl⟩:∃i:Nat,a=i:=⟨a.toNat,by have:=hth.1;omega⟩;have g:i<K.nodes.length:=by have:=hth.2;omega
 simp only[ais]at b;split at b
 .obtain ⟨rfl,_⟩:=b;exact⟨M,fun _ _ _ h=>h,h.of (h.a.flush i) (qT c i).2⟩
 .obtain ⟨v,f,rfl,_⟩:=b;have m:K.nodes.getD i .zero=K.nodes[i]:=by rw[ae5,abM g];rfl
  rw[m]at f;have j:v.n.dr.ai.id=i:=(Li (Ow f).2 (c.n.id i g)).1;have k:=(anQ c (l:=v.out) f.sti.s (by rw[j];omega) (by have:=f.out.1;omega)).2;rw[j]at k;exact⟨_,fun _ _ _ h=> .inl h,aoa h c.n h.a rfl g (ao3 f (aor h c.n g)) j k⟩
def ao4(h:EpI M K)(b:dL T K)(r:T<=900000000){a i:Nat}(f:i<K.nodes.length)(u:a<K.nodes.length){s:bx}(m:Au (M a i) s)(c:K.Told a i s K' l e):∃M',Le M M'/\EpI M' K':=by
 unfold Cl.Told at c;have o:=Nl b a i;have hn:(K.tell a i).nodes=K.nodes:=(As b.i b.t a i).2.2;have g:=h.a.tell a i;split at c
 .obtain ⟨rfl,_⟩:=c;exact⟨M,fun _ _ _ h=>h,h.of g hn⟩
 rename_i p;split at c
 .obtain ⟨rfl,_⟩:=c;exact⟨M,fun _ _ _ h=>h,h.of g hn⟩
 .obtain ⟨v,d,rfl,_⟩:=c;have q:K.nodes.getD i .zero=K.nodes[i]:=by rw[ae5,abM f];rfl
  rw[q]at d;have j:v.n.dr.ai.id=i:=(Li (PZ d).2 (b.n.id i f)).1;have k:=(anQ o (l:=v.out) d.sti.s (by rw[j,hn];omega) (by have:=d.out.1;omega)).2;rw[j,hn]at k;exact⟨_,fun _ _ _ h=> .inl h,aoa h b.n g hn f (ao7 d (aor h b.n f) ⟨_,m (akp p),rfl,rfl⟩) j k⟩
def anH(M:Ms)(a:Nat)(c K:Cl):Prop:= ∀b,b≠a->∃new,(K.pipe a b).q (cT a b)=(c.pipe a b).q (cT a b)++new/\∀s∈new,FAu (M a b) s
theorem an4(room:Nat):∀(a:List Fm) (l:List bx) (n:Nat), ∃new,(gL room a l n).1=l++new/\∀s∈new, ∃f∈a,(jW f).2=0/\s=(jW f).1
 |[],l,n=>⟨[],by simp[gL],by simp⟩
 |f::a,l,n=>by
  unfold gL
  split
  .have ⟨new,b,c⟩:=an4 room a (l++[(jW f).1]) (n+1)
   refine⟨(jW f).1::new,by rw[b];simp,fun s d=>?_⟩
   grind
  .have ⟨new,b,c⟩:=an4 room a l n
   exact⟨new,b,by grind⟩
def aoT{M:cY->Prop}{e:Lk}(h:∀s∈e.queue,Au M s):∀f∈(iK e).2,Au M f.body:=fun f a=>by
 have b:∀j,Au M (e.queue.getD j []):=fun j=>by
  rw[ae5];cases c:e.queue[j]? with
  |none=>exact an8
  |some s=>exact h s (aiJ c)
 unfold iK at a;simp only at a;split at a
 .rw[akz.1 a];exact an8
 .unfold tI at a;obtain⟨j,_,rfl⟩:=aiK.1 a;exact b _
def aou{a b:Nat}{j:Cl}(h:AuI M K)(m:anH M a j K):AuI M (K.vT a b)/\anH M a j (K.vT a b):=by
 refine⟨h.qs (aoE _),fun d n=>?_⟩;have⟨new,k,l⟩:=m d n;by_cases c:min a d=min a b/\max a d=max a b
 .have o:d=b:=by omega
  subst o;have i:(K.vT a d).pipe a d=((K.pipe a d).go (cT a d)).1:=if_pos c;have⟨p,r,t⟩:=an4 (K.pipe a d).room (iK ((K.pipe a d).e (cT a d))).2 ((K.pipe a d).q (cT a d)) 0;refine⟨new++p,?_,fun s g=>?_⟩
  .rw[i, <-aiu, <-k, <-r];exact pO _ _ _
  .rcases ain.1 g with g|g
   .exact l s g
   .obtain ⟨f,u,v,rfl⟩:=t s g;intro w;rw[aoV f v w];exact aoT (h.q a d) f u
 .have i:(K.vT a b).pipe a d=K.pipe a d:=if_neg c;exact⟨new,by rw[i];exact k,l⟩
def aom{a:Nat}{K0:Cl}:∀(l:List Nat) (r:Cl×Nat),AuI M r.1->anH M a K0 r.1->AuI M (iq a l r).1/\anH M a K0 (iq a l r).1
 |[],_,h,c=>⟨h,c⟩
 |b::l,r,h,c=>aom l _ (aou h c).1 (aou h c).2
def apJ(a:Nat)(K:Cl):∀x y s,((K.flush a).pipe x y).q s=(K.pipe x y).q s:=by
 have:∀(l:List Nat) (K:Cl) x y s,((l.foldl (fun c b=>c.oV a b) K).pipe x y).q s=(K.pipe x y).q s:=fun l=>by
  induction l with
  |nil=>exact fun _ _ _ _=>rfl
  |cons b l d=>
   refine fun K x y s=>(d _ x y s).trans ?_;have h:=(an7 (cT a b) ((K.tr a b).left.drop (K.tr a b).bN) (K.pipe a b)).2;have e:(K.oV a b).pipe x y=if min x y=min a b/\max x y=max a b then(sendAll (cT a b) ((K.tr a b).left.drop (K.tr a b).bN) (K.pipe a b)).1 else K.pipe x y:=rfl;rw[e];split
   .rename_i c;rw[h];unfold Cl.pipe;rw[c.1,c.2]
   .rfl
 exact this _ K
def aoj{K:Cl}{a b:Nat}(h:K.two a b):K.jD a b=(K.pipe a b).q (cT a b):=by
 unfold Cl.jD;rw[if_pos h];have f:a≠b:=fun c=>h.2.2 (by rw[c]);have d:K.pipe b a=K.pipe a b:=by unfold Cl.pipe;rw[al6,Nat.max_comm]
 have e:(!cT b a)=cT a b:=by simp only[cT, <-decide_not,decide_eq_decide];omega
 simp only[ais];rw[d,e]
theorem apN(h:EpI M K)(m:dL T K)(hT:T<=800000000){g:List jj}(G:anT M g){x:LA}(W:¬(x.K=3/\rL K g x=true))(d:K.rE x K' l e)(n:Nat):
  ∃M',EpI M' K'/\anT M' (xE K K' x n g):=by
 have Y:x.K≠2->xE K K' x n g=g:=fun c=>by
  unfold xE wB
  rw[if_neg c];simp
 have fin:x.K≠2->(∃M',Le M M'/\EpI M' K')->∃M',EpI M' K'/\anT M' (xE K K' x n g):=fun c ⟨M',H,I⟩=>⟨M',I,by
  rw[Y c]
  exact fun w k a b d E t y=>H _ _ _ (G w k a b d E t y)⟩
 have refl:EpI M K'->∃M',Le M M'/\EpI M' K':=fun h=>⟨M,fun _ _ _ h=>h,h⟩
 unfold Cl.rE at d
 split at d
 .exact fin (by omega) (aon h m (by omega) d)
 split at d
 .refine fin (by omega) ?_
  unfold Cl.tP at d
  split at d
  .obtain ⟨rfl,_⟩:=d
   exact refl h
  .obtain ⟨z,F⟩:=JL x.A.toNat (others K.nodes.length x.A.toNat) K m
   exact aon (h.of (aoy _ _ _ h.a) F) z (by omega) d
 split at d
 .rename_i Z
  obtain⟨rfl,_⟩:=d
  have o:(K.goes x.A).1.nodes=K.nodes/\AuI M (K.goes x.A).1/\∀a:Nat,x.A=a->anH M a K (K.goes x.A).1:=by
   unfold Cl.goes
   split
   .exact ⟨rfl,h.a,fun a _ b _=>⟨[],by simp,by simp⟩⟩
   .simp only
    rw[wY]
    obtain⟨z,F⟩:=qT m x.A.toNat
    obtain⟨g3,g4⟩:=Jy x.A.toNat (others K.nodes.length x.A.toNat) (K.flush x.A.toNat,0) z
    have Q:=aom (a:=x.A.toNat) (K0:=K) (others K.nodes.length x.A.toNat) (K.flush x.A.toNat,0) (h.a.flush _) fun b _=>⟨[],by rw[aeU];exact apJ _ _ _ _ _,by simp⟩
    exact⟨by rw[g4,F],Q.1,fun a d=>by rw[<-show x.A.toNat=a by omega];exact Q.2⟩
  refine⟨M,h.of o.2.1 o.1,fun w k a b d E=>?_⟩
  unfold xE at k
  rw[if_pos Z]at k
  rcases ain.1 k with k|k
  .exact G w k a b d E
  .obtain ⟨j,hj,k⟩:=amj.1 k
   obtain⟨s,f,rfl⟩:=aiK.1 k
   simp only at d E
   obtain rfl:j=b:=by omega
   have aa:j<n:=by simpa[wz]using hj
   have hc:(wz K x.A n).getD j 0=(K.jD x.A (j:Int)).length:=by simp[wz,ae5,aa]
   rw[hc,d]at f
   by_cases q:(K.goes (a:Int)).1.two (a:Int) (j:Int)
   .have ab:K.two (a:Int) (j:Int):=by
     rw[d]at o
     unfold Cl.two Cl.there at q|-
     rw[o.1]at q;exact q
    rw[d]at o
    obtain⟨new,H,I⟩:=o.2.2 a rfl j (fun c=>q.2.2 (by rw[c]))
    rw[aoj q,aoj ab,H,amK]at f
    exact I s f
   .have:(K.goes (a:Int)).1.jD a j=[]:=if_neg q
    rw[this]at f;simp at f
 split at d
 .rename_i k3
  refine fin (by omega) ?_
  unfold Cl.Comes at d
  split at d
  .obtain ⟨rfl,_⟩:=d
   exact refl h
  rename_i hl
  obtain⟨r,C⟩:∃r,K.look x.A x.B x.N=some r:=by
   cases hh:K.look x.A x.B x.N with
   |none=>exact absurd hh hl
   |some s=>exact⟨s,rfl⟩
  have D:=vp m.i C
  obtain⟨u,v,J,L,ah⟩:=qO D.1
  have ad:FAu (M u v) r:=fun t=>by
   have:(⟨x.A,x.B,r⟩:jj)∈g:=by
    have R:¬rL K g x=true:=fun c=>W ⟨k3,c⟩
    unfold rL at R
    rw[C]at R
    grind
   exact G _ this u v J L t
  have ae:(K.pipe v u).look (cT v u) x.N=some r:=by
   unfold Cl.look at C
   rw[if_pos D.1,J,L]at C
   exact C
  rw[J,L]at d D
  have S:v<K.nodes.length:=by have:=D.1.2.1.2;omega
  have af:u<K.nodes.length:=by have:=D.1.1.2;omega
  have O:dL (T+1) (K.eR v u ((K.pipe v u).jk (cT v u) x.N).1):=Ao (m.mono (by omega)) v u (Dc (m.i.pipe v u) _ _) fun s=>ai5 (HC _ _ _ _) (by have:=m.g (min v u) (max v u) s;show(K.pp _ _).dR s+1<=_;omega)
  have y:EpI M (K.eR v u ((K.pipe v u).jk (cT v u) x.N).1):=h.of (h.a.qs (aoG _ _)) rfl
  simp only[ais]at d
  split at d
  .obtain ⟨rfl,_⟩:=d
   exact refl (y.of (y.a.flush v) (qT O v).2)
  .rename_i s f
   obtain⟨ai,U,rfl⟩:=d
   have ag:Au (M u v) s:=by
    unfold Pp.jk at f
    rw[ae]at f
    simp only at f
    split at f
    .rename_i t
     have:s=(lF (jV r)).1.body:=by simp only at f;unfold iY at f;grind
     rw[this];exact ad t
    .cases f
   obtain⟨M',h4,V⟩:=ao4 y O (by omega) (show v< (K.eR v u _).nodes.length from S) af ag U
   obtain⟨z,F⟩:=CP wG O (by omega) (show v< (K.eR v u _).nodes.length from S) U
   exact⟨M',h4,V.of (V.a.flush v) (qT z v).2⟩
 split at d
 .obtain ⟨rfl,_⟩:=d
  exact fin (by omega) (refl (h.of (h.a.qY _ _ fun P s=>apf s _) (vR m x.A x.B (fun p s=>p.je s x.N) fun P s hp=>Nk hp s _).2))
 split at d
 .obtain ⟨rfl,_⟩:=d
  exact fin (by omega) (refl (h.of (h.a.qY _ _ fun P s=>aoR s _) (vR m x.A x.B (fun p s=>p.double s x.N) fun P s hp=>PO hp s _).2))
 .rename_i k5
  obtain⟨rfl,_⟩:=d
  exact fin (by omega) (refl (h.of (h.a.qY _ _ fun P s=>apI s _ _) (vR m x.A x.B (fun p s=>p.flip s x.N x.X) fun P s hp=>Mw hp s _ _).2))
end
end
section
def kn5:tz.kt 5=none/\tz.kt 12=none/\tz.kt 13=none/\tz.kt 14=none/\tz.kt 15=none/\tz.kt 21=none:=by and_intros<;>kernel_rfl
attribute [local simp] kn5
def ant:aI:=⟨0,0,0,false,false,false,false,false⟩
def amS(l:List aI)(b:Int):aI×Bool:=match l.find? (cP b)with
 |some x=>(x,true)
 |none=>(ant,false)
def apd(x:aI)(l:List aI)(b:Int):amS (x::l) b=if x.peer=b then(x,true)else amS l b:=by unfold amS cP;rw[akh];by_cases h:x.peer=b<;>simp[h]
def p14(i p b:Int)(l:List aI)(s:l.length<=maxLen):aS tz ay 0 14 [.agg [I i,I p,.aj (l.map ax)],aa b]=some (.aM [.agg (ax (amS l b).1),aR (amS l b).2],[]):=by
 refine be func14 rfl ?_;have q:=bK l;have⟨R,f⟩:=DD (l.map ax);have g:R.length=l.length:=by rw[<-f];simp
 have t:∀j (r:j<l.length),R[j]?=some (ax l[j]):=fun j r=>by rw[<-f,adf,abM r];rfl
 rw[f]at q|-;simp only[f14,cr];refine bp [(2,.c (.aJ [[I i,I p,.aj R]] 0 0)),(1,aa b),(4,au 0)] (fun G=>G=[ah 8 [ax ant]]) ?_ ?_
 .simp[q,ax,ant]
 rintro e G⟨u,v,w,_⟩rfl;rw[iM];refine Ends.sq ?_;refine bp [(2,.c (.aJ [[I i,I p,.aj R]] 0 0)),(1,aa b),(4,au 0),(6,aa (0:Nat))] (fun G=>G=[ah 8 [ax ant]]) ?_ ?_
 .simp[u,v,w]
 rintro e G y rfl;rw[eC];refine iv (fun j:Nat=>[(2,.c (.aJ [[I i,I p,.aj R]] 0 0)),(1,aa b),(4,au 0),(6,aa j)]) (fun j G=>j<=l.length/\G=[ah 8 [ax ant]]/\amS l b=amS (l.drop j) b) (fun j=>l.length-j) ?_ 0 y ⟨by omega,rfl,rfl⟩ fun _=>rfl;rintro j e G ⟨h,k,m,n,_⟩ ⟨C,rfl,a⟩;by_cases d:j<l.length
 .have z:adW.wrap ((j:Int)+1)=((j+1:Nat):Int):=cv (by unfold maxLen at s;omega);have D:j<R.length:=by omega
  have o:=t j d;rw[agO d,apd]at a;have⟨x,A⟩:=DD l[j];rw[A]at o a;by_cases c:x.peer=b
  .rw[if_pos c]at a;simp only[ax,ant]at*;simp[-getElem?_pos,h,k,m,n,d,g,o,c,a]
  .rw[if_neg c]at a;simp only[ax]at*;simp[-getElem?_pos,-ad0,h,k,m,n,d,g,o,c,z];exact⟨j+1,by omega,rfl,by omega,a⟩
 .have B:amS l b=(ant,false):=by rw[a,aiv (by omega)];rfl
  simp[-getElem?_pos,h,k,m,n,d,g,B,ax,ant]
def anK(c:List Nd)(a b:Nat):Bool:=(amS (c.getD a .zero).dr.ai.af b).2&&(amS (c.getD b .zero).dr.ai.af a).2&&decide ((amS (c.getD a .zero).dr.ai.af b).1.aP=(amS (c.getD b .zero).dr.ai.af a).1.aP)
def p15(d:List Nd)(m:ab)(hm:bC m=true)(a b:Nat)(h:a<d.length)(i:b<d.length)(A:∀n∈d,n.dr.ai.af.length<=maxLen):aS tz ay 0 15 [.agg [.aj (d.map aT),m],aa a,aa b]=some (aR (anK d a b),[]):=by
 refine be func15 rfl ?_;have B:=xd d;have⟨R,k⟩:=DD (d.map aT);have S:R.length=d.length:=by rw[<-k];simp
 have C:∀j (D:j<d.length),R[j]?=some (aT d[j]):=fun j D=>by rw[<-k,adf,abM D];rfl
 have l:=C a h;have o:=C b i;have E:d.getD a .zero=d[a]:=by rw[ae5,abM h];rfl
 have F:d.getD b .zero=d[b]:=by rw[ae5,abM i];rfl
 unfold anK;rw[E,F];have f:=p14 d[a].dr.ai.id d[a].dr.ai.phase b d[a].dr.ai.af (A _ (aix h));have g:=p14 d[b].dr.ai.id d[b].dr.ai.phase a d[b].dr.ai.af (A _ (aix i));rw[k]at B|-;have⟨x,H⟩:=DD d[a];have⟨y,I⟩:=DD d[b];rw[H]at l f|-;rw[I]at o g|-;have⟨⟨u,p⟩,J⟩:=DD (amS x.dr.ai.af b);have⟨⟨w,q⟩,K⟩:=DD (amS y.dr.ai.af a);rw[J]at f|-;rw[K]at g|-;simp only[ax]at f g;have L:a<R.length:=by omega
 have M:b<R.length:=by omega
 have N:=bK x.dr.ai.af;have O:=bK y.dr.ai.af;simp only[aT]at l o;simp only[f15,cr];refine bp [(3,.c (.aJ [[.aj R,m]] 0 0)),(1,aa a),(2,aa b)] (fun G=>G=[]) ?_ ?_
 .simp[B,hm]
 rintro e G⟨r,s,t,_⟩rfl;refine bp [(3,.c (.aJ [[.aj R,m]] 0 0)),(1,aa a),(2,aa b),(7,au 0),(8,aR p)] (fun G=>G=[ah 8 [ax u]]) ?_ ?_
 .simp[-getElem?_pos,r,s,t,l,f,L,ax,N]
 rintro e G⟨r,s,t,v,z,_⟩rfl;refine bp [(7,au 0),(8,aR p),(9,au 1),(10,aR q)] (fun G=>G=[ah 8 [ax u],ah 8 [ax w]]) ?_ ?_
 .simp[-getElem?_pos,r,s,t,v,z,o,g,M,ax,O]
 rintro e G⟨v,z,P,Q,_⟩rfl;cases p<;>cases q<;>simp[v,z,P,Q,ax]
end
def cSl{f z:Nat}{R:List (List ab)}(hm:tz.md f=0)(a:bA R=true)(h:aS tz ay 0 f [bh R]=some (ER 0 0 0 R.length,[ah z R]))(H:List Ob):aO tz ay f [bh R] H=some (ER H.length 0 0 R.length,H++[ah z R]):=by simp[hm,h,a]
def ao9(l:List aI)(b:l.length<=1000000)(H:List Ob):aO tz ay 44 [bh (l.map ax)] H=some (ER H.length 0 0 l.length,H++[ah 8 (l.map ax)]):=by have:=cSl (f:=44) rfl (bK l) (by rw[yZ (a:= .aj (l.map ax)) rfl b,aio]) H;rwa [aio]at this
def aot(l:List cj)(b:l.length<=1000000)(H:List Ob):aO tz ay 46 [bh (l.map aW)] H=some (ER H.length 0 0 l.length,H++[ah 2 (l.map aW)]):=by have:=cSl (f:=46) rfl (bR l) (by rw[IW (a:= .aj (l.map aW)) rfl b,aio]) H;rwa [aio]at this
def apr(l:List bW)(b:l.length<=1000000)(H:List Ob):aO tz ay 47 [bh (l.map aN)] H=some (ER H.length 0 0 l.length,H++[ah 4 (l.map aN)]):=by have:=cSl (f:=47) rfl (bV l) (by rw[OV (a:= .aj (l.map aN)) rfl b,aio]) H;rwa [aio]at this
def an1(l:List Int)(b:l.length<=1000000)(H:List Ob):aO tz ay 45 [bh (l.map aC)] H=some (bh (l.map aC),H):=by have h:=uF (a:= .aj (l.map aC)) rfl b;have c:=bi l;simp[show tz.md 45=1 from rfl,h,c]
def p43{a:ab}{l:List Nd}(b:rowsOf a=some (l.map aT))(d:l.length<=1000000):aS tz ay 0 43 [.c a]=some (ER 0 0 0 l.length,[ah 10 (l.map aT)]):=by unfold aS ay;rw[gW (show tz.dH 43=true by kernel_rfl),show tz.dF 43=fJ 10 by kernel_rfl];have e:=u7 aT 10 (fun _=>rfl) l;have f:=xd l;simp[fJ,b,e,f,kG d]
def c43{H:List Ob}{c:Nat->aU}{q:ab}{l:List Nd}(g:sZ H c q l)(i:l.length<=1000000):aO tz ay 43 [.c q] H=some (ER H.length 0 0 l.length,H++[ah 10 (l.map aT)]):=by
 have b:=xd l;rcases g with⟨rfl,rfl⟩|⟨h,v,rfl,d,t⟩
 .have h:=p43 (a:= .aj []) (l:=[]) rfl (by simp);simp[show tz.md 43=0 from rfl,h,ei,bU,bC,eN,dZ,dX]
 .have j:lH [10] (ah 10 (l.map aT))=true:=by
   have k:∀l:List aI,gZ [10] (l.map ax)=true:=vz _ _ fun x=>rfl;have m:∀l:List cj,gZ [10] (l.map aW)=true:=vz _ _ fun x=>rfl;have e:∀l:List Int,gZ [10] (l.map aC)=true:=vz _ _ fun x=>rfl;have o:∀l:List bW,gZ [10] (l.map aN)=true:=vz _ _ fun x=>by simp[aN,cW,fW,aG,e]
   have p:∀n,cW [10] (aT n)=true:=fun n=>by simp[aT,cW,fW,aG,k,m,e,o]
   simp[lH,p]
  have r:dX H.length (ah 10 (l.map aT))=ah 10 (l.map aT):=qy b;have f:=um (lo:=0) (len:=l.length) d (by simp);rw[akn,acu (by simp)]at f;have s:=zF (n:=5) d f b;have h:=p43 (a:= .aj (l.map aT)) (l:=l) rfl i;simp[-bU,-lH,show tz.md 43=0 from rfl,h,s,ei,j,r,kj,fW,eN,dZ]
def SlR(N:Nat)(H:List Ob)(z:Nat)(q:ab)(rows:List (List ab)):Prop:= ∃h v,N<=h/\q= .sl h v 0 rows.length/\H[h]?=some (.live v z rows)
structure NdL(N:Nat)(H:List Ob)(r:List ab)(n:Nd):Prop where
 e:∃s ss kn ak,r=[I n.dr.ai.id,I n.dr.ai.phase,s,I n.dr.aQ,aG n.dr.need,I n.book.last,ss,kn,aG n.told,ak]/\SlR N H 8 s (n.dr.ai.af.map ax)/\SlR N H 4 ss (n.book.aA.map aN)/\SlR N H 2 kn (n.known.map aW)/\SlR N H 2 ak (n.asked.map aW)
def am1(N:Nat)(H:List Ob)(q:ab)(a:List Nd):Prop:= ∃h v rows,N<=h/\q= .sl h v 0 a.length/\H[h]?=some (.live v 10 rows)/\rows.length=a.length/\∀i (_:i<a.length), ∃r,rows[i]?=some r/\NdL N H r a[i]
theorem SlR.aK{N:Nat}{H H':List Ob}{z:Nat}{q:ab}{rows:List (List ab)}(h:SlR N H z q rows)(c:∀m v r,N<=m->H[m]?=some (.live v z r)->H'[m]?=H[m]?):SlR N H' z q rows:=by have⟨h,v,a,d,b⟩:=h;exact⟨h,v,a,d,by rw[c h v _ a b];exact b⟩
theorem NdL.aK{N:Nat}{H H':List Ob}{r:List ab}{n:Nd}(h:NdL N H r n)(b:∀m v z r,N<=m->z≠10->H[m]?=some (.live v z r)->H'[m]?=H[m]?):NdL N H' r n:=by have⟨s,c,d,f,g,i,j,k,l⟩:=h.e;exact⟨s,c,d,f,g,i.aK fun m v r a=>b m v 8 r a (by decide),j.aK fun m v r a=>b m v 4 r a (by decide),k.aK fun m v r a=>b m v 2 r a (by decide),l.aK fun m v r a=>b m v 2 r a (by decide)⟩
theorem am1.aK{N:Nat}{H H':List Ob}{q:ab}{b:List Nd}(h:am1 N H q b)(c:∀m,N<=m->m<H.length->H'[m]?=H[m]?):am1 N H' q b:=by have⟨h,v,rows,d,f,e,g,j⟩:=h;exact⟨h,v,rows,d,f,by rw[c h d (bf e)];exact e,g,fun i k=>by have⟨r,l,n⟩:=j i k;exact⟨r,l,n.aK fun m v z r a _ hm=>c m a (bf hm)⟩⟩
section
attribute [local simp] kn5
def apg:bn 21 6=aed/\bn 21 7=acs/\bn 21 12=XQ:=by and_intros<;>kernel_rfl
attribute [local simp] apg aed acs XQ
section
variable{H:List Ob}{c:Nat->aU}{b:Nat}{K:Cl}
def c21(h:bJ H c b K)(hl:K.nodes.length<=1000)(hs:∀n∈K.nodes,fu n):∃q w,aO tz ay 21 [au b] H=some (.c q,w)/\am1 H.length w q K.nodes/\H.length<=w.length/\∀m,m<H.length->w[m]?=H[m]?:=by
 have⟨q,mp,mt,es,et,hr⟩:=h;have am:=c43 hr.hn (by omega);have hb:=hr.hb;have⟨o,a4⟩:=DD K.nodes;rw[a4]at am hl hs|-;have⟨n,hn⟩:=DD o.length;have⟨N,hN⟩:=DD H.length;rw[hN,hn]at am;rw[hN]
 obtain⟨r,w,h1,q',rfl,Z⟩:=cG (C:=tz) (f:=21) (args:=[au b]) (H:=H) (fun r w=>∃q,r= .c q/\am1 N w q o/\N<=w.length/\∀m,m<N->w[m]?=H[m]?) func21 rfl (by
  simp only[f21,cr];refine bp [(0,au b)] (fun G=>G=H) ?_ ?_
  .simp
  rintro p G⟨a0,_⟩rfl;refine bp [(3,ER N 0 0 n)] (fun a=>a=G++[ah 10 (o.map aT)]) ?_ ?_
  .simp[-aD,-getElem?_pos,a0,hb,am]
  rintro p G1⟨a3,_⟩rfl;refine bp [(3,ER N 0 0 n)] (fun a=>am1 N a (.sl N 0 0 o.length) o/\N<=a.length/\∀m,m<N->a[m]?=G[m]?) ?_ ?_
  .refine bp [(3,ER N 0 0 n),(13,aa n),(14,aa (0:Nat))] (fun a=>a=G++[ah 10 (o.map aT)]) ?_ ?_
   .simp[a3]
   rintro p G2 g1 rfl;rw[eC];refine iv (fun i:Nat=>[(3,ER N 0 0 n),(13,aa n),(14,aa i)]) (fun i a=>i<=n/\N<a.length/\(∀m,m<N->a[m]?=G[m]?)/\∃rows,a[N]?=some (.live 0 10 rows)/\rows.length=n/\(∀k (s:k<o.length),k<i->∃r,rows[k]?=some r/\NdL N a r o[k])/\∀k (s:k<o.length),i<=k->rows[k]?=some (aT o[k])) (fun i=>n-i) ?_ 0 g1 ⟨by omega,by simp;omega,fun m hm=>abE (by omega),o.map aT,by rw[aea (by omega),hN];simp,by simp[hn],fun k s h=>by omega,fun k s _=>by rw[adf,abM s];rfl⟩ fun _=>rfl;rintro i p z ⟨d,e,l,_⟩ ⟨g2,g3,g4,rows,M,g6,g7,g8⟩;by_cases an:i<n
   case neg=>simp[-getElem?_pos,d,e,l,an];exact⟨⟨N,0,rows,ad3 _,rfl,M,by omega,fun k s=>g7 k s (by omega)⟩,by omega,g4⟩
   have hi:i<o.length:=by omega
   have rx:=g8 i hi (ad3 _);have⟨x,hx⟩:=DD o[i];have E:=hs x (by rw[<-hx];exact aix hi);rw[hx]at rx;have F:i<rows.length:=by omega
   have hw:adW.wrap ((i:Int)+1)=((i+1:Nat):Int):=cv (by omega);refine bp [(3,ER N 0 0 n),(13,aa n),(14,aa i),(15,aR true)] (fun a=>a=z) ?_ ?_
   .simp[d,e,l,an]
   rintro p A⟨d,e,l,a5,_⟩rfl;refine bp [(3,ER N 0 0 n),(13,aa n),(14,aa i)] (fun a=>a=A) ?_ ?_
   .simp[d,e,l,a5]
   rintro p z⟨d,e,l,_⟩rfl;refine bp [(3,ER N 0 0 n),(13,aa n),(14,aa i)] (fun a=>N<a.length/\(∀m,m<N->a[m]?=G[m]?)/\∃rows,a[N]?=some (.live 0 10 rows)/\rows.length=n/\(∀k (s:k<o.length),k<i+1->∃r,rows[k]?=some r/\NdL N a r o[k])/\∀k (s:k<o.length),i+1<=k->rows[k]?=some (aT o[k])) ?_ ?_
   .rw[eC];refine Ends.bl ?_;refine bp [(3,ER N 0 0 n),(13,aa n),(14,aa i),(4,aa i)] (fun a=>a=z) ?_ ?_
    .simp[d,e,l]
    rintro p A⟨d,e,l,b4,_⟩rfl;refine bp [(3,ER N 0 0 n),(13,aa n),(14,aa i),(5,.c (.ptr N 0 i 0))] (fun a=>a=A) ?_ ?_
    .simp[-getElem?_pos,d,e,l,b4,M,g6,an]
    rintro p z⟨d,e,l,B,_⟩rfl;have⟨aI,hS⟩:=DD (x.dr.ai.af.map ax);have ad:=ao9 x.dr.ai.af (by have:=E.si;omega);have ae:=an1 x.dr.need (by have:=E.nd;omega);rw[hS]at ad;have⟨g,hg⟩:=DD z.length;have⟨O,aJ⟩:=DD x.dr.ai.af.length;rw[aJ]at ad;have gK:∀K,(z++K)[N]?=some (.live 0 10 rows):=fun K=>by rw[abE (by omega)];exact M
    have gS:∀K X,((z++K).set N X)[N]?=some X:=fun K X=>ba (gK K);have J:∀X,(rows.set i X)[i]?=some X:=fun X=>by simp[F]
    simp only[aT]at rx;rw[hS]at rx;refine bp [(3,ER N 0 0 n),(13,aa n),(14,aa i),(5,.c (.ptr N 0 i 0))] (fun a=>a=(z++[ah 8 aI]).set N (.live 0 10 (rows.set i [I x.dr.ai.id,I x.dr.ai.phase,.sl g 0 0 O,I x.dr.aQ,aG x.dr.need,I x.book.last,.aj (x.book.aA.map aN),.aj (x.known.map aW),aG x.told,.aj (x.asked.map aW)]))) ?_ ?_
    .simp[-aD,-getElem?_pos,d,e,l,B,M,rx,F,ad,ae,gK,hg,gS,J]
    rintro p A⟨d,e,l,B,_⟩P;have⟨KN,ag⟩:=DD (x.known.map aW);have⟨AK,ak⟩:=DD (x.asked.map aW);have⟨t,S⟩:=DD (x.book.aA.map aN);have⟨T,aL⟩:=DD x.known.length;have⟨U,aM⟩:=DD x.asked.length;have⟨D,aP⟩:=DD x.book.aA.length;have ao:=aot x.known (by have:=E.kn;omega);have ap:=aot x.asked (by have:=E.aq;omega);have aS:=an1 x.told (by have:=E.tl;omega);have ar:=apr x.book.aA (by have:=E.bk.1;omega);rw[ag,ak,S]at P;rw[ag,aL]at ao;rw[ak,aM]at ap;rw[S,aP]at ar;have⟨V,av⟩:=DD ([I x.dr.ai.id,I x.dr.ai.phase,.sl g 0 0 O,I x.dr.aQ,aG x.dr.need,I x.book.last,.aj t,.aj KN,aG x.told,.aj AK]:List ab);rw[av]at P;have aw:A[N]?=some (.live 0 10 (rows.set i V)):=by rw[P];exact ba (gK _)
    have aU:(rows.set i V)[i]?=some V:=by simp[F]
    have a9:i< (rows.set i V).length:=by simpa using F
    have az:A.length=g+1:=by rw[P];simp[hg]
    have al:∀K,(A++K)[N]?=some (.live 0 10 (rows.set i V)):=fun K=>by rw[abE (by omega)];exact aw
    rw[<-av]at aU;have aV:∀K X,((A++K).set N X)[N]?=some X:=fun K X=>ba (al K);refine bp [(3,ER N 0 0 n),(13,aa n),(14,aa i),(5,.c (.ptr N 0 i 0))] (fun a=>a=(A++[ah 2 KN,ah 2 AK]).set N (.live 0 10 (rows.set i [I x.dr.ai.id,I x.dr.ai.phase,.sl g 0 0 O,I x.dr.aQ,aG x.dr.need,I x.book.last,.aj t,.sl (g+1) 0 0 T,aG x.told,.sl (g+2) 0 0 U]))) ?_ ?_
    .simp[-aD,-getElem?_pos,d,e,l,B,aw, <-av,F,ao,ap,aS,al,az,aV,J]
    rintro p G5⟨d,e,l,B,_⟩Q;have⟨r2,aB⟩:=DD ([I x.dr.ai.id,I x.dr.ai.phase,.sl g 0 0 O,I x.dr.aQ,aG x.dr.need,I x.book.last,.aj t,.sl (g+1) 0 0 T,aG x.told,.sl (g+2) 0 0 U]:List ab);rw[aB]at Q;have aE:G5[N]?=some (.live 0 10 (rows.set i r2)):=by rw[Q];exact ba (al _)
    have aF:G5.length=g+3:=by rw[Q];simp[az]
    have aH:∀K,(G5++K)[N]?=some (.live 0 10 (rows.set i r2)):=fun K=>by rw[abE (by omega)];exact aE
    have aX:=J r2;rw[<-aB]at aX;refine bp [(3,ER N 0 0 n),(13,aa n),(14,aa i),(5,.c (.ptr N 0 i 0))] (fun a=>a=(G5++[ah 4 t]).set N (.live 0 10 (rows.set i [I x.dr.ai.id,I x.dr.ai.phase,.sl g 0 0 O,I x.dr.aQ,aG x.dr.need,I x.book.last,.sl (g+3) 0 0 D,.sl (g+1) 0 0 T,aG x.told,.sl (g+2) 0 0 U]))) ?_ ?_
    .simp[-aD,-getElem?_pos,d,e,l,B,aE, <-aB,F,ar,aH,aF,J]
    rintro p u⟨d,e,l,B,_⟩L;have⟨W,Y⟩:=DD ([I x.dr.ai.id,I x.dr.ai.phase,.sl g 0 0 O,I x.dr.aQ,aG x.dr.need,I x.book.last,.sl (g+3) 0 0 D,.sl (g+1) 0 0 T,aG x.told,.sl (g+2) 0 0 U]:List ab);rw[Y]at L;have k0:u[N]?=some (.live 0 10 (rows.set i W)):=by rw[L];exact ba (aH _)
    have bb:N<g:=by omega
    have k1:u[g]?=some (ah 8 aI):=by rw[L,aat (by omega),abE (by omega),Q,aat (by omega),abE (by omega),P,aat (by omega),aea (by omega),hg];simp
    have k2:u[g+1]?=some (ah 2 KN)/\u[g+2]?=some (ah 2 AK):=by constructor<;>rw[L,aat (by omega),abE (by omega),Q,aat (by omega),aea (by omega),az]<;>simp
    have R:u[g+3]?=some (ah 4 t):=by rw[L,aat (by omega),aea (by omega),aF];simp
    have k4:∀m,m<g->m≠N->u[m]?=z[m]?:=fun m h1 Z=>by rw[L,aat (by omega),abE (by omega),Q,aat (by omega),abE (by omega),P,aat (by omega),abE (by omega)]
    have k5:u.length=g+4:=by rw[L];simp[aF]
    have a6:=J W;have aY:t.length=D:=by rw[<-S, <-aP];simp
    clear P Q L gK gS al aV aH aw aE aU aX ad ao ap aS ar ae;rw[<-Y]at a6;refine(?_:Ends _ _);refine bp [(3,ER N 0 0 n),(13,aa n),(14,aa i),(5,.c (.ptr N 0 i 0)),(81,aa D),(82,aa (0:Nat))] (fun a=>a=u) ?_ ?_
    .simp[-aD,-getElem?_pos,d,e,l,B,k0, <-Y,F,R,J]
    rintro p G7 g1 rfl;rw[eC];refine iv (fun j:Nat=>[(3,ER N 0 0 n),(13,aa n),(14,aa i),(5,.c (.ptr N 0 i 0)),(81,aa D),(82,aa j)]) (fun j a=>j<=D/\a=G7) (fun j=>D-j) ?_ 0 g1 ⟨by omega,rfl⟩ fun _=>rfl;rintro j p u ⟨d,e,l,B,aZ,a1,_⟩ ⟨g2,rfl⟩;by_cases dj:j<D
    .have a7:adW.wrap ((j:Int)+1)=((j+1:Nat):Int):=cv (by have:=E.bk.1;unfold maxLen at this;omega);have a2:j<x.book.aA.length:=by omega
     have⟨y,hy⟩:=DD x.book.aA[j];have rj:t[j]?=some [I y.id,.aj (y.need.map aC),I y.state,I y.cH]:=by rw[<-S,adf,abM a2,hy];rfl
     have ae:=an1 y.need (by have:=E.bk.2 _ (aix a2);rw[hy]at this;omega);have jS:j<t.length:=by omega
     have sS:t.set j [I y.id,.aj (y.need.map aC),I y.state,I y.cH]=t:=ja jS (by rw[<-ab1, <-abM jS];exact rj);have gS:u.set (g+3) (ah 4 t)=u:=ja (bf R) (by rw[<-ab1, <-abM (bf R)];exact R);simp[-aD,-getElem?_pos,-ad0,d,e,l,B,aZ,a1,k0, <-Y,F,J,R,dj,aY,rj,ae,sS,gS,a7];exact⟨j+1,by omega,rfl,by omega⟩
    .simp[-getElem?_pos,d,e,l,B,aZ,a1,dj];refine⟨by omega,fun m hm=>(k4 m (by omega) (by omega)).trans (g4 m hm),rows.set i W,k0,by rw[aiP];exact g6,fun k s h=>?_,fun k s h=>?_⟩
     .by_cases c:k=i
      .subst c;refine⟨W,J W,⟨⟨.sl g 0 0 O,.sl (g+3) 0 0 D,.sl (g+1) 0 0 T,.sl (g+2) 0 0 U,by rw[hx];exact Y.symm,?_⟩⟩⟩;rw[hx,hS,S,ag,ak];refine⟨⟨g,0,by omega,by rw[<-hS,aio,aJ],k1⟩,⟨g+3,0,by omega,by rw[aY],R⟩,⟨g+1,0,by omega,by rw[<-ag,aio,aL],k2.1⟩,⟨g+2,0,by omega,by rw[<-ak,aio,aM],k2.2⟩⟩
      .have ⟨r,p1,p2⟩:=g7 k s (by omega);exact⟨r,by rw[aat (ait c)];exact p1,p2.aK fun m v bc r' h1 Z h3=>k4 m (by have:=bf h3;omega) fun a8=>by rw[a8,M]at h3;cases h3;exact Z rfl⟩
     .rw[aat (by omega)];exact g8 k s (by omega)
   .rintro p A⟨d,e,l,_⟩⟨g3,g4,rows,M,g6,g7,g8⟩;simp[-getElem?_pos,-ad0,d,e,l,hw];exact⟨i+1,by omega,rfl,by omega,g3,g4,rows,M,g6,g7,g8⟩
  .rintro p z⟨a3,_⟩hG;simp[a3];rw[<-hn];exact hG)
 exact⟨q',w,dK (by simp) h1,Z⟩
end
end
section
attribute [local simp] kn5
def apH:bn 13 12=cC:=by kernel_rfl
attribute [local simp] apH
def aol:∀ {a b:List (List ab)},bA a=true->bA b=true->bA (a++b)=true
 |[],_,_,h=>h
 |r::a,b,h,c=>by
  simp only[bA,ai7,abR]at h|-
  exact⟨h.1,aol h.2 c⟩
def MlL(H:List Ob)(c:Nat->aU)(q:ab)(k:Nat):Prop:=((q=ap\/q= .aj [])/\k=0)\/∃h v rows,q= .sl h v 0 k/\H[h]?=some (.live v 5 rows)/\rows.length=k/\bA rows=true/\c h= .cl 10
theorem MlL.aK{H H':List Ob}{c a:Nat->aU}{q:ab}{k:Nat}{X:aU->Prop}(h:MlL H c q k)(d:aH X c a H H')(e:¬X (.cl 10)):MlL H' a q k:=by
 rcases h with h|⟨h,v,rows,f,g,i,j,b⟩
 .exact .inl h
 .have ⟨l,m⟩:=d.get g (by rw[b];exact e);exact .inr ⟨h,v,rows,f,l,i,j,m.trans b⟩
section
variable{H:List Ob}{c:Nat->aU}{b:Nat}{K:Cl}
theorem am1.mono{N M:Nat}{q:ab}{f:List Nd}(h:am1 N H q f)(x:M<=N):am1 M H q f:=by have s:∀ {z q rows},SlR N H z q rows->SlR M H z q rows:=fun⟨h,v,g,e⟩=>⟨h,v,by omega,e⟩;have⟨h,v,rows,g,e,j,k,l⟩:=h;refine⟨h,v,rows,by omega,e,j,k,fun i m=>?_⟩;have⟨r,n,⟨a,b,c,d,o,p,t,u,w⟩⟩:=l i m;exact⟨r,n,⟨a,b,c,d,o,s p,s t,s u,s w⟩⟩
def HjI(b:Nat)(K:Cl)(c1:Nat->aU)(d:List Ob)(p:Nat)(q:ab)(Y:List Ob->(Nat->aU)->Prop)(e:Nat)(G:List Ob):Prop:= ∃a c k,bJ G a b K/\aH GJ c1 a d G/\G[p]?=some (ah 2 [[q,c]])/\a p= .cl 10/\(c≠ .aj []/\MlL G a c k)/\k<=e/\Y G a
theorem HjI.mono{c1:Nat->aU}{c G:List Ob}{p d e:Nat}{q:ab}{Y f:List Ob->(Nat->aU)->Prop}(h:HjI b K c1 c p q Y d G)(s:d<=e)(g:∀G a,Y G a->f G a):HjI b K c1 c p q f e G:=by have⟨a,i,k,j,l,m,n,o,t,r⟩:=h;exact⟨a,i,k,j,l,m,n,o,by omega,g _ _ r⟩
abbrev Tt:List Ob->(Nat->aU)->Prop:=fun _ _=>True
def c13(h:bJ H c b K)(hl:K.nodes.length<=5)(hs:∀n∈K.nodes,fu n)(hm:∀x ak,(K.tr x ak).left.length<=1000000):∃q w k d D,aO tz ay 13 [au b] H=some (.agg [q,w],D)/\am1 H.length D q K.nodes/\MlL D d w k/\bJ D d b K/\aH GJ c d H D:=by
 have ax:∀x ak,(K.oY x ak).length<=1000000:=fun x ak=>by
  unfold Cl.oY;split
  .exact hm _ _
  .simp
 have⟨n,hn⟩:=DD K.nodes.length;have⟨N,P⟩:=DD H.length;have az:aH (fun _=>False) c (ext c H.length .none) H (H++[ah 2 [[ap,ap]]]):=aH.of _ (by simp) fun m hm _=>abE hm;have⟨q,J,aL,k1,k2,k3⟩:=c21 (h.aK az fun _ h=>h.elim) (by omega) hs;have k0:J[N]?=some (ah 2 [[ap,ap]]):=by rw[k3 N (by simp[P]),aea (by omega),P];simp
 have⟨p,hp⟩:=DD J.length;have aA:∀X:Ob,(J++[X])[p]?=some X:=fun X=>by rw[<-hp];simp
 have aM:∀X am:Ob,(J++[X]).set p am=J++[am]:=fun X am=>by rw[<-hp];simp
 have an:N<p:=by rw[<-hp];simp at k2;omega
 obtain⟨aB,D,R,q',w,k,d,rfl,S⟩:=cG (C:=tz) (f:=13) (args:=[au b]) (H:=H) (fun aB D=>∃q w k d,aB= .agg [q,w]/\am1 H.length D q K.nodes/\MlL D d w k/\bJ D d b K/\aH GJ c d H D) func13 rfl (by
  simp only[f13,cr];refine bp [(0,au b),(2,au N)] (fun G=>G=H++[ah 2 [[ap,ap]]]) ?_ ?_
  .simp[P]
  rintro A G⟨o,g,_⟩rfl;refine bp [(0,au b),(2,au N),(3,au p)] (fun G=>G=J++[ah 2 [[q,ap]]]) ?_ ?_
  .simp[-aD,-getElem?_pos,o,g,aL,hp,aA,aM]
  rintro A G⟨o,g,r,_⟩rfl;have⟨c1,ao⟩:=DD (ext (ext (ext c H.length .none) (H++[ah 2 [[ap,ap]]]).length .none) p (.cl 10));have aq:aH (fun _=>False) c c1 H (J++[ah 2 [[q,ap]]]):=by rw[<-ao, <-hp];exact az.trans ((aH.of _ k2 fun m hm _=>k3 m hm).trans (aH.of _ (by simp) fun m hm _=>abE hm))
  have cp:c1 p= .cl 10:=by rw[<-ao];exact jr (ad3 _)
  have cN:∀m,N<=m->m<p->c1 m= .none:=fun m R S=>by
   rw[<-ao,jf S];by_cases e:m< (H++[ah 2 [[ap,ap]]]).length
   .rw[jf e,jr (by omega)]
   .rw[jr (by omega)]
  have⟨y,al⟩:=DD (J++[ah 2 [[q,ap]]]);have hk:∀m,N<=m->m<p->y[m]?=J[m]?:=fun m _ h=>by rw[<-al];exact abE (by omega)
  have l2:y.length=p+1:=by rw[<-al];simp[hp]
  have aN:y[p]?=some (ah 2 [[q,ap]]):=by rw[<-al];exact aA _
  rw[al]at aq|-;have aC:=k1;simp only[agc,ajS,P]at aC;obtain⟨hq,v,rows,z1,rfl,T,z4,z5⟩:=aC;have fin:∀G bd,HjI b K c1 y p (.sl hq v 0 K.nodes.length) Tt bd G->∃w k d,am1 (N+1) G (.sl hq v 0 K.nodes.length) K.nodes/\MlL G d w k/\bJ G d b K/\aH GJ c d H G/\G[p]?=some (ah 2 [[.sl hq v 0 K.nodes.length,w]])/\G[N]?=some (ah 2 [[ap,ap]])/\d N= .none:=by rintro G bd ⟨d,w,k,M,F,s,E,L,U,_⟩;have kn:∀m,N<=m->m<p->G[m]?=y[m]?:=fun m R S=>F.aK m (by omega) (by rw[cN m R S];simp[Lw]);refine⟨w,k,d,(show am1 (N+1) _ _ _ by simpa only[agc,ajS,P]using k1).aK fun m R S=>(kn m (by omega) (by omega)).trans (hk m (by omega) (by omega)),L.2,M,(aq.mono fun _ h=>h.elim).trans F,s,?_⟩;exact⟨by rw[kn N (ad3 _) an,hk N (ad3 _) an,k0],(F.jK N (by omega)).trans (cN N (ad3 _) an)⟩
  have ar:HjI b K c1 y p (.sl hq v 0 K.nodes.length) Tt 0 y:=⟨c1,ap,0,(h.aK aq fun _ h=>h.elim),aH.refl _ _ _,aN,cp,⟨by simp,.inl ⟨.inl rfl,rfl⟩⟩,ad3 _,trivial⟩;rw[hn]at fin ar;have⟨Q,V⟩:=DD (ab.sl hq v 0 n);rw[V]at fin ar;refine bp [(2,au N),(3,au p)] (fun G=>HjI b K c1 y p Q Tt 25000000 G) ?_ ?_
  .refine bp [(0,au b),(2,au N),(3,au p),(4,aa (0:Nat))] (fun G=>G=y) ?_ ?_
   .simp[o,g,r]
   rintro A y g1 rfl;rw[eC];refine iv (fun a:Nat=>[(0,au b),(2,au N),(3,au p),(4,aa a)]) (fun a G=>a<=n/\HjI b K c1 y p Q Tt (5000000*a) G) (fun a=>n-a) ?_ 0 g1 ⟨by omega,ar⟩ fun _=>rfl;rintro a A G ⟨o,g,r,u,_⟩ ⟨g2,z⟩;have af:=z;have⟨d,w,k,M,F,s,E,L,U,_⟩:=af;have aQ:a<n->adW.wrap ((a:Int)+1)=((a+1:Nat):Int):=fun _=>cv (by omega);by_cases av:a<n
   case neg=>rw[<-V]at s;simp[-getElem?_pos,o,g,r,u,s,av];exact z.mono (by omega) fun _ _ h=>h
   refine bp [(0,au b),(2,au N),(3,au p),(4,aa a)] (fun t=>t=G) ?_ ?_
   .rw[<-V]at s;simp[-getElem?_pos,o,g,r,u,s,av]
   rintro A G⟨o,g,r,u,_⟩rfl;clear M F s E L U;refine bp [(0,au b),(2,au N),(3,au p),(4,aa a)] (fun t=>HjI b K c1 y p Q Tt (5000000*a+5000000) t) ?_ ?_
   .rw[eC];refine Ends.bl ?_;refine bp [(0,au b),(2,au N),(3,au p),(4,aa a),(5,aa (0:Nat))] (fun t=>t=G) ?_ ?_
    .simp[o,g,r,u]
    rintro A G3 g1 rfl;rw[eC];refine iv (fun j:Nat=>[(0,au b),(2,au N),(3,au p),(4,aa a),(5,aa j)]) (fun j G=>j<=n/\HjI b K c1 y p Q Tt (5000000*a+1000000*j) G) (fun j=>n-j) ?_ 0 g1 ⟨by omega,z⟩ fun _=>rfl;rintro j A G ⟨o,g,r,u,B,_⟩ ⟨g3,z⟩;have af:=z;have⟨d,w,k,M,F,s,E,L,U,_⟩:=af;by_cases dj:j<n
    case neg=>rw[<-V]at s;simp[-getElem?_pos,o,g,r,u,B,s,dj];exact z.mono (by omega) fun _ _ h=>h
    refine bp [(0,au b),(2,au N),(3,au p),(4,aa a),(5,aa j)] (fun t=>t=G) ?_ ?_
    .rw[<-V]at s;simp[-getElem?_pos,o,g,r,u,B,s,dj]
    rintro A G⟨o,g,r,u,B,_⟩rfl;have aR:adW.wrap ((j:Int)+1)=((j+1:Nat):Int):=cv (by omega);refine bp [(0,au b),(2,au N),(3,au p),(4,aa a),(5,aa j)] (fun t=>HjI b K c1 y p Q Tt (5000000*a+1000000*j+1000000) t) ?_ ?_
    .rw[eC];refine Ends.bl ?_;have⟨W,c2,H6,aE,O,m2,m3⟩:=Nj M a j (ax _ _);have⟨l,aS⟩:=DD (K.oY a j);have aT:=ax a j;rw[aS]at O aT;have h6:HjI b K c1 y p Q (fun G d=>MsL G d W l) (5000000*a+1000000*j) H6:=by have⟨p1,p2⟩:=m3.get s (by rw[E];simp[Lw]);exact⟨c2,w,k,m2,F.trans (m3.mono fun x h=> .inl h),p1,p2.trans E,⟨L.1,L.2.aK m3 (by simp[Lw])⟩,U,O⟩
     refine bp [(0,au b),(2,au N),(3,au p),(4,aa a),(5,aa j),(6,.c W)] (fun t=>t=H6) ?_ ?_
     .simp[-aD,-getElem?_pos,o,g,r,u,B,aE]
     clear M F s E L U O m2 m3 aE z;rintro A G ⟨o,g,r,u,B,Y,_⟩ rfl;refine bp [(0,au b),(2,au N),(3,au p),(4,aa a),(5,aa j),(6,.c W),(7,aa (0:Nat))] (fun t=>t=G) ?_ ?_
     .simp[o,g,r,u,B,Y]
     rintro A G g1 rfl;rw[eC];refine iv (fun i:Nat=>[(0,au b),(2,au N),(3,au p),(4,aa a),(5,aa j),(6,.c W),(7,aa i)]) (fun i G=>i<=l.length/\HjI b K c1 y p Q (fun G d=>MsL G d W l) (5000000*a+1000000*j+i) G) (fun i=>l.length-i) ?_ 0 g1 ⟨by omega,h6⟩ fun _=>rfl;rintro i A G ⟨o,g,r,u,B,Y,a7,_⟩ ⟨g4,z⟩;have af:=z;have⟨d,w,k,M,F,s,E,⟨L,ag⟩,U,O⟩:=af;by_cases Z:i<l.length
     case neg=>
      have:∀G,HjI b K c1 y p Q (fun G d=>MsL G d W l) (5000000*a+1000000*j+i) G->HjI b K c1 y p Q Tt (5000000*a+1000000*j+1000000) G:=fun G h=>h.mono (by omega) fun _ _ _=>trivial;rcases O with⟨rfl,rfl⟩|⟨h7,v7,rfl,z2,T⟩
      .simp at Z;simp[-getElem?_pos,o,g,r,u,B,Y,a7];exact this G z
      .simp[-getElem?_pos,o,g,r,u,B,Y,a7,Z];exact this G z
     rcases O with⟨rfl,rfl⟩|⟨h7,v7,rfl,z2,T⟩
     .simp at Z
     have⟨x,hx⟩:=DD l[i];have rx:(l.map br)[i]?=some [I x.kind,I x.aP,I x.num]:=by rw[adf,abM Z,hx];rfl
     have⟨aU,hR⟩:=DD (l.map br);have aF:aU.length=l.length:=by rw[<-hR];simp
     rw[hR]at z2 rx;have aG:adW.wrap ((i:Int)+1)=((i+1:Nat):Int):=cv (by omega);have pl:=bf s;have aV:=bf z2;have gK:∀K,(G++K)[p]?=some (ah 2 [[Q,w]]):=fun K=>by rw[abE pl];exact s
     have nh:h7≠p:=fun e=>by rw[e,E]at T;cases T
     obtain⟨row,aW⟩:∃row,row=([I a,I j,I x.kind,I x.aP,I x.num]:List ab):=⟨_,rfl⟩;have aI:∀t ai k',G.length<=t.length->(∀m,m<G.length->d m≠ .cl 10->t[m]?=G[m]?)->t[p]?=some (ah 2 [[Q,ai]])->ai≠ .aj []->MlL t (ext d G.length (.cl 10)) ai k'->k'<=k+1->HjI b K c1 y p Q (fun G d=>MsL G d (.sl h7 v7 0 l.length) l) (5000000*a+1000000*j+(i+1)) t:=by intro t ai k' u1 u2 u3 u4 u5 u6;have aw:aH (· = .cl 10) d (ext d G.length (.cl 10)) G t:=aH.of _ u1 u2;have⟨p1,p2⟩:=aw.get z2 (by rw[T];simp);exact⟨_,ai,k',M.aK aw (fun x h=>by rw[h];simp[Lw]),F.trans (aw.mono fun x h=> .inr h),u3,(jf pl).trans E,⟨u4,u5⟩,by omega,.inr ⟨h7,v7,rfl,by rw[hR];exact p1,p2.trans T⟩⟩
     rcases ag with⟨ag|ag,rfl⟩|⟨ad,ae,rs,rfl,z5,z6,z7,z8⟩
     .subst ag;simp[-getElem?_pos,-ad0,o,g,r,u,B,Y,a7,Z,s,z2,rx,aF,aG,gK];refine⟨i+1,by omega,rfl,by omega,aI _ (.sl (G.length+1) 0 0 1) 1 (by simp) (fun m hm hc=>?_) (ba (gK _)) (by simp) (.inr ⟨G.length+1,0,_,rfl,by rw[aat (by omega)];simp;rfl,rfl,by simp[bA,ES,bC],jr (by omega)⟩) (by omega)⟩;rw[aat (fun e=>hc (by rw[<-e];exact E)),abE hm]
     .exact absurd ag L
     .have aJ:=bf z5;have np:ad≠p:=fun e=>by rw[e]at z5;rw[z5]at s;cases s
      have gM:∀K,(G++K)[ad]?=some (.live ae 5 rs):=fun K=>by rw[abE aJ];exact z5
      have gP:∀K X,((G++K).set ad X)[p]?=some (ah 2 [[Q,.sl ad ae 0 k]]):=fun K X=>by rw[aat np];exact gK K
      have O:k+1<=maxLen:=by unfold maxLen;omega
      have m2:(k+1)*40<=140737488355328:=by omega
      have tk:rs.take k=rs:=acu (by omega);simp[-getElem?_pos,-ad0,o,g,r,u,B,Y,a7,Z,s,z2,rx,aF,aG,gK,gM,gP,O,m2,tk,z6];refine⟨i+1,by omega,rfl,by omega,aI _ (.sl ad (ae+1) 0 (k+1)) (k+1) (by simp) (fun m hm hc=>?_) (ba (gP _ _)) (by simp) (.inr ⟨ad,ae+1,_,rfl,by rw[aat (ait np)];exact ba (gM _),by simp[z6],?_,(jf aJ).trans z8⟩) (by omega)⟩
      .rw[aat (fun e=>hc (by rw[<-e];exact E)),aat (fun e=>hc (by rw[<-e];exact z8)),abE hm]
      .exact aol z7 (by simp[bA,ES,bC])
    .rintro A G⟨o,g,r,u,B,_⟩z;simp[-getElem?_pos,-ad0,o,g,r,u,B,aR];exact⟨j+1,by omega,rfl,by omega,z.mono (by omega) fun _ _ h=>h⟩
   .rintro A G⟨o,g,r,u,_⟩z;simp[-getElem?_pos,-ad0,o,g,r,u,aQ av];exact⟨a+1,by omega,rfl,by omega,z.mono (by omega) fun _ _ h=>h⟩
  .rintro A G⟨g,r,_⟩z;have⟨w,k,d,bj,bm,f3,f4,f5,f6,f7⟩:=fin G _ z;have gS:∀X,(G.set N X)[N]?=some X:=fun X=>ba f6;have gn:∀X m,m≠N->(G.set N X)[m]?=G[m]?:=fun X m hm=>aat (ait hm);have sS:∀X,aH (· = .none) d d G (G.set N X):=fun X=>⟨by simp,fun _ _=>rfl,fun m _ hc=>gn X m fun e=>hc (by rw[e];exact f7)⟩;simp[-getElem?_pos,g,r,f5,f6,gS];have⟨X,hX⟩:=DD (Ob.live 0 2 [[Q,w]]);rw[hX];refine⟨_,_,⟨rfl,rfl⟩,(?_:am1 _ _ (da Q) _),k,d,?_,f3.aK (sS X) (fun k h=>by rw[h];simp[Lw]),f4.fresh (by simp) fun m hm=>gn X m fun e=>by rw[P,e]at hm;omega⟩
   .have hz:da Q=Q:=by rw[<-V];rfl
    rw[P,hz];exact am1.mono (N:=N+1) (bj.aK fun m R _=>gn X m (by omega)) (by omega)
   .rcases bm.aK (sS X) (by simp)with⟨rfl|rfl,h⟩|⟨hm,ae,rs,rfl,h⟩
    .exact .inl ⟨.inr rfl,h⟩
    .exact .inl ⟨.inr rfl,h⟩
    .exact .inr ⟨hm,ae,rs,rfl,h⟩)
 exact⟨q',w,k,d,D,dK (by simp) R,S⟩
end
end
end Go.Nx
