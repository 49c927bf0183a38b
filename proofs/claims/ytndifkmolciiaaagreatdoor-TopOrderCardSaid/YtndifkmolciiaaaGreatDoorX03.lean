/- A part of the proof. -/
import Derived.Test.YtndifkmolciiaaaGreatDoorX02
set_option linter.all false
set_option maxRecDepth 8000
set_option maxHeartbeats 1000000
open Go.IntKind renaming i64->ads,u64->aiS,u8->aja
open Go.Proofs.Tryz renaming prog->aaD
open Int renaming natCast_add->ac7,natCast_emod->amj
open List renaming append_assoc->aio,getElem?_eq_getElem->aae,getElem?_set_self->afN,length_append->afu,length_drop->ajV,map_append->agA,map_map->ai6,map_set->aix,map_take->akH,range->aiT,replicate->ago,take_take->alZ
open List.Pairwise renaming nil->akl
open UInt8 renaming ofNat->alU
namespace Go.Nx
open Go Go.Proofs Tryz
structure P5(H:List Ob)(b:Nat)(w:Wk)(G:List Ob)(v:Wk):Prop where
 i:Hf w v
 f:bq b H G
 nd:v.n.dr.need=w.n.dr.need
 id:v.n.dr.ai.id=w.n.dr.ai.id
def QG(H:List Ob)(b:Nat)(w:Wk)(n:Nat)(G:List Ob):Prop:= ∃v,bZ G b v/\P5 H b w G v/\v.n.dr.ai.af.length=n
def DZ(H:List Ob)(b:Nat)(w:Wk)(sl:ab)(n k:Nat)(G:List Ob):Prop:= ∃v a c d e se,cF G b v sl a c d e se/\P5 H b w G v/\v.n.dr.ai.af.length=n/\∀x∈v.n.dr.ai.af.take k,keeps v x
def Xl{H:List Ob}{b:Nat}{w:Wk}(h:bZ H b w)(u:pf w.n.dr.ai.af)(hm:w.n.dr.ai.af.length<=1000)(hn:w.n.dr.need.length<=100000)(ho:w.kR.out.length<=90000):
  ∃H',bB tz (ev tz) 211 [aw b] H=some (.aM [],H')/\bZ H' b w.kR/\bq b H H':=by
 refine gv func211 rfl ?_
 simp only[f211,bX]
 refine VG (fun n:Nat=>[(0,aw b)]) (fun n G=>n<=1000/\QG H b w n G) [] (fun n=>n) _ [0] (fun _=>rfl) ?_ w.n.dr.ai.af.length _ (by simp) ⟨hm,w,h,⟨⟨rfl,u⟩,bq.refl _ _,rfl,rfl⟩,rfl⟩ rfl
 rintro n⟨aj,G,ds⟩A⟨aO,v,⟨sl,S,T,U,X,se,g⟩,c,M⟩V
 simp only at A g c V
 subst V
 simp at A
 have o:=A
 have Y:=g.hb
 obtain⟨t,C,D,rfl,ay⟩:=g.hs
 simp only[bN]at Y
 have ap:(v.n.dr.ai.af.map ax).length=n:=by rw[<-M];simp
 rw[ap]at g Y
 simp[underlying59,o,Y]
 refine Ends.bl (gO (fun k:Nat=>[(11,aa n),(12,aa k),(10,bd C D 0 n),(0,aw b)]) (fun k G=>k<=n/\DZ H b w (.sl C D 0 n) n k G) [] (fun k=>n-k) _ [11,12,10,0] (fun _=>rfl) ?_ 0 _ (by simp[o]) ⟨by simp,v,S,T,U,X,se,g,c,M,by simp⟩ rfl)
 clear Y ay g c ap o M
 rintro k⟨aj,G,ds⟩A⟨h2,v,S,T,U,X,se,g,c,M,F⟩V
 simp only at A h2 g c F V
 subst V
 simp at A
 have⟨J,K,N,o⟩:=A
 by_cases e:k<n
 .have Z:ads.wrap ((k:Int)+1)=((k+1:Nat):Int):=cr (by omega)
  have z:=g.hb
  have lg:=bf z
  have⟨t,aR,aS,e1,j⟩:=g.hs
  simp only[ab.sl.injEq]at e1
  obtain⟨rfl,rfl,_,_⟩:=e1
  have az:C≠b:=fun aj=>by subst aj;rw[z]at j;cases j
  have⟨l,p⟩:=ak v.n.dr.ai.af
  have u:=c.i.s
  rw[p]at j M F u
  subst M
  have⟨x,E⟩:=ak l[k]
  have q:(l.map ax++t)[k]?=some (ax x):=by rw[aaK (by simpa using e),adn,aae e,E];rfl
  have O:k<l.length+t.length:=by omega
  have aq:l=l.take k++x::l.drop (k+1):=by rw[<-E, <-afv e,ajE]
  have P:=qv v.n.dr.need x.peer (by have:=c.nd;rw[this];unfold maxLen;omega)
  have aT:=c.i.out
  have c3:=g.cell (x:=[ah 8 [ax x]]) (i:=0) rfl
  have ad:=c3.at'
  rw[aiw]at ad
  simp only[bN]at z
  simp only[ax,aG]at q P z ad
  have aA:keeps v x->(∀y∈l.take (k+1),keeps v y):=fun al y d=>by
   rw[jK e,E]at d
   rcases ahl.1 d with d|d
   .exact F y d
   .simp at d;rw[d];exact al
  have am:keeps v x->DZ H b w (.sl C D 0 l.length) l.length (k+1) (G++[ah 8 [ax x]]):=fun al=>⟨v,S,T,U,X,se,g.snoc,⟨c.i,c.f.trans (bq.snoc lg),c.nd,c.id⟩,by rw[p],by rw[p];exact aA al⟩
  simp only[ax]at am
  by_cases c1:x.state=2
  case neg=>
   have ag:=am (zQ.2 (.inl c1))
   simp[-getElem?_pos,-aae,J,K,N,o,e,O,j,q,Z,c1]
   exact⟨k+1,by omega,by simp,by omega,ag⟩
  have go:¬(v.n.dr.aQ=2/\x.peer∈v.n.dr.need)->x.peer>v.n.dr.ai.id->
    ∃Q,bB tz (ev tz) 266 [aw b,.agg (ax x),aa 7] ((G++[Ob.live 0 8 [ax x]]).set C (Ob.live D 8 ((l.map ax).set k [I x.peer,I x.aP,I 3,B x.fork,B x.cJ,B x.token,B x.dd,B x.ask]++t)))=some (.aM [],Q)/\DZ H b w (.sl C D 0 l.length) l.length (k+1) Q:=by
   intro hc hp
   have aB:(l.map ax).set k [I x.peer,I x.aP,I 3,B x.fork,B x.cJ,B x.token,B x.dd,B x.ask]++t=(l.set k {x with state:=3}).map ax++t:=by
    rw[aix];rfl
   have ar:=g.af [ah 8 [ax x]] D (l.set k {x with state:=3}) t
   have aC:((G++[Ob.live 0 8 [ax x]]).set C (Ob.live D 8 ((l.set k {x with state:=3}).map ax++t)))[b]?=some (ah 13 [bN (v.put (v.n.eK (l.set k {x with state:=3}))) (.sl C D 0 (l.set k {x with state:=3}).length) S T U X se]):=by
    rw[aay az,aV z,aiJ]
    rfl
   rw[lP aC]at ar
   have⟨q1,q2⟩:=ar
   rw[aiJ]at q1
   have⟨Q,e3,⟨aD,aE,g3⟩,f3⟩:=zD q1 x 7 (by show v.out.length<=_;omega)
   rw[aB]
   refine⟨Q,e3,_,S,T,U,aD,aE,g3,⟨⟨?_,?_⟩,(c.f.trans q2).trans f3,c.nd,c.id⟩,by show(l.set k _).length=_;simp,?_⟩
   .have an:dC v.n.id v.n.dr.aQ v.n.dr.need x=([{x with state:=3}],[fu v.n.id x 7]):=by
     unfold dC
     rw[if_neg (by simp only[not_or,alY];exact⟨c1,hc⟩),if_pos hp]
    have aF:∀y∈ [{x with state:=3}],keeps v y:=fun y d=>by
     simp at d;rw[d];exact zQ.2 (.inl (by simp))
    have:=P9 (w:=v) (a:=l.take k) (r:=l.drop (k+1)) (x:=x) (by show v.n.dr.ai.af=_;rw[p];exact aq) F an aF
    have aH:l.set k {x with state:=3}=l.take k++[{x with state:=3}]++l.drop (k+1):=by
     rw[alR,if_pos e,aio];rfl
    rw[aH, <-c.i.l, <-this]
    rfl
   .show pf (l.set k {x with state:=3})
    refine⟨?_,?_,by simpa using u.m⟩
    .have aJ:(l.set k {x with state:=3}).map (fun y=>y.peer)=l.map (fun y=>y.peer):=by
      rw[aix]
      exact lP (by rw[adn,aae e,E];rfl)
     have A:(l.map fun y=>y.peer).Pairwise (· < ·):=alV.2 u.s
     rw[<-aJ]at A
     exact alV.1 A
    .intro y d
     rcases akZ d with d|d
     .exact u.b y d
     .rw[d];exact u.b x (by rw[<-E];exact air e)
   .intro y d
    have au:y∈(l.set k {x with state:=3}).take (k+1):=d
    have aK:(l.set k {x with state:=3}).take (k+1)=l.take k++[{x with state:=3}]:=by
     rw[alR,if_pos e]
     have:l.take k++({x with state:=3}:aI)::l.drop (k+1)=(l.take k++[{x with state:=3}])++l.drop (k+1):=by simp
     rw[this]
     exact ai2 (by simp;omega)
    rw[aK]at au
    rcases ahl.1 au with h|h
    .exact F y h
    .simp at h;rw[h];exact zQ.2 (.inl (by simp))
  have ao:¬(v.n.dr.aQ=2/\x.peer∈v.n.dr.need)-> ¬x.peer>v.n.dr.ai.id->
    ∃L R,bB tz (ev tz) 228 [aw b,aa x.peer] (G++[Ob.live 0 8 [ax x]])=some (.aM [],L)/\L[G.length]?=some (Ob.live 0 8 [ax x])/\bB tz (ev tz) 266 [aw b,.agg (ax x),aa 8] L=some (.aM [],R)/\QG H b w (l.length-1) R:=by
   intro hc hp
   have⟨L,d1,w1,bm⟩:=NF (g.snoc (x:=[ah 8 [ax x]])).at (by show v.n.dr.ai.af.length<=_;rw[p];omega) x.peer
   have⟨R,d2,w2,bj⟩:=P2 w1 x 8 (by show v.out.length<=_;omega)
   have c4:=(c3.step bm).at'
   rw[aiw]at c4
   have av:nP x.peer l=l.take k++l.drop (k+1):=by
    have:=Ym e u.s
    rw[E]at this
    exact this
   refine⟨L,R,d1,c4,d2,_,w2,⟨⟨?_,?_⟩,((c.f.trans (bq.snoc lg)).trans bm).trans bj,c.nd,c.id⟩,?_⟩
   .have an:dC v.n.id v.n.dr.aQ v.n.dr.need x=([],[fu v.n.id x 8]):=by
     unfold dC
     rw[if_neg (by simp only[not_or,alY];exact⟨c1,hc⟩),if_neg hp]
    have:=P9 (w:=v) (a:=l.take k) (r:=l.drop (k+1)) (x:=x) (by show v.n.dr.ai.af=_;rw[p];exact aq) F an (fun y d=>by simp at d)
    rw[<-c.i.l, <-this,aeo, <-av, <-p]
    rfl
   .show pf (nP x.peer v.n.dr.ai.af)
    rw[p]
    refine⟨u.s.filter _,fun y d=>u.b y (ajD.1 d).1,?_⟩
    have:=ah2 (fun y:aI=>!decide (y.peer=x.peer)) l
    have h2:=u.m
    show(l.filter _).length<=_
    omega
   .show (nP x.peer v.n.dr.ai.af).length=_
    rw[p,av]
    simp
    omega
  simp only[ax]at go ao
  by_cases c2:v.n.dr.aQ=2
  .by_cases ae:x.peer∈v.n.dr.need
   .have ag:=am (zQ.2 (.inr ⟨c2,ae⟩))
    rw[c2]at z
    simp[ae]at P
    rw[c1]at q ag
    simp[-getElem?_pos,-aae,J,K,N,o,e,O,j,q,Z,aV z,P,bi]
    exact⟨k+1,by omega,by simp,by omega,ag⟩
   .simp[ae]at P
    have hc:¬(v.n.dr.aQ=2/\x.peer∈v.n.dr.need):=fun h=>ae h.2
    by_cases c4:x.peer>v.n.dr.ai.id
    .have ⟨Q,d1,d2⟩:=go hc c4
     have W:∀y,((G++[Ob.live 0 8 [[I x.peer,I x.aP,I x.state,B x.fork,B x.cJ,B x.token,B x.dd,B x.ask]]]).set C y)[G.length]?=some (Ob.live 0 8 [[I x.peer,I x.aP,I x.state,B x.fork,B x.cJ,B x.token,B x.dd,B x.ask]]):=fun y=>(aay (by have:=bf j;omega)).trans ad
     have aL:=c4
     rw[c1]at q d1 W
     simp[-getElem?_pos,-aae,J,K,N,o,e,O,j,q,Z,aV z,aV j,d1,W,c4,P,bi,c2]
     exact⟨k+1,by omega,by simp,by omega,d2⟩
    .have ⟨L,R,d1,d2,d3,d4⟩:=ao hc c4
     rw[c1]at q d1 d2 d3
     simp[-getElem?_pos,-aae,J,K,N,o,e,O,j,q,aV z,d1,d2,d3,c4,P,bi,c2]
     exact⟨rfl,l.length-1,by omega,o,⟨by omega,d4⟩,rfl⟩
  .have hc:¬(v.n.dr.aQ=2/\x.peer∈v.n.dr.need):=fun h=>c2 h.1
   by_cases c4:x.peer>v.n.dr.ai.id
   .have ⟨Q,d1,d2⟩:=go hc c4
    have W:∀y,((G++[Ob.live 0 8 [[I x.peer,I x.aP,I x.state,B x.fork,B x.cJ,B x.token,B x.dd,B x.ask]]]).set C y)[G.length]?=some (Ob.live 0 8 [[I x.peer,I x.aP,I x.state,B x.fork,B x.cJ,B x.token,B x.dd,B x.ask]]):=fun y=>(aay (by have:=bf j;omega)).trans ad
    have aL:=c4
    rw[c1]at q d1 W
    simp[-getElem?_pos,-aae,J,K,N,o,e,O,j,q,Z,aV z,aV j,d1,W,c4,c2]
    exact⟨k+1,by omega,by simp,by omega,d2⟩
   .have ⟨L,R,d1,d2,d3,d4⟩:=ao hc c4
    rw[c1]at q d1 d2 d3
    simp[-getElem?_pos,-aae,J,K,N,o,e,O,j,q,aV z,d1,d2,d3,c4,c2]
    exact⟨rfl,l.length-1,by omega,o,⟨by omega,d4⟩,rfl⟩
 .obtain rfl:k=n:=by omega
  simp[J,K]
  have aN:v.kR=v:=Vq fun x E=>F x (by rw[ach (by omega)];exact E)
  have p:=c.i.l
  rw[aN]at p
  rw[p]at g
  exact⟨g.at,c.f⟩
def gD.pY{H:List Ob}{z:Nat}{a:ab}{rows t:List (List ab)}(h:gD H z a rows t)(b:bA rows=true)(n:Nat):bV H (n+1) a=some (.aj rows,[z]):=by obtain⟨d,e,rfl,c⟩:=h;have:(rows++t).take rows.length=rows:=ai2 rfl;simp[c,this,b]
def kQ.pY{H:List Ob}{z:Nat}{a:ab}{rows:List (List ab)}(h:kQ H z a rows)(b:bA rows=true)(n:Nat):∃c d,bV H (n+1) a=some (c,d)/\bD c=true:=by
 rcases h with⟨e,rfl⟩|h
 .exact ⟨ap,[],rfl,rfl⟩
 .exact ⟨_,_,h.pY b n,by simpa using b⟩
def kF.pY{H:List Ob}{a:ab}{l:List bY}(h:kF H a l)(n:Nat):∃b,bV H (n+1) a=some (.aj (l.map aN),b):=by
 rcases h with rfl|h
 .exact ⟨[],by simp[bV,bW]⟩
 .exact ⟨_,h.pY (bW l) n⟩
def RL(l:List Ev):bA (l.map fW)=true:=je _ (fun x=>by unfold fW;split<;>simp[bi]) l
def cF.Gu{H:List Ob}{b:Nat}{w:Wk}{sl d f g i se:ab}(h:cF H b w sl d f g i se)(n:Nat):∃a c le m,cw [a,c,le]=true/\bV H (n+2) (.ptr b 0 0 0)=some (.aK [[I w.n.dr.ai.id,I w.n.dr.ai.phase,.aj (w.n.dr.ai.af.map ax),I w.n.dr.aQ,aG w.n.dr.need,I w.n.book.last,.aj (w.n.book.aA.map aN),.aj (w.n.known.map aW),aG w.n.told,a,c,le,I w.e]] 0 0,m):=by
 have⟨o,⟨t,k⟩,p,q,r,j,s,d1,d2⟩:=h;have u:=k.pY (bL _) n;have v:=q.pY (bS _) n;have⟨y,z⟩:=p.pY n;have⟨a,A,B,f4⟩:=r.pY (bS _) n;have⟨c,C,D,f5⟩:=j.pY (Pt _) n;have⟨le,E,F,f6⟩:=s.pY (RL _) n;have vI:∀x:Int,bV H (n+1) (I x)=some (I x,[]):=fun _=>rfl;have G:∀l:List Int,bV H (n+1) (.aj (l.map aC))=some (.aj (l.map aC),[]):=fun l=>by simp[bi]
 have J:bA [bN w sl d f g i se]=false:=by obtain⟨L,M,rfl,_⟩:=k;simp[bN]
 have K:bD (.ptr b 0 0 0)=false:=rfl;refine⟨a,c,le,13::(([8]++(y++([2]++(A++(C++(E++[]))))))++[]),by simp[f4,f5,f6],?_⟩;unfold bV;rw[K];simp only[aeb,if_false];have j:obj H b 0=some (13,[bN w sl d f g i se]):=by simp[o]
 rw[j];simp only;unfold jg;rw[J];simp only[aeb,if_false,kg,eS,bN,aG,u,v,z,B,D,F,vI,G];rfl
def SX(x:aI)(d e f g h i j k:ab)(b:List Int)(l m n o:ab)(q:cw [d,e,f,g,h,i,j,k,l,m,n,o]=true)(hm:b.length<=maxLen):
  aS tz ay 0 206 [.agg (ax x),.c (.aK [[.aK [[d,e,f,g,h,i,j,k,aG b,l,m,n,o]] 0 0]] 0 0)]=some (aR (gM x&&!decide (x.peer∈b)),[]):=by
 refine be func206 rfl ?_
 have a:=E7 x
 have p:=qv b x.peer hm
 simp only[ax,aG]at a p
 cases c1:gM x with
 |false=>
  rw[c1]at a
  simp[f206,ax,a]
 |true=>
  rw[c1]at a
  simp[f206,ax,a,p,bi]
def MZ(x:Int):∀l:List Int,(kA x l).length=l.length+1
 |[]=>rfl
 |y::r=>by
  unfold kA
  split
  .rfl
  .simp[MZ x r]
def Rz:∀l:List Int,(gA l).length=l.length
 |[]=>rfl
 |x::r=>by simp[gA,MZ,Rz r]
def RF(l:List Int):(cD l).length<=l.length:=by have:=yI (gA l);rw[Rz]at this;exact this
def gK(r:ci×Int):au×List Ob:=if r.2=0 then(.aM [.agg [I r.1.last,.sl 0 0 0 r.1.aA.length],aa 0],[ah 4 (r.1.aA.map aN)])else(.aM [.agg [I 0,.aj []],aa r.2],[])
def ags(b:ci)(id:Int)(need:List Int)(h:iN b)(hn:need.length<=100000):aS tz ay 0 111 [.agg (bQ b),aa id,.c (aG need)]=some (gK (io b id need)):=by
 obtain⟨⟨v,o⟩,d⟩:∃r,gK (io b id need)=r:=⟨_,rfl⟩;rw[d];refine be func111 rfl ?_;have e:=wi b h.hm h.hn;have g:=LN (a:=bh (need.map aC)) (l:=need) (rP need) (by omega);have i:=N2 (cD need) (by have:=RF need;unfold maxLen;omega);have j:=xJ b h;simp only[bQ,aG]at e g i j;cases f:cM b with
 |false=>simp[f]at e;rw[show io b id need=(.zero,170)by simp[io,f]]at d;simp[gK]at d;obtain⟨rfl,rfl⟩:=d;simp[f111,bQ,e,g]
 |true=>
  simp[f]at e;by_cases c1:id<=b.last
  .rw[show io b id need=(.zero,171)by simp[io,f,c1]]at d;simp[gK]at d;obtain⟨rfl,rfl⟩:=d;simp[f111,bQ,e,g,c1]
  cases c2:nC (cD need)with
  |true=>rw[show io b id need=(.zero,172)by simp[io,f,c1,c2]]at d;simp[gK]at d;obtain⟨rfl,rfl⟩:=d;simp[f111,bQ,e,g,i,c1,c2]
  |false=>
   by_cases c3:b.aA.length=8
   .have k:(b.aA.length:Int)=8:=by omega
    rw[show io b id need=(.zero,173)by simp[io,f,c1,c2,c3]]at d;simp[gK]at d;obtain⟨rfl,rfl⟩:=d;simp[f111,bQ,e,g,i,c1,c2,c3,underlying65]
   .have k:¬(b.aA.length:Int)=8:=by omega
    have n:b.aA.length+1<=maxLen:=by have:=h.1;unfold maxLen;omega
    have p:(b.aA.length+1)*48<=140737488355328:=by have:=h.1;omega
    rw[show io b id need=(⟨id,b.aA++[⟨id,cD need,0,0⟩]⟩,0)by simp[io,f,c1,c2,c3]]at d;simp[gK]at d;obtain⟨rfl,rfl⟩:=d;have m:=bW (b.aA++[⟨id,cD need,0,0⟩]);simp[aN]at m;simp[f111,bQ,e,g,i,j,c1,c2,k,n,p,underlying65,aN,m]
def lF(r:ci×Int×Int):au×List Ob:=if r.2.2=0 then(.aM [.agg [I r.1.last,.sl 0 0 0 r.1.aA.length],aa r.2.1,aa 0],[ah 4 (r.1.aA.map aN)])else(.aM [.agg [I 0,.aj []],aa 0,aa r.2.2],[])
def VR(b:ci)(g:iN b):aS tz ay 0 209 [.agg (bQ b)]=some (lF (kB b)):=by
 obtain⟨⟨v,o⟩,a⟩:∃r,lF (kB b)=r:=⟨_,rfl⟩;rw[a];refine be func209 rfl ?_;have c:=wi b g.hm g.hn;have f:=xJ b g;have⟨d,h⟩:=b;simp only[bQ]at c f;cases e:cM ⟨d,h⟩with
 |false=>simp[e]at c;rw[show kB ⟨d,h⟩=(.zero,0,170)by simp[kB,e]]at a;simp[lF]at a;obtain⟨rfl,rfl⟩:=a;simp[f209,bQ,c]
 |true=>
  simp[e]at c;cases h with
  |nil=>simp at c;rw[show kB ⟨d,[]⟩=(.zero,0,175)by simp[kB,e]]at a;simp[lF]at a;obtain⟨rfl,rfl⟩:=a;simp[f209,bQ,c,underlying65]
  |cons s r=>
   simp at c f;by_cases c1:s.state=1
   .simp[aN,c1]at c;rw[show kB ⟨d,s::r⟩=(.zero,0,175)by simp[kB,e,c1]]at a;simp[lF]at a;obtain⟨rfl,rfl⟩:=a;simp[f209,bQ,c,c1,underlying65,aN]
   .simp[aN]at c f;rw[show kB ⟨d,s::r⟩=(⟨d,{s with state:=1}::r⟩,s.id,0)by simp[kB,e,c1]]at a;simp[lF]at a;obtain⟨rfl,rfl⟩:=a;simp[f209,bQ,c,f,c1,underlying65,aN]
def aa9:tz.dH 195=sV 4 [I 0,ap,I 0,I 0]:=by kernel_rfl
def Dw{h ver:Nat}{H:List Ob}{l:List bY}{k:Nat}(a:H[h]?=some (.live ver 4 (l.map aN)))(g:k<l.length)(b:l.length<=1000000):
  bB tz (ev tz) 195 [bd h ver 0 l.length,aa k,aa ((k:Int)+1)] H=some (bd h ver 0 (l.length-1),H.set h (.live ver 4 ((l.take k++l.drop (k+1)).map aN++[[I 0,ap,I 0,I 0]]))):=by
 rw[iw NE,aa9]
 have c:((k:Int)+1-k).toNat=1:=by omega
 have d:((k:Int)+1).toNat=k+1:=by omega
 have e:(k:Int)< (k:Int)+1:=by omega
 have f:((k:Int)+1<=l.length):=by omega
 simp[sV,a,c,d,e,f,kK b,akH,List.map_drop]
def Il{id:Int}{s:bY}:∀ {l:List bY} (a:Nat),l.find? (fun s=>decide (s.id=id))=some s->∃k:Nat,dw (fun s:bY=>decide (s.id=id)) a l=((a+k:Nat):Int)/\(∃f:k<l.length,l[k]=s)/\ey id l=l.take k++l.drop (k+1)
 |[],a,h=>by simp at h
 |x::r,a,h=>by
  rw[akc]at h
  by_cases b:x.id=id
  .simp[b]at h
   subst h
   exact⟨0,by simp[dw,b],⟨by simp,rfl⟩,by simp[ey,b]⟩
  .simp[b]at h
   have⟨k,c,⟨g,d⟩,e⟩:=Il (a+1) h
   refine⟨k+1,?_,⟨by simp;omega,by simpa using d⟩,by simp[ey,b,e]⟩
   simp only[dw,b,decide_false,aeb,if_false]
   rw[show a+(k+1)=a+1+k by omega]
   exact c
def abV{id:Int}{s:bY}{l:List bY}(h:l.find? (fun s=>decide (s.id=id))=some s):(ey id l).length=l.length-1/\0<l.length:=by have⟨k,_,⟨b,_⟩,a⟩:=Il 0 h;rw[a];simp;omega
def P6(b:ci)(id c:Int)(g:iN b):aS tz ay 0 193 [.agg (bQ b),aa id,aa c]=some (gK (de b id c)):=by
 obtain⟨⟨v,o⟩,a⟩:∃r,gK (de b id c)=r:=⟨_,rfl⟩;rw[a];refine be func193 rfl ?_;have d:=WU b id g;have i:=Q7 b id g.hm;have m:=xJ b g;simp only[bQ]at d i m;cases e:cM b with
 |false=>simp[e]at d;rw[show de b id c=(.zero,170)by simp[de,e]]at a;simp[gK]at a;obtain⟨rfl,rfl⟩:=a;simp[f193,bQ,d]
 |true=>
  cases f:b.aA.find? (fun s=>decide (s.id=id))with
  |none=>simp[e,f]at d;rw[show de b id c=(.zero,174)by simp[de,e,f]]at a;simp[gK]at a;obtain⟨rfl,rfl⟩:=a;simp[f193,bQ,d]
  |some s=>
   simp[e,f]at d;by_cases c1:s.state=c
   .rw[show de b id c=(⟨b.last,ey id b.aA⟩,0)by simp[de,e,f,c1]]at a;simp[gK]at a;obtain⟨rfl,rfl⟩:=a;have⟨k,n,⟨q,x⟩,t⟩:=Il 0 f;have⟨p,y⟩:=abV f;rw[aiQ]at n;rw[n]at i;have u:ads.wrap ((k:Int)+1)=(k:Int)+1:=by have:=cr (k:=k) (by have:=g.1;omega);simpa using this
    have j:=Dw (h:=2) (ver:=0) (H:=[ah 2 [[I b.last,.sl 2 0 0 b.aA.length]],ah 2 [[I 0,ap]],ah 4 (b.aA.map aN)]) (l:=b.aA) rfl q (by have:=g.1;omega);rw[<-t]at j;simp at j;have z:=bW (ey id b.aA);have w:((ey id b.aA).map aN++[[I 0,ap,I 0,I 0]]).take (b.aA.length-1)=(ey id b.aA).map aN:=by rw[ai2 (by simp[p])]
    simp[f193,bQ,d,i,m,c1,u,j,w,p]
   .rw[show de b id c=(.zero,175)by simp[de,e,f,c1]]at a;simp[gK]at a;obtain⟨rfl,rfl⟩:=a;simp[f193,bQ,d,c1]
def aaS(b:ci)(id:Int)(d:iN b):aS tz ay 0 116 [.agg (bQ b),aa id]=some (gK (de b id 1)):=by
 have c:=P6 b id 1 d;obtain⟨⟨v,o⟩,a⟩:∃r,gK (de b id 1)=r:=⟨_,rfl⟩;rw[a]at c|-;refine be func116 rfl ?_;simp only[bQ]at c;by_cases h:(de b id 1).2=0
 .simp[gK,h]at a;obtain⟨rfl,rfl⟩:=a;have e:=bW (de b id 1).1.aA;simp[f116,bQ,c,e]
 .simp[gK,h]at a;obtain⟨rfl,rfl⟩:=a;simp[f116,bQ,c]
def acr(b:ci)(id:Int)(d:iN b):aS tz ay 0 120 [.agg (bQ b),aa id]=some (gK (de b id 0)):=by
 have c:=P6 b id 0 d;obtain⟨⟨v,o⟩,a⟩:∃r,gK (de b id 0)=r:=⟨_,rfl⟩;rw[a]at c|-;refine be func120 rfl ?_;simp only[bQ]at c;by_cases h:(de b id 0).2=0
 .simp[gK,h]at a;obtain⟨rfl,rfl⟩:=a;have e:=bW (de b id 0).1.aA;simp[f120,bQ,c,e]
 .simp[gK,h]at a;obtain⟨rfl,rfl⟩:=a;simp[f120,bQ,c]
def agB(b:ci)(e:Int)(i:iN b):aS tz ay 0 121 [.agg (bQ b),aa e]=some (lF (dQ b e)):=by
 obtain⟨⟨v,o⟩,a⟩:∃r,lF (dQ b e)=r:=⟨_,rfl⟩;rw[a];refine be func121 rfl ?_;have c:=wi b i.hm i.hn;have f:=xJ b i;have⟨d,j⟩:=b;simp only[bQ]at c f;cases g:cM ⟨d,j⟩with
 |false=>simp[g]at c;rw[show dQ ⟨d,j⟩ e=(.zero,0,170)by simp[dQ,g]]at a;simp[lF]at a;obtain⟨rfl,rfl⟩:=a;simp[f121,bQ,c]
 |true=>
  simp[g]at c;cases j with
  |nil=>simp at c f;rw[show dQ ⟨d,[]⟩ e=(⟨d,[]⟩,0,0)by simp[dQ,g]]at a;simp[lF]at a;obtain⟨rfl,rfl⟩:=a;simp[f121,bQ,c,f,underlying65]
  |cons s r=>
   have t:0<=s.cH:=by simp[cM,dR,dx]at g;omega
   simp at c f;by_cases c1:s.state=1
   .simp[aN,c1]at c f;have m:ads.wrap (min s.cH 4611686018427387903+1)=min s.cH 4611686018427387903+1:=wrap_i64 (by omega) (by omega);by_cases c2:max s.cH (min s.cH (4611686018427387904-1)+1)<e
    .rw[show dQ ⟨d,s::r⟩ e=(⟨d,{s with cH:=max s.cH (min s.cH (4611686018427387904-1)+1)}::r⟩,0,0)by simp only[dQ,g,c1,c2,if_true];simp]at a;simp[lF]at a;obtain⟨rfl,rfl⟩:=a;simp at c2;simp[f121,bQ,c,f,c1,m,c2,underlying65,aN]
    .rw[show dQ ⟨d,s::r⟩ e=(⟨d,r⟩,s.id,0)by simp only[dQ,g,c1,c2,if_true,if_false];simp]at a;simp[lF]at a;obtain⟨rfl,rfl⟩:=a;simp at c2;have n:=Dw (h:=2) (ver:=0) (H:=[ah 2 [[I d,.sl 2 0 0 (r.length+1)]],ah 2 [[I 0,ap]],ah 4 (({s with cH:=max s.cH (min s.cH 4611686018427387903+1)}::r).map aN)]) (l:={s with cH:=max s.cH (min s.cH 4611686018427387903+1)}::r) (k:=0) rfl (by simp) (by have:=i.1;simp at this|-;omega);simp[aN,c1]at n;have p:¬max s.cH (min s.cH 4611686018427387903+1)<e:=by omega
     have q:(r.map aN++[[I 0,ap,I 0,I 0]]).take r.length=r.map aN:=by rw[ai2 (by simp)]
     simp[f121,bQ,c,f,c1,m,p,underlying65,aN,n,q]
   .simp[aN]at c f;rw[show dQ ⟨d,s::r⟩ e=(⟨d,s::r⟩,0,0)by simp[dQ,g,c1]]at a;simp[lF]at a;obtain⟨rfl,rfl⟩:=a;simp[f121,bQ,c,f,c1,underlying65,aN]
section
structure On(H:List Ob)(b c:Nat)(v:Wk)(G:List Ob):Prop where
 w:bZ G b v
 f:bq b H G
 c:Cell b G c (ah 1 [[.ptr b 0 0 0]])
def On.step{H G a:List Ob}{b c:Nat}{v d:Wk}(h:On H b c v G)(g:bZ a b d)(e:bq b G a):On H b c d a:=⟨g,h.f.trans e,h.c.step e⟩
def tx:List bY->List ab
 |[]=>[I 0,.aj [],I 0,I 0]
 |s::_=>aN s
structure qu(H:List Ob)(b c m:Nat)(v:Wk)(l:List bY)(G:List Ob):Prop where
 o:On H b c v G
 m:Cell b G m (ah 4 [tx l])
def qu.step{H G a:List Ob}{b c m:Nat}{v d:Wk}{l:List bY}(h:qu H b c m v l G)(f:bZ a b d)(e:bq b G a):qu H b c m d l a:=⟨h.o.step f e,h.m.step e⟩
def bZ.cell{H x:List Ob}{b:Nat}{w:Wk}(h:bZ H b w){i:Nat}{o:Ob}(a:x[i]?=some o):Cell b (H++x) (H.length+i) o:=by have⟨sl,c,d,e,f,se,h⟩:=h;exact h.cell a
def Cell.snoc{b m:Nat}{G x:List Ob}{o:Ob}(h:Cell b G m o)(a:b<G.length):Cell b (G++x) m o:=h.step (bq.snoc a)
def bZ.lt{H:List Ob}{b:Nat}{w:Wk}(h:bZ H b w):b<H.length:=by have⟨sl,a,c,d,e,se,h⟩:=h;exact bf h.hb
section
variable{H:List Ob}{b c:Nat}{v:Wk}{G:List Ob}
def bZ.row(h:bZ G b v):∃sl a c d f se,cF G b v sl a c d f se/\G[b]?=some (ah 13 [[I v.n.dr.ai.id,I v.n.dr.ai.phase,sl,I v.n.dr.aQ,.aj (v.n.dr.need.map aC),I v.n.book.last,a,c,.aj (v.n.told.map aC),d,f,se,I v.e]]):=by have⟨sl,a,c,d,f,se,h⟩:=h;exact⟨sl,a,c,d,f,se,h,h.hb⟩
end
structure NX(w:Wk):Prop where
 a1:w.n.phase≠2->∀k,k<w.n.asked.length->OK w k
 a2:∀k∈w.n.asked,-1000000<=k.peer/\k.peer<=1000000
 a3:w.n.asked.length<=100000
 bk:iN w.n.book
 b0:cM w.n.book=true
 s1:(dI (dq (dB w))).n.dr.ai.af.length<=100
 d0:dE (dI (dq (dB w))).n.dr=true
 n1:(dI (dq (dB w))).n.dr.need.length<=1000
 t1:(dq (dB w)).n.told.length<=90000
 s0:(dq (dB w)).n.dr.ai.af.length<=100
 o1:(fI (dI (dq (dB w)))).out.length<=90000
 e1:(fI (dI (dq (dB w)))).seen.length<=90000
 bm:∀k,k< (fe (fI (dI (dq (dB w))))).n.dr.ai.af.length->(((fe (fI (dI (dq (dB w))))).n.dr.ai.af.take k).foldl Wk.eZ (fe (fI (dI (dq (dB w)))))).out.length<=90000/\(((fe (fI (dI (dq (dB w))))).n.dr.ai.af.take k).foldl Wk.eZ (fe (fI (dI (dq (dB w)))))).n.told.length<=90000
 bj:(fe (fI (dI (dq (dB w))))).n.dr.ai.af.length<=1000
 l1:pf (iX (fe (fI (dI (dq (dB w)))))).n.dr.ai.af
 l2:(iX (fe (fI (dI (dq (dB w)))))).n.dr.ai.af.length<=1000
 l3:(iX (fe (fI (dI (dq (dB w)))))).n.dr.need.length<=100000
 l4:w.iv.out.length<=90000
def agZ(w:Wk):(dB w).n.book=w.n.book:=by
 unfold dB;split
 .have:∀(l:List cu) (w:Wk),(l.foldl Wk.iz w).n.book=w.n.book:=fun l=>by
   induction l with
   |nil=>intro _;rfl
   |cons k r a=>intro w;rw[aiW,a];rfl
  exact this _ _
 .rfl
def afT(w:Wk):(dq w).n.book=w.n.book:=by
 unfold dq;split
 .split<;>rfl
 .rfl
def VC(w:Wk):(dI w).n.book=w.n.book:=by unfold dI;split<;>rfl
def Xf(w:Wk):(fI w).n.book=w.n.book:=rfl
def afZ{G:List Ob}{b c f:Nat}{a:ab}{d:List Nat}(e:G[c]?=some (ah 1 [[.ptr b 0 0 0]]))(g:bV G 4 (.ptr b 0 0 0)=some (a,d)):∃h,bV G 6 (.bG f [.ptr c 0 0 0])=some (.bG f [.aK [[a]] 0 0],h):=by
 have i:obj G c 0=some (1,[[.ptr b 0 0 0]]):=by simp[e]
 have hp:bD (.ptr c 0 0 0)=false:=rfl;have j:bV G 5 (.ptr c 0 0 0)=some (.aK [[a]] 0 0,1::((d++[])++[])):=by unfold bV;rw[hp];simp only[aeb,if_false];rw[i];simp only;have k:bA [[ab.ptr b 0 0 0]]=false:=rfl;unfold jg;rw[k];simp only[aeb,if_false,kg,eS,g]
 have hc:bD (.bG f [.ptr c 0 0 0])=false:=rfl;refine⟨(1::((d++[])++[]))++[],?_⟩;unfold bV;rw[hc];simp only[aeb,if_false,eS,j]
def ac2{G:List Ob}{b c:Nat}{v:Wk}{sl j k l m se:ab}(g:cF G b v sl j k l m se)(o:G[c]?=some (ah 1 [[.ptr b 0 0 0]]))(A:v.n.dr.ai.af.length<=1000000)(B:v.n.told.length<=100000):
  aO tz ay 171 [.c sl,.c (.bG 206 [.ptr c 0 0 0])] G=some (aR (v.n.dr.ai.af.any (untold v.n)),G):=by
 have⟨a,d,le,C,p,q⟩:=g.Gu 2
 have⟨t,i⟩:=g.hs
 have r:=i.view (bL _)
 have⟨s,u⟩:=afZ (f:=206) o q
 have h:bD a=true/\bD d=true/\bD le=true:=by simpa using p
 have w:=xC (g:=206) (caps:=[.aK [[.aK [[I v.n.dr.ai.id,I v.n.dr.ai.phase,.aj (v.n.dr.ai.af.map ax),I v.n.dr.aQ,aG v.n.dr.need,I v.n.book.last,.aj (v.n.book.aA.map aN),.aj (v.n.known.map aW),aG v.n.told,a,d,le,I v.e]] 0 0]] 0 0]) v.n.dr.ai.af (by unfold maxLen;omega) (untold v.n) (by simp) (by simp[bL,bW,bS,bi,h]) (bL _) (fun x _=>by
  have:=SX x (I v.n.dr.ai.id) (I v.n.dr.ai.phase) (.aj (v.n.dr.ai.af.map ax)) (I v.n.dr.aQ) (aG v.n.dr.need) (I v.n.book.last) (.aj (v.n.book.aA.map aN)) (.aj (v.n.known.map aW)) v.n.told a d le (I v.e) (by simp[bL,bW,bS,bi,h]) (by unfold maxLen;omega)
  simp only[aG]at this
  simp[this,aG,bL,bW,bS,bi,h,ax]at this|-
  simp[untold])
 have y:([au.c sl,au.c (.bG 206 [.ptr c 0 0 0])].any (eQ tz))=false:=by
  obtain⟨D,E,rfl,_⟩:=i
  simp[eQ]
 have z:dy G [.c sl,.c (.bG 206 [.ptr c 0 0 0])]=some ([bh (v.n.dr.ai.af.map ax),.c (.bG 206 [.aK [[.aK [[I v.n.dr.ai.id,I v.n.dr.ai.phase,.aj (v.n.dr.ai.af.map ax),I v.n.dr.aQ,aG v.n.dr.need,I v.n.book.last,.aj (v.n.book.aA.map aN),.aj (v.n.known.map aW),aG v.n.told,a,d,le,I v.e]] 0 0]] 0 0])],[8]++(s++[])):=by
  simp only[dy,df,r,u]
 rw[aD,y,z]
 simp only[show tz.md 171=0 from rfl,aeb,or_false]
 rw[if_neg (by decide),lJ,(show tz.md 171=0 from rfl),w,jQ]
 simp
def cF.out{H G:List Ob}{b:Nat}{w:Wk}{sl k l p g se ol':ab}(h:cF H b w sl k l p g se)(q:List cB)(s:G[b]?=some (ah 13 [bN ⟨w.n,q,w.seen,w.e⟩ sl k l p ol' se]))(K:H.length<=G.length)
  (i:∀(m:Nat) (o:Ob),H[m]?=some o->m≠b->m∉rf g->G[m]?=some o) (A:kQ G 5 ol' (q.map dX)) (u:∀m∈rf ol',m∈rf g\/H.length<=m):
  cF G b ⟨w.n,q,w.seen,w.e⟩ sl k l p ol' se/\bq b H G:=by
 obtain⟨j,⟨t,B⟩,C,D,E,F,x,d1,d2⟩:=h
 have I:∀m,m∈rf g->∃v r,H[m]?=some (.live v 5 r):=by
  rcases F with⟨_,rfl⟩|⟨M,N,rfl,d⟩
  .intro m hm;simp[rf]at hm
  .intro m hm;simp[rf]at hm;subst hm;exact⟨_,_,d⟩
 have f:∀(m v z:Nat) (r:List (List ab)),z≠13->z≠5->H[m]?=some (.live v z r)->G[m]?=some (.live v z r):=fun m v z r c d a=>i m _ a (fun e=>by subst e;rw[j]at a;cases a;exact c rfl) (fun hm=>by
  obtain⟨O,P,y⟩:=I m hm
  rw[y]at a;cases a;exact d rfl)
 refine⟨⟨s,⟨t,B.aJ fun _ _ _ _ h=>f _ _ _ _ (by decide) (by decide) h⟩,C.aJ fun _ _ _ _ h=>f _ _ _ _ (by decide) (by decide) h,D.aJ fun _ _ _ _ h=>f _ _ _ _ (by decide) (by decide) h,E.aJ fun _ _ _ _ h=>f _ _ _ _ (by decide) (by decide) h,A,x.aJ fun m _ _ hm h=>i m _ h (fun e=>by subst e;rw[j]at h;cases h) (fun L=>d2 m L hm),d1,fun m hm J=>?_⟩,bq.bJ j s K (fun m hm=>?_) (fun m o c d a=>i m o c d (fun y=>a ?_))⟩
 .rcases u m hm with c|c
  .exact d2 m c J
  .have:=x.lt m J
   omega
 .have Q:=u m
  clear I f B C D E F x d1 d2 j s i A u
  simp only[eu,bN,ait,ajk,ahl,qi,rm,aG]at hm|-
  simp at hm|-
  grind
 .simp only[eu,bN,ait,ajk,ahl,qi,rm,aG]
  simp[y]
def qZ{H:List Ob}{b:ab}{l:List bY}{a:Int}{f:FuncId}{r:au}{own:List Ob}{ex:List au}(h:kF H b l)(c:tz.md f=0)(hex:dy H ex=some (ex,[]))(g:ex.any (eQ tz)=false)
  (hp:aS tz ay 0 f (.agg [I a,.aj (l.map aN)]::ex)=some (r,own)) (i:eo false [4] r own=true):aO tz ay f (.agg [I a,b]::ex) H=some (eR H.length r,H++own.map (dY H.length)):=by
 have vI:bV H 6 (I a)=some (I a,[]):=rfl
 have e:((au.agg [I a,b]::ex).any (eQ tz))=false:=by simpa[eQ]using g
 rcases h.view with v|v
 .have d:dy H (.agg [I a,b]::ex)=some (.agg [I a,.aj (l.map aN)]::ex,[]):=by simp only[dy,df,eS,vI,v,hex];rfl
  rw[aD,e,d]
  simp only[c,aeb,or_false]
  rw[if_neg (by decide),lJ,c,hp,jQ]
  exact if_pos rfl
 .have d:dy H (.agg [I a,b]::ex)=some (.agg [I a,.aj (l.map aN)]::ex,[4]):=by simp only[dy,df,eS,vI,v,hex];rfl
  rw[aD,e,d]
  simp only[c,aeb,or_false]
  rw[if_neg (by decide),lJ,c,hp,jQ]
  exact if_pos i
def GD(x:bY):cW [4] (aN x)=true:=by have h:=u5 aC [4] (fun x=>by simp[aC]) x.need;simp[aN,aG,h]
def Q8(a i e:Int)(n:Nat)(l:List bY):eo false [4] (.aM [.agg [I a,.sl 0 0 0 n],aa i,aa e]) [ah 4 (l.map aN)]=true:=by
 have:((l.map aN).all fun r=>cW [4] r)=true:=by rw[aj4,af8];intro x _;exact GD x
 simp[eo,km,kW,-cW]at this|-;exact⟨by simp[cW],this⟩
def La(a e:Int)(n:Nat)(l:List bY):eo false [4] (.aM [.agg [I a,.sl 0 0 0 n],aa e]) [ah 4 (l.map aN)]=true:=by
 have:((l.map aN).all fun r=>cW [4] r)=true:=by rw[aj4,af8];intro x _;exact GD x
 simp[eo,km,kW,-cW]at this|-;exact⟨by simp[cW],this⟩
def uv(n:Nat)(l:List bY):dY n (ah 4 (l.map aN))=ah 4 (l.map aN):=qy (bW l)
end
def z6{id:Int}:∀ {l:List aI} {b:Int},dU id b l=true->(l.Pairwise fun x y=>x.peer<y.peer)/\∀x∈l,b<x.peer
 |[],_,_=>⟨akl,by simp⟩
 |x::r,b,h=>by
  simp only[dU,aa2]at h
  have⟨d,c⟩:=z6 h.2
  have e:b<x.peer:=by
   have:=h.1
   simp only[cR,aa2,decide_eq_true_eq]at this
   omega
  refine⟨af7.2 ⟨fun y a=>c y a,d⟩,fun y a=>?_⟩
  rcases ae3.1 a with rfl|a
  .exact e
  .have:=c y a;omega
def MC{id:Int}{l:List aI}(hid:id<64)(h:dU id (-1) l=true)(hp:∀x∈l,x.peer<64):pf l:=by have⟨b,c⟩:=z6 h;have d:=xy hid h hp (by omega) (by omega);refine⟨b,fun x a=>⟨by have:=c x a;omega,by have:=hp x a;omega⟩,?_⟩;split at d<;>omega
structure gQ(l:List cu):Prop where
 s:l.Pairwise fun x y=>x.peer<y.peer
 b:∀x∈l,-1000000<=x.peer/\x.peer<=1000000
def B8{p e:Int}{y:cu}:∀ {l:List cu},y∈fV p e l->y.peer=p\/y∈l
 |[],h=>by simp[fV]at h;exact .inl (by rw[h])
 |k::r,h=>by
  unfold fV at h
  split at h
  .rcases ae3.1 h with rfl|h
   .exact .inl rfl
   .exact .inr (by simp[h])
  .split at h
   .rcases ae3.1 h with rfl|h
    .exact .inl rfl
    .exact .inr h
   .rcases ae3.1 h with rfl|h
    .exact .inr (by simp)
    .rcases B8 h with h|h
     .exact .inl h
     .exact .inr (by simp[h])
def Px{p e:Int}:∀ {l:List cu},(l.Pairwise fun x y=>x.peer<y.peer)->(fV p e l).Pairwise fun x y=>x.peer<y.peer
 |[],_=>by simp[fV]
 |k::r,h=>by
  have hp:=af7.1 h
  unfold fV
  split
  .rename_i d
   refine af7.2 ⟨fun y a=>?_,hp.2⟩
   have:=hp.1 y a
   show p<y.peer
   omega
  .rename_i d
   split
   .rename_i c
    refine af7.2 ⟨fun y a=>?_,h⟩
    show p<y.peer
    rcases ae3.1 a with rfl|a
    .exact c
    .have:=hp.1 y a;omega
   .rename_i c
    refine af7.2 ⟨fun y a=>?_,Px hp.2⟩
    rcases B8 a with b|b
    .rw[b];omega
    .exact hp.1 y b
def gQ.uC{l:List cu}(h:gQ l){p e:Int}(c: -1000000<=p)(d:p<=1000000):gQ (fV p e l):=⟨Px h.s,fun x f=>by
 rcases B8 f with a|a
 .rw[a];exact⟨c,d⟩
 .exact h.b x a⟩
def JW:∀(l:List cu) (w:Wk),gQ w.n.known->(∀k∈l,-1000000<=k.peer/\k.peer<=1000000)->gQ (l.foldl Wk.iz w).n.known
 |[],_,h,_=>h
 |k::r,w,h,hp=>by
  rw[aiW]
  have⟨a,b⟩:=hp k (by simp)
  exact JW r _ (h.uC a b) fun y c=>hp y (by simp[c])
def MO{a:Wk}(hid:a.n.id<64)(c:tO a a a.n.asked):∀k:Nat,k<=a.n.asked.length->tO a ((a.n.asked.take k).foldl Wk.iz a) (a.n.asked.drop k)
 |0,_=>by simpa using c
 |k+1,e=>by
  have b:=MO hid c k (by omega)
  have d:k<a.n.asked.length:=by omega
  rw[afv d]at b
  rw[jK d,ajc]
  exact SI b (by rw[b.id];exact hid)
def X4{w:Wk}(h:db w.n):tO w w w.n.asked:=by have a:=iq.1 h.dr;have b:=jA.1 a.1;exact⟨rfl,rfl,rfl,rfl,rfl,rfl,rfl,rfl,fun _ h=>h,b.2.2.2.2,h.pe,h.ask,h.ad,rfl,rfl,rfl,by omega⟩
structure eV(v:Wk):Prop where
 i:db v.n
 k:gQ v.n.known
 t:il v<=9000
 e:v.e=0
def ZL{w:Wk}(h:db w.n)(a:gQ w.n.known):gQ (dB w).n.known:=by
 unfold dB;split
 .exact JW _ _ a fun k a=>by have:=h.ask k a;have:=h.id;omega
 .exact a
def VL(w:Wk):(iX w).n.known=w.n.known:=by unfold iX;split<;>rfl
def Tp(w:Wk):(fe w).n.known=w.n.known:=by
 unfold fe;split
 .split<;>rfl
 .rfl
def Xo(w:Wk):(dI w).n.known=w.n.known:=by unfold dI;split<;>rfl
def TM(w:Wk):(dq w).n.known=w.n.known:=by
 unfold dq;split
 .split<;>rfl
 .rfl
def eV.iv{v:Wk}(h:eV v):eV v.iv:=by
 have⟨a,d,f,b⟩:=yY h.i;have c:v.iv.n.known=(dB v).n.known:=by show(iX (fe (fI (dI (dq (dB v)))))).n.known=_;rw[VL,Tp];show(dI (dq (dB v))).n.known=_;rw[Xo,TM]
 exact⟨a,by rw[c];exact ZL h.i h.k,by have:=h.t;omega,by rw[b];exact h.e⟩
def QN:∀ {l:List Int} {a:Int},ei l=true->(∀p∈l,a<=p/\p<64)->a<=64->(l.length:Int)+a<=64
 |[],a,_,_,h=>by simp;omega
 |x::r,a,b,d,_=>by
  have j:=d x (by simp)
  simp only[ei,aa2]at b
  have e:=QN (a:=x+1) b.2 (fun p hp=>?_) (by omega)
  .simp only[ahP];omega
  .have g:=d p (by simp[hp])
   refine⟨?_,g.2⟩
   have i:∀(l:List Int) (x:Int),((match l with|[]=>true|y::_=>decide (x<y))=true)->ei l=true->∀p∈l,x<p:=by
    intro l
    induction l with
    |nil=>intro x _ _ p hp;simp at hp
    |cons y t e=>
     intro x f c p hp
     simp only[decide_eq_true_eq]at f
     simp only[ei,aa2]at c
     rcases ae3.1 hp with rfl|hp
     .exact f
     .have:=e y c.1 c.2 p hp;omega
   have:=i r x b.1 b.2 p hp
   omega
def db.need{n:Nd}(h:db n):n.dr.need.length<=64:=by
 have b:=iq.1 h.dr;have d:=jA.1 b.1;have:=QN (a:=0) b.2.2.2.1 (fun p hp=>by obtain⟨x,c,rfl⟩:=lN.1 (b.2.2.2.2.2 p hp);have e:=(z6 d.2.2.2.2).2 x c;exact⟨by omega,h.pe x c⟩) (by decide)
 omega
def db.af{n:Nd}(h:db n):n.dr.ai.af.length<64/\pf n.dr.ai.af:=by have b:=iq.1 h.dr;have a:=jA.1 b.1;exact⟨a.2.2.2.1,MC h.id a.2.2.2.2 h.pe⟩
def ze{b:ci}(h:cM b=true):iN b:=by refine⟨?_,fun s a=>by have:=(Mz h s a).2;omega⟩;simp only[cM,aa2,afj,decide_eq_false_iff_not]at h;omega
def Mm(a:List Int):∀(l:List aI) (k:Nat),bT (dD a) (l.take k)<=bT (dD a) l
 |[],_=>by simp[bT]
 |x::r,0=>by simp[bT]
 |x::r,k+1=>by
  have:=Mm a r k
  simp only[alz,bT]
  omega
def abd{w:Wk}(k:Nat):((w.n.dr.ai.af.take k).foldl Wk.eZ w).out.length<=il w/\((w.n.dr.ai.af.take k).foldl Wk.eZ w).n.told.length<=il w:=by
 rw[IL];have⟨m,a,b,c,d,e⟩:=zB w.n.id (w.n.dr.ai.af.take k) w.n.told w.out;have f:=Mm w.n.told w.n.dr.ai.af k;have g:4*bT (dD w.n.told) w.n.dr.ai.af<=dP w.n:=by show 4*bT (dD w.n.told) w.n.af<=_;simp only[dP];omega
 simp only[il];constructor
 .show (jo w.n.id (w.n.dr.ai.af.take k) w.n.told w.out).2.length<=_;omega
 .show (jo w.n.id (w.n.dr.ai.af.take k) w.n.told w.out).1.length<=_;omega
def eV.hyp{v:Wk}(h:eV v):NX v:=by
 have⟨l,m,A,B⟩:=Kx h.i;have⟨e,o,p,q⟩:=Kk l;have⟨c1,c2,c3,c4⟩:=EX e;have⟨d1,d2,d3⟩:=FH c1 (by rw[c3,c4,p];exact q);have⟨f,r⟩:=MH d1;have⟨a,u⟩:=PI f;have⟨C,x⟩:=Na a;have D:=h.t;have E:=m.2.1;have F:=o.2.1;have G:=c2.2.1;have H:=d2.2.1;have I:=r.2.1;have J:=u.2.1;have K:=x.2.1;have L:10*v.n.asked.length<=dP v.n:=by simp only[dP];omega
 have c:∀w:Wk,w.out.length<=il w/\w.seen.length<=il w/\w.n.told.length<=il w:=fun w=>by simp only[il];omega
 have M:il v=v.out.length+v.seen.length+v.n.told.length+v.n.known.length+dP v.n:=rfl;refine⟨fun _ k g=>?_,fun k g=>by have:=h.i.ask k g;have:=h.i.id;omega,by omega,ze h.i.bk,h.i.bk,by have:=c1.af.1;omega,c1.dr,by have:=c1.need;omega,?_,by have:=e.af.1;omega,?_,?_,fun k _=>?_,by have:=f.af.1;omega,a.af.2,by have:=a.af.1;omega,by have:=a.need;omega,?_⟩
 .have d:=MO h.i.id (X4 h.i) k (by omega);have j:=JW (v.n.asked.take k) v h.k fun y z=>by have:=h.i.ask y (ajd z);have:=h.i.id;omega
  have N:=d.t;exact⟨MC (by rw[d.id];exact h.i.id) d.ok d.pe,⟨j.s,j.b,by omega⟩,by omega,by omega⟩
 .have:=(c (dq (dB v))).2.2;omega
 .have:=(c (fI (dI (dq (dB v))))).1;omega
 .have:=(c (fI (dI (dq (dB v))))).2.1;omega
 .have:=abd (w:=fe (fI (dI (dq (dB v))))) k;omega
 .have:=(c v.iv).1;show v.iv.out.length<=_;have O:il v.iv<=il v:=(yY h.i).2.2.1;omega
def JB{a b:List Int}:ld a b=true↔ ∀x∈a,x∈b:=by unfold ld gH;rw[akI,alf];simp[wh]
def Fy:∀ {l ahead:List cu},kP ahead l=true->(l.Pairwise fun x y=>x.peer≠y.peer)/\∀x∈ahead, ∀k∈l,x.peer≠k.peer
 |[],_,_=>⟨akl,by simp⟩
 |k::r,ahead,h=>by
  simp only[kP,aa2,afj,ai4,decide_eq_true_eq]at h
  have⟨d,b⟩:=Fy h.2
  refine⟨af7.2 ⟨fun y a=>b k (by simp) y a,d⟩,fun x c y a=>?_⟩
  rcases ae3.1 a with rfl|a
  .exact h.1 x c
  .exact b x (by simp[c]) y a
def yu:∀ {l:List cu} {a:Int},nq a l=true->(l.Pairwise fun x y=>x.peer<y.peer)/\∀x∈l,a<x.peer/\x.peer<64/\1<=x.aP/\x.aP<=65535
 |[],_,_=>⟨akl,by simp⟩
 |k::r,a,h=>by
  simp only[nq,aa2,decide_eq_true_eq]at h
  have⟨⟨⟨⟨d,e⟩,f⟩,g⟩,i⟩:=h
  have⟨j,c⟩:=yu i
  refine⟨af7.2 ⟨fun y m=>(c y m).1,j⟩,fun x b=>?_⟩
  rcases ae3.1 b with rfl|b
  .exact ⟨d,e,f,g⟩
  .have:=c x b
   exact⟨by omega,this.2⟩
def yF{l:List cu}{b:Int}(h:nq b l=true)(p:Int):0<=gR l p:=by
 have a:=(yu h).2;clear h;induction l with
 |nil=>simp[gR]
 |cons k r c=>
  unfold gR;split
  .have:=(a k (by simp)).2.2.1;omega
  .exact c fun x d=>a x (by simp[d])
def Rk{n:Nd}{p:Int}:p∈jY n↔qm n p:=by
 simp only[jY,aiE,ajD,oC,decide_eq_true_eq,qm];constructor
 .rintro⟨x,⟨a,b⟩,c⟩;exact⟨x,a,c,b⟩
 .rintro⟨x,a,b,c⟩;exact⟨x,⟨a,c⟩,b⟩
def Sr{bl:Int}:∀ {l:List bY} {b:Int} {f:Bool},dR bl b f l=true->∀s∈l,s.state=0\/s.state=1
 |[],_,_,_=>by simp
 |s::r,b,f,h=>by
  simp only[dR,aa2]at h
  intro t a
  rcases ae3.1 a with rfl|a
  .have:=h.1
   simp only[dx,aa2,ai3,decide_eq_true_eq]at this
   rcases this.2 with h|h
   .exact .inr h.1
   .exact .inl h.1
  .exact Sr h.2 t a
def acN{b:ci}(h:cM b=true):∀s∈b.aA,s.state=0\/s.state=1:=by simp only[cM,aa2]at h;exact Sr h.2
def IZ{n:Nd}(h:dv n=true):db n/\gQ n.known/\nq (-1) n.known=true:=by
 simp only[dv,pj,rM,aa2,afj,ai4,decide_eq_true_eq]at h;obtain⟨⟨⟨l,g⟩,⟨m,o⟩,⟨⟨⟨hid,c⟩,q⟩,C⟩,D⟩,hth⟩:=h;have i:=yu c
 have j:(∀s∈n.book.aA,s.state=0->∀p∈s.need,qm n p)/\(n.dr.aQ=1->∃s r,n.book.aA=s::r/\s.state=0/\s.need=n.dr.need):=by
  unfold tL at hth;cases d:n.book.aA with
  |nil=>rw[d]at hth;simp only[aa2,decide_eq_true_eq]at hth;exact⟨by simp,fun h=>by rw[hth.1.2]at h;cases h⟩
  |cons s r=>
   rw[d]at hth;simp only[aa2,ai3,decide_eq_true_eq,afj,ai4,beq_iff_eq]at hth;have⟨⟨⟨b,a⟩,u⟩,v⟩:=hth;refine⟨fun t w y p hp=>?_,fun h=>?_⟩
   .have:=v t w;simp only[y]at this;have z:ld t.need (jY n)=true:=by simpa using this
    exact Rk.1 (JB.1 z p hp)
   .refine ⟨s,r,rfl,?_,?_⟩
    .have A:=acN g s (by rw[d];simp);rcases A with e|e
     .exact e
     .rw[h,e]at b;simp at b
    .rcases a with a|a
     .rw[a]at h;cases h
     .exact a
 refine⟨⟨l,g,hid,fun x f=>?_,fun k B=>?_,(Fy o).1,j.1,j.2⟩,⟨i.1,fun x f=>by have:=i.2 x f;omega⟩,c⟩
 .have:=q x f;simp only[lO,ai3,not_or,decide_eq_true_eq]at this;omega
 .have b:=m k B;have a:jx n k=true:=by simpa using b
  simp only[jx,aa2,afj,decide_eq_false_iff_not,decide_eq_true_eq]at a;have u:=yF c k.peer;exact⟨by omega,a.1.1.2,a.1.1.1.1,by omega,a.2⟩
def Mk{H:List Ob}{b:Nat}{w:Wk}(aa:bZ H b w)(B:NX w):
  ∃H',bB tz (ev tz) 129 [aw b] H=some (.aM [],H')/\bZ H' b w.iv/\bq b H H':=by
 refine gv func129 rfl ?_
 simp only[f129,bX]
 refine ef (fun S=>∃c,S.env.get 1=some (aw c)/\S.bH=[]/\On H b c w S.heap) ?_ ?_
 .simp
  have J:=aa.cell (x:=[ah 1 [[.ptr b 0 0 0]]]) (i:=0) rfl
  rw[aiw]at J
  exact⟨aa.snoc,bq.snoc aa.lt,J⟩
 rintro⟨e,G,ds⟩⟨c,j,rfl,o⟩
 simp only at j o
 refine bp [(1,aw c)] (fun G=>On H b c (dB w) G) ?_ ?_
 .have ⟨sl,F,L,C,N,se,g,p⟩:=o.w.row
  have u:=o.c.at'
  by_cases c1:w.n.dr.ai.phase=2
  .have t:dB w=w:=by unfold dB;rw[if_neg (by simp[Nd.phase,c1])]
   rw[c1]at p
   rw[t]
   simp[j,u,p]
   exact o
  .have t:dB w=w.answer:=by unfold dB;rw[if_pos c1]
   have⟨G',O,w2,bj⟩:=adY o.w (B.a1 c1) B.a2 B.a3
   rw[t]
   simp[j,u,p,c1,O]
   exact o.step w2 bj
 have P:=agZ w
 have aF:=B.bk
 have⟨D,Q⟩:=ak (dB w)
 clear j o
 rintro e G⟨j,_⟩o
 rw[Q]at o P
 refine ef (fun S=>∃m,S.env.get 1=some (aw c)/\S.env.get 2=some (aw m)/\S.env.get 3=some (aR (!w.n.book.aA.isEmpty))/\S.bH=[]/\qu H b c m D w.n.book.aA S.heap) ?_ ?_
 .have ⟨sl,F,L,C,N,se,g,p⟩:=o.w.row
  have u:=o.c.at'
  have Y:=o.w.lt
  cases E:w.n.book.aA with
  |nil=>
   have cl:=qK g (f:=119) (r:= .aM [.agg [I 0,.aj [],I 0,I 0],aR false]) (own:=[]) (by simp) (fun aq M=>by rw[uM _ aq M,P,E]) (fun bs hb=>by rcases hb with rfl|rfl|rfl|rfl<;>rfl)
   simp only[aG]at cl
   have J:=o.w.cell (x:=[ah 4 [[I 0,.aj [],I 0,I 0]]]) (i:=0) rfl
   rw[aiw]at J
   simp[-aD,j,u,p,cl]
   exact⟨o.step o.w.snoc (bq.snoc Y),J⟩
  |cons s r=>
   have cl:=qK g (f:=119) (r:= .aM [.agg (aN s),aR true]) (own:=[]) (by simp) (fun aq M=>by rw[uM _ aq M,P,E]) (fun bs hb=>by rcases hb with rfl|rfl|rfl|rfl<;>simp[aN,u5])
   simp only[aG]at cl
   have J:=o.w.cell (x:=[ah 4 [aN s]]) (i:=0) rfl
   rw[aiw]at J
   simp only[aN,aG]at J cl
   simp[-aD,j,u,p,cl]
   exact⟨o.step o.w.snoc (bq.snoc Y),J⟩
 clear j o
 rintro⟨e,G,ds⟩⟨m,j,v,k,rfl,o⟩
 simp only at j v k o
 refine bp [(1,aw c),(2,aw m),(3,aR (!w.n.book.aA.isEmpty))] (fun G=>qu H b c m (dq D) w.n.book.aA G) ?_ ?_
 .have ⟨sl,F,L,C,N,se,g,p⟩:=o.o.w.row
  have u:=o.o.c.at'
  have z:=o.m.at'
  cases E:w.n.book.aA with
  |nil=>
   rw[E]at k o
   simp at k
   have t:dq D=D:=by unfold dq waits;rw[P,E]
   rw[t]
   simp[j,v,k]
   exact o
  |cons s r=>
   rw[E]at k o z
   simp only[tx,aN,aG]at z
   simp at k
   by_cases c1:s.state=0
   case neg=>
    have t:dq D=D:=by unfold dq waits;rw[P,E];simp[c1]
    rw[t]
    simp[j,v,k,z,c1]
    exact o
   by_cases c2:D.n.dr.aQ=0
   case neg=>
    have t:dq D=D:=by unfold dq waits;rw[P,E];simp[c1,c2]
    rw[t]
    rw[c1]at z
    simp[j,v,k,u,z,p,c2]
    exact o
   have t:dq D=D.put (D.n.dg ⟨D.n.dr.ai,1,s.need⟩):=by unfold dq waits;rw[P,E];simp[c1,c2]
   have q:=g.wX [] (D.put (D.n.dg ⟨D.n.dr.ai,1,s.need⟩)) sl F C (.inl ⟨rfl,rfl⟩) (.inl ⟨rfl,rfl⟩) rfl (.inl ⟨rfl,rfl⟩) rfl rfl
   have aY:=vp (a:= .aj (s.need.map aC)) (l:=s.need) rfl (by have:=aF.2 s (by rw[E];simp);omega)
   rw[c1]at z
   rw[c2]at p
   rw[t]
   simp only[bN,Wk.put,Nd.dg,aeo,aG]at q
   simp[j,v,k,u,z,p,aY,ba p,bi,o.o.c.ne]
   exact o.step q.1 q.2
 have aH:=(afT D).trans P
 have⟨wb,R⟩:=ak (dq D)
 clear j v k o
 rintro e G⟨j,v,k,_⟩o
 rw[R]at o aH
 refine bp [(1,aw c),(2,aw m),(3,aR (!w.n.book.aA.isEmpty)),(4,.c (.bG 206 [.ptr c 0 0 0]))] (fun G=>qu H b c m wb w.n.book.aA G) ?_ ?_
 .simp[j,v,k]
  exact o
 clear j v k o
 rintro e G⟨j,v,k,a4,_⟩o
 refine bp [(1,aw c),(2,aw m),(3,aR (!w.n.book.aA.isEmpty))] (fun G=>qu H b c m (dI wb) w.n.book.aA G) ?_ ?_
 .have ⟨sl,F,L,C,N,se,g,p⟩:=o.o.w.row
  have u:=o.o.c.at'
  by_cases c1:wb.n.dr.ai.phase=0
  case neg=>
   have t:dI wb=wb:=by unfold dI;rw[if_neg (by simp[Nd.phase,c1])]
   rw[t]
   simp[j,v,k,u,p,c1]
   exact o
  have aZ:=B.s0
  have a0:=B.t1
  rw[Q,R]at aZ a0
  have cl:=ac2 g u (by omega) (by omega)
  rw[c1]at p
  cases c2:wb.n.dr.ai.af.any (untold wb.n)with
  |false=>
   have t:dI wb=wb:=by
    unfold dI
    rw[if_neg]
    rintro⟨_,aa⟩
    rw[show wb.n.af=wb.n.dr.ai.af from rfl,c2]at aa
    cases aa
   rw[c2]at cl
   rw[t]
   simp[-aD,j,v,k,a4,u,p,cl]
   exact o
  |true=>
   have t:dI wb=wb.put (wb.n.dg ⟨⟨wb.n.id,1,wb.n.af⟩,wb.n.dr.aQ,wb.n.dr.need⟩):=by
    unfold dI
    rw[if_pos ⟨c1,c2⟩]
   have q:=g.wX [] (wb.put (wb.n.dg ⟨⟨wb.n.id,1,wb.n.af⟩,wb.n.dr.aQ,wb.n.dr.need⟩)) sl F C (.inl ⟨rfl,rfl⟩) (.inl ⟨rfl,rfl⟩) rfl (.inl ⟨rfl,rfl⟩) rfl rfl
   rw[c2]at cl
   rw[t]
   simp only[bN,Wk.put,Nd.dg,aeo,aG]at q
   simp[-aD,j,v,k,a4,u,p,cl]
   exact o.step q.1 q.2
 have aI:=(VC wb).trans aH
 have ap:=B.s1
 have aJ:=B.n1
 rw[Q,R]at ap aJ
 have⟨h,ab⟩:=ak (dI wb)
 clear j v k a4 o
 rintro e G⟨j,v,k,_⟩o
 rw[ab]at o aI ap aJ
 have ag:=agY h.n.dr ap (by omega)
 have T:=B.o1
 have aK:=B.e1
 rw[Q,R,ab]at T aK
 have aL:=B.d0
 rw[Q,R,ab]at aL
 rw[if_neg (by rw[aL];simp)]at ag
 have ar:fI h=⟨h.n.dg (kY h.n.dr).1,h.out++(kY h.n.dr).2.1,h.seen,h.e⟩:=rfl
 have⟨d,hd⟩:=ak ((kY h.n.dr).1)
 have⟨fo,a1⟩:=ak ((kY h.n.dr).2.1)
 rw[hd,a1]at ag ar
 have bf:h.out.length+fo.length<=90000:=by rw[ar]at T;simpa using T
 simp only[xP,cV,aG]at ag
 refine ef (fun S=>∃n0 mo,S.env.get 1=some (aw c)/\S.env.get 2=some (aw m)/\S.env.get 3=some (aR (!w.n.book.aA.isEmpty))/\S.env.get 5=some (aw n0)/\S.env.get 6=some (bd mo 0 0 fo.length)/\S.bH=[]/\S.heap=G++[ah 8 (d.ai.af.map ax),ah 5 (fo.map dX),ah 5 [[I d.ai.id,I d.ai.phase,.sl G.length 0 0 d.ai.af.length,I d.aQ,.aj (d.need.map aC)]]]/\n0=G.length+2/\mo=G.length+1) ?_ ?_
 .have ⟨sl,F,L,C,N,se,g,p⟩:=o.o.w.row
  have u:=o.o.c.at'
  obtain⟨a2,M,Z,rfl,a3⟩:=g.hs
  have a6:((h.n.dr.ai.af.map ax)++a2).take h.n.dr.ai.af.length=h.n.dr.ai.af.map ax:=ai2 (by simp)
  simp[j,v,k,u,p,a3,a6,ag,wH,pD,Rb]
 have Y:=o.o.w.lt
 have J:=o.o.w.cell (x:=[ah 8 (d.ai.af.map ax),ah 5 (fo.map dX),ah 5 [[I d.ai.id,I d.ai.phase,.sl G.length 0 0 d.ai.af.length,I d.aQ,.aj (d.need.map aC)]]]) (i:=1) rfl
 have c2:=o.o.w.cell (x:=[ah 8 (d.ai.af.map ax),ah 5 (fo.map dX),ah 5 [[I d.ai.id,I d.ai.phase,.sl G.length 0 0 d.ai.af.length,I d.aQ,.aj (d.need.map aC)]]]) (i:=2) rfl
 have⟨sl,F,L,C,N,se,g,p⟩:=o.o.w.row
 have q:=(g.snoc (x:=[ah 8 (d.ai.af.map ax),ah 5 (fo.map dX),ah 5 [[I d.ai.id,I d.ai.phase,.sl G.length 0 0 d.ai.af.length,I d.aQ,.aj (d.need.map aC)]]])).vO (bq.snoc Y) [] (h.put (h.n.dg d)) (.sl G.length 0 0 d.ai.af.length) F C (.inr ⟨by simp[rf],[],G.length,0,by simp[Wk.put,Nd.dg],by rw[aeo,pq];simp[Wk.put,Nd.dg]⟩) (.inl ⟨rfl,rfl⟩) rfl (.inl ⟨rfl,rfl⟩) rfl rfl
 have o2:=o.step o.o.w.snoc (bq.snoc (x:=[ah 8 (d.ai.af.map ax),ah 5 (fo.map dX),ah 5 [[I d.ai.id,I d.ai.phase,.sl G.length 0 0 d.ai.af.length,I d.aQ,.aj (d.need.map aC)]]]) Y)
 clear j v k
 rintro⟨e,K,ds⟩⟨n0,mo,j,v,k,a5,U,rfl,t,O,e3⟩
 simp only at j v k a5 U t
 refine bp [(1,aw c),(2,aw m),(3,aR (!w.n.book.aA.isEmpty)),(6,bd mo 0 0 fo.length)] (fun G=>qu H b c m (h.put (h.n.dg d)) w.n.book.aA G/\Cell b G mo (ah 5 (fo.map dX))) ?_ ?_
 .have u:=o2.o.c.at'
  have ad:=c2.at'
  have au:=aV (m:=[ah 8 (d.ai.af.map ax),ah 5 (fo.map dX),ah 5 [[I d.ai.id,I d.ai.phase,.sl G.length 0 0 d.ai.af.length,I d.aQ,.aj (d.need.map aC)]]]) p
  rw[<-t]at u ad au q J
  rw[<-O]at ad
  rw[<-e3]at J
  simp only[bN,Wk.put,Nd.dg,aeo,aG]at q
  simp[j,v,k,a5,U,u,ad,au]
  refine⟨o.step q.1 q.2,?_⟩
  refine⟨by rw[aay (ain J.ne)];exact J.at',J.ne,?_⟩
  rw[ba au]
  intro hm
  have al:=g.lt
  rw[p]at al
  simp only[oH,eu,ait,ajk,ahl,Go.Nx.rf]at hm al
  simp at hm al
  have h1:=al mo
  grind
 clear j v k a5 U t O e3 J c2 q o2 o g p Y
 rintro e K⟨j,v,k,U,_⟩⟨o,cm⟩
 refine bp [(1,aw c),(2,aw m),(3,aR (!w.n.book.aA.isEmpty))] (fun G=>qu H b c m (fI h) w.n.book.aA G) ?_ ?_
 .have hD:fI h=⟨(h.put (h.n.dg d)).n,h.out++fo,(h.put (h.n.dg d)).seen,(h.put (h.n.dg d)).e⟩:=ar
  have⟨sl,F,L,C,N,se,g,p⟩:=o.o.w.row
  have u:=o.o.c.at'
  have z:=cm.at'
  have aO:=o.o.c.ne
  have Y:=o.o.w.lt
  have b1:h.out.length<=maxLen/\h.out.length*40<=140737488355328:=⟨by unfold maxLen;omega,by omega⟩
  have b2:fo.length<=maxLen/\fo.length*40<=140737488355328:=⟨by unfold maxLen;omega,by omega⟩
  have b3:h.out.length+fo.length<=maxLen/\(h.out.length+fo.length)*40<=140737488355328:=⟨by unfold maxLen;omega,by omega⟩
  have aP:∀x:cB,(dX x).length=5:=fun _=>rfl
  have av:∀x,(K++x)[b]?=_:=fun x=>aV p
  have go:=g.ho
  have a7:(h.put (h.n.dg d)).out=h.out:=rfl
  rw[a7]at go
  rcases go with⟨T,rfl⟩|⟨M,Z,rfl,V⟩
  .simp at T
   have q:=g.out (G:=(K++[Ob.live 0 5 (fo.map dX)]).set b (Ob.live 0 13 [bN ⟨(h.put (h.n.dg d)).n,h.out++fo,(h.put (h.n.dg d)).seen,(h.put (h.n.dg d)).e⟩ sl F L C (.sl K.length 0 0 fo.length) se])) (h.out++fo) (ol':= .sl K.length 0 0 fo.length) (ba (av _)) (by simp) (fun m o h1 h2 h3=>by rw[aay (ain h2)];exact aV h1) (.inr ⟨K.length,0,by simp[T],by rw[aay (by omega),pq];simp[T]⟩) (fun m hm=>by simp[Go.Nx.rf]at hm;exact .inr (by omega))
   rw[<-hD]at q
   have er:bN (fI h) sl F L C (.sl K.length 0 0 fo.length) se=[I d.ai.id,I d.ai.phase,sl,I d.aQ,.aj (d.need.map aC),I h.n.book.last,F,L,.aj (h.n.told.map aC),C,.sl K.length 0 0 fo.length,se,I h.e]:=by rw[hD];rfl
   rw[er]at q
   simp[j,v,k,U,u,z,p,av,b2,aP,Wk.put,Nd.dg]
   exact o.step q.1.at q.2
  .have aS:M≠b:=fun e=>by subst e;rw[p]at V;cases V
   have sb:∀y,(K.set M y)[b]?=_:=fun y=>(aay aS).trans p
   have aT:¬c=M:=fun e=>by subst e;rw[u]at V;cases V
   rw[aeo]at V
   have a8:(h.out.map dX).length=h.out.length:=by simp
   rw[a8]at g p av sb
   have q:=g.out (G:=(K.set M (Ob.live (Z+1) 5 ((h.out++fo).map dX))).set b (Ob.live 0 13 [bN ⟨(h.put (h.n.dg d)).n,h.out++fo,(h.put (h.n.dg d)).seen,(h.put (h.n.dg d)).e⟩ sl F L C (.sl M (Z+1) 0 (h.out.length+fo.length)) se])) (h.out++fo) (ol':= .sl M (Z+1) 0 (h.out.length+fo.length)) (ba (sb _)) (by simp) (fun m o h1 h2 h3=>by rw[aay (ain h2),aay (fun e=>h3 (by subst e;simp[Go.Nx.rf]))];exact h1) (.inr ⟨M,Z+1,by simp,by rw[aay (ain aS),ba V];simp⟩) (fun m hm=>by simp[Go.Nx.rf]at hm|-;exact .inl hm)
   rw[<-hD]at q
   have er:bN (fI h) sl F L C (.sl M (Z+1) 0 (h.out.length+fo.length)) se=[I d.ai.id,I d.ai.phase,sl,I d.aQ,.aj (d.need.map aC),I h.n.book.last,F,L,.aj (h.n.told.map aC),C,.sl M (Z+1) 0 (h.out.length+fo.length),se,I h.e]:=by rw[hD];rfl
   rw[er]at q
   by_cases qf:fo=[]
   .subst qf
    simp only[aeo,aiK,aiw]at q
    simp[j,v,k,U,u,z,p,b1,aT,V,sb,Wk.put,Nd.dg,aeo]
    exact o.step q.1.at q.2
   .have q1:0<fo.length:=akn.2 qf
    have q2:¬h.out.length+fo.length<=h.out.length:=by omega
    rw[agA]at q
    simp[j,v,k,U,u,z,p,b3,aP,aT,V,sb,Wk.put,Nd.dg,q1,q2]
    exact o.step q.1.at q.2
 have W:=(Xf h).trans aI
 have⟨A,am⟩:=ak (fI h)
 clear j v k U o cm
 rintro e G⟨j,v,k,_⟩o
 rw[am]at o W T aK
 have a9:=B.b0
 refine bp [(1,aw c)] (fun G=>On H b c (fe A) G) ?_ ?_
 .have ⟨sl,F,L,C,N,se,g,p⟩:=o.o.w.row
  have u:=o.o.c.at'
  have z:=o.m.at'
  cases E:w.n.book.aA with
  |nil=>
   rw[E]at k o
   simp at k
   have t:fe A=A:=by unfold fe waits;rw[W,E]
   rw[t]
   simp[j,k]
   exact o.o
  |cons s r=>
   rw[E]at k o z
   simp only[tx,aN,aG]at z
   simp at k
   by_cases c1:s.state=0
   case neg=>
    have t:fe A=A:=by unfold fe waits;rw[W,E];simp[c1]
    rw[t]
    simp[j,v,k,z,c1]
    exact o.o
   by_cases c2:A.n.dr.aQ=2
   case neg=>
    have t:fe A=A:=by unfold fe waits;rw[W,E];simp[c1,c2]
    rw[t]
    rw[c1]at z
    simp[j,v,k,u,z,p,c2]
    exact o.o
   have aU:kB A.n.book=(⟨A.n.book.last,{s with state:=1}::r⟩,s.id,0):=by
    unfold kB
    rw[if_neg (by rw[W];simp[a9]),W,E]
    simp[c1]
   have t:fe A=(A.put {A.n with book:=⟨A.n.book.last,{s with state:=1}::r⟩}).dM 1 s.id:=by
    unfold fe waits
    rw[aU,W,E]
    simp[c1,c2]
   have an:=VR A.n.book (by rw[W];exact aF)
   rw[aU]at an
   simp only[lF,bQ,if_true]at an
   have⟨ae,hL⟩:=ak (({s with state:=1}:bY)::r)
   rw[hL]at an t
   have cl:=qZ (ex:=[]) g.dc (by simp) rfl rfl an (Q8 _ _ _ _ _)
   simp only[afL,aiO,uv]at cl
   simp[-aD]at cl
   have q:=g.wX [ah 4 (ae.map aN)] (A.put {A.n with book:=⟨A.n.book.last,ae⟩}) sl (.sl G.length 0 0 ae.length) C (.inl ⟨rfl,rfl⟩) (.inr ⟨by simp[Go.Nx.rf],.inr ⟨G.length,0,by simp[Wk.put],by rw[pq];simp[Wk.put]⟩⟩) rfl (.inl ⟨rfl,rfl⟩) rfl rfl
   have⟨G',e3,w3,f3⟩:=xX q.1 1 s.id (by decide) (by show A.seen.length<=_;omega)
   simp only[bN,Wk.put,aG]at e3
   rw[c1]at z
   rw[c2]at p e3
   have aO:=o.o.c.ne
   have bb:∀y,((G++[Ob.live 0 4 (ae.map aN)]).set b y)[m]?=_:=fun y=>(aay (ain o.m.ne)).trans (aV z)
   have ad:∀y,((G++[Ob.live 0 4 (ae.map aN)]).set b y)[c]?=_:=fun y=>(aay (ain aO)).trans (aV u)
   rw[t]
   simp[-aD,j,v,k,u,z,bb,ad,p,aV p,cl]
   simp[j,e3]
   exact(o.o.step q.1 q.2).step w3 f3
 have aW:=B.bm
 have aX:=B.bj
 have⟨X,ao⟩:=ak (fe A)
 clear j v k o
 rintro e G⟨j,_⟩o
 rw[ao]at o
 rw[Q,R,ab,am,ao]at aW aX
 refine bp [(1,aw c)] (fun G=>On H b c (iX X) G) ?_ ?_
 .have ⟨sl,F,L,C,N,se,g,p⟩:=o.w.row
  have u:=o.c.at'
  by_cases c1:X.n.dr.ai.phase=2
  .have t:iX X=X.tell:=by unfold iX;rw[if_pos c1]
   have⟨G',O,w2,bj⟩:=acm o.w aX aW
   rw[c1]at p
   rw[t]
   simp[j,u,p,O]
   exact o.step w2 bj
  .have t:iX X=X:=by unfold iX;rw[if_neg c1]
   rw[t]
   simp[j,u,p,c1]
   exact o
 have ay:=B.l1
 have az:=B.l2
 have aB:=B.l3
 have aE:=B.l4
 have bc:w.iv=(iX X).kR:=by rw[<-ao, <-am, <-ab, <-R, <-Q];rfl
 rw[bc]at aE|-
 rw[Q,R,ab,am,ao]at ay az aB
 have⟨wf,be⟩:=ak (iX X)
 clear j o
 rintro e G⟨j,_⟩o
 rw[be]at o ay az aB aE|-
 have⟨G',O,w2,bj⟩:=Xl o.w ay az aB aE
 have u:=o.c.at'
 simp[j,u,O]
 exact⟨w2,o.f.trans bj⟩
def ownRow(a:Nat)(n:Nd):List ab:=[I n.dr.ai.id,I n.dr.ai.phase,.sl a 0 0 n.dr.ai.af.length,I n.dr.aQ,aG n.dr.need,I n.book.last,.sl (a+1) 0 0 n.book.aA.length,.sl (a+2) 0 0 n.known.length,aG n.told,.sl (a+3) 0 0 n.asked.length]
structure Ad(G:List Ob)(n0:Nat)(n:Nd):Prop where
 s:G[n0]?=some (ah 8 (n.dr.ai.af.map ax))
 b:G[n0+1]?=some (ah 4 (n.book.aA.map aN))
 k:G[n0+2]?=some (ah 2 (n.known.map aW))
 a:G[n0+3]?=some (ah 2 (n.asked.map aW))
def Ad.view{G:List Ob}{c:Nat}{n:Nd}(h:Ad G c n):df G (.agg (ownRow c n))=some (.agg (aT n),[8,4,2,2]):=by
 have d:bV G 6 (.sl c 0 0 n.dr.ai.af.length)=some (.aj (n.dr.ai.af.map ax),[8]):=gD.view (t:=[]) ⟨c,0,by simp,by simpa using h.s⟩ (bL _);have e:bV G 6 (.sl (c+1) 0 0 n.book.aA.length)=some (.aj (n.book.aA.map aN),[4]):=gD.view (t:=[]) ⟨c+1,0,by simp,by simpa using h.b⟩ (bW _);have f:bV G 6 (.sl (c+2) 0 0 n.known.length)=some (.aj (n.known.map aW),[2]):=gD.view (t:=[]) ⟨c+2,0,by simp,by simpa using h.k⟩ (bS _);have g:bV G 6 (.sl (c+3) 0 0 n.asked.length)=some (.aj (n.asked.map aW),[2]):=gD.view (t:=[]) ⟨c+3,0,by simp,by simpa using h.a⟩ (bS _);have vI:∀n:Int,bV G 6 (I n)=some (I n,[]):=fun _=>rfl;have i:∀l:List Int,bV G 6 (.aj (l.map aC))=some (.aj (l.map aC),[]):=fun l=>by simp[bi]
 unfold df ownRow;simp only[eS,d,e,f,g,vI,i,aG];rfl
def Wj{G:List Ob}{b a:Nat}{v:Wk}{n:Nd}{sl c d e i se:ab}(g:cF G b v sl c d e i se)(h:Ad G a n)(j:fm n):
  aO tz ay 130 [.agg (ownRow a n),.agg [I v.n.dr.ai.id,I v.n.dr.ai.phase,sl,I v.n.dr.aQ,aG v.n.dr.need,I v.n.book.last,c,d,aG v.n.told,e]] G=some (aR (decide (n=v.n)),G):=by
 have⟨f,k,l,m,q⟩:=g.view
 have o:dy G [.agg (ownRow a n),.agg [I v.n.dr.ai.id,I v.n.dr.ai.phase,sl,I v.n.dr.aQ,aG v.n.dr.need,I v.n.book.last,c,d,aG v.n.told,e]]=some ([.agg (aT n),.agg (oF v.n f)],[8,4,2,2]++k):=by
  unfold dy
  rw[h.view,l]
 have p:([au.agg (ownRow a n),au.agg [I v.n.dr.ai.id,I v.n.dr.ai.phase,sl,I v.n.dr.aQ,aG v.n.dr.need,I v.n.book.last,c,d,aG v.n.told,e]].any (eQ tz))=false:=rfl
 rw[aD,p,o]
 simp only[show tz.md 130=0 from rfl,aeb,or_false]
 rw[if_neg (by decide),lJ,(show tz.md 130=0 from rfl),aas n v.n f m j,jQ]
 simp
def Vy{G:List Ob}{b:Nat}{v:Wk}{sl c d e j se:ab}(g:cF G b v sl c d e j se)(k:fm v.n):
  aO tz ay 67 [.agg [I v.n.dr.ai.id,I v.n.dr.ai.phase,sl,I v.n.dr.aQ,aG v.n.dr.need,I v.n.book.last,c,d,aG v.n.told,e]] G=some (.agg (ownRow G.length v.n),G++[ah 8 (v.n.dr.ai.af.map ax),ah 4 (v.n.book.aA.map aN),ah 2 (v.n.known.map aW),ah 2 (v.n.asked.map aW)]):=by
 have:=qK g (f:=67) (r:=(pU v.n).1) (own:=(pU v.n).2) (by simp) (fun m o=>aei v.n m o k) (fun a p=>by
  have h:∀l:List Int,ij a (l.map aC)=true:=u5 aC a (fun x=>by rcases p with rfl|rfl|rfl|rfl<;>rfl)
  have q:∀x:aI,cW a (ax x)=true:=pD a
  have s:∀x:cu,cW a (aW x)=true:=Uh a
  have t:∀x:bY,cW a (aN x)=true:=fun x=>by simp[aN,h]
  have u:∀l:List aI,((l.map ax).all fun r=>cW a r)=true:=fun l=>by rw[aj4,af8];exact fun x _=>q x
  have w:∀l:List cu,((l.map aW).all fun r=>cW a r)=true:=fun l=>by rw[aj4,af8];exact fun x _=>s x
  have y:∀l:List bY,((l.map aN).all fun r=>cW a r)=true:=fun l=>by rw[aj4,af8];exact fun x _=>t x
  simp only[eo,pU,km,cW,fZ,akp,al1,kW,u,w,y,aG,h,akL,Bool.or_true])
 rw[this]
 simp only[pU,eR,afL,aiO,dZ,aG,ownRow,uv]
 have z:dY G.length (ah 8 (v.n.dr.ai.af.map ax))=ah 8 (v.n.dr.ai.af.map ax):=qy (bL _)
 have i:∀l:List cu,dY G.length (ah 2 (l.map aW))=ah 2 (l.map aW):=fun l=>qy (bS _)
 rw[z,i,i]
 rfl
def eV.small{v:Wk}(h:eV v):fm v.n:=by
 have a:=h.i.af;have b:=h.i.need;have c:=h.t;have d:10*v.n.asked.length<=dP v.n:=by simp only[dP];omega
 have e:il v=v.out.length+v.seen.length+v.n.told.length+v.n.known.length+dP v.n:=rfl;exact⟨by omega,by omega,ze h.i.bk,by omega,by omega,by omega⟩
section
variable{b:Nat}{H:List Ob}{w:Wk}
def cF.OZ{G:List Ob}{m:Nat}{v:Wk}{sl f i j k se:ab}{o:Ob}(g:cF G b v sl f i j k se)(c:Cell b G m o)(y:Ob):cF (G.set m y) b v sl f i j k se:=by
 have⟨l,⟨t,p⟩,q,s,u,w,x,d1,d2⟩:=g;have hc:=c.rf;rw[l]at hc;simp only[oH,eu,bN,ait,ajk,ahl,qi,rm,aG]at hc;simp at hc;have⟨c1,c2,c3,c4,c5,A⟩:=hc;have a:∀(d:ab),m∉rf d->∀(n v z:Nat) (r:List (List ab)),n∈rf d->G[n]?=some (.live v z r)->(G.set m y)[n]?=some (.live v z r):=fun d B n v z r C D=>by rw[aay (fun e=>B (by rw[e];exact C))];exact D
 exact⟨by rw[aay c.ne];exact l,⟨t,p.aJ fun _ _ _ hm h=>a _ c1 _ _ _ _ hm h⟩,q.aJ fun _ _ _ hm h=>a _ c2 _ _ _ _ hm h,s.aJ fun _ _ _ hm h=>a _ c3 _ _ _ _ hm h,u.aJ fun _ _ _ hm h=>a _ c4 _ _ _ _ hm h,w.aJ fun _ _ _ hm h=>a _ c5 _ _ _ _ hm h,x.aJ fun _ _ _ hm h=>a _ A _ _ _ _ hm h,d1,d2⟩
inductive Reach:Wk->Wk->Prop
 |refl (w:Wk):Reach w w
 |step {w u:Wk}:Reach w u->Reach w u.iv
def jm(w v:Wk):Prop:= ∃u,Reach w u/\eV u/\u.iv.n=u.n/\v=u.iv
def jC:List ab:=[I 0,I 0,ap,I 0,ap,I 0,ap,ap,ap,ap]
def qM(v:Wk)(sl a b c:ab):List ab:=[I v.n.dr.ai.id,I v.n.dr.ai.phase,sl,I v.n.dr.aQ,aG v.n.dr.need,I v.n.book.last,a,b,aG v.n.told,c]
structure Ys(H:List Ob)(b n2:Nat)(w v:Wk)(G:List Ob):Prop where
 f:bq b H G
 i:eV v
 r:Reach w v
 w:bZ G b v
 c:Cell b G n2 (ah 10 [jC])
def wO(b:Nat)(w:Wk)(r:au)(g:List Ob):Prop:= ∃v sl a d e f se,r= .aM [.agg ((qM v sl a d e).map da),.c f,.c se,aa 0]/\cF g b v sl a d e f se/\jm w v
def adX{H:List Ob}{b:Nat}{w:Wk}(h:bZ H b w)(F:eV w):
  ∃r e,bB tz (ev tz) 76 [aw b] H=some (r,e)/\wO b w r e/\bq b H e:=by
 refine cG (C:=tz) (f:=76) (args:=[aw b]) (H:=H) (fun r e=>wO b w r e/\bq b H e) func76 rfl ?_
 have T:=h.lt
 have c2:=h.cell (x:=[ah 10 [jC]]) (i:=0) rfl
 rw[aiw]at c2
 have I:=h.snoc (x:=[ah 10 [jC]])
 have⟨l,J⟩:=ak H.length
 rw[J]at c2
 have⟨sl,U,V,W,X,se,g,d⟩:=h.row
 rw[F.e]at d
 simp[f76,aV d]
 refine Ends.bl (gO (fun v:Wk=>[(0,aw b),(2,aw l)]) (fun v G=>Ys H b l w v G) [] (fun v=>dP v.n) _ [0,2] (fun _=>rfl) ?_ w _ (by simp[J]) ⟨bq.snoc T,F,.refl w,I,c2⟩ rfl)
 clear c2 I g d
 rintro v⟨ag,G,ds⟩j q L
 simp only at j q L
 subst L
 simp at j
 have⟨M,N⟩:=j
 have⟨sl,U,V,W,X,se,g,d⟩:=q.w.row
 have A:=bf d
 have co:=Vy g q.i.small
 simp only[aG]at co
 have⟨x,k⟩:=ak ([Ob.live 0 8 (v.n.dr.ai.af.map ax),ah 4 (v.n.book.aA.map aN),ah 2 (v.n.known.map aW),ah 2 (v.n.asked.map aW),ah 10 [ownRow G.length v.n]])
 have Y:=q.w.cell (x:=x) (i:=0) (o:=ah 8 (v.n.dr.ai.af.map ax)) (by rw[<-k];rfl)
 have Z:=q.w.cell (x:=x) (i:=1) (o:=ah 4 (v.n.book.aA.map aN)) (by rw[<-k];rfl)
 have k2:=q.w.cell (x:=x) (i:=2) (o:=ah 2 (v.n.known.map aW)) (by rw[<-k];rfl)
 have k3:=q.w.cell (x:=x) (i:=3) (o:=ah 2 (v.n.asked.map aW)) (by rw[<-k];rfl)
 have k4:=q.w.cell (x:=x) (i:=4) (o:=ah 10 [ownRow G.length v.n]) (by rw[<-k];rfl)
 have⟨K,e1,w1,a⟩:=Mk (q.w.snoc (x:=x)) q.i.hyp
 have m:aO tz ay 129 [aw b] (G++x)=some (.aM [],K):=by
  rw[dz (f:=129) rfl];exact e1
 have p:=(q.c.snoc (x:=x) A).step a
 have B:=(k4.step a).at'
 have own:Ad K G.length v.n:=⟨by have:=(Y.step a).at';rwa [aiw]at this,(Z.step a).at',(k2.step a).at',(k3.step a).at'⟩
 have⟨s,t,u,y,ab,ad,O,D⟩:=w1.row
 have cs:=Wj O own q.i.small
 have P:=q.i.iv
 have E:=p.at'
 have Q:=p.ne
 rw[P.e]at D
 rw[<-k]at m
 simp only[ownRow,aG]at m B cs co
 by_cases z:v.n=v.iv.n
 .rw[decide_eq_true z]at cs
  have gz:=O.OZ p (ah 10 [qM v.iv s t u y])
  have fin:wO b w (.aM [.agg ((qM v.iv s t u y).map da),.c ab,.c ad,aa 0]) (K.set l (ah 10 [qM v.iv s t u y])):=⟨_,_,_,_,_,_,_,rfl,gz,v,q.r,q.i,z.symm,rfl⟩
  have R:=(q.f.trans (bq.snoc (x:=x) A)).trans a
  have S:bq b H (K.set l (ah 10 [qM v.iv s t u y])):=⟨by have:=R.1;simpa using this,fun ae o j h2 h3=>by
   have hm:=bf j
   have⟨g1,g2⟩:=R.2 ae o j h2 h3
   rw[aay (by omega),aay Q]
   exact⟨g1,g2⟩⟩
  simp only[qM,aG]at fin S
  simp only[jC]at E
  simp[-aD,M,N,d,co,m,B,D,cs,E,ain Q,ba E]
  exact⟨fin,S⟩
 .rw[decide_eq_false z]at cs
  simp[-aD,M,N,d,co,m,B,D,cs]
  refine⟨v.iv,?_,(q.f.trans (bq.snoc (x:=x) A)).trans a,P,.step q.r,w1,p⟩
  rcases(yY q.i.i).2.1 with h|h
  .exact absurd h.symm z
  .exact h
def XA(h:bZ H b w)(d:w.e≠0):
  ∃a,bB tz (ev tz) 76 [aw b] H=some (.aM [.agg [I 0,I 0,.aj [],I 0,.aj [],I 0,.aj [],.aj [],.aj [],.aj []],.c ap,.c ap,aa w.e],a)/\∀(m:Nat) (o:Ob),H[m]?=some o->a[m]?=some o:=by
 obtain⟨r,a,i,rfl,j⟩:=cG (C:=tz) (f:=76) (args:=[aw b]) (H:=H) (fun r a=>r= .aM [.agg [I 0,I 0,.aj [],I 0,.aj [],I 0,.aj [],.aj [],.aj [],.aj []],.c ap,.c ap,aa w.e]/\∀(m:Nat) (o:Ob),H[m]?=some o->a[m]?=some o) func76 rfl (by
  have p:=h.lt
  have⟨sl,q,s,t,u,se,g,k⟩:=h.row
  have l:¬b=H.length:=by omega
  have v:¬H.length=b:=by omega
  have n:∀(y:Ob) (m:Nat) (o:Ob),H[m]?=some o->(H++[y])[m]?=some o:=fun y m o h=>aV h
  simp[f76,aV k,d,l]
  exact fun m o h=>n _ m o h)
 exact⟨a,i,j⟩
def M2{a:Bool}{p:List Nat×List Ob}{l:ab}(h:bD l=true):fw a H p l=some (l,p):=by unfold fw;rw[if_pos h]
def gD.out{z:Nat}{lf:ab}{rows t:List (List ab)}(h:gD H z lf rows t)(a:bA rows=true)(p:List Nat×List Ob):fw true H p lf=some (.aj rows,p)/\da lf=lf:=by obtain⟨c,d,rfl,b⟩:=h;have:(rows++t).take rows.length=rows:=ai2 rfl;exact⟨by simp[b,this,a],rfl⟩
def abD{r:au}{d:List Ob}(h:wO b w r d):∃v a le,dF true d r=some (.aM [.agg (aT v.n),.c a,.c le,aa 0],[])/\jm w v/\((a=ap/\v.out=[])\/a= .aj (v.out.map dX))/\((le=ap/\v.seen=[])\/le= .aj (v.seen.map fW)):=by
 obtain⟨v,sl,k,L,m,o,se,rfl,g,q⟩:=h;have⟨M,⟨t,s⟩,u,x,y,z,A,d1,d2⟩:=g;have i:=fun p=>s.out (bL _) p
 have B:∀p,fw true d p (da k)=some (.aj (v.n.book.aA.map aN),p):=by
  intro p;rcases u with rfl|h
  .exact M2 (bW _)
  .rw[(h.out (bW _) p).2];exact(h.out (bW _) p).1
 have j:=fun p=>x.out (bS _) p
 have C:∀p,fw true d p (da m)=some (.aj (v.n.asked.map aW),p):=by
  intro p;rcases y with⟨h,rfl⟩|h
  .rw[h];rfl
  .rw[(h.out (bS _) p).2];exact(h.out (bS _) p).1
 have vI:∀(n:Int) p,fw true d p (I n)=some (I n,p):=fun _ _=>rfl;have D:∀(l:List Int) p,fw true d p (.aj (l.map aC))=some (.aj (l.map aC),p):=fun l p=>M2 (by simp[bi])
 have e:∃a,(∀p,fw true d p o=some (a,p))/\((a=ap/\v.out=[])\/a= .aj (v.out.map dX)):=by
  rcases z with⟨h,rfl⟩|h
  .exact ⟨ap,fun p=>rfl,.inl ⟨rfl,by simpa using h⟩⟩
  .exact ⟨_,fun p=>(h.out (Pt _) p).1,.inr rfl⟩
 have f:∃le,(∀p,fw true d p se=some (le,p))/\((le=ap/\v.seen=[])\/le= .aj (v.seen.map fW)):=by
  rcases A with⟨h,rfl⟩|h
  .exact ⟨ap,fun p=>rfl,.inl ⟨rfl,by simpa using h⟩⟩
  .exact ⟨_,fun p=>(h.out (RL _) p).1,.inr rfl⟩
 have⟨a,e,E⟩:=e;have⟨le,f,F⟩:=f;refine⟨v,a,le,?_,q,E,F⟩;have G:=(i ([],[])).1;have H:=(j ([],[])).1;have J:=(i ([],[])).2;have K:=(j ([],[])).2;simp only[dF,qM,afL,aiO,aG,Vv,adg,J,K,outs,sM,qj,G,H,B,C,e,f,vI,D];rfl
end
section
variable{G:List Ob}{b:Nat}{l:List aI}
def FY{v:Wk}{sl f h i j se:ab}(g:cF G b v sl f h i j se)(p:Int)(hm:v.n.dr.ai.af.length<=100000):
  aO tz ay 69 [aw b,aa p] G=some (aa (dw (cQ p) 0 v.n.dr.ai.af),G):=by
 have⟨a,d,le,k,l,m⟩:=g.Gu 4
 have o:bD a=true/\bD d=true/\bD le=true:=by simpa using l
 have q:=YM v.n.dr.ai.id v.n.dr.ai.phase v.n.dr.ai.af [I v.n.dr.aQ,aG v.n.dr.need,I v.n.book.last,.aj (v.n.book.aA.map aN),.aj (v.n.known.map aW),aG v.n.told,a,d,le,I v.e] (by simp[bW,bS,bi,o]) p (by unfold maxLen;omega)
 have vI:bV G 6 (I p)=some (I p,[]):=rfl
 have r:([au.c (.ptr b 0 0 0),au.c (I p)].any (eQ tz))=false:=rfl
 have s:dy G [aw b,aa p]=some ([.c (.aK [[I v.n.dr.ai.id,I v.n.dr.ai.phase,.aj (v.n.dr.ai.af.map ax),I v.n.dr.aQ,aG v.n.dr.need,I v.n.book.last,.aj (v.n.book.aA.map aN),.aj (v.n.known.map aW),aG v.n.told,a,d,le,I v.e]] 0 0),aa p],k++([]++[])):=by
  simp only[dy,df,m,vI]
 rw[aD,r,s]
 simp only[show tz.md 69=0 from rfl,aeb,or_false]
 rw[if_neg (by decide),lJ,(show tz.md 69=0 from rfl),q,jQ]
 simp
def afG(x:Int):aS tz ay 0 204 [.c ap,aa x]=some (aa (-1),[]):=by refine be func204 rfl ?_;simp[f204,underlying30];refine ia (fun k:Unit=>[(7,aa 0),(8,aa 0)]) (fun k H=>H=[]) (fun k=>0) ?_ () (by simp) (by simp) fun _=>rfl;rintro _ e H ⟨a,b,_⟩ d;subst d;simp[a,b]
def US(x:Int):aS tz ay 0 128 [.c ap,aa x]=some (aR false,[]):=by refine be func128 rfl ?_;have:=afG x;simp[f128,this]
structure Gn(b:Nat)(G:List Ob)(m4 n0:Nat)(idl:ab)(bk:ci)(ids:List Int):Prop where
 c:Cell b G m4 (ah 2 [[I bk.last,.sl n0 0 0 bk.aA.length]])
 s:Cell b G n0 (ah 4 (bk.aA.map aN))
 i:(ids=[]/\idl=ap)\/∃n1,idl= .sl n1 0 0 ids.length/\Cell b G n1 (ah 1 (ids.map aC))
def Gn.step{b:Nat}{G a:List Ob}{d e:Nat}{g:ab}{j:ci}{k:List Int}(h:Gn b G d e g j k)(f:bq b G a):Gn b a d e g j k:=⟨h.c.step f,h.s.step f,by
 rcases h.i with h|⟨l,m,n⟩
 .exact .inl h
 .exact .inr ⟨l,m,n.step f⟩⟩
def Ld{p:Int}(h:cK l p=true):∃j:Nat,dw (cQ p) 0 l=(j:Int)/\∃a:j<l.length, ∀f:aI->aI,setAt (cQ p) f l=l.set j (f l[j]):=by
 have⟨x,c,d⟩:=lN.1 h;cases b:l.find? (cQ p)with
 |none=>have:=alP.1 b x c;simp[cQ,d]at this
 |some s=>have⟨j,e,⟨a,g⟩,i⟩:=zL 0 b;exact⟨j,by simpa using e,a,fun f=>by rw[i f,g]⟩
def cF.Me{v:Wk}{d f h i se:ab}{a c n:Nat}(g:cF G b v (.sl a c 0 n) d f h i se)(p:v.n.dr.ai.af=l){t:List (List ab)}(k:G[a]?=some (.live c 8 (l.map ax++t)))(j:Nat)(y:aI):
  cF (G.set a (.live c 8 ((l.set j y).map ax++t))) b (v.put (v.n.eK (l.set j y))) (.sl a c 0 n) d f h i se/\bq b G (G.set a (.live c 8 ((l.set j y).map ax++t))):=by
 have m:=g.hb
 have r:a≠b:=fun e=>by subst e;rw[m]at k;cases k
 have hn:n=l.length:=by
  have⟨u,w,x,o,z⟩:=g.hs
  simp only[ab.sl.injEq]at o
  obtain⟨_,_,_,rfl⟩:=o
  rw[p];simp
 subst hn
 have q:=g.af [] c (l.set j y) t
 rw[aeo,aiJ]at q
 have s:(G.set a (.live c 8 ((l.set j y).map ax++t)))[b]?=some (ah 13 [bN (v.put (v.n.eK (l.set j y))) (.sl a c 0 l.length) d f h i se]):=by
  rw[aay r,m];rfl
 rw[lP s]at q
 exact q
def VM{v:Wk}{a:Int}(hp:cK v.n.dr.ai.af a=true):∃j:Nat,dw (cQ a) 0 v.n.dr.ai.af=(j:Int)/\∃b:j<v.n.dr.ai.af.length,(v.put (v.n.eK (setAt (cQ a) (fun x=>{x with state:=2}) v.n.af)))=v.put (v.n.eK (v.n.dr.ai.af.set j {v.n.dr.ai.af[j]with state:=2})):=by have⟨j,c,b,d⟩:=Ld hp;refine⟨j,c,b,?_⟩;show v.put (v.n.eK (setAt (cQ a) (fun x=>{x with state:=2}) v.n.dr.ai.af))=_;rw[d]
def Re(l:List bY):((l.map aN).all fun r=>cW [4] r)=true:=by rw[aj4,af8];intro x _;exact GD x
def Us(a:Int)(n:Nat)(l:List bY):eo false [4] (.aM [.agg [I a,.sl 0 0 0 n],.c ap,aa 0]) [ah 4 (l.map aN)]=true:=by have:=Re l;simp[eo,km,kW,-cW]at this|-;exact⟨by simp[cW],this⟩
def WE(a:Int)(n k:Nat)(l:List bY)(m:List Int):eo false [4] (.aM [.agg [I a,.sl 0 0 0 n],bd 1 0 0 k,aa 0]) [ah 4 (l.map aN),ah 1 (m.map aC)]=true:=by
 have:=Re l;have b:((m.map aC).all fun r=>cW [4] r)=true:=by rw[aj4,af8];intro x _;rfl
 simp[eo,km,kW,-cW]at this b|-;exact⟨by simp[cW],this,b⟩
def Wk.lZ(w:Wk)(a:List Int):Wk:=match w.n.book.aA with
 |[]=>w
 |s::_=>if w.n.dr.aQ=1/\s.id∈a then w.di else w
def agL(w:Wk):w.di.seen=w.seen:=by unfold Wk.di;split<;>rfl
def Tu(w:Wk)(a:List Int):(w.lZ a).seen=w.seen:=by
 unfold Wk.lZ;split
 .rfl
 .split
  .exact agL w
  .rfl
def Ia(k:Int):∀(l:List Int) (w:Wk),l.foldl (fun w id=>w.dM k id) w=w.na k l
 |[],w=>by simp[Wk.na]
 |x::r,w=>by
  rw[aiW,Ia k r]
  simp[Wk.na,Wk.dM]
end
structure Wl(w:Wk)(peer:Int):Prop where
 p:cK w.n.dr.ai.af peer=true
 s:fm w.n
 b:cM w.n.book=true
 e:w.seen.length<=20000
def O9{H:List Ob}{b:Nat}{w:Wk}{peer:Int}(h:bZ H b w)(O:Wl w peer):
  ∃H',bB tz (ev tz) 75 [aw b,aa peer] H=some (.aM [],H')/\bZ H' b (w.shut peer)/\bq b H H':=by
 refine gv func75 rfl ?_
 simp only[f75,bX]
 have⟨j,hj,al,hA⟩:=VM O.p
 have⟨o,P⟩:=ak (w.put (w.n.eK (w.n.dr.ai.af.set j {w.n.dr.ai.af[j]with state:=2})))
 rw[P]at hA
 refine bp [(0,aw b),(1,aa peer)] (fun G=>bZ G b o/\bq b H G) ?_ ?_
 .have ⟨sl,ss,X,T,Y,se,g,m⟩:=h.row
  obtain⟨t,Z,va,rfl,av⟩:=g.hs
  have cp:=FY g peer (by have:=O.s.si;omega)
  rw[hj]at cp
  have q:=g.Me rfl av j {w.n.dr.ai.af[j]with state:=2}
  rw[P,aix]at q
  have aX:(w.n.dr.ai.af.map ax).set j [I w.n.dr.ai.af[j].peer,I w.n.dr.ai.af[j].aP,I 2,B w.n.dr.ai.af[j].fork,B w.n.dr.ai.af[j].cJ,B w.n.dr.ai.af[j].token,B w.n.dr.ai.af[j].dd,B w.n.dr.ai.af[j].ask]++t=(w.n.dr.ai.af.set j {w.n.dr.ai.af[j]with state:=2}).map ax++t:=by rw[aix];rfl
  have aF:j<w.n.dr.ai.af.length+t.length:=by omega
  have aH:(w.n.dr.ai.af.map ax++t)[j]?=some [I w.n.dr.ai.af[j].peer,I w.n.dr.ai.af[j].aP,I w.n.dr.ai.af[j].state,B w.n.dr.ai.af[j].fork,B w.n.dr.ai.af[j].cJ,B w.n.dr.ai.af[j].token,B w.n.dr.ai.af[j].dd,B w.n.dr.ai.af[j].ask]:=by
   rw[aaK (by simpa using al),adn,aae al];rfl
  simp[-aD,-getElem?_pos,-aae,m,av,cp,al,aF,aH]
  exact⟨q.1.at,q.2⟩
 rintro e G⟨l,Q,_⟩⟨wt,f⟩
 refine bp [(0,aw b),(1,aa peer)] (fun G=>bZ G b (o.ek 7 peer)/\bq b H G) ?_ ?_
 .have ⟨G',z,w1,bm⟩:=FT wt 7 peer (by decide) (by rw[<-P];have:=O.e;show w.seen.length<=_;omega)
  simp[l,Q,z]
  exact⟨w1,f.trans bm⟩
 have L:w.shut peer=(((o.ek 7 peer).lZ (iS (o.ek 7 peer).n.book peer).2.1).put {((o.ek 7 peer).lZ (iS (o.ek 7 peer).n.book peer).2.1).n with book:=(iS (o.ek 7 peer).n.book peer).1}).na 5 (iS (o.ek 7 peer).n.book peer).2.1:=by
  unfold Wk.shut
  rw[hA]
  rfl
 have az:(o.ek 7 peer).n.book=w.n.book:=by rw[<-P];rfl
 have am:fm (o.ek 7 peer).n:=by
  have:=O.s
  rw[<-P]
  exact⟨by show(w.n.dr.ai.af.set j _).length<=_;simpa using this.si,this.nd,this.bk,this.kn,this.tl,this.aq⟩
 have aB:(o.ek 7 peer).seen.length<=20001:=by
  rw[<-P]
  have:=O.e
  show(w.seen++[_]).length<=_
  simp;omega
 have⟨w1,aI⟩:=ak (o.ek 7 peer)
 clear l Q wt f
 rintro e G⟨l,Q,_⟩⟨wt,f⟩
 rw[aI]at wt L az am aB
 have⟨d,an⟩:=ak ((iS w1.n.book peer).1)
 have⟨a,ao⟩:=ak ((iS w1.n.book peer).2.1)
 rw[an,ao]at L
 have U:=YX w1.n.book peer am.bk
 have ar:cM w1.n.book=true:=by rw[az];exact O.b
 rw[if_neg (by rw[ar];simp),an,ao]at U
 have aY:a.length<=8/\d.aA.length<=8:=by
  have h8:w1.n.book.aA.length<=8:=by
   simp only[cM,aa2,afj,decide_eq_false_iff_not]at ar
   omega
  rw[<-ao, <-an]
  unfold iS
  rw[if_neg (by rw[ar];simp)]
  have z:=ah2 (cg peer) w1.n.book.aA
  have e2:=ah2 (fun s=>!cg peer s) w1.n.book.aA
  simp only[ahL]
  omega
 refine ef (fun S=>∃V J y,S.env.get 0=some (aw b)/\S.env.get 4=some (aw V)/\S.env.get 5=some (.c y)/\S.bH=[]/\H.length<=J/\bZ S.heap b w1/\bq b H S.heap/\Gn b S.heap V J y d a) ?_ ?_
 .have ⟨sl,ss,X,T,Y,se,g,m⟩:=wt.row
  have M:=wt.lt
  by_cases E:a=[]
  .simp only[xj,if_pos E]at U
   have cl:=qZ (ex:=[aa peer]) g.dc (by simp) (by simp[dy,df]) rfl U (Us _ _ _)
   simp only[afL,aiO,uv]at cl
   simp[-aD]at cl
   have A:=wt.cell (x:=[ah 4 (d.aA.map aN),ah 2 [[I d.last,.sl G.length 0 0 d.aA.length]]]) (i:=0) rfl
   have c1:=wt.cell (x:=[ah 4 (d.aA.map aN),ah 2 [[I d.last,.sl G.length 0 0 d.aA.length]]]) (i:=1) rfl
   rw[aiw]at A
   simp[-aD,l,Q,m,cl]
   exact⟨G.length,f.1,wt.snoc,f.trans (bq.snoc M),⟨c1,A,.inl ⟨E,rfl⟩⟩⟩
  .simp only[xj,if_neg E]at U
   have cl:=qZ (ex:=[aa peer]) g.dc (by simp) (by simp[dy,df]) rfl U (WE _ _ _ _ _)
   simp only[afL,aiO,uv]at cl
   simp[-aD,bi]at cl
   have A:=wt.cell (x:=[ah 4 (d.aA.map aN),ah 1 (a.map aC),ah 2 [[I d.last,.sl G.length 0 0 d.aA.length]]]) (i:=0) rfl
   have c1:=wt.cell (x:=[ah 4 (d.aA.map aN),ah 1 (a.map aC),ah 2 [[I d.last,.sl G.length 0 0 d.aA.length]]]) (i:=1) rfl
   have c2:=wt.cell (x:=[ah 4 (d.aA.map aN),ah 1 (a.map aC),ah 2 [[I d.last,.sl G.length 0 0 d.aA.length]]]) (i:=2) rfl
   rw[aiw]at A
   simp[-aD,l,Q,m,cl]
   exact⟨G.length,f.1,wt.snoc,f.trans (bq.snoc M),⟨c2,A,.inr ⟨_,rfl,c1⟩⟩⟩
 have hT:(w1.lZ a).seen.length<=20001:=by rw[Tu];exact aB
 clear l Q wt f
 rintro⟨e,G,ds⟩⟨V,J,y,l,F,u,rfl,aJ,wt,f,C⟩
 simp only at l F u wt f C
 refine bp [(0,aw b),(4,aw V),(5,.c y)] (fun G=>bZ G b (w1.lZ a)/\bq b H G/\Gn b G V J y d a) ?_ ?_
 .have ⟨sl,ss,X,T,Y,se,g,m⟩:=wt.row
  have M:=wt.lt
  cases R:w1.n.book.aA with
  |nil=>
   have z:w1.lZ a=w1:=by unfold Wk.lZ;rw[R]
   have cl:=qK g (f:=119) (r:= .aM [.agg [I 0,.aj [],I 0,I 0],aR false]) (own:=[]) (by simp) (fun aq Z=>by rw[uM _ aq Z,R]) (fun bs hb=>by rcases hb with rfl|rfl|rfl|rfl<;>rfl)
   simp only[aG]at cl
   rw[z]
   simp[-aD,l,F,u,m,cl]
   exact⟨wt.snoc,f.trans (bq.snoc M),C.step (bq.snoc M)⟩
  |cons s r=>
   have cl:=qK g (f:=119) (r:= .aM [.agg (aN s),aR true]) (own:=[]) (by simp) (fun aq Z=>by rw[uM _ aq Z,R]) (fun bs hb=>by rcases hb with rfl|rfl|rfl|rfl<;>simp[aN,u5])
   simp only[aN,aG]at cl
   have A:=(wt.cell (x:=[ah 4 [aN s]]) (i:=0) rfl).at'
   rw[aiw]at A
   simp only[aN,aG]at A
   have ab:=wt.snoc (x:=[ah 4 [aN s]])
   have N:=f.trans (bq.snoc (x:=[ah 4 [aN s]]) M)
   have W:=C.step (bq.snoc (x:=[ah 4 [aN s]]) M)
   simp only[aN,aG]at ab N W
   by_cases c1:w1.n.dr.aQ=1
   case neg=>
    have z:w1.lZ a=w1:=by unfold Wk.lZ;rw[R];simp only;rw[if_neg (fun h=>c1 h.1)]
    rw[z]
    simp[-aD,l,F,u,m,aV m,cl,c1]
    exact⟨ab,N,W⟩
   have ad:aO tz ay 128 [.c y,aa s.id] (G++[ah 4 [[I s.id,.aj (s.need.map aC),I s.state,I s.cH]]])=some (aR (decide (s.id∈a)),G++[ah 4 [[I s.id,.aj (s.need.map aC),I s.state,I s.cH]]]):=by
    rcases W.i with⟨E,rfl⟩|⟨v,rfl,hc⟩
    .rw[E]
     have:=US s.id
     simp[this]
    .have h1:=Cv a s.id (by unfold maxLen;omega)
     have D:=hc.at'
     simp only[aG]at h1
     simp[h1,D,bi]
   rw[c1]at m cl
   by_cases c2:s.id∈a
   .have z:w1.lZ a=w1.di:=by unfold Wk.lZ;rw[R];simp only;rw[if_pos ⟨c1,c2⟩]
    rw[decide_eq_true c2]at ad
    have⟨G',e2,w2,f3⟩:=Au ab am
    have aK:aO tz ay 118 [aw b] (G++[ah 4 [[I s.id,.aj (s.need.map aC),I s.state,I s.cH]]])=some (.aM [],G'):=by
     rw[dz (f:=118) rfl];exact e2
    rw[z]
    simp[-aD,l,F,u,m,aV m,cl,A,ad,aK]
    exact⟨w2,N.trans f3,W.step f3⟩
   .have z:w1.lZ a=w1:=by unfold Wk.lZ;rw[R];simp only;rw[if_neg (fun h=>c2 h.2)]
    rw[decide_eq_false c2]at ad
    rw[z]
    simp[-aD,l,F,u,m,aV m,cl,A,ad]
    exact⟨ab,N,W⟩
 have⟨w2,aE⟩:=ak (w1.lZ a)
 rw[aE]at hT L
 clear l F u wt f C
 rintro e G⟨l,F,u,_⟩⟨wt,f,C⟩
 rw[aE]at wt
 have⟨w3,au⟩:=ak (w2.put {w2.n with book:=d})
 rw[au, <-Ia]at L
 have aZ:w3.seen.length<=20001:=by rw[<-au];exact hT
 refine bp [(0,aw b),(5,.c y)] (fun G=>bZ G b w3/\bq b H G/\((a=[]/\y=ap)\/∃v,y= .sl v 0 0 a.length/\Cell b G v (ah 1 (a.map aC)))) ?_ ?_
 .have ⟨sl,ss,X,T,Y,se,g,m⟩:=wt.row
  have q:=g.vO f [] (w2.put {w2.n with book:=d}) sl (.sl J 0 0 d.aA.length) T (.inl ⟨rfl,rfl⟩) (.inr ⟨by simp[rf];exact aJ,.inr ⟨J,0,by simp[Wk.put],by rw[aeo,C.s.at'];simp[Wk.put]⟩⟩) rfl (.inl ⟨rfl,rfl⟩) rfl rfl
  have hc:=C.c.at'
  simp only[bN,Wk.put,aeo,aG]at q
  have E:(a=[]/\y=ap)\/∃v,y= .sl v 0 0 a.length/\Cell b (G.set b (ah 13 [[I w2.n.dr.ai.id,I w2.n.dr.ai.phase,sl,I w2.n.dr.aQ,.aj (w2.n.dr.need.map aC),I d.last,.sl J 0 0 d.aA.length,X,.aj (w2.n.told.map aC),T,Y,se,I w2.e]])) v (ah 1 (a.map aC)):=by
   rcases C.i with h|⟨v,h1,D⟩
   .exact .inl h
   .refine .inr ⟨v,h1,by rw[aay (ain D.ne)];exact D.at',D.ne,?_⟩
    have a0:J≠v:=fun e=>by
     subst e
     have aL:=C.s.at'
     have b:=D.at'
     rw[aL]at b;cases b
    have h3:=D.rf
    rw[m]at h3
    rw[ba m]
    simp only[oH,eu,ait,ajk,ahl,Go.Nx.rf]at h3|-
    simp at h3|-
    grind
  simp[l,F,u,m,hc]
  rw[<-au]
  exact⟨q.1,q.2,E⟩
 clear l F u wt f C
 rintro e G⟨l,u,_⟩⟨wt,f,E⟩
 rcases E with⟨hn,rfl⟩|⟨v,rfl,hc⟩
 .rw[hn]at L
  simp[underlying30,u]
  refine im (fun k:Unit=>[(69,aa 0),(70,aa 0)]) (fun k K=>K=G) (fun k=>0) ?_ () (by simp) (by simp) fun _=>rfl
  rintro _ e K⟨ae,ag,_⟩D
  subst D
  simp[ae,ag]
  rw[L]
  exact⟨wt,f⟩
 .simp[underlying30,u]
  refine im (fun k:Nat=>[(69,aa a.length),(70,aa k),(68,bd v 0 0 a.length),(0,aw b)]) (fun k K=>k<=a.length/\bZ K b ((a.take k).foldl (fun w id=>w.dM 5 id) w3)/\bq b H K/\Cell b K v (ah 1 (a.map aC))) (fun k=>a.length-k) ?_ 0 (by simp[l]) ⟨by simp,wt,f,hc⟩ fun _=>rfl
  rintro k e K⟨ae,ag,aS,l,_⟩⟨D,wt,f,hc⟩
  by_cases hk:k<a.length
  .have hw:ads.wrap ((k:Int)+1)=((k+1:Nat):Int):=cr (by omega)
   have aT:=hc.at'
   have ht:(a.take (k+1)).foldl (fun w id=>w.dM 5 id) w3=((a.take k).foldl (fun w id=>w.dM 5 id) w3).dM 5 a[k]:=by rw[jK hk,ajc];rfl
   have a1:((a.take k).foldl (fun w id=>w.dM 5 id) w3).seen.length<=20010:=by
    rw[Ia]
    simp only[Wk.na,afu,ahL,aiV]
    omega
   have⟨K',e2,aU,N⟩:=xX wt 5 a[k] (by decide) (by omega)
   have aW:a[k]?=some a[k]:=aae hk
   simp[ae,ag,aS,l,hk,aT,hw,aW,e2]
   exact⟨k+1,by omega,by simp,by omega,by rw[ht];exact aU,f.trans N,hc.step N⟩
  .obtain rfl:k=a.length:=by omega
   simp[ae,ag]
   rw[aiv, <-L]at wt
   exact⟨wt,f⟩
section
variable{w:Wk}{H:List Ob}{b:Nat}
def Wk.fail(w:Wk)(e:Int):Wk:=⟨w.n,w.out,w.seen,e⟩
def Wk.opens(w:Wk)(id:Int)(need:List Int):Wk:=
 if(io w.n.book id need).2≠0 then w.fail (io w.n.book id need).2
 else if ld need (jY w.n)=false then w.fail 181
 else⟨{w.n with book:=(io w.n.book id need).1},w.out,w.seen++[⟨0,w.n.id,id,0,cD need⟩],w.e⟩
def tV(w:Wk)(e:Int):w.need true e=w:=by simp[Wk.need]
def zq(h:w.e=0)(e:Int):w.need false e=w.fail e:=by simp[Wk.need,h,Wk.fail]
def rz(h:bZ H b w)(c:Bool)(e:Int):∃a,aO tz ay 72 [aw b,aR c,aa e] H=some (aR (decide ((w.need c e).e=0)),a)/\bZ a b (w.need c e)/\bq b H a/\∀m,m≠b->a[m]?=H[m]?:=by have⟨a,d,g⟩:=yM h c e;exact⟨a,by rw[dz (f:=72) rfl];exact d,g⟩
def Zi{sl i j k q se:ab}(g:cF H b w sl i j k q se)(hm:w.n.dr.ai.af.length<=1000)(need:List Int)(l:need.length<=100000):
  ∃m K,aO tz ay 113 [.agg [I w.n.dr.ai.id,I w.n.dr.ai.phase,sl,I w.n.dr.aQ,aG w.n.dr.need,I w.n.book.last,i,j,aG w.n.told,k]] H=some (.c m,H++K)/\aO tz ay 112 [.c (aG need),.c m] (H++K)=some (aR (ld need (jY w.n)),H++K):=by
 have s:(jY w.n).length<=10000:=by
  have:=ah2 oC w.n.af
  have u:w.n.af.length=w.n.dr.ai.af.length:=rfl
  simp only[jY,ahL]
  omega
 have⟨a,h⟩:=ak (jY w.n)
 rw[h]at s
 have hp:∀d,rC w.n d->aS tz ay 0 113 [.agg (oF w.n d)]=some (iB a):=by
  intro d e
  rw[<-h]
  rw[e]
  exact MW w.n (by show w.n.dr.ai.af.length<=_;omega)
 by_cases hn:a=[]
 .have cl:=qK g (f:=113) (r:= .c ap) (own:=[]) (by simp) (fun d e=>by rw[hp d e];simp[iB,hn]) (fun o p=>by rcases p with rfl|rfl|rfl|rfl<;>rfl)
  refine⟨ap,[],by rw[cl];rfl,?_⟩
  have:=EL need l
  simp only[aG]at this
  rw[h,hn]
  simp[aG,this,bi]
 .have cl:=qK g (f:=113) (r:=bd 0 0 0 a.length) (own:=[ah 1 (a.map aC)]) (by simp) (fun d e=>by rw[hp d e];simp[iB,hn,cy]) (fun o p=>by
   have t:((a.map aC).all fun r=>cW o r)=true:=by rw[aj4,af8];exact fun x _=>rfl
   simp only[eo,km,fZ,akp,al1,kW,t,akL,Bool.or_true])
  refine⟨.sl H.length 0 0 a.length,[ah 1 (a.map aC)],by rw[cl];simp[bi],?_⟩
  have:=CH need a l (by omega)
  simp only[aG]at this
  rw[h]
  simp[aG,this,bi]
def cF.NC{G:List Ob}{sl j k l p se se':ab}(h:cF H b w sl j k l p se)(q:List Ev)(s:G[b]?=some (ah 13 [bN ⟨w.n,w.out,q,w.e⟩ sl j k l p se']))(J:H.length<=G.length)
  (g:∀(m:Nat) (o:Ob),H[m]?=some o->m≠b->m∉rf se->G[m]?=some o) (A:kQ G 5 se' (q.map fW)) (u:∀m∈rf se',m∈rf se\/H.length<=m):
  cF G b ⟨w.n,w.out,q,w.e⟩ sl j k l p se'/\bq b H G:=by
 obtain⟨i,⟨t,B⟩,C,D,E,x,F,d1,d2⟩:=h
 have I:∀m,m∈rf se->∃v r,H[m]?=some (.live v 5 r):=by
  rcases F with⟨_,rfl⟩|⟨M,N,rfl,d⟩
  .intro m hm;simp[rf]at hm
  .intro m hm;simp[rf]at hm;subst hm;exact⟨_,_,d⟩
 have f:∀(m v z:Nat) (r:List (List ab)),z≠13->z≠5->H[m]?=some (.live v z r)->G[m]?=some (.live v z r):=fun m v z r c d a=>g m _ a (fun e=>by subst e;rw[i]at a;cases a;exact c rfl) (fun hm=>by
  obtain⟨O,P,y⟩:=I m hm
  rw[y]at a;cases a;exact d rfl)
 refine⟨⟨s,⟨t,B.aJ fun _ _ _ _ h=>f _ _ _ _ (by decide) (by decide) h⟩,C.aJ fun _ _ _ _ h=>f _ _ _ _ (by decide) (by decide) h,D.aJ fun _ _ _ _ h=>f _ _ _ _ (by decide) (by decide) h,E.aJ fun _ _ _ _ h=>f _ _ _ _ (by decide) (by decide) h,x.aJ fun m _ _ hm h=>g m _ h (fun e=>by subst e;rw[i]at h;cases h) (fun K=>d2 m hm K),A,d1,fun m hm L=>?_⟩,bq.bJ i s J (fun m hm=>?_) (fun m o c d a=>g m o c d (fun y=>a ?_))⟩
 .rcases u m L with c|c
  .exact d2 m hm c
  .have:=x.lt m hm
   omega
 .have Q:=u m
  clear I f B C D E x F d1 d2 i s g A u
  simp only[eu,bN,ait,ajk,ahl,qi,rm,aG]at hm|-
  simp at hm|-
  grind
 .simp only[eu,bN,ait,ajk,ahl,qi,rm,aG]
  simp[y]
def W7(h:bZ H b w)(hn:fm w.n)(E:w.e=0)(ax:w.seen.length<=20000)(id an ao:Int)(need:List Int)(ab:need.length<=100000):
  ∃R,bB tz (ev tz) 71 [aw b,.agg [I 0,I id,I an,I ao,aG need]] H=some (.aM [],R)/\bZ R b (w.opens id need)/\bq b H R:=by
 refine gv func71 rfl ?_
 have⟨sl,ss,F,v,J,se,g,L⟩:=h.row
 have lb:=h.lt
 have q:=ags w.n.book id need hn.bk ab
 have ad:kF (H++[.dead]) ss w.n.book.aA:=g.dc.aJ fun _ _ _ _ h=>aV h
 by_cases c1:(io w.n.book id need).2=0
 case neg=>
  have s:w.opens id need=w.fail (io w.n.book id need).2:=by unfold Wk.opens;rw[if_pos c1]
  have⟨er,ap⟩:=ak ((io w.n.book id need).2)
  simp only[gK,if_neg c1]at q
  rw[ap]at q c1 s
  have cl:=qZ (ex:=[aa id,.c (aG need)]) ad (by simp) (by simp[dy,df,bi,aG]) rfl q (by simp[eo,km])
  simp only[aG]at cl
  simp[-aD]at cl
  have⟨H1,j,w1,y,S⟩:=rz (h.snoc (x:=[.live 1 2 [[I 0,.aj []]]])) false er
  rw[zq E]at j w1
  simp[-aD,Wk.fail,c1]at j
  rw[s]
  simp[-aD,f71,mT,gV,iT,aV L,aG,cl,j,c1]
  exact⟨w1,(bq.snoc lb).trans y⟩
 simp only[gK,if_pos c1]at q
 have⟨d,ae⟩:=ak ((io w.n.book id need).1)
 rw[ae]at q
 have cl:=qZ (ex:=[aa id,.c (aG need)]) ad (by simp) (by simp[dy,df,bi,aG]) rfl q (La _ _ _ _)
 simp only[aG,afL,aiO,uv]at cl
 simp[-aD]at cl
 have⟨x,T⟩:=ak ([Ob.live 1 2 [[I d.last,.sl (H.length+1) 0 0 d.aA.length]],ah 4 (d.aA.map aN)])
 have z:=h.cell (x:=x) (i:=0) (o:= .live 1 2 [[I d.last,.sl (H.length+1) 0 0 d.aA.length]]) (by rw[<-T];rfl)
 have U:=h.cell (x:=x) (i:=1) (o:=ah 4 (d.aA.map aN)) (by rw[<-T];rfl)
 rw[aiw]at z
 have⟨H1,j,w1,y,S⟩:=rz (h.snoc (x:=x)) true 0
 rw[tV,E]at j
 rw[tV]at w1
 have⟨ay,az,aB,aE,aF,aH,S,V⟩:=w1.row
 have⟨lf,K,M,t⟩:=Zi S (by have:=hn.si;omega) need ab
 have W:=w1.lt
 have aq:=(z.step y).snoc (x:=K) W
 have ar:=(U.step y).snoc (x:=K) W
 have af:=((bq.snoc (x:=x) lb).trans y).trans (bq.snoc (x:=K) W)
 rw[<-T]at j
 simp only[aG]at M t
 simp[-aD]at j
 cases N:ld need (jY w.n)with
 |false=>
  have s:w.opens id need=w.fail 181:=by unfold Wk.opens;rw[if_neg (by simp[c1]),if_pos N]
  have⟨H2,k,w2,A,g2⟩:=rz (w1.snoc (x:=K)) false 181
  rw[zq E]at k w2
  rw[N]at t
  simp[-aD,Wk.fail]at k
  rw[s]
  simp[-aD,f71,mT,gV,iT,aV L,aG,cl,j,V,M,t,k]
  exact⟨w2,af.trans A⟩
 |true=>
  have s:w.opens id need=⟨{w.n with book:=d},w.out,w.seen++[(⟨0,w.n.id,id,0,cD need⟩:Ev)],w.e⟩:=by unfold Wk.opens;rw[if_neg (by simp[c1]),if_neg (by simp[N]),ae]
  have⟨H2,k,w2,A,g2⟩:=rz (w1.snoc (x:=K)) true 181
  rw[tV,E]at k
  rw[tV]at w2
  rw[N]at t
  simp[-aD]at k
  have⟨sl,ss,F,v,J,se,g,ag⟩:=w2.row
  have z:=(aq.step A).at'
  have U:=(ar.step A).at'
  have au:=g.Je (af.trans A) [] (w.put {w.n with book:=d}) sl (.sl (H.length+1) 0 0 d.aA.length) v (.inl ⟨rfl,rfl⟩) (.inr ⟨by simp[rf],.inr ⟨H.length+1,0,by simp[Wk.put],by rw[aeo,U];simp[Wk.put]⟩⟩) rfl (.inl ⟨rfl,rfl⟩) rfl rfl
  have⟨p,O⟩:=au
  rw[aeo]at p O
  have f:=p.hb
  have X:=LN (a:= .c (aG need)) (xb need) (by omega)
  simp only[aG]at X
  have⟨G,B⟩:=ak (H2.set b (ah 13 [bN (w.put {w.n with book:=d}) sl (.sl (H.length+1) 0 0 d.aA.length) F v J se]))
  rw[B]at p O f
  simp only[bN,Wk.put,aG]at B f
  have lG:=bf f
  have ai:∀l:List Ev,(l++[(⟨0,w.n.id,id,0,cD need⟩:Ev)]).map fW=l.map fW++[[I 0,I w.n.id,I id,I 0,.aj ((cD need).map aC)]]:=fun l=>by simp[fW,aG]
  rw[s]
  have al:=p.he
  have av:(w.put {w.n with book:=d}).seen=w.seen:=rfl
  rw[av]at al
  rcases al with⟨C,rfl⟩|⟨u,P,rfl,D⟩
  .simp at C
   have r:=p.NC (G:=(G++[Ob.live 0 5 [[I 0,I w.n.id,I id,I 0,.aj ((cD need).map aC)]],Ob.live 0 5 [[I 0,I w.n.id,I id,I 0,.aj ((cD need).map aC)]]]).set b (Ob.live 0 13 [bN ⟨(w.put {w.n with book:=d}).n,w.out,w.seen++[(⟨0,w.n.id,id,0,cD need⟩:Ev)],w.e⟩ sl (.sl (H.length+1) 0 0 d.aA.length) F v J (.sl (G.length+1) 0 0 1)])) (w.seen++[(⟨0,w.n.id,id,0,cD need⟩:Ev)]) (se':= .sl (G.length+1) 0 0 1) (ba (aV f)) (by simp) (fun m o Y Z h3=>by rw[aay (ain Z)];exact aV Y) (.inr ⟨G.length+1,0,by simp[C],by rw[aay (by omega),jd,ai];simp[C]⟩) (fun m hm=>by simp[Go.Nx.rf]at hm;exact .inr (by omega))
   simp[-aD,f71,mT,gV,iT,aV L,aG,cl,j,V,M,t,k,z,ag,B,f,C]
   simp[X,bi,aV f]
   rw[C,aiy]at r
   exact⟨r.1.at,O.trans r.2⟩
  .have Q:u≠b:=fun e=>by subst e;rw[f]at D;cases D
   rw[aeo]at D
   simp only[ahL]at f p B
   have r:=p.NC (G:=((G++[Ob.live 0 5 [[I 0,I w.n.id,I id,I 0,.aj ((cD need).map aC)]]]).set u (Ob.live (P+1) 5 (w.seen.map fW++[[I 0,I w.n.id,I id,I 0,.aj ((cD need).map aC)]]))).set b (Ob.live 0 13 [bN ⟨(w.put {w.n with book:=d}).n,w.out,w.seen++[(⟨0,w.n.id,id,0,cD need⟩:Ev)],w.e⟩ sl (.sl (H.length+1) 0 0 d.aA.length) F v J (.sl u (P+1) 0 (w.seen.length+1))])) (w.seen++[(⟨0,w.n.id,id,0,cD need⟩:Ev)]) (se':= .sl u (P+1) 0 (w.seen.length+1)) (ba (by rw[aay Q];exact aV f)) (by simp) (fun m o Y Z h3=>by rw[aay (ain Z),aay (fun e=>h3 (by subst e;simp[Go.Nx.rf]))];exact aV Y) (.inr ⟨u,P+1,by simp,by rw[aay (ain Q),ba (aV D),ai];simp⟩) (fun m hm=>by simp[Go.Nx.rf]at hm|-;exact .inl hm)
   have sb:∀am,(G.set u am)[b]?=_:=fun am=>(aay Q).trans f
   simp[-aD,f71,mT,gV,iT,aV L,aG,cl,j,V,M,t,k,z,ag,B,f]
   simp[X,bi,aV f,Q,aV D,show w.seen.length+1<=maxLen/\(w.seen.length+1)*56<=140737488355328 from⟨by unfold maxLen;omega,by omega⟩]
   exact⟨r.1.at,O.trans r.2⟩
end
section
variable{w:Wk}{H:List Ob}{b:Nat}
def ry(a:ci):w.eY a 0=if w.e=0 then w.put {w.n with book:=a}else w:=by unfold Wk.eY;simp only[decide_true,tV]
def uK(h:w.e=0)(b:ci){e:Int}(a:e≠0):w.eY b e=w.fail e:=by
 unfold Wk.eY;have c:decide (e=0)=false:=by simp[a]
 rw[c,zq h];rw[if_neg (by simp[Wk.fail,a])]
def Rq{sl i q s t se:ab}(g:cF H b w sl i q s t se)(a:w.e=0){f:FuncId}{ex:List au}{r:ci×Int}(j:tz.md f=0)(hex:dy H ex=some (ex,[]))(k:ex.any (eQ tz)=false)
  (hp:aS tz ay 0 f (.agg (bQ w.n.book)::ex)=some (gK r)):
  ∃l m x K,aO tz ay f (.agg [I w.n.book.last,i]::ex) H=some (.aM [.agg [I l,m],aa r.2],H++x)/\aO tz ay 115 [aw b,.agg [I l,m],aa r.2] (H++x)=some (aR (decide (r.2=0)),K)/\bZ K b (w.eY r.1 r.2)/\bq b H K:=by
 have o:=bf g.hb
 have p:decide ((w.eY r.1 r.2).e=0)=decide (r.2=0):=by
  by_cases c:r.2=0
  .rw[c,ry,if_pos a]
   simp[Wk.put,a]
  .rw[uK a _ c]
   simp[Wk.fail,c]
 by_cases c1:r.2=0
 .simp only[gK,if_pos c1]at hp
  have cl:=qZ (ex:=ex) g.dc j hex k hp (La _ _ _ _)
  have⟨K,d,w1,h⟩:=Aj (g.snoc (x:=[ah 4 (r.1.aA.map aN)])).at (bq.snoc o) r.1 (.sl H.length 0 0 r.1.aA.length) (.inr ⟨H.length,0,by simp,by rw[pq];simp⟩) (by simp[rf]) r.2
  refine⟨r.1.last,.sl H.length 0 0 r.1.aA.length,[ah 4 (r.1.aA.map aN)],K,?_,?_,w1,h⟩
  .rw[cl,c1]
   simp only[afL,aiO,uv]
   rfl
  .rw[dz (f:=115) rfl,d,p]
 .simp only[gK,if_neg c1]at hp
  have cl:=qZ (ex:=ex) g.dc j hex k hp (by simp[eo,km])
  have⟨K,d,w1,h⟩:=Aj (g.snoc (x:=[])).at (bq.snoc o) ⟨0,[]⟩ (.aj []) (.inl rfl) (by simp[rf]) r.2
  have u:w.eY ⟨0,[]⟩ r.2=w.eY r.1 r.2:=by rw[uK a _ c1,uK a _ c1]
  rw[u]at d w1
  refine⟨0,.aj [],[],K,?_,?_,w1,h⟩
  .rw[cl]
   rfl
  .rw[dz (f:=115) rfl,d,p]
def Wk.release(w:Wk)(id:Int):Wk:=if(de w.n.book id 1).2=0 then((w.eY (de w.n.book id 1).1 (de w.n.book id 1).2).dM 2 id).di else w.fail (de w.n.book id 1).2
def GZ(h:w.e=0)(hn:fm w.n){a:ci}(b:iN a):fm (w.eY a 0).n:=by rw[ry,if_pos h];exact⟨hn.si,hn.nd,b,hn.kn,hn.tl,hn.aq⟩
def HV(h:w.e=0)(a:ci):(w.eY a 0).seen=w.seen:=by rw[ry,if_pos h];rfl
def QV{b:ci}(h:iN b)(id d:Int):iN (de b id d).1:=by
 unfold de;split
 .exact ⟨by simp,by simp⟩
 .split
  .exact ⟨by simp,by simp⟩
  .split
   .rename_i s a _
    have e:∀l:List bY,(ey id l).length<=l.length/\∀s∈ey id l,s∈l:=by
     intro l;induction l with
     |nil=>exact⟨by simp[ey],by simp[ey]⟩
     |cons x r c=>
      unfold ey;split
      .exact ⟨by simp,fun s a=>by simp[a]⟩
      .refine ⟨by simp;exact c.1,fun s a=>?_⟩;rcases ae3.1 a with rfl|a
       .simp
       .simp[c.2 s a]
    have⟨g,f⟩:=e b.aA;exact⟨by have:=h.1;show(ey id b.aA).length<=_;omega,fun s a=>h.2 s (f s a)⟩
   .exact ⟨by simp,by simp⟩
def ZK(h:bZ H b w)(hn:fm w.n)(c:w.e=0)(y:w.seen.length<=20000)(id o p:Int)(j:ab)(z:bD j=true):
  ∃d,bB tz (ev tz) 71 [aw b,.agg [I 1,I id,I o,I p,j]] H=some (.aM [],d)/\bZ d b (w.release id)/\bq b H d:=by
 refine gv func71 rfl ?_
 have⟨sl,A,B,C,D,se,g,k⟩:=h.row
 have⟨E,F,x,K,i,a,w1,l⟩:=Rq g c (f:=116) (ex:=[aa id]) (by simp) (by simp[dy,df]) rfl (aaS w.n.book id hn.bk)
 by_cases c1:(de w.n.book id 1).2=0
 .have em:w.release id=((w.eY (de w.n.book id 1).1 (de w.n.book id 1).2).dM 2 id).di:=by unfold Wk.release;rw[if_pos c1]
  rw[em]
  rw[c1]at i a w1|-
  have⟨m,q,w2,r⟩:=xX w1 2 id (by decide) (by rw[HV c];omega)
  have⟨s,t,w3,f3⟩:=Au w2 (GZ c hn (QV hn.bk id 1))
  have u:aO tz ay 117 [aw b,aa 2,aa id] K=some (.aM [],m):=by rw[dz (f:=117) rfl];exact q
  have v:aO tz ay 118 [aw b] m=some (.aM [],s):=by rw[dz (f:=118) rfl];exact t
  simp[-aD]at a
  simp[-aD,f71,k,i,a,u,v]
  exact⟨w3,(l.trans r).trans f3⟩
 .have em:w.release id=w.fail (de w.n.book id 1).2:=by unfold Wk.release;rw[if_neg c1]
  rw[em]
  rw[uK c _ c1]at w1
  simp[-aD,c1]at a
  simp[-aD,f71,k,i,a]
  exact⟨w1,l⟩
end
section
variable{b:Nat}{H:List Ob}{w:Wk}
def pM(b:ci):Int:=match b.aA with
 |[]=>0
 |s::_=>s.id
def Wk.cancel(w:Wk)(id:Int):Wk:=if(de w.n.book id 0).2=0 then(if pM w.n.book=id/\w.n.dr.aQ=1 then((w.eY (de w.n.book id 0).1 (de w.n.book id 0).2).dM 3 id).di else(w.eY (de w.n.book id 0).1 (de w.n.book id 0).2).dM 3 id)else w.fail (de w.n.book id 0).2
def SQ{G:List Ob}{v:Wk}{sl e h i k se:ab}(g:cF G b v sl e h i k se):
  aO tz ay 119 [.agg [I v.n.dr.ai.id,I v.n.dr.ai.phase,sl,I v.n.dr.aQ,aG v.n.dr.need,I v.n.book.last,e,h,aG v.n.told,i]] G=some (.aM [.agg (tx v.n.book.aA),aR (!v.n.book.aA.isEmpty)],G):=by
 cases j:v.n.book.aA with
 |nil=>
  have cl:=qK g (f:=119) (r:= .aM [.agg [I 0,.aj [],I 0,I 0],aR false]) (own:=[]) (by simp) (fun a c=>by rw[uM _ a c,j]) (fun l d=>by rcases d with rfl|rfl|rfl|rfl<;>rfl)
  rw[cl]
  simp[tx]
 |cons s r=>
  have cl:=qK g (f:=119) (r:= .aM [.agg (aN s),aR true]) (own:=[]) (by simp) (fun a c=>by rw[uM _ a c,j]) (fun l d=>by rcases d with rfl|rfl|rfl|rfl<;>simp[aN,u5])
  rw[cl]
  simp[tx,aN]
def aaf(l:List bY)(b:Int):∃a c d,tx l=[I (pM ⟨b,l⟩),a,I c,I d]/\bD a=true:=by
 cases l with
 |nil=>exact⟨.aj [],0,0,rfl,rfl⟩
 |cons s r=>exact⟨aG s.need,s.state,s.cH,rfl,by simp[aG,bi]⟩
def UE(h:bZ H b w)(hn:fm w.n)(o:w.e=0)(S:w.seen.length<=20000)(id G J:Int)(C:ab)(T:bD C=true):
  ∃y,bB tz (ev tz) 71 [aw b,.agg [I 2,I id,I G,I J,C]] H=some (.aM [],y)/\bZ y b (w.cancel id)/\bq b H y:=by
 refine gv func71 rfl ?_
 have⟨sl,U,V,W,X,se,D,k⟩:=h.row
 have L:=h.lt
 have a:=SQ D
 have⟨q,r,s,E,Y⟩:=aaf w.n.book.aA w.n.book.last
 have M:pM ⟨w.n.book.last,w.n.book.aA⟩=pM w.n.book:=rfl
 rw[M]at E
 rw[E]at a
 have z:=h.cell (x:=[ah 4 [[I (pM w.n.book),q,I r,I s]]]) (i:=0) rfl
 rw[aiw]at z
 have g:=D.snoc (x:=[ah 4 [[I (pM w.n.book),q,I r,I s]]])
 have d:=aV (m:=[ah 4 [[I (pM w.n.book),q,I r,I s]]]) k
 have⟨Z,lf,x,K,j,c,w1,p⟩:=Rq g o (f:=120) (ex:=[aa id]) (by simp) (by simp[dy,df]) rfl (acr w.n.book id hn.bk)
 have t:=bq.snoc (x:=[ah 4 [[I (pM w.n.book),q,I r,I s]]]) L
 simp only[aG]at a
 have⟨N,A⟩:=ak (pM w.n.book)
 by_cases c1:(de w.n.book id 0).2=0
 .rw[c1]at j c w1
  have⟨F,O,w2,u⟩:=xX w1 3 id (by decide) (by rw[HV o];omega)
  have B:aO tz ay 117 [aw b,aa 3,aa id] K=some (.aM [],F):=by rw[dz (f:=117) rfl];exact O
  have l:=((z.step p).step u).at'
  have⟨ad,ae,af,ag,ai,aj,g2,v⟩:=w2.row
  have hth:((w.eY (de w.n.book id 0).1 0).dM 3 id).n.dr.aQ=w.n.dr.aQ:=by rw[ry,if_pos o];rfl
  rw[hth]at v
  simp[-aD]at c
  rw[A]at a l d j c z
  by_cases c2:N=id
  .by_cases c3:w.n.dr.aQ=1
   .have em:w.cancel id=((w.eY (de w.n.book id 0).1 0).dM 3 id).di:=by unfold Wk.cancel;rw[if_pos c1,c1,if_pos ⟨A.trans c2,c3⟩]
    have⟨P,Q,w3,f3⟩:=Au w2 (GZ o hn (QV hn.bk id 0))
    have R:aO tz ay 118 [aw b] F=some (.aM [],P):=by rw[dz (f:=118) rfl];exact Q
    rw[em]
    rw[c2]at a l j c d
    rw[c3]at v a k d
    simp[-aD,f71,k,d,a,j,c,B,R,l,v]
    exact⟨w3,((t.trans p).trans u).trans f3⟩
   .have em:w.cancel id=(w.eY (de w.n.book id 0).1 0).dM 3 id:=by unfold Wk.cancel;rw[if_pos c1,c1,if_neg (fun h=>c3 h.2)]
    rw[em]
    rw[c2]at a l j c d
    simp[-aD,f71,k,d,a,j,c,B,l,v,c3]
    exact⟨w2,(t.trans p).trans u⟩
  .have em:w.cancel id=(w.eY (de w.n.book id 0).1 0).dM 3 id:=by unfold Wk.cancel;rw[if_pos c1,c1,if_neg (fun h=>c2 (A.symm.trans h.1))]
   rw[em]
   simp[-aD,f71,k,d,a,j,c,B,l,c2]
   exact⟨w2,(t.trans p).trans u⟩
 .have em:w.cancel id=w.fail (de w.n.book id 0).2:=by unfold Wk.cancel;rw[if_neg c1]
  rw[em]
  rw[uK o _ c1]at w1
  simp[-aD,c1]at c
  simp[-aD,f71,k,d,a,j,c]
  exact⟨w1,t.trans p⟩
def Wk.tick(w:Wk)(a:Int):Wk:=if(dQ w.n.book a).2.2=0 then(if(dQ w.n.book a).2.1≠0 then((w.eY (dQ w.n.book a).1 0).dM 4 (dQ w.n.book a).2.1).di else w.eY (dQ w.n.book a).1 0)else w.fail (dQ w.n.book a).2.2
def abx{b:ci}(h:iN b)(f:Int):iN (dQ b f).1:=by
 unfold dQ;split
 .exact ⟨by simp,by simp⟩
 .cases e:b.aA with
  |nil=>exact h
  |cons s r=>
   have⟨d,a⟩:=h;rw[e]at d a;simp only;split
   .split
    .refine ⟨by simpa using d,fun t c=>?_⟩;rcases ae3.1 c with rfl|c
     .exact a s (by simp)
     .exact a t (by simp[c])
    .refine ⟨by simp at d|-;omega,fun t c=>a t (by simp[c])⟩
   .exact ⟨by rw[e];exact d,by rw[e];exact a⟩
def ZX(h:bZ H b w)(hn:fm w.n)(d:w.e=0)(P:w.seen.length<=20000)(id C c:Int)(u:ab)(Q:bD u=true):
  ∃p,bB tz (ev tz) 71 [aw b,.agg [I 3,I id,I C,I c,u]] H=some (.aM [],p)/\bZ p b (w.tick c)/\bq b H p:=by
 refine gv func71 rfl ?_
 have⟨sl,D,R,S,T,se,g,q⟩:=h.row
 have v:=h.lt
 have j:=agB w.n.book c hn.bk
 have y:kF (H++[.dead]) D w.n.book.aA:=g.dc.aJ fun _ _ _ _ h=>aV h
 obtain⟨⟨a,i,e⟩,z⟩:∃r,dQ w.n.book c=r:=⟨_,rfl⟩
 have s:=abx hn.bk c
 rw[z]at j s
 unfold Wk.tick
 rw[z]
 simp only at s|-
 by_cases c1:e=0
 case neg=>
  simp only[lF,if_neg c1]at j
  have cl:=qZ (ex:=[aa c]) y (by simp) (by simp[dy,df]) rfl j (by simp[eo,km])
  simp[-aD]at cl
  have A:=h.cell (x:=[.live 1 2 [[I 0,.aj []]]]) (i:=0) rfl
  have⟨K,k,w1,m⟩:=Aj (h.snoc (x:=[.live 1 2 [[I 0,.aj []]]])) (bq.snoc v) ⟨0,[]⟩ (.aj []) (.inl rfl) (by simp[rf]) e
  rw[uK d _ c1]at k w1
  have l:aO tz ay 115 [aw b,.agg [I 0,.aj []],aa e] (H++[.live 1 2 [[I 0,.aj []]]])=some (aR false,K):=by rw[dz (f:=115) rfl,k];simp[Wk.fail,c1]
  rw[if_neg c1]
  simp[-aD,f71,mT,gV,iT,aV q,cl,l]
  exact⟨w1,m⟩
 subst c1
 simp only[lF,if_true]at j
 have cl:=qZ (ex:=[aa c]) y (by simp) (by simp[dy,df]) rfl j (Q8 _ _ _ _ _)
 simp only[afL,aiO,uv]at cl
 simp[-aD]at cl
 have⟨x,t⟩:=ak ([Ob.live 1 2 [[I a.last,.sl (H.length+1) 0 0 a.aA.length]],ah 4 (a.aA.map aN)])
 have A:=h.cell (x:=x) (i:=0) (o:= .live 1 2 [[I a.last,.sl (H.length+1) 0 0 a.aA.length]]) (by rw[<-t];rfl)
 have E:=h.cell (x:=x) (i:=1) (o:=ah 4 (a.aA.map aN)) (by rw[<-t];rfl)
 rw[aiw]at A
 have⟨K,k,w1,m⟩:=Aj (h.snoc (x:=x)) (bq.snoc (x:=x) v) a (.sl (H.length+1) 0 0 a.aA.length) (.inr ⟨H.length+1,0,by simp,by rw[E.at'];simp⟩) (by simp[rf]) 0
 have F:decide ((w.eY a 0).e=0)=true:=by rw[ry,if_pos d];simp[Wk.put,d]
 rw[F]at k
 have l:aO tz ay 115 [aw b,.agg [I a.last,.sl (H.length+1) 0 0 a.aA.length],aa 0] (H++x)=some (aR true,K):=by rw[dz (f:=115) rfl,k]
 rw[<-t]at l
 have U:=w1.lt
 rw[if_pos rfl]
 by_cases c2:i=0
 .rw[if_neg (by simp[c2])]
  rw[c2]at cl
  simp[-aD,f71,mT,gV,iT,aV q,cl,l]
  exact⟨w1,m⟩
 .rw[if_pos c2]
  have⟨B,G,w2,J⟩:=xX w1 4 i (by decide) (by rw[HV d];omega)
  have⟨L,M,w3,f3⟩:=Au w2 (GZ d hn s)
  have N:aO tz ay 117 [aw b,aa 4,aa i] K=some (.aM [],B):=by rw[dz (f:=117) rfl];exact G
  have O:aO tz ay 118 [aw b] B=some (.aM [],L):=by rw[dz (f:=118) rfl];exact M
  simp[-aD,f71,mT,gV,iT,aV q,cl,l,N,O,c2]
  exact⟨w3,(m.trans J).trans f3⟩
end
section
variable{H:List Ob}{b:Nat}{w:Wk}
def bg(n:Nd):Wk:=⟨n,[],[],if dv n then 0 else 180⟩
structure Act where
 kind:Int
 id:Int
 peer:Int
 hold:Int
 need:List Int
def sc(a b:Int):aI:=⟨a,b+1,1,true,true,false,true,false⟩
def cN(n:Nd)(a:Act):Wk:=
 if a.kind=0 then(if dv n=true then(bg n).opens a.id a.need else bg n)
 else if a.kind=1 then(if dv n=true then(bg n).release a.id else bg n)
 else if a.kind=2 then(if dv n=true then(bg n).cancel a.id else bg n)
 else if a.kind=3 then(if dv n=true then(bg n).tick a.hold else bg n)
 else if a.kind=4 then(if dv n=true then(if(a.peer>n.dr.ai.id&&a.peer<64)=false then(bg n).fail 182 else if cK n.dr.ai.af a.peer=true then(bg n).fail 183 else if gR n.known a.peer<65535 then(bg n).nW (sc a.peer (gR n.known a.peer))else(bg n).fail 186)else bg n)
 else if a.kind=5 then(if dv n=true then(if(a.peer>n.dr.ai.id&&a.peer<64)=false then(bg n).fail 182 else match n.dr.ai.af.find? (cQ a.peer)with
  |none=>(bg n).fail 184
  |some x=>if oC x=true then(bg n).shut a.peer else(bg n).fail 185)else bg n)
 else(if dv n=true then(bg n).fail 188 else bg n)
structure BO(n:Nd):Prop where
 s:fm n
 sd:dv n=true->pf n.dr.ai.af
 kn:dv n=true->wG n.known
 bk:dv n=true->cM n.book=true
 id:dv n=true->0<=n.dr.ai.id
 ep:dv n=true->∀p,0<=gR n.known p
def pB(n:Nd):List Ob:=[ah 10 [jC],ah 8 (n.dr.ai.af.map ax),ah 4 (n.book.aA.map aN),ah 2 (n.known.map aW),ah 2 (n.asked.map aW),ah 13 [bN (bg n) (.sl 1 0 0 n.dr.ai.af.length) (.sl 2 0 0 n.book.aA.length) (.sl 3 0 0 n.known.length) (.sl 4 0 0 n.asked.length) ap ap]]
def aeh(n:Nd):cF (pB n) 5 (bg n) (.sl 1 0 0 n.dr.ai.af.length) (.sl 2 0 0 n.book.aA.length) (.sl 3 0 0 n.known.length) (.sl 4 0 0 n.asked.length) ap ap:=by
 refine⟨rfl,⟨[],1,0,by simp[bg],by simp[pB,bg]⟩,.inr ⟨2,0,by simp[bg],by simp[pB,bg]⟩,⟨3,0,by simp[bg],by simp[pB,bg]⟩,.inr ⟨4,0,by simp[bg],by simp[pB,bg]⟩,.inl ⟨rfl,rfl⟩,.inl ⟨rfl,rfl⟩,?_,?_⟩
 .intro m a b;simp[rf]at a b;omega
 .intro m a b;simp[rf]at a
def Yx(n:Nd):Cell 5 (pB n) 0 (ah 10 [jC]):=⟨rfl,by decide,by simp[pB,oH,eu,bN,rf,aG]⟩
def mF(w:Wk)(r:au):Prop:=if w.e=0 then ∃v a le,r= .aM [.agg (aT v.n),.c a,.c le,aa 0]/\jm w v/\((a=ap/\v.out=[])\/a= .aj (v.out.map dX))/\((le=ap/\v.seen=[])\/le= .aj (v.seen.map fW))else r= .aM [.agg [I 0,I 0,.aj [],I 0,.aj [],I 0,.aj [],.aj [],.aj [],.aj []],.c ap,.c ap,aa w.e]
def Tw(l:ab):da (da l)=da l:=by unfold da;split<;>first|rfl|(split<;>first|rfl|simp_all)
def Sv{t:Nat}(h:bZ H b w)(J:w.e=0->eV w)(hc:Cell b H t (ah 10 [jC])):∃j k l m p q s u x y d le e a,aO tz ay 76 [aw b] H=some (.aM [.agg [j,k,l,m,p,q,s,u,x,y],.c d,.c le,aa e],a)/\a[t]?=some (ah 10 [jC])/\
  ∃o,dF true (a.set t (ah 10 [[j,k,l,m,p,q,s,u,x,y]])) (.aM [.agg [da j,da k,da l,da m,da p,da q,da s,da u,da x,da y],.c d,.c le,aa e])=some (o,[])/\mF w o:=by
 by_cases i:w.e=0
 .have ⟨r,a,z,A,K⟩:=adX h (J i)
  obtain⟨v,sl,B,C,D,E,se,rfl,g,L⟩:=A
  have F:=hc.step K
  have M:wO b w (.aM [.agg ((qM v sl B C D).map da),.c E,.c se,aa 0]) (a.set t (ah 10 [(qM v sl B C D).map da])):=⟨v,sl,B,C,D,E,se,rfl,g.OZ F _,L⟩
  have⟨G,d,le,N,O,P,Q⟩:=abD M
  refine⟨_,_,_,_,_,_,_,_,_,_,E,se,0,a,by rw[dz (f:=76) rfl,z];rfl,F.at',.aM [.agg (aT G.n),.c d,.c le,aa 0],?_,?_⟩
  .simp only[Tw]
   exact N
  .unfold mF
   rw[if_pos i]
   exact⟨G,d,le,rfl,O,P,Q⟩
 .have ⟨a,z,A⟩:=XA h i
  refine⟨I 0,I 0,.aj [],I 0,.aj [],I 0,.aj [],.aj [],.aj [],.aj [],ap,ap,w.e,a,by rw[dz (f:=76) rfl];exact z,A _ _ hc.at',.aM [.agg [I 0,I 0,.aj [],I 0,.aj [],I 0,.aj [],.aj [],.aj [],.aj []],.c ap,.c ap,aa w.e],by simp,?_⟩
  unfold mF
  rw[if_neg i]
def Pg{f:FuncId}{args:List au}{r o:au}{a:List Ob}(b:bB tz (ev tz) f args []=some (r,a))(c:dF true a r=some (o,[])):aS tz ay 1 f args=some (o,[]):=by unfold aS ay;rw[b];exact c
def Vl(l:List aI)(p:Int):decide (dw (cQ p) 0 l<0)=!cK l p/\decide (dw (cQ p) 0 l>=0)=cK l p:=by
 have a:=Ay (cQ p) l 0;have b:l.any (cQ p)=cK l p:=rfl;rw[b]at a;constructor
 .rw[<-a];by_cases h:0<=dw (cQ p) 0 l
  .have:¬dw (cQ p) 0 l<0:=by omega
   simp[h,this]
  .have:dw (cQ p) 0 l<0:=by omega
   simp[h,this]
 .exact a
def ll(h:bZ H b w)(d:w.e≠0)(c:Bool)(e:Int):∃a,aO tz ay 72 [aw b,aR c,aa e] H=some (aR false,a)/\bZ a b w/\bq b H a:=by
 have⟨a,f,g,j,_⟩:=rz h c e;have i:w.need c e=w:=by simp[Wk.need,d]
 rw[i,decide_eq_false d]at f;rw[i]at g;exact⟨a,f,g,j⟩
def pb(h:bZ H b w)(f:w.e=0)(e:Int):∃a,aO tz ay 72 [aw b,aR true,aa e] H=some (aR true,a)/\bZ a b w/\bq b H a:=by have⟨a,c,d,g,_⟩:=rz h true e;rw[tV,decide_eq_true f]at c;rw[tV]at d;exact⟨a,c,d,g⟩
def ki(h:bZ H b w)(f:w.e=0){e:Int}(g:e≠0):∃a,aO tz ay 72 [aw b,aR false,aa e] H=some (aR false,a)/\bZ a b (w.fail e)/\bq b H a:=by
 have⟨a,c,d,i,_⟩:=rz h false e;rw[zq f]at c d;have:decide ((w.fail e).e=0)=false:=by simp[Wk.fail,g]
 rw[this]at c;exact⟨a,c,d,i⟩
def acg(x:aI)(H:List Ob):aO tz ay 74 [.agg (ax x)] H=some (aR (oC x),H):=by have h:=PO x;simp only[ax]at h;simp[h,ax]
def Yf(n:Nd)(a:Act)(w:ab)(R:BO n)(ap:bD w=true)(h0:a.kind=0->w=aG a.need/\a.need.length<=100000)(hs:(cN n a).e=0->eV (cN n a)):
  ∃o,aS tz ay 1 35 [.agg (aT n),.agg [I a.kind,I a.id,I a.peer,I a.hold,w]]=some (o,[])/\mF (cN n a) o:=by
 have F:=R.s
 have az:=yO n F
 have aA:=I0 n F
 have aq:=DX n a.peer (by have:=F.kn;unfold maxLen;omega)
 simp only[aT,aG,pU]at az aA aq
 have⟨aB,J,S,o,X,h3⟩:=cG (C:=tz) (f:=35) (args:=[.agg (aT n),.agg [I a.kind,I a.id,I a.peer,I a.hold,w]]) (H:=[]) (fun aB J=>∃o,dF true J aB=some (o,[])/\mF (cN n a) o) func35 rfl (by
  simp only[f35,bX]
  refine bp [(2,.c (.aK [aT n] 0 0)),(3,.c (.aK [[I a.kind,I a.id,I a.peer,I a.hold,w]] 0 0)),(4,aw 0)] (fun G=>G=[ah 10 [jC]]) ?_ ?_
  .simp[aT,jC]
  rintro e G⟨i,b,d,_⟩O
  subst O
  refine bp [(2,.c (.aK [aT n] 0 0)),(3,.c (.aK [[I a.kind,I a.id,I a.peer,I a.hold,w]] 0 0)),(4,aw 0),(8,aw 5)] (fun G=>G=pB n) ?_ ?_
  .simp only[aT,aG]at i
   simp[i,b,d,az,aA,bL,bW,bS,aT,pB,bN,bg]
  clear i b d
  rintro e G⟨i,b,d,h,_⟩O
  subst O
  have ae:=aeh n
  have M:=ae.hb
  have cp:=FY ae a.peer (by show n.dr.ai.af.length<=_;have:=F.si;omega)
  have aH:(bg n).n.dr.ai.af=n.dr.ai.af:=rfl
  rw[aH]at cp
  have⟨E,ag⟩:=ak (dw (cQ a.peer) 0 n.dr.ai.af)
  have⟨x,aj⟩:=ak (gR n.known a.peer)
  rw[ag]at cp
  rw[aj]at aq
  have⟨HA,aI⟩:=ak (pB n)
  have r:=Yx n
  have wt:=ae.at
  rw[aI]at cp r wt ae M|-
  refine bp [(2,.c (.aK [aT n] 0 0)),(3,.c (.aK [[I a.kind,I a.id,I a.peer,I a.hold,w]] 0 0)),(4,aw 0),(8,aw 5),(9,aa E)] (fun G=>G=HA) ?_ ?_
  .simp[-aD,i,b,d,h,cp]
  clear i b d h
  rintro e G⟨i,b,d,h,u,_⟩O
  subst O
  refine bp [(2,.c (.aK [aT n] 0 0)),(3,.c (.aK [[I a.kind,I a.id,I a.peer,I a.hold,w]] 0 0)),(4,aw 0),(8,aw 5),(9,aa E),(10,aa x)] (fun aJ=>aJ=G) ?_ ?_
  .simp only[aT,aG]at i
   simp[i,b,d,h,u,aq,bL,bW,bS,aT]
  clear i b d h u
  rintro e G⟨i,b,d,h,u,P,_⟩O
  subst O
  refine bp [(4,aw 0),(8,aw 5)] (fun G=>bZ G 5 (cN n a)/\Cell 5 G 0 (ah 10 [jC])) ?_ ?_
  .have aX:(bg n).n=n:=rfl
   cases m:dv n with
   |false=>
    have l:(bg n).e=180:=by simp[bg,m]
    have hn:cN n a=bg n:=by unfold cN;simp[m]
    rw[hn]
    have T:∀(H:List Ob) (is:Bool) (e:Int),bZ H 5 (bg n)->∃J,aO tz ay 72 [aw 5,aR is,aa e] H=some (aR false,J)/\bZ J 5 (bg n)/\bq 5 H J:=fun H is e hw=>by
     have⟨J,S,X,h3,_⟩:=rz hw is e
     have e1:(bg n).need is e=bg n:=by simp[Wk.need,l]
     rw[e1,l]at S
     rw[e1]at X
     exact⟨J,S,X,h3⟩
    simp only[bN,l,aG]at M
    simp only[aT,aG]at i
    by_cases v:a.kind=0\/a.kind=1\/a.kind=2\/a.kind=3
    .rcases v with v|v|v|v
     all_goals
      rw[v]at b
      simp[-aD,b,d,h,M]
      exact⟨wt,r⟩
    simp only[not_or]at v
    have⟨v,U,V,W⟩:=v
    by_cases y:a.kind=4
    .rw[y]at b
     have⟨z,d1,w1,g⟩:=T G (decide (a.peer>n.dr.ai.id)&&decide (a.peer<64)) 182 wt
     have⟨A,d2,w2,q⟩:=T z (decide (E<0)) 183 w1
     have⟨L,d3,w3,f3⟩:=T A (decide (x<65535)) 186 w2
     have c3:=((r.step g).step q).step f3
     by_cases k:a.peer>n.dr.ai.id
     all_goals
      simp[-aD,k]at d1
      simp[-aD,i,b,d,h,u,P,k,d1,d2,d3]
      exact⟨w3,c3⟩
    by_cases B:a.kind=5
    .rw[B]at b
     have⟨z,d1,w1,g⟩:=T G (decide (a.peer>n.dr.ai.id)&&decide (a.peer<64)) 182 wt
     have⟨A,d2,w2,q⟩:=T z (decide (E>=0)) 184 w1
     have c3:=(r.step g).step q
     by_cases k:a.peer>n.dr.ai.id
     all_goals
      simp[-aD,k]at d1
      simp[-aD,i,b,d,h,u,k,d1,d2]
      exact⟨w2,c3⟩
    have⟨z,d1,w1,g⟩:=T G false 188 wt
    simp[-aD,b,d,h,v,U,V,W,y,B,d1]
    exact⟨w1,r.step g⟩
   |true=>
    have l:(bg n).e=0:=by simp[bg,m]
    have Y:(bg n).seen.length<=20000:=by simp[bg]
    simp only[bN,l,aG]at M
    simp only[aT,aG]at i
    by_cases v:a.kind=0
    .have hn:cN n a=(bg n).opens a.id a.need:=by unfold cN;simp[v,m]
     have⟨aL,aN⟩:=h0 v
     subst aL
     have⟨K,d1,w1,g⟩:=W7 wt F l Y a.id a.peer a.hold a.need aN
     have N:aO tz ay 71 [aw 5,.agg [I 0,I a.id,I a.peer,I a.hold,aG a.need]] G=some (.aM [],K):=by rw[dz (f:=71) rfl];exact d1
     rw[v]at b
     simp only[aG]at b N
     rw[hn]
     simp[-aD,b,d,h,M,N]
     exact⟨w1,r.step g⟩
    by_cases U:a.kind=1
    .have hn:cN n a=(bg n).release a.id:=by unfold cN;simp[U,m]
     have⟨K,d1,w1,g⟩:=ZK wt F l Y a.id a.peer a.hold w ap
     have N:aO tz ay 71 [aw 5,.agg [I 1,I a.id,I a.peer,I a.hold,w]] G=some (.aM [],K):=by rw[dz (f:=71) rfl];exact d1
     rw[U]at b
     rw[hn]
     simp[-aD,b,d,h,M,N]
     exact⟨w1,r.step g⟩
    by_cases V:a.kind=2
    .have hn:cN n a=(bg n).cancel a.id:=by unfold cN;simp[V,m]
     have⟨K,d1,w1,g⟩:=UE wt F l Y a.id a.peer a.hold w ap
     have N:aO tz ay 71 [aw 5,.agg [I 2,I a.id,I a.peer,I a.hold,w]] G=some (.aM [],K):=by rw[dz (f:=71) rfl];exact d1
     rw[V]at b
     rw[hn]
     simp[-aD,b,d,h,M,N]
     exact⟨w1,r.step g⟩
    by_cases W:a.kind=3
    .have hn:cN n a=(bg n).tick a.hold:=by unfold cN;simp[W,m]
     have⟨K,d1,w1,g⟩:=ZX wt F l Y a.id a.peer a.hold w ap
     have N:aO tz ay 71 [aw 5,.agg [I 3,I a.id,I a.peer,I a.hold,w]] G=some (.aM [],K):=by rw[dz (f:=71) rfl];exact d1
     rw[W]at b
     rw[hn]
     simp[-aD,b,d,h,M,N]
     exact⟨w1,r.step g⟩
    have hid:=R.id m
    by_cases y:a.kind=4
    .rw[y]at b
     by_cases k:a.peer>n.dr.ai.id
     case neg=>
      have hn:cN n a=(bg n).fail 182:=by unfold cN;simp[y,m,k]
      have⟨z,d1,w1,g⟩:=ki wt l (e:=182) (by decide)
      have⟨A,d2,w2,q⟩:=ll w1 (by simp[Wk.fail]) (decide (E<0)) 183
      have⟨L,d3,w3,f3⟩:=ll w2 (by simp[Wk.fail]) (decide (x<65535)) 186
      rw[hn]
      simp[-aD,i,b,d,h,u,P,k,d1,d2,d3]
      exact⟨w3,((r.step g).step q).step f3⟩
     by_cases t:a.peer<64
     case neg=>
      have hn:cN n a=(bg n).fail 182:=by unfold cN;simp[y,m,t]
      have⟨z,d1,w1,g⟩:=ki wt l (e:=182) (by decide)
      have⟨A,d2,w2,q⟩:=ll w1 (by simp[Wk.fail]) (decide (E<0)) 183
      have⟨L,d3,w3,f3⟩:=ll w2 (by simp[Wk.fail]) (decide (x<65535)) 186
      rw[hn]
      simp[-aD,i,b,d,h,u,P,k,t,d1,d2,d3]
      exact⟨w3,((r.step g).step q).step f3⟩
     have⟨z,d1,w1,g⟩:=pb wt l 182
     have D:=(Vl n.dr.ai.af a.peer).1
     rw[ag]at D
     cases Z:cK n.dr.ai.af a.peer with
     |true=>
      have hn:cN n a=(bg n).fail 183:=by unfold cN;simp[y,m,k,t,Z]
      rw[Z]at D
      have al:¬E<0:=by simpa using D
      have⟨A,d2,w2,q⟩:=ki w1 l (e:=183) (by decide)
      have⟨L,d3,w3,f3⟩:=ll w2 (by simp[Wk.fail]) (decide (x<65535)) 186
      rw[hn]
      simp[-aD,i,b,d,h,u,P,k,t,d1,al,d2,d3]
      exact⟨w3,((r.step g).step q).step f3⟩
     |false=>
      rw[Z]at D
      have al:E<0:=by simpa using D
      have⟨A,d2,w2,q⟩:=pb w1 l 183
      by_cases p4:x<65535
      case neg=>
       have hn:cN n a=(bg n).fail 186:=by unfold cN;simp[y,m,k,t,Z,aj,p4]
       have⟨L,d3,w3,f3⟩:=ki w2 l (e:=186) (by decide)
       rw[hn]
       simp[-aD,i,b,d,h,u,P,k,t,d1,al,d2,p4,d3]
       exact⟨w3,((r.step g).step q).step f3⟩
      have hn:cN n a=(bg n).nW (sc a.peer x):=by unfold cN;simp[y,m,k,t,Z,aj,p4]
      have⟨L,d3,w3,f3⟩:=pb w2 l 186
      have aY:0<=x:=by rw[<-aj];exact R.ep m a.peer
      have aP:ads.wrap (x+1)=x+1:=wrap_i64 (by omega) (by omega)
      have⟨H4,d4,w4,f4⟩:=aeV w3 (R.sd m) (R.kn m) (sc a.peer x) (by show -1000000<=a.peer;omega) (by show a.peer<=1000000;omega)
      have aC:aO tz ay 73 [aw 5,.agg (ax (sc a.peer x))] L=some (.aM [],H4):=by rw[dz (f:=73) rfl];exact d4
      simp only[ax,sc]at aC
      rw[hn]
      simp[-aD,i,b,d,h,u,P,k,t,d1,al,d2,p4,d3,aP,aC]
      exact⟨w4,(((r.step g).step q).step f3).step f4⟩
    by_cases B:a.kind=5
    .rw[B]at b
     by_cases k:a.peer>n.dr.ai.id
     case neg=>
      have hn:cN n a=(bg n).fail 182:=by unfold cN;simp[B,m,k]
      have⟨z,d1,w1,g⟩:=ki wt l (e:=182) (by decide)
      have⟨A,d2,w2,q⟩:=ll w1 (by simp[Wk.fail]) (decide (E>=0)) 184
      rw[hn]
      simp[-aD,i,b,d,h,u,k,d1,d2]
      exact⟨w2,(r.step g).step q⟩
     by_cases t:a.peer<64
     case neg=>
      have hn:cN n a=(bg n).fail 182:=by unfold cN;simp[B,m,t]
      have⟨z,d1,w1,g⟩:=ki wt l (e:=182) (by decide)
      have⟨A,d2,w2,q⟩:=ll w1 (by simp[Wk.fail]) (decide (E>=0)) 184
      rw[hn]
      simp[-aD,i,b,d,h,u,k,t,d1,d2]
      exact⟨w2,(r.step g).step q⟩
     have⟨z,d1,w1,g⟩:=pb wt l 182
     cases Q:n.dr.ai.af.find? (cQ a.peer)with
     |none=>
      have hn:cN n a=(bg n).fail 184:=by unfold cN;simp[B,m,k,t,Q]
      have D:=qG (p:=cQ a.peer) 0 Q
      rw[ag]at D
      subst D
      have⟨A,d2,w2,q⟩:=ki w1 l (e:=184) (by decide)
      rw[hn]
      simp[-aD,i,b,d,h,u,k,t,d1,d2]
      exact⟨w2,(r.step g).step q⟩
     |some am=>
      have⟨j,D,an,aQ⟩:=wW (p:=cQ a.peer) 0 Q
      rw[ag,aiQ]at D
      subst D
      have⟨A,d2,w2,q⟩:=pb w1 l 184
      have⟨aZ,a0,a1,a2,a3,a4,g2,ar⟩:=w2.row
      obtain⟨aE,ha,va,rfl,au⟩:=g2.hs
      have aU:(bg n).n.dr.ai.af=n.dr.ai.af:=rfl
      rw[aU]at au ar
      have av:(n.dr.ai.af.map ax++aE)[j]?=some (ax am):=by
       rw[aaK (by simpa using an),adn,aae an,aQ];rfl
      have aF:j<n.dr.ai.af.length+aE.length:=by omega
      have ad:=acg am A
      simp only[ax]at av ad
      have aV:cK n.dr.ai.af a.peer=true:=by
       have⟨S,X⟩:=List.find?_eq_some_iff_append.1 Q
       exact lN.2 ⟨am,ajP Q,by simpa[cQ]using S⟩
      cases ao:oC am with
      |false=>
       have hn:cN n a=(bg n).fail 185:=by unfold cN;simp[B,m,k,t,Q,ao]
       have⟨L,d3,w3,f3⟩:=ki w2 l (e:=185) (by decide)
       rw[ao]at ad
       rw[hn]
       simp[-aD,-getElem?_pos,-aae,i,b,d,h,u,k,t,d1,d2,ar,au,av,an,aF,ad,d3]
       exact⟨w3,((r.step g).step q).step f3⟩
      |true=>
       have hn:cN n a=(bg n).shut a.peer:=by unfold cN;simp[B,m,k,t,Q,ao]
       have⟨L,d3,w3,f3⟩:=pb w2 l 185
       have⟨H4,d4,w4,f4⟩:=O9 w3 ⟨aV,F,R.bk m,Y⟩
       have aW:aO tz ay 75 [aw 5,aa a.peer] L=some (.aM [],H4):=by rw[dz (f:=75) rfl];exact d4
       rw[ao]at ad
       rw[hn]
       simp[-aD,-getElem?_pos,-aae,i,b,d,h,u,k,t,d1,d2,ar,au,av,an,aF,ad,d3,aW]
       exact⟨w4,(((r.step g).step q).step f3).step f4⟩
    have hn:cN n a=(bg n).fail 188:=by unfold cN;simp[v,U,V,W,y,B,m]
    have⟨z,d1,w1,g⟩:=ki wt l (e:=188) (by decide)
    rw[hn]
    simp[-aD,b,d,h,v,U,V,W,y,B,d1]
    exact⟨w1,r.step g⟩
  clear i b d h u P
  rintro e K⟨d,h,_⟩⟨w2,c2⟩
  have⟨b0,b1,b2,b3,b4,b5,b6,b7,b8,b9,lo,le,er,J,d1,d2,d3⟩:=Sv w2 hs c2
  simp only[jC]at d2
  simp[-aD,-dF,d,h,d1,d2,ba d2]
  exact d3)
 exact⟨o,Pg S X,h3⟩
end
section
variable{n:Nd}{b:ci}{w:Wk}{hold:Int}{r:List bY}
structure oX(n:Nd):Prop where
 dr:dE n.dr=true
 bk:cM n.book=true
 id:n.id<64
 pe:∀x∈n.af,x.peer<64
 ask:∀k∈n.asked,0<=k.peer/\k.peer<n.id/\cK n.af k.peer=false/\0<=k.aP/\k.aP<=65535
 ad:n.asked.Pairwise fun x y=>x.peer≠y.peer
 wt:∀s∈n.book.aA,s.state=0->∀p∈s.need,qm n p
def db.j(h:db n):oX n:=⟨h.dr,h.bk,h.id,h.pe,h.ask,h.ad,h.wt⟩
def oX.i(h:oX n)(a:n.dr.aQ=1->∃s r,n.book.aA=s::r/\s.state=0/\s.need=n.dr.need):db n:=⟨h.dr,h.bk,h.id,h.pe,h.ask,h.ad,h.wt,a⟩
def oX.book(h:oX n)(a:cM b=true)(c:∀s∈b.aA,s.state=0->∀p∈s.need,qm n p):oX {n with book:=b}:=⟨h.dr,a,h.id,h.pe,h.ask,h.ad,c⟩
def zX(h:oX w.n):db w.di.n/\w.di.n.dr.aQ=0/\w.di.e=w.e/\w.di.out=w.out/\w.di.seen=w.seen/\w.di.n.told=w.n.told/\w.di.n.known=w.n.known/\w.di.n.asked=w.n.asked/\w.di.n.book=w.n.book/\w.di.n.dr.ai=w.n.dr.ai:=by
 have c:=iq.1 h.dr;by_cases a:w.n.dr.aQ=0
 .have e:w.di=w:=by unfold Wk.di lu;simp[h.dr,a]
  rw[e];exact⟨h.i fun b=>(by rw[a]at b;cases b),a,rfl,rfl,rfl,rfl,rfl,rfl,rfl,rfl⟩
 .have e:w.di=w.put {w.n with dr:=⟨w.n.dr.ai,0,[]⟩}:=by unfold Wk.di lu;simp[h.dr,a]
  rw[e];refine⟨⟨iq.2 ⟨c.1,by simp[Wk.put],by simp[Wk.put],by simp[Wk.put,ei],by simp[Wk.put],by simp[Wk.put]⟩,h.bk,h.id,h.pe,h.ask,h.ad,h.wt,?_⟩,rfl,rfl,rfl,rfl,rfl,rfl,rfl,rfl,rfl⟩;intro b;simp[Wk.put]at b
def DK(h:db w.n)(a:gQ w.n.known)(b:w.e=0)(i:w.out.length<=400)(j:w.seen.length<=400)(k:w.n.told.length<=400)(m:w.n.known.length<=400)(o:w.n.asked.length<=400):eV w:=by
 refine⟨h,a,?_,b⟩;have c:=h.af.1;have p:=Ge w.n.af
 have d:∀l:List aI,bT jF l<=l.length:=by
  intro l;induction l with
  |nil=>exact adt _
  |cons x r f=>
   simp only[bT,ahP];have:jF x<=1:=by unfold jF;split<;>omega
   omega
 have g:∀l:List aI,bT (dD w.n.told) l<=l.length:=by
  intro l;induction l with
  |nil=>exact adt _
  |cons x r f=>
   simp only[bT,ahP];have:dD w.n.told x<=1:=by unfold dD;split<;>omega
   omega
 have q:=d w.n.af;have s:=g w.n.af;have t:w.n.af.length<64:=c
 have c1:oA w.n.dr.aQ (jE w.n.book)<=9:=by
  unfold oA cj;repeat' split
  all_goals omega
 have c2:mH w.n.phase w.n.dr.aQ (jE w.n.book) (bT (dD w.n.told) w.n.af)<=3:=by
  unfold mH;repeat' split
  all_goals omega
 simp only[il,dP];omega
def Qh{bl bl':Int}(a:bl<=bl'):∀ {l:List bY} {last:Int} {f:Bool},dR bl last f l=true->dR bl' last f l=true
 |[],_,_,_=>rfl
 |s::r,last,f,h=>by
  simp only[dR,aa2]at h|-
  refine⟨?_,Qh a h.2⟩
  have:=h.1
  simp only[dx,aa2,afj,aiR,decide_eq_false_iff_not]at this|-
  obtain⟨⟨⟨⟨⟨b,i⟩,c⟩,d⟩,e⟩,g⟩:=this
  exact⟨⟨⟨⟨⟨b,by omega⟩,c⟩,d⟩,e⟩,g⟩
def Vc{bl a b:Int}{f:Bool}{s:bY}(h:dx bl a f s=true)(j:b<=a):dx bl b f s=true:=by simp only[dx,aa2,afj,aiR,decide_eq_false_iff_not]at h|-;obtain⟨⟨⟨⟨⟨k,c⟩,d⟩,e⟩,g⟩,i⟩:=h;exact⟨⟨⟨⟨⟨by omega,c⟩,d⟩,e⟩,g⟩,i⟩
def Wf{bl a:Int}{s:bY}(h:dx bl a false s=true)(f:Bool):dx bl a f s=true:=by simp only[dx,aa2,ai3,alx,aeb,false_or]at h|-;exact⟨h.1,.inr h.2⟩
def BS{bl:Int}:∀ {l:List bY} {a b:Int} {f:Bool},dR bl a f l=true->b<=a->dR bl b f l=true
 |[],_,_,_,_,_=>rfl
 |s::r,a,b,f,h,c=>by
  simp only[dR,aa2]at h|-
  exact⟨Vc h.1 c,h.2⟩
def CE{bl:Int}:∀ {l:List bY} {a:Int} (f:Bool),dR bl a false l=true->dR bl a f l=true
 |[],_,_,_=>rfl
 |s::r,a,f,h=>by
  simp only[dR,aa2]at h|-
  exact⟨Wf h.1 f,h.2⟩
def QQ{bl:Int}(p:bY->Bool):∀ {l:List bY} {a:Int} {f:Bool},dR bl a f l=true->dR bl a f (l.filter p)=true
 |[],_,_,_=>rfl
 |s::r,a,f,h=>by
  simp only[dR,aa2]at h
  have b:=QQ p h.2
  rw[akJ]
  split
  .simp only[dR,aa2]
   exact⟨h.1,b⟩
  .have c:a<=s.id:=by
    have:=h.1
    simp only[dx,aa2,afj,aiR,decide_eq_false_iff_not]at this
    omega
   exact CE f (BS b c)
def Vj(h:cM b=true)(p:bY->Bool):cM ⟨b.last,b.aA.filter p⟩=true:=by simp only[cM,aa2,afj,decide_eq_false_iff_not]at h|-;have:=ah2 p b.aA;exact⟨⟨h.1.1,by omega⟩,QQ p h.2⟩
def Mr{bl id:Int}:∀ {l:List bY} {a:Int} {f:Bool},dR bl a f l=true->dR bl a f (ey id l)=true
 |[],_,_,_=>rfl
 |s::r,a,f,h=>by
  simp only[dR,aa2]at h
  have b:a<=s.id:=by
   have:=h.1
   simp only[dx,aa2,afj,aiR,decide_eq_false_iff_not]at this
   omega
  unfold ey
  split
  .exact CE f (BS h.2 b)
  .simp only[dR,aa2]
   exact⟨h.1,Mr h.2⟩
def Hb{id:Int}:∀ {l:List bY} {s:bY},s∈ey id l->s∈l
 |[],_,h=>by simp[ey]at h
 |x::r,s,h=>by
  unfold ey at h
  split at h
  .simp[h]
  .rcases ae3.1 h with rfl|h
   .simp
   .simp[Hb h]
def Ra{id:Int}:∀l:List bY,(ey id l).length<=l.length
 |[]=>adt _
 |x::r=>by
  unfold ey
  split
  .simp
  .have:=Ra (id:=id) r;simp;omega
def Oe(h:cM b=true)(id:Int):cM ⟨b.last,ey id b.aA⟩=true:=by simp only[cM,aa2,afj,decide_eq_false_iff_not]at h|-;have:=Ra (id:=id) b.aA;exact⟨⟨h.1.1,by omega⟩,Mr h.2⟩
def IJ{id a:Int}(h:(de b id a).2=0):cM b=true/\(∃s,b.aA.find? (fun s=>decide (s.id=id))=some s/\s.state=a)/\(de b id a).1=⟨b.last,ey id b.aA⟩:=by
 unfold de at h|-;split at h
 .cases h
 .rename_i c;rw[if_neg c];split at h
  .cases h
  .rename_i s e;split at h
   .rename_i d;rw[e];simp only[d,if_true];exact⟨by simpa using c,⟨s,rfl,d⟩,trivial⟩
   .cases h
structure iu(w:Wk):Prop where
 o:w.out.length<=100
 s:w.seen.length<=100
 t:w.n.told.length<=100
 k:w.n.known.length<=100
 a:w.n.asked.length<=100
def iu.jW(f:iu w)(h:db w.n)(b:gQ w.n.known)(c:w.e=0):eV w:=DK h b c (by have:=f.o;omega) (by have:=f.s;omega) (by have:=f.t;omega) (by have:=f.k;omega) (by have:=f.a;omega)
def afE{id:Int}(h:db w.n)(i:gQ w.n.known)(c:iu w)(d:w.seen.length<=90)(f:w.e=0)(b:(w.release id).e=0):eV (w.release id):=by
 unfold Wk.release at b|-;split at b
 case isFalse hc=>exact absurd b hc
 rename_i hc;rw[if_pos hc];have⟨l,_,m⟩:=IJ hc;have r:w.eY (de w.n.book id 1).1 (de w.n.book id 1).2=w.put {w.n with book:=⟨w.n.book.last,ey id w.n.book.aA⟩}:=by rw[hc,ry,if_pos f,m]
 rw[r];have u:=h.j.book (Oe l id) (fun s d b p hp=>h.wt s (Hb d) b p hp);have⟨q,_,v,x,y,z,g,A,_⟩:=zX (w:=(w.put {w.n with book:=⟨w.n.book.last,ey id w.n.book.aA⟩}).dM 2 id) u;have B:iu ((w.put {w.n with book:=⟨w.n.book.last,ey id w.n.book.aA⟩}).dM 2 id).di:=⟨by rw[x];exact c.o,by rw[y];simp[Wk.dM,Wk.put];omega,by rw[z];exact c.t,by rw[g];exact c.k,by rw[A];exact c.a⟩;exact B.jW q (by rw[g];exact i) (by rw[v];exact f)
def ZH{id:Int}(h:db w.n)(g:gQ w.n.known)(b:iu w)(l:w.seen.length<=90)(d:w.e=0)(c:(w.cancel id).e=0):eV (w.cancel id):=by
 unfold Wk.cancel at c|-;split at c
 case isFalse hc=>exact absurd c hc
 rename_i hc;rw[if_pos hc];have⟨y,_,z⟩:=IJ hc;have A:w.eY (de w.n.book id 0).1 (de w.n.book id 0).2=w.put {w.n with book:=⟨w.n.book.last,ey id w.n.book.aA⟩}:=by rw[hc,ry,if_pos d,z]
 rw[A];have m:=h.j.book (Oe y id) (fun s l c p hp=>h.wt s (Hb l) c p hp);split
 .have ⟨q,_,B,C,D,E,u,F,_⟩:=zX (w:=(w.put {w.n with book:=⟨w.n.book.last,ey id w.n.book.aA⟩}).dM 3 id) m;have f:iu ((w.put {w.n with book:=⟨w.n.book.last,ey id w.n.book.aA⟩}).dM 3 id).di:=⟨by rw[C];exact b.o,by rw[D];simp[Wk.dM,Wk.put];omega,by rw[E];exact b.t,by rw[u];exact b.k,by rw[F];exact b.a⟩;exact f.jW q (by rw[u];exact g) (by rw[B];exact d)
 .rename_i hn;have f:iu ((w.put {w.n with book:=⟨w.n.book.last,ey id w.n.book.aA⟩}).dM 3 id):=⟨b.o,by simp[Wk.dM,Wk.put];omega,b.t,b.k,b.a⟩;refine f.jW (m.i fun v=>?_) g d;have⟨s,r,x,G,H⟩:=h.th v;have I:¬s.id=id:=fun e=>hn ⟨by unfold pM;rw[x];exact e,v⟩;refine⟨s,ey id r,?_,G,H⟩;show ey id w.n.book.aA=_;rw[x];exact if_neg I
def ZZ(h:(dQ b hold).2.2=0):cM b=true/\((dQ b hold).1=b\/∃s r,b.aA=s::r/\s.state=1/\((dQ b hold).1=⟨b.last,r⟩\/∃a,0<=a/\(dQ b hold).1=⟨b.last,{s with cH:=a}::r⟩)):=by
 unfold dQ at h|-;split at h
 .cases h
 .rename_i e;have d:cM b=true:=by simpa using e
  rw[if_neg e];refine⟨d,?_⟩;cases f:b.aA with
  |nil=>exact .inl rfl
  |cons s r=>
   simp only;by_cases c:s.state=1
   .simp only[c,if_true];have g:0<=s.cH:=by simp only[cM,f,dR,dx,aa2,afj,aiR,decide_eq_false_iff_not]at d;have:=d.2.1.1.2;omega
    refine .inr ⟨s,r,rfl,c,?_⟩;split
    .exact .inr ⟨max s.cH (min s.cH (4611686018427387904-1)+1),by omega,by rw[c]⟩
    .exact .inl rfl
   .simp only[c,if_false];exact .inl trivial
def V5{s:bY}(h:cM b=true)(a:b.aA=s::r):cM ⟨b.last,r⟩=true:=by
 simp only[cM,a,dR,aa2,afj,decide_eq_false_iff_not,ahP]at h|-;have c:(0:Int)<=s.id:=by have:=h.2.1;simp only[dx,aa2,afj,aiR,decide_eq_false_iff_not]at this;omega
 exact⟨⟨h.1.1,by omega⟩,CE true (BS h.2.2 c)⟩
def TE{s:bY}{a:Int}(h:cM b=true)(c:b.aA=s::r)(d:s.state=1)(j:0<=a):cM ⟨b.last,{s with cH:=a}::r⟩=true:=by simp only[cM,c,dR,aa2,afj,decide_eq_false_iff_not,ahP]at h|-;refine⟨h.1,?_,h.2.2⟩;have:=h.2.1;simp only[dx,aa2,afj,aiR,decide_eq_false_iff_not]at this|-;obtain⟨⟨⟨⟨⟨e,f⟩,g⟩,i⟩,k⟩,l⟩:=this;exact⟨⟨⟨⟨⟨e,f⟩,g⟩,i⟩,by omega⟩,by simp[d]⟩
def agO(h:db w.n)(A:gQ w.n.known)(b:iu w)(P:w.seen.length<=90)(x:w.e=0)(c:(w.tick hold).e=0):eV (w.tick hold):=by
 unfold Wk.tick at c|-;split at c
 case isFalse hc=>exact absurd c hc
 rename_i hc;rw[if_pos hc];have⟨B,C⟩:=ZZ hc;have d:w.eY (dQ w.n.book hold).1 0=w.put {w.n with book:=(dQ w.n.book hold).1}:=by rw[ry,if_pos x]
 rw[d];have⟨f,F⟩:=ak ((dQ w.n.book hold).1);rw[F]at C|-
 have y:oX {w.n with book:=f}/\(w.n.dr.aQ=1->f=w.n.book):=by
  rcases C with rfl|⟨s,r,g,v,rfl|⟨a,G,rfl⟩⟩
  .exact ⟨h.j,fun _=>rfl⟩
  .refine ⟨h.j.book (V5 B g) (fun t d c p hp=>h.wt t (by rw[g];exact aiI _ d) c p hp),fun l=>?_⟩;have⟨H,I,m,u,_⟩:=h.th l;rw[g]at m;cases m;rw[v]at u;cases u
  .refine ⟨h.j.book (TE B g v G) (fun t d c p hp=>?_),fun l=>?_⟩
   .rcases ae3.1 d with rfl|d
    .have D:s.state=0:=c;rw[v]at D;cases D
    .exact h.wt t (by rw[g];exact aiI _ d) c p hp
   .have ⟨H,I,m,u,_⟩:=h.th l;rw[g]at m;cases m;rw[v]at u;cases u
 split
 .have ⟨q,_,J,K,L,M,E,N,_⟩:=zX (w:=(w.put {w.n with book:=f}).dM 4 (dQ w.n.book hold).2.1) y.1;have z:iu ((w.put {w.n with book:=f}).dM 4 (dQ w.n.book hold).2.1).di:=⟨by rw[K];exact b.o,by rw[L];simp[Wk.dM,Wk.put];omega,by rw[M];exact b.t,by rw[E];exact b.k,by rw[N];exact b.a⟩;exact z.jW q (by rw[E];exact A) (by rw[J];exact x)
 .have z:iu (w.put {w.n with book:=f}):=⟨b.o,b.s,b.t,b.k,b.a⟩;refine z.jW (y.1.i fun l=>?_) A x;have O:=y.2 l;show ∃s r,f.aA=s::r/\_;rw[O];exact h.th l
def Ri{x:Int}:∀ {l:List Int},l.Pairwise (· <= ·)->(kA x l).Pairwise (· <= ·)
 |[],_=>by simp[kA]
 |y::r,h=>by
  have hp:=af7.1 h
  unfold kA
  split
  .rename_i b
   refine af7.2 ⟨fun z a=>?_,h⟩
   rcases ae3.1 a with rfl|a
   .exact b
   .have:=hp.1 z a;omega
  .rename_i b
   refine af7.2 ⟨fun z a=>?_,Ri hp.2⟩
   rcases AX.1 a with rfl|a
   .omega
   .exact hp.1 z a
def LY:∀l:List Int,(gA l).Pairwise (· <= ·)
 |[]=>akl
 |x::r=>Ri (LY r)
def RJ:∀ {l:List Int},l.Pairwise (· <= ·)->(du l).Pairwise (· < ·)
 |[],_=>akl
 |x::r,h=>by
  have hp:=af7.1 h
  have a:=RJ hp.2
  unfold du
  cases c:du r with
  |nil=>simp
  |cons y t=>
   rw[c]at a
   have d:y∈r:=Ik.1 (by rw[c];simp)
   have f:=hp.1 y d
   simp only
   split
   .exact a
   .rename_i g
    have e:=af7.1 a
    refine af7.2 ⟨fun z b=>?_,a⟩
    rcases ae3.1 b with rfl|b
    .omega
    .have:=e.1 z b;omega
def M3:∀ {l:List Int},l.Pairwise (· < ·)->ei l=true
 |[],_=>rfl
 |[x],_=>rfl
 |x::y::r,h=>by
  have hp:=af7.1 h
  simp only[ei,aa2,decide_eq_true_eq]
  refine⟨hp.1 y (by simp),?_⟩
  have:=M3 hp.2
  simpa[ei]using this
def Pl(l:List Int):ei (cD l)=true:=M3 (RJ (LY l))
def Sa{bl id:Int}{need:List Int}(c:bl<id)(a:nC need=false)(b:ei need=true):∀ {l:List bY} {last:Int} {f:Bool},dR bl last f l=true->last<=bl->dR id last f (l++[⟨id,need,0,0⟩])=true
 |[],last,f,_,d=>by
  simp only[aiy,dR,dx,a,b]
  have e:¬id<=last:=by omega
  simp[e]
 |s::r,last,f,h,d=>by
  simp only[dR,aa2]at h
  have g:=h.1
  simp only[dx,aa2,afj,aiR,decide_eq_false_iff_not]at g
  simp only[ai1,dR,aa2]
  have hm:=Qh (bl:=bl) (bl':=id) (by omega) (l:=[s]) (last:=last) (f:=f) (by simp[dR,h.1])
  simp only[dR,akL]at hm
  exact⟨hm,Sa c a b h.2 (by omega)⟩
def Ml{id:Int}{need:List Int}(h:(io b id need).2=0):cM b=true/\(io b id need).1=⟨id,b.aA++[⟨id,cD need,0,0⟩]⟩/\cM ⟨id,b.aA++[⟨id,cD need,0,0⟩]⟩=true:=by
 unfold io at h|-;split at h
 .cases h
 rename_i c;rw[if_neg c];split at h
 .cases h
 rename_i e;rw[if_neg e];split at h
 .cases h
 rename_i d;rw[if_neg d];split at h
 .cases h
 rename_i f;rw[if_neg f];have a:cM b=true:=by simpa using c
 refine⟨a,rfl,?_⟩;simp only[cM,aa2,afj,decide_eq_false_iff_not]at a|-;refine⟨⟨by omega,by simp;omega⟩,Sa (by omega) (by simpa using d) (Pl need) a.2 (by omega)⟩
def afA{id:Int}{need:List Int}(h:db w.n)(g:gQ w.n.known)(d:iu w)(b:w.seen.length<=90)(l:w.e=0)(c:(w.opens id need).e=0):eV (w.opens id need):=by
 unfold Wk.opens at c|-;split at c
 .rename_i hc;exact absurd c hc
 rename_i hc;rw[if_neg hc];split at c
 .cases c
 rename_i f;rw[if_neg f];obtain⟨C,m,q⟩:=Ml (by simpa using hc);rw[m];have u:ld need (jY w.n)=true:=by simpa using f
 have v:oX {w.n with book:=⟨id,w.n.book.aA++[⟨id,cD need,0,0⟩]⟩}:=h.j.book q (fun s b c p hp=>by
  rcases ahl.1 b with b|b
  .exact h.wt s b c p hp
  .simp at b;subst b;exact Rk.1 (JB.1 u p (wh.1 hp)))
 have x:iu ⟨{w.n with book:=⟨id,w.n.book.aA++[⟨id,cD need,0,0⟩]⟩},w.out,w.seen++[⟨0,w.n.id,id,0,cD need⟩],w.e⟩:=⟨d.o,by simp;omega,d.t,d.k,d.a⟩;refine x.jW (v.i fun y=>?_) g l;have⟨s,r,z,A,B⟩:=h.th y;exact⟨s,r++[⟨id,cD need,0,0⟩],by show w.n.book.aA++_=_;rw[z];rfl,A,B⟩
def X8{b:Int}(h:db w.n)(l:gQ w.n.known)(i:iu w)(M:w.n.known.length<=90)(v:w.e=0)(N:b>w.n.dr.ai.id)(z:b<64)(A:cK w.n.dr.ai.af b=false)(O:gR w.n.known b<65535)(P:0<=gR w.n.known b):eV (w.nW (sc b (gR w.n.known b))):=by
 have c:=iq.1 h.dr;have d:=jA.1 c.1;have⟨x,m⟩:=ak (sc b (gR w.n.known b));have f:x.peer=b:=by rw[<-m];rfl
 have B:cR w.n.dr.ai.id (-1) x=true:=by
  rw[<-m];have q:¬b=w.n.dr.ai.id:=by omega
  have j:b> -1:=by omega
  have C:¬gR w.n.known b+1<0:=by omega
  have D:¬gR w.n.known b+1>65535:=by omega
  simp only[cR,sc,q,j,C,D];simp
 rw[m];have r:=I9 d.2.2.2.2 B (by rw[f];exact A)
 have u:∀y∈fR x w.n.dr.ai.af,y.peer<64:=fun y g=>by
  rcases v7.1 g with rfl|g
  .rw[f];exact z
  .exact h.pe y g
 have E:=xy h.id r u (by omega) (by omega);have F:∀p,qm w.n p->qm (w.nW x).n p:=fun p ⟨y,g,hp⟩=>⟨y,v7.2 (.inr g),hp⟩;have Q:=GB x.peer x.aP w.n.known;have G:iu (w.nW x):=⟨i.o,i.s,i.t,by show(fV x.peer x.aP w.n.known).length<=_;omega,i.a⟩;refine G.jW ⟨?_,h.bk,h.id,u,fun k l=>?_,h.ad,fun s H I p hp=>F p (h.wt s H I p hp),h.th⟩ (l.uC (by rw[f];omega) (by rw[f];omega)) v
 .refine iq.2 ⟨jA.2 ⟨d.1,d.2.1,d.2.2.1,?_,r⟩,c.2.1,c.2.2.1,c.2.2.2.1,c.2.2.2.2.1,fun p hp=>?_⟩
  .show (fR x w.n.dr.ai.af).length<64;have:0<=w.n.id:=d.1;split at E<;>omega
  .show cK (fR x w.n.dr.ai.af) p=true;rw[BC,c.2.2.2.2.2 p hp];simp
 .have ⟨q,j,J,K⟩:=h.ask k l;refine⟨q,j,?_,K⟩;show cK (fR x w.n.dr.ai.af) k.peer=false;rw[BC,f];have L:cK w.n.dr.ai.af k.peer=false:=J;have:¬b=k.peer:=by have R:k.peer<w.n.dr.ai.id:=j;omega
  simp[L,this]
end
def iU(l:List aI)(a b s:Int):Bool:=match l.find? (cQ a)with
 |none=>false
 |some x=>decide (x.aP=b)&&decide (x.state=s)
def agh(l:List aI)(a s:Int)(m:cU)(f g:ab)(r:List ab)(k:cw (f::g::r)=true)(n:r.length=10):
  aS tz ay 0 225 [aa s,.c (.aK [[I (dw (cQ a) 0 l)]] 0 0),.c (.aK [[.aK [f::g:: .aj (l.map ax)::r] 0 0]] 0 0),.c (.aK [br m] 0 0)]=some (aR (iU l a m.aP s),[]):=by
 refine be func225 rfl ?_
 unfold iU
 cases h:l.find? (cQ a)with
 |none=>
  have b:=qG (p:=cQ a) 0 h
  rw[b]
  simp[f225]
 |some x=>
  have⟨j,b,d,e⟩:=wW (p:=cQ a) 0 h
  rw[aiQ]at b
  rw[b]
  have i:(l.map ax)[j]?=some (ax x):=by rw[adn,aae d,e];rfl
  simp only[ax]at i
  have o:l[j]?=some x:=by rw[aae d,e]
  by_cases c1:x.aP=m.aP
  all_goals simp[f225,br,d,e,ax,c1]
def oD(n:Nd):List Ob:=[ah 10 [jC],.live 1 1 [[.ptr 6 0 0 0]],ah 8 (n.dr.ai.af.map ax),ah 4 (n.book.aA.map aN),ah 2 (n.known.map aW),ah 2 (n.asked.map aW),ah 13 [bN (bg n) (.sl 2 0 0 n.dr.ai.af.length) (.sl 3 0 0 n.book.aA.length) (.sl 4 0 0 n.known.length) (.sl 5 0 0 n.asked.length) ap ap]]
def abi(n:Nd):cF (oD n) 6 (bg n) (.sl 2 0 0 n.dr.ai.af.length) (.sl 3 0 0 n.book.aA.length) (.sl 4 0 0 n.known.length) (.sl 5 0 0 n.asked.length) ap ap:=by
 refine⟨rfl,⟨[],2,0,by simp[bg],by simp[oD,bg]⟩,.inr ⟨3,0,by simp[bg],by simp[oD,bg]⟩,⟨4,0,by simp[bg],by simp[oD,bg]⟩,.inr ⟨5,0,by simp[bg],by simp[oD,bg]⟩,.inl ⟨rfl,rfl⟩,.inl ⟨rfl,rfl⟩,?_,?_⟩
 .intro m a b;simp[rf]at a b;omega
 .intro m a b;simp[rf]at a
def aep(n:Nd):Cell 6 (oD n) 0 (ah 10 [jC]):=⟨rfl,by decide,by simp[oD,oH,eu,bN,rf,aG]⟩
def aag(n:Nd):Cell 6 (oD n) 1 (.live 1 1 [[.ptr 6 0 0 0]]):=⟨rfl,by decide,by simp[oD,oH,eu,bN,rf,aG]⟩
def Tl{K:List Ob}{b a:Nat}{v:Wk}{sl l o p q se:ab}(g:cF K b v sl l o p q se)(c1:K[1]?=some (.live 1 1 [[.ptr b 0 0 0]]))(d s:Int)(m:cU)(r:K[a]?=some (ah 1 [[I (dw (cQ d) 0 v.n.dr.ai.af)]])):
  aO tz ay 225 [aa s,aw a,kV 1 1 0 0,.c (.aK [br m] 0 0)] K=some (aR (iU v.n.dr.ai.af d m.aP s),K):=by
 have⟨f,h,le,t,u,w⟩:=g.Gu 3
 have x:bD f=true/\bD h=true/\bD le=true:=by simpa using u
 have y:=agh v.n.dr.ai.af d s m (I v.n.dr.ai.id) (I v.n.dr.ai.phase) [I v.n.dr.aQ,aG v.n.dr.need,I v.n.book.last,.aj (v.n.book.aA.map aN),.aj (v.n.known.map aW),aG v.n.told,f,h,le,I v.e] (by simp[bW,bS,bi,x]) rfl
 have z:bV K 6 (I s)=some (I s,[]):=rfl
 have A:bV K 6 (.ptr a 0 0 0)=some (.aK [[I (dw (cQ d) 0 v.n.dr.ai.af)]] 0 0,[1]):=by
  have i:obj K a 0=some (1,[[I (dw (cQ d) 0 v.n.dr.ai.af)]]):=by simp[r]
  have hp:bD (.ptr a 0 0 0)=false:=rfl
  unfold bV
  rw[hp]
  simp only[aeb,if_false]
  rw[i]
  rfl
 have B:bV K 6 (.aK [br m] 0 0)=some (.aK [br m] 0 0,[]):=rfl
 have j:∃k,bV K 6 (.ptr 1 1 0 0)=some (.aK [[.aK [[I v.n.dr.ai.id,I v.n.dr.ai.phase,.aj (v.n.dr.ai.af.map ax),I v.n.dr.aQ,aG v.n.dr.need,I v.n.book.last,.aj (v.n.book.aA.map aN),.aj (v.n.known.map aW),aG v.n.told,f,h,le,I v.e]] 0 0]] 0 0,k):=by
  have i:obj K 1 1=some (1,[[.ptr b 0 0 0]]):=by simp[c1]
  have C:bA [[ab.ptr b 0 0 0]]=false:=rfl
  have hp:bD (.ptr 1 1 0 0)=false:=rfl
  refine⟨1::((t++[])++[]),?_⟩
  unfold bV
  rw[hp]
  simp only[aeb,if_false]
  rw[i]
  simp only
  unfold jg
  rw[C]
  simp only[aeb,if_false,kg,eS,w]
 have⟨k,j⟩:=j
 have D:([au.c (I s),aw a,kV 1 1 0 0,.c (.aK [br m] 0 0)].any (eQ tz))=false:=rfl
 rw[aD,D]
 simp only[dy,df,z,A,j,B]
 rw[if_neg (by simp),lJ,(show tz.md 225=0 from rfl),y,jQ]
 simp
def iO(n:Nd)(m:cU):Wk:=if dv n=true then(if m.num=0 then bg n else(bg n).fail 187)else bg n
def sK(n:Nd)(a:Int)(w:Wk):Wk:=(w.put ⟨⟨⟨n.dr.ai.id,n.dr.ai.phase,setAt (cQ a) (fun x=>{x with state:=0}) n.dr.ai.af⟩,n.dr.aQ,n.dr.need⟩,n.book,n.known,gH n.told [a],n.asked⟩).ek 6 a
def ly(n:Nd)(a:Int)(m:cU)(w:Wk):Wk:=
 if m.kind=1\/m.kind=2\/m.kind=3\/m.kind=4 then(match n.dr.ai.af.find? (cQ a)with
  |some x=>if x.aP=m.aP then w.sj a m else w
  |none=>w)
 else if m.kind=5 then(if(jx n ⟨a,m.aP⟩&&kP [] (n.asked++[⟨a,m.aP⟩]))=true then w.put {w.n with asked:=n.asked++[⟨a,m.aP⟩]}else w.fail 187)
 else if m.kind=6 then(if(iU n.dr.ai.af a m.aP 1&&decide (a∈n.told))=true then sK n a w else w.fail 187)
 else if m.kind=7 then(if(iU n.dr.ai.af a m.aP 0&&decide (a<n.dr.ai.id))=true then w.shut a else w.fail 187)
 else if m.kind=8 then(if iU n.dr.ai.af a m.aP 3=true then(w.drop a).ek 8 a else w.fail 187)
 else w.fail 187
def fQ(n:Nd)(a:Int)(m:cU):Wk:=if(iO n m).e=0 then ly n a m (iO n m)else iO n m
def cF.Q9{H G:List Ob}{b:Nat}{w:Wk}{sl k l g p se ks':ab}(h:cF H b w sl k l g p se)(q:List cu)(s:G[b]?=some (ah 13 [bN (w.put {w.n with asked:=q}) sl k l ks' p se]))(J:H.length<=G.length)
  (i:∀(m:Nat) (o:Ob),H[m]?=some o->m≠b->m∉rf g->G[m]?=some o) (A:kQ G 2 ks' (q.map aW)) (u:∀m∈rf ks',m∈rf g\/H.length<=m):
  cF G b (w.put {w.n with asked:=q}) sl k l ks' p se/\bq b H G:=by
 obtain⟨j,⟨t,B⟩,C,x,D,E,F,d1,d2⟩:=h
 have I:∀m,m∈rf g->∃v r,H[m]?=some (.live v 2 r):=by
  rcases D with⟨_,rfl⟩|⟨M,N,rfl,d⟩
  .intro m hm;simp[rf]at hm
  .intro m hm;simp[rf]at hm;subst hm;exact⟨_,_,d⟩
 have f:∀(m v z:Nat) (r:List (List ab)),z≠13->z≠2->H[m]?=some (.live v z r)->G[m]?=some (.live v z r):=fun m v z r c d a=>i m _ a (fun e=>by subst e;rw[j]at a;cases a;exact c rfl) (fun hm=>by
  obtain⟨O,P,y⟩:=I m hm
  rw[y]at a;cases a;exact d rfl)
 refine⟨⟨s,⟨t,B.aJ fun _ _ _ _ h=>f _ _ _ _ (by decide) (by decide) h⟩,C.aJ fun _ _ _ _ h=>f _ _ _ _ (by decide) (by decide) h,x.aJ fun m _ _ hm h=>i m _ h (fun e=>by subst e;rw[j]at h;cases h) (fun K=>d1 m hm K),A,E.aJ fun _ _ _ _ h=>f _ _ _ _ (by decide) (by decide) h,F.aJ fun _ _ _ _ h=>f _ _ _ _ (by decide) (by decide) h,fun m hm L=>?_,d2⟩,bq.bJ j s J (fun m hm=>?_) (fun m o c d a=>i m o c d (fun y=>a ?_))⟩
 .rcases u m L with c|c
  .exact d1 m hm c
  .have:=x.lt m hm
   omega
 .have Q:=u m
  clear I f B C x D E F d1 d2 j s i A u
  simp only[eu,bN,ait,ajk,ahl,qi,rm,aG]at hm|-
  simp at hm|-
  grind
 .simp only[eu,bN,ait,ajk,ahl,qi,rm,aG]
  simp[y]
def vg{n:Nd}{m:cU}(h:(iO n m).e=0):dv n=true:=by
 unfold iO at h;split at h
 .assumption
 .rename_i a;simp[bg,a]at h
def Nj{l:List aI}{a b s:Int}(h:iU l a b s=true):∃x,l.find? (cQ a)=some x/\x.aP=b/\x.state=s:=by
 unfold iU at h;split at h
 .cases h
 .rename_i x c;simp at h;exact⟨x,c,h.1,h.2⟩
structure uP(K:List Ob)(w:Wk)(m11:Nat)(ix:Int):Prop where
 w:bZ K 6 w
 c0:Cell 6 K 0 (ah 10 [jC])
 c1:Cell 6 K 1 (.live 1 1 [[.ptr 6 0 0 0]])
 lq:Cell 6 K m11 (ah 1 [[I ix]])
def uP.step{K a:List Ob}{w b:Wk}{c:Nat}{d:Int}(h:uP K w c d)(e:bZ a 6 b)(f:bq 6 K a):uP a b c d:=⟨e,h.c0.step f,h.c1.step f,h.lq.step f⟩
def abh(n:Nd)(m:cU):(iO n m).n=n:=by
 unfold iO;split
 .split<;>rfl
 .rfl
def XS(n:Nd)(m:cU):(iO n m).seen=[]/\(iO n m).out=[]:=by
 unfold iO;split
 .split<;>exact⟨rfl,rfl⟩
 .exact ⟨rfl,rfl⟩
def YG(n:Nd)(peer:Int)(m:cU)(hh:BO n)(hs:(fQ n peer m).e=0->eV (fQ n peer m)):
  ∃o,aS tz ay 1 142 [.agg (aT n),aa peer,.agg (br m)]=some (o,[])/\mF (fQ n peer m) o:=by
 have N:=hh.s
 have bt:=yO n N
 have bu:=I0 n N
 simp only[aT,aG,pU]at bt bu
 have⟨r,H',h1,o,h2,h3⟩:=cG (C:=tz) (f:=142) (args:=[.agg (aT n),aa peer,.agg (br m)]) (H:=[]) (fun r H'=>∃o,dF true H' r=some (o,[])/\mF (fQ n peer m) o) func142 rfl (by
  simp only[f142,bX]
  refine bp [(1,aa peer),(3,.c (.aK [aT n] 0 0)),(5,.c (.aK [br m] 0 0)),(6,aw 0)] (fun G=>G=[ah 10 [jC]]) ?_ ?_
  .simp[aT,br,jC]
  rintro e G⟨q,u,d,g,_⟩hG
  subst hG
  refine bp [(1,aa peer),(3,.c (.aK [aT n] 0 0)),(5,.c (.aK [br m] 0 0)),(6,aw 0),(10,kV 1 1 0 0)] (fun G=>G=oD n) ?_ ?_
  .simp only[aT,aG]at u
   simp[sJ,gV,iT,q,u,d,g,bt,bu,bL,bW,bS,aT,oD,bN,bg]
  clear q u d g
  rintro e G⟨q,u,d,g,h,_⟩hG
  subst hG
  have ad:=abi n
  have c0:=aep n
  have c1:=aag n
  have wt:=ad.at
  refine bp [(1,aa peer),(3,.c (.aK [aT n] 0 0)),(5,.c (.aK [br m] 0 0)),(6,aw 0),(10,kV 1 1 0 0)] (fun G=>bZ G 6 (iO n m)/\Cell 6 G 0 (ah 10 [jC])/\Cell 6 G 1 (.live 1 1 [[.ptr 6 0 0 0]])) ?_ ?_
  .simp only[br]at d
   have av:=c1.at'
   by_cases ae:dv n=true
   .have we:(bg n).e=0:=by simp[bg,ae]
    by_cases az:m.num=0
    .have e1:iO n m=bg n:=by unfold iO;rw[if_pos ae,if_pos az]
     have⟨H1,d1,w1,V⟩:=pb wt we 187
     rw[e1]
     rw[az]at d
     simp[-aD,q,u,d,g,h,av,d1,az,br]
     exact⟨w1,c0.step V,c1.step V⟩
    .have e1:iO n m=(bg n).fail 187:=by unfold iO;rw[if_pos ae,if_neg az]
     have⟨H1,d1,w1,V⟩:=ki wt we (e:=187) (by decide)
     rw[e1]
     simp[-aD,q,u,d,g,h,av,d1,az,br]
     exact⟨w1,c0.step V,c1.step V⟩
   .have we:(bg n).e≠0:=by simp[bg,ae]
    have e1:iO n m=bg n:=by unfold iO;rw[if_neg ae]
    have⟨H1,d1,w1,V⟩:=ll wt we (decide (m.num=0)) 187
    rw[e1]
    simp[-aD,q,u,d,g,h,av,d1,br]
    exact⟨w1,c0.step V,c1.step V⟩
  clear q u d g h ad c0 c1 wt
  have⟨ix,aB⟩:=ak (dw (cQ peer) 0 n.dr.ai.af)
  have⟨w1,a4⟩:=ak (iO n m)
  have B:=abh n m
  have bv:=XS n m
  have bP:fQ n peer m=if w1.e=0 then ly n peer m w1 else w1:=by unfold fQ;rw[a4]
  rintro e G⟨q,u,d,g,h,_⟩⟨wt,c0,c1⟩
  rw[a4]at wt B bv
  refine ef (fun S=>∃ag,S.env.get 1=some (aa peer)/\S.env.get 3=some (.c (.aK [aT n] 0 0))/\S.env.get 5=some (.c (.aK [br m] 0 0))/\S.env.get 6=some (aw 0)/\S.env.get 10=some (kV 1 1 0 0)/\S.env.get 11=some (aw ag)/\S.bH=[]/\uP S.heap w1 ag ix) ?_ ?_
  .have ⟨sl,ss,kn,ks,ol,se,ad,W⟩:=wt.row
   have cp:=FY ad peer (by rw[B];have:=N.si;omega)
   rw[B,aB]at cp
   have av:=c1.at'
   have k0:=wt.cell (x:=[ah 1 [[I ix]]]) (i:=0) rfl
   rw[aiw]at k0
   have lb:=wt.lt
   simp[-aD,q,u,d,g,h,av,cp]
   exact⟨wt.snoc,c0.snoc lb,c1.snoc lb,k0⟩
  clear q u d g h wt c0 c1
  rintro⟨e,G,ds⟩⟨ag,q,u,d,g,h,Q,rfl,b⟩
  simp only at q u d g h Q b
  refine bp [(1,aa peer),(3,.c (.aK [aT n] 0 0)),(5,.c (.aK [br m] 0 0)),(6,aw 0),(10,kV 1 1 0 0),(11,aw ag),(12,.c (.bG 225 [.ptr ag 0 0 0,.ptr 1 1 0 0,.aK [br m] 0 0]))] (fun G=>uP G w1 ag ix) ?_ ?_
  .simp[q,u,d,g,h,Q]
   exact b
  clear q u d g h Q b
  rintro e G⟨q,u,d,g,h,Q,y,_⟩b
  refine bp [(6,aw 0),(10,kV 1 1 0 0)] (fun G=>uP G (fQ n peer m) ag ix) ?_ ?_
  .have ⟨sl,ss,kn,ks,ol,se,ad,W⟩:=b.w.row
   have c1:=b.c1.at'
   have lq:=b.lq.at'
   rw[B]at W
   have E:=fun s=>Tl ad c1 peer s m (by rw[B,aB];exact lq)
   rw[B]at E
   simp only[aT,aG]at u
   simp only[br]at d y E
   rw[bP]
   obtain⟨D,aU⟩:∃bQ:cu,bQ=⟨peer,m.aP⟩:=⟨_,rfl⟩
   have cn:=N.aq
   have bw:=Pb n D (by show n.dr.ai.af.length<=_;have:=N.si;omega) (by have:=N.kn;omega)
   have bR:=A5 (a:= .aj (n.asked.map aW)) (l:=n.asked) rfl (by omega)
   have bT:=Pc (n.asked++[D]) (by simp;omega)
   have R:∀K,aO tz ay 180 [.agg [I n.dr.ai.id,I n.dr.ai.phase,.aj (n.dr.ai.af.map ax),I n.dr.aQ,.aj (n.dr.need.map aC),I n.book.last,.aj (n.book.aA.map aN),.aj (n.known.map aW),.aj (n.told.map aC),.aj (n.asked.map aW)],.agg [I peer,I m.aP]] K=some (aR (jx n D),K):=fun K=>by
    simp only[aT,aG,aW,aU]at bw
    simp[bw,bL,bW,bS,bi,aU]
   have a5:∀K,aO tz ay 46 [bh (n.asked.map aW)] K=some (bd K.length 0 0 n.asked.length,K++[ah 2 (n.asked.map aW)]):=fun K=>by
    simp[bR,bS]
   have bU:[I peer,I m.aP]=aW D:=by rw[aU];rfl
   have ao:n.asked.map aW++[[I peer,I m.aP]]=(n.asked++[D]).map aW:=by rw[agA,bU];rfl
   have bx:∀(K:List Ob) (ap v:Nat),K[ap]?=some (.live v 2 ((n.asked++[D]).map aW))->aO tz ay 181 [bd ap v 0 (n.asked.length+1)] K=some (aR (kP [] (n.asked++[D])),K):=fun K ap v hK=>by
    have hv:bV K 6 (.sl ap v 0 (n.asked.length+1))=some (.aj ((n.asked++[D]).map aW),[2]):=gD.view (t:=[]) ⟨ap,v,by simp,by simpa using hK⟩ (bS _)
    have e1:([au.c (.sl ap v 0 (n.asked.length+1))].any (eQ tz))=false:=rfl
    rw[aD,e1]
    simp only[dy,df,hv]
    rw[if_neg (by simp),lJ,(show tz.md 181=0 from rfl),bT,jQ]
    simp
   have⟨x,L⟩:=ak ([Ob.live 0 2 [[I peer,I m.aP]],.live 1 2 [[I peer,I m.aP]],.live 1 2 ((n.asked++[D]).map aW)])
   have sz:n.asked.length+1<=maxLen/\(n.asked.length+1)*16<=140737488355328:=⟨by unfold maxLen;omega,by omega⟩
   have lg:=b.w.lt
   by_cases z:w1.e=0
   case neg=>
    rw[if_neg z]
    by_cases A:m.kind=1\/m.kind=2\/m.kind=3\/m.kind=4
    .rcases A with A|A|A|A
     all_goals
      rw[A]at d y
      simp[-aD,d,g,h,W,c1,z]
      exact b
    simp only[not_or]at A
    have⟨A,k2,k3,k4⟩:=A
    by_cases P:m.kind=5
    .rw[P]at d y E
     cases aE:jx n D with
     |false=>
      have⟨K,d1,w2,k⟩:=ll (b.w.snoc (x:=[ah 2 [[I peer,I m.aP]],.dead])) z false 187
      rw[aE]at R
      simp[-aD,-getElem?_pos,-aae,sJ,q,u,d,g,h,aV c1,R,d1]
      exact(b.step b.w.snoc (bq.snoc lg)).step w2 k
     |true=>
      have⟨K,d1,w2,k⟩:=ll (b.w.snoc (x:=x)) z (kP [] (n.asked++[D])) 187
      rw[aE]at R
      rw[<-L]at d1
      have X:=bx (G++[Ob.live 0 2 [[I peer,I m.aP]],.live 1 2 [[I peer,I m.aP]],.live 1 2 ((n.asked++[D]).map aW)]) (G.length+2) 1 (by rw[jd];rfl)
      rw[<-ao]at d1 X
      simp[-aD,-getElem?_pos,-aae,sJ,gV,iT,q,u,d,h,aV c1,R,a5,sz,X]
      rw[d1]
      simp only[EE,Gl,dW,Kd]
      simp[-aD,g,h]
      exact(b.step b.w.snoc (bq.snoc lg)).step w2 k
    by_cases T:m.kind=6
    .rw[T]at d y E
     have aF:=qv n.told peer (by have:=N.tl;unfold maxLen;omega)
     simp only[aG]at aF
     have aX:∀K,aO tz ay 203 [bh (n.told.map aC),aa peer] K=some (aR (decide (peer∈n.told)),K):=fun K=>by simp[aF,bi]
     have cs:=E 1
     cases F:iU n.dr.ai.af peer m.aP 1 with
     |true=>
      have⟨K,d1,w2,k⟩:=ll b.w z (decide (peer∈n.told)) 187
      rw[F]at cs
      simp[-aD,q,u,d,g,h,y,c1,cs,aX,d1]
      exact b.step w2 k
     |false=>
      have⟨K,d1,w2,k⟩:=ll b.w z false 187
      rw[F]at cs
      simp[-aD,d,g,h,y,c1,cs,d1]
      exact b.step w2 k
    by_cases Y:m.kind=7
    .rw[Y]at d y E
     have cs:=E 0
     cases F:iU n.dr.ai.af peer m.aP 0 with
     |true=>
      have⟨K,d1,w2,k⟩:=ll b.w z (decide (peer<n.dr.ai.id)) 187
      rw[F]at cs
      simp[-aD,q,u,d,g,h,y,c1,cs,d1]
      exact b.step w2 k
     |false=>
      have⟨K,d1,w2,k⟩:=ll b.w z false 187
      rw[F]at cs
      simp[-aD,d,g,h,y,c1,cs,d1]
      exact b.step w2 k
    by_cases k8:m.kind=8
    .rw[k8]at d y E
     have cs:=E 3
     have⟨K,d1,w2,k⟩:=ll b.w z (iU n.dr.ai.af peer m.aP 3) 187
     simp[-aD,d,g,h,y,c1,cs,d1]
     exact b.step w2 k
    have⟨K,d1,w2,k⟩:=ll b.w z false 187
    simp[-aD,d,g,h,c1,A,k2,k3,k4,P,T,Y,k8,d1]
    exact b.step w2 k
   rw[if_pos z]
   have ae:dv n=true:=vg (by rw[a4];exact z)
   have⟨a6,cq⟩:=bv
   have bz:fm w1.n:=by rw[B];exact N
   rw[z]at W
   by_cases A:m.kind=1\/m.kind=2\/m.kind=3\/m.kind=4
   .rcases A with A|A|A|A
    all_goals
     have O:ly n peer m w1=(match n.dr.ai.af.find? (cQ peer)with
       |some x=>if x.aP=m.aP then w1.sj peer m else w1
       |none=>w1):=by unfold ly;rw[if_pos (by simp[A])]
     rw[O]
     cases Z:n.dr.ai.af.find? (cQ peer)with
     |none=>
      have L:=qG (p:=cQ peer) 0 Z
      rw[aB]at L
      subst L
      rw[A]at d y
      simp[-aD,d,g,h,Q,W,c1,lq]
      exact b
     |some x=>
      have⟨j,L,ab,bY⟩:=wW (p:=cQ peer) 0 Z
      rw[aB,aiQ]at L
      subst L
      obtain⟨t,ha,va,rfl,al⟩:=ad.hs
      rw[B]at al W
      have am:(n.dr.ai.af.map ax++t)[j]?=some (ax x):=by
       rw[aaK (by simpa using ab),adn,aae ab,bY];rfl
      have aY:j<n.dr.ai.af.length+t.length:=by omega
      simp only[ax]at am
      by_cases aZ:x.aP=m.aP
      .have ⟨K,d1,w2,k⟩:=SS b.w bz peer m z
       have a7:aO tz ay 226 [aw 6,aa peer,.agg (br m)] G=some (.aM [],K):=by rw[dz (f:=226) rfl];exact d1
       simp only[br]at a7
       rw[aZ]at am
       simp only[aZ,if_true]
       rw[A]at d y a7
       simp[-aD,-getElem?_pos,-aae,q,d,g,h,Q,W,c1,lq,al,am,ab,aY,a7]
       exact b.step w2 k
      .simp only[aZ,if_false]
       rw[A]at d y
       simp[-aD,-getElem?_pos,-aae,d,g,h,Q,W,c1,lq,al,am,ab,aY,aZ]
       exact b
   simp only[not_or]at A
   have⟨A,k2,k3,k4⟩:=A
   have aH:¬(m.kind=1\/m.kind=2\/m.kind=3\/m.kind=4):=by simp[A,k2,k3,k4]
   by_cases P:m.kind=5
   .have O:ly n peer m w1=(if(jx n ⟨peer,m.aP⟩&&kP [] (n.asked++[⟨peer,m.aP⟩]))=true then w1.put {w1.n with asked:=n.asked++[⟨peer,m.aP⟩]}else w1.fail 187):=by unfold ly;rw[if_neg aH,if_pos P]
    rw[O]
    rw[P]at d y E
    rw[<-aU]
    cases aE:jx n D with
    |false=>
     have⟨K,d1,w2,k⟩:=ki (b.w.snoc (x:=[ah 2 [[I peer,I m.aP]],.dead])) z (e:=187) (by decide)
     rw[aE]at R
     simp only[akX,if_false,aeb]
     simp[-aD,-getElem?_pos,-aae,sJ,q,u,d,g,h,aV c1,R,d1]
     exact(b.step b.w.snoc (bq.snoc lg)).step w2 k
    |true=>
     rw[aE]at R
     have X:=bx (G++[Ob.live 0 2 [[I peer,I m.aP]],.live 1 2 [[I peer,I m.aP]],.live 1 2 ((n.asked++[D]).map aW)]) (G.length+2) 1 (by rw[jd];rfl)
     rw[<-ao]at X
     have a0:=b.step (b.w.snoc (x:=x)) (bq.snoc lg)
     have bA:=b.w.cell (x:=x) (i:=0) (o:=ah 2 [[I peer,I m.aP]]) (by rw[<-L];rfl)
     rw[aiw]at bA
     cases bC:kP [] (n.asked++[D])with
     |false=>
      have⟨K,d1,w2,k⟩:=ki a0.w z (e:=187) (by decide)
      rw[<-L, <-ao]at d1
      rw[bC]at X
      simp only[alx,if_false,aeb]
      simp[-aD,-getElem?_pos,-aae,sJ,gV,iT,q,u,d,h,aV c1,R,a5,sz,X]
      rw[d1]
      simp only[EE,Gl,dW,Kd]
      simp[-aD,g,h]
      exact a0.step w2 k
     |true=>
      have⟨K,d1,w2,k⟩:=pb a0.w z 187
      have M:=a0.step w2 k
      have bD:=(bA.step k).at'
      have aI:=M.c1.at'
      rw[<-L, <-ao]at d1
      rw[bC]at X
      have⟨a8,a1,a9,bE,bb,bc,g2,J⟩:=w2.row
      rw[B]at J
      simp only[ak8,if_true]
      simp[-aD,-getElem?_pos,-aae,sJ,gV,iT,q,u,d,h,aV c1,R,a5,sz,X]
      rw[d1]
      simp only[EE,Gl,dW,Kd]
      have bF:=g2.ha
      have ca:w1.n.asked=n.asked:=by rw[B]
      rw[ca]at bF
      have cr:(w1.put {w1.n with asked:=n.asked++[D]}).n.dr=n.dr:=by show w1.n.dr=_;rw[B]
      have ct:w1=⟨n,w1.out,w1.seen,w1.e⟩:=by rw[<-B]
      have lk:=bf J
      rcases bF with⟨be,rfl⟩|⟨hq,vq,rfl,an⟩
      .simp at be
       have r:=g2.Q9 (G:=(K++[Ob.live 0 2 [[I peer,I m.aP]],Ob.live 0 2 [[I peer,I m.aP]]]).set 6 (Ob.live 0 13 [bN (w1.put {w1.n with asked:=n.asked++[D]}) a8 a1 a9 (.sl (K.length+1) 0 0 1) bb bc])) (n.asked++[D]) (ks':= .sl (K.length+1) 0 0 1) (ba (aV J)) (by simp) (fun m o h1 h2 h3=>by rw[aay (ain h2)];exact aV h1) (.inr ⟨K.length+1,0,by simp[be],by rw[aay (by omega),jd, <-ao];simp[be]⟩) (fun m hm=>by simp[Go.Nx.rf]at hm;exact .inr (by omega))
       have aJ:=M.step r.1.at r.2
       simp only[bN,Wk.put,B,aG]at aJ
       simp[-aD,g,h,aI,J,aV J,bD]
       simp only[Wk.put,B]
       exact aJ
      .have a2:hq≠6:=fun e=>by subst e;rw[J]at an;cases an
       have cb:¬1=hq:=fun e=>by subst e;rw[aI]at an;cases an
       have bj:(n.asked.map aW).length=n.asked.length:=by simp
       rw[bj]at g2 J
       rw[aeo]at an
       have sb:∀bI,(K.set hq bI)[6]?=_:=fun bI=>(aay a2).trans J
       have r:=g2.Q9 (G:=((K++[Ob.live 0 2 [[I peer,I m.aP]]]).set hq (Ob.live (vq+1) 2 (n.asked.map aW++[[I peer,I m.aP]]))).set 6 (Ob.live 0 13 [bN (w1.put {w1.n with asked:=n.asked++[D]}) a8 a1 a9 (.sl hq (vq+1) 0 (n.asked.length+1)) bb bc])) (n.asked++[D]) (ks':= .sl hq (vq+1) 0 (n.asked.length+1)) (ba (by rw[aay a2];exact aV J)) (by simp) (fun m o h1 h2 h3=>by rw[aay (ain h2),aay (fun e=>h3 (by subst e;simp[Go.Nx.rf]))];exact aV h1) (.inr ⟨hq,vq+1,by simp,by rw[aay (ain a2),ba (aV an),ao];simp⟩) (fun m hm=>by simp[Go.Nx.rf]at hm|-;exact .inl hm)
       have aJ:=M.step r.1.at r.2
       simp only[bN,Wk.put,B,aG]at aJ
       simp[-aD,g,h,aI,J,aV J,bD,a2,cb,aV an,sz]
       simp only[Wk.put,B]
       exact aJ
   by_cases T:m.kind=6
   .have O:ly n peer m w1=(if(iU n.dr.ai.af peer m.aP 1&&decide (peer∈n.told))=true then sK n peer w1 else w1.fail 187):=by unfold ly;rw[if_neg aH,if_neg P,if_pos T]
    rw[O]
    rw[T]at d y E
    have aF:=qv n.told peer (by have:=N.tl;unfold maxLen;omega)
    simp only[aG]at aF
    have aX:∀K,aO tz ay 203 [bh (n.told.map aC),aa peer] K=some (aR (decide (peer∈n.told)),K):=fun K=>by simp[aF,bi]
    have cs:=E 1
    cases F:iU n.dr.ai.af peer m.aP 1 with
    |true=>
     rw[F]at cs
     by_cases U:peer∈n.told
     .have ⟨x0,Z,_,_⟩:=Nj F
      have bl:cK n.dr.ai.af peer=true:=lN.2 ⟨x0,ajP Z,by have:=akN Z;simpa[cQ]using this⟩
      have⟨j,L,ab,cc⟩:=Ld bl
      rw[aB]at L
      subst L
      have⟨x,bJ⟩:=ak n.dr.ai.af[j]
      have⟨K,d1,w2,k⟩:=pb b.w z 187
      have M:=b.step w2 k
      have⟨a8,a1,a9,bE,bb,bc,g2,J⟩:=w2.row
      obtain⟨t,ha,va,rfl,al⟩:=g2.hs
      have bj:(w1.n.dr.ai.af.map ax).length=n.dr.ai.af.length:=by rw[B];simp
      rw[bj]at g2 J
      rw[B]at al J
      have am:(n.dr.ai.af.map ax++t)[j]?=some (ax x):=by
       rw[aaK (by simpa using ab),adn,aae ab,bJ];rfl
      have aY:j<n.dr.ai.af.length+t.length:=by omega
      have ar:=g2.Me (by rw[B]) al j {x with state:=0}
      have⟨w3,a3⟩:=ak (w1.put (w1.n.eK (n.dr.ai.af.set j {x with state:=0})))
      rw[a3,aix]at ar
      have⟨K3,bm⟩:=ak (K.set ha (.live va 8 ((n.dr.ai.af.map ax).set j (ax {x with state:=0})++t)))
      rw[bm]at ar
      have aL:=M.step ar.1.at ar.2
      have bK:=ar.1.hb
      have q4:=ar.1.wX [] (w3.put {w3.n with told:=gH n.told [peer]}) (.sl ha va 0 n.dr.ai.af.length) a1 bE (.inl ⟨rfl,rfl⟩) (.inl ⟨rfl,rfl⟩) rfl (.inl ⟨rfl,rfl⟩) rfl rfl
      have bn:=aL.step q4.1 q4.2
      have⟨K5,d5,w5,f5⟩:=FT q4.1 6 peer (by decide) (by rw[<-a3];show w1.seen.length<=_;rw[a6];simp)
      have bM:=bn.step w5 f5
      have cd:(w3.put {w3.n with told:=gH n.told [peer]}).ek 6 peer=sK n peer w1:=by
       unfold sK
       rw[cc,bJ, <-a3]
       have ce:w1=⟨n,w1.out,w1.seen,w1.e⟩:=by
        rw[<-B]
       rw[ce]
       rfl
      rw[cd]at bM
      have bO:=XG n.told peer (by have:=N.tl;omega)
      have cf:w3.n.told=n.told:=by rw[<-a3];show w1.n.told=_;rw[B]
      simp only[aG]at bO
      have cg:∀K,aO tz ay 227 [bh (n.told.map aC),aa peer] K=some (bh ((gH n.told [peer]).map aC),K):=fun K=>by simp[bO,bi]
      simp only[bN,aeo,Wk.put,cf,aG]at bK d5 bn
      have bo:=(aD (C:=tz) (eb:=bB tz (ev tz)) (f:=126)).trans ((if_pos (.inl (by simp))).trans d5)
      have aI:=M.c1.at'
      have ch:=M.lq.at'
      have ci:=aL.c1.at'
      have cj:=bn.c1.at'
      simp only[ax]at am bm
      simp only[U,decide_true,ak8,if_true]
      simp[-aD,-getElem?_pos,-aae,q,u,d,g,h,Q,y,c1,cs,aX,U,d1,aI,ch,J,al,am,ab,aY,bm,ci,bK,cg,cj,bo]
      exact bM
     .have ⟨K,d1,w2,k⟩:=ki b.w z (e:=187) (by decide)
      simp only[U,decide_false,alx,if_false,aeb]
      simp[-aD,q,u,d,g,h,y,c1,cs,aX,d1,U]
      exact b.step w2 k
    |false=>
     have⟨K,d1,w2,k⟩:=ki b.w z (e:=187) (by decide)
     rw[F]at cs
     simp only[akX,if_false,aeb]
     simp[-aD,d,g,h,y,c1,cs,d1]
     exact b.step w2 k
   by_cases Y:m.kind=7
   .have O:ly n peer m w1=(if(iU n.dr.ai.af peer m.aP 0&&decide (peer<n.dr.ai.id))=true then w1.shut peer else w1.fail 187):=by unfold ly;rw[if_neg aH,if_neg P,if_neg T,if_pos Y]
    rw[O]
    rw[Y]at d y E
    have cs:=E 0
    cases F:iU n.dr.ai.af peer m.aP 0 with
    |true=>
     rw[F]at cs
     by_cases U:peer<n.dr.ai.id
     .have ⟨x,Z,_,_⟩:=Nj F
      have bl:cK n.dr.ai.af peer=true:=lN.2 ⟨x,ajP Z,by have:=akN Z;simpa[cQ]using this⟩
      have⟨K,d1,w2,k⟩:=pb b.w z 187
      have⟨K2,d2,w3,f3⟩:=O9 (peer:=peer) w2 ⟨by rw[B];exact bl,bz,by rw[B];exact hh.bk ae,by rw[a6];simp⟩
      have ck:aO tz ay 75 [aw 6,aa peer] K=some (.aM [],K2):=by rw[dz (f:=75) rfl];exact d2
      have M:=b.step w2 k
      have bs:=M.c1.at'
      simp only[U,decide_true,ak8,if_true]
      simp[-aD,q,u,d,g,h,y,c1,cs,d1,U,ck,bs]
      exact M.step w3 f3
     .have ⟨K,d1,w2,k⟩:=ki b.w z (e:=187) (by decide)
      simp only[U,decide_false,alx,if_false,aeb]
      simp[-aD,q,u,d,g,h,y,c1,cs,d1,U]
      exact b.step w2 k
    |false=>
     have⟨K,d1,w2,k⟩:=ki b.w z (e:=187) (by decide)
     rw[F]at cs
     simp only[akX,if_false,aeb]
     simp[-aD,d,g,h,y,c1,cs,d1]
     exact b.step w2 k
   by_cases k8:m.kind=8
   .have O:ly n peer m w1=(if iU n.dr.ai.af peer m.aP 3=true then(w1.drop peer).ek 8 peer else w1.fail 187):=by unfold ly;rw[if_neg aH,if_neg P,if_neg T,if_neg Y,if_pos k8]
    rw[O]
    rw[k8]at d y E
    have cs:=E 3
    cases F:iU n.dr.ai.af peer m.aP 3 with
    |true=>
     rw[F]at cs
     have⟨K,d1,w2,k⟩:=pb b.w z 187
     have⟨K2,d2,w3,f3⟩:=NF w2 (by rw[B];have:=N.si;omega) peer
     have⟨K3,d3,w4,f4⟩:=FT w3 8 peer (by decide) (by show w1.seen.length<=_;rw[a6];simp)
     have cl:aO tz ay 228 [aw 6,aa peer] K=some (.aM [],K2):=by rw[dz (f:=228) rfl];exact d2
     have bo:aO tz ay 126 [aw 6,aa 8,aa peer] K2=some (.aM [],K3):=by rw[dz (f:=126) rfl];exact d3
     have M:=b.step w2 k
     have aL:=M.step w3 f3
     have bs:=M.c1.at'
     have cm:=aL.c1.at'
     simp only[if_true]
     simp[-aD,q,d,g,h,y,c1,cs,d1,cl,bo,bs,cm]
     exact aL.step w4 f4
    |false=>
     have⟨K,d1,w2,k⟩:=ki b.w z (e:=187) (by decide)
     rw[F]at cs
     simp only[if_false,aeb]
     simp[-aD,d,g,h,y,c1,cs,d1]
     exact b.step w2 k
   have O:ly n peer m w1=w1.fail 187:=by unfold ly;rw[if_neg aH,if_neg P,if_neg T,if_neg Y,if_neg k8]
   have⟨K,d1,w2,k⟩:=ki b.w z (e:=187) (by decide)
   rw[O]
   simp[-aD,d,g,h,c1,A,k2,k3,k4,P,T,Y,k8,d1]
   exact b.step w2 k
  clear q u d g h Q y b
  rintro e K⟨g,h,_⟩b
  have⟨b0,b1,b2,b3,b4,b5,b6,b7,b8,b9,lo,le,er,H',d1,d2,d3⟩:=Sv b.w hs b.c0
  have c1:=b.c1.at'
  simp only[jC]at d2
  simp[-aD,-dF,g,h,c1,d1,d2,ba d2]
  exact d3)
 exact⟨o,Pg h1 h2,h3⟩
def N1{id:Int}{p:aI->Bool}{f:aI->aI}(c:∀x,p x=true->(f x).peer=x.peer/\∀a,cR id a x=true->cR id a (f x)=true):∀ {l:List aI} {a:Int},dU id a l=true->dU id a (setAt p f l)=true
 |[],_,_=>rfl
 |x::r,a,b=>by
  simp only[dU,aa2]at b
  unfold setAt
  split
  .rename_i hp
   have⟨d,e⟩:=c x hp
   simp only[dU,aa2]
   rw[d]
   exact⟨e _ b.1,b.2⟩
  .simp only[dU,aa2]
   exact⟨b.1,N1 c b.2⟩
def OI{p:aI->Bool}{f:aI->aI}:∀ {l:List aI} {y:aI},y∈setAt p f l->y∈l\/∃x∈l,p x=true/\y=f x
 |[],y,h=>by simp[setAt]at h
 |x::r,y,h=>by
  unfold setAt at h
  split at h
  .rename_i hp
   rcases ae3.1 h with h|h
   .exact .inr ⟨x,by simp,hp,h⟩
   .exact .inl (by simp[h])
  .rcases ae3.1 h with h|h
   .exact .inl (by simp[h])
   .rcases OI h with h|⟨z,a,b,c⟩
    .exact .inl (by simp[h])
    .exact .inr ⟨z,by simp[a],b,c⟩
def J7{p:aI->Bool}{f:aI->aI}:∀ {l:List aI} {x:aI},x∈l->x∈setAt p f l\/(p x=true/\f x∈setAt p f l)
 |[],_,h=>by simp at h
 |z::r,x,h=>by
  unfold setAt
  split
  .rename_i hp
   rcases ae3.1 h with h|h
   .subst h;exact .inr ⟨hp,by simp⟩
   .exact .inl (by simp[h])
  .rcases ae3.1 h with h|h
   .subst h;exact .inl (by simp)
   .rcases J7 (p:=p) (f:=f) h with h|⟨a,b⟩
    .exact .inl (by simp[h])
    .exact .inr ⟨a,by simp[b]⟩
def Lb{p:aI->Bool}{f:aI->aI}:∀l:List aI,(setAt p f l).length=l.length
 |[]=>rfl
 |x::r=>by
  unfold setAt
  split
  .simp
  .simp[Lb r]
def Aw{p:aI->Bool}{f:aI->aI}(a:∀x,p x=true->(f x).peer=x.peer)(q:Int):∀l:List aI,cK (setAt p f l) q=cK l q
 |[]=>rfl
 |x::r=>by
  unfold setAt
  split
  .rename_i hp
   simp only[cK,alL,a x hp]
  .have:=Aw a q r
   simp only[cK,alL]at this|-
   rw[this]
def Qk{p:aI->Bool}{f:aI->aI}{l:List aI}(b:∀x,p x=true->(f x).peer=x.peer)(h:∀x∈l,x.peer<64):∀x∈setAt p f l,x.peer<64:=fun y c=>by
 rcases OI c with a|⟨x,a,d,e⟩
 .exact h y a
 .rw[e,b x d];exact h x a
def AQ{d:Dr}{p:aI->Bool}{f:aI->aI}(h:dE d=true)(b:∀x,p x=true->(f x).peer=x.peer/\∀c,cR d.ai.id c x=true->cR d.ai.id c (f x)=true):dE ⟨⟨d.ai.id,d.ai.phase,setAt p f d.ai.af⟩,d.aQ,d.need⟩=true:=by have a:=iq.1 h;have hn:=jA.1 a.1;refine iq.2 ⟨jA.2 ⟨hn.1,hn.2.1,hn.2.2.1,by simpa[Lb]using hn.2.2.2.1,N1 b hn.2.2.2.2⟩,a.2.1,a.2.2.1,a.2.2.2.1,a.2.2.2.2.1,fun q e=>?_⟩;rw[Aw fun x g=>(b x g).1];exact a.2.2.2.2.2 q e
def Rs{n:Nd}{p:aI->Bool}{f:aI->aI}(h:db n)(c:∀x,p x=true->(f x).peer=x.peer/\∀d,cR n.dr.ai.id d x=true->cR n.dr.ai.id d (f x)=true)(i:∀x,p x=true->x.state=0->(f x).state=0)(j:List Int):
  db ⟨⟨⟨n.dr.ai.id,n.dr.ai.phase,setAt p f n.dr.ai.af⟩,n.dr.aQ,n.dr.need⟩,n.book,n.known,j,n.asked⟩:=by
 have b:=fun x l=>(c x l).1
 refine⟨AQ h.dr c,h.bk,h.id,Qk b h.pe,fun k m=>?_,h.ad,fun s o r q t=>?_,h.th⟩
 .have:=h.ask k m
  refine⟨this.1,this.2.1,?_,this.2.2.2⟩
  show cK (setAt p f n.dr.ai.af) k.peer=false
  rw[Aw b]
  exact this.2.2.1
 .have ⟨x,u,e,g⟩:=h.wt s o r q t
  rcases J7 (p:=p) (f:=f) u with a|⟨a,v⟩
  .exact ⟨x,a,e,g⟩
  .exact ⟨f x,v,by rw[b x a];exact e,i x a g⟩
def Qa{d:Dr}{c:Int}{m:cU}(h:(gW d c m).2=0):∃f:aI->aI,(gW d c m).1=⟨⟨d.ai.id,d.ai.phase,setAt (jR c m.aP) f d.ai.af⟩,d.aQ,d.need⟩/\(∀x,(f x).peer=x.peer/\∀b,cR d.ai.id b x=true->cR d.ai.id b (f x)=true)/\∀x,(f x).state=x.state:=by
 have i:∀ {e:cP×Int},e=jV d.ai c m->e.2=0->∃f:aI->aI,e.1=⟨d.ai.id,d.ai.phase,setAt (jR c m.aP) f d.ai.af⟩/\(∀x,(f x).peer=x.peer/\∀b,cR d.ai.id b x=true->cR d.ai.id b (f x)=true)/\∀x,(f x).state=x.state:=by
  intro e a j;unfold jV at a;repeat' split at a
  all_goals subst a
  all_goals first
   |(exact absurd j (by decide))
   |(refine⟨_,rfl,fun x=>⟨rfl,fun b g=>?_⟩,fun x=>rfl⟩
     simp only[cR,aa2,afj,decide_eq_true_eq,decide_eq_false_iff_not,akd,aj9]at g|-
     simp_all)
 have⟨e,a⟩:=ak (gW d c m);rw[a]at h|-;unfold gW at a;repeat' split at a
 all_goals subst a
 all_goals first
  |(exact absurd h (by decide))
  |(have⟨f,k,l⟩:=i rfl ‹_›
    exact⟨f,by rw[k],l⟩)
  |(refine⟨_,rfl,fun x=>⟨rfl,fun b g=>?_⟩,fun x=>rfl⟩
    simp only[cR,aa2,afj,decide_eq_true_eq,decide_eq_false_iff_not,akd,aj9]at g|-
    simp_all)
  |(rename_i hc;exact absurd h hc)
def aa5{w:Wk}{b:Int}{m:cU}(h:db w.n)(j:gQ w.n.known)(c:iu w)(d:w.e=0)(g:(w.sj b m).e=0):eV (w.sj b m):=by
 unfold Wk.sj at g|-;by_cases i:(gW w.n.dr b m).2=0
 .have hn:w.need (decide ((gW w.n.dr b m).2=0)) 187=w:=by unfold Wk.need;simp[i]
  rw[hn,if_pos d];have⟨f,l,p,q⟩:=Qa i;have r:iu (w.put {w.n with dr:=(gW w.n.dr b m).1}):=⟨c.o,c.s,c.t,c.k,c.a⟩;refine r.jW ?_ j d;show db {w.n with dr:=(gW w.n.dr b m).1};rw[l];exact Rs h (fun x _=>p x) (fun x _ u=>by rw[q];exact u) w.n.told
 .have hn:w.need (decide ((gW w.n.dr b m).2=0)) 187=⟨w.n,w.out,w.seen,187⟩:=by unfold Wk.need;simp[i,d]
  rw[hn]at g;simp at g
def adp{w:Wk}{b:Int}(h:db w.n)(g:gQ w.n.known)(c:iu w)(d:w.seen.length<=90)(i:w.e=0):eV (sK w.n b w):=by
 have u:(gH w.n.told [b]).length<=w.n.told.length:=by unfold gH;exact aiZ (ah2 _ _) (RF _)
 have j:iu (sK w.n b w):=⟨c.o,by simp[sK,Wk.ek,Wk.put];omega,by have:=c.t;show(gH w.n.told [b]).length<=_;omega,c.k,c.a⟩;refine j.jW ?_ g i;refine Rs (p:=cQ b) (f:=fun x=>{x with state:=0}) h (fun x _=>⟨rfl,fun v d=>?_⟩) (fun x _ y=>rfl) _;simp only[cR,aa2,afj,decide_eq_true_eq,decide_eq_false_iff_not,akd,aj9]at d|-;obtain⟨⟨⟨⟨⟨⟨l,m⟩,q⟩,r⟩,z⟩,A⟩,s⟩:=d;exact⟨⟨⟨⟨⟨⟨l,m⟩,q⟩,r⟩,by decide⟩,by decide⟩,s⟩
def ahi(w:Wk)(b:ci):w.di.put {w.di.n with book:=b}=(w.put {w.n with book:=b}).di:=by by_cases a:(lu w.n.dr).2=0<;>simp[Wk.di,Wk.put,a]
def Lg{w:Wk}{b:Int}(h:db w.n)(v:gQ w.n.known)(u:iu w)(T:w.e=0):eV (w.shut b):=by
 have U:∀x:aI,cQ b x=true->x.peer=b:=fun x V=>by simpa[cQ]using V
 have⟨n1,d⟩:=ak (w.n.eK (setAt (cQ b) (fun x=>{x with state:=2}) w.n.af));have W:n1.book=w.n.book:=by rw[<-d];rfl
 have y:n1.known=w.n.known:=by rw[<-d];rfl
 have F:n1.told=w.n.told:=by rw[<-d];rfl
 have G:n1.asked=w.n.asked:=by rw[<-d];rfl
 have hth:n1.dr.aQ=w.n.dr.aQ:=by rw[<-d];rfl
 have X:n1.dr.need=w.n.dr.need:=by rw[<-d];rfl
 have H:iS w.n.book b=(⟨w.n.book.last,w.n.book.aA.filter fun s=>!cg b s⟩,(w.n.book.aA.filter (cg b)).map (·.id),0):=by unfold iS;rw[if_neg (by rw[h.bk];decide)]
 have⟨c,A⟩:=ak ((⟨w.n.book.last,w.n.book.aA.filter fun s=>!cg b s⟩:ci):ci);have hl:w.n.book.aA.length<=100:=by have:=h.bk;simp only[cM,aa2,afj,decide_eq_false_iff_not]at this;omega
 have Y:((w.n.book.aA.filter (cg b)).map (·.id)).length<=100:=by have:=ah2 (cg b) w.n.book.aA;simp only[ahL];omega
 have⟨g,B⟩:=ak ((w.n.book.aA.filter (cg b)).map (·.id):List Int);rw[A,B]at H;rw[B]at Y
 have I:oX {n1 with book:=c}:=by
  rw[<-d, <-A];refine⟨AQ h.dr (fun x _=>⟨rfl,fun al J=>?_⟩),Vj h.bk _,h.id,Qk (fun _ _=>rfl) h.pe,fun k v=>?_,h.ad,fun s Z K q L=>?_⟩
  .simp only[cR,aa2,afj,decide_eq_true_eq,decide_eq_false_iff_not,akd,aj9]at J|-;obtain⟨⟨⟨⟨⟨⟨a1,a2⟩,a3⟩,a4⟩,a5⟩,a6⟩,a7⟩:=J;exact⟨⟨⟨⟨⟨⟨a1,a2⟩,a3⟩,a4⟩,by decide⟩,by decide⟩,a7⟩
  .have:=h.ask k v;refine⟨this.1,this.2.1,?_,this.2.2.2⟩;show cK (setAt (cQ b) _ w.n.dr.ai.af) k.peer=false;rw[Aw (f:=fun x=>{x with state:=2}) (fun _ _=>rfl)];exact this.2.2.1
  .have M:s∈w.n.book.aA/\cg b s=false:=by simpa using ajD.1 Z
   have aa:¬q=b:=fun ab=>by have:=M.2;subst ab;simp[cg,K]at this;exact this L
   have⟨x,e,N,h3⟩:=h.wt s M.1 K q L;rcases J7 (p:=cQ b) (f:=fun x=>{x with state:=2}) e with C|⟨C,h5⟩
   .exact ⟨x,C,N,h3⟩
   .exact absurd (N.symm.trans (U x C)) aa
 have⟨w1,m⟩:=ak ((w.put n1).ek 7 b);have ae:w1.n.book=w.n.book:=by rw[<-m];exact W
 have am:=u.o;have an:=u.s;have ao:=u.t;have ap:=u.k;have aq:=u.a;have j:w1.n=n1:=by rw[<-m];rfl
 have O:w1.e=0:=by rw[<-m];exact T
 have P:w1.out=w.out:=by rw[<-m];rfl
 have ar:w1.seen.length<=101:=by rw[<-m];simp[Wk.ek,Wk.put];omega
 have Q:(w.n.dr.aQ=1->∃s r,c.aA=s::r/\s.state=0/\s.need=w.n.dr.need)->eV ((w1.put {w1.n with book:=c}).na 5 g):=by intro ht;rw[j];refine DK (I.i fun e=>?_) (by show gQ n1.known;rw[y];exact v) O (by show w1.out.length<=_;rw[P];omega) (by show(w1.seen++g.map _).length<=_;simp;omega) (by show n1.told.length<=_;rw[F];omega) (by show n1.known.length<=_;rw[y];omega) (by show n1.asked.length<=_;rw[G];omega);have R:n1.dr.aQ=1:=e;rw[hth]at R;have⟨s,r,l,D,E⟩:=ht R;exact⟨s,r,l,D,by rw[E];exact X.symm⟩
 have hb:eV ((w1.di.put {w1.di.n with book:=c}).na 5 g):=by
  rw[ahi];have⟨q,_,q2,q3,q4,q5,S,q7,_⟩:=zX (w:=w1.put {w1.n with book:=c}) (by show oX {w1.n with book:=c};rw[j];exact I);refine DK q (by show gQ (w1.put {w1.n with book:=c}).di.n.known;rw[S];show gQ w1.n.known;rw[j,y];exact v) (by show(w1.put {w1.n with book:=c}).di.e=0;rw[q2];exact O) ?_ ?_ ?_ ?_ ?_
  .show (w1.put {w1.n with book:=c}).di.out.length<=_;rw[q3];show w1.out.length<=_;rw[P];omega
  .show ((w1.put {w1.n with book:=c}).di.seen++g.map _).length<=_;rw[q4];show(w1.seen++g.map _).length<=_;simp;omega
  .show (w1.put {w1.n with book:=c}).di.n.told.length<=_;rw[q5];show w1.n.told.length<=_;rw[j,F];omega
  .show (w1.put {w1.n with book:=c}).di.n.known.length<=_;rw[S];show w1.n.known.length<=_;rw[j,y];omega
  .show (w1.put {w1.n with book:=c}).di.n.asked.length<=_;rw[q7];show w1.n.asked.length<=_;rw[j,G];omega
 have ag:w.shut b=(fun w2:Wk=>(w2.put {w2.n with book:=c}).na 5 g) (match w.n.book.aA with
  |[]=>w1
  |s::_=>if n1.dr.aQ=1/\s.id∈g then w1.di else w1):=by
  unfold Wk.shut
  rw[d,m]
  dsimp only
  rw[ae,H,j]
  cases w.n.book.aA<;>rfl
 rw[ag];cases z:w.n.book.aA with
 |nil=>refine Q fun e=>?_;have⟨s,r,l,_⟩:=h.th e;rw[z]at l;cases l
 |cons s r=>
  simp only;split
  .exact hb
  .rename_i hc;refine Q fun e=>?_;have⟨s',r',l,D,E⟩:=h.th e;rw[z]at l;cases l
   have ah:cg b s=false:=by
    cases aj:cg b s with
    |false=>rfl
    |true=>exact absurd ⟨by rw[hth];exact e,by rw[<-B,z];exact aiE.2 ⟨s,ajD.2 ⟨by simp,aj⟩,rfl⟩⟩ hc
   refine⟨s,r.filter fun s=>!cg b s,?_,D,E⟩;rw[<-A,z,akJ,if_pos (by rw[ah];rfl)]
def Sc{a:Int}:∀ {l:List Int},(l.Pairwise fun x y=>x≠y)->l.length<=(l.filter fun x=>!decide (x=a)).length+1
 |[],_=>by simp
 |x::r,h=>by
  have hp:=af7.1 h
  rw[akJ]
  by_cases b:x=a
  .subst b
   have:r.filter (fun y=>!decide (y=x))=r:=ajn.2 fun y c=>by
    have:=hp.1 y c
    simp;exact fun e=>this e.symm
   simp[this]
  .have:=Sc (a:=a) hp.2
   simp[b]at this|-
   omega
def Fp:∀(n:Nat) {l:List Int},(l.Pairwise fun x y=>x≠y)->(∀x∈l,0<=x/\x<n)->l.length<=n
 |0,l,_,c=>by
  cases l with
  |nil=>simp
  |cons x r=>have:=c x (by simp);omega
 |n+1,l,h,c=>by
  have e:=Sc (a:=(n:Int)) h
  have f:=Fp n (h.filter fun x=>!decide (x=(n:Int))) (fun x b=>by
   have b:=ajD.1 b
   have g:=c x b.1
   have d:=b.2
   simp at d
   omega)
  omega
def HO{l:List cu}(h:l.Pairwise fun x y=>x.peer≠y.peer)(a:∀x∈l,0<=x.peer/\x.peer<64):l.length<=64:=by
 have:=Fp 64 (l:=l.map (·.peer)) (alV.2 h) (fun x b=>by obtain⟨k,c,rfl⟩:=aiE.1 b;have:=a k c;omega)
 simpa using this
def Lx:∀ {l:List Int},ei l=true->l.Pairwise fun x y=>x≠y
 |[],_=>akl
 |x::r,h=>by
  refine af7.2 ⟨fun y c=>?_,Lx (by simp only[ei,aa2]at h;exact h.2)⟩
  have d:∀(l:List Int) (x:Int),((match l with|[]=>true|y::_=>decide (x<y))=true)->ei l=true->∀p∈l,x<p:=by
   intro l
   induction l with
   |nil=>intro x _ _ p hp;simp at hp
   |cons y t e=>
    intro x b a p hp
    simp only[decide_eq_true_eq]at b
    simp only[ei,aa2]at a
    rcases ae3.1 hp with rfl|hp
    .exact b
    .have:=e y a.1 a.2 p hp;omega
  simp only[ei,aa2]at h
  have:=d r x h.1 h.2 y c
  omega
structure Qb(n:Nd):Prop where
 i:db n
 k:gQ n.known
 ko:nq (-1) n.known=true
 kl:n.known.length<=64
 tl:n.told.length<=64
 al:n.asked.length<=64
 lv:∀p∈n.dr.need,p∉qk n
def LV{a b:List Int}(h:(ke a b).isEmpty=true):∀p∈a,p∉b:=by
 intro p hp c;unfold ke at h;rw[akI]at h;have:p∈([]:List Int):=by rw[<-h];simp[wh,hp,c]
 simp at this
def rh{n:Nd}(h:dv n=true):Qb n:=by
 have⟨a,f,g⟩:=IZ h;have i:=iq.1 a.dr;have j:=jA.1 i.1;simp only[dv,pj,rM,aa2,afj,ai4,decide_eq_true_eq]at h;obtain⟨⟨⟨o,q⟩,⟨t,u⟩,⟨⟨⟨hid,k⟩,v⟩,l⟩,m⟩,hth⟩:=h;have c:=yu k;refine⟨a,f,g,HO (c.1.imp fun h=>by omega) (fun x b=>by have:=c.2 x b;omega),?_,HO a.ad (fun x b=>by have:=a.ask x b;have:=a.id;omega),?_⟩
 .refine Fp 64 (Lx l) fun p hp=>?_;have d:=JB.1 m p hp;simp only[vw,aiE,ajD]at d;obtain⟨x,⟨b,_⟩,rfl⟩:=d;have w:=(z6 j.2.2.2.2).2 x b;have y:=a.pe x b;omega
 .unfold tL at hth;cases e:n.book.aA with
  |nil=>rw[e]at hth;simp only[aa2]at hth;exact LV hth.2
  |cons s r=>rw[e]at hth;simp only[aa2]at hth;exact LV hth.1.2
def ZB{n:Nd}(h:dv n=true):fm n:=by have a:=rh h;exact⟨by have:=a.i.af.1;omega,by have:=a.i.need;omega,ze a.i.bk,by have:=a.kl;omega,by have:=a.tl;omega,by have:=a.al;omega⟩
def RE{n:Nd}(h:Qb n):iu (bg n):=⟨by simp[bg],by simp[bg],by have:=h.tl;show n.told.length<=_;omega,by have:=h.kl;show n.known.length<=_;omega,by have:=h.al;show n.asked.length<=_;omega⟩
def Se{n:Nd}(h:fm n):BO n:=by refine⟨h,fun h=>(rh h).i.af.2,fun a=>⟨(rh a).k.s,(rh a).k.b,h.kn⟩,fun h=>(rh h).i.bk,fun h=>?_,fun h=>yF (rh h).ko⟩;exact(jA.1 (iq.1 (rh h).i.dr).1).1
def abF{w:Wk}{b c:Int}(h:db w.n)(a:gQ w.n.known)(d:iu w)(m:w.n.asked.length<=90)(g:nq (-1) w.n.known=true)(i:w.e=0)(f:jx w.n ⟨b,c⟩=true)(j:kP [] (w.n.asked++[⟨b,c⟩])=true):eV (w.put {w.n with asked:=w.n.asked++[⟨b,c⟩]}):=by
 have l:iu (w.put {w.n with asked:=w.n.asked++[⟨b,c⟩]}):=⟨d.o,d.s,d.t,d.k,by show(w.n.asked++[_]).length<=_;simp;omega⟩;refine l.jW ⟨h.dr,h.bk,h.id,h.pe,fun k a=>?_,(Fy j).1,h.wt,h.th⟩ a i;rcases ahl.1 a with a|a
 .exact h.ask k a
 .simp at a;subst a;simp only[jx,aa2,afj,decide_eq_false_iff_not,decide_eq_true_eq]at f;have p:=yF g b;exact⟨by show 0<=b;omega,f.1.1.2,f.1.1.1.1,by show 0<=c;omega,f.2⟩
def Pe{id:Int}(p:aI->Bool):∀ {l:List aI} {a:Int},dU id a l=true->dU id a (l.filter p)=true
 |[],_,_=>rfl
 |x::r,a,h=>by
  simp only[dU,aa2]at h
  have b:=Pe p h.2
  rw[akJ]
  split
  .simp only[dU,aa2]
   exact⟨h.1,b⟩
  .have c:=h.1
   simp only[cR,aa2,decide_eq_true_eq]at c
   exact NG b (by omega)
def ab9{l:List aI}(h:l.Pairwise fun x y=>x.peer<y.peer){x y:aI}(a:x∈l)(b:y∈l)(d:x.peer=y.peer):x=y:=by
 induction l with
 |nil=>simp at a
 |cons z r c=>
  have hp:=af7.1 h;rcases ae3.1 a with a|a<;>rcases ae3.1 b with b|b
  .rw[a,b]
  .have:=hp.1 y b;subst a;omega
  .have:=hp.1 x a;subst b;omega
  .exact c hp.2 a b
def aeH{w:Wk}{b:Int}{x:aI}(h:db w.n)(q:gQ w.n.known)(j:iu w)(r:w.seen.length<=90)(C:w.e=0)(D:∀p∈w.n.dr.need,p∉qk w.n)(u:w.n.dr.ai.af.find? (cQ b)=some x)(v:x.state=3):eV ((w.drop b).ek 8 b):=by
 have f:=iq.1 h.dr;have g:=jA.1 f.1;have z:=ajP u;have A:x.peer=b:=by simpa[cQ]using akN u
 have E:=h.af.2.s;have F:iu ((w.drop b).ek 8 b):=⟨j.o,by simp[Wk.drop,Wk.ek,Wk.put];omega,j.t,j.k,j.a⟩;have l:∀y:aI,y∈nP b w.n.dr.ai.af↔y∈w.n.dr.ai.af/\ ¬y.peer=b:=fun y=>by simp[nP]
 have B:∀p,cK (nP b w.n.dr.ai.af) p=true↔cK w.n.dr.ai.af p=true/\ ¬p=b:=fun p=>by
  rw[lN,lN];constructor
  .rintro⟨y,c,d⟩;have c:=(l y).1 c;exact⟨⟨y,c.1,d⟩,by rw[<-d];exact c.2⟩
  .rintro⟨⟨y,c,d⟩,i⟩;exact⟨y,(l y).2 ⟨c,by rw[d];exact i⟩,d⟩
 have G:b∉w.n.dr.need:=fun hp=>D b hp (by simp only[qk,aiE,ajD,decide_eq_true_eq];exact⟨x,⟨z,v⟩,A⟩);refine F.jW ⟨iq.2 ⟨jA.2 ⟨g.1,g.2.1,g.2.2.1,?_,Pe _ g.2.2.2.2⟩,f.2.1,f.2.2.1,f.2.2.2.1,f.2.2.2.2.1,fun p hp=>(B p).2 ⟨f.2.2.2.2.2 p hp,fun e=>G (e▸hp)⟩⟩,h.bk,h.id,fun y H=>h.pe y ((l y).1 H).1,fun k q=>?_,h.ad,fun s r I p hp=>?_,h.th⟩ q C
 .have:=ah2 (fun x:aI=>!decide (x.peer=b)) w.n.dr.ai.af;have:=g.2.2.2.1;show(nP b w.n.dr.ai.af).length<64;unfold nP;omega
 .have m:=h.ask k q;refine⟨m.1,m.2.1,?_,m.2.2.2⟩;cases hc:cK (nP b w.n.dr.ai.af) k.peer with
  |false=>exact hc
  |true=>have:=((B k.peer).1 hc).1;have J:cK w.n.dr.ai.af k.peer=false:=m.2.2.1;rw[J]at this;cases this
 .have ⟨y,c,d,i⟩:=h.wt s r I p hp;refine⟨y,(l y).2 ⟨c,fun e=>?_⟩,d,i⟩;have:=ab9 E c z (by rw[e,A]);subst this;rw[v]at i;cases i
def LW{n:Nd}{a:Act}(h:dv n=true)(b:(cN n a).e=0):eV (cN n a):=by
 have c:=rh h;have d:=RE c;have g:(bg n).seen.length<=90:=by simp[bg]
 have f:(bg n).e=0:=by simp[bg,h]
 unfold cN at b|-;simp only[h,if_true]at b|-;by_cases j:a.kind=0
 .rw[if_pos j]at b|-;exact afA c.i c.k d g f b
 rw[if_neg j]at b|-;by_cases l:a.kind=1
 .rw[if_pos l]at b|-;exact afE c.i c.k d g f b
 rw[if_neg l]at b|-;by_cases m:a.kind=2
 .rw[if_pos m]at b|-;exact ZH c.i c.k d g f b
 rw[if_neg m]at b|-;by_cases o:a.kind=3
 .rw[if_pos o]at b|-;exact agO c.i c.k d g f b
 rw[if_neg o]at b|-;by_cases p:a.kind=4
 .rw[if_pos p]at b|-;by_cases c1:(a.peer>n.dr.ai.id&&a.peer<64)=false
  .rw[if_pos c1]at b;exact absurd b (by simp[Wk.fail])
  rw[if_neg c1]at b|-;by_cases c2:cK n.dr.ai.af a.peer=true
  .rw[if_pos c2]at b;exact absurd b (by simp[Wk.fail])
  rw[if_neg c2]at b|-;by_cases c3:gR n.known a.peer<65535
  .rw[if_pos c3]at b|-;simp at c1;exact X8 (w:=bg n) c.i c.k d (by have:=c.kl;show n.known.length<=_;omega) f c1.1 c1.2 (by show cK n.dr.ai.af a.peer=false;simpa using c2) c3 (yF c.ko _)
  .rw[if_neg c3]at b;exact absurd b (by simp[Wk.fail])
 rw[if_neg p]at b|-;by_cases q:a.kind=5
 .rw[if_pos q]at b|-;by_cases c1:(a.peer>n.dr.ai.id&&a.peer<64)=false
  .rw[if_pos c1]at b;exact absurd b (by simp[Wk.fail])
  rw[if_neg c1]at b|-;cases r:n.dr.ai.af.find? (cQ a.peer)with
  |none=>rw[r]at b;exact absurd b (by simp[Wk.fail])
  |some x=>
   rw[r]at b;simp only at b|-;by_cases c2:oC x=true
   .rw[if_pos c2]at b|-;exact Lg c.i c.k d f
   .rw[if_neg c2]at b;exact absurd b (by simp[Wk.fail])
 rw[if_neg q]at b;exact absurd b (by simp[Wk.fail])
def acI{l:List aI}{p a s:Int}(h:iU l p a s=true):∃x,l.find? (cQ p)=some x/\x.aP=a/\x.state=s:=by
 unfold iU at h;cases b:l.find? (cQ p)with
 |none=>rw[b]at h;cases h
 |some x=>rw[b]at h;simp at h;exact⟨x,rfl,h⟩
def wN(w:Wk):¬(w.fail 187).e=0:=by simp[Wk.fail]
def Q1{n:Nd}{d:Int}{m:cU}(h:dv n=true)(a:(fQ n d m).e=0):eV (fQ n d m):=by
 have b:=rh h;have g:=RE b;have j:(bg n).seen.length<=90:=by simp[bg]
 have f:(bg n).e=0:=by simp[bg,h]
 have l:iO n m=if m.num=0 then bg n else(bg n).fail 187:=by unfold iO;rw[if_pos h]
 unfold fQ at a|-;by_cases hn:m.num=0
 case neg=>rw[l,if_neg hn]at a;simp[Wk.fail]at a
 rw[l,if_pos hn,if_pos f]at a|-;unfold ly at a|-;by_cases o:m.kind=1\/m.kind=2\/m.kind=3\/m.kind=4
 .rw[if_pos o]at a|-;have p:eV (bg n):=g.jW b.i b.k f;cases u:n.dr.ai.af.find? (cQ d)with
  |none=>exact p
  |some x=>
   rw[u]at a;simp only at a|-;by_cases c2:x.aP=m.aP
   .rw[if_pos c2]at a|-;exact aa5 b.i b.k g f a
   .rw[if_neg c2];exact p
 rw[if_neg o]at a|-;by_cases q:m.kind=5
 .rw[if_pos q]at a|-;by_cases c:(jx n ⟨d,m.aP⟩&&kP [] (n.asked++[⟨d,m.aP⟩]))=true
  .rw[if_pos c];simp only[aa2]at c;exact abF (w:=bg n) b.i b.k g (by have:=b.al;show n.asked.length<=_;omega) b.ko f c.1 c.2
  .rw[if_neg c]at a;exact absurd a (wN _)
 rw[if_neg q]at a|-;by_cases r:m.kind=6
 .rw[if_pos r]at a|-;by_cases c:(iU n.dr.ai.af d m.aP 1&&decide (d∈n.told))=true
  .rw[if_pos c];exact adp (w:=bg n) b.i b.k g j f
  .rw[if_neg c]at a;exact absurd a (wN _)
 rw[if_neg r]at a|-;by_cases s:m.kind=7
 .rw[if_pos s]at a|-;by_cases c:(iU n.dr.ai.af d m.aP 0&&decide (d<n.dr.ai.id))=true
  .rw[if_pos c];exact Lg b.i b.k g f
  .rw[if_neg c]at a;exact absurd a (wN _)
 rw[if_neg s]at a|-;by_cases t:m.kind=8
 .rw[if_pos t]at a|-;by_cases c:iU n.dr.ai.af d m.aP 3=true
  .rw[if_pos c];have⟨x,v,z,y⟩:=acI c;exact aeH (w:=bg n) b.i b.k g j f b.lv v y
  .rw[if_neg c]at a;exact absurd a (wN _)
 rw[if_neg t]at a;exact absurd a (wN _)
def kj(d:Dr):Nd:=⟨d,⟨0,[]⟩,d.ai.af.map (fun x=>⟨x.peer,x.aP⟩),[],[]⟩
def afJ(d:Dr)(l:List aI)(q:Nat×ab)(H:List Ob):Prop:=q.1<=l.length/\2<=H.length/\H[0]?=some (ah 10 [[I 0,I 0,ap,I 0,ap,I 0,ap,ap,ap,ap]])/\H[1]?=some (ah 10 [[I d.ai.id,I d.ai.phase,.aj (l.map ax),I d.aQ,.aj (d.need.map aC),I 0,ap,q.2,ap,ap]])/\
 ((q.1=0/\q.2=ap)\/∃a b,2<=a/\q.2= .sl a b 0 q.1/\H[a]?=some (.live b 2 ((l.take q.1).map fun x=>aW ⟨x.peer,x.aP⟩)))
def Rc{H:List Ob}{j:Nat}{X:Ob}(n:Nd)(f:j<H.length):dF true ((H++[Ob.live 0 8 (n.dr.ai.af.map ax),Ob.live 0 4 (n.book.aA.map aN),Ob.live 0 2 (n.known.map aW),Ob.live 0 2 (n.asked.map aW)]).set j X) (.aM [.agg [I n.dr.ai.id,I n.dr.ai.phase,.sl H.length 0 0 n.dr.ai.af.length,I n.dr.aQ,aG n.dr.need,I n.book.last,.sl (H.length+1) 0 0 n.book.aA.length,.sl (H.length+2) 0 0 n.known.length,aG n.told,.sl (H.length+3) 0 0 n.asked.length],aa 0])=some (.aM [.agg (aT n),aa 0],[]):=by
 have⟨G,a⟩:=ak ((H++[Ob.live 0 8 (n.dr.ai.af.map ax),Ob.live 0 4 (n.book.aA.map aN),Ob.live 0 2 (n.known.map aW),Ob.live 0 2 (n.asked.map aW)]).set j X)
 have g:∀k:Nat,G[H.length+k]?=[Ob.live 0 8 (n.dr.ai.af.map ax),Ob.live 0 4 (n.book.aA.map aN),Ob.live 0 2 (n.known.map aW),Ob.live 0 2 (n.asked.map aW)][k]?:=fun k=>by
  rw[<-a,aay (by omega),ad8 (by omega)];congr 1
  omega
 have b:G[H.length]?=some (Ob.live 0 8 (n.dr.ai.af.map ax)):=g 0;have c:G[H.length+1]?=some (Ob.live 0 4 (n.book.aA.map aN)):=g 1;have d:G[H.length+2]?=some (Ob.live 0 2 (n.known.map aW)):=g 2;have e:G[H.length+3]?=some (Ob.live 0 2 (n.asked.map aW)):=g 3;have t0:(n.dr.ai.af.map ax).take n.dr.ai.af.length=n.dr.ai.af.map ax:=ach (by simp);have t1:(n.book.aA.map aN).take n.book.aA.length=n.book.aA.map aN:=ach (by simp);have t2:(n.known.map aW).take n.known.length=n.known.map aW:=ach (by simp);have t3:(n.asked.map aW).take n.asked.length=n.asked.map aW:=ach (by simp);rw[a];simp[-akH,aT,b,c,d,e,t0,t1,t2,t3,bL,bW,bS,bi]
def p66(d:Dr)(E:d.ai.af.length<=100)(hn:d.need.length<=1000):aS tz ay 1 66 [.agg (cV d)]=some (.aM [.agg (if dv (kj d)then aT (kj d)else [I 0,I 0,.aj [],I 0,.aj [],I 0,.aj [],.aj [],.aj [],.aj []]),aa (if dv (kj d)then 0 else 180)],[]):=by
 refine be func66 rfl ?_;have⟨l,r⟩:=ak d.ai.af;have F:fm (kj d):=⟨E,hn,⟨by simp[kj],by simp[kj]⟩,by simp[kj];omega,by simp[kj],by simp[kj]⟩;have a:=I0 (kj d) F;have s:=yO (kj d) F;unfold pU at s;simp only[aT,aG,kj,aiO,aiK,ai6,r,ahL]at s a;simp only[aT,aG,kj,r,ai6,aiO];rw[r]at E;simp[-dF,f66,underlying59,cV,aG,r];refine ia (fun q:Nat×ab=>[(12,aa l.length),(13,aa q.1),(11,bh (l.map ax)),(4,aw 1),(2,aw 0),(3,aa 0)]) (afJ d l) (fun q=>l.length-q.1) ?_ (0,ap) (by simp) ⟨by simp,by simp,rfl,rfl,.inl ⟨rfl,rfl⟩⟩ fun _=>rfl;rintro⟨k,lf⟩ ad H ⟨h,i,A,m,n,B,_⟩ ⟨P,Q,e,o,f⟩;simp only at h i A m n B P f e o Q;by_cases u:k<l.length
 .have C:l.take (k+1)=l.take k++[l[k]]:=jK u;have G:ads.wrap ((k:Int)+1)=((k+1:Nat):Int):=cr (by omega);have⟨x,t⟩:=ak l[k];rw[t]at C;have J:l[k]?=some x:=by rw[aae u,t]
  have b:∀K,(H++K)[1]?=H[1]?:=fun K=>aaK (by omega);rw[o]at b;have ae:(fun x:aI=>aW ⟨x.peer,x.aP⟩) x=[I x.peer,I x.aP]:=rfl;rcases f with⟨f,rfl⟩|⟨p,v,L,rfl,g⟩
  .simp[-dF,-getElem?_pos,-aae,h,i,A,m,n,B,u,J,ax,b,G];refine⟨k+1,by omega,by simp,.sl (H.length+2) 0 0 1,by show k+1<=_;omega,by simp<;>omega,?_,?_,.inr ⟨H.length+2,0,by omega,by rw[f],?_⟩⟩
   .rw[aay (by decide),aaK (by omega)];exact e
   .exact ba (b _)
   .rw[aay (by omega),C,f];simp[aW]
  .have lh:=bf g;have D:∀K,(H++K)[p]?=H[p]?:=fun K=>aaK (by omega);rw[g]at D;have R:min k l.length=k:=by omega
   have S:(k+1)*16<=140737488355328:=by omega
   have M:∀K X,((H++K).set p X)[1]?=some (ah 10 [[I d.ai.id,I d.ai.phase,.aj (l.map ax),I d.aQ,.aj (d.need.map aC),I 0,ap,.sl p v 0 k,ap,ap]]):=fun K X=>by rw[aay (by omega)];exact b K
   have T:¬k+1<=k:=by omega
   have U:k+1<=maxLen:=by unfold maxLen;omega
   simp[-dF,-getElem?_pos,-aae,h,i,A,m,n,B,u,J,ax,b,G,D,R,S,U,M,T];refine⟨k+1,by omega,by simp,.sl p (v+1) 0 (k+1),by show k+1<=_;omega,by simp<;>omega,?_,?_,.inr ⟨p,v+1,L,rfl,?_⟩⟩
   .rw[aay (by decide),aay (by omega),aaK (by omega)];exact e
   .exact ba (M _ _)
   .rw[aay (by omega),ba (D _),C];simp[aW,-akH];rw[alZ,Nat.min_self,akH]
 .obtain rfl:k=l.length:=by omega
  have w:bA (l.map fun x=>aW ⟨x.peer,x.aP⟩)=true:=je _ (fun _=>rfl) l;rcases f with⟨f,rfl⟩|⟨p,v,L,rfl,g⟩
  .have V:l=[]:=List.length_eq_zero_iff.1 f;subst V;simp only[aiO,aiK]at s a o|-;cases c:dv ⟨d,⟨0,[]⟩,[],[],[]⟩with
   |false=>rw[c]at a;simp[-dF,h,i,m,n,e,o,a,bi,ba e];simp
   |true=>rw[c]at a;have b:∀K,(H++K)[0]?=H[0]?:=fun K=>aaK (by omega);rw[e]at b;simp[-dF,-getElem?_pos,-aae,h,i,m,n,o,s,a,bi,b];have q:=Rc (H:=H) (j:=0) (X:=ah 10 [[I d.ai.id,I d.ai.phase,.sl H.length 0 0 0,I d.aQ,.aj (d.need.map aC),I 0,.sl (H.length+1) 0 0 0,.sl (H.length+2) 0 0 0,.aj [],.sl (H.length+3) 0 0 0]]) ⟨d,⟨0,[]⟩,[],[],[]⟩ (by omega);simp only[r,aT,aG,aiO,aiK]at q;exact q
  .have b:∀K,(H++K)[0]?=H[0]?:=fun K=>aaK (by omega);rw[e]at b;simp only[aiv]at g;have W:(l.map fun x=>aW ⟨x.peer,x.aP⟩)=l.map (aW ∘ fun x=>⟨x.peer,x.aP⟩):=rfl;rw[W]at g w;have⟨y,z⟩:=ak (l.map (aW ∘ fun x=>⟨x.peer,x.aP⟩));rw[z]at g w s a|-;have N:y.length=l.length:=by rw[<-z];simp
   have O:y.take l.length=y:=ach (by omega);cases c:dv ⟨d,⟨0,[]⟩,l.map (fun x=>⟨x.peer,x.aP⟩),[],[]⟩with
   |false=>rw[c]at a;simp[-dF,h,i,m,n,e,o,g,a,bi,bL,w,O,N,ba e];simp
   |true=>
    rw[c]at a
    have Y:ij [2] (d.need.map aC)=true:=by
     induction d.need with
     |nil=>rfl
     |cons x ag Z=>simpa[ij]using Z
    have n2:(∀x:aI,x∈l->cW [2] (ax x)=true)=True:=eq_true fun x _=>rfl;have n3:(∀x:List ab,x∈y->cW [2] x=true)=True:=eq_true fun x t=>by rw[<-z]at t;obtain⟨al,_,rfl⟩:=aiE.1 t;rfl
    simp[-dF,-getElem?_pos,-aae,h,i,m,n,o,g,s,a,bi,bL,w,O,N,b,Y,n2,n3];have q:=Rc (H:=H) (j:=0) (X:=ah 10 [[I d.ai.id,I d.ai.phase,.sl H.length 0 0 l.length,I d.aQ,.aj (d.need.map aC),I 0,.sl (H.length+1) 0 0 0,.sl (H.length+2) 0 0 l.length,.aj [],.sl (H.length+3) 0 0 0]]) ⟨d,⟨0,[]⟩,l.map (fun x=>⟨x.peer,x.aP⟩),[],[]⟩ (by omega);simp only[r,aT,aG,aiO,aiK,ai6,z,ahL]at q;exact q
def iL(x:Int):Nat->List UInt8
 |0=>[]
 |n+1=>jq (x.fdiv (2 ^ (min (8*n) 64)))::iL x n
def nU(x:Int):∀n,(iL x n).length=n
 |0=>rfl
 |n+1=>by simp[iL,nU x n]
def QK(x:Int):∀(n k:Nat),k<n->(iL x n)[n-1-k]?=some (jq (x.fdiv (2 ^ (min (8*k) 64))))
 |0,k,h=>by omega
 |n+1,k,h=>by
  by_cases a:k=n
  .subst a
   have:k+1-1-k=0:=by omega
   rw[this];rfl
  .have e:n+1-1-k=(n-1-k)+1:=by omega
   rw[e]
   show(iL x n)[n-1-k]?=_
   exact QK x n k (by omega)
def aak(H:List Ob)(h v:Nat)(rows:List (List ab))(x:Int)(n k:Nat)(G:List Ob):Prop:=k<=n/\∃K,G=H.set h (.live (v+(n-k)) 1 (rows++((iL x n).take (n-k)).map ej))++K
def JR(z:Int):ej (jq z)=[.v (.int .u8 (aja.wrap z))]:=by
 have h:aja.wrap z=z % 256:=rfl;unfold ej jq;rw[h];have b:0<=z % 256:=Int.emod_nonneg _ (by decide);have c:z % 256<256:=Int.emod_lt_of_pos _ (by decide);have a:((alU (z % 256).toNat).toNat:Int)=z % 256:=by rw[UInt8.toNat_ofNat'];omega
 rw[a]
def RP{H:List Ob}{h v:Nat}{rows:List (List ab)}(g:H[h]?=some (.live v 1 rows))(x:Int)(n:Nat)(Q:rows.length<=1000000)(hn:n<=8):
  ∃K,bB tz (ev tz) 218 [bd h v 0 rows.length,.c (U8 x),aa n] H=some (bd h (v+n) 0 (rows.length+n),H.set h (.live (v+n) 1 (rows++(iL x n).map ej))++K):=by
 have t:=cG (C:=tz) (f:=218) (args:=[bd h v 0 rows.length,.c (U8 x),aa n]) (H:=H) (fun r G=>r=bd h (v+n) 0 (rows.length+n)/\∃K,G=H.set h (.live (v+n) 1 (rows++(iL x n).map ej))++K) func218 rfl ?_
 .obtain ⟨r,G,u,rfl,K,rfl⟩:=t
  exact⟨K,u⟩
 have j:=bf g
 have i:ads.wrap ((n:Int)-1)=(n:Int)-1:=fC (by omega) (by omega)
 simp[f218,i]
 refine ia (fun k:Nat=>[(7,aa ((k:Int)-1)),(0,bd h (v+(n-k)) 0 (rows.length+(n-k))),(1,.c (U8 x))]) (aak H h v rows x n) (fun k=>k) ?_ n (by simp) ⟨by omega,[],by simp;rw[lP g]⟩ fun _=>rfl
 rintro k e G⟨l,m,w,_⟩⟨S,K,a⟩
 have⟨R,d⟩:=ak (rows++((iL x n).take (n-k)).map ej)
 rw[d]at a
 have y:R.length=rows.length+(n-k):=by
  rw[<-d]
  simp[nU]<;>omega
 have o:G[h]?=some (.live (v+(n-k)) 1 R):=by
  rw[a,aaK (by simpa using j),ba g]
 by_cases z:k=0
 .subst z
  simp[l,m]
  refine⟨K,?_⟩
  rw[a, <-d]
  have:(iL x n).take n=iL x n:=ach (by rw[nU];omega)
  simp[this]
 .have c:(k:Int)-1>=0:=by omega
  have c1:(1:Int)<=k:=by omega
  have T:(0:Int)<=(k:Int)-1:=by omega
  have i:ads.wrap ((k:Int)-1-1)=(k:Int)-1-1:=fC (by omega) (by omega)
  have A:ads.wrap (8*((k:Int)-1))=8*((k:Int)-1):=fC (by omega) (by omega)
  have B:¬8*((k:Int)-1)<0:=by omega
  have D:(8*((k:Int)-1)).toNat=8*(k-1):=by omega
  have E:min (8*(k-1)) aiS.bits=min (8*(k-1)) 64:=rfl
  have⟨b,p⟩:=ak (aja.wrap (x.fdiv (2 ^ min (8*(k-1)) 64)))
  have F:rows.length+(n-k)+1<=maxLen:=by unfold maxLen;omega
  have I:rows.length+(n-k)+1<=140737488355328:=by omega
  have J:∀q,(G++q)[h]?=some (.live (v+(n-k)) 1 R):=fun q=>by rw[aaK (bf o)];exact o
  simp[l,m,w,c1,i,A,B,D,E,p,J,gT,F,I,y,-Int.reducePow]
  refine⟨k-1,by omega,⟨by omega,by omega,by omega⟩,?_⟩
  refine⟨by omega,K++[ah 1 [[.v (.int .u8 b)]]],?_⟩
  have L:n-(k-1)=n-k+1:=by omega
  have M:(iL x n).take (n-k+1)=(iL x n).take (n-k)++[jq (x.fdiv (2 ^ min (8*(k-1)) 64))]:=by
   have s:=QK x n (k-1) (by omega)
   have N:n-1-(k-1)=n-k:=by omega
   rw[N]at s
   rw[aiB,s];rfl
  have O:rows++((iL x n).take (n-k)++[jq (x.fdiv (2 ^ min (8*(k-1)) 64))]).map ej=R++[ej (jq (x.fdiv (2 ^ min (8*(k-1)) 64)))]:=by rw[agA, <-aio,d];rfl
  rw[L,M,O]
  simp only[JR,p]
  have P:R.take (rows.length+(n-k))=R:=ach (by omega)
  rw[P,a,aio,ajT _ _ (by simpa using j),ajB]
  rfl
def Pw(s:List UInt8):da (Sg s)=Sg s:=rfl
def zP{H:List Ob}{h v L:Nat}{rows:List (List ab)}(a:H[h]?=some (.live v 1 rows))(b:rows.length=L)(x:Int)(n:Nat){m:Int}(hm:(n:Int)=m)(d:rows.length<=1000000)(hn:n<=8):
  ∃G,aO tz ay 218 [bd h v 0 L,.c (U8 x),aa m] H=some (bd h (v+n) 0 (L+n),G)/\G[h]?=some (.live (v+n) 1 (rows++(iL x n).map ej)):=by
 subst b hm
 have⟨K,e⟩:=RP a x n d hn
 refine⟨_,by rw[dz (f:=218) rfl];exact e,?_⟩
 rw[aaK (by simpa using bf a),ba a]
def u7(f:Fm):List UInt8:=[78,1,jq f.kind]++iL (aiS.wrap f.link) 2++iL f.seq 8++iL f.qD 8++iL (aiS.wrap f.body.length) 2++f.body
def jT(f:Fm):List UInt8×Int:=if mO f=false then([],60)else(u7 f++qW (rq (u7 f)),0)
def Cg:∀l:List UInt8,bytesOf (l.map ej)=some l
 |[]=>rfl
 |b::r=>by
  have h:=Cg r
  simp only[afL,ej,bytesOf,h]
  have:=b.toNat_lt
  simp
def ZT(H:List Ob)(s:List UInt8)(a:s.length<=1000000):aO tz ay 220 [.c (Sg s)] H=some (.c (U4 (rq s)),H):=by have h:=KN s a;have⟨y,b⟩:=ak (rq s);rw[b]at h|-;simp[h]
def SN(H:List Ob)(x:Int):aO tz ay 219 [.c (U4 x)] H=some (.c (Sg (qW x)),H):=by have h:=Po x;have⟨y,a⟩:=ak (qW x);rw[a]at h|-;simp[h]
def abH(H:List Ob)(f:Fm):aO tz ay 160 [.agg (cd f)] H=some (aR (mO f),H):=by have h:=zN f;simp only[cd]at h|-;simp[Pw,h]
def Yp(P:Program)(H:List Ob)(a b bytes h v c n:Nat)(z:List ab)(s:List UInt8):rZ P H a b bytes z (.sl h v c n) (Sg s)=none:=by
 unfold rZ;split
 .rename_i d;cases d
 .rfl
def WQ(a:UInt8):(ej a).length=1:=rfl
def adl(f:Fm)(Q:f.body.length<=100000):aS tz ay 0 137 [.agg (cd f)]=some (.aM [.c (Sg (jT f).1),aa (jT f).2],[]):=by
 refine be func137 rfl ?_;have a:=zN f;unfold jT;cases e:mO f with
 |false=>rw[e]at a;simp only[cd]at a;simp[f137,cd,Pw,a]
 |true=>
  rw[e]at a;simp only[cd]at a;have a:=fun H=>abH H f;simp only[cd,e]at a;have⟨g,n⟩:=ak (aja.wrap f.kind);have⟨o,p⟩:=ak (aiS.wrap f.link);have⟨q,r⟩:=ak (aiS.wrap (f.body.length:Int));have D:([[.v (.int .u8 78)],[.v (.int .u8 1)],[.v (.int .u8 g)]]:List (List ab))=[78,1,jq f.kind].map ej:=by simp only[afL,aiO,JR,n];rfl
  have⟨T,s,E⟩:=zP (H:=[ah 1 [[.v (.int .u8 78)],[.v (.int .u8 1)],[.v (.int .u8 g)]]]) (h:=0) (v:=0) (L:=3) rfl rfl o 2 (m:=2) rfl (by simp) (by decide);have⟨U,t,G⟩:=zP E (L:=5) (by simp[nU]) f.seq 8 (m:=8) rfl (by simp[nU]) (by decide);have⟨V,u,I⟩:=zP G (L:=13) (by simp[nU]) f.qD 8 (m:=8) rfl (by simp[nU]) (by decide);have⟨W,w,b⟩:=zP I (L:=21) (by simp[nU]) q 2 (m:=2) rfl (by simp[nU]) (by decide);simp only[aiQ,Nat.reduceAdd]at s t u w b;have⟨R,i⟩:=ak ([[ab.v (.int .u8 78)],[.v (.int .u8 1)],[.v (.int .u8 g)]]++(iL o 2).map ej++(iL f.seq 8).map ej++(iL f.qD 8).map ej++(iL q 2).map ej);rw[i]at b;have j:R.length=23:=by rw[<-i];simp[nU]
  have J:R.take 23=R:=ach (by omega);have⟨F,k⟩:=ak (u7 f)
  have x:bytesOf (R++f.body.map ej)=some F:=by
   have:R++f.body.map ej=F.map ej:=by rw[<-i, <-k,D];simp only[u7,agA,p,r]
   rw[this,Cg]
  have X:F.length=23+f.body.length:=by rw[<-k];simp[u7,nU];omega
  have⟨S,d⟩:=ak (R++f.body.map ej);rw[d]at x;have K:S.take (23+f.body.length)=S:=ach (by rw[<-d];simp[j]);have M:S.length=23+f.body.length:=by rw[<-d];simp[j]
  have⟨y,A⟩:=ak (rq F);have B:=fun H=>ZT H F (by omega);rw[A]at B;have C:=fun H=>SN H y;have⟨z,l⟩:=ak (qW y);rw[l]at C;rw[k,A,l];have N:23+f.body.length<=maxLen:=by unfold maxLen;omega
  have O:23+f.body.length<=140737488355328:=by omega
  have Y:z.length=4:=by rw[<-l];rfl
  have P:F.length+z.length<=maxLen:=by unfold maxLen;omega
  simp[-aD,f137,cd,a,n,p,r,s,t,u,w,ml3,gj,gT,fj,tu,nF,vo,b,j,J,x,B,C,N,O,P,Yp,WQ,d,K,M,ba b]
def adw(x a b:Int):aS tz ay 0 272 [aa x,aa a,aa b]=some (aa (min (max x a) b),[]):=by refine be func272 rfl ?_;simp[f272]
structure Lk where
 link:Int
 win:Int
 room:Int
 wait:Int
 queue:List (List UInt8)
 base:Int
 bO:Int
 gL:Int
 next:Int
 due:Bool
 cH:Int
deriving DecidableEq,Inhabited
def cZ(s:List UInt8):List ab:=[Sg s]
def cq(e:Lk)(q:ab):List ab:=[I e.link,I e.win,I e.room,I e.wait,q,U8 e.base,I e.bO,I e.gL,U8 e.next,B e.due,I e.cH]
def oO(e:Lk):Lk:=if e.bO=0 then e else if e.cH+1>=e.wait then{e with bO:=0,cH:=0}else{e with cH:=e.cH+1}
def agq{H:List Ob}{b:Nat}{e:Lk}{q:ab}(a:H[b]?=some (ah 11 [cq e q]))(g:0<=e.cH)(h:e.cH<=1000000000):
  ∃c,bB tz (ev tz) 165 [aw b] H=some (.aM [],c)/\c=H.set b (ah 11 [cq (oO e) q]):=by
 refine gv func165 rfl ?_
 have d:ads.wrap (e.cH+1)=e.cH+1:=fC (by omega) (by omega)
 have f:∀x:Ob,(H.set b x)[b]?=some x:=fun x=>ba a
 simp only[cq]at a
 unfold oO
 by_cases c1:e.bO=0
 .rw[c1]at a
  simp[f165,cq,a,c1]
  exact(lP a).symm
 by_cases c2:e.cH+1>=e.wait
 .simp[f165,cq,a,f,c1,c2,d]
 .simp[f165,cq,a,f,c1,c2,d]
def nf(e:Lk)(n:Nat):Lk:={e with queue:=e.queue.drop n,base:=aiS.wrap (e.base+aiS.wrap n),bO:=max (e.bO-n) 0,gL:=e.gL-n,cH:=0}
def OP{H:List Ob}{b h v a len n:Nat}{e:Lk}{rows:List (List ab)}(c:H[b]?=some (ah 11 [cq e (.sl h v a len)]))(d:H[h]?=some (.live v 1 rows))(g:h≠b)(l:a+len<=rows.length)(hn:n<=len)(m:len<=1000000)(o:0<=e.bO)(p:e.bO<=1000000)(q:0<=e.gL)(r:e.gL<=1000000):
  ∃f,bB tz (ev tz) 224 [aw b,aa n] H=some (.aM [],f)/\f=H.set b (ah 11 [cq (nf e n) (.sl h v (a+n) (len-n))]):=by
 refine gv func224 rfl ?_
 have i:ads.wrap (e.bO-n)=e.bO-n:=fC (by omega) (by omega)
 have j:ads.wrap (e.gL-n)=e.gL-n:=fC (by omega) (by omega)
 have k:∀x:Ob,(H.set b x)[b]?=some x:=fun x=>ba c
 have s:∀x:Ob,(H.set b x)[h]?=some (.live v 1 rows):=fun x=>by rw[aay (ain g)];exact d
 have c1:(0:Int)<=n:=by omega
 have c2:(n:Int)<=len:=by omega
 have c3:(n:Int).toNat=n:=by omega
 have c4:((len:Int)-n).toNat=len-n:=by omega
 simp only[cq]at c
 unfold nf
 simp[f224,cq,c,d,k,c1,c2,c3,i,j]
def jN(H:List Ob)(q:ab)(l:List (List UInt8)):Prop:=(l=[]/\q=ap)\/∃(h v a:Nat) (rows:List (List ab)),q= .sl h v a l.length/\H[h]?=some (.live v 1 rows)/\(rows.drop a).take l.length=l.map cZ/\a+l.length=rows.length
def mX(e:Lk)(s:List UInt8):Lk×Int:=if 64<s.length then(e,90)else if(e.queue.length:Int)>=e.room then(e,91)else({e with queue:=e.queue++[s]},0)
def acM{H:List Ob}{b:Nat}{e:Lk}{q:ab}(s:List UInt8)(g:H[b]?=some (ah 11 [cq e q]))(o:jN H q e.queue)(O:e.queue.length<=1000000):
  ∃i a,bB tz (ev tz) 135 [aw b,.c (Sg s)] H=some (aa (mX e s).2,a)/\a[b]?=some (ah 11 [cq (mX e s).1 i])/\jN a i (mX e s).1.queue/\(∀m,m≠b->m∉rf q->m<H.length->a[m]?=H[m]?)/\(∀m∈rf i,m∈rf q\/H.length<=m)/\H.length<=a.length:=by
 have z:=cG (C:=tz) (f:=135) (args:=[aw b,.c (Sg s)]) (H:=H) (fun r a=>r=aa (mX e s).2/\∃i,a[b]?=some (ah 11 [cq (mX e s).1 i])/\jN a i (mX e s).1.queue/\(∀m,m≠b->m∉rf q->m<H.length->a[m]?=H[m]?)/\(∀m∈rf i,m∈rf q\/H.length<=m)/\H.length<=a.length) func135 rfl ?_
 .obtain ⟨r,a,d,rfl,i,j⟩:=z
  exact⟨i,a,d,j⟩
 have A:=g
 simp only[cq]at g
 unfold mX
 by_cases c1:64<s.length
 .have l:(s.length:Int)>64:=by omega
  simp[f135,gj,fj,cq,g,c1,l]
  exact⟨o,fun _ h=> .inl h⟩
 have l:¬(s.length:Int)>64:=by omega
 have P:=bf A
 by_cases c2:(e.queue.length:Int)>=e.room
 .have D:=o
  have k:e.room<=(e.queue.length:Int):=c2
  rcases o with⟨d,rfl⟩|⟨h,v,p,rows,rfl,j,t,E⟩
  .have u:e.room<=0:=by rw[d]at k;simpa using k
   simp[f135,gj,fj,cq,g,c1,l,u,d]
   exact⟨.inl ⟨rfl,rfl⟩,fun _ h=> .inl h⟩
  .simp[f135,gj,fj,cq,g,c1,l,k]
   exact⟨D,fun _ h=> .inl h⟩
 have k:¬e.room<=(e.queue.length:Int):=c2
 have Q:¬(e.queue.length:Int)>=e.room:=c2
 rcases o with⟨d,rfl⟩|⟨h,v,p,rows,rfl,j,t,E⟩
 .have u:¬e.room<=0:=by rw[d]at k;simpa using k
  have n:∀K,(H++K)[b]?=H[b]?:=fun K=>aaK (by omega)
  rw[g]at n
  simp[f135,gj,fj,cq,g,n,c1,l,u,d]
  refine⟨.sl (H.length+1) 0 0 1,ba (n _),.inr ⟨H.length+1,0,0,[[Sg s]],rfl,?_,by simp[cZ],by simp⟩,fun m d j t=>?_,fun m hm=>?_⟩
  .rw[aay (by omega),jd];rfl
  .rw[aay (ain d),aaK t]
  .simp[rf]at hm
   exact .inr (by omega)
 .have n:∀K,(H++K)[b]?=H[b]?:=fun K=>aaK (by omega)
  rw[g]at n
  have R:=bf j
  have w:∀K,(H++K)[h]?=H[h]?:=fun K=>aaK (by omega)
  rw[j]at w
  have x:h≠b:=fun e=>by
   subst e
   rw[g]at j
   cases j
  have y:∀K X,((H++K).set h X)[b]?=some (ah 11 [[I e.link,I e.win,I e.room,I e.wait,.sl h v p e.queue.length,U8 e.base,I e.bO,I e.gL,U8 e.next,B e.due,I e.cH]]):=fun K X=>by rw[aay x];exact n K
  have F:p+e.queue.length<=rows.length:=by omega
  have G:¬p+e.queue.length+1<=rows.length:=by omega
  have J:e.queue.length+1<=maxLen:=by unfold maxLen;omega
  have L:(e.queue.length+1)*16<=140737488355328:=by omega
  simp[f135,gj,fj,cq,g,w,y,c1,l,k,t,F,G,J,L]
  refine⟨.sl h (v+1) 0 (e.queue.length+1),ba (y _ _),.inr ⟨h,v+1,0,e.queue.map cZ++[[Sg s]],by simp,?_,by simp[cZ],by simp⟩,fun m d M N=>?_,fun m hm=>?_⟩
  .rw[aay (ain x),ba (w _)]
  .rw[aay (ain d),aay (fun e=>M (by subst e;simp[rf])),aaK N]
  .simp[rf]at hm|-
   exact .inl hm
def eC(x a b:Int):Int:=min (max x a) b
def oy(b a c room d:Int):Lk:=⟨b,eC c 1 8,eC room 0 64,eC d 1 100,[],a,0,0,a,false,0⟩
def CP(H:List Ob)(x a b:Int):aO tz ay 272 [aa x,aa a,aa b] H=some (aa (eC x a b),H):=by have h:=adw x a b;simp[h,eC]
def Xu(d e a room b:Int):aS tz ay 2 216 [aa d,.c (U8 e),aa a,aa room,aa b]=some (aw 0,[ah 11 [cq (oy d e a room b) ap]]):=by refine be func216 rfl ?_;have f:=fun H=>CP H a 1 8;have g:=fun H=>CP H room 0 64;have h:=fun H=>CP H b 1 100;simp[-aD,f216,f,g,h,cq,oy]
def ZN(H:List Ob)(f:Fm):aO tz ay 160 [.agg (cd f)] H=some (aR (mO f),H):=by have h:=zN f;simp only[cd]at h|-;have a:da (Sg f.body)=Sg f.body:=rfl;have b:∀k x,da (.v (.int k x))= .v (.int k x):=fun _ _=>rfl;simp[a,b,h]
def yW(e:Lk)(f:Fm):Int:=aiS.wrap (f.qD-e.base)
def qJ(e:Lk)(f:Fm):Lk:=if 0<yW e f/\yW e f<=aiS.wrap e.gL then nf e (ads.wrap (yW e f)).toNat else e
def jc(e:Lk)(f:Fm):Lk×Option (List UInt8):=
 if mO f=false\/ ¬f.link=e.link then(e,none)
 else if ¬f.kind=1 then(qJ e f,none)
 else if ¬f.seq=e.next then({qJ e f with due:=true},none)
 else({qJ e f with due:=true,next:=aiS.wrap (e.next+1)},some f.body)
structure Ez(e:Lk):Prop where
 q:e.queue.length<=1000000
 s0:0<=e.bO
 s1:e.bO<=1000000
 t0:0<=e.gL
 t1:e.gL<=e.queue.length
def afm{H:List Ob}{b h v a len n:Nat}{m:Int}{e:Lk}{rows:List (List ab)}(hm:m=n)(c:H[b]?=some (ah 11 [cq e (.sl h v a len)]))(d:H[h]?=some (.live v 1 rows))(g:h≠b)(i:a+len<=rows.length)(hn:n<=len)(j:len<=1000000)(k:0<=e.bO)(l:e.bO<=1000000)(o:0<=e.gL)(p:e.gL<=1000000):
  aO tz ay 224 [aw b,aa m] H=some (.aM [],H.set b (ah 11 [cq (nf e n) (.sl h v (a+n) (len-n))])):=by
 subst hm
 obtain⟨r,q,rfl⟩:=OP c d g i hn j k l o p
 rw[dz (f:=224) rfl,q]
def jN.aJ{H H':List Ob}{q:ab}{l:List (List UInt8)}{b:Nat}{r:List ab}(h:jN H q l)(c:H[b]?=some (ah 11 [r]))(d:∀m,m≠b->H'[m]?=H[m]?):jN H' q l:=by
 rcases h with h|⟨h,v,f,rows,g,a,i,j⟩
 .exact .inl h
 .refine .inr ⟨h,v,f,rows,g,?_,i,j⟩;rw[d h (fun e=>by subst e;rw[c]at a;cases a)];exact a
def acJ{H:List Ob}{b:Nat}{e:Lk}{q:ab}(f:Fm)(d:H[b]?=some (ah 11 [cq e q]))(t:jN H q e.queue)(l:Ez e):
  ∃o p,bB tz (ev tz) 140 [aw b,.agg (cd f)] H=some (.aM [.c (Sg ((jc e f).2.getD [])),aR (jc e f).2.isSome],p)/\p=H.set b (ah 11 [cq (jc e f).1 o])/\jN p o (jc e f).1.queue/\∀m∈rf o,m∈rf q:=by
 have R:=cG (C:=tz) (f:=140) (args:=[aw b,.agg (cd f)]) (H:=H) (fun r p=>r= .aM [.c (Sg ((jc e f).2.getD [])),aR (jc e f).2.isSome]/\∃o,p=H.set b (ah 11 [cq (jc e f).1 o])/\jN p o (jc e f).1.queue/\∀m∈rf o,m∈rf q) func140 rfl ?_
 .obtain ⟨r,p,F,rfl,o,u⟩:=R
  exact⟨o,p,F,u⟩
 have S:=d
 have z:H.set b (ah 11 [cq e q])=H:=lP d
 have w:∀x:Ob,(H.set b x)[b]?=some x:=fun x=>ba d
 have A:∀x:Ob,jN (H.set b x) q e.queue:=fun x=>t.aJ d (fun m hm=>aay (ain hm))
 have a:=fun H=>ZN H f
 simp only[cd]at a
 simp only[cq]at d
 have U:da (Sg f.body)=Sg f.body:=rfl
 unfold jc
 cases M:mO f with
 |false=>
  rw[M]at a
  simp[-aD,f140,a,cd]
  exact⟨q,z.symm,t,fun _ h=>h⟩
 |true=>
 rw[M]at a
 by_cases c1:f.link=e.link
 case neg=>
  simp[-aD,f140,a,cd,d,c1]
  exact⟨q,z.symm,t,fun _ h=>h⟩
 have wt:aiS.wrap e.gL=e.gL:=wrap_u64 l.t0 (by have:=l.t1;have:=l.q;omega)
 have⟨i,k⟩:=ak (aiS.wrap (f.qD-e.base))
 have N:yW e f=i:=k
 by_cases G:0<i/\i<=e.gL
 case neg=>
  have I:qJ e f=e:=by unfold qJ;rw[N,wt,if_neg G]
  rw[I]
  by_cases j:0<i
  .have s:¬i<=e.gL:=fun h=>G ⟨j,h⟩
   by_cases c2:f.kind=1
   .by_cases c3:f.seq=e.next
    .simp only[c1,c2,c3]at a
     simp[-aD,f140,a,cd,d,w,c1,k,wt,j,s,c2,c3,cq]
     exact⟨q,rfl,A _,fun _ h=>h⟩
    .simp only[c1,c2]at a
     simp[-aD,f140,a,cd,d,w,c1,k,wt,j,s,c2,c3,cq]
     exact⟨q,rfl,A _,fun _ h=>h⟩
   .simp only[c1]at a
    simp[-aD,f140,a,cd,d,c1,k,wt,j,s,c2,cq]
    exact⟨q,z.symm,t,fun _ h=>h⟩
  .by_cases c2:f.kind=1
   .by_cases c3:f.seq=e.next
    .simp only[c1,c2,c3]at a
     simp[-aD,f140,a,cd,d,w,c1,k,j,c2,c3,cq]
     exact⟨q,rfl,A _,fun _ h=>h⟩
    .simp only[c1,c2]at a
     simp[-aD,f140,a,cd,d,w,c1,k,j,c2,c3,cq]
     exact⟨q,rfl,A _,fun _ h=>h⟩
   .simp only[c1]at a
    simp[-aD,f140,a,cd,d,c1,k,j,c2,cq]
    exact⟨q,z.symm,t,fun _ h=>h⟩
 have⟨j,s⟩:=G
 have V:=l.q
 have O:=l.t1
 have B:ads.wrap i=i:=fC (by omega) (by omega)
 have I:qJ e f=nf e i.toNat:=by unfold qJ;rw[N,wt,if_pos ⟨j,s⟩,B]
 rw[I]
 rcases t with⟨F,rfl⟩|⟨h,v,P,rows,rfl,u,T,W⟩
 .rw[F]at O
  simp at O
  omega
 have Q:h≠b:=fun e=>by subst e;rw[d]at u;cases u
 have y:=afm (m:=i) (n:=i.toNat) (by omega) S u Q (by omega) (by omega) l.q l.s0 l.s1 l.t0 (by omega)
 have⟨g,D⟩:=ak (nf e i.toNat)
 have E:g.link=e.link:=by rw[<-D];rfl
 have J:g.next=e.next:=by rw[<-D];rfl
 have K:g.queue=e.queue.drop i.toNat:=by rw[<-D];rfl
 rw[D]at y|-
 simp only[cq,E,J]at y
 have L:∀x,jN (H.set b x) (.sl h v (P+i.toNat) (e.queue.length-i.toNat)) g.queue:=fun x=>by
  refine .inr ⟨h,v,P+i.toNat,rows,?_,?_,?_,?_⟩
  .rw[K,ajV]
  .rw[aay (ain Q)];exact u
  .rw[K,ajV,List.map_drop, <-T,alv,aj8]
  .rw[K,ajV];omega
 by_cases c2:f.kind=1
 .by_cases c3:f.seq=e.next
  .simp only[c1,c2,c3]at a
   simp[-aD,f140,a,cd,d,w,c1,k,wt,B,j,s,y,E,c2,c3,cq]
   exact⟨_,rfl,L _,fun m hm=>hm⟩
  .simp only[c1,c2]at a
   simp[-aD,f140,a,cd,d,w,c1,k,wt,B,j,s,y,E,J,c2,c3,cq]
   exact⟨_,rfl,L _,fun m hm=>hm⟩
 .simp only[c1]at a
  simp[-aD,f140,a,cd,d,c1,k,wt,B,j,s,y,E,J,c2,cq]
  exact⟨_,rfl,L _,fun m hm=>hm⟩
def mM(e:Lk)(a seq:Int)(s:List UInt8):Fm:=⟨a,e.link,seq,e.next,s⟩
def kw(H:List Ob)(q:ab)(l:List Fm):Prop:=(l=[]/\q=ap)\/∃(h v:Nat),q= .sl h v 0 l.length/\H[h]?=some (.live v 5 (l.map cd))
def Om{H:List Ob}{b c d:Nat}{e:Lk}{q j:ab}{l:List Fm}(o seq:Int)(s:List UInt8)(k:H[b]?=some (ah 11 [cq e q]))(hc:H[c]?=some (ah 1 [[j]]))(u:H[d]?=some (ah 1 [[.ptr b 0 0 0]]))(y:kw H j l)(I:l.length<=1000000):
  ∃g a,bB tz (ev tz) 217 [aa o,.c (U8 seq),.c (Sg s),aw c,aw d] H=some (.aM [],a)/\a[c]?=some (ah 1 [[g]])/\kw a g (l++[mM e o seq s])/\(∀m,m≠c->m∉rf j->m<H.length->a[m]?=H[m]?)/\(∀m∈rf g,m∈rf j\/H.length<=m):=by
 have z:=cG (C:=tz) (f:=217) (args:=[aa o,.c (U8 seq),.c (Sg s),aw c,aw d]) (H:=H) (fun r a=>r= .aM []/\∃g,a[c]?=some (ah 1 [[g]])/\kw a g (l++[mM e o seq s])/\(∀m,m≠c->m∉rf j->m<H.length->a[m]?=H[m]?)/\(∀m∈rf g,m∈rf j\/H.length<=m)) func217 rfl ?_
 .obtain ⟨r,a,n,rfl,g,i⟩:=z
  exact⟨g,a,n,i⟩
 have J:=k
 simp only[cq]at k
 have L:=bf hc
 have M:=bf k
 have A:∀K,(H++K)[b]?=H[b]?:=fun K=>aaK (by omega)
 have p:∀K,(H++K)[c]?=H[c]?:=fun K=>aaK (by omega)
 rw[k]at A
 rw[hc]at p
 rcases y with⟨rfl,rfl⟩|⟨h,v,rfl,i⟩
 .simp[f217,k,hc,u,p]
  refine⟨.sl (H.length+1) 0 0 1,ba (p _),.inr ⟨H.length+1,0,rfl,?_⟩,fun m n i B=>?_,fun m hm=>?_⟩
  .rw[aay (by omega),jd];rfl
  .rw[aay (ain n),aaK B]
  .simp[rf]at hm
   exact .inr (by omega)
 .have N:=bf i
  have t:∀K,(H++K)[h]?=H[h]?:=fun K=>aaK (by omega)
  rw[i]at t
  have w:h≠c:=fun e=>by
   subst e
   rw[hc]at i
   cases i
  have x:∀K X,((H++K).set h X)[c]?=some (ah 1 [[.sl h v 0 l.length]]):=fun K X=>by rw[aay w];exact p K
  have D:l.length+1<=maxLen:=by unfold maxLen;omega
  have E:(l.length+1)*48<=140737488355328:=by omega
  simp[f217,k,hc,u,t,x,D,E]
  refine⟨.sl h (v+1) 0 (l.length+1),ba (x _ _),.inr ⟨h,v+1,by simp,?_⟩,fun m n F G=>?_,fun m hm=>?_⟩
  .rw[aay (ain w),ba (t _)]
   simp[cd,mM]
  .rw[aay (ain n),aay (fun e=>F (by subst e;simp[rf])),aaK G]
  .simp[rf]at hm|-
   exact .inl hm
section
variable{C:bu}{f:FuncId}{c:Code}{fn:Func}{H:List Ob}{α:Type}
def Ends.loop{i:Nat}{r k}{Q:Exit->St->Prop}(P:St->Prop)(h:Ends r fun a S=>a= .exit i/\P S)(b:∀S,P S->Ends (k S) Q):Ends (Go.Nx.sq (Go.Nx.bl i r) k) Q:=by refine Ends.sq (Ends.bl (h.mono fun a S h=>?_));obtain⟨rfl,h⟩:=h;simp only[if_true];exact b S h
def fK{f:Nat}{a b d:Code}{S:St}:ev C f (.seq a (.seq b d)) S=ev C f (.seq (.seq a b) d) S:=by
 rw[iY,iY,iY];cases ev C f a S with
 |none=>rfl
 |some r=>have⟨c,e⟩:=r;cases c<;>simp[Go.Nx.sq,iY]
def acq{args:List au}(Q:au->List Ob->Prop)(i:C.P.funcs[f]?=some fn)(a:nV C f fn args.length=some c)
  (h:Ends (ev C f (bX c) ⟨fN 0 args,H,[]⟩) fun b S=>(b= .normal\/b= .ret)/\S.bH=[]/\∃r,ic C.P S.env S.heap fn.results.toList=some r/\Q r S.heap):∃r d,bB C (ev C) f args H=some (r,d)/\me C (ev C) f args H=some (r,d)/\Q r d:=by
 rw[tU]at h
 unfold Ends at h
 split at h
 .rename_i b S j
  have⟨k,l,r,g,m⟩:=h
  have⟨e,G,p⟩:=S
  simp only at l g m
  subst l
  refine⟨r,G,GG i a ?_,?_,m⟩
  .rw[j]
   rcases k with rfl|rfl<;>simp[-ic,ja,g]
  .have ⟨n,a,o⟩:=RQ a
   unfold me
   rw[n,i]
   simp only[aeb,if_false,a]
   rw[if_pos o,j]
   rcases k with rfl|rfl<;>simp[-ic,g]
 .exact h.elim
def Ws{args:List au}(Q:au->List Ob->Prop)(j:C.P.funcs[f]?=some fn)(k:nV C f fn args.length=some c)
  (h:Ends (ev C f (bX c) ⟨fN 0 args,H,[]⟩) fun b S=>(b= .normal\/b= .ret)/\∃g d e a,S.bH=[(g,d)]/\C.kL g=false/\C.dG g=false/\me C (ev C) g d S.heap=some (e,a)/\∃r,ic C.P S.env a fn.results.toList=some r/\Q r a):∃r i,bB C (ev C) f args H=some (r,i)/\Q r i:=by
 rw[tU]at h
 unfold Ends at h
 split at h
 .rename_i b S l
  have⟨m,g,d,e,a,n,o,p,q,r,s,t⟩:=h
  refine⟨r,a,GG j k ?_,t⟩
  rw[l]
  have u:ja C (ev C) S.bH S.heap=some a:=by rw[n];simp[ja,o,p,q]
  rcases m with rfl|rfl<;>simp[-ic,u,s]
 .exact h.elim
def qO(e:Lk)(j:Nat):Fm:=mM e 1 (aiS.wrap (e.base+aiS.wrap j)) (e.queue.getD j [])
def pg(e:Lk):Nat:=(min e.win (e.queue.length:Int)).toNat
def tf(e:Lk):List Fm:=(aiT (pg e-e.bO.toNat)).map fun i=>qO e (e.bO.toNat+i)
def jL(e:Lk):Int:=max e.bO (pg e)
def iH(e:Lk):Lk×List Fm:=
 ({e with bO:=jL e,gL:=max e.gL (jL e),due:=false},if tf e=[]/\e.due=true then [mM e 2 0 []]else tf e)
abbrev bx:=List UInt8
def up(f:Bool->α)(s:Bool)(x:α):Bool->α:=fun t=>if t=s then x else f t
def pV(f:Bool->α)(s:Bool)(x:α):up f s x s=x:=by simp[up]
def ql(f:Bool->α){s t:Bool}(x:α)(h:t≠s):up f s x t=f t:=by simp[up,h]
def BT(f:Bool->α)(s:Bool):up f s (f s)=f:=by
 funext t;unfold up;split
 .rename_i h;rw[h]
 .rfl
structure Pp where
 e:Bool->Lk
 q:Bool->List bx
 room:Nat
 dT:Bool->Nat
def wV(a b c room:Int):Pp:=⟨fun _=>oy 1 0 a b c,fun _=>[],(eC room 0 1000).toNat,fun _=>0⟩
def Pp.jO(p:Pp)(s:Bool)(x:Lk):Pp:=⟨up p.e s x,p.q,p.room,p.dT⟩
def Pp.uF(p:Pp)(s:Bool)(l:List bx):Pp:=⟨p.e,up p.q s l,p.room,p.dT⟩
def Pp.zd(p:Pp)(s:Bool)(t:Option bx):Pp:=match t with
 |none=>p
 |some _=>⟨p.e,p.q,p.room,up p.dT s (p.dT s+1)⟩
def dV(l:List α)(k:Int):Option α:=if k<0 then none else l[k.toNat]?
def ox(room:Nat)(l:List bx)(b:bx):List bx:=if l.length<room then l++[b]else l
def Pp.send(p:Pp)(s:Bool)(b:bx):Pp×Int:=(p.jO s (mX (p.e s) b).1,(mX (p.e s) b).2)
def gJ(room:Nat):List Fm->List bx->Nat->List bx×Nat
 |[],l,n=>(l,n)
 |f::a,l,n=>if(jT f).2=0/\l.length<room then gJ room a (l++[(jT f).1]) (n+1)else gJ room a l n
def Pp.go(p:Pp)(s:Bool):Pp×Nat:=
 let r:=gJ p.room (iH (p.e s)).2 (p.q s) 0
 ((p.jO s (iH (p.e s)).1).uF s r.1,r.2)
def Pp.tick(p:Pp)(s:Bool):Pp:=p.jO s (oO (p.e s))
def Pp.look(p:Pp)(s:Bool)(k:Int):Option bx:=dV (p.q (!s)) k
def Pp.cut(p:Pp)(s:Bool)(k:Int):Pp:=p.uF (!s) ((p.q (!s)).eraseIdx k.toNat)
def Pp.jt(p:Pp)(s:Bool)(k:Int):Pp×Option bx:=
 match p.look s k with
 |none=>(p,none)
 |some b=>if(lB (jU b)).2=0 then
   (let t:=jc ((p.cut s k).e s) (lB (jU b)).1
   (((p.cut s k).jO s t.1).zd s t.2,t.2))else(p.cut s k,none)
def Pp.jk(p:Pp)(s:Bool)(k:Int):Pp×Bool:=
 match p.look s k with
 |none=>(p,false)
 |some _=>(p.cut s k,true)
def Pp.double(p:Pp)(s:Bool)(k:Int):Pp×Bool:=
 match p.look s k with
 |none=>(p,false)
 |some b=>(p.uF (!s) (ox p.room (p.q (!s)) b),decide ((p.q (!s)).length<p.room))
def x6(s:bx)(b:Int):bx:=
 let a:=(max (max b (ads.wrap (-b))) 0).toNat % (8*s.length)
 s.set (a / 8) (alU (aja.wrap (jz .xor .u8 ((s.getD (a / 8) 0).toNat:Int) (aja.wrap (2 ^ (a % 8))))).toNat)
def Pp.flip(p:Pp)(s:Bool)(k a:Int):Pp×Bool:=
 match p.look s k with
 |none=>(p,false)
 |some b=>if b=[]then(p,false)else(p.uF (!s) ((p.q (!s)).set k.toNat (x6 b a)),true)
structure Tr where
 left:List cU
 bO:Nat
structure Cl where
 win:Int
 fB:Int
 wait:Int
 room:Int
 hold:Int
 nodes:List Nd
 pp:Nat->Nat->Pp
 tr:Nat->Nat->Tr
def cT(a b:Nat):Bool:=decide (b<a)
def Cl.pipe(c:Cl)(a b:Nat):Pp:=c.pp (min a b) (max a b)
def Cl.eO(c:Cl)(a b:Nat)(p:Pp):Cl:={c with pp:=fun x y=>if x=min a b/\y=max a b then p else c.pp x y}
def Cl.nj(c:Cl)(a b:Nat)(t:Tr):Cl:={c with tr:=fun x y=>if x=a/\y=b then t else c.tr x y}
def sendAll(s:Bool):List cU->Pp->Pp×Nat
 |[],p=>(p,0)
 |m::a,p=>if(p.send s (ju m).1).2=0 then((sendAll s a (p.send s (ju m).1).1).1,(sendAll s a (p.send s (ju m).1).1).2+1)else((p.send s (ju m).1).1,0)
def Cl.oQ(c:Cl)(a b:Nat):Cl:=
 let r:=sendAll (cT a b) ((c.tr a b).left.drop (c.tr a b).bO) (c.pipe a b)
 (c.eO a b r.1).nj a b ⟨(c.tr a b).left,(c.tr a b).bO+r.2⟩
def others(n a:Nat):List Nat:=(aiT n).filter fun i=>!decide (i=a)
def Cl.flush(c:Cl)(a:Nat):Cl:=(others c.nodes.length a).foldl (fun c b=>c.oQ a b) c
def Cl.there(c:Cl)(a:Int):Prop:=0<=a/\a<c.nodes.length
def Cl.two(c:Cl)(a b:Int):Prop:=c.there a/\c.there b/\a≠b
instance(c:Cl)(a:Int):Decidable (c.there a):=inferInstanceAs (Decidable (_/\_))
instance(c:Cl)(a b:Int):Decidable (c.two a b):=inferInstanceAs (Decidable (_/\_))
def Cl.ir(c:Cl)(m:cB):Cl:=if c.two m.src m.dst then c.nj m.src.toNat m.dst.toNat ⟨(c.tr m.src.toNat m.dst.toNat).left++[m.fP],(c.tr m.src.toNat m.dst.toNat).bO⟩else c
def Cl.oM(c:Cl)(n:Nd):Cl:={c with nodes:=c.nodes.set n.id.toNat n}
def Cl.take(c:Cl)(n:Nd)(l:List cB):Cl:=(l.foldl Cl.ir (c.oM n)).flush n.id.toNat
def Cl.bP(c:Cl)(a:Int)(d:Act)(b:Cl)(s:List Ev)(e:Int):Prop:=
 if ¬c.there a\/(d.kind=4/\ ¬c.there d.peer)then b=c/\s=[]/\e=210
 else if(cN (c.nodes.getD a.toNat .zero) d).e≠0 then b=c.flush a.toNat/\s=[]/\e=(cN (c.nodes.getD a.toNat .zero) d).e
 else ∃v,jm (cN (c.nodes.getD a.toNat .zero) d) v/\b=c.take v.n v.out/\s=v.seen/\e=0
def Cl.An(c:Cl)(a:Nat):Cl:=(others c.nodes.length a).foldl (fun c b=>c.eO a b ((c.pipe a b).tick (cT a b))) c
def Cl.uc(c:Cl)(a:Int)(b:Cl)(s:List Ev)(e:Int):Prop:=
 if ¬c.there a then b=c/\s=[]/\e=210 else Cl.bP (c.An a.toNat) a ⟨3,0,0,c.hold,[]⟩ b s e
def Cl.u6(c:Cl)(a b:Nat):Cl:=c.eO a b ((c.pipe a b).go (cT a b)).1
def yD(a:Nat):List Nat->Cl->Nat->Cl×Nat
 |[],c,n=>(c,n)
 |b::l,c,n=>yD a l (c.u6 a b) (n+((c.pipe a b).go (cT a b)).2)
def Cl.goes(c:Cl)(a:Int):Cl×Nat×Int:=if ¬c.there a then(c,0,210)else((yD a.toNat (others c.nodes.length a.toNat) (c.flush a.toNat) 0).1,(yD a.toNat (others c.nodes.length a.toNat) (c.flush a.toNat) 0).2,0)
def Cl.look(c:Cl)(a b k:Int):Option bx:=if c.two a b then(c.pipe b.toNat a.toNat).look (cT b.toNat a.toNat) k else none
def Cl.tell(c:Cl)(a b:Nat):Cl:=c.nj a b (if(c.tr a b).left=[]then c.tr a b else⟨(c.tr a b).left.tail,(c.tr a b).bO-1⟩)
def Cl.Told(c:Cl)(a b:Nat)(s:bx)(d:Cl)(l:List Ev)(e:Int):Prop:=
 if(lj s).2≠0 then d=c.tell a b/\l=[]/\e=212
 else if(fQ (c.nodes.getD b .zero) a (lj s).1).e≠0 then d=c.tell a b/\l=[]/\e=212
 else ∃v,jm (fQ (c.nodes.getD b .zero) a (lj s).1) v/\d=(c.tell a b).take v.n v.out/\l=v.seen/\e=0
def Cl.Comes(c:Cl)(a b k:Int)(f:Cl)(l:List Ev)(e:Int):Prop:=
 if c.look a b k=none then f=c/\l=[]/\e=211
 else match((c.pipe b.toNat a.toNat).jt (cT b.toNat a.toNat) k).2 with
 |none=>f=(c.eO b.toNat a.toNat ((c.pipe b.toNat a.toNat).jt (cT b.toNat a.toNat) k).1).flush b.toNat/\l=[]/\e=0
 |some s=>∃d,Cl.Told (c.eO b.toNat a.toNat ((c.pipe b.toNat a.toNat).jt (cT b.toNat a.toNat) k).1) a.toNat b.toNat s d l e/\f=d.flush b.toNat
def Cl.qV(c:Cl)(a b:Int)(f:Pp->Bool->Pp×Bool):Cl×Int:=
 if c.two a b then(c.eO b.toNat a.toNat (f (c.pipe b.toNat a.toNat) (cT b.toNat a.toNat)).1,if(f (c.pipe b.toNat a.toNat) (cT b.toNat a.toNat)).2=true then 0 else 211)else(c,211)
def Cl.jk(c:Cl)(a b k:Int):Cl×Int:=c.qV a b fun p s=>p.jk s k
def Cl.double(c:Cl)(a b k:Int):Cl×Int:=c.qV a b fun p s=>p.double s k
def Cl.flip(c:Cl)(a b k d:Int):Cl×Int:=c.qV a b fun p s=>p.flip s k d
def Cl.pc(c:Cl)(a b:Int):List cU:=if c.two a b then(c.tr a.toNat b.toNat).left else []
end
section
variable{H':List Ob}{n m:Nat}{q:ab}{l:List bx}
def dK{f:FuncId}(hm:tz.md f=3){args:List au}{H:List Ob}{r:Option (au×List Ob)}(h:bB tz (ev tz) f args H=r):aO tz ay f args H=r:=by rw[aD,if_pos (.inl hm)];exact h
inductive aU where
 |none
 |cl (k:Nat)
 |pp (a b k:Nat)
 |tr (a b:Nat)
deriving DecidableEq
structure aH(K:aU->Prop)(c c':Nat->aU)(H H':List Ob):Prop where
 len:H.length<=H'.length
 jS:∀m,m<H.length->c' m=c m
 aJ:∀m,m<H.length-> ¬K (c m)->H'[m]?=H[m]?
def aH.refl(K:aU->Prop)(c:Nat->aU)(H:List Ob):aH K c c H H:=⟨adt _,fun _ _=>rfl,fun _ _ _=>rfl⟩
def aH.trans{K:aU->Prop}{c b d:Nat->aU}{H H' e:List Ob}(h:aH K c b H H')(a:aH K b d H' e):aH K c d H e:=
 ⟨aiZ h.len a.len,fun m hm=>(a.jS m (aiM hm h.len)).trans (h.jS m hm),fun m hm f=>(a.aJ m (aiM hm h.len) (by rw[h.jS m hm];exact f)).trans (h.aJ m hm f)⟩
def aH.mono{K a:aU->Prop}{c b:Nat->aU}{H:List Ob}(h:aH K c b H H')(d:∀x,K x->a x):aH a c b H H':=⟨h.len,h.jS,fun m hm hn=>h.aJ m hm fun e=>hn (d _ e)⟩
def aH.fresh{K:aU->Prop}{c b:Nat->aU}{H a:List Ob}(h:aH K c b H H')(d:H'.length<=a.length)(e:∀m,m<H.length->a[m]?=H'[m]?):aH K c b H a:=⟨aiZ h.len d,h.jS,fun m hm hn=>(e m hm).trans (h.aJ m hm hn)⟩
def ext(c:Nat->aU)(n:Nat)(k:aU):Nat->aU:=fun m=>if m<n then c m else k
def ji{c:Nat->aU}{k:aU}(h:m<n):ext c n k m=c m:=if_pos h
def jr{c:Nat->aU}{k:aU}(h:n<=m):ext c n k m=k:=if_neg (by omega)
def aH.of{K:aU->Prop}{c:Nat->aU}{H:List Ob}(k:aU)(a:H.length<=H'.length)(b:∀m,m<H.length-> ¬K (c m)->H'[m]?=H[m]?):aH K c (ext c H.length k) H H':=⟨a,fun m hm=>ji hm,b⟩
def aH.get{K:aU->Prop}{c a:Nat->aU}{H:List Ob}(h:aH K c a H H'){o:Ob}(hm:H[m]?=some o)(b:¬K (c m)):H'[m]?=some o/\a m=c m:=⟨by rw[h.aJ m (bf hm) b];exact hm,h.jS m (bf hm)⟩
def jN.lt{H:List Ob}(h:jN H q l):∀m∈rf q,m<H.length:=by
 rcases h with⟨_,rfl⟩|⟨h,v,b,rows,rfl,a,_⟩
 .intro m hm;simp[rf]at hm
 .intro m hm;simp[rf]at hm;subst hm;exact bf a
def jN.same{H:List Ob}(h:jN H q l)(a:∀m∈rf q,H'[m]?=H[m]?):jN H' q l:=by
 rcases h with h|⟨h,v,b,rows,rfl,c,d⟩
 .exact .inl h
 .exact .inr ⟨h,v,b,rows,rfl,by rw[a h (by simp[rf])];exact c,d⟩
structure ig(e:Lk):Prop where
 q:e.queue.length<=64
 w0:1<=e.win
 w1:e.win<=8
 r1:e.room<=64
 t1:e.wait<=100
 s0:0<=e.bO
 sm:e.bO<=e.gL
 tp:e.gL<=e.queue.length
 a0:0<=e.cH
 a1:e.cH<=100
 b:∀s∈e.queue,s.length<=64
def ig.ok{e:Lk}(h:ig e):Ez e:=⟨by have:=h.q;omega,h.s0,by have:=h.sm;have:=h.tp;have:=h.q;omega,by have:=h.s0;have:=h.sm;omega,h.tp⟩
def Yy(a b c room d:Int):ig (oy a b c room d):=by constructor<;>simp[oy,eC]<;>omega
def aaU{e:Lk}(h:ig e):ig (oO e):=by
 have⟨a,b,c,d,f,j,k,g,l,m,i⟩:=h;unfold oO;split
 .exact ⟨a,b,c,d,f,j,k,g,l,m,i⟩
 .split
  .exact ⟨a,b,c,d,f,by simp,by simp;omega,g,by simp,by simp,i⟩
  .exact ⟨a,b,c,d,f,j,k,g,by simp;omega,by simp;omega,i⟩
def agr{e:Lk}(h:ig e)(s:bx):ig (mX e s).1:=by
 have⟨m,b,c,d,f,g,i,n,j,k,l⟩:=h;unfold mX;split
 .exact ⟨m,b,c,d,f,g,i,n,j,k,l⟩
 split
 .exact ⟨m,b,c,d,f,g,i,n,j,k,l⟩
 .rename_i o p;refine⟨by simp;omega,b,c,d,f,g,i,by simp;omega,j,k,fun t a=>?_⟩;simp at a;rcases a with a|rfl
  .exact l _ a
  .omega
def agj{e:Lk}(h:ig e):ig (iH e).1:=by
 have⟨a,b,c,d,f,k,l,m,g,i,j⟩:=h;refine⟨a,b,c,d,f,?_,?_,?_,g,i,j⟩
 .show 0<=jL e;unfold jL;omega
 .show jL e<=max e.gL (jL e);omega
 .show max e.gL (jL e)<=e.queue.length;unfold jL pg;omega
def ZA{e:Lk}(h:ig e)(hn:(n:Int)<=e.gL):ig (nf e n):=by
 have⟨i,a,b,c,d,j,k,l,m,o,f⟩:=h;refine⟨?_,a,b,c,d,?_,?_,?_,by simp[nf],by simp[nf],fun s g=>f s (ajw g)⟩
 .simp[nf];omega
 .simp[nf];omega
 .simp[nf];omega
 .simp[nf];omega
def Nn{e:Lk}(h:ig e)(f:Fm):ig (qJ e f):=by
 unfold qJ;split
 .rename_i hc;have a:=h.s0;have b:=h.sm;have c:=h.tp;have d:=h.q;rw[wrap_u64 (by omega) (by omega)]at hc;refine ZA h ?_;rw[fC (by omega) (by omega)];omega
 .exact h
def abL{e:Lk}(h:ig e)(f:Fm):ig (jc e f).1:=by
 have g:=Nn h f;have⟨a,b,c,d,i,j,k,l,m,n,o⟩:=g;unfold jc;split
 .exact h
 split
 .exact Nn h f
 split<;>exact⟨a,b,c,d,i,j,k,l,m,n,o⟩
def oP(H:List Ob)(c:Nat->aU)(k:aU)(b:Nat)(e:Lk):Prop:= ∃q,H[b]?=some (ah 11 [cq e q])/\jN H q e.queue/\c b=k/\∀m∈rf q,c m=k
def oP.aJ{H H':List Ob}{c g:Nat->aU}{k:aU}{K:aU->Prop}{b:Nat}{e:Lk}(h:oP H c k b e)(a:aH K c g H H')(i:¬K k):oP H' g k b e:=by
 have⟨q,d,f,j,l⟩:=h;refine⟨q,?_,f.same fun m hm=>a.aJ m (f.lt m hm) (by rw[l m hm];exact i),?_,fun m hm=>by rw[a.jS m (f.lt m hm)];exact l m hm⟩
 .rw[a.aJ b (bf d) (by rw[j];exact i)];exact d
 .rw[a.jS b (bf d)];exact j
section
variable{H:List Ob}{c:Nat->aU}{k:aU}{b:Nat}{e:Lk}
def Xd(h:oP H c k b e)(n:ig e)(s:bx):∃H' a,aO tz ay 135 [aw b,.c (Sg s)] H=some (aa (mX e s).2,H')/\oP H' a k b (mX e s).1/\aH (· =k) c a H H':=by
 have⟨q,d,g,i,j⟩:=h;have⟨o,H',p,r,t,u,v,w⟩:=acM s d g (by have:=n.q;omega);refine⟨H',ext c H.length k,by rw[dz (f:=135) rfl];exact p,⟨o,r,t,?_,?_⟩,?_⟩
 .rw[ji (bf d)];exact i
 .intro m hm;rcases v m hm with h|h
  .rw[ji (g.lt m h)];exact j m h
  .exact jr h
 .exact aH.of k w fun m hm l=>u m (fun e=>l (by rw[e];exact i)) (fun x=>l (j m x)) hm
end
end
section
variable{n h b beg:Nat}{H:List Ob}{rows:List (List ab)}
def adJ(rows:List (List ab))(beg n:Nat)(b:n<=rows.length)(d:rows.length<=1000):aS tz ay 0 275 [.c (.aK [[.aj rows,I beg,I n]] 0 0)]=some (aa ((rows.length:Int)-n),[]):=by refine be func275 rfl ?_;have a:ads.wrap ((rows.length:Int)-n)=(rows.length:Int)-n:=fC (by omega) (by omega);simp[f275,a]
def KC(rows:List (List ab))(beg n i:Nat)(g:beg<=1000)(h:i<=1000)(a:0<rows.length):aS tz ay 0 276 [.c (.aK [[.aj rows,I beg,I n]] 0 0),aa i]=some (aa ((beg+i) % rows.length:Nat),[]):=by
 refine be func276 rfl ?_;have b:ads.wrap ((beg:Int)+i)=((beg+i:Nat):Int):=by rw[fC (by omega) (by omega)];omega
 have d:¬rows=[]:=fun e=>by rw[e]at a;exact Nat.lt_irrefl _ a
 have f:((beg+i:Nat):Int).tmod rows.length=((beg+i) % rows.length:Nat):=rfl;simp[f276,b,d,f,-ac7,-amj]
structure mD(H:List Ob)(b h:Nat)(cells:List bx)(beg n:Nat):Prop where
 hb:H[b]?=some (ah 3 [[.sl h 0 0 cells.length,I beg,I n]])
 hh:H[h]?=some (ah 1 (cells.map cZ))
 cl:cells.length<=1000
 bl:beg<=1000
 nl:n<=cells.length
def vC(l:List bx):bA (l.map cZ)=true:=je _ (fun _=>rfl) l
def yg{v b len z:Nat}{a:List (List ab)}(c:H[h]?=some (.live v z rows))(d:Go.Nx.view H (.sl h v b len)=some a)(e:bA a=true):bV H (n+1) (.sl h v b len)=some (.aj a,[z]):=by simp only[bV,bD,obj,c,d,jg,e,if_true,aeb,if_false]
def afQ{v i k z:Nat}{a:List (List ab)}{c:List Nat}(d:H[b]?=some (.live v z rows))(e:jg (bV H n) rows=some (a,c)):bV H (n+1) (.ptr b v i k)=some (.aK a i k,z::c):=by simp only[bV,bD,obj,d,e,if_true,aeb,if_false]
def z8{l:ab}(h:bD l=true):bV H (n+1) l=some (l,[]):=by simp only[bV,h,if_true]
def vI{k:IntKind}{i:Int}:bV H (n+1) (.v (.int k i))=some (.v (.int k i),[]):=z8 rfl
def tX{v lo len z:Nat}(a:H[h]?=some (.live v z rows))(b:lo+len<=rows.length):Go.Nx.view H (.sl h v lo len)=some ((rows.drop lo).take len):=by simp only[Go.Nx.view,obj,a,if_true,if_pos b]
def mD.view{cells:List bx}(r:mD H b h cells beg n):bV H 6 (.ptr b 0 0 0)=some (.aK [[.aj (cells.map cZ),I beg,I n]] 0 0,[3,1]):=by have a:=tX (lo:=0) (len:=cells.length) r.hh (by simp);rw[akh,ach (by simp)]at a;have c:=yg (n:=4) r.hh a (vC _);refine afQ r.hb ?_;simp only[jg,bA,cw,bD,akX,aeb,if_false,kg,eS,c,z8 (l:=I beg) rfl,z8 (l:=I n) rfl];rfl
def S8{cells:List bx}(r:mD H b h cells beg n):aO tz ay 275 [aw b] H=some (aa ((cells.length:Int)-n),H):=by have a:=adJ (cells.map cZ) beg n (by simpa using r.nl) (by simpa using r.cl);have c:=r.view;simp[-bV,a,c]
def zJ{cells:List bx}(r:mD H b h cells beg n)(i:Nat)(a:i<=1000)(hc:0<cells.length):aO tz ay 276 [aw b,aa i] H=some (aa ((beg+i) % cells.length:Nat),H):=by have c:=KC (cells.map cZ) beg n i r.bl a (by simpa using hc);have d:=r.view;simp[-bV,-amj,-ac7,c,d,vI]
def iW(cells:List bx)(beg i:Nat):bx:=cells.getD ((beg+i) % cells.length) []
def afb(cells:List bx)(beg n:Nat)(i:Int)(g:beg<=1000)(m:n<=cells.length)(o:cells.length<=1000):aS tz ay 0 239 [.c (.aK [[.aj (cells.map cZ),I beg,I n]] 0 0),aa i]=some (if 0<=i/\i<n then .aM [.c (Sg (iW cells beg i.toNat)),aR true]else .aM [.c (Sg []),aR false],[]):=by
 refine be func239 rfl ?_;by_cases c1:i<0
 .have c2:¬(0<=i/\i<n):=by omega
  simp[f239,c1,c2]
 by_cases c2:i<n
 .have c3:0<=i/\i<n:=by omega
  have c4:¬(n:Int)<=i:=by omega
  have a:=KC (cells.map cZ) beg n i.toNat g (by omega) (by simp;omega);rw[show((i.toNat:Nat):Int)=i by omega]at a;have⟨k,b⟩:=ak ((beg+i.toNat) % cells.length);have d:k<cells.length:=by rw[<-b];exact akx _ (by omega)
  have h:iW cells beg i.toNat=cells[k]:=by unfold iW;rw[b,ae9,aae d];rfl
  have f:(cells.map cZ)[k]?=some (cZ cells[k]):=by rw[adn,aae d];rfl
  simp only[ahL,b]at a;have⟨R,e⟩:=ak (cells.map cZ);have j:bA R=true:=by rw[<-e];exact vC _
  rw[e]at a f|-;rw[h];have l:k<R.length:=by rw[<-e];simpa using d
  simp[-getElem?_pos,-aae,f239,c1,c2,c3,c4,a,f,l,j,cZ]
 .have c3:¬(0<=i/\i<n):=by omega
  have c4:(n:Int)<=i:=by omega
  simp[f239,c1,c2,c4]
end
def ZQ{L a i j:Nat}(e:i<L)(c:j<L)(h:(a+i) % L=(a+j) % L):i=j:=by
 have d:∀ {i j:Nat},j<L->i<=j->(a+i) % L=(a+j) % L->i=j:=fun{i j} c f h=>by have b:=Nat.sub_mod_eq_zero_of_mod_eq h.symm;rw[show a+j-(a+i)=j-i by omega,amb (by omega)]at b;omega
 rcases Nat.le_total i j with b|b
 .exact d c b h
 .exact (d e b h.symm).symm
def Hn{cells:List bx}{a k i:Nat}{x:bx}(b:k<cells.length)(c:i<cells.length):iW (cells.set ((a+k) % cells.length) x) a i=if i=k then x else iW cells a i:=by
 unfold iW;rw[aiJ,ae9,ae9];have d:(a+k) % cells.length<cells.length:=akx _ (by omega);split
 .rename_i h;subst h;rw[afN d];rfl
 .rename_i h;rw[aay (fun e=>h (ZQ c b e.symm))]
def eJ(cells:List bx)(a n:Nat):List bx:=(aiT n).map (iW cells a)
def mw(cells:List bx)(a n:Nat):(eJ cells a n).length=n:=by simp[eJ]
def vU{cells:List bx}{a n i:Nat}(h:i<n):(eJ cells a n)[i]?=some (iW cells a i):=by simp[eJ,h]
def U1{cells:List bx}{a n:Nat}{x:bx}(h:n<cells.length):eJ (cells.set ((a+n) % cells.length) x) a (n+1)=eJ cells a n++[x]:=by
 unfold eJ;rw[ajX,agA];congr 1
 .apply ajm;intro i b;have:=alu.1 b;rw[Hn h (by omega),if_neg (by omega)]
 .simp[Hn h h]
def qU(cells:List bx)(a n:Nat)(s:bx):List bx:=cells.set ((a+n) % cells.length) s
def PL(l:List bx)(k:Nat)(s:bx):(l.map cZ).set k [Sg s]=(l.set k s).map cZ:=by rw[aix];rfl
def af2{H:List Ob}{b h:Nat}{cells:List bx}{a n:Nat}(r:mD H b h cells a n)(s:bx):∃i,bB tz (ev tz) 222 [aw b,.c (Sg s)] H=some (aR (decide (n<cells.length)),i)/\
  i=if n<cells.length then(H.set h (ah 1 ((qU cells a n s).map cZ))).set b (ah 3 [[.sl h 0 0 cells.length,I a,I (n+1:Nat)]])else H:=by
 refine gv func222 rfl ?_
 have d:=S8 r
 have f:=r.hb
 have g:=r.hh
 have t:=r.cl
 have u:=r.nl
 by_cases c1:n<cells.length
 .have j:=zJ r n (by omega) (by omega)
  have⟨k,l⟩:=ak ((a+n) % cells.length)
  have m:k<cells.length:=by rw[<-l];exact akx _ (by omega)
  unfold qU
  rw[l]at j|-
  have c2:¬(cells.length:Int)-n=0:=by omega
  have o:ads.wrap ((n:Int)+1)=((n+1:Nat):Int):=cr (by omega)
  have p:h≠b:=fun e=>by subst e;rw[f]at g;cases g
  have q:∀X,(H.set h X)[b]?=some (ah 3 [[.sl h 0 0 cells.length,I a,I n]]):=fun X=>by rw[aay p];exact f
  have hm:(cells.map cZ)[k]?=some [Sg cells[k]]:=by rw[adn,aae m];rfl
  simp[-aD,-getElem?_pos,-aae,f222,d,j,f,g,q,c1,c2,o,m,hm,-ac7]
  rfl
 .have c2:(cells.length:Int)-n=0:=by omega
  rw[c2]at d
  simp[-aD,f222,d,c1]
def fE(H:List Ob)(c:Nat->aU)(k:aU)(b room:Nat)(l:List bx):Prop:= ∃h cells a n,mD H b h cells a n/\cells.length=room/\l=eJ cells a n/\c b=k/\c h=k
def mD.aJ{H H':List Ob}{b h:Nat}{cells:List bx}{a n:Nat}(r:mD H b h cells a n)(c:H'[b]?=H[b]?)(d:H'[h]?=H[h]?):mD H' b h cells a n:=⟨c.trans r.hb,d.trans r.hh,r.cl,r.bl,r.nl⟩
def fE.aJ{H H':List Ob}{c d:Nat->aU}{k:aU}{K:aU->Prop}{b room:Nat}{l:List bx}(h:fE H c k b room l)(a:aH K c d H H')(e:¬K k):fE H' d k b room l:=by have⟨h,cells,i,n,r,j,m,f,g⟩:=h;exact⟨h,cells,i,n,r.aJ (a.aJ b (bf r.hb) (by rw[f];exact e)) (a.aJ h (bf r.hh) (by rw[g];exact e)),j,m,by rw[a.jS b (bf r.hb)];exact f,by rw[a.jS h (bf r.hh)];exact g⟩
def fE.room{H:List Ob}{c:Nat->aU}{k:aU}{b room:Nat}{l:List bx}(h:fE H c k b room l):l.length<=room/\room<=1000/\b<H.length:=by obtain⟨h,cells,a,n,r,rfl,rfl,_⟩:=h;rw[mw];exact⟨r.nl,r.cl,bf r.hb⟩
def pX{c:Nat->aU}{k:aU}{b h:Nat}{H a:List Ob}(i:a.length=H.length)(d:c b=k)(f:c h=k)(g:∀m,m≠b->m≠h->a[m]?=H[m]?):aH (· =k) c c H a:=
 ⟨by omega,fun _ _=>rfl,fun m _ hm=>g m (fun e=>hm (by rw[e];exact d)) (fun e=>hm (by rw[e];exact f))⟩
def O5{H:List Ob}{c:Nat->aU}{k:aU}{b room:Nat}{l:List bx}(h:fE H c k b room l)(s:bx):∃d,aO tz ay 222 [aw b,.c (Sg s)] H=some (aR (decide (l.length<room)),d)/\fE d c k b room (ox room l s)/\aH (· =k) c c H d:=by
 obtain⟨h,cells,a,n,r,rfl,rfl,j,o⟩:=h;have⟨d,t,g⟩:=af2 r s;refine⟨d,by rw[dz (f:=222) rfl,t,mw],?_⟩;unfold ox;rw[mw];by_cases c1:n<cells.length
 .rw[if_pos c1]at g;rw[if_pos c1];have q:h≠b:=fun e=>by have p:=r.hb;have i:=r.hh;subst e;rw[p]at i;cases i
  subst g;refine⟨⟨h,qU cells a n s,a,n+1,⟨?_,?_,?_,r.bl,?_⟩,by simp[qU],(U1 c1).symm,j,o⟩,?_⟩
  .have u:(H.set h (ah 1 ((qU cells a n s).map cZ)))[b]?=some (ah 3 [[.sl h 0 0 cells.length,I a,I n]]):=by rw[aay q];exact r.hb
   rw[show(qU cells a n s).length=cells.length by simp[qU]];exact ba u
  .rw[aay (ain q)];exact ba r.hh
  .simpa[qU]using r.cl
  .simpa[qU]using Nat.succ_le_of_lt c1
  .exact pX (by simp) j o fun m p i=>by rw[aay (ain p),aay (ain i)]
 .rw[if_neg c1]at g;rw[if_neg c1];subst g;exact⟨⟨h,cells,a,n,r,rfl,rfl,j,o⟩,aH.refl _ _ _⟩
section
variable{H:List Ob}{b beg n:Nat}{c:Nat->aU}{k:aU}{l:List bx}
def eI(o:Option bx):au:= .aM [.c (Sg (o.getD [])),aR o.isSome]
def Kp(cells:List bx)(beg n:Nat)(i:Int):dV (eJ cells beg n) i=if 0<=i/\i<n then some (iW cells beg i.toNat)else none:=by
 unfold dV;by_cases c1:i<0
 .rw[if_pos c1,if_neg (by omega)]
 .rw[if_neg c1];by_cases c2:i<n
  .rw[if_pos (by omega),vU (by omega)]
  .rw[if_neg (by omega),aiz (by rw[mw];omega)]
def Hk{h:Nat}{cells:List bx}(r:mD H b h cells beg n)(i:Int):aO tz ay 239 [aw b,aa i] H=some (eI (dV (eJ cells beg n) i),H):=by
 have a:=afb cells beg n i r.bl r.nl r.cl;have d:=r.view;rw[Kp];unfold eI;by_cases c:0<=i/\i<n
 .simp only[if_pos c]at a|-;simp[-bV,a,d,vI]
 .simp only[if_neg c]at a|-;simp[-bV,a,d,vI]
def abm{room:Nat}(h:fE H c k b room l)(i:Int):aO tz ay 239 [aw b,aa i] H=some (eI (dV l i),H):=by obtain⟨h,cells,beg,n,r,rfl,rfl,a,d⟩:=h;exact Hk r i
structure tc(cells:List bx)(beg n a i:Nat)(cs:List bx):Prop where
 l:cs.length=cells.length
 v:∀j,j<n->iW cs beg j=if a<=j/\j<i then iW cells beg (j+1)else iW cells beg j
def tc.step{cells cs:List bx}{a i:Nat}(h:tc cells beg n a i cs)(b:a<=i)(d:i+1<n)(hn:n<=cells.length):tc cells beg n a (i+1) (cs.set ((beg+i) % cells.length) (iW cs beg (i+1))):=by
 refine⟨by rw[aiJ];exact h.l,fun j f=>?_⟩;rw[<-h.l,Hn (by rw[h.l];omega) (by rw[h.l];omega)];by_cases e:j=i
 .subst e;rw[if_pos rfl,if_pos ⟨b,by omega⟩,h.v _ d,if_neg (by omega)]
 .rw[if_neg e,h.v j f];by_cases c:a<=j/\j<i
  .rw[if_pos c,if_pos (by omega)]
  .rw[if_neg c,if_neg (by omega)]
def tc.fin{cells cs:List bx}{a:Nat}(h:tc cells beg n a (n-1) cs)(b:a<n):eJ cs beg (n-1)=(eJ cells beg n).eraseIdx a:=by
 apply ajr;intro j;rw[List.getElem?_eraseIdx];by_cases c:j<n-1
 .rw[vU c,h.v j (by omega)];by_cases d:j<a
  .rw[if_pos d,vU (by omega),if_neg (by omega)]
  .rw[if_neg d,vU (by omega),if_pos (by omega)]
 .rw[aiz (by rw[mw];omega)];split
  .rename_i d;omega
  .rw[aiz (by rw[mw];omega)]
def Cp(H:List Ob)(b h:Nat)(cells:List bx)(beg n:Nat)(l:List bx)(a:List Ob):Prop:=
 ∃cs c,mD a b h cs beg c/\cs.length=cells.length/\eJ cs beg c=l/\a.length=H.length/\∀m,m≠b->m≠h->a[m]?=H[m]?
def afs{H:List Ob}{b h:Nat}{cells:List bx}{beg n:Nat}(r:mD H b h cells beg n)(i:Int):∃E,bB tz (ev tz) 223 [aw b,aa i] H=some (eI (dV (eJ cells beg n) i),E)/\
  Cp H b h cells beg n (if 0<=i/\i<n then(eJ cells beg n).eraseIdx i.toNat else eJ cells beg n) E:=by
 refine gv func223 rfl ?_
 have k:=Hk r i
 have F:=r.cl
 have J:=r.nl
 rw[Kp]at k|-
 by_cases c:0<=i/\i<n
 case neg=>
  simp only[if_neg c,eI,ajj,ajg]at k|-
  simp[-aD,f223,k]
  exact⟨cells,n,r,rfl,rfl,rfl,fun _ _ _=>rfl⟩
 simp only[if_pos c,eI,aiU,ajf]at k|-
 obtain⟨a,rfl⟩:∃a:Nat,i=a:=⟨i.toNat,by omega⟩
 simp only[aim]at k|-
 have T:a<n:=by omega
 have⟨s,U⟩:=ak (iW cells beg a)
 rw[U]at k|-
 simp[-aD,f223,k]
 refine Ends.loop (fun S=>S.env.get 6=some (.c (Sg s))/\S.env.get 0=some (aw b)/\S.bH=[]/\∃cs,tc cells beg n a (n-1) cs/\S.heap=H.set h (ah 1 (cs.map cZ)))
  (gO (fun j:Nat=>[(6,.c (Sg s)),(0,aw b),(8,aa j)]) (fun j G=>a<=j/\j+1<=n/\∃cs,tc cells beg n a j cs/\G=H.set h (ah 1 (cs.map cZ))) [] (fun j=>n-j) _ [6,0,8] (fun _=>rfl) ?_ a _ (by simp) ?_ rfl) ?_
 .rintro j⟨V,G,W⟩y⟨K,X,cs,f,g⟩L
  simp only at y K X f g L
  subst L
  simp at y
  have⟨p,q,M⟩:=y
  have t:=r.hb
  have m:=r.hh
  have u:h≠b:=fun e=>by rw[e,t]at m;cases m
  have o:G[b]?=some (ah 3 [[.sl h 0 0 cs.length,I beg,I n]]):=by rw[g,aay u,f.l];exact t
  have v:G[h]?=some (ah 1 (cs.map cZ)):=by rw[g];exact ba m
  have N:mD G b h cs beg n:=⟨o,v,by rw[f.l];exact F,r.bl,by rw[f.l];exact J⟩
  have w:ads.wrap ((j:Int)+1)=((j+1:Nat):Int):=cr (by omega)
  by_cases d:j+1<n
  .have O:=zJ N j (by omega) (by rw[f.l];omega)
   have P:=zJ N (j+1) (by omega) (by rw[f.l];omega)
   have z:=f.step K d J
   rw[<-f.l]at z
   have⟨A,B⟩:=ak ((beg+j) % cs.length)
   have⟨x,C⟩:=ak ((beg+(j+1)) % cs.length)
   have Q:0<cs.length:=by rw[f.l];omega
   have R:A<cs.length:=by rw[<-B];exact akx _ Q
   have D:x<cs.length:=by rw[<-C];exact akx _ Q
   have Y:iW cs beg (j+1)=cs[x]:=by unfold iW;rw[C,ae9,aae D];rfl
   rw[B,Y]at z
   rw[B]at O
   rw[C]at P
   have Z:(cs.map cZ)[A]?=some [Sg cs[A]]:=by rw[adn,aae R];rfl
   have m2:(cs.map cZ)[x]?=some [Sg cs[x]]:=by rw[adn,aae D];rfl
   have d2:((j+1:Nat):Int)<n:=by omega
   simp[-aD,-getElem?_pos,-aae,-ac7,p,q,M,o,v,w,d2,O,P,R,D,Z,m2]
   exact⟨j+1,by omega,rfl,by omega,by omega,_,z,by rw[g,ajB,PL]⟩
  .have d2:¬((j+1:Nat):Int)<n:=by omega
   simp[-aD,-ac7,p,q,M,o,w,d2]
   exact⟨cs,by rw[show n-1=j by omega];exact f,g⟩
 .exact ⟨adt _,by omega,cells,⟨rfl,fun j hj=>by rw[if_neg (by omega)]⟩,(lP r.hh).symm⟩
 .rintro⟨V,G,W⟩⟨p,q,rfl,cs,f,g⟩
  simp only at p q f g
  have t:=r.hb
  have m:=r.hh
  have u:h≠b:=fun e=>by rw[e,t]at m;cases m
  have o:G[b]?=some (ah 3 [[.sl h 0 0 cs.length,I beg,I n]]):=by rw[g,aay u,f.l];exact t
  have v:G[h]?=some (ah 1 (cs.map cZ)):=by rw[g];exact ba m
  have w:ads.wrap ((n:Int)-1)=((n-1:Nat):Int):=by rw[fC (by omega) (by omega)];omega
  simp[p,q,o,w]
  refine⟨cs,n-1,⟨ba o,?_,by rw[f.l];exact F,r.bl,by rw[f.l];omega⟩,f.l,?_,by rw[aiJ,g,aiJ],fun ab k h2=>?_⟩
  .rw[aay (ain u)];exact v
  .rw[f.fin T]
  .rw[aay (ain k),g,aay (ain h2)]
def fE.Pd{a:List Ob}{h:Nat}{cells:List bx}(f:Cp H b h cells beg n l a)(d:c b=k)(e:c h=k):fE a c k b cells.length l/\aH (· =k) c c H a:=by have⟨cs,g,i,j,m,o,p⟩:=f;exact⟨⟨h,cs,beg,g,i,j,m.symm,d,e⟩,pX o d e p⟩
def Tx{room:Nat}(h:fE H c k b room l)(i:Int):∃a,aO tz ay 223 [aw b,aa i] H=some (eI (dV l i),a)/\fE a c k b room (if 0<=i/\i<l.length then l.eraseIdx i.toNat else l)/\aH (· =k) c c H a:=by obtain⟨h,cells,beg,n,r,rfl,rfl,d,e⟩:=h;have⟨a,g,j⟩:=afs r i;rw[mw];exact⟨a,by rw[dz (f:=223) rfl,g],fE.Pd j d e⟩
def Xy{cells:List bx}{i:Nat}(hc:0<cells.length):iW cells ((beg+1) % cells.length) i=iW cells beg (i+1):=by unfold iW;rw[Nat.mod_add_mod,show beg+1+i=beg+(i+1)by omega]
def V7{cells:List bx}(hn:0<n)(hc:n<=cells.length):eJ cells ((beg+1) % cells.length) (n-1)=(eJ cells beg n).tail:=by
 apply ajr;intro j;rw[List.getElem?_tail];by_cases c:j<n-1
 .rw[vU c,vU (by omega),Xy (by omega)]
 .rw[aiz (by rw[mw];omega),aiz (by rw[mw];omega)]
def Yg{H:List Ob}{b h:Nat}{cells:List bx}{beg n:Nat}(r:mD H b h cells beg n):∃l,bB tz (ev tz) 244 [aw b] H=some (eI (dV (eJ cells beg n) 0),l)/\
  ∃p,Cp H b h cells p n (eJ cells beg n).tail l:=by
 refine gv func244 rfl ?_
 have a:=Hk r 0
 have q:=r.cl
 have t:=r.nl
 rw[Kp]at a|-
 by_cases c:(0:Int)<=0/\(0:Int)<n
 case neg=>
  have hn:n=0:=by omega
  subst hn
  simp only[if_neg c,eI,ajj,ajg]at a|-
  simp[-aD,f244,a]
  exact⟨beg,cells,0,r,rfl,rfl,rfl,fun _ _ _=>rfl⟩
 simp only[if_pos c,eI,aiU,ajf]at a|-
 have⟨s,d⟩:=ak (iW cells beg (0:Int).toNat)
 rw[d]at a|-
 have f:aO tz ay 276 [aw b,aa 1] H=_:=zJ r 1 (by omega) (by omega)
 have g:=r.hb
 have i:=r.hh
 have u:h≠b:=fun e=>by rw[e,g]at i;cases i
 have v:ads.wrap ((n:Int)-1)=((n-1:Nat):Int):=by rw[fC (by omega) (by omega)];omega
 have⟨k,j⟩:=ak ((beg+1) % cells.length)
 have w:k<cells.length:=by rw[<-j];exact akx _ (by omega)
 rw[j]at f
 have d:∀X,(H.set b X)[b]?=some X:=fun X=>ba g
 have o:=V7 (beg:=beg) (by omega:0<n) t
 rw[j]at o
 simp[-aD,f244,a,f,g,d,v]
 refine⟨k,cells,n-1,⟨d _,?_,q,by omega,by omega⟩,rfl,o,by simp,fun m a f=>?_⟩
 .rw[aay (ain u)];exact i
 .rw[aay (ain a)]
def YS{room:Nat}(h:fE H c k b room l):∃v a,aO tz ay 244 [aw b] H=some (v,a)/\fE a c k b room l.tail/\aH (· =k) c c H a:=by obtain⟨h,cells,beg,n,r,rfl,rfl,d,e⟩:=h;have⟨a,g,j,i⟩:=Yg r;exact⟨_,a,by rw[dz (f:=244) rfl,g],fE.Pd i d e⟩
def abZ(room:Int):aS tz ay 2 274 [aa room]=some (aw 1,[ah 1 (ago (eC room 0 1000).toNat (cZ [])),ah 3 [[.sl 0 0 0 (eC room 0 1000).toNat,I 0,I 0]]]):=by
 refine be func274 rfl ?_;obtain⟨n,hn⟩:∃n:Nat,eC room 0 1000=n:=⟨(eC room 0 1000).toNat,by unfold eC;omega⟩;have b:(n:Int)<=1000:=by rw[<-hn];unfold eC;omega
 rw[hn];unfold eC at hn;have a:16*(n:Int)<=281474976710656/\n<=maxLen:=⟨by omega,by unfold maxLen;omega⟩;simp[f274,hn,a,cZ]
def ag2(H:List Ob)(c:Nat->aU)(k:aU)(room:Int):∃b a,aO tz ay 274 [aa room] H=some (aw b,a)/\fE a (ext c H.length k) k b (eC room 0 1000).toNat []/\aH (· =k) c (ext c H.length k) H a/\H.length<=b/\b<a.length:=by
 have h:=abZ room;have⟨n,hn⟩:=ak ((eC room 0 1000).toNat:Nat);have f:n<=1000:=by rw[<-hn];unfold eC;omega
 rw[hn]at h|-;have⟨R,d⟩:=ak (ago n (cZ []));have e:bA R=true:=by rw[<-d,show ago n (cZ [])=(ago n []).map cZ by simp];exact vC _
 have g:(ago n ([]:bx)).map cZ=R:=by rw[<-d];simp
 rw[d]at h;have i:dY H.length (ah 1 R)=ah 1 R:=qy e;refine⟨H.length+1,H++[ah 1 R,ah 3 [[.sl H.length 0 0 n,I 0,I 0]]],?_,⟨H.length,ago n [],0,0,⟨?_,?_,by simpa using f,by omega,by omega⟩,by simp,by simp[eJ],jr (by omega),jr (by omega)⟩,aH.of k (by simp) fun m hm _=>aaK hm,by omega,by simp⟩
 .have j:dY H.length (ah 3 [[.sl 0 0 0 n,I 0,I 0]])=ah 3 [[.sl H.length 0 0 n,I 0,I 0]]:=rfl;simp[h,eo,pR,jy,oz,rp,e,i,j,eR,bA,cw,bD]
 .rw[jd];simp
 .rw[pq,g];rfl
def DJ(H:List Ob)(q:ab)(l:List bx):Prop:=(l=[]/\q=ap)\/∃h v,l≠ []/\q= .sl h v 0 l.length/\H[h]?=some (.live v 1 (l.map cZ))
def SF(cells:List bx)(beg n:Nat)(O:beg<=1000)(h2:n<=cells.length)(h3:cells.length<=1000){r:au}{own:List Ob}(m:(if n=0 then(.c ap,[])else(bd 0 0 0 n,[ah 1 ((eJ cells beg n).map cZ)]))=(r,own)):aS tz ay 0 243 [.c (.aK [[.aj (cells.map cZ),I beg,I n]] 0 0)]=some (r,own):=by
 refine be func243 rfl ?_;have⟨R,o⟩:=ak (cells.map cZ);have B:bA R=true:=by rw[<-o];exact vC _
 have C:=fun(i:Nat) (hi:i<n)=>KC (cells.map cZ) beg n i O (by omega) (by simp;omega);rw[o]at C|-;have P:R.length=cells.length:=by rw[<-o];simp
 simp[f243]
 refine Ends.loop (fun S=>S.bH=[]/\∃q,S.env.get 3=some (.c q)/\DJ S.heap q (eJ cells beg n))
  (gO (fun p:Nat×ab=>[(0,.c (.aK [[.aj R,I beg,I n]] 0 0)),(8,aa n),(9,aa p.1),(3,.c p.2)]) (fun p G=>p.1<=n/\DJ G p.2 (eJ cells beg p.1)) [] (fun p=>n-p.1) _ [0,8,9,3] (fun _=>rfl) ?_ (0,ap) _ (by simp) ⟨by simp,.inl ⟨rfl,rfl⟩⟩ rfl) ?_
 .rintro⟨j,q⟩⟨Q,G,T⟩u⟨U,t⟩D;simp only at u U t D;subst D;simp at u;have⟨E,w,x,a⟩:=u;by_cases d:j<n
  .have y:=C j d;have⟨k,z⟩:=ak ((beg+j) % cells.length);have F:k<cells.length:=by rw[<-z];exact akx _ (by omega)
   rw[P,z]at y;have V:iW cells beg j=cells[k]:=by unfold iW;rw[z,ae9,aae F];rfl
   have A:R[k]?=some [Sg cells[k]]:=by rw[<-o,adn,aae F];rfl
   have H:k<R.length:=by omega
   have J:ads.wrap ((j:Int)+1)=((j+1:Nat):Int):=cr (by omega);have b:eJ cells beg (j+1)=eJ cells beg j++[cells[k]]:=by unfold eJ;rw[ajX,agA,List.map_singleton,V]
   have f:(eJ cells beg j).length=j:=mw _ _ _;have⟨s,W⟩:=ak cells[k];rw[W]at A b;have⟨l,X⟩:=ak (eJ cells beg j);rw[X]at t b f;rcases t with⟨rfl,rfl⟩|⟨h,v,L,rfl,g⟩
   .simp[-getElem?_pos,-aae,-ac7,E,w,x,a,d,y,A,H,B,J];exact⟨j+1,by omega,_,⟨rfl,rfl⟩,by omega,.inr ⟨G.length+1,0,by rw[b];simp,by rw[b];rfl,by rw[b,jd];rfl⟩⟩
   .rw[f]at a;have Y:j+1<=maxLen:=by unfold maxLen;omega
    have Z:(j+1)*16<=140737488355328:=by omega
    have M:∀K,(G++K)[h]?=some (.live v 1 (l.map cZ)):=fun K=>by rw[aaK (bf g)];exact g
    simp[-getElem?_pos,-aae,-ac7,E,w,x,a,d,y,A,H,B,J,M,f,Y,Z];exact⟨j+1,by omega,_,⟨rfl,rfl⟩,by omega,.inr ⟨h,v+1,by rw[b];simp,by rw[b];simp[f],by rw[b,ba (M _),ach (by simp[f])];simp[cZ]⟩⟩
  .have hj:j=n:=by omega
   simp[-ac7,w,x,a,d];rw[<-hj];exact t
 .rintro⟨Q,G,T⟩⟨rfl,q,a,N⟩;simp only at a N;rcases N with⟨e,rfl⟩|⟨h,v,L,rfl,g⟩
  .have hn:n=0:=by rw[<-mw cells beg n,e];rfl
   rw[if_pos hn]at m;cases m;simp[a]
  .have hn:¬n=0:=fun e=>L (by subst e;rfl);rw[if_neg hn]at m;cases m;have f:(eJ cells beg n).length=n:=mw _ _ _;have⟨l,b⟩:=ak (eJ cells beg n);rw[b]at g f a|-;rw[f]at a;have ht:(l.map cZ).take n=l.map cZ:=ach (by simp[f]);simp[a,g,vC,f,ht]
def ad9{room:Nat}(h:fE H c k b room l):∃q a,aO tz ay 243 [aw b] H=some (.c q,a)/\DJ a q l/\(∃K,a=H++K)/\∀m∈rf q,H.length<=m:=by
 obtain⟨h,cells,beg,n,r,rfl,rfl,j,o⟩:=h;have f:=r.view;by_cases hn:n=0
 .have d:=SF cells beg n r.bl r.nl r.cl (if_pos hn);refine⟨ap,H,by simp[-bV,d,f],.inl ⟨by subst hn;rfl,rfl⟩,⟨[],by simp⟩,by simp[rf]⟩
 .have d:=SF cells beg n r.bl r.nl r.cl (if_neg hn);have g:dY H.length (ah 1 ((eJ cells beg n).map cZ))=ah 1 ((eJ cells beg n).map cZ):=qy (vC _);have i:kW [3,1] (ah 1 ((eJ cells beg n).map cZ))=true:=by simp[kW,cW,fZ,cZ]
  refine⟨.sl H.length 0 0 n,H++[ah 1 ((eJ cells beg n).map cZ)],by simp[-bV,-dY,-kW,d,f,eo,g,i,km,fZ,eR,dZ],.inr ⟨H.length,0,fun e=>hn (by rw[<-mw cells beg n,e];rfl),by rw[mw],by simp⟩,⟨_,rfl⟩,by simp[rf]⟩
end
section
variable{g:Nat->aU}
def bI(s:Bool):Int:=if s then 1 else 0
def EQ(b:List (List ab×ab))(a:List Int)(x:ab)(c:iF (a.map I)=some a):ec (gY b a x) a=some x:=by
 induction b with
 |nil=>simp[gY,ec,c]
 |cons p r d=>
  have⟨k,v⟩:=p;unfold gY;split
  .simp only[ec,c,if_true]
  .rename_i h;simp only[ec,if_neg h];exact d
def CN(b:List (List ab×ab)){a c:List Int}(x:ab)(d:iF (a.map I)=some a)(e:a≠c):ec (gY b a x) c=ec b c:=by
 induction b with
 |nil=>simp[gY,ec,d,e]
 |cons p r f=>
  have⟨k,v⟩:=p;unfold gY;split
  .rename_i h;simp only[ec,d,h,abj,if_neg e]
  .simp only[ec];rw[f]
def Fz(c:List (List ab×ab)){a b:Int}(x:ab)(h:mS c=true):mS (gY c [a,b] x)=true:=by
 induction c with
 |nil=>rfl
 |cons p r d=>
  have⟨k,v⟩:=p;simp only[mS,aa2]at h;unfold gY;split
  .simp only[mS,aa2];exact⟨rfl,h.2⟩
  .simp only[mS,aa2];exact⟨h.1,d h.2⟩
def afw:∀s t,[bI s,bI (!s)]=[bI t,bI (!t)]->t=s:=by decide
def QP:∀s t,4+cj t=4+cj s->t=s:=by decide
def ZI(H:List Ob)(c:Nat->aU)(g:Nat->aU)(room:Int)(a:List (List ab×ab))(q:Bool->List bx):Prop:=
 ∀s,(ec a [bI s,bI (!s)]=none/\q s=[])\/∃p,ec a [bI s,bI (!s)]=some (.ptr p 0 0 0)/\fE H c (g (4+cj s)) p (eC room 0 1000).toNat (q s)
structure qF(H:List Ob)(c:Nat->aU)(g:Nat->aU)(b mp:Nat)(room:Int)(es:List (List ab×ab))(q:Bool->List bx):Prop where
 hb:H[b]?=some (ah 3 [[I 2,I room,.mr mp]])
 hm:H[mp]?=some (.mp es)
 k2:mS es=true
 cb:c b=g 3
 cm:c mp=g 3
 r:ZI H c g room es q
def gw(H:List Ob)(c:Nat->aU)(g:Nat->aU)(b:Nat)(room:Int)(q:Bool->List bx):Prop:= ∃mp a,qF H c g b mp room a q
def fU(g:Nat->aU):Prop:=(∀i j,g i=g j->i=j)/\∀i,g i≠ .none
def Gc(g:Nat->aU):aU->Prop:=fun x=>∃i,3<=i/\i<=5/\x=g i
def Vz(g:Nat->aU):Gc g (g 3):=⟨3,by omega,by omega,rfl⟩
def nh(s:Bool):cj s<=1:=by cases s<;>decide
def JL(g:Nat->aU)(s:Bool):Gc g (g (4+cj s)):=⟨_,by omega,by have:=nh s;omega,rfl⟩
def Jx(a:fU g){i:Nat}(h:i<3\/5<i):¬Gc g (g i):=fun⟨j,c,d,b⟩=>by have:=a.1 _ _ b;omega
def Sx(a:fU g):¬Gc g .none:=fun⟨j,_,_,h⟩=>a.2 j h.symm
def qF.aJ{H H':List Ob}{c e:Nat->aU}{g:Nat->aU}{K:aU->Prop}{b mp:Nat}{room:Int}{f:List (List ab×ab)}{q:Bool->List bx}(h:qF H c g b mp room f q)(a:aH K c e H H')(d:∀i,3<=i->i<=5-> ¬K (g i)):qF H' e g b mp room f q:=by
 have⟨j,k,n,l,m,o⟩:=h;refine⟨(a.get j (by rw[l];exact d 3 (by omega) (by omega))).1,(a.get k (by rw[m];exact d 3 (by omega) (by omega))).1,n,((a.jS b (bf j)).trans l),((a.jS mp (bf k)).trans m),fun s=>?_⟩;rcases o s with g|⟨p,r,t⟩
 .exact .inl g
 .exact .inr ⟨p,r,t.aJ a (d _ (by omega) (by have:=nh s;omega))⟩
def qF.bJ{H d:List Ob}{c f:Nat->aU}{b mp p:Nat}{room:Int}{i:List (List ab×ab)}{q:Bool->List bx}{l:List bx}{s:Bool}(k:fU g)(h:qF H c g b mp room i q)(a:aH (· =g (4+cj s)) c f H d)(v:ec i [bI s,bI (!s)]=some (.ptr p 0 0 0))(w:fE d f (g (4+cj s)) p (eC room 0 1000).toNat l):qF d f g b mp room i (up q s l):=by
 have⟨m,n,x,o,r,y⟩:=h;have u:¬g 3=g (4+cj s):=fun e=>by have:=k.1 _ _ e;omega
 refine⟨(a.get m (by rw[o];exact u)).1,(a.get n (by rw[r];exact u)).1,x,((a.jS b (bf m)).trans o),((a.jS mp (bf n)).trans r),fun t=>?_⟩;by_cases e:t=s
 .subst e;rw[pV];exact .inr ⟨p,v,w⟩
 .rw[ql _ _ e];rcases y t with j|⟨p,j,z⟩
  .exact .inl j
  .exact .inr ⟨p,j,z.aJ a fun A=>e (QP _ _ (k.1 _ _ A))⟩
structure sr(H:List Ob)(c:Nat->aU)(g:Nat->aU)(b:Nat)(room:Int)(q:Bool->List bx)(s:Bool)(p:Nat)(c':Nat->aU)(H':List Ob):Prop where
 n:∃mp es,qF H' c' g b mp room es q/\ec es [bI s,bI (!s)]=some (.ptr p 0 0 0)
 r:fE H' c' (g (4+cj s)) p (eC room 0 1000).toNat (q s)
 st:aH (Gc g) c c' H H'
def Cm:sF aaD 402=true:=by kernel_rfl
def xp:rB aaD 351=true:=by kernel_rfl
def X7{H:List Ob}{c:Nat->aU}{g:Nat->aU}{b:Nat}{room:Int}{q:Bool->List bx}(L:fU g)(h:gw H c g b room q)(s:Bool):∃p y u,bB tz (ev tz) 221 [aw b,aa (bI s),aa (bI (!s))] H=some (aw p,u)/\sr H c g b room q s p y u:=by
 obtain⟨r,u,v,p,y,rfl,w⟩:=cG (C:=tz) (f:=221) (args:=[aw b,aa (bI s),aa (bI (!s))]) (H:=H) (fun x u=>∃p y,x=aw p/\sr H c g b room q s p y u) func221 rfl (by
  have⟨mp,o,hn⟩:=h;have M:=hn.hb;have hm:=hn.hm;have z:=hn.k2;have W:=bf M;have Y:=bf hm;have⟨a,j⟩:=ak (bI s);have⟨d,k⟩:=ak (bI (!s));have Z:¬a<0:=by rw[<-j];cases s<;>decide
  have bj:¬d<0:=by rw[<-k];cases s<;>decide
  have f3:¬2<=a:=by rw[<-j];cases s<;>decide
  have f4:¬2<=d:=by rw[<-k];cases s<;>decide
  have f5:eM [Sh.int,Sh.int] [I a,I d] [I d,I a]=some false:=by rw[<-j, <-k];cases s<;>rfl
  have hr:=hn.r s;rw[j,k]at hr|-;have D:∀K,(H++K)[b]?=H[b]?:=fun K=>aaK W;have E:∀K,(H++K)[mp]?=H[mp]?:=fun K=>aaK Y;rw[M]at D;rw[hm]at E;rcases hr with⟨v,w⟩|⟨p,v,w⟩
  .have ⟨X,i⟩:=ak (H++[ah 2 [[I a,I d]]]:List Ob);have⟨c1,A⟩:=ak (ext c H.length (g 3));have ad:aH (Gc g) c c1 H X:=by rw[<-A, <-i];exact aH.of _ (by simp) fun m hm _=>aaK hm
   have⟨l,G,N,O,n,P,r5⟩:=ag2 X c1 (g (4+cj s)) room;have lX:X.length=H.length+1:=by rw[<-i];simp
   have F:¬g 3=g (4+cj s):=fun e=>by have:=L.1 _ _ e;omega
   have nb:b≠mp:=fun e=>by subst e;rw[M]at hm;cases hm
   have cb:c1 b=g 3:=by rw[<-A,ji W];exact hn.cb
   have cm:c1 mp=g 3:=by rw[<-A,ji Y];exact hn.cm
   have ct:c1 H.length=g 3:=by rw[<-A];exact jr (adt _)
   have g1:G[b]?=some (ah 3 [[I 2,I room,.mr mp]]):=by rw[n.aJ b (by omega) (by rw[cb];exact F), <-i];exact D _
   have g2:G[mp]?=some (.mp o):=by rw[n.aJ mp (by omega) (by rw[cm];exact F), <-i];exact E _
   have g3:G[H.length]?=some (ah 2 [[I a,I d]]):=by rw[n.aJ H.length (by omega) (by rw[ct];exact F), <-i];simp
   have lG:=n.len;have g4:∀x,(G.set mp x)[b]?=some (ah 3 [[I 2,I room,.mr mp]]):=fun x=>by rw[aay (ain nb)];exact g1
   have g5:∀x,(G.set mp x)[mp]?=some x:=fun x=>ba g2;have g6:∀x,(G.set mp x)[H.length]?=some (ah 2 [[I a,I d]]):=fun x=>by rw[aay (by omega)];exact g3
   have J:ec (gY o [a,d] (.ptr l 0 0 0)) [a,d]=some (.ptr l 0 0 0):=EQ _ _ _ rfl;have Q:=Fz (a:=a) (b:=d) o (.ptr l 0 0 0) z;have⟨B,R⟩:=ak (gY o [a,d] (.ptr l 0 0 0));rw[R]at J Q
   have hq:sr H c g b room q s l (ext c1 X.length (g (4+cj s))) (G.set mp (.mp B)):=by
    have cp:ext c1 X.length (g (4+cj s)) l=g (4+cj s):=jr P;have S:aH (· =g 3) (ext c1 X.length (g (4+cj s))) (ext c1 X.length (g (4+cj s))) G (G.set mp (.mp B)):=pX (b:=mp) (h:=mp) (by simp) (by rw[ji (by omega)];exact cm) (by rw[ji (by omega)];exact cm) fun m h _=>aay (ain h);have rr:fE (G.set mp (.mp B)) (ext c1 X.length (g (4+cj s))) (g (4+cj s)) l (eC room 0 1000).toNat []:=O.aJ S (fun e=>F e.symm);refine⟨⟨mp,B,⟨g4 _,g5 _,Q,by rw[ji (by omega)];exact cb,by rw[ji (by omega)];exact cm,fun t=>?_⟩,by rw[j,k];exact J⟩,by rw[w];exact rr,(ad.trans (n.mono fun x T=>by rw[T];exact JL g s)).trans (S.mono fun x T=>by rw[T];exact Vz g)⟩;by_cases U:t=s
    .subst U;exact .inr ⟨l,by rw[j,k];exact J,by rw[w];exact rr⟩
    .have ae:ec B [bI t,bI (!t)]=ec o [bI t,bI (!t)]:=by rw[<-R];refine CN _ _ rfl fun e=>U ?_;rw[<-j, <-k]at e;exact afw _ _ e
     rw[ae];rcases hn.r t with af|⟨p,k1,z⟩
     .exact .inl af
     .have nt:¬g (4+cj t)=g (4+cj s):=fun e=>U (QP _ _ (L.1 _ _ e));have ab:¬g (4+cj t)=g 3:=fun e=>by have:=L.1 _ _ e;omega
      have ag:aH (· =g 3) c c1 H X:=by rw[<-A, <-i];exact aH.of _ (by simp) fun m hm _=>aaK hm
      exact .inr ⟨p,k1,((z.aJ ag ab).aJ n nt).aJ S ab⟩
   have x1:X[b]?=some (ah 3 [[I 2,I room,.mr mp]]):=by rw[<-i];exact D _
   have x2:X[mp]?=some (.mp o):=by rw[<-i];exact E _
   have x3:X[H.length]?=some (ah 2 [[I a,I d]]):=by rw[<-i];simp
   simp[-aD,f221,x1,x2,x3,Cm,xp,nX,rn,iF,z,Z,bj,f3,f4,f5,v,li,i,N,g2,g4,g5,g6,R,J,Q];exact⟨_,hq⟩
  .have ⟨h,cells,ai,aj,r,N,O,n,P⟩:=w;have gp:∀K,(H++K)[p]?=H[p]?:=fun K=>aaK (bf r.hb);have hp:=r.hb;rw[hp]at gp;simp[-aD,f221,D,E,Cm,xp,nX,iF,z,Z,bj,f3,f4,f5,v,gp,li];have V:aH (fun _=>False) c (ext c H.length (g 3)) H (H++[ah 2 [[I a,I d]]]):=aH.of _ (by simp) fun m hm _=>aaK hm;exact⟨_,⟨mp,o,hn.aJ V fun _ _ _ h=>h,by rw[j,k];exact v⟩,fE.aJ ⟨h,cells,ai,aj,r,N,O,n,P⟩ V fun h=>h,V.mono fun _ h=>h.elim⟩)
 exact⟨p,y,u,v,w⟩
end
section
section
variable{H:List Ob}{c:Nat->aU}{g:Nat->aU}{b:Nat}{room:Int}{q:Bool->List bx}
def zj(i:fU g)(h:gw H c g b room q)(s:Bool):∃p d a,aO tz ay 221 [aw b,aa (bI s),aa (bI (!s))] H=some (aw p,a)/\sr H c g b room q s p d a/\∃r,a[p]?=some (ah 3 [r]):=by have⟨p,d,a,j,e⟩:=X7 i h s;refine⟨p,d,a,by rw[dz (f:=221) rfl];exact j,e,?_⟩;have⟨h,cells,k,n,r,_⟩:=e.r;exact⟨_,r.hb⟩
def sr.bJ{e a:Nat->aU}{f d:List Ob}{s:Bool}{p:Nat}{l:List bx}(j:fU g)(h:sr H c g b room q s p e f)(k:fE d a (g (4+cj s)) p (eC room 0 1000).toNat l)(i:aH (· =g (4+cj s)) e a f d):gw d a g b room (up q s l)/\aH (Gc g) c a H d:=by have⟨mp,m,hn,o⟩:=h.n;exact⟨⟨mp,m,hn.bJ j i o k⟩,h.st.trans (i.mono fun x r=>by rw[r];exact JL g s)⟩
def sr.same{a:Nat->aU}{d:List Ob}{s:Bool}{p:Nat}(h:sr H c g b room q s p a d):gw d a g b room q:=by have⟨mp,e,hn,f⟩:=h.n;exact⟨mp,e,hn⟩
def MQ(d:fU g)(h:gw H c g b room q)(s:Bool)(t:bx):∃e a,bB tz (ev tz) 138 [aw b,aa (bI s),aa (bI (!s)),.c (Sg t)] H=some (aR (decide ((q s).length< (eC room 0 1000).toNat)),a)/\gw a e g b room (up q s (ox (eC room 0 1000).toNat (q s) t))/\aH (Gc g) c e H a:=by
 have⟨p,c1,w,j,i,r,hp⟩:=zj d h s;have⟨k,l,m,n⟩:=O5 i.r t;have⟨o,u⟩:=i.bJ d m n;obtain⟨r,a,v,rfl,rfl⟩:=cG (C:=tz) (f:=138) (args:=[aw b,aa (bI s),aa (bI (!s)),.c (Sg t)]) (H:=H) (fun x a=>x=aR (decide ((q s).length< (eC room 0 1000).toNat))/\a=k) func138 rfl (by simp[-aD,f138,j,l,hp,xp,li])
 exact⟨c1,_,v,o,u⟩
def uA(l:List bx)(i:Int):List bx:=if 0<=i/\i<l.length then l.eraseIdx i.toNat else l
def aeZ(d:fU g)(h:gw H c g b room q)(s:Bool)(i:Int):∃e a,bB tz (ev tz) 139 [aw b,aa (bI s),aa (bI (!s)),aa i] H=some (eI (dV (q s) i),a)/\gw a e g b room (up q s (uA (q s) i))/\aH (Gc g) c e H a:=by
 have⟨p,c1,w,l,j,r,hp⟩:=zj d h s;have⟨m,k,n,o⟩:=Tx j.r i;have⟨t,u⟩:=j.bJ d n o;unfold eI at k|-;obtain⟨r,a,v,rfl,rfl⟩:=cG (C:=tz) (f:=139) (args:=[aw b,aa (bI s),aa (bI (!s)),aa i]) (H:=H) (fun x a=>x= .aM [.c (Sg ((dV (q s) i).getD [])),aR (dV (q s) i).isSome]/\a=m) func139 rfl (by simp[-aD,f139,l,k,hp,xp,li])
 exact⟨c1,_,v,t,u⟩
def aaF(k:fU g)(h:gw H c g b room q)(s:Bool)(i:Int):∃e a,bB tz (ev tz) 157 [aw b,aa (bI s),aa (bI (!s)),aa i] H=some (eI (dV (q s) i),a)/\gw a e g b room q/\aH (Gc g) c e H a:=by
 have⟨p,c1,l,m,d,r,hp⟩:=zj k h s;have j:=abm d.r i;unfold eI at j|-;obtain⟨r,a,n,rfl,rfl⟩:=cG (C:=tz) (f:=157) (args:=[aw b,aa (bI s),aa (bI (!s)),aa i]) (H:=H) (fun x a=>x= .aM [.c (Sg ((dV (q s) i).getD [])),aR (dV (q s) i).isSome]/\a=l) func157 rfl (by simp[-aD,f157,m,j,hp,xp,li])
 exact⟨c1,_,n,d.same,d.st⟩
def c138(e:fU g)(h:gw H c g b room q)(s:Bool)(t:bx):∃d a,aO tz ay 138 [aw b,aa (bI s),aa (bI (!s)),.c (Sg t)] H=some (aR (decide ((q s).length< (eC room 0 1000).toNat)),a)/\gw a d g b room (up q s (ox (eC room 0 1000).toNat (q s) t))/\aH (Gc g) c d H a:=by rw[dz (f:=138) rfl];exact MQ e h s t
def PV(e:fU g)(h:gw H c g b room q)(s:Bool)(i:Int):∃d a,aO tz ay 139 [aw b,aa (bI s),aa (bI (!s)),aa i] H=some (eI (dV (q s) i),a)/\gw a d g b room (up q s (uA (q s) i))/\aH (Gc g) c d H a:=by rw[dz (f:=139) rfl];exact aeZ e h s i
def J9(e:fU g)(h:gw H c g b room q)(s:Bool)(i:Int):∃d a,aO tz ay 157 [aw b,aa (bI s),aa (bI (!s)),aa i] H=some (eI (dV (q s) i),a)/\gw a d g b room q/\aH (Gc g) c d H a:=by rw[dz (f:=157) rfl];exact aaF e h s i
def uy(R:Nat)(q:Bool->List bx)(s:Bool)(i:Int):(Bool->List bx)×Bool:=
 match dV (q s) i with
 |none=>(q,false)
 |some t=>(up q s (ox R (q s) t),decide ((q s).length<R))
def Ts(j:fU g)(h:gw H c g b room q)(s:Bool)(i:Int):∃k a,bB tz (ev tz) 166 [aw b,aa (bI s),aa (bI (!s)),aa i] H=some (aR (uy (eC room 0 1000).toNat q s i).2,a)/\gw a k g b room (uy (eC room 0 1000).toNat q s i).1/\aH (Gc g) c k H a:=by
 have⟨c1,o,d,l,m⟩:=J9 j h s i;unfold eI at d;unfold uy;cases n:dV (q s) i with
 |none=>
  rw[n]at d;simp only[ajj,ajg]at d|-;obtain⟨r,a,e,rfl,rfl⟩:=cG (C:=tz) (f:=166) (args:=[aw b,aa (bI s),aa (bI (!s)),aa i]) (H:=H) (fun x a=>x=aR false/\a=o) func166 rfl (by simp[-aD,f166,d])
  exact⟨c1,_,e,l,m⟩
 |some t=>
  rw[n]at d;simp only[aiU,ajf]at d|-;have⟨c2,p,u,v,w⟩:=c138 j l s t;obtain⟨r,a,e,rfl,rfl⟩:=cG (C:=tz) (f:=166) (args:=[aw b,aa (bI s),aa (bI (!s)),aa i]) (H:=H) (fun x a=>x=aR (decide ((q s).length< (eC room 0 1000).toNat))/\a=p) func166 rfl (by simp[-aD,f166,d,u])
  exact⟨c2,_,e,v,m.trans w⟩
end
end
section
def af1(x:Int):aja.wrap (aja.wrap x)=aja.wrap x:=by simp only[IntKind.wrap,IntKind.signed,IntKind.bits];simp
def Al(s:bx)(a:Int):Nat:=(max (max a (ads.wrap (-a))) 0).toNat % (8*s.length)
def sL(s:bx)(a:Nat):Int:=jz .xor .u8 ((s.getD (a / 8) 0).toNat:Int) (aja.wrap (2 ^ (a % 8)))
def adz(s:bx)(a:Int):x6 s a=s.set (Al s a / 8) (alU (aja.wrap (sL s (Al s a))).toNat):=rfl
def qp(q:Bool->List bx)(s:Bool)(i a:Int):(Bool->List bx)×Bool:=
 match dV (q s) i with
 |none=>(q,false)
 |some t=>if t=[]then(q,false)else(up q s ((q s).set i.toNat (x6 t a)),true)
section
variable{H:List Ob}{c:Nat->aU}{g:Nat->aU}{b:Nat}{room:Int}{q:Bool->List bx}
def Za(E:fU g)(h:gw H c g b room q)(s:Bool)(i l:Int)(hs:∀t∈q s,t.length<=1000):∃F z,bB tz (ev tz) 167 [aw b,aa (bI s),aa (bI (!s)),aa i,aa l] H=some (aR (qp q s i l).2,z)/\gw z F g b room (qp q s i l).1/\aH (Gc g) c F H z:=by
 obtain⟨r,z,h1,F,rfl,h2⟩:=cG (C:=tz) (f:=167) (args:=[aw b,aa (bI s),aa (bI (!s)),aa i,aa l]) (H:=H) (fun an z=>∃F,an=aR (qp q s i l).2/\gw z F g b room (qp q s i l).1/\aH (Gc g) c F H z) func167 rfl (by
  have⟨c1,w,A,r1,U⟩:=J9 E h s i;unfold eI at A;unfold qp;cases B:dV (q s) i with
  |none=>rw[B]at A;simp only[ajj,ajg]at A|-;simp[-aD,-getElem?_pos,-aae,f167,A];exact⟨c1,r1,U⟩
  |some t=>
  rw[B]at A;simp only[aiU,ajf]at A|-;by_cases V:t=[]
  .subst V;simp[-aD,-getElem?_pos,-aae,f167,A];exact⟨c1,r1,U⟩
  rw[if_neg V];have aC:¬i<0:=fun hn=>by unfold dV at B;rw[if_pos hn]at B;cases B
  have hit:(q s)[i.toNat]?=some t:=by unfold dV at B;rw[if_neg aC]at B;exact B
  have W:=bf hit;have aV:t.length<=1000:=hs t (aiD hit);have aW:0<t.length:=by cases t with|nil=>exact absurd rfl V|cons _ _=>simp
  have⟨a,ha⟩:=ak (Al t l);have aX:a<8*t.length:=by rw[<-ha];exact akx _ (by omega)
  rw[adz,ha];have⟨o,ae⟩:=ak (t.set (a / 8) (alU (aja.wrap (sL t a)).toNat));rw[ae];simp only[f167,bX];rw[fK,fK,fK,fK,fK];refine bp [(0,aw b),(1,aa (bI s)),(2,aa (bI (!s))),(3,aa i),(14,bd w.length 0 0 t.length)] (fun G=>G=w++[ah 1 (o.map ej)]) ?_ ?_
  .have w1:ads.wrap (8*(t.length:Int))=8*(t.length:Int):=fC (by omega) (by omega);have X:(max l (max (ads.wrap (-l)) 0)).tmod (8*(t.length:Int))=(a:Int):=by rw[<-ha, <-Int.max_assoc];unfold Al;obtain⟨m,hm⟩:∃m:Nat,max (max l (ads.wrap (-l))) 0=m:=⟨(max (max l (ads.wrap (-l))) 0).toNat,by omega⟩;rw[hm];rfl
   have m1:t.length<=maxLen:=by unfold maxLen;omega
   have m2:¬8*(t.length:Int)=0:=by omega
   have L:ads.wrap ((a:Int) / 8)=((a / 8:Nat):Int):=by rw[fC (by omega) (by omega)];omega
   have M:(a:Int).tmod 8=((a % 8:Nat):Int):=rfl;have⟨d,hd⟩:=ak (a / 8);have⟨r,hr⟩:=ak (a % 8);have af:d<t.length:=by omega
   have aE:min r 8=r:=by omega
   rw[hd]at L;rw[hr]at M;have⟨y,N⟩:=ak t[d];have m3:(t.map ej)[d]?=some [.v (.int .u8 (y.toNat:Int))]:=by rw[adn,aae af,N];rfl
   have m4:(t.map ej).set d [.v (.int .u8 (sL t a))]=o.map ej:=by
    rw[<-ae,aix,hd];congr 1
    have:=JR (sL t a);unfold jq at this;rw[this];unfold sL jz;simp only;rw[af1]
   have m5:jz .xor .u8 (y.toNat:Int) (aja.wrap (2 ^ r))=sL t a:=by unfold sL;rw[hd,hr,ae9,aae af,N];rfl
   have aF:aja.bits=8:=rfl;simp[-aD,-getElem?_pos,-aae,A,V,w1,X,L,M,m1,m2,af,m3,aE,aF,m4,m5,nF,fj,tu,gj]
  rintro O G⟨a0,X,L,M,ao,_⟩hG;have ap:aH (fun _=>False) c1 (ext c1 w.length .none) w G:=by rw[hG];exact aH.of _ (by simp) fun m hm _=>aaK hm
  have gm:G[w.length]?=some (ah 1 (o.map ej)):=by rw[hG];simp
  have lG:G.length=w.length+1:=by rw[hG];simp
  have r2:gw G (ext c1 w.length .none) g b room q:=by have⟨mp,Y,hn⟩:=r1;exact⟨mp,Y,hn.aJ ap fun _ _ _ h=>h⟩
  have⟨p,c2,Z,e2,J,_⟩:=zj E r2 s;have⟨qa,P,e3,r4,⟨aY,hK⟩,r5⟩:=ad9 J.r;have aq:Z[w.length]?=some (ah 1 (o.map ej)):=by rw[J.st.aJ w.length (by omega) (by rw[jr (adt _)];exact Sx E)];exact gm
  have aG:q s≠ []:=fun e=>by rw[e]at W;simp at W
  obtain⟨h,v,hn,rfl,hh⟩:=r4.resolve_left fun e=>aG e.1;have h3:Z.length<=h:=r5 h (by simp[rf]);have aI:P[w.length]?=some (ah 1 (o.map ej)):=by rw[hK,aaK (bf aq)];exact aq
  have⟨c3,ar⟩:=ak (ext c2 Z.length .none);have ag:aH (fun _=>False) c2 c3 Z P:=by rw[hK, <-ar];exact aH.of _ (by simp) fun m hm _=>aaK hm
  have ch:c3 h= .none:=by rw[<-ar];exact jr h3
  have hj:i=(i.toNat:Int):=by omega
  have⟨ai,hk⟩:=ak i.toNat;rw[hk]at hj hit W|-;subst hj;have aK:((q s).map cZ)[ai]?=some [Sg t]:=by rw[adn,hit];rfl
  have⟨k,aj⟩:=ak ((q s).set ai o);have au:k.length=(q s).length:=by rw[<-aj,aiJ]
  have aL:((q s).map cZ).set ai [Sg o]=k.map cZ:=by rw[PL,aj]
  have⟨u,Q⟩:=ak (P.set h (.live v 1 (k.map cZ)));have av:aH (· = .none) c3 c3 P u:=by rw[<-Q];exact pX (b:=h) (h:=h) (by simp) ch ch fun m h1 _=>aay (ain h1)
  have⟨R,hR⟩:=ak ((eC room 0 1000).toNat);have rR:=J.r;rw[hR]at rR;have aM:fE u c3 (g (4+cj s)) p R (q s):=(rR.aJ ag (fun h=>h)).aJ av (E.2 _);have aN:(q s).length<=R/\R<=1000:=⟨rR.room.1,rR.room.2.1⟩;have ab:u[h]?=some (.live v 1 (k.map cZ)):=by rw[<-Q];exact ba hh
  rw[fK,fK];refine bp [(15,aw p),(16,bd h v 0 (q s).length)] (fun G=>G=u) ?_ ?_
  .have mb:=Cg o;have ax:o.length=t.length:=by rw[<-ae,aiJ]
   have mt:(o.map ej).take t.length=o.map ej:=ach (by simp[ax]);simp[-aD,-getElem?_pos,-aae,a0,X,L,M,ao,e2,e3,nF,fj,tu,aI,mb,mt,ax,hh,W,aK,aL,Q]
  clear a0 X L M ao;rintro O G ⟨ad,K,_⟩ aO;obtain rfl:u=G:=aO.symm;have⟨n,hn⟩:=ak ((q s).length);rw[hn]at K au aN;refine bp [(15,aw p),(16,bd h v 0 n)] (fun G=>fE G c3 (g (4+cj s)) p R []/\aH (· =g (4+cj s)) c3 c3 u G) ?_ ?_
  .simp[-aD,-getElem?_pos,-aae,K];refine Ends.bl (gO (fun j:Nat=>[(15,aw p),(16,bd h v 0 n),(65,aa n),(66,aa j)]) (fun j G=>j<=n/\fE G c3 (g (4+cj s)) p R ((q s).drop j)/\aH (· =g (4+cj s)) c3 c3 u G) [] (fun j=>n-j) _ [15,16,65,66] (fun _=>rfl) ?_ 0 _ ?_ ⟨by omega,aM,aH.refl _ _ _⟩ rfl);rotate_left
   .simp[ad,K]
   rintro j⟨O,G,ds⟩I⟨g2,x,D⟩S;simp only at I g2 x D S;subst S;simp at I;have⟨d15,d16,d65,d66⟩:=I;by_cases d:j<n
   .have ⟨aZ,G',e4,T,s6⟩:=YS x;have hw:ads.wrap ((j:Int)+1)=((j+1:Nat):Int):=cr (by omega);simp[-aD,-getElem?_pos,-aae,-ac7,d15,d16,d65,d66,d,e4,hw];exact⟨j+1,by omega,rfl,by omega,by rw[List.tail_drop]at T;exact T,D.trans s6⟩
   .simp[-aD,-getElem?_pos,-aae,d15,d16,d65,d66,d];exact⟨by rw[aji (by omega)]at x;exact x,D⟩
  clear ad K;rintro O G ⟨ad,K,_⟩ ⟨aP,ay⟩;have kk:=E.2 (4+cj s);have a1:G[h]?=some (.live v 1 (k.map cZ)):=by rw[ay.aJ h (bf ab) (by rw[ch];exact fun e=>kk e.symm)];exact ab
  have aQ:k.length=n:=au;refine ef (fun al=>al.bH=[]/\fE al.heap c3 (g (4+cj s)) p R k/\aH (· =g (4+cj s)) c3 c3 u al.heap) ?_ ?_
  .simp[-aD,-getElem?_pos,-aae,K];refine Ends.bl (gO (fun j:Nat=>[(15,aw p),(71,bd h v 0 n),(72,aa n),(73,aa j)]) (fun j G=>j<=n/\fE G c3 (g (4+cj s)) p R (k.take j)/\aH (· =g (4+cj s)) c3 c3 u G) [] (fun j=>n-j) _ [15,71,72,73] (fun _=>rfl) ?_ 0 _ ?_ ⟨by omega,aP,ay⟩ rfl);rotate_left
   .simp[ad]
   rintro j⟨O,G,ds⟩I⟨g2,x,D⟩S;simp only at I g2 x D S;subst S;simp at I;have⟨d15,d16,d65,d66⟩:=I;by_cases d:j<n
   .have az:j<k.length:=by omega
    have⟨y,N⟩:=ak k[j];have⟨G',e4,T,s6⟩:=O5 x y;have hw:ads.wrap ((j:Int)+1)=((j+1:Nat):Int):=cr (by omega);have gh:G[h]?=some (.live v 1 (k.map cZ)):=by rw[D.aJ h (bf ab) (by rw[ch];exact fun e=>kk e.symm)];exact ab
    have m1:(k.map cZ)[j]?=some [Sg y]:=by rw[adn,aae az,N];rfl
    have hp:ox R (k.take j) y=k.take (j+1):=by unfold ox;rw[if_pos (by rw[aiV];omega),aiB,aae az,N];rfl
    rw[hp]at T;simp[-aD,-getElem?_pos,-aae,-ac7,d15,d16,d65,d66,d,e4,hw,gh,aQ,m1];exact⟨j+1,by omega,rfl,by omega,T,D.trans s6⟩
   .simp[-aD,-getElem?_pos,-aae,d65,d66,d];exact⟨by rw[ach (by omega)]at x;exact x,D⟩
  rintro⟨O,G,ds⟩⟨rfl,aA,am⟩;simp only at aA am;have⟨mp,Y,aS,aT⟩:=J.n;have aU:qF u c3 g b mp room Y q:=(aS.aJ ag fun _ _ _ h=>h).aJ av fun i _ _=>E.2 i;have aB:=aU.bJ E am aT (by rw[hR];exact aA);simp;have sA:aH (Gc g) c c3 H P:=((U.trans (ap.mono fun _ h=>h.elim)).trans J.st).trans (ag.mono fun _ h=>h.elim);have sB:aH (Gc g) c c3 H u:=by refine sA.fresh (by rw[<-Q,aiJ];exact adt _) fun m hm=>?_;have l1:=U.len;have l2:=J.st.len;rw[<-Q,aay (by omega)]
  rw[<-aj]at aB;exact⟨c3,⟨mp,Y,aB⟩,sB.trans (am.mono fun an hx=>by rw[hx];exact JL g s)⟩)
 exact⟨F,z,h1,h2⟩
end
end
section
variable{H:List Ob}{q:ab}{l:List Fm}
def Ps{b c d:Nat}{e:Lk}{h:ab}(i seq:Int)(s:List UInt8)(j:H[b]?=some (ah 11 [cq e q]))(hc:H[c]?=some (ah 1 [[h]]))(k:H[d]?=some (ah 1 [[.ptr b 0 0 0]]))(n:kw H h l)(o:l.length<=1000000):
  ∃g a,aO tz ay 217 [aa i,.c (U8 seq),.c (Sg s),aw c,aw d] H=some (.aM [],a)/\a[c]?=some (ah 1 [[g]])/\kw a g (l++[mM e i seq s])/\(∀m,m≠c->m∉rf h->m<H.length->a[m]?=H[m]?)/\(∀m∈rf g,m∈rf h\/H.length<=m):=by
 have⟨g,a,p,r⟩:=Om i seq s j hc k n o
 exact⟨g,a,by rw[dz (f:=217) rfl];exact p,r⟩
def kw.E8{b:Nat}{o c:Ob}(h:kw H q l)(d:H[b]?=some o)(f:∀v,o≠ .live v 5 (l.map cd)):kw (H.set b c) q l:=by
 rcases h with h|⟨h,v,rfl,a⟩
 .exact .inl h
 .refine .inr ⟨h,v,rfl,?_⟩;rw[aay (fun e=>by subst e;rw[d]at a;exact f v (ajC a))];exact a
structure NZ(H:List Ob)(b:Nat)(e:Lk)(q:ab)(j:Nat)(G:List Ob):Prop where
 gb:G[b]?=some (ah 11 [cq {e with bO:=(j:Int)} q])
 gd:G[H.length]?=some (ah 1 [[.ptr b 0 0 0]])
 gf:∃fq,G[H.length+1]?=some (ah 1 [[fq]])/\kw G fq ((aiT (j-e.bO.toNat)).map fun i=>qO e (e.bO.toNat+i))/\∀m∈rf fq,H.length+2<=m
 gk:∀m,m≠b->m<H.length->G[m]?=H[m]?
def ZE{H:List Ob}{b:Nat}{e:Lk}{q:ab}(hb:H[b]?=some (ah 11 [cq e q]))(hq:jN H q e.queue)(z:Ez e)(hw:e.win<=1000000):
  ∃a g,bB tz (ev tz) 136 [aw b] H=some (.c a,g)/\g[b]?=some (ah 11 [cq (iH e).1 q])/\kw g a (iH e).2/\(∀m,m≠b->m<H.length->g[m]?=H[m]?)/\(∀m∈rf a,H.length<=m)/\H.length<=g.length:=by
 have av:=cG (C:=tz) (f:=136) (args:=[aw b]) (H:=H) (fun aj g=>∃a,aj= .c a/\g[b]?=some (ah 11 [cq (iH e).1 q])/\kw g a (iH e).2/\(∀m,m≠b->m<H.length->g[m]?=H[m]?)/\(∀m∈rf a,H.length<=m)/\H.length<=g.length) func136 rfl ?_
 .obtain ⟨aj,g,u,a,rfl,R⟩:=av
  exact⟨a,g,u,R⟩
 have lb:=bf hb
 simp[f136]
 refine Ends.loop (fun S=>S.env.get 4=some (.c (.bG 217 [.ptr (H.length+1) 0 0 0,.ptr H.length 0 0 0]))/\S.env.get 3=some (kV (H.length+1) 0 0 0)/\S.env.get 1=some (aw H.length)/\S.bH=[]/\∃j:Nat,(j:Int)=jL e/\NZ H b e q j S.heap) (gO (fun j:Nat=>[(4,.c (.bG 217 [.ptr (H.length+1) 0 0 0,.ptr H.length 0 0 0])),(3,kV (H.length+1) 0 0 0),(1,aw H.length)]) (fun j G=>e.bO.toNat<=j/\(j:Int)<=jL e/\NZ H b e q j G) [] (fun j=>(jL e).toNat-j) _ [4,3,1] (fun _=>rfl) ?_ e.bO.toNat _ (by simp) ?_ rfl) ?_
 .rintro j⟨en,G,ds⟩u⟨R,aa,h3⟩h5
  simp only at u R aa h3 h5
  subst h5
  simp at u
  have⟨A,B,D⟩:=u
  have al:=h3
  have⟨k,o,⟨a,I,T,p⟩,J⟩:=h3
  have af:=fun s=>Ps (e:={e with bO:=(j:Int)}) (d:=H.length) (c:=H.length+1) 1 (aiS.wrap (e.base+aiS.wrap j)) s k I o T (by simp;have:=z.q;unfold jL pg at aa;omega)
  simp only[cq]at k
  by_cases K:(j:Int)<min e.win e.queue.length
  .have U:j<e.queue.length:=by omega
   rcases hq with⟨u,rfl⟩|⟨h,v,L,rows,rfl,w,k3,k4⟩
   .rw[u]at U;simp at U
   have ag:h≠b:=fun e=>by subst e;rw[hb]at w;cases w
   have gq:G[h]?=some (.live v 1 rows):=by rw[J h ag (bf w)];exact w
   have⟨s,hs⟩:=ak e.queue[j]
   have ax:rows[L+j]?=some [Sg s]:=by
    have r:((rows.drop L).take e.queue.length)[j]?=some (cZ s):=by rw[k3,adn,aae U,hs];rfl
    rw[aj1 U,aiX]at r
    exact r
   have⟨V,G',M,g1,W,E,g4⟩:=af s
   have ad:G'[b]?=G[b]?:=E b (by omega) (fun hm=>by have:=p b hm;omega) (bf k)
   have ai:G'[H.length]?=G[H.length]?:=E H.length (by omega) (fun hm=>by have:=p _ hm;omega) (bf o)
   rw[k]at ad
   rw[o]at ai
   have ay:ads.wrap ((j:Int)+1)=((j+1:Nat):Int):=cr (by have:=z.q;omega)
   have aF:(j:Int)<e.win:=by omega
   have ae:(j:Int)<e.queue.length:=by omega
   have am:L+e.queue.length<=rows.length:=by omega
   have az:L+j<rows.length:=by omega
   simp[-aD,-getElem?_pos,-aae,A,B,D,k,o,ad,ai,gq,K,ae,ax,M,ay,az]
   refine⟨j+1,by unfold jL pg at aa|-;omega,by omega,by unfold jL pg;omega,⟨ba ad,?_,⟨V,?_,?_,?_⟩,?_⟩⟩
   .rw[aay (by omega)];exact ai
   .rw[aay (by omega)];exact g1
   .have X:(aiT (j+1-e.bO.toNat)).map (fun i=>qO e (e.bO.toNat+i))=(aiT (j-e.bO.toNat)).map (fun i=>qO e (e.bO.toNat+i))++[qO e j]:=by
     rw[show j+1-e.bO.toNat=(j-e.bO.toNat)+1 by omega,ajX,agA,List.map_singleton,show e.bO.toNat+(j-e.bO.toNat)=j by omega]
    have hn:qO e j=mM {e with bO:=(j:Int)} 1 (aiS.wrap (e.base+aiS.wrap j)) s:=by
     unfold qO
     rw[ae9,aae U,hs]
     rfl
    rw[X,hn]
    exact W.E8 ad (fun v e=>by cases e)
   .intro m hm
    rcases g4 m hm with h|h
    .exact p m h
    .have:=bf I;omega
   .intro m hm x
    rw[aay (ain hm),E m (by omega) (fun N=>by have:=p m N;omega) (by have:=bf o;omega)]
    exact J m hm x
  .have an:(j:Int)=jL e:=by have:=z.s0;unfold jL pg at aa|-;omega
   have ae:¬(j:Int)<min e.win e.queue.length:=K
   rcases hq with⟨u,rfl⟩|⟨h,v,L,rows,rfl,w,k3,k4⟩
   .rw[u]at K ae
    simp only[aiK,Int.natCast_zero]at K ae
    simp[A,B,D,k,o,K]
    exact⟨j,an,al⟩
   .have ag:h≠b:=fun e=>by subst e;rw[hb]at w;cases w
    have gq:G[h]?=some (.live v 1 rows):=by rw[J h ag (bf w)];exact w
    have am:L+e.queue.length<=rows.length:=by omega
    simp[A,B,D,k,o,K]
    exact⟨j,an,al⟩
 .have g0:(H++[Ob.live 0 1 [[.ptr b 0 0 0]],ah 1 [[ap]]])[b]?=H[b]?:=aaK lb
  have s0:=z.s0
  have M:({e with bO:=((e.bO.toNat:Nat):Int)}:Lk)=e:=by rw[show((e.bO.toNat:Nat):Int)=e.bO by omega]
  refine⟨adt _,by unfold jL;omega,⟨?_,?_,⟨ap,?_,.inl ⟨by simp,rfl⟩,by simp[rf]⟩,?_⟩⟩
  .rw[M]
   simpa[-getElem?_pos]using g0.trans hb
  .simp
  .simp
  .intro m hm x
   simp[-getElem?_pos,aaK x]
 .rintro⟨en,G,ds⟩⟨A,B,D,rfl,j,hj,k,o,⟨a,I,T,p⟩,J⟩
  simp only at A B D k o I T J
  have lG:H.length+1<G.length:=bf I
  have⟨l,X⟩:=ak ((aiT (j-e.bO.toNat)).map (fun i=>qO e (e.bO.toNat+i)))
  have ao:tf e=l:=by
   rw[<-X];unfold tf
   rw[show pg e-e.bO.toNat=j-e.bO.toNat by unfold jL at hj;have:=z.s0;omega]
  have aA:l.length<=1000000:=by rw[<-X];simp;have:=z.q;unfold jL pg at hj;have:=z.s1;omega
  rw[X]at T
  have⟨y,Y⟩:=ak ({e with bO:=(j:Int),gL:=max e.gL j}:Lk)
  refine bp [(4,.c (.bG 217 [.ptr (H.length+1) 0 0 0,.ptr H.length 0 0 0])),(3,kV (H.length+1) 0 0 0),(1,aw H.length)] (fun aB=>aB=G.set b (ah 11 [cq y q])) ?_ ?_
  .simp only[cq]at k
   simp[A,B,D,k,o, <-Y,cq]
  rintro aG t⟨b4,Z,b1,_⟩r
  clear A B D
  have kb:t[b]?=some (ah 11 [cq y q]):=by rw[r];exact ba k
  have F:t[H.length]?=some (ah 1 [[.ptr b 0 0 0]]):=by rw[r,aay (by omega)];exact o
  have O:t[H.length+1]?=some (ah 1 [[a]]):=by rw[r,aay (by omega)];exact I
  have kf:kw t a l:=by rw[r];exact T.E8 k (fun v e=>by cases e)
  have kk:∀m,m≠b->m<H.length->t[m]?=H[m]?:=fun m hm x=>by rw[r,aay (ain hm)];exact J m hm x
  have kl:t.length=G.length:=by rw[r,aiJ]
  clear r
  have bm:y.link=e.link:=by rw[<-Y]
  have bj:y.next=e.next:=by rw[<-Y]
  have f3:y.due=e.due:=by rw[<-Y]
  refine bp [(3,kV (H.length+1) 0 0 0),(1,aw H.length)] (fun G=>G[b]?=some (ah 11 [cq y q])/\G[H.length]?=some (ah 1 [[.ptr b 0 0 0]])/\(∃a,G[H.length+1]?=some (ah 1 [[a]])/\kw G a (iH e).2/\∀m∈rf a,H.length<=m)/\∀m,m≠b->m<H.length->G[m]?=H[m]?) ?_ ?_
  .have af:=Ps 2 0 [] kb O F kf aA
   have P:=kb
   simp only[cq]at P
   have aq:∃n:Nat,n=l.length/\((a=ap/\n=0)\/∃h v,a= .sl h v 0 n/\t[h]?=some (.live v 5 (l.map cd))):=by
    rcases kf with⟨rfl,rfl⟩|⟨h,v,rfl,R⟩
    .exact ⟨0,rfl,.inl ⟨rfl,rfl⟩⟩
    .exact ⟨_,rfl,.inr ⟨h,v,rfl,R⟩⟩
   by_cases c1:l=[]/\e.due=true
   .obtain ⟨rfl,c2⟩:=c1
    have f4:(iH e).2=[mM e 2 0 []]:=by unfold iH;simp only[ao,c2];rfl
    rw[f4]
    rw[c2]at f3
    have⟨V,g,M,g1,W,E,g4⟩:=af
    have g6:g[b]?=t[b]?:=E b (by omega) (fun hm=>by have:=p b hm;omega) (by omega)
    have g7:g[H.length]?=t[H.length]?:=E H.length (by omega) (fun hm=>by have:=p _ hm;omega) (by omega)
    have g8:∀m,m≠b->m<H.length->g[m]?=H[m]?:=fun m hm x=>by rw[E m (by omega) (fun N=>by have:=p m N;omega) (by omega)];exact kk m hm x
    have g9:∀m∈rf V,H.length<=m:=fun m hm=>by
     rcases g4 m hm with h|h
     .have:=p m h;omega
     .omega
    have f5:mM y 2 0 []=mM e 2 0 []:=by unfold mM;rw[bm,bj]
    rw[kb]at g6
    rw[F]at g7
    rw[aiy,f5]at W
    obtain⟨n,hn,Q|⟨h,v,Q,N⟩⟩:=aq
    .obtain ⟨rfl,rfl⟩:=Q
     simp[-aD,b4,Z,b1,P,F,O,f3,M]
     exact⟨g6,g7,⟨V,g1,W,g9⟩,g8⟩
    .subst Q
     simp only[aiK]at hn
     subst hn
     simp[-aD,b4,Z,b1,P,F,O,f3,M]
     exact⟨g6,g7,⟨V,g1,W,g9⟩,g8⟩
   .have f4:(iH e).2=l:=by unfold iH;simp only[ao];rw[if_neg c1]
    rw[f4]
    have fin:kw t a l/\∀m∈rf a,H.length<=m:=⟨kf,fun m hm=>by have:=p m hm;omega⟩
    have⟨n,hn,Q⟩:=aq
    by_cases c2:n=0
    .have c3:l=[]:=by cases l with|nil=>rfl|cons aH l=>simp at hn;omega
     have c4:y.due=false:=by
      rw[f3]
      cases hd:e.due with
      |false=>rfl
      |true=>exact absurd ⟨c3,hd⟩ c1
     subst c2
     rcases Q with⟨rfl,_⟩|⟨h,v,rfl,N⟩
     .simp[Z,b1,P,F,O,c4]
      exact⟨by simp[cq,c4],fin,kk⟩
     .simp[Z,b1,P,F,O,c4]
      exact⟨by simp[cq,c4],fin,kk⟩
    .rcases Q with⟨_,h⟩|⟨h,v,rfl,N⟩
     .exact absurd h c2
     .have am:n<=l.length:=by omega
      simp[Z,b1,P,F,O,c2]
      exact⟨rfl,fin,kk⟩
  rintro aI G3⟨d3,d1,_⟩⟨mb,md,⟨aC,mc,mf,mr⟩,mk⟩
  have ar:=mb
  simp only[cq]at ar
  have aE:b≠H.length+1:=by omega
  have ms:∀au,(G3.set b au)[H.length+1]?=some (ah 1 [[aC]]):=fun au=>by rw[aay aE];exact mc
  simp[d3,d1,ar,md,ms]
  refine⟨(ba mb).trans ?_,mf.E8 mb (fun v e=>by cases e),fun m hm x=>by rw[aay (ain hm)];exact mk m hm x,mr,by have:=bf md;omega⟩
  simp[cq, <-Y,iH,hj]
end
section
def uu(H:List Ob)(c:Nat->aU)(k:aU)(q:ab)(n:Nat):Prop:=(n=0/\q=ap)\/∃h v rows,q= .sl h v 0 n/\H[h]?=some (.live v 1 rows)/\rows.length=n/\c h=k
def uu.aJ{H H':List Ob}{c a:Nat->aU}{K:aU->Prop}{k:aU}{q:ab}{n:Nat}(h:uu H c k q n)(d:aH K c a H H')(e:¬K k):uu H' a k q n:=by
 rcases h with h|⟨h,v,rows,f,g,i,b⟩
 .exact .inl h
 .have ⟨j,l⟩:=d.get g (by rw[b];exact e);exact .inr ⟨h,v,rows,f,j,i,l.trans b⟩
structure lL(H:List Ob)(c:Nat->aU)(g:Nat->aU)(p:Nat)(e:Bool->Nat)(gt:Bool->ab)(nt:Nat)(room:Int)(P:Pp):Prop where
 hp:H[p]?=some (ah 5 [[.ptr (e false) 0 0 0,.ptr (e true) 0 0 0,gt false,gt true,.ptr nt 0 0 0]])
 cp:c p=g 0
 l:∀s,oP H c (g (1+cj s)) (e s) (P.e s)
 t:∀s,uu H c (g (6+cj s)) (gt s) (P.dT s)
 n:gw H c g nt room P.q
 r:P.room=(eC room 0 1000).toNat
def eB(H:List Ob)(c:Nat->aU)(g:Nat->aU)(p:Nat)(P:Pp):Prop:= ∃e gt nt room,lL H c g p e gt nt room P
structure dO(P:Pp):Prop where
 l:∀s,ig (P.e s)
 q:∀s,(P.q s).length<=P.room
 b:∀s, ∀t∈P.q s,t.length<=1000
 r:P.room<=1000
def Gp(g:Nat->aU):aU->Prop:=fun x=>∃i,i<=7/\x=g i
def rL{g:Nat->aU}{x:aU}(h:Gc g x):Gp g x:=by have⟨i,b,c,a⟩:=h;exact⟨i,by omega,a⟩
def gw.aJ{H H':List Ob}{c a:Nat->aU}{g:Nat->aU}{K:aU->Prop}{b:Nat}{room:Int}{q:Bool->List bx}(h:gw H c g b room q)(d:aH K c a H H')(e:∀i,3<=i->i<=5-> ¬K (g i)):gw H' a g b room q:=by have⟨mp,f,h⟩:=h;exact⟨mp,f,h.aJ d e⟩
section
variable{H:List Ob}{c:Nat->aU}{g:Nat->aU}{p nt:Nat}{room:Int}{e:Bool->Nat}{gt:Bool->ab}{P:Pp}
def lL.aJ{H':List Ob}{d:Nat->aU}{K:aU->Prop}(h:lL H c g p e gt nt room P)(a:aH K c d H H')(b:∀i,i<=7-> ¬K (g i)):lL H' d g p e gt nt room P:=by have⟨f,j⟩:=a.get h.hp (by rw[h.cp];exact b 0 (by omega));exact⟨f,j.trans h.cp,fun s=>(h.l s).aJ a (b _ (by have:=nh s;omega)),fun s=>(h.t s).aJ a (b _ (by have:=nh s;omega)),h.n.aJ a fun i _ _=>b i (by omega),h.r⟩
def lL.zT{d:List Ob}{f:Nat->aU}{s:Bool}{x:Lk}(k:fU g)(h:lL H c g p e gt nt room P)(a:aH (· =g (1+cj s)) c f H d)(m:oP d f (g (1+cj s)) (e s) x):lL d f g p e gt nt room (P.jO s x):=by
 have v:=nh s;have b:∀ {i:Nat},i≠1+cj s-> ¬g i=g (1+cj s):=fun o e=>o (k.1 _ _ e);have⟨q,u⟩:=a.get h.hp (by rw[h.cp];exact b (by omega));refine⟨q,u.trans h.cp,fun t=>?_,fun t=>(h.t t).aJ a (b (by omega)),h.n.aJ a fun i _ _=>b (by omega),h.r⟩;by_cases j:t=s
 .subst j;simp only[Pp.jO,pV];exact m
 .simp only[Pp.jO,ql _ _ j];exact(h.l t).aJ a (b fun e=>j (by cases s<;>cases t<;>simp_all[cj]))
def lL.sk{a:List Ob}{b:Nat->aU}{q:Bool->List bx}(d:fU g)(h:lL H c g p e gt nt room P)(f:aH (Gc g) c b H a)(hn:gw a b g nt room q):lL a b g p e gt nt room ⟨P.e,q,P.room,P.dT⟩:=by have⟨i,j⟩:=f.get h.hp (by rw[h.cp];exact Jx d (by omega));exact⟨i,j.trans h.cp,fun s=>(h.l s).aJ f (Jx d (by have:=nh s;omega)),fun s=>(h.t s).aJ f (Jx d (by omega)),hn,h.r⟩
def rV(H:List Ob)(p:Nat)(s:Bool):aO tz ay 134 [aw p,aa (bI s)] H=some (aR true,H):=by
 obtain⟨r,a,b,rfl,rfl⟩:=cG (C:=tz) (f:=134) (args:=[aw p,aa (bI s)]) (H:=H) (fun x a=>x=aR true/\a=H) func134 rfl (by cases s<;>simp[f134,bI])
 rw[dz (f:=134) rfl];exact b
def Wr(m:fU g)(h:eB H c g p P)(n:dO P)(s:Bool)(b:bx):∃d a,aO tz ay 81 [aw p,aa (bI s),.c (Sg b)] H=some (aa (P.send s b).2,a)/\eB a d g p (P.send s b).1/\aH (Gp g) c d H a:=by
 have⟨e,gt,nt,room,h⟩:=h;have⟨a,d,o,q,j⟩:=Xd (h.l s) (n.l s) b;have k:=rV H p s;have hp:=h.hp;obtain⟨r,i,t,rfl,rfl⟩:=cG (C:=tz) (f:=81) (args:=[aw p,aa (bI s),.c (Sg b)]) (H:=H) (fun x i=>x=aa (P.send s b).2/\i=a) func81 rfl (by cases s<;>simp only[bI,aeb,if_false,if_true]at k|- <;>simp[-aD,f81,k,hp,o,Pp.send])
 exact⟨d,i,by rw[dz (f:=81) rfl];exact t,⟨e,gt,nt,room,h.zT m j q⟩,j.mono fun x u=>⟨_,by have:=nh s;omega,u⟩⟩
def YY(w:fU g)(h:eB H c g p P)(y:dO P)(s:Bool):∃n a,aO tz ay 99 [aw p,aa (bI s)] H=some (.aM [],a)/\eB a n g p (P.tick s)/\aH (Gp g) c n H a:=by
 have⟨e,gt,nt,room,h⟩:=h;have⟨q,d,z,i,A⟩:=h.l s;have o:=y.l s;obtain⟨a,B,rfl⟩:=agq d o.a0 (by have:=o.a1;omega);have t:=dK (by simp) B;have j:aH (· =g (1+cj s)) c c H (H.set (e s) (ah 11 [cq (oO (P.e s)) q])):=pX (b:=e s) (h:=e s) (by simp) i i fun m hm _=>aay (ain hm)
 have u:oP (H.set (e s) (ah 11 [cq (oO (P.e s)) q])) c (g (1+cj s)) (e s) (oO (P.e s)):=by
  refine⟨q,ba d,?_,i,A⟩
  have D:(oO (P.e s)).queue=(P.e s).queue:=by
   unfold oO;split
   .rfl
   .split<;>rfl
  rw[D];exact z.aJ d fun m hm=>aay (ain hm)
 have v:=rV H p s;have hp:=h.hp;have⟨a,E⟩:=ak (H.set (e s) (ah 11 [cq (oO (P.e s)) q]));rw[E]at t j u;obtain⟨r,k,F,rfl,rfl⟩:=cG (C:=tz) (f:=99) (args:=[aw p,aa (bI s)]) (H:=H) (fun x k=>x= .aM []/\k=a) func99 rfl (by cases s<;>simp only[bI,aeb,if_false,if_true]at v|- <;>simp[-aD,f99,v,hp,t])
 exact⟨c,k,by rw[dz (f:=99) rfl];exact F,⟨e,gt,nt,room,h.zT w j u⟩,j.mono fun x G=>⟨_,by have:=nh s;omega,G⟩⟩
end
end
section
def acf(H:List Ob)(f:Fm)(a:f.body.length<=100000):aO tz ay 137 [.agg (cd f)] H=some (.aM [.c (Sg (jT f).1),aa (jT f).2],H):=by have h:=adl f a;simp only[cd]at h|-;have b:da (Sg f.body)=Sg f.body:=rfl;have d:∀k x,da (.v (.int k x))= .v (.int k x):=fun _ _=>rfl;simp[b,d,h]
def BJ(R:Nat):∀(a:List Fm) (l:List bx) (n:Nat),l.length<=R->(gJ R a l n).1.length<=R/\l.length<=(gJ R a l n).1.length
 |[],l,n,h=>⟨h,adt _⟩
 |f::a,l,n,h=>by
  unfold gJ
  split
  .rename_i hc
   have⟨b,c⟩:=BJ R a (l++[(jT f).1]) (n+1) (by simp;omega)
   simp at c
   exact⟨b,by omega⟩
  .exact BJ R a l n h
def My(R:Nat)(f:Fm):∀(b:List Fm) (l:List bx) (n:Nat),gJ R (b++[f]) l n=if(jT f).2=0/\(gJ R b l n).1.length<R then((gJ R b l n).1++[(jT f).1],(gJ R b l n).2+1)else gJ R b l n
 |[],l,n=>rfl
 |a::b,l,n=>by
  simp only[ai1,gJ]
  split<;>exact My R f b _ _
def yl(R:Nat):∀(a:List Fm) (l:List bx) (n:Nat),(gJ R a l n).2<=n+a.length
 |[],l,n=>adt _
 |f::a,l,n=>by
  unfold gJ
  split
  .have:=yl R a (l++[(jT f).1]) (n+1)
   simp;omega
  .have:=yl R a l n
   simp;omega
def vP(s:Bool):ads.wrap (1-bI s)=bI (!s):=by cases s<;>rfl
def No{a:Type}(f:Bool->a)(s:Bool)(x y:a):up (up f s x) s y=up f s y:=by funext t;unfold up;split<;>rfl
def Np{e:Lk}(c:ig e):(iH e).2.length<=8/\∀f∈(iH e).2,f.body.length<=64:=by
 have h:=c.w1;have j:=c.s0;have d:(tf e).length<=8:=by unfold tf pg;simp;omega
 unfold iH;simp only;split
 .exact ⟨by simp,fun f a=>by simp at a;subst a;simp[mM]⟩
 .refine ⟨d,fun f a=>?_⟩;unfold tf at a;obtain⟨i,k,rfl⟩:=aiE.1 a;simp only[qO,mM,ae9];cases g:e.queue[e.bO.toNat+i]? with
  |none=>simp
  |some s=>exact c.b s (aiD g)
def kw.aJ{H H':List Ob}{q:ab}{l:List Fm}(h:kw H q l)(a:∀m∈rf q,H'[m]?=H[m]?):kw H' q l:=by
 rcases h with h|⟨h,v,rfl,b⟩
 .exact .inl h
 .exact .inr ⟨h,v,rfl,by rw[a h (by simp[rf])];exact b⟩
section
variable{H:List Ob}{c:Nat->aU}{g:Nat->aU}{p:Nat}{P:Pp}
def VX(I:fU g)(h:eB H c g p P)(T:dO P)(s:Bool):∃b A,aO tz ay 83 [aw p,aa (bI s)] H=some (aa (P.go s).2,A)/\eB A b g p (P.go s).1/\aH (Gp g) c b H A:=by
 have⟨e,U,V,room,h⟩:=h;have⟨ae,J,B,k3,k4⟩:=h.l s;have⟨t,o,e1,l1,l2,l3,l4,l5⟩:=ZE J B (T.l s).ok (by have:=(T.l s).w1;omega);have W:aO tz ay 136 [kV (e s) 0 0 0] H=some (.c t,o):=by rw[dz (f:=136) rfl];exact e1
 have X:aH (· =g (1+cj s)) c (ext c H.length .none) H o:=aH.of _ l5 fun m hm hk=>l3 m (fun Y=>hk (by rw[Y];exact k3)) hm
 have kb:e s∉rf ae:=fun hm=>by
  rcases B with⟨_,rfl⟩|⟨h,v,lo,rows,rfl,D,_⟩
  .simp[rf]at hm
  .simp[rf]at hm;rw[hm,D]at J;cases J
 have r1:oP o (ext c H.length .none) (g (1+cj s)) (e s) (iH (P.e s)).1:=⟨ae,l1,B.same fun m hm=>l3 m (fun Y=>kb (by rw[<-Y];exact hm)) (B.lt m hm),by rw[ji (bf J)];exact k3,fun m hm=>by rw[ji (B.lt m hm)];exact k4 m hm⟩;have r2:=h.zT I X r1;have⟨f8,f64⟩:=Np (T.l s);have⟨c1,af⟩:=ak (ext c H.length .none);have cf:∀m∈rf t,c1 m= .none:=fun m hm=>by rw[<-af];exact jr (l4 m hm)
 rw[af]at X r2;have⟨a,ag⟩:=ak ((iH (P.e s)).2);rw[ag]at l2 f8 f64
 obtain⟨ax,A,h1,b,rfl,D,h3⟩:=cG (C:=tz) (f:=83) (args:=[aw p,aa (bI s)]) (H:=H) (fun x H2=>∃b,x=aa (P.go s).2/\eB H2 b g p (P.go s).1/\aH (Gp g) c b H H2) func83 rfl (by
  have ao:=rV H p s;have hp:=h.hp;simp only[f83,bX];rw[fK,fK];refine bp [(0,aw p),(1,aa (bI s)),(5,aa 0)] (fun G=>G=H) ?_ ?_
  .simp[-aD,ao]
  rintro Z G⟨a0,a1,a5,_⟩hG;obtain rfl:H=G:=hG.symm;have⟨n,hn⟩:=ak a.length
  have ai:(t=ap/\n=0)\/∃h v,t= .sl h v 0 n/\o[h]?=some (.live v 5 (a.map cd)):=by
   rcases l2 with⟨rfl,rfl⟩|⟨h,v,rfl,D⟩
   .exact .inl ⟨rfl,hn.symm⟩
   .exact .inr ⟨h,v,by rw[hn],D⟩
  have⟨R,hR⟩:=ak P.room;have hr:=h.r;rw[hR]at hr;refine bp [(5,aa ((gJ R a (P.q s) 0).2:Nat))] (fun G=>∃b,lL G b g p e U V room ⟨(P.jO s (iH (P.e s)).1).e,up P.q s (gJ R a (P.q s) 0).1,R,P.dT⟩/\aH (Gc g) c1 b o G) ?_ ?_
  .refine ef (fun ab=>Has ab.env [(0,aw p),(1,aa (bI s)),(20,.c t),(21,aa n),(22,aa (0:Nat)),(5,aa (0:Nat))]/\ab.heap=o/\ab.bH=[]) ?_ ?_
   .rcases ai with⟨rfl,rfl⟩|⟨h,v,rfl,hh⟩
    .cases s<;>simp[-aD,a0,a1,a5,hp,W,bI]
    .have az:n<=a.length:=by omega
     cases s<;>simp[-aD,a0,a1,a5,hp,W,bI]
   rintro⟨Z,G,ds⟩⟨q,K,k⟩;simp only at q K k;subst k;obtain rfl:o=G:=K.symm;rw[eD];refine Ends.bl (gO (fun j:Nat=>[(0,aw p),(1,aa (bI s)),(20,.c t),(21,aa n),(22,aa j),(5,aa ((gJ R (a.take j) (P.q s) 0).2:Nat))]) (fun j G=>j<=n/\∃b,lL G b g p e U V room ⟨(P.jO s (iH (P.e s)).1).e,up P.q s (gJ R (a.take j) (P.q s) 0).1,R,P.dT⟩/\aH (Gc g) c1 b o G) [] (fun j=>n-j) _ [0,1,20,21,22,5] (fun _=>rfl) ?_ 0 _ ?_ ⟨by omega,c1,?_,aH.refl _ _ _⟩ rfl);rotate_left
   .exact q
   .have e0:up P.q s (gJ R (a.take 0) (P.q s) 0).1=P.q:=BT _ _;rw[e0];have:=r2;simp only[Pp.jO,hR]at this|-;exact this
   clear q e1 W;rintro j ⟨Z,G,ds⟩ q ⟨K,b,k,u⟩ g5;simp only at q K k u g5;subst g5;simp at q;have⟨b0,b1,ad,L,M,r⟩:=q;by_cases d:j<n
   .have w:j<a.length:=by omega
    have⟨f,hf⟩:=ak a[j];have aq:f∈a:=by rw[<-hf];exact air w
    have ar:a.take (j+1)=a.take j++[f]:=by rw[aiB,aae w,hf];rfl
    have i:=My R f (a.take j) (P.q s) 0;rw[<-ar]at i;have⟨l,hl⟩:=ak ((gJ R (a.take j) (P.q s) 0).1);have⟨m,hm⟩:=ak ((gJ R (a.take j) (P.q s) 0).2);rw[hm]at r;rw[hl]at k i;rw[hm]at i;obtain⟨h,v,rfl,hh⟩:=ai.resolve_left fun e=>by omega
    have gh:G[h]?=some (.live v 5 (a.map cd)):=by rw[u.aJ h (bf hh) (by rw[cf h (by simp[rf])];exact Sx I)];exact hh
    have N:(a.map cd)[j]?=some (cd f):=by rw[adn,aae w,hf];rfl
    have⟨c2,au⟩:=ak (ext b G.length .none);have⟨G2,y⟩:=ak (G++[ah 5 [cd f]]);have aj:aH (fun _=>False) b c2 G G2:=by rw[<-au, <-y];exact aH.of _ (by simp) fun m hm _=>aaK hm
    have O:=k.aJ aj fun _ _ h=>h;have E:=fun H=>acf H f (by have:=f64 f aq;omega);have⟨c3,G3,F,n3,s3⟩:=c138 I O.n s (jT f).1;simp only[pV, <-hr]at F n3;have z:=O.sk I s3 n3;have al:=O.hp;have hw:ads.wrap ((j:Int)+1)=((j+1:Nat):Int):=cr (by omega);have Q:G2[G.length]?=some (ah 5 [cd f]):=by rw[<-y];simp
    have aA:m<=8:=by have:=yl R (a.take j) (P.q s) 0;rw[hm,aiV]at this;omega
    have av:ads.wrap ((m:Int)+1)=((m+1:Nat):Int):=cr (by omega);have am:=vP s;have sG:aH (Gc g) c1 c2 o G2:=u.trans (aj.mono fun _ h=>h.elim);simp only[cd]at N Q y E;by_cases S:(jT f).2=0
    .rw[S]at E;by_cases c5:l.length<R
     .rw[if_pos ⟨S,c5⟩]at i;rw[decide_eq_true c5]at F;have hq:ox R l (jT f).1=l++[(jT f).1]:=if_pos c5;rw[hq]at z;simp only[No]at z;simp[-aD,-getElem?_pos,-aae,-ac7,b0,b1,ad,L,M,r,d,gh,w,N,y,Q,E,F,al,am,hw,av];exact⟨j+1,by omega,⟨rfl,by rw[i]⟩,by omega,c3,by rw[i];exact z,sG.trans s3⟩
     .rw[if_neg (fun e=>c5 e.2)]at i;rw[decide_eq_false c5]at F;have hq:ox R l (jT f).1=l:=if_neg c5;rw[hq]at z;simp only[No]at z;simp[-aD,-getElem?_pos,-aae,-ac7,b0,b1,ad,L,M,r,d,gh,w,N,y,Q,E,F,al,am,hw];exact⟨j+1,by omega,⟨rfl,by rw[i,hm]⟩,by omega,c3,by rw[i,hl];exact z,sG.trans s3⟩
    .rw[if_neg (fun e=>S e.1)]at i;simp[-aD,-getElem?_pos,-aae,-ac7,b0,b1,ad,L,M,r,d,gh,w,N,y,Q,E,S,hw];exact⟨j+1,by omega,⟨rfl,by rw[i,hm]⟩,by omega,c2,by rw[i,hl];exact O,sG⟩
   .simp[-aD,L,M,r,d];rw[ach (by omega)]at k;exact⟨by rw[ach (by omega)],b,k,u⟩
  rintro Z G⟨r,_⟩⟨b,k,u⟩;simp[r];have an:(P.go s).2=(gJ R a (P.q s) 0).2/\(P.go s).1=⟨(P.jO s (iH (P.e s)).1).e,up P.q s (gJ R a (P.q s) 0).1,R,P.dT⟩:=by unfold Pp.go;simp only[ag,hR,Pp.uF,Pp.jO];exact⟨trivial,trivial⟩
  rw[an.1,an.2];exact⟨rfl,b,⟨e,U,V,room,k⟩,(X.mono fun x hx=>⟨_,by have:=nh s;omega,hx⟩).trans (u.mono fun x hx=>rL hx)⟩)
 exact⟨b,A,by rw[dz (f:=83) rfl];exact h1,D,h3⟩
end
end
section
section
variable{H:List Ob}{c:Nat->aU}{g:Nat->aU}{p:Nat}{P:Pp}
def xO(s:Bool):(!(!s))=s:=by cases s<;>rfl
def Zp(d:fU g)(h:eB H c g p P)(s:Bool)(k:Int):∃i a,aO tz ay 96 [aw p,aa (bI s),aa k] H=some (eI (P.look s k),a)/\eB a i g p P/\aH (Gp g) c i H a:=by
 have⟨e,m,o,room,h⟩:=h;have⟨c1,t,j,u,l⟩:=J9 d h.n (!s) k;have v:=h.sk d l u;rw[xO]at j;have w:=rV H p s;have hp:=h.hp;have y:=vP s;unfold Pp.look eI at*;obtain⟨r,b,z,rfl,rfl⟩:=cG (C:=tz) (f:=96) (args:=[aw p,aa (bI s),aa k]) (H:=H) (fun x b=>x= .aM [.c (Sg ((dV (P.q !s) k).getD [])),aR (dV (P.q !s) k).isSome]/\b=t) func96 rfl (by simp[-aD,f96,w,hp,j,y])
 exact⟨c1,b,dK (by simp) z,⟨e,m,o,room,v⟩,l.mono fun x A=>rL A⟩
def Rw{s:Bool}{k:Int}{b:bx}(a:P.look s k=some b):uA (P.q (!s)) k=(P.q (!s)).eraseIdx k.toNat:=by
 unfold Pp.look dV at a;split at a
 .cases a
 .have:=bf a;unfold uA;rw[if_pos (by omega)]
def QH{s:Bool}{k:Int}(a:P.look s k=none):uA (P.q (!s)) k=P.q (!s):=by
 unfold Pp.look dV at a;unfold uA;split at a
 .rw[if_neg (by omega)]
 .have:=List.getElem?_eq_none_iff.1 a;rw[if_neg (by omega)]
def Yh(i:fU g)(h:eB H c g p P)(s:Bool)(k:Int):∃j a,aO tz ay 101 [aw p,aa (bI s),aa k] H=some (aR (P.jk s k).2,a)/\eB a j g p (P.jk s k).1/\aH (Gp g) c j H a:=by
 have⟨e,u,v,room,h⟩:=h;have⟨c1,w,l,y,m⟩:=PV i h.n (!s) k;have z:=h.sk i m y;rw[xO]at l;have A:=rV H p s;have hp:=h.hp;have B:=vP s
 have o:(P.jk s k).2=(P.look s k).isSome/\(P.jk s k).1=⟨P.e,up P.q (!s) (uA (P.q (!s)) k),P.room,P.dT⟩:=by
  unfold Pp.jk;cases t:P.look s k with
  |none=>rw[QH t,BT];exact⟨rfl,rfl⟩
  |some b=>rw[Rw t];exact⟨rfl,rfl⟩
 rw[o.1,o.2];unfold Pp.look eI at*;obtain⟨r,d,D,rfl,rfl⟩:=cG (C:=tz) (f:=101) (args:=[aw p,aa (bI s),aa k]) (H:=H) (fun x d=>x=aR (dV (P.q !s) k).isSome/\d=w) func101 rfl (by simp[-aD,f101,A,hp,l,B])
 exact⟨c1,d,dK (by simp) D,⟨e,u,v,room,z⟩,m.mono fun x E=>rL E⟩
def Wi(j:fU g)(h:eB H c g p P)(s:Bool)(k:Int):∃l a,aO tz ay 102 [aw p,aa (bI s),aa k] H=some (aR (P.double s k).2,a)/\eB a l g p (P.double s k).1/\aH (Gp g) c l H a:=by
 have⟨e,v,w,room,h⟩:=h;have⟨c1,z,m,A,o⟩:=Ts j h.n (!s) k;have B:=h.sk j o A;rw[xO]at m;have t:=dK (by simp) m;have D:=rV H p s;have hp:=h.hp;have E:=vP s
 have u:(P.double s k).2=(uy (eC room 0 1000).toNat P.q (!s) k).2/\(P.double s k).1=⟨P.e,(uy (eC room 0 1000).toNat P.q (!s) k).1,P.room,P.dT⟩:=by
  unfold Pp.double uy Pp.look;rw[h.r];cases dV (P.q !s) k with
  |none=>exact⟨rfl,by rw[<-h.r]⟩
  |some b=>exact⟨rfl,by simp only[Pp.uF,h.r]⟩
 rw[u.1,u.2];have⟨x,d⟩:=ak ((uy (eC room 0 1000).toNat P.q (!s) k).2);rw[d]at t|-;obtain⟨r,i,F,rfl,rfl⟩:=cG (C:=tz) (f:=102) (args:=[aw p,aa (bI s),aa k]) (H:=H) (fun y i=>y=aR x/\i=z) func102 rfl (by simp[-aD,f102,D,hp,t,E])
 exact⟨c1,i,dK (by simp) F,⟨e,v,w,room,B⟩,o.mono fun x d=>rL d⟩
def XY(l:fU g)(h:eB H c g p P)(w:dO P)(s:Bool)(k a:Int):∃m d,aO tz ay 103 [aw p,aa (bI s),aa k,aa a] H=some (aR (P.flip s k a).2,d)/\eB d m g p (P.flip s k a).1/\aH (Gp g) c m H d:=by
 have⟨e,z,A,room,h⟩:=h;have⟨c1,B,o,D,t⟩:=Za l h.n (!s) k a (w.b _);have E:=h.sk l t D;rw[xO]at o;have u:=dK (by simp) o;have F:=rV H p s;have hp:=h.hp;have G:=vP s
 have v:(P.flip s k a).2=(qp P.q (!s) k a).2/\(P.flip s k a).1=⟨P.e,(qp P.q (!s) k a).1,P.room,P.dT⟩:=by
  unfold Pp.flip qp Pp.look;cases dV (P.q !s) k with
  |none=>exact⟨rfl,rfl⟩
  |some b=>simp only;split<;>exact⟨rfl,rfl⟩
 rw[v.1,v.2];have⟨x,i⟩:=ak ((qp P.q (!s) k a).2);rw[i]at u|-;obtain⟨r,j,I,rfl,rfl⟩:=cG (C:=tz) (f:=103) (args:=[aw p,aa (bI s),aa k,aa a]) (H:=H) (fun y j=>y=aR x/\j=B) func103 rfl (by simp[-aD,f103,F,hp,u,G])
 exact⟨c1,j,dK (by simp) I,⟨e,z,A,room,E⟩,t.mono fun x i=>rL i⟩
end
end
end Go.Nx
