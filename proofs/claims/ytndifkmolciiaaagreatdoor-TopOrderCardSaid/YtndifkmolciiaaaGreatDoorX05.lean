/- A part of the proof. -/
import Derived.Test.YtndifkmolciiaaaGreatDoorX04
set_option linter.all false
set_option maxRecDepth 8000
set_option maxHeartbeats 1000000
open Go.IntKind renaming i64->adW
open Go.Proofs.Tryz renaming prog->aaG
open Int renaming natCast_add->ad0
open List renaming append_assoc->aiu,drop->ajs,getElem?_set_self->ahr,length_append->agc,map_append->aid,map_set->aiC,replicate->ahv,take->ajr
namespace Go.Nx
open Go Go.Proofs Tryz
section
variable{H:List Ob}{c:Nat->aU}{n:Nat}{g:Gr}
def jd(s:List Int)(e:Ev):List Int:=if e.kind=1 then s.set e.node.toNat e.id else s
def J6(s:List Int)(e:Ev):(jd s e).length=s.length:=by unfold jd;split<;>simp
def xZ:List Int->List Ev->Prop
 |_,[]=>True
 |s,e::r=>(0<=e.node/\e.node<s.length)/\(e.kind=1->s.getD e.node.toNat 0<e.id)/\xZ (jd s e) r
structure vt(p:Nat)(s:List Int)(H:List Ob)(c:Nat->aU):Prop where
 o:∃h v,H[p]?=some (ah 1 [[.sl h v 0 s.length]])/\H[h]?=some (.live v 1 (s.map aC))/\c h= .cl 10/\h≠p
 c:c p= .cl 10
def vt.aK{p:Nat}{s:List Int}{H':List Ob}{a:Nat->aU}(h:vt p s H c)(b:aH G9 c a H H'):vt p s H' a:=by have⟨⟨h,v,f,g,d,i⟩,e⟩:=h;have⟨j,k⟩:=b.get f (by rw[e];simp[Lw]);have⟨l,m⟩:=b.get g (by rw[d];simp[Lw]);exact⟨⟨h,v,j,l,m.trans d,i⟩,k.trans e⟩
def oO{p b:Nat}{s:List Int}{le:ab}{ev:List Ev}(x:LA)(e:Int)(z:Bool)(hJ:vt p s H c)(U:lY le ev)(ho:xZ s ev)(am:ev.length<=9000):
  ∃w,aO tz (bB tz (Go.Nx.ev tz)) 10 [au b,.agg (cM x),.c le,aa e,aR z,au p] H=some (aR true,w)/\vt p (ev.foldl jd s) w c/\aH (· = .cl 10) c c H w:=by
 have⟨⟨h,v,V,M,W,Y⟩,h5⟩:=hJ
 have⟨n,hn⟩:=ak s.length
 rw[hn]at V
 have⟨m,hm⟩:=ak ev.length
 have hx:∀X,[I X]=[I X]:=fun _=>rfl
 have Z:∀X:Ob,(H.set h X)[p]?=some (ah 1 [[.sl h v 0 n]]):=fun X=>by rw[aat Y];exact V
 obtain⟨r,w,e1,rfl,N⟩:=cG (C:=tz) (f:=10) (args:=[au b,.agg (cM x),.c le,aa e,aR z,au p]) (H:=H) (fun r w=>r=aR true/\w=H.set h (.live v 1 ((ev.foldl jd s).map aC))) func10 rfl (by
  simp only[f10,cr]
  refine bp [(2,.c le),(5,au p)] (fun G=>G=H) ?_ ?_
  .simp[cM]
  rintro en G⟨a2,a5,_⟩a
  obtain rfl:H=G:=a.symm
  rw[iM]
  refine Ends.sq ?_
  refine bp [(2,.c le),(5,au p),(12,aa (0:Nat))] (fun G=>G=H) ?_ ?_
  .simp[a2,a5]
  rintro en G N a
  obtain rfl:H=G:=a.symm
  rw[eC]
  refine iv (fun g:Nat×List Int=>[(2,.c le),(5,au p),(12,aa g.1)]) (fun g G=>g.1<=m/\g.2.length=n/\xZ g.2 (ev.drop g.1)/\(ev.drop g.1).foldl jd g.2=ev.foldl jd s/\G=H.set h (.live v 1 (g.2.map aC))) (fun g=>m-g.1) ?_ (0,s) N ⟨by omega,hn,ho,rfl,(lJ M).symm⟩ fun _=>rfl
  rintro⟨j,t⟩en G⟨o,B,D,_⟩⟨g2,F,O,k,a⟩
  simp only at o B D g2 F O k a
  by_cases d:j<m
  case neg=>
   have hj:ev.drop j=[]:=List.drop_eq_nil_iff.2 (by omega)
   rw[hj,List.foldl_nil]at k
   rw[k]at a
   rcases U with⟨rfl,rfl⟩|rfl
   .have:j=0:=by simp at hm;omega
    subst this
    simp[o,B,D]
    exact a
   .have ⟨R,q⟩:=ak (ev.map gw)
    have J:R.length=m:=by rw[<-q];simpa using hm
    rw[q]at o
    simp[o,B,D,J,d]
    exact a
  have P:j<ev.length:=by omega
  have⟨y,hy⟩:=ak ev[j]
  have aj:ev.drop j=y::ev.drop (j+1):=by rw[<-hy];exact agO P
  rw[aj]at O k
  have⟨⟨o1,o2⟩,o3,K⟩:=O
  rw[ai2]at k
  rcases U with⟨rfl,rfl⟩|rfl
  .simp at P
  have u:(ev.map gw)[j]?=some (gw y):=by rw[adf,abM P,hy];rfl
  simp only[gw]at u
  have⟨an,hq⟩:=ak (if y.kind=0 then aG y.need else ap)
  rw[hq]at u
  have⟨R,q⟩:=ak (ev.map gw)
  have J:R.length=m:=by rw[<-q];simpa using hm
  rw[q]at o u
  have ad:j<R.length:=by omega
  obtain⟨i,Q⟩:∃i:Nat,y.node=i:=⟨y.node.toNat,by omega⟩
  rw[Q]at u o1 o2
  have ae:i<n:=by omega
  have gp:G[p]?=some (ah 1 [[.sl h v 0 n]]):=by rw[a];exact Z _
  have S:G[h]?=some (.live v 1 (t.map aC)):=by rw[a];exact ba M
  have⟨A,L⟩:=ak (t.map aC)
  have af:A.length=n:=by rw[<-L];simpa using F
  have⟨ag,hu⟩:=ak (t.getD i 0)
  have ai:A[i]?=some [I ag]:=by
   rw[<-L,adf,abM (by omega), <-hu,ae5,abM (by omega)];rfl
  rw[L]at S
  have ao:n<=A.length:=by omega
  have aq:i<A.length:=by omega
  have hw:adW.wrap ((j:Int)+1)=((j+1:Nat):Int):=cv (by omega)
  have c0:¬(i:Int)<0:=by omega
  have c1:¬(i:Int)>=n:=by omega
  have tk:A.take n=A:=acu (by omega)
  by_cases E:y.kind=1
  .have o5:=o3 E
   rw[Q,ais,hu]at o5
   have c2:¬y.id<=ag:=by omega
   rw[E]at u
   simp[-getElem?_pos,-ad0,o,B,D,J,d,u,ad,gp,S,ai,c0,c1,c2,ae,af,tk,hw]
   have T:jd t y=t.set i y.id:=by unfold jd;rw[if_pos E,Q];rfl
   rw[T]at K k
   refine⟨j+1,by omega,⟨q.symm,rfl⟩,by omega,t.set i y.id,by simpa using F,K,k,?_⟩
   rw[a,ajN,aiC,L]
   rfl
  .simp[-getElem?_pos,-ad0,o,B,D,J,d,u,ad,gp,S,ai,c0,c1,ae,af,tk,hw,E]
   have T:jd t y=t:=by unfold jd;rw[if_neg E]
   rw[T]at K k
   exact⟨j+1,by omega,⟨q.symm,rfl⟩,by omega,t,F,K,k,a⟩)
 have al:∀(l:List Ev) (s:List Int),(l.foldl jd s).length=s.length:=fun l=>by
  induction l with
  |nil=>intro s;rfl
  |cons ar r ih=>intro s;rw[ai2,ih,J6]
 subst N
 refine⟨_,dK (by simp) e1,⟨⟨h,v,?_,ba M,W,Y⟩,h5⟩,⟨by simp,fun _ _=>rfl,fun av hk hc=>?_⟩⟩
 .rw[al,hn];exact Z _
 .rw[aat (fun e=>hc (by rw[<-e];exact W))]
def QR{i:Nat}:∀(ev:List Ev) (s:List Int) (E:List Ev),(∀e∈ev,e.node=(i:Int))->i<s.length->s.getD i 0=mC E 0->kg CG (E++ev)->xZ s ev/\(ev.foldl jd s).getD i 0=mC (E++ev) 0/\∀j,j≠i->(ev.foldl jd s).getD j 0=s.getD j 0
 |[],s,E,_,_,h,_=>⟨trivial,by rw[aeU];exact h,fun _ _=>rfl⟩
 |e::r,s,E,hn,b,h,hA=>by
  have a:=hn e (ajz ..)
  have hc:=hA E e r rfl
  have m:(jd s e).length=s.length:=J6 s e
  have c:(jd s e).getD i 0=mC (E++[e]) 0:=by
   rw[nv]
   unfold jd
   simp only[mC]
   by_cases k:e.kind=1
   .rw[if_pos k,if_pos k,a,ais,ae5,ahr b];rfl
   .rw[if_neg k,if_neg k];exact h
  have⟨d,f,g⟩:=QR r (jd s e) (E++[e]) (fun e a=>hn e (aiO _ a)) (by omega) c (by rw[aiu];exact hA)
  refine⟨⟨by rw[a];omega,fun k=>?_,d⟩,?_,fun j l=>?_⟩
  .rw[a,ais,h];exact hc k
  .rw[ai2,f,aiu];rfl
  .rw[ai2,g j l]
   unfold jd
   split
   .rw[a,ais,ae5,aat (by omega), <-ae5]
   .rfl
structure Ay(n:Nat)(K:Cl)(s:List Int):Prop where
 e:∃E,wH GI K E/\∀i,i<n->s.getD i 0=mC (rI (i:Int) E) 0
 kl:K.nodes.length=n
 sl:s.length=n
def afI{K d:Cl}{s:List Int}{ev:List Ev}(h:Ay n K s)(k:Bk K ev d):xZ s ev/\Ay n d (ev.foldl jd s):=by
 have⟨⟨E,q,f⟩,m,p⟩:=h;have c:=q.step (fun id E C b D h t=>abe h t) k;rcases k with⟨g,rfl⟩|⟨i,F,G,g,u,H⟩
 .rw[aeU]at c;exact⟨trivial,⟨E,c,f⟩,by rw[g,m],p⟩
 .have hn:=Sc u;have v:d.nodes.length=n:=by rw[g,aiP,m]
  have hA:=(c.b i (by omega)).o;rw[yf,Bs hn]at hA;have⟨w,x,y⟩:=QR ev s (rI (i:Int) E) hn (by omega) (f i (by omega)) hA
  have z:∀(l:List Ev) (s:List Int),(l.foldl jd s).length=s.length:=fun l=>by
   induction l with
   |nil=>intro s;rfl
   |cons a r A=>intro s;rw[ai2,A,J6]
  refine⟨w,⟨E++ev,c,fun j B=>?_⟩,v,by rw[z,p]⟩;by_cases e:j=i
  .rw[e,x,yf,Bs hn]
  .rw[y j e,f j B,yf,Mx (j:=(j:Int)) hn (by omega),aeU]
def WU(c:List Int)(r:mZ)(hn:g.n.toNat=n):Ay n (kM g c r) (ahv n 0):=by
 have b:(kM g c r).nodes.length=n:=by simp[kM,hn]
 refine⟨⟨[],⟨fun i d=>?_,fun e f=>by simp at f⟩,fun i d=>?_⟩,b,by simp⟩
 .have:((kM g c r).nodes[i]).book=⟨0,[]⟩:=by simp[kM,iD,kC]
  rw[this];exact⟨.nil _,.nil,fun s a=>by simp at a,fun s a=>by simp at a,aka _⟩
 .rw[ae5,List.getElem?_replicate];split<;>rfl
def Yc(a:fa g=true)(c:List Int)(r:mZ):dL 0 (kM g c r):=by
 have f:=vX a;have j:=((nD g).1 a).2.1;have b:(kM g c r).nodes.length=g.n.toNat:=by simp[kM]
 have d:∀i (h:i< (kM g c r).nodes.length),(kM g c r).nodes[i]=iD g c i:=fun i h=>by simp[kM]
 refine⟨⟨fun x y=>?_,by rw[b];omega,fun x y=>ad3 _,fun x y=>akg _⟩,⟨fun i e=>?_,fun i e=>?_⟩,fun x y=>ad3 _,fun x y s=>ad3 _⟩
 .exact ⟨fun s=>Uu _ _ _ _ _,fun s=>akg _,fun s t h=>by simp[kM,wO]at h,by show(eB r.room 0 1000).toNat<=1000;unfold eB;omega⟩
 .rw[d];exact ZZ (HK f (by omega) c (by rw[<-b];exact e)).1
 .rw[d];rfl
def afJ{l:List LA}(h:rD g l=true):fa g=true/\g.n<=5/\l.length<=100/\∀x∈l,x.d.need.length<=20:=by unfold rD at h;simp only[abR,decide_eq_true_eq]at h;have⟨a,⟨b,c⟩,e⟩:=h;refine⟨b,c,e,fun x f=>?_⟩;rw[acu (by omega),ahI]at a;simpa using a x f
def TF(hA:aS tz ay 0 7 []=some (aR true,[]))(g:Gr)(r:mZ)(l:List LA):∃d,bB tz (ev tz) 3 [.agg (bQ g),.agg (fU r),bh (l.map cM)] []=some (aR true,d):=by
 obtain⟨r',d,h1,rfl⟩:=cG (C:=tz) (f:=3) (args:=[.agg (bQ g),.agg (fU r),bh (l.map cM)]) (H:=[]) (fun r d=>r=aR true) func3 rfl (by
  have o:=p8 g l;have q:=jU g.bw;have y:bA (l.map cM)=true:=jg _ (fun x=>Lg x) l;simp only[f3,cr];have A:=@c9 (List Int) g r l 10;have P:bQ g=[I g.n,.aj (g.bw.map du)]:=rfl;have⟨E,ab⟩:=ak (g.bw.map du);have⟨R,hR⟩:=ak (l.map cM);rw[ab]at q P;rw[hR]at y o A|-;rw[P]at o A|-;refine bp [(3,.c (.aJ [[I g.n,.aj E]] 0 0)),(4,.c (.aJ [fU r] 0 0)),(2,bh R)] (fun G=>G=[]) ?_ ?_
  .simp[fU]
  rintro t G⟨e,a,i,_⟩rfl;cases B:rD g l with
  |false=>rw[B]at o;simp[e,a,i,hA,o,q,y]
  |true=>
  rw[B]at o;have⟨u,D,hl,ad⟩:=afJ B;have⟨n,hn⟩:=ak g.n.toNat;have F:g.n=(n:Int):=by have:=((nD g).1 u).1;omega
  have an:n<=5:=by omega
  refine bp [(3,.c (.aJ [[I g.n,.aj E]] 0 0)),(4,.c (.aJ [fU r] 0 0)),(2,bh R)] (fun G=>G=[]) ?_ ?_
  .simp[e,a,i,hA,o,q,y]
  rintro t G⟨e,a,i,_⟩rfl;refine bp [(3,.c (.aJ [[I g.n,.aj E]] 0 0)),(4,.c (.aJ [fU r] 0 0)),(2,bh R),(7,au 1)] (fun G=>G=[ah 1 [],ah 1 [[.sl 0 0 0 0]]]) ?_ ?_
  .simp[e,a,i]
  rintro t G⟨e,a,i,L,_⟩rfl;refine bp [(3,.c (.aJ [[I g.n,.aj E]] 0 0)),(4,.c (.aJ [fU r] 0 0)),(2,bh R),(7,au 1)] (fun G=>∃v,G[1]?=some (ah 1 [[.sl 0 v 0 n]])/\G[0]?=some (.live v 1 ((ahv n (0:Int)).map aC))) ?_ ?_
  .refine eh (fun S=>Has S.env [(3,.c (.aJ [[I g.n,.aj E]] 0 0)),(4,.c (.aJ [fU r] 0 0)),(2,bh R),(7,au 1),(8,aa (0:Nat))]/\S.bG=[]/\S.heap=[ah 1 [],ah 1 [[.sl 0 0 0 0]]]) ?_ ?_
   .simp[e,a,i,L]
   rintro⟨t,G,ds⟩⟨p,rfl,rfl⟩;simp only at p;rw[eC];refine Ends.bl (gM (fun j:Nat=>[(3,.c (.aJ [[I g.n,.aj E]] 0 0)),(4,.c (.aJ [fU r] 0 0)),(2,bh R),(7,au 1),(8,aa j)]) (fun j G=>j<=n/\∃v,G[1]?=some (ah 1 [[.sl 0 v 0 j]])/\G[0]?=some (.live v 1 ((ahv j (0:Int)).map aC))) [] (fun j=>n-j) _ [3,4,2,7,8] (fun _=>rfl) ?_ 0 _ p ⟨by omega,0,rfl,rfl⟩ rfl);rintro j ⟨t,G,ds⟩ p ⟨g2,v,k,m⟩ D;simp only at p g2 k m D;subst D;simp at p;have⟨M,Q,T,U,V⟩:=p;rw[F]at M;by_cases ae:j<n
   .have w:adW.wrap ((j:Int)+1)=((j+1:Nat):Int):=cv (by omega);have l0:=bf m;have l1:=bf k;have W:∀K,(G++K)[0]?=some (.live v 1 ((ahv j (0:Int)).map aC)):=fun K=>by rw[abE l0];exact m
    have Y:∀K X,((G++K).set 0 X)[1]?=some (ah 1 [[.sl 0 v 0 j]]):=fun K X=>by rw[aat (by omega),abE l1];exact k
    have⟨Z,N⟩:=ak ((ahv j (0:Int)).map aC);have af:Z.length=j:=by rw[<-N];simp
    rw[N]at W m;have m1:j+1<=maxLen:=by unfold maxLen;omega
    have m2:(j+1)*8<=140737488355328:=by omega
    have tk:Z.take j=Z:=acu (by omega);simp[-getElem?_pos,-ad0,-List.map_replicate,M,Q,T,U,V,ae,F,k,W,Y,m1,m2,tk,af,w];refine⟨j+1,by omega,rfl,by omega,v+1,ba (Y _ _),?_⟩;refine⟨rfl,?_⟩;rw[List.replicate_succ',aid,N];rfl
   .have hj:j=n:=by omega
    subst hj;simp[-List.map_replicate,M,Q,T,U,V,F];exact⟨v,k,m⟩
  rintro t G⟨e,a,i,L,_⟩⟨v,k,m⟩;have⟨c,ao,hc,O,ag,ai⟩:=S9 (vX u)
  have⟨ap,z,s',c',d,e9,j9,⟨aq,K9,l9,_,i9⟩,s9⟩:=A (caps:=[.ptr 1 0 0 0]) (K0:=kM g c r) (J:=vt 1) (Inv:=fun _ K _ s=>Ay n K s) (adK r u hc O ag ai) (Yc u c r) (by simp[kM]) (by omega) (by have:=((nD g).1 u).2.2.1;exact this) hl ad
   (fun s H d c c' h hs=>h.aK hs)
   (fun _ K l s x K' ev al le b z H c _ hI w _ _ hA q O hJ=>by
    have hb:=Ul w (by omega) hA
    have⟨o1,o2⟩:=afI hI hb
    have⟨d,bj,bm,f3⟩:=oO (b:=b) x al z hJ q o1 hb.len
    exact⟨_,c,d,bj,O.aK f3 fun am h=>by subst h;simp[Lw],f3.mono fun am h=> .inr h,bm,o2⟩)
   (ahv n 0) (WU c r hn) G (fun _=> .cl 10) ⟨⟨0,v,by simpa using k,m,rfl,by omega⟩,rfl⟩
  have⟨ar,w⟩:=ak (fU r);simp only[fU]at a e9;simp[-aD,e,a,i,L,e9])
 exact⟨d,h1⟩
end
structure rO(p:Nat)(E:List Ev)(H:List Ob)(c:Nat->aU):Prop where
 o:∃h v,H[p]?=some (ah 1 [[.sl h v 0 E.length]])/\H[h]?=some (.live v 5 (E.map gw))/\c h= .cl 10/\h≠p
 c:c p= .cl 10
def rO.aK{p:Nat}{s:List Ev}{H H':List Ob}{c a:Nat->aU}(h:rO p s H c)(b:aH G9 c a H H'):rO p s H' a:=by have⟨⟨h,v,f,g,d,i⟩,e⟩:=h;have⟨j,k⟩:=b.get f (by rw[e];simp[Lw]);have⟨l,m⟩:=b.get g (by rw[d];simp[Lw]);exact⟨⟨h,v,j,l,m.trans d,i⟩,k.trans e⟩
def yE{H:List Ob}{c:Nat->aU}{p b:Nat}{E:List Ev}{le:ab}{ev:List Ev}(x:LA)(e:Int)(z:Bool)(J:rO p E H c)(K:lY le ev)(A:E.length+ev.length<=1000000000):
  ∃d,aO tz (bB tz (Go.Nx.ev tz)) 32 [au b,.agg (cM x),.c le,aa e,aR z,au p] H=some (aR true,d)/\rO p (E++ev) d c/\aH (· = .cl 10) c c H d:=by
 have⟨⟨h,v,j,l,B,o⟩,D⟩:=J
 have⟨n,hn⟩:=ak E.length
 have⟨m,hm⟩:=ak ev.length
 rw[hn]at j A
 rw[hm]at A
 have⟨g,s⟩:=ak (E.map gw)
 have F:g.length=n:=by rw[<-s];simpa using hn
 rw[s]at l
 have tk:g.take n=g:=acu (by omega)
 have L:(E++ev).map gw=g++ev.map gw:=by rw[aid,s]
 have fin:∀i:Nat,rO p (E++ev) ((H.set h (.live i 5 (g++ev.map gw))).set p (ah 1 [[.sl h i 0 (n+m)]])) c/\aH (· = .cl 10) c c H ((H.set h (.live i 5 (g++ev.map gw))).set p (ah 1 [[.sl h i 0 (n+m)]])):=fun i=>by
  have M:(H.set h (.live i 5 (g++ev.map gw)))[p]?=some (ah 1 [[.sl h v 0 n]]):=by rw[aat o];exact j
  refine⟨⟨⟨h,i,?_,?_,B,o⟩,D⟩,⟨by simp,fun _ _=>rfl,fun k W hc=>?_⟩⟩
  .rw[ba M,agc,hn,hm]
  .rw[aat (ait o),ba l,L]
  .rw[aat (fun e=>hc (by rw[<-e];exact D)),aat (fun e=>hc (by rw[<-e];exact B))]
 have G:∀X,(H.set h X)[p]?=some (ah 1 [[.sl h v 0 n]]):=fun X=>by rw[aat o];exact j
 rcases K with⟨rfl,rfl⟩|rfl
 .have N:m=0:=by rw[<-hm];rfl
  have O:n<=maxLen:=by unfold maxLen;omega
  have P:n*56<=140737488355328:=by omega
  subst N
  obtain⟨r,d,t,rfl,u⟩:=cG (C:=tz) (f:=32) (args:=[au b,.agg (cM x),.c ap,aa e,aR z,au p]) (H:=H) (fun r d=>r=aR true/\rO p (E++[]) d c/\aH (· = .cl 10) c c H d) func32 rfl (by
   simp[f32,cM,j,l,F,tk,O,P,G]
   simpa using fin (v+1))
  exact⟨d,dK (by simp) t,u⟩
 .have ⟨q,w⟩:=ak (ev.map gw)
  have Q:q.length=m:=by rw[<-w];simpa using hm
  have R:∀r∈q,r.length=5:=fun r I=>by
   rw[<-w]at I
   obtain⟨y,_,rfl⟩:=aiK.1 I
   rfl
  rw[w]at fin|-
  have S:(∀r:List ab,r∈q->r.length=5)=True:=eq_true R
  have T:(n+m<=n/\0<m)=False:=eq_false fun⟨a,b⟩=>by omega
  have U:n+m<=maxLen:=by unfold maxLen;omega
  have V:(n+m)*56<=140737488355328:=by omega
  obtain⟨r,d,t,rfl,u⟩:=cG (C:=tz) (f:=32) (args:=[au b,.agg (cM x),bh q,aa e,aR z,au p]) (H:=H) (fun r d=>r=aR true/\rO p (E++ev) d c/\aH (· = .cl 10) c c H d) func32 rfl (by
   simp[f32,cM,j,l,F,tk,Q,U,V,G,S,T]
   exact fin (v+1))
  exact⟨d,dK (by simp) t,u⟩
structure ahL(n j:Nat)(K:Cl)(E:List Ev):Prop where
 b:wH AI K E
 l:K.nodes.length=n
 t:E.length<=9000*j

def kA:Reads aaG 3 (fun n:Int=>[.v (.int .i64 n)]) (fun n=>(Lit.int .i64 n).wf=true):=RQ underlying3
def aaa:Reads aaG 34 (fun n:Int=>[.v (.int .i64 n)]) (fun n=>(Lit.int .i64 n).wf=true):=RQ underlying34
def kz:aaG.cellsOf 3=1:=by kernel_rfl
def W5:aaG.cellsOf 34=1:=by kernel_rfl
def ahb:Reads aaG 112 du (fun _=>True):=by refine xb underlying112 (by kernel_rfl:aaG.cellsOf 112=2) (fun H b W c d m cs f e=>?_);have⟨l,g⟩:=e 0 _ rfl;have⟨h,n,a⟩:=kA H b W c d m _ _ g;change aY _ _ (ajr (aaG.cellsOf 3) (ajs 0 cs))at a;rw[kz]at a;have⟨p,i⟩:=e 1 _ rfl;have⟨j,q,c1⟩:=kA H b W c d m _ _ i;change aY _ _ (ajr (aaG.cellsOf 3) (ajs 1 cs))at c1;rw[kz]at c1;refine⟨⟨h,j⟩,trivial,?_⟩;have:=(jw (o:=0) (k:=1) a (jw (o:=1) (k:=1) c1 (xz f)));exact this
def VW:Reads aaG 22 (fun l:List Edge=>[.aj (l.map du)]) (fun l=>(l.length<=maxLen/\∀y∈l,True)):=I4 underlying22 ahb (by kernel_rfl:aaG.cellsOf 112=2) (by decide) (fun _=>rfl)
def Tu:aaG.cellsOf 22=1:=by kernel_rfl
def YC:Reads aaG 24 bQ (fun _=>True):=by refine xb underlying24 (by kernel_rfl:aaG.cellsOf 24=2) (fun H b W c d m cs f e=>?_);have⟨l,g⟩:=e 0 _ rfl;have⟨h,n,a⟩:=kA H b W c d m _ _ g;change aY _ _ (ajr (aaG.cellsOf 3) (ajs 0 cs))at a;rw[kz]at a;have⟨p,i⟩:=e 1 _ rfl;have⟨j,q,c1⟩:=VW H b W c d m _ _ i;change aY _ _ (ajr (aaG.cellsOf 22) (ajs 1 cs))at c1;rw[Tu]at c1;refine⟨⟨h,j⟩,trivial,?_⟩;have:=(jw (o:=0) (k:=1) a (jw (o:=1) (k:=1) c1 (xz f)));exact this
def agn:Reads aaG 26 fU (fun _=>True):=by refine xb underlying26 (by kernel_rfl:aaG.cellsOf 26=5) (fun H a W b c m cs f d=>?_);have⟨t,g⟩:=d 0 _ rfl;have⟨h,u,e⟩:=kA H a W b c m _ _ g;change aY _ _ (ajr (aaG.cellsOf 3) (ajs 0 cs))at e;rw[kz]at e;have⟨v,i⟩:=d 1 _ rfl;have⟨j,w,c1⟩:=kA H a W b c m _ _ i;change aY _ _ (ajr (aaG.cellsOf 3) (ajs 1 cs))at c1;rw[kz]at c1;have⟨x,l⟩:=d 2 _ rfl;have⟨n,y,c2⟩:=kA H a W b c m _ _ l;change aY _ _ (ajr (aaG.cellsOf 3) (ajs 2 cs))at c2;rw[kz]at c2;have⟨z,p⟩:=d 3 _ rfl;have⟨q,A,c3⟩:=kA H a W b c m _ _ p;change aY _ _ (ajr (aaG.cellsOf 3) (ajs 3 cs))at c3;rw[kz]at c3;have⟨B,r⟩:=d 4 _ rfl;have⟨s,C,c4⟩:=kA H a W b c m _ _ r;change aY _ _ (ajr (aaG.cellsOf 3) (ajs 4 cs))at c4;rw[kz]at c4;refine⟨⟨h,j,n,q,s⟩,trivial,?_⟩;have:=(jw (o:=0) (k:=1) e (jw (o:=1) (k:=1) c1 (jw (o:=2) (k:=1) c2 (jw (o:=3) (k:=1) c3 (jw (o:=4) (k:=1) c4 (xz f))))));exact this
def Xd:Reads aaG 30 (fun l:List Int=>[aG l]) (fun l=>(l.length<=maxLen/\∀y∈l,(Lit.int .i64 y).wf=true)):=I4 underlying30 kA kz (by decide) (fun _=>rfl)
def WR:aaG.cellsOf 30=1:=by kernel_rfl
def XL(x:Act):List ab:=[I x.kind,I x.id,I x.peer,I x.hold,aG x.need]
def ahk:Reads aaG 36 XL (fun _=>True):=by refine xb underlying36 (by kernel_rfl:aaG.cellsOf 36=5) (fun H a W b c m cs f d=>?_);have⟨t,g⟩:=d 0 _ rfl;have⟨h,u,e⟩:=aaa H a W b c m _ _ g;change aY _ _ (ajr (aaG.cellsOf 34) (ajs 0 cs))at e;rw[W5]at e;have⟨v,i⟩:=d 1 _ rfl;have⟨j,w,c1⟩:=kA H a W b c m _ _ i;change aY _ _ (ajr (aaG.cellsOf 3) (ajs 1 cs))at c1;rw[kz]at c1;have⟨x,l⟩:=d 2 _ rfl;have⟨n,y,c2⟩:=kA H a W b c m _ _ l;change aY _ _ (ajr (aaG.cellsOf 3) (ajs 2 cs))at c2;rw[kz]at c2;have⟨z,p⟩:=d 3 _ rfl;have⟨q,A,c3⟩:=kA H a W b c m _ _ p;change aY _ _ (ajr (aaG.cellsOf 3) (ajs 3 cs))at c3;rw[kz]at c3;have⟨B,r⟩:=d 4 _ rfl;have⟨s,C,c4⟩:=Xd H a W b c m _ _ r;change aY _ _ (ajr (aaG.cellsOf 30) (ajs 4 cs))at c4;rw[WR]at c4;refine⟨⟨h,j,n,q,s⟩,trivial,?_⟩;have:=(jw (o:=0) (k:=1) e (jw (o:=1) (k:=1) c1 (jw (o:=2) (k:=1) c2 (jw (o:=3) (k:=1) c3 (jw (o:=4) (k:=1) c4 (xz f))))));exact this
def adl:aaG.cellsOf 36=5:=by kernel_rfl
def af0:Reads aaG 38 cM (fun _=>True):=by refine xb underlying38 (by kernel_rfl:aaG.cellsOf 38=10) (fun H a W b c m cs f d=>?_);have⟨v,g⟩:=d 0 _ rfl;have⟨h,w,e⟩:=kA H a W b c m _ _ g;change aY _ _ (ajr (aaG.cellsOf 3) (ajs 0 cs))at e;rw[kz]at e;have⟨x,i⟩:=d 1 _ rfl;have⟨j,y,c1⟩:=kA H a W b c m _ _ i;change aY _ _ (ajr (aaG.cellsOf 3) (ajs 1 cs))at c1;rw[kz]at c1;have⟨z,l⟩:=d 2 _ rfl;have⟨n,A,c2⟩:=kA H a W b c m _ _ l;change aY _ _ (ajr (aaG.cellsOf 3) (ajs 2 cs))at c2;rw[kz]at c2;have⟨B,p⟩:=d 3 _ rfl;have⟨q,C,c3⟩:=kA H a W b c m _ _ p;change aY _ _ (ajr (aaG.cellsOf 3) (ajs 3 cs))at c3;rw[kz]at c3;have⟨D,r⟩:=d 4 _ rfl;have⟨s,E,c4⟩:=kA H a W b c m _ _ r;change aY _ _ (ajr (aaG.cellsOf 3) (ajs 4 cs))at c4;rw[kz]at c4;have⟨F,t⟩:=d 5 _ rfl;have⟨u,G,c5⟩:=ahk H a W b c m _ _ t;change aY _ _ (ajr (aaG.cellsOf 36) (ajs 5 cs))at c5;rw[adl]at c5;refine⟨⟨h,j,n,q,s,u⟩,trivial,?_⟩;have:=(jw (o:=0) (k:=1) e (jw (o:=1) (k:=1) c1 (jw (o:=2) (k:=1) c2 (jw (o:=3) (k:=1) c3 (jw (o:=4) (k:=1) c4 (jw (o:=5) (k:=5) c5 (xz f)))))));exact this
def TA:Reads aaG 27 (fun l:List LA=>[.aj (l.map cM)]) (fun l=>(l.length<=maxLen/\∀y∈l,True)):=I4 underlying27 af0 (by kernel_rfl:aaG.cellsOf 38=10) (by decide) (fun _=>rfl)
end Go.Nx
