/- A part of the proof. -/
import Derived.Test.YtndifkmolciiaaaGreatDoorX04
set_option linter.all false
set_option maxRecDepth 8000
set_option maxHeartbeats 1000000
open Go.IntKind renaming i64->ads
open Go.Proofs.Tryz renaming prog->aaD
open Int renaming natCast_add->ac7
open List renaming append_assoc->aio,drop->ajp,getElem?_eq_getElem->aae,getElem?_set_self->afN,length_append->afu,map_append->agA,map_map->ai6,map_set->aix,range->aiT,replicate->ago,take->ajo
namespace Go.Nx
open Go Go.Proofs Tryz
section
variable{q:ab}{n k:Nat}{g:Gr}{c:List Int}
def oR.own{H:List Ob}{z:Nat}{rows:List (List ab)}(h:oR H z q n rows)(c:bA rows=true):(n=0/\fw false H ([],[]) (da q)=some (.aj [],[],[]))\/n≠0/\∃d,fw false H ([],[]) (da q)=some (.sl 0 0 0 n,d,[ah z rows]):=by
 rcases h with⟨rfl,rfl⟩|⟨h,v,e,rfl,a,f⟩
 .exact .inl ⟨rfl,rfl⟩
 .have b:=tX (lo:=0) (len:=rows.length) a (by simp);rw[akh,aiv,f]at b;have g:obj H h v=some (z,rows):=by unfold obj;rw[a];simp
  refine .inr ⟨e,[h],?_⟩;show fw false H ([],[]) (.sl h v 0 n)=_;simp only[fw,bD,g,b,c];simp
def lA(g:Gr)(c:List Int)(n:Nat):List (List ab):=(aiT n).map fun i=>aT (iM g c i)
def ahd(g:Gr)(c:List Int)(n:Nat):lA g c (n+1)=lA g c n++[aT (iM g c n)]:=by unfold lA;rw[ajX,agA];rfl
def Cc(g:Gr)(c:List Int)(n:Nat):bA (lA g c n)=true:=je _ (fun i=>AA _) _
def c66(H:List Ob)(d:qH g n)(hn:n<=64)(c:List Int){i:Nat}(e:i<n):aO tz ay 66 [.agg (og (dA g c i))] H=some (.aM [.agg (aT (iM g c i)),aa 0],H):=by
 have⟨f,j⟩:=Iu d hn c e;have a:=p66 (pZ g c i) j (by simp[pZ]);have b:dv (kj (pZ g c i))=true:=f;rw[if_pos b,if_pos b]at a
 have k:df H (.agg (og (dA g c i)))=some (.agg (cV (pZ g c i)),[]):=by
  have l:cw (og (dA g c i))=true:=by simp[og,cw,xB,bD]
  simp only[df,nB l]
  have:da (nE (dA g c i).af)= .aj ((dA g c i).af.map ax):=by
   unfold nE;split
   .rename_i h;rw[h];rfl
   .rfl
  simp only[og,afL,aiO,this];rfl
 rw[aD,if_neg (by simp[eQ])];simp only[dy,k,lJ,show tz.md 66=1 from rfl,aeo];rw[a,jQ];simp[eo,eR,dZ,aT,iM]
def ug(n:Nat)(rows:List (List ab)):au×List Ob:=if n=0 then(.aM [.agg [.aj [],.aj []],aa 0],[])else(.aM [.agg [.sl 0 0 0 n,.aj []],aa 0],[ah 10 rows])
def p33(A:fg g=true)(hc:oZ g=some (c,k))(hl:c.length=g.n.toNat)(h1:∀i:Nat,i<g.n.toNat->1<=bC c i)(hp:∀e∈g.bw,bC c e.a≠bC c e.b):
  aS tz ay 0 33 [.agg (bR g)]=some (ug g.n.toNat (lA g c g.n.toNat)):=by
 have⟨n,hn⟩:=ak g.n.toNat
 have o:=p65 A hc hl h1 hp
 rw[hn]at o|-
 have⟨V1,B⟩:=ak ((ug n (lA g c n)).1)
 have⟨V2,C⟩:=ak ((ug n (lA g c n)).2)
 have hV:ug n (lA g c n)=(V1,V2):=by rw[<-B, <-C]
 rw[hV]
 refine be func33 rfl ?_
 simp only[f33,bX]
 have au:=((nm g).1 A).2.1
 have Q:=vS A
 rw[hn]at Q
 have R:=jX g.bw
 have t4:=MR (dA g c) n
 have t5:∀i,i<n->(mY (dA g c) n)[i]?=some (og (dA g c i)):=fun i D=>by
  unfold mY
  rw[adn,ajA D];rfl
 have t6:(mY (dA g c) n).length=n:=by simp[mY]
 have⟨T,hT⟩:=ak (mY (dA g c) n)
 rw[hT]at o t4 t5 t6
 simp only[bR]at o|-
 have⟨ad,ae⟩:=ak (g.bw.map dm)
 rw[ae]at o R|-
 refine bp [(1,.c (.aK [[I g.n,.aj ad]] 0 0)),(2,aw 0)] (fun G=>G=[ah 2 [[ap,ap]]]) ?_ ?_
 .simp
 rintro p G⟨a1,f,_⟩rfl
 refine bp [(4,aw 1),(5,aa 0),(2,aw 0)] (fun G=>G=[ah 2 [[ap,ap]],ah 2 [[.aj T,.aj []]]]) ?_ ?_
 .simp[a1,f,o,R,t4]
 rintro p G⟨r,a5,f,_⟩rfl
 refine bp [(4,aw 1),(2,aw 0)] (fun G=>G=[ah 2 [[ap,ap]],ah 2 [[.aj T,.aj []]]]) ?_ ?_
 .simp[r,a5,f]
 rintro p G⟨r,f,_⟩rfl
 refine bp [(4,aw 1),(6,aw 2),(2,aw 0)] (fun G=>G=[ah 2 [[ap,ap]],ah 2 [[.aj T,.aj []]],ah 2 [[ap,ap]]]) ?_ ?_
 .simp[r,f]
 rintro p G⟨r,a6,f,_⟩rfl
 rw[iY]
 refine Ends.sq ?_
 refine bp [(2,aw 0),(6,aw 2),(21,bh T),(22,aa n),(23,aa (0:Nat))] (fun G=>G=[ah 2 [[ap,ap]],ah 2 [[.aj T,.aj []]],ah 2 [[ap,ap]]]) ?_ ?_
 .simp[r,a6,f,t6]
 rintro p G g1 rfl
 rw[eD]
 refine im (fun i:Nat=>[(2,aw 0),(6,aw 2),(21,bh T),(22,aa n),(23,aa i)]) (fun i G=>i<=n/\G[0]?=some (ah 2 [[ap,ap]])/\∃q,G[2]?=some (ah 2 [[q,ap]])/\oR G 10 q i (lA g c i)/\∀m∈rf q,2<m) (fun i=>n-i) ?_ 0 g1 ⟨by omega,rfl,ap,rfl,.inl ⟨rfl,rfl⟩,by simp[rf]⟩ fun _=>rfl
 rintro i p G⟨E,F,H,J,u,_⟩⟨g2,w,q,s,L,S⟩
 by_cases d:i<n
 case neg=>
  have D:i=n:=by omega
  rw[D]at L u
  have t:=oR.own (L.aJ (H':=G.set 0 (ah 2 [[q,ap]])) fun m hm=>by rw[aay (by have:=S m hm;omega)]) (Cc _ _ _)
  have ag:(G.set 0 (ah 2 [[q,ap]]))[0]?=some (ah 2 [[q,ap]]):=ba w
  simp[-fw,E,F,H,J,u,w,s,ag]
  rcases t with⟨M,t⟩|⟨M,bs,t⟩
  .rw[t]
   rw[<-B, <-C]
   unfold ug
   rw[if_pos M]
   rfl
  .rw[t]
   rw[<-B, <-C]
   unfold ug
   rw[if_neg M]
   rfl
 have y:=t5 i d
 have j:=fun al=>c66 al Q (by omega) c d
 have⟨x,hx⟩:=ak (iM g c i)
 have l:=ahd g c i
 rw[hx]at l j
 simp only[og]at y j
 have⟨av,hQ⟩:=ak (nE (dA g c i).af)
 have⟨x1,am⟩:=ak ((dA g c i).id)
 have⟨x2,an⟩:=ak ((dA g c i).phase)
 simp only[aT]at l j
 rw[hQ,am,an]at y j
 have U:ads.wrap ((i:Int)+1)=((i+1:Nat):Int):=cr (by omega)
 have l3:=bf s
 have N:∀K,(G++K)[0]?=some (ah 2 [[ap,ap]]):=fun K=>by rw[aaK (bf w)];exact w
 have O:∀K,(G++K)[2]?=some (ah 2 [[q,ap]]):=fun K=>by rw[aaK l3];exact s
 have⟨y0,V⟩:=ak (I x.dr.ai.id)
 have⟨y1,w1⟩:=ak (I x.dr.ai.phase)
 have⟨y2,w2⟩:=ak (ab.aj (x.dr.ai.af.map ax))
 have⟨y3,w3⟩:=ak (I x.dr.aQ)
 have⟨y4,w4⟩:=ak (aG x.dr.need)
 have⟨y5,w5⟩:=ak (I x.book.last)
 have⟨y6,w6⟩:=ak (ab.aj (x.book.aA.map aN))
 have⟨y7,w7⟩:=ak (ab.aj (x.known.map aW))
 have⟨y8,w8⟩:=ak (aG x.told)
 have⟨y9,W⟩:=ak (ab.aj (x.asked.map aW))
 rw[V,w1,w2,w3,w4,w5,w6,w7,w8,W]at l j
 clear V w1 w2 w3 w4 w5 w6 w7 w8 W
 rcases L with⟨rfl,rfl⟩|⟨h,v,az,rfl,z,Y⟩
 .simp[-aD,-fw,-getElem?_pos,-aae,-ac7,E,F,H,J,u,s,N,O,y,d,t6,U,j]
  refine⟨1,by omega,rfl,by omega,.inr ⟨G.length+3,0,by simp,rfl,?_,by simp[lA]⟩,fun m hm=>by simp[rf]at hm;omega⟩
  rw[aay (by omega),ad8 (by omega),show G.length+3-G.length=3 from by omega,l]
  rfl
 .have ⟨P,ao⟩:=ak (lA g c i)
  rw[ao]at z Y l
  have aB:2<h:=S h (by simp[rf])
  have Z:∀K,(G++K)[h]?=some (.live v 10 P):=fun K=>by rw[aaK (bf z)];exact z
  have aq:∀K X,((G++K).set h X)[2]?=some (ah 2 [[.sl h v 0 i,ap]]):=fun K X=>by rw[aay (by omega)];exact O K
  have n1:i+1<=maxLen:=by unfold maxLen;omega
  have n2:(i+1)*176<=140737488355328:=by omega
  have ar:P.take i=P:=ach (by omega)
  simp[-aD,-fw,-getElem?_pos,-aae,-ac7,E,F,H,J,u,s,N,O,aq,Z,z,y,d,t6,U,n1,n2,ar,Y,j]
  refine⟨i+1,by omega,rfl,by omega,by rw[aay (by omega)];exact N _,.inr ⟨h,v+1,by omega,rfl,?_,by rw[l];simp;omega⟩,fun m hm=>by simp[rf]at hm;omega⟩
  rw[aay (by omega),ba (Z _),l]
def lD(g:Gr)(c:List Int)(r:mR):Cl:=⟨r.win,r.fB,r.wait,r.room,r.hold,(aiT g.n.toNat).map (iM g c),fun _ _=>wV r.win r.fB r.wait r.room,fun _ _=>⟨[],0⟩⟩
def xD(H:List Ob)(j:fg g=true)(hc:oZ g=some (c,k))(l:c.length=g.n.toNat)(m:∀i:Nat,i<g.n.toNat->1<=bC c i)(hp:∀e∈g.bw,bC c e.a≠bC c e.b):
  ∃q K,aO tz ay 33 [.agg (bR g)] H=some (.aM [.agg [q,.aj []],aa 0],H++K)/\((g.n.toNat=0/\q= .aj []/\K=[])\/g.n.toNat≠0/\q= .sl H.length 0 0 g.n.toNat/\K=[ah 10 (lA g c g.n.toNat)]):=by
 have f:=p33 j hc l m hp
 have h:=Cc g c g.n.toNat
 have⟨n,hn⟩:=ak g.n.toNat
 rw[hn]at f h|-
 have⟨R,o⟩:=ak (lA g c n)
 rw[o]at f h|-
 have p:df H (.agg (bR g))=some (.agg (bR g),[]):=by simp only[df,nB (AM g)];rfl
 rw[aD,if_neg (by simp[eQ])]
 simp only[dy,p,lJ,show tz.md 33=0 from rfl,aeo]
 rw[f]
 unfold ug
 by_cases d:n=0
 .rw[if_pos d,jQ]
  refine⟨.aj [],[],?_,.inl ⟨d,rfl,rfl⟩⟩
  simp[eo,eR,dZ]
 .rw[if_neg d,jQ]
  refine⟨.sl H.length 0 0 n,[ah 10 R],?_,.inr ⟨d,rfl,rfl⟩⟩
  simp[eo,eR,dZ,h]
def Zv(r:mR){R:List (List ab)}(b:bA R=true)(a:aO tz ay 33 [.agg (bR g)] []=some (.aM [.agg [.sl 0 0 0 n,.aj []],aa 0],[ah 10 R])):
  aS tz ay 2 16 [.agg (bR g),.agg (fY r)]=some (.aM [aw 4,aa 0],[ah 10 R,ah 2 [[.sl 0 0 0 n,.aj []]],.mp [],.mp [],ah 8 [[I r.win,I r.fB,I r.wait,I r.room,I r.hold,.sl 0 0 0 n,.mr 2,.mr 3]]]):=by
 refine be func16 rfl ?_
 simp only[bR,fY]at a|-
 simp[-aD,f16,a,yy,zS]
def XT(r:mR)(a:aO tz ay 33 [.agg (bR g)] []=some (.aM [.agg [.aj [],.aj []],aa 0],[])):
  aS tz ay 2 16 [.agg (bR g),.agg (fY r)]=some (.aM [aw 3,aa 0],[ah 2 [[.aj [],.aj []]],.mp [],.mp [],ah 8 [[I r.win,I r.fB,I r.wait,I r.room,I r.hold,.aj [],.mr 1,.mr 2]]]):=by
 refine be func16 rfl ?_
 simp only[bR,fY]at a|-
 simp[-aD,f16,a,yy,zS]
def PT(r:mR){K:List Ob}{mp mt b:Nat}{a:Nat->aU}(d:K[b]?=some (ah 8 [[I r.win,I r.fB,I r.wait,I r.room,I r.hold,q,.mr mp,.mr mt]]))(e:K[mp]?=some (.mp []))(f:K[mt]?=some (.mp []))
  (h:a b= .cl 0) (c1:a mp= .cl 2) (c2:a mt= .cl 3) (i:tv K a q ((aiT g.n.toNat).map (iM g c))):bK K a b (lD g c r):=
 ⟨q,mp,mt,[],[],d,i,e,f,rfl,rfl,h,c1,c2,fun _ _=> .inl ⟨rfl,rfl⟩,fun _ _=> .inl ⟨rfl,rfl⟩⟩
def wj(c:Nat->aU)(n:Nat)(l:List aU):Nat->aU:=fun m=>if m<n then c m else l.getD (m-n) .none
def acA(r:mR)(v:fg g=true)(hc:oZ g=some (c,k))(w:c.length=g.n.toNat)(x:∀i:Nat,i<g.n.toNat->1<=bC c i)(hp:∀e∈g.bw,bC c e.a≠bC c e.b):OH g r (lD g c r):=by
 intro H h;have j:=Cc g c g.n.toNat;have y:df H (.agg (bR g))=some (.agg (bR g),[]):=by simp only[df,nB (AM g)];rfl
 have z:df H (.agg (fY r))=some (.agg (fY r),[]):=by simp only[df,nB (YA r)];rfl
 have p:((aiT g.n.toNat).map (iM g c)).map aT=lA g c g.n.toNat:=by unfold lA;rw[ai6];rfl
 have⟨N,o⟩:=ak H.length;have d:∀(K:List Ob) k,(H++K)[k+N]?=K[k]?:=fun K k=>Mf _ _ o;have f:∀l k,wj h N l (k+N)=l.getD k .none:=fun l k=>by unfold wj;rw[if_neg (by omega),alN]
 have s:∀(K:List Ob) l,aH (fun _=>False) h (wj h N l) H (H++K):=fun K l=>⟨by simp,fun m hm=>by unfold wj;rw[if_pos (by omega)],fun m hm _=>aaK hm⟩;have⟨q,K,t,A⟩:=xD [] v hc w x hp;rw[aD,if_neg (by simp[eQ])];simp only[dy,y,z,lJ,show tz.md 16=2 from rfl,aeo];rcases A with⟨u,rfl,rfl⟩|⟨u,rfl,rfl⟩
 .rw[XT r (by simpa using t),jQ];refine⟨3+N,wj h N [.none,.cl 2,.cl 3,.cl 0],H++[ah 2 [[.aj [],.aj []]],.mp [],.mp [],ah 8 [[I r.win,I r.fB,I r.wait,I r.room,I r.hold,.aj [],.mr (1+N),.mr (2+N)]]],?_,?_,s _ _⟩
  .simp[eo,pR,jy,oz,rp,eR,dY,dZ,cw,bD,bA,o];exact⟨by omega,by omega,by omega⟩
  .refine PT r (by rw[d];rfl) (by rw[d];rfl) (by rw[d];rfl) (f _ _) (f _ _) (f _ _) (.inl ⟨by rw[u];rfl,rfl⟩)
 .rw[Zv r j (by simpa using t),jQ];have⟨R,B⟩:=ak (lA g c g.n.toNat);rw[B]at j p|-;have C:dY N (ah 10 R)=ah 10 R:=qy j;have D:R.map (fun r=>r.map (dZ N))=R:=by simpa[dY]using C
  refine⟨4+N,wj h N [.cl 1,.none,.cl 2,.cl 3,.cl 0],H++[ah 10 R,ah 2 [[.sl N 0 0 g.n.toNat,.aj []]],.mp [],.mp [],ah 8 [[I r.win,I r.fB,I r.wait,I r.room,I r.hold,.sl N 0 0 g.n.toNat,.mr (2+N),.mr (3+N)]]],?_,?_,s _ _⟩
  .simp[eo,pR,jy,oz,rp,eR,dY,dZ,cw,bD,bA,o];exact⟨.inl j,by omega,D,by omega,by omega⟩
  .refine PT r (by rw[d];rfl) (by rw[d];rfl) (by rw[d];rfl) (f _ _) (f _ _) (f _ _) (.inr ⟨N,0,by simp,?_,?_⟩)
   .have:=d [ah 10 R,ah 2 [[.sl N 0 0 g.n.toNat,.aj []]],.mp [],.mp [],ah 8 [[I r.win,I r.fB,I r.wait,I r.room,I r.hold,.sl N 0 0 g.n.toNat,.mr (2+N),.mr (3+N)]]] 0;rw[aiQ]at this;rw[this,p];rfl
   .have:=f [.cl 1,.none,.cl 2,.cl 3,.cl 0] 0;rw[aiQ]at this;exact this
end
section
variable{T:Nat}{K K':Cl}{l F:List Ev}{e:Int}
def Bk(K:Cl)(ev:List Ev)(K':Cl):Prop:=(K'.nodes=K.nodes/\ev=[])\/∃(i:Nat) (a:Nd) (h:i<K.nodes.length),K'.nodes=K.nodes.set i a/\lH (i:Int) K.nodes[i].book ev a.book/\ev.length<=9000
def OE{n:Nd}{v:Wk}{i:Nat}(h:BW (bg n) v)(hid:n.dr.ai.id=(i:Int)):v.n.dr.ai.id=(i:Int)/\lH (i:Int) n.book v.seen v.n.book:=by
 have⟨a,b,c,d⟩:=h;have e:v.seen=b:=by simpa[bg]using c
 rw[e];have f:v.n.dr.ai.id=n.dr.ai.id:=a;exact⟨f.trans hid,by rw[<-hid];exact d⟩
def ady(h:dL T K)(o:T<=900000000){a i:Nat}(d:i<K.nodes.length){s:bx}(b:K.Told a i s K' l e):Bk K l K':=by
 unfold Cl.Told at b;have g:=Ma h a i;have hn:(K.tell a i).nodes=K.nodes:=(zg h.i h.t a i).2.2;split at b
 .obtain ⟨rfl,rfl,_⟩:=b;exact .inl ⟨hn,rfl⟩
 .split at b
  .obtain ⟨rfl,rfl,_⟩:=b;exact .inl ⟨hn,rfl⟩
  .obtain ⟨v,c,rfl,rfl,_⟩:=b;have j:K.nodes.getD i .zero=K.nodes[i]:=by rw[ae9,aae d];rfl
   rw[j]at c;have⟨f,k⟩:=OE (PD c).2 (h.n.id i d);have⟨p,m⟩:=zm g (l:=v.out) c.jW.s (by rw[f,hn];omega) (by have:=c.out.1;omega);exact .inr ⟨i,v.n,d,by rw[m,hn,f];rfl,k,c.out.2⟩
def MX(h:dL T K)(o:T<=900000000){a:Int}{d:Act}(b:K.bP a d K' l e):Bk K l K':=by
 unfold Cl.bP at b;split at b
 .obtain ⟨rfl,rfl,_⟩:=b;exact .inl ⟨rfl,rfl⟩
 rename_i hc;have hth:K.there a:=akj fun hn=>hc (.inl hn);obtain⟨i,rfl⟩:∃i:Nat,a=i:=⟨a.toNat,by have:=hth.1;omega⟩;have f:i<K.nodes.length:=by have:=hth.2;omega
 simp only[aim]at b;split at b
 .obtain ⟨rfl,rfl,_⟩:=b;exact .inl ⟨(qn h i).2,rfl⟩
 .obtain ⟨v,c,rfl,rfl,_⟩:=b;have j:K.nodes.getD i .zero=K.nodes[i]:=by rw[ae9,aae f];rfl
  rw[j]at c;have⟨g,k⟩:=OE (QE c).2 (h.n.id i f);have⟨p,m⟩:=zm h (l:=v.out) c.jW.s (by rw[g];omega) (by have:=c.out.1;omega);exact .inr ⟨i,v.n,f,by rw[m,g];rfl,k,c.out.2⟩
def Bk.Nk{a b:Cl}{ev:List Ev}(h:Bk a ev b)(c:a.nodes=K.nodes)(d:K'.nodes=b.nodes):Bk K ev K':=by unfold Bk at*;rw[d, <-c];exact h
def abO(h:dL T K)(y:T<=800000000){x:LA}{s:List Ev}(a:K.rS x K' s e):Bk K s K':=by
 unfold Cl.rS at a;split at a
 .exact MX h (by omega) a
 split at a
 .unfold Cl.uc at a;split at a
  .obtain ⟨rfl,rfl,_⟩:=a;exact .inl ⟨rfl,rfl⟩
  .have ⟨b,c⟩:=Er x.A.toNat (others K.nodes.length x.A.toNat) K h;exact(MX b (by omega) a).Nk c rfl
 split at a
 .obtain ⟨rfl,rfl,_⟩:=a;refine .inl ⟨?_,rfl⟩;unfold Cl.goes;split
  .rfl
  .simp only;rw[xw];have⟨b,c⟩:=qn h x.A.toNat;have⟨z,n⟩:=Jg x.A.toNat (others K.nodes.length x.A.toNat) (K.flush x.A.toNat,0) b;rw[n,c]
 split at a
 .unfold Cl.Comes at a;split at a
  .obtain ⟨rfl,rfl,_⟩:=a;exact .inl ⟨rfl,rfl⟩
  rename_i o
  obtain⟨k,q⟩:∃k,K.look x.A x.B x.N=some k:=by
   cases r:K.look x.A x.B x.N with
   |none=>exact absurd r o
   |some s=>exact⟨s,rfl⟩
  have f:=vB h.i q;have⟨u,v,t,w,C⟩:=qL f.1;rw[t,w]at a f;have l:v<K.nodes.length:=by have:=f.1.2.1.2;omega
  have j:dL (T+1) (K.eO v u ((K.pipe v u).jt (cT v u) x.N).1):=zH (h.mono (by omega)) v u (Gb (h.i.pipe v u) _ _) fun s=>aiZ (KI _ _ _ _) (by have:=h.g (min v u) (max v u) s;show(K.pp _ _).dT s+1<=_;omega);simp only[aim]at a;split at a
  .obtain ⟨rfl,rfl,_⟩:=a;exact .inl ⟨(qn j v).2,rfl⟩
  .obtain ⟨d,m,rfl⟩:=a;have⟨b,c⟩:=Ir xA j (by omega) (show v< (K.eO v u _).nodes.length from l) m;exact(ady j (by omega) (show v< (K.eO v u _).nodes.length from l) m).Nk rfl (qn b v).2
 split at a
 .obtain ⟨rfl,rfl,_⟩:=a;exact .inl ⟨(uY h x.A x.B (fun p s=>p.jk s x.N) fun P s hp=>N8 hp s _).2,rfl⟩
 split at a
 .obtain ⟨rfl,rfl,_⟩:=a;exact .inl ⟨(uY h x.A x.B (fun p s=>p.double s x.N) fun P s hp=>Oa hp s _).2,rfl⟩
 .obtain ⟨rfl,rfl,_⟩:=a;exact .inl ⟨(uY h x.A x.B (fun p s=>p.flip s x.N x.X) fun P s hp=>R9 hp s _ _).2,rfl⟩
def ru(i:Int)(E:List Ev):List Ev:=E.filter fun e=>decide (e.node=i)
def zK(i:Int)(E F:List Ev):ru i (E++F)=ru i E++ru i F:=ajh ..
def JP{i:Int}(h:∀e∈F,e.node=i):ru i F=F:=ajn.2 fun e a=>by simp[h e a]
def MJ{i j:Int}(h:∀e∈F,e.node=i)(a:i≠j):ru j F=[]:=alf.2 fun e b=>by simp[h e b,a]
structure xY(P:List Ev->ci->Prop)(K:Cl)(E:List Ev):Prop where
 b:∀i (h:i<K.nodes.length),P (ru (i:Int) E) K.nodes[i].book
 n:∀e∈E,0<=e.node/\e.node<K.nodes.length
def xY.step{P:List Ev->ci->Prop}(o:∀id E f b g,P E b->lH id b f g->P (E++f) g){E ev:List Ev}(h:xY P K E)(p:Bk K ev K'):xY P K' (E++ev):=by
 rcases p with⟨c,rfl⟩|⟨i,r,d,c,k,_⟩
 .rw[aeo];exact⟨fun i d=>by simp only[c];exact h.b i (by rw[<-c];exact d),fun e a=>by rw[c];exact h.n e a⟩
 .have hn:=LK k;have l:K'.nodes.length=K.nodes.length:=by rw[c,aiJ]
  refine⟨fun j q=>?_,fun e a=>?_⟩
  .simp only[c];rw[ame,zK];split
   .rename_i m;subst m;rw[JP hn];exact o _ _ _ _ _ (h.b i d) k
   .rename_i m;rw[MJ (j:=(j:Int)) hn (by omega),aeo];exact h.b j (by rw[<-l];exact q)
  .rw[l];rcases ahl.1 a with a|a
   .exact h.n e a
   .rw[hn e a];omega
def Bk.len{ev:List Ev}(h:Bk K ev K'):ev.length<=9000:=by
 rcases h with⟨_,rfl⟩|⟨_,_,_,_,_,h⟩
 .simp
 .exact h
end
section
variable{H:List Ob}{c:Nat->aU}{n:Nat}{g:Gr}
def jf(s:List Int)(e:Ev):List Int:=if e.kind=1 then s.set e.node.toNat e.id else s
def Ce(s:List Int)(e:Ev):(jf s e).length=s.length:=by unfold jf;split<;>simp
def wy:List Int->List Ev->Prop
 |_,[]=>True
 |s,e::r=>(0<=e.node/\e.node<s.length)/\(e.kind=1->s.getD e.node.toNat 0<e.id)/\wy (jf s e) r
structure vT(p:Nat)(s:List Int)(H:List Ob)(c:Nat->aU):Prop where
 o:∃h v,H[p]?=some (ah 1 [[.sl h v 0 s.length]])/\H[h]?=some (.live v 1 (s.map aC))/\c h= .cl 10/\h≠p
 c:c p= .cl 10
def vT.aJ{p:Nat}{s:List Int}{H':List Ob}{a:Nat->aU}(h:vT p s H c)(b:aH G9 c a H H'):vT p s H' a:=by have⟨⟨h,v,f,g,d,i⟩,e⟩:=h;have⟨j,k⟩:=b.get f (by rw[e];simp[Lw]);have⟨l,m⟩:=b.get g (by rw[d];simp[Lw]);exact⟨⟨h,v,j,l,m.trans d,i⟩,k.trans e⟩
def o8{p b:Nat}{s:List Int}{le:ab}{ev:List Ev}(x:LA)(e:Int)(z:Bool)(hJ:vT p s H c)(U:lM le ev)(ho:wy s ev)(am:ev.length<=9000):
  ∃w,aO tz (bB tz (Go.Nx.ev tz)) 10 [aw b,.agg (cO x),.c le,aa e,aR z,aw p] H=some (aR true,w)/\vT p (ev.foldl jf s) w c/\aH (· = .cl 10) c c H w:=by
 have⟨⟨h,v,V,M,W,Y⟩,h5⟩:=hJ
 have⟨n,hn⟩:=ak s.length
 rw[hn]at V
 have⟨m,hm⟩:=ak ev.length
 have hx:∀X,[I X]=[I X]:=fun _=>rfl
 have Z:∀X:Ob,(H.set h X)[p]?=some (ah 1 [[.sl h v 0 n]]):=fun X=>by rw[aay Y];exact V
 obtain⟨r,w,e1,rfl,N⟩:=cG (C:=tz) (f:=10) (args:=[aw b,.agg (cO x),.c le,aa e,aR z,aw p]) (H:=H) (fun r w=>r=aR true/\w=H.set h (.live v 1 ((ev.foldl jf s).map aC))) func10 rfl (by
  simp only[f10,bX]
  refine bp [(2,.c le),(5,aw p)] (fun G=>G=H) ?_ ?_
  .simp[cO]
  rintro en G⟨a2,a5,_⟩a
  obtain rfl:H=G:=a.symm
  rw[iY]
  refine Ends.sq ?_
  refine bp [(2,.c le),(5,aw p),(12,aa (0:Nat))] (fun G=>G=H) ?_ ?_
  .simp[a2,a5]
  rintro en G N a
  obtain rfl:H=G:=a.symm
  rw[eD]
  refine im (fun g:Nat×List Int=>[(2,.c le),(5,aw p),(12,aa g.1)]) (fun g G=>g.1<=m/\g.2.length=n/\wy g.2 (ev.drop g.1)/\(ev.drop g.1).foldl jf g.2=ev.foldl jf s/\G=H.set h (.live v 1 (g.2.map aC))) (fun g=>m-g.1) ?_ (0,s) N ⟨by omega,hn,ho,rfl,(lP M).symm⟩ fun _=>rfl
  rintro⟨j,t⟩en G⟨o,B,D,_⟩⟨g2,F,O,k,a⟩
  simp only at o B D g2 F O k a
  by_cases d:j<m
  case neg=>
   have hj:ev.drop j=[]:=List.drop_eq_nil_iff.2 (by omega)
   rw[hj,List.foldl_nil]at k
   rw[k]at a
   rcases U with⟨rfl,rfl⟩|rfl
   .have:j=0:=by simp at hm;omega
    subst this
    simp[o,B,D]
    exact a
   .have ⟨R,q⟩:=ak (ev.map fW)
    have J:R.length=m:=by rw[<-q];simpa using hm
    rw[q]at o
    simp[o,B,D,J,d]
    exact a
  have P:j<ev.length:=by omega
  have⟨y,hy⟩:=ak ev[j]
  have aj:ev.drop j=y::ev.drop (j+1):=by rw[<-hy];exact afv P
  rw[aj]at O k
  have⟨⟨o1,o2⟩,o3,K⟩:=O
  rw[aiW]at k
  rcases U with⟨rfl,rfl⟩|rfl
  .simp at P
  have u:(ev.map fW)[j]?=some (fW y):=by rw[adn,aae P,hy];rfl
  simp only[fW]at u
  have⟨an,hq⟩:=ak (if y.kind=0 then aG y.need else ap)
  rw[hq]at u
  have⟨R,q⟩:=ak (ev.map fW)
  have J:R.length=m:=by rw[<-q];simpa using hm
  rw[q]at o u
  have ad:j<R.length:=by omega
  obtain⟨i,Q⟩:∃i:Nat,y.node=i:=⟨y.node.toNat,by omega⟩
  rw[Q]at u o1 o2
  have ae:i<n:=by omega
  have gp:G[p]?=some (ah 1 [[.sl h v 0 n]]):=by rw[a];exact Z _
  have S:G[h]?=some (.live v 1 (t.map aC)):=by rw[a];exact ba M
  have⟨A,L⟩:=ak (t.map aC)
  have af:A.length=n:=by rw[<-L];simpa using F
  have⟨ag,hu⟩:=ak (t.getD i 0)
  have ai:A[i]?=some [I ag]:=by
   rw[<-L,adn,aae (by omega), <-hu,ae9,aae (by omega)];rfl
  rw[L]at S
  have ao:n<=A.length:=by omega
  have aq:i<A.length:=by omega
  have hw:ads.wrap ((j:Int)+1)=((j+1:Nat):Int):=cr (by omega)
  have c0:¬(i:Int)<0:=by omega
  have c1:¬(i:Int)>=n:=by omega
  have tk:A.take n=A:=ach (by omega)
  by_cases E:y.kind=1
  .have o5:=o3 E
   rw[Q,aim,hu]at o5
   have c2:¬y.id<=ag:=by omega
   rw[E]at u
   simp[-getElem?_pos,-aae,-ac7,o,B,D,J,d,u,ad,gp,S,ai,c0,c1,c2,ae,af,tk,hw]
   have T:jf t y=t.set i y.id:=by unfold jf;rw[if_pos E,Q];rfl
   rw[T]at K k
   refine⟨j+1,by omega,⟨q.symm,rfl⟩,by omega,t.set i y.id,by simpa using F,K,k,?_⟩
   rw[a,ajB,aix,L]
   rfl
  .simp[-getElem?_pos,-aae,-ac7,o,B,D,J,d,u,ad,gp,S,ai,c0,c1,ae,af,tk,hw,E]
   have T:jf t y=t:=by unfold jf;rw[if_neg E]
   rw[T]at K k
   exact⟨j+1,by omega,⟨q.symm,rfl⟩,by omega,t,F,K,k,a⟩)
 have al:∀(l:List Ev) (s:List Int),(l.foldl jf s).length=s.length:=fun l=>by
  induction l with
  |nil=>intro s;rfl
  |cons ar r ih=>intro s;rw[aiW,ih,Ce]
 subst N
 refine⟨_,dK (by simp) e1,⟨⟨h,v,?_,ba M,W,Y⟩,h5⟩,⟨by simp,fun _ _=>rfl,fun au hk hc=>?_⟩⟩
 .rw[al,hn];exact Z _
 .rw[aay (fun e=>hc (by rw[<-e];exact W))]
def OF{i:Nat}:∀(ev:List Ev) (s:List Int) (E:List Ev),(∀e∈ev,e.node=(i:Int))->i<s.length->s.getD i 0=mj E 0->kC CG (E++ev)->wy s ev/\(ev.foldl jf s).getD i 0=mj (E++ev) 0/\∀j,j≠i->(ev.foldl jf s).getD j 0=s.getD j 0
 |[],s,E,_,_,h,_=>⟨trivial,by rw[aeo];exact h,fun _ _=>rfl⟩
 |e::r,s,E,hn,b,h,hA=>by
  have a:=hn e (ajv ..)
  have hc:=hA E e r rfl
  have m:(jf s e).length=s.length:=Ce s e
  have c:(jf s e).getD i 0=mj (E++[e]) 0:=by
   rw[nI]
   unfold jf
   simp only[mj]
   by_cases k:e.kind=1
   .rw[if_pos k,if_pos k,a,aim,ae9,afN b];rfl
   .rw[if_neg k,if_neg k];exact h
  have⟨d,f,g⟩:=OF r (jf s e) (E++[e]) (fun e a=>hn e (aiI _ a)) (by omega) c (by rw[aio];exact hA)
  refine⟨⟨by rw[a];omega,fun k=>?_,d⟩,?_,fun j l=>?_⟩
  .rw[a,aim,h];exact hc k
  .rw[aiW,f,aio];rfl
  .rw[aiW,g j l]
   unfold jf
   split
   .rw[a,aim,ae9,aay (by omega), <-ae9]
   .rfl
structure zO(n:Nat)(K:Cl)(s:List Int):Prop where
 e:∃E,xY GI K E/\∀i,i<n->s.getD i 0=mj (ru (i:Int) E) 0
 kl:K.nodes.length=n
 sl:s.length=n
def agx{K d:Cl}{s:List Int}{ev:List Ev}(h:zO n K s)(k:Bk K ev d):wy s ev/\zO n d (ev.foldl jf s):=by
 have⟨⟨E,q,f⟩,m,p⟩:=h;have c:=q.step (fun id E C b D h t=>SU h t) k;rcases k with⟨g,rfl⟩|⟨i,F,G,g,u,H⟩
 .rw[aeo]at c;exact⟨trivial,⟨E,c,f⟩,by rw[g,m],p⟩
 .have hn:=LK u;have v:d.nodes.length=n:=by rw[g,aiJ,m]
  have hA:=(c.b i (by omega)).o;rw[zK,JP hn]at hA;have⟨w,x,y⟩:=OF ev s (ru (i:Int) E) hn (by omega) (f i (by omega)) hA
  have z:∀(l:List Ev) (s:List Int),(l.foldl jf s).length=s.length:=fun l=>by
   induction l with
   |nil=>intro s;rfl
   |cons a r A=>intro s;rw[aiW,A,Ce]
  refine⟨w,⟨E++ev,c,fun j B=>?_⟩,v,by rw[z,p]⟩;by_cases e:j=i
  .rw[e,x,zK,JP hn]
  .rw[y j e,f j B,zK,MJ (j:=(j:Int)) hn (by omega),aeo]
def XF(c:List Int)(r:mR)(hn:g.n.toNat=n):zO n (lD g c r) (ago n 0):=by
 have b:(lD g c r).nodes.length=n:=by simp[lD,hn]
 refine⟨⟨[],⟨fun i d=>?_,fun e f=>by simp at f⟩,fun i d=>?_⟩,b,by simp⟩
 .have:((lD g c r).nodes[i]).book=⟨0,[]⟩:=by simp[lD,iM,kj]
  rw[this];exact⟨.nil _,.nil,fun s a=>by simp at a,fun s a=>by simp at a,aj5 _⟩
 .rw[ae9,List.getElem?_replicate];split<;>rfl
def Yu(a:fg g=true)(c:List Int)(r:mR):dL 0 (lD g c r):=by
 have f:=vS a;have j:=((nm g).1 a).2.1;have b:(lD g c r).nodes.length=g.n.toNat:=by simp[lD]
 have d:∀i (h:i< (lD g c r).nodes.length),(lD g c r).nodes[i]=iM g c i:=fun i h=>by simp[lD]
 refine⟨⟨fun x y=>?_,by rw[b];omega,fun x y=>adt _,fun x y=>akb _⟩,⟨fun i e=>?_,fun i e=>?_⟩,fun x y=>adt _,fun x y s=>adt _⟩
 .exact ⟨fun s=>Yy _ _ _ _ _,fun s=>akb _,fun s t h=>by simp[lD,wV]at h,by show(eC r.room 0 1000).toNat<=1000;unfold eC;omega⟩
 .rw[d];exact ZB (Iu f (by omega) c (by rw[<-b];exact e)).1
 .rw[d];rfl
def TQ{l:List LA}(h:sy g l=true):fg g=true/\g.n<=5/\l.length<=100/\∀x∈l,x.d.need.length<=20:=by unfold sy at h;simp only[aa2,decide_eq_true_eq]at h;have⟨a,⟨b,c⟩,e⟩:=h;refine⟨b,c,e,fun x f=>?_⟩;rw[ach (by omega),af8]at a;simpa using a x f
def agt(hA:aS tz ay 0 7 []=some (aR true,[]))(g:Gr)(r:mR)(l:List LA):∃d,bB tz (ev tz) 3 [.agg (bR g),.agg (fY r),bh (l.map cO)] []=some (aR true,d):=by
 obtain⟨r',d,h1,rfl⟩:=cG (C:=tz) (f:=3) (args:=[.agg (bR g),.agg (fY r),bh (l.map cO)]) (H:=[]) (fun r d=>r=aR true) func3 rfl (by
  have o:=p8 g l;have q:=jX g.bw;have y:bA (l.map cO)=true:=je _ (fun x=>RW x) l;simp only[f3,bX];have A:=@c9 (List Int) g r l 10;have P:bR g=[I g.n,.aj (g.bw.map dm)]:=rfl;have⟨E,ab⟩:=ak (g.bw.map dm);have⟨R,hR⟩:=ak (l.map cO);rw[ab]at q P;rw[hR]at y o A|-;rw[P]at o A|-;refine bp [(3,.c (.aK [[I g.n,.aj E]] 0 0)),(4,.c (.aK [fY r] 0 0)),(2,bh R)] (fun G=>G=[]) ?_ ?_
  .simp[fY]
  rintro t G⟨e,a,i,_⟩rfl;cases B:sy g l with
  |false=>rw[B]at o;simp[e,a,i,hA,o,q,y]
  |true=>
  rw[B]at o;have⟨u,D,hl,ad⟩:=TQ B;have⟨n,hn⟩:=ak g.n.toNat;have F:g.n=(n:Int):=by have:=((nm g).1 u).1;omega
  have an:n<=5:=by omega
  refine bp [(3,.c (.aK [[I g.n,.aj E]] 0 0)),(4,.c (.aK [fY r] 0 0)),(2,bh R)] (fun G=>G=[]) ?_ ?_
  .simp[e,a,i,hA,o,q,y]
  rintro t G⟨e,a,i,_⟩rfl;refine bp [(3,.c (.aK [[I g.n,.aj E]] 0 0)),(4,.c (.aK [fY r] 0 0)),(2,bh R),(7,aw 1)] (fun G=>G=[ah 1 [],ah 1 [[.sl 0 0 0 0]]]) ?_ ?_
  .simp[e,a,i]
  rintro t G⟨e,a,i,L,_⟩rfl;refine bp [(3,.c (.aK [[I g.n,.aj E]] 0 0)),(4,.c (.aK [fY r] 0 0)),(2,bh R),(7,aw 1)] (fun G=>∃v,G[1]?=some (ah 1 [[.sl 0 v 0 n]])/\G[0]?=some (.live v 1 ((ago n (0:Int)).map aC))) ?_ ?_
  .refine ef (fun S=>Has S.env [(3,.c (.aK [[I g.n,.aj E]] 0 0)),(4,.c (.aK [fY r] 0 0)),(2,bh R),(7,aw 1),(8,aa (0:Nat))]/\S.bH=[]/\S.heap=[ah 1 [],ah 1 [[.sl 0 0 0 0]]]) ?_ ?_
   .simp[e,a,i,L]
   rintro⟨t,G,ds⟩⟨p,rfl,rfl⟩;simp only at p;rw[eD];refine Ends.bl (gO (fun j:Nat=>[(3,.c (.aK [[I g.n,.aj E]] 0 0)),(4,.c (.aK [fY r] 0 0)),(2,bh R),(7,aw 1),(8,aa j)]) (fun j G=>j<=n/\∃v,G[1]?=some (ah 1 [[.sl 0 v 0 j]])/\G[0]?=some (.live v 1 ((ago j (0:Int)).map aC))) [] (fun j=>n-j) _ [3,4,2,7,8] (fun _=>rfl) ?_ 0 _ p ⟨by omega,0,rfl,rfl⟩ rfl);rintro j ⟨t,G,ds⟩ p ⟨g2,v,k,m⟩ D;simp only at p g2 k m D;subst D;simp at p;have⟨M,Q,T,U,V⟩:=p;rw[F]at M;by_cases ae:j<n
   .have w:ads.wrap ((j:Int)+1)=((j+1:Nat):Int):=cr (by omega);have l0:=bf m;have l1:=bf k;have W:∀K,(G++K)[0]?=some (.live v 1 ((ago j (0:Int)).map aC)):=fun K=>by rw[aaK l0];exact m
    have Y:∀K X,((G++K).set 0 X)[1]?=some (ah 1 [[.sl 0 v 0 j]]):=fun K X=>by rw[aay (by omega),aaK l1];exact k
    have⟨Z,N⟩:=ak ((ago j (0:Int)).map aC);have af:Z.length=j:=by rw[<-N];simp
    rw[N]at W m;have m1:j+1<=maxLen:=by unfold maxLen;omega
    have m2:(j+1)*8<=140737488355328:=by omega
    have tk:Z.take j=Z:=ach (by omega);simp[-getElem?_pos,-aae,-ac7,-List.map_replicate,M,Q,T,U,V,ae,F,k,W,Y,m1,m2,tk,af,w];refine⟨j+1,by omega,rfl,by omega,v+1,ba (Y _ _),?_⟩;refine⟨rfl,?_⟩;rw[List.replicate_succ',agA,N];rfl
   .have hj:j=n:=by omega
    subst hj;simp[-List.map_replicate,M,Q,T,U,V,F];exact⟨v,k,m⟩
  rintro t G⟨e,a,i,L,_⟩⟨v,k,m⟩;have⟨c,ao,hc,O,ag,ai⟩:=TT (vS u)
  have⟨ap,z,s',c',d,e9,j9,⟨aq,K9,l9,_,i9⟩,s9⟩:=A (caps:=[.ptr 1 0 0 0]) (K0:=lD g c r) (J:=vT 1) (Inv:=fun _ K _ s=>zO n K s) (acA r u hc O ag ai) (Yu u c r) (by simp[lD]) (by omega) (by have:=((nm g).1 u).2.2.1;exact this) hl ad
   (fun s H d c c' h hs=>h.aJ hs)
   (fun _ K l s x K' ev al le b z H c _ hI w _ _ hA q O hJ=>by
    have hb:=abO w (by omega) hA
    have⟨o1,o2⟩:=agx hI hb
    have⟨d,bm,bj,f3⟩:=o8 (b:=b) x al z hJ q o1 hb.len
    exact⟨_,c,d,bm,O.aJ f3 fun am h=>by subst h;simp[Lw],f3.mono fun am h=> .inr h,bj,o2⟩)
   (ago n 0) (XF c r hn) G (fun _=> .cl 10) ⟨⟨0,v,by simpa using k,m,rfl,by omega⟩,rfl⟩
  have⟨ar,w⟩:=ak (fY r);simp only[fY]at a e9;simp[-aD,e,a,i,L,e9])
 exact⟨d,h1⟩
end
structure rI(p:Nat)(E:List Ev)(H:List Ob)(c:Nat->aU):Prop where
 o:∃h v,H[p]?=some (ah 1 [[.sl h v 0 E.length]])/\H[h]?=some (.live v 5 (E.map fW))/\c h= .cl 10/\h≠p
 c:c p= .cl 10
def rI.aJ{p:Nat}{s:List Ev}{H H':List Ob}{c a:Nat->aU}(h:rI p s H c)(b:aH G9 c a H H'):rI p s H' a:=by have⟨⟨h,v,f,g,d,i⟩,e⟩:=h;have⟨j,k⟩:=b.get f (by rw[e];simp[Lw]);have⟨l,m⟩:=b.get g (by rw[d];simp[Lw]);exact⟨⟨h,v,j,l,m.trans d,i⟩,k.trans e⟩
def Av{H:List Ob}{c:Nat->aU}{p b:Nat}{E:List Ev}{le:ab}{ev:List Ev}(x:LA)(e:Int)(z:Bool)(J:rI p E H c)(K:lM le ev)(A:E.length+ev.length<=1000000000):
  ∃d,aO tz (bB tz (Go.Nx.ev tz)) 32 [aw b,.agg (cO x),.c le,aa e,aR z,aw p] H=some (aR true,d)/\rI p (E++ev) d c/\aH (· = .cl 10) c c H d:=by
 have⟨⟨h,v,j,l,B,o⟩,D⟩:=J
 have⟨n,hn⟩:=ak E.length
 have⟨m,hm⟩:=ak ev.length
 rw[hn]at j A
 rw[hm]at A
 have⟨g,s⟩:=ak (E.map fW)
 have F:g.length=n:=by rw[<-s];simpa using hn
 rw[s]at l
 have tk:g.take n=g:=ach (by omega)
 have L:(E++ev).map fW=g++ev.map fW:=by rw[agA,s]
 have fin:∀i:Nat,rI p (E++ev) ((H.set h (.live i 5 (g++ev.map fW))).set p (ah 1 [[.sl h i 0 (n+m)]])) c/\aH (· = .cl 10) c c H ((H.set h (.live i 5 (g++ev.map fW))).set p (ah 1 [[.sl h i 0 (n+m)]])):=fun i=>by
  have M:(H.set h (.live i 5 (g++ev.map fW)))[p]?=some (ah 1 [[.sl h v 0 n]]):=by rw[aay o];exact j
  refine⟨⟨⟨h,i,?_,?_,B,o⟩,D⟩,⟨by simp,fun _ _=>rfl,fun k W hc=>?_⟩⟩
  .rw[ba M,afu,hn,hm]
  .rw[aay (ain o),ba l,L]
  .rw[aay (fun e=>hc (by rw[<-e];exact D)),aay (fun e=>hc (by rw[<-e];exact B))]
 have G:∀X,(H.set h X)[p]?=some (ah 1 [[.sl h v 0 n]]):=fun X=>by rw[aay o];exact j
 rcases K with⟨rfl,rfl⟩|rfl
 .have N:m=0:=by rw[<-hm];rfl
  have O:n<=maxLen:=by unfold maxLen;omega
  have P:n*56<=140737488355328:=by omega
  subst N
  obtain⟨r,d,t,rfl,u⟩:=cG (C:=tz) (f:=32) (args:=[aw b,.agg (cO x),.c ap,aa e,aR z,aw p]) (H:=H) (fun r d=>r=aR true/\rI p (E++[]) d c/\aH (· = .cl 10) c c H d) func32 rfl (by
   simp[f32,cO,j,l,F,tk,O,P,G]
   simpa using fin (v+1))
  exact⟨d,dK (by simp) t,u⟩
 .have ⟨q,w⟩:=ak (ev.map fW)
  have Q:q.length=m:=by rw[<-w];simpa using hm
  have R:∀r∈q,r.length=5:=fun r I=>by
   rw[<-w]at I
   obtain⟨y,_,rfl⟩:=aiE.1 I
   rfl
  rw[w]at fin|-
  have S:(∀r:List ab,r∈q->r.length=5)=True:=eq_true R
  have T:(n+m<=n/\0<m)=False:=eq_false fun⟨a,b⟩=>by omega
  have U:n+m<=maxLen:=by unfold maxLen;omega
  have V:(n+m)*56<=140737488355328:=by omega
  obtain⟨r,d,t,rfl,u⟩:=cG (C:=tz) (f:=32) (args:=[aw b,.agg (cO x),bh q,aa e,aR z,aw p]) (H:=H) (fun r d=>r=aR true/\rI p (E++ev) d c/\aH (· = .cl 10) c c H d) func32 rfl (by
   simp[f32,cO,j,l,F,tk,Q,U,V,G,S,T]
   exact fin (v+1))
  exact⟨d,dK (by simp) t,u⟩
structure ahQ(n j:Nat)(K:Cl)(E:List Ev):Prop where
 b:xY AI K E
 l:K.nodes.length=n
 t:E.length<=9000*j

def kv:Reads aaD 3 (fun n:Int=>[.v (.int .i64 n)]) (fun n=>(Lit.int .i64 n).wf=true):=Sd underlying3
def SK:Reads aaD 34 (fun n:Int=>[.v (.int .i64 n)]) (fun n=>(Lit.int .i64 n).wf=true):=Sd underlying34
def ky:aaD.cellsOf 3=1:=by kernel_rfl
def ZO:aaD.cellsOf 34=1:=by kernel_rfl
def aeu:Reads aaD 112 dm (fun _=>True):=by refine wz underlying112 (by kernel_rfl:aaD.cellsOf 112=2) (fun H b W c d m cs f e=>?_);have⟨l,g⟩:=e 0 _ rfl;have⟨h,n,a⟩:=kv H b W c d m _ _ g;change aX _ _ (ajo (aaD.cellsOf 3) (ajp 0 cs))at a;rw[ky]at a;have⟨p,i⟩:=e 1 _ rfl;have⟨j,q,c1⟩:=kv H b W c d m _ _ i;change aX _ _ (ajo (aaD.cellsOf 3) (ajp 1 cs))at c1;rw[ky]at c1;refine⟨⟨h,j⟩,trivial,?_⟩;have:=(jw (o:=0) (k:=1) a (jw (o:=1) (k:=1) c1 (wY f)));exact this
def acs:Reads aaD 22 (fun l:List Edge=>[.aj (l.map dm)]) (fun l=>(l.length<=maxLen/\∀y∈l,True)):=FB underlying22 aeu (by kernel_rfl:aaD.cellsOf 112=2) (by decide) (fun _=>rfl)
def afa:aaD.cellsOf 22=1:=by kernel_rfl
def Vk:Reads aaD 24 bR (fun _=>True):=by refine wz underlying24 (by kernel_rfl:aaD.cellsOf 24=2) (fun H b W c d m cs f e=>?_);have⟨l,g⟩:=e 0 _ rfl;have⟨h,n,a⟩:=kv H b W c d m _ _ g;change aX _ _ (ajo (aaD.cellsOf 3) (ajp 0 cs))at a;rw[ky]at a;have⟨p,i⟩:=e 1 _ rfl;have⟨j,q,c1⟩:=acs H b W c d m _ _ i;change aX _ _ (ajo (aaD.cellsOf 22) (ajp 1 cs))at c1;rw[afa]at c1;refine⟨⟨h,j⟩,trivial,?_⟩;have:=(jw (o:=0) (k:=1) a (jw (o:=1) (k:=1) c1 (wY f)));exact this
def Ub:Reads aaD 26 fY (fun _=>True):=by refine wz underlying26 (by kernel_rfl:aaD.cellsOf 26=5) (fun H a W b c m cs f d=>?_);have⟨t,g⟩:=d 0 _ rfl;have⟨h,u,e⟩:=kv H a W b c m _ _ g;change aX _ _ (ajo (aaD.cellsOf 3) (ajp 0 cs))at e;rw[ky]at e;have⟨v,i⟩:=d 1 _ rfl;have⟨j,w,c1⟩:=kv H a W b c m _ _ i;change aX _ _ (ajo (aaD.cellsOf 3) (ajp 1 cs))at c1;rw[ky]at c1;have⟨x,l⟩:=d 2 _ rfl;have⟨n,y,c2⟩:=kv H a W b c m _ _ l;change aX _ _ (ajo (aaD.cellsOf 3) (ajp 2 cs))at c2;rw[ky]at c2;have⟨z,p⟩:=d 3 _ rfl;have⟨q,A,c3⟩:=kv H a W b c m _ _ p;change aX _ _ (ajo (aaD.cellsOf 3) (ajp 3 cs))at c3;rw[ky]at c3;have⟨B,r⟩:=d 4 _ rfl;have⟨s,C,c4⟩:=kv H a W b c m _ _ r;change aX _ _ (ajo (aaD.cellsOf 3) (ajp 4 cs))at c4;rw[ky]at c4;refine⟨⟨h,j,n,q,s⟩,trivial,?_⟩;have:=(jw (o:=0) (k:=1) e (jw (o:=1) (k:=1) c1 (jw (o:=2) (k:=1) c2 (jw (o:=3) (k:=1) c3 (jw (o:=4) (k:=1) c4 (wY f))))));exact this
def Xp:Reads aaD 30 (fun l:List Int=>[aG l]) (fun l=>(l.length<=maxLen/\∀y∈l,(Lit.int .i64 y).wf=true)):=FB underlying30 kv ky (by decide) (fun _=>rfl)
def abp:aaD.cellsOf 30=1:=by kernel_rfl
def aaJ(x:Act):List ab:=[I x.kind,I x.id,I x.peer,I x.hold,aG x.need]
def U7:Reads aaD 36 aaJ (fun _=>True):=by refine wz underlying36 (by kernel_rfl:aaD.cellsOf 36=5) (fun H a W b c m cs f d=>?_);have⟨t,g⟩:=d 0 _ rfl;have⟨h,u,e⟩:=SK H a W b c m _ _ g;change aX _ _ (ajo (aaD.cellsOf 34) (ajp 0 cs))at e;rw[ZO]at e;have⟨v,i⟩:=d 1 _ rfl;have⟨j,w,c1⟩:=kv H a W b c m _ _ i;change aX _ _ (ajo (aaD.cellsOf 3) (ajp 1 cs))at c1;rw[ky]at c1;have⟨x,l⟩:=d 2 _ rfl;have⟨n,y,c2⟩:=kv H a W b c m _ _ l;change aX _ _ (ajo (aaD.cellsOf 3) (ajp 2 cs))at c2;rw[ky]at c2;have⟨z,p⟩:=d 3 _ rfl;have⟨q,A,c3⟩:=kv H a W b c m _ _ p;change aX _ _ (ajo (aaD.cellsOf 3) (ajp 3 cs))at c3;rw[ky]at c3;have⟨B,r⟩:=d 4 _ rfl;have⟨s,C,c4⟩:=Xp H a W b c m _ _ r;change aX _ _ (ajo (aaD.cellsOf 30) (ajp 4 cs))at c4;rw[abp]at c4;refine⟨⟨h,j,n,q,s⟩,trivial,?_⟩;have:=(jw (o:=0) (k:=1) e (jw (o:=1) (k:=1) c1 (jw (o:=2) (k:=1) c2 (jw (o:=3) (k:=1) c3 (jw (o:=4) (k:=1) c4 (wY f))))));exact this
def abG:aaD.cellsOf 36=5:=by kernel_rfl
def Zg:Reads aaD 38 cO (fun _=>True):=by refine wz underlying38 (by kernel_rfl:aaD.cellsOf 38=10) (fun H a W b c m cs f d=>?_);have⟨v,g⟩:=d 0 _ rfl;have⟨h,w,e⟩:=kv H a W b c m _ _ g;change aX _ _ (ajo (aaD.cellsOf 3) (ajp 0 cs))at e;rw[ky]at e;have⟨x,i⟩:=d 1 _ rfl;have⟨j,y,c1⟩:=kv H a W b c m _ _ i;change aX _ _ (ajo (aaD.cellsOf 3) (ajp 1 cs))at c1;rw[ky]at c1;have⟨z,l⟩:=d 2 _ rfl;have⟨n,A,c2⟩:=kv H a W b c m _ _ l;change aX _ _ (ajo (aaD.cellsOf 3) (ajp 2 cs))at c2;rw[ky]at c2;have⟨B,p⟩:=d 3 _ rfl;have⟨q,C,c3⟩:=kv H a W b c m _ _ p;change aX _ _ (ajo (aaD.cellsOf 3) (ajp 3 cs))at c3;rw[ky]at c3;have⟨D,r⟩:=d 4 _ rfl;have⟨s,E,c4⟩:=kv H a W b c m _ _ r;change aX _ _ (ajo (aaD.cellsOf 3) (ajp 4 cs))at c4;rw[ky]at c4;have⟨F,t⟩:=d 5 _ rfl;have⟨u,G,c5⟩:=U7 H a W b c m _ _ t;change aX _ _ (ajo (aaD.cellsOf 36) (ajp 5 cs))at c5;rw[abG]at c5;refine⟨⟨h,j,n,q,s,u⟩,trivial,?_⟩;have:=(jw (o:=0) (k:=1) e (jw (o:=1) (k:=1) c1 (jw (o:=2) (k:=1) c2 (jw (o:=3) (k:=1) c3 (jw (o:=4) (k:=1) c4 (jw (o:=5) (k:=5) c5 (wY f)))))));exact this
def Zj:Reads aaD 27 (fun l:List LA=>[.aj (l.map cO)]) (fun l=>(l.length<=maxLen/\∀y∈l,True)):=FB underlying27 Zg (by kernel_rfl:aaD.cellsOf 38=10) (by decide) (fun _=>rfl)
end Go.Nx
