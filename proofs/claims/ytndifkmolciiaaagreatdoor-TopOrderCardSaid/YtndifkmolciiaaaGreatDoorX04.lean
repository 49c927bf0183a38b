/- A part of the proof. -/
import Derived.Test.YtndifkmolciiaaaGreatDoorX03
set_option linter.all false
set_option maxRecDepth 8000
set_option maxHeartbeats 1000000
open Array renaming replicate->akW
open Go.Extern.AbiNoEscape renaming same->al5
open Go.Instr renaming typeAssert->alp
open Go.IntKind renaming i64->ads
open Go.Lib renaming BuilderAt->aj7,IsBuilder->alF,byteCells->alj,indexByte->alE
open Go.Proofs.Lays renaming n138->amD,n169->amC
open Go.Proofs.Tryz renaming prog->aaD
open Go.Result renaming andThen->ai7
open Go.RowKit renaming Below->ai5
open Go.Shelf renaming Ren->amg
open Go.Value renaming int->ajl,oneCell'->aiq
open Int renaming natCast_add->ac7
open List renaming append_assoc->aio,getElem?_eq_getElem->aae,getElem?_set_self->afN,length_append->afu,length_drop->ajV,map_append->agA,map_map->ai6,map_set->aix,map_take->akH,range->aiT,replicate->ago
open Nat renaming beq->ajt
open UInt8 renaming ofNat->alU
namespace Go.Nx
open Go Go.Proofs Tryz
section
def aan{H:List Ob}{c:Nat->aU}{k:aU}{b:Nat}{e:Lk}(h:oP H c k b e)(i:ig e)(f:Fm):∃a,aO tz ay 140 [aw b,.agg (cd f)] H=some (eI (jc e f).2,a)/\oP a c k b (jc e f).1/\aH (· =k) c c H a:=by have⟨q,g,j,d,l⟩:=h;obtain⟨n,a,o,rfl,p,r⟩:=acJ f g j i.ok;exact⟨_,dK (by simp) o,⟨n,ba g,p,d,fun m hm=>l m (r m hm)⟩,pX (b:=b) (h:=b) (by simp) d d fun m hm _=>aay (ain hm)⟩
def Mb(H:List Ob)(l:bx)(a:l.length<=1000000):aO tz ay 54 [.c (Sg l)] H=some (.aM [.agg (cd (lB (jU l)).1),aa (lB (jU l)).2],H):=by have h:=V6 l a;simp[h,cd]
section
variable{H:List Ob}{c:Nat->aU}{g:Nat->aU}{p nt:Nat}{room:Int}{e:Bool->Nat}{gt:Bool->ab}{P:Pp}
def dO.cut(a:dO P)(s:Bool)(k:Int):dO (P.cut s k):=by
 have e:∀t,(P.cut s k).q t=up P.q (!s) ((P.q (!s)).eraseIdx k.toNat) t:=fun _=>rfl;refine⟨a.l,fun t=>?_,fun t x c=>?_,a.r⟩
 .rw[e];by_cases h:t=!s
  .subst h;rw[pV];exact aiZ (List.length_eraseIdx_le _ _) (a.q _)
  .rw[ql _ _ h];exact a.q t
 .rw[e]at c;by_cases h:t=!s
  .subst h;rw[pV]at c;exact a.b _ _ (List.mem_of_mem_eraseIdx c)
  .rw[ql _ _ h]at c;exact a.b _ _ c
def lL.xe{a:List Ob}{f:Nat->aU}{s:Bool}{b:ab}{m:Nat}(o:fU g)(h:lL H c g p e gt nt room P)(d:aH (fun x=>x=g 0\/x=g (6+cj s)) c f H a)(hp:a[p]?=some (ah 5 [[.ptr (e false) 0 0 0,.ptr (e true) 0 0 0,up gt s b false,up gt s b true,.ptr nt 0 0 0]]))(u:uu a f (g (6+cj s)) b m):lL a f g p e (up gt s b) nt room ⟨P.e,P.q,P.room,up P.dT s m⟩:=by
 have y:=nh s
 have j:∀ {i:Nat},i≠0->i≠6+cj s-> ¬(g i=g 0\/g i=g (6+cj s)):=fun v w e=>by
  rcases e with e|e
  .exact v (o.1 _ _ e)
  .exact w (o.1 _ _ e)
 refine⟨hp,(d.jS p (bf h.hp)).trans h.cp,fun t=>(h.l t).aJ d (j (by omega) (by have:=nh t;omega)),fun t=>?_,h.n.aJ d fun i _ _=>j (by omega) (by omega),h.r⟩;by_cases k:t=s
 .subst k;simp only[pV];exact u
 .simp only[ql _ _ k];exact(h.t t).aJ d (j (by omega) fun e=>k (by cases s<;>cases t<;>simp_all[cj]))
def aaQ(N:fU g)(h:eB H c g p P)(hi:dO P)(s:Bool)(k:Int)(al:P.dT s<=1000000000):∃d Y,aO tz ay 84 [aw p,aa (bI s),aa k] H=some (eI (P.jt s k).2,Y)/\eB Y d g p (P.jt s k).1/\aH (Gp g) c d H Y:=by
 have⟨e,gt,nt,room,h⟩:=h;have⟨c1,y,j,n1,O⟩:=PV N h.n (!s) k;have D:=h.sk N O n1;rw[xO]at j;have Q:=rV H p s;have hp:=h.hp;have Z:=vP s
 have⟨aA,R,z,d,hv,r,S⟩:=cG (C:=tz) (f:=84) (args:=[aw p,aa (bI s),aa k]) (H:=H) (fun x R=>∃d,x=eI (P.jt s k).2/\eB R d g p (P.jt s k).1/\aH (Gp g) c d H R) func84 rfl (by
  have am:dV (P.q !s) k=P.look s k:=rfl;rw[am]at j;unfold Pp.jt;cases u:P.look s k with
  |none=>rw[u]at j;rw[QH u,BT]at D;simp only[eI,ajj,ajg]at j|-;simp[-aD,f84,Q,hp,j,Z];exact⟨c1,⟨e,gt,nt,room,D⟩,O.mono fun x i=>rL i⟩
  |some b=>
  have aB:b.length<=1000:=by
   unfold Pp.look dV at u;split at u
   .cases u
   .exact hi.b _ _ (aiD u)
  rw[u]at j;rw[Rw u]at D;simp only[eI,aiU,ajf]at j;have E:=Mb y b (by omega);have⟨f,hf⟩:=ak ((lB (jU b)).1);rw[hf]at E;simp only[cd]at E;by_cases T:(lB (jU b)).2=0
  case neg=>
   simp only[T,if_false,eI,ajj,ajg];simp[-aD,f84,Q,hp,j,Z,E,T];refine⟨ext c1 y.length .none,⟨e,gt,nt,room,D.aJ (aH.of (K:=fun _=>False) _ ?_ ?_) fun _ _ h=>h⟩,(O.mono fun x i=>rL i).trans (aH.of _ ?_ ?_)⟩
   .simp
   .exact fun m hm _=>aaK hm
   .simp
   .exact fun m hm _=>aaK hm
  rw[T]at E;simp only[T,if_true,hf];have⟨c2,an⟩:=ak (ext c1 y.length .none);have⟨G,U⟩:=ak (y++[ah 5 [cd f]]);have ag:aH (fun _=>False) c1 c2 y G:=by rw[<-an, <-U];exact aH.of _ (by simp) fun m hm _=>aaK hm
  have r2:=D.aJ ag fun _ _ h=>h;have gF:G[y.length]?=some (ah 5 [cd f]):=by rw[<-U];simp
  have⟨a,ai,l2,aj⟩:=aan (r2.l s) (hi.l s) f;have A:=r2.zT N aj l2;simp only[cd]at ai gF U;have ao:=r2.hp;have w:=A.hp;have sA:aH (Gp g) c c2 H a:=((O.mono fun x i=>rL i).trans (ag.mono fun _ h=>h.elim)).trans (aj.mono fun x i=>⟨_,by have:=nh s;omega,i⟩);have⟨o,ho⟩:=ak ((jc (P.e s) f).2);have ap:(jc ((P.cut s k).e s) f).2=o:=ho;rw[ap];have aq:aO tz ay 140 [kV (e s) 0 0 0,.agg [I f.kind,I f.link,U8 f.seq,U8 f.qD,Sg f.body]] G=some (.aM [.c (Sg (o.getD [])),aR o.isSome],a):=by rw[<-ho];exact ai
  have hP:((P.cut s k).jO s (jc ((P.cut s k).e s) f).1)=⟨(P.jO s (jc (P.e s) f).1).e,up P.q (!s) ((P.q !s).eraseIdx k.toNat),P.room,P.dT⟩:=rfl;rw[hP];simp only[f84,bX];rw[fK,fK,fK,fK,fK,fK];refine bp [(0,aw p),(1,aa (bI s)),(9,aR o.isSome),(12,.c (Sg (o.getD [])))] (fun G=>G=a) ?_ ?_
  .cases s<;>simp only[bI,aeb,if_false,if_true,Bool.not_false,Bool.not_true]at Q j Z|- <;>simp[-aD,Q,hp,j,E,U,gF,ao,aq,show ads.wrap 1=1 from rfl,show ads.wrap 0=0 from rfl]
  rintro en G3⟨a0,V,F,J,_⟩ar;obtain rfl:a=G3:=ar.symm;cases o with
  |none=>simp only[ajg,ajj]at F J;simp[-aD,F,J];exact⟨rfl,c2,⟨e,gt,nt,room,A⟩,sA⟩
  |some t=>
   simp only[ajf,aiU]at F J;have lp:=bf w;have aC:(P.jt s k).1=(P.jt s k).1:=rfl
   have fin:∀(L:ab) (B:List Ob),aH (fun x=>x=g 0\/x=g (6+cj s)) c2 (ext c2 a.length (g (6+cj s))) a B->B[p]?=some (ah 5 [[.ptr (e false) 0 0 0,.ptr (e true) 0 0 0,up gt s L false,up gt s L true,.ptr nt 0 0 0]])->uu B (ext c2 a.length (g (6+cj s))) (g (6+cj s)) L (P.dT s+1)->∃d,au.aM [.c (Sg t),aR true]=eI (some t)/\eB B d g p ((⟨(P.jO s (jc (P.e s) f).1).e,up P.q (!s) ((P.q !s).eraseIdx k.toNat),P.room,P.dT⟩:Pp).zd s (some t))/\aH (Gp g) c d H B:=fun L B s4 av ax=>by
    refine⟨_,rfl,⟨e,up gt s L,nt,room,A.xe N s4 av ax⟩,sA.trans (s4.mono fun x i=>?_)⟩;rcases i with i|i
    .exact ⟨0,by omega,i⟩
    .exact ⟨_,by have:=nh s;omega,i⟩
   have⟨n,hn⟩:=ak (P.dT s);rw[hn]at fin al;have az:uu a c2 (g (6+cj s)) (gt s) n:=by rw[<-hn];exact A.t s
   have M:∀K,(a++K)[p]?=some (ah 5 [[.ptr (e false) 0 0 0,.ptr (e true) 0 0 0,gt false,gt true,.ptr nt 0 0 0]]):=fun K=>by rw[aaK lp];exact w
   rcases az with⟨z,r⟩|⟨h,v,rows,z,r,S,h4⟩
   .have h5:∀X,((a++[Ob.live 0 1 [[Sg t]],Ob.live 0 1 [[Sg t]]]).set p X)[p]?=some X:=fun X=>ba (M _);have ad:=fin (.sl (a.length+1) 0 0 1) ((a++[Ob.live 0 1 [[Sg t]],Ob.live 0 1 [[Sg t]]]).set p (Ob.live 0 5 [[.ptr (e false) 0 0 0,.ptr (e true) 0 0 0,up gt s (.sl (a.length+1) 0 0 1) false,up gt s (.sl (a.length+1) 0 0 1) true,.ptr nt 0 0 0]])) (aH.of _ (by simp) fun m hm W=>by rw[aay (fun e=>W (.inl (by rw[<-e];exact A.cp))),aaK hm]) (h5 _) (.inr ⟨a.length+1,0,[[Sg t]],by rw[z],by rw[aay (by omega),jd];rfl,by rw[z];rfl,jr (by omega)⟩)
    cases s<;>simp only[bI,aeb,if_false,if_true]at V<;>rw[r]at M w<;>simp[a0,V,F,J,M,w,so];all_goals have⟨d,bm,bj⟩:=ad;exact⟨bm,d,bj⟩
   .have ae:h≠p:=fun e=>by rw[e,w]at r;cases r
    have gh:∀K,(a++K)[h]?=some (.live v 1 rows):=fun K=>by rw[aaK (bf r)];exact r
    have af:∀K X,((a++K).set h X)[p]?=some (ah 5 [[.ptr (e false) 0 0 0,.ptr (e true) 0 0 0,gt false,gt true,.ptr nt 0 0 0]]):=fun K X=>by rw[aay ae];exact M K
    have m1:n+1<=maxLen:=by unfold maxLen;omega
    have m2:(n+1)*16<=140737488355328:=by omega
    have ht:rows.take n=rows:=ach (by omega);have ad:=fin (.sl h (v+1) 0 (n+1)) (((a++[Ob.live 0 1 [[Sg t]]]).set h (Ob.live (v+1) 1 (rows++[[Sg t]]))).set p (Ob.live 0 5 [[.ptr (e false) 0 0 0,.ptr (e true) 0 0 0,up gt s (.sl h (v+1) 0 (n+1)) false,up gt s (.sl h (v+1) 0 (n+1)) true,.ptr nt 0 0 0]])) (aH.of _ (by simp) fun m hm W=>by rw[aay (fun e=>W (.inl (by rw[<-e];exact A.cp))),aay (fun e=>W (.inr (by rw[<-e];exact h4))),aaK hm]) (ba (af _ _)) (.inr ⟨h,v+1,rows++[[Sg t]],rfl,by rw[aay (ain ae),ba (gh _)],by simp[S],by rw[ji (bf r)];exact h4⟩)
    cases s<;>simp only[bI,aeb,if_false,if_true]at V<;>rw[z]at M w af<;>simp[a0,V,F,J,w,so,gh,af,m1,m2,ht,S,ain ae];all_goals have⟨d,bm,bj⟩:=ad;exact⟨bm,d,bj⟩)
 exact⟨d,R,dK (by simp) (by rw[z,hv]),r,S⟩
end
end
def Z2(n room:Int):aS tz ay 2 215 [aa n,aa room]=some (aw 1,[.mp [],ah 3 [[I (min (max n 0) 64),I room,.mr 0]]]):=by refine be func215 rfl ?_;simp[f215,Cm]
def U6(H:List Ob)(room:Int):aO tz ay 215 [aa 2,aa room] H=some (kV (1+H.length) 0 0 0,H++[.mp [],ah 3 [[I 2,I room,.mr H.length]]]):=by have h:=Z2 2 room;rw[show min (max (2:Int) 0) 64=2 from rfl]at h;simp[h,eo,pR,jy,oz,rp,eR,dY,dZ,cw,bD,bA];omega
def aaa(H:List Ob)(a b d room e:Int):aO tz ay 216 [aa a,.c (U8 b),aa d,aa room,aa e] H=some (aw H.length,H++[ah 11 [cq (oy a b d room e) ap]]):=by have h:=Xu a b d room e;have f:dY H.length (ah 11 [cq (oy a b d room e) ap])=ah 11 [cq (oy a b d room e) ap]:=qy rfl;have g:oz (ah 11 [cq (oy a b d room e) ap])=true:=rfl;simp[h,eo,pR,jy,eR,dZ,f,g]
def uo(room:Int)(x:Lk):Nat->List Ob
 |0=>[.mp [],ah 3 [[I 2,I room,.mr 0]],ah 5 [[.v (.pointer none),.v (.pointer none),ap,ap,.ptr 1 0 0 0]]]
 |1=>[.mp [],ah 3 [[I 2,I room,.mr 0]],ah 5 [[.ptr 3 0 0 0,.v (.pointer none),ap,ap,.ptr 1 0 0 0]],ah 11 [cq x ap]]
 |_=>[.mp [],ah 3 [[I 2,I room,.mr 0]],ah 5 [[.ptr 3 0 0 0,.ptr 4 0 0 0,ap,ap,.ptr 1 0 0 0]],ah 11 [cq x ap],ah 11 [cq x ap]]
def YE(b d e f g room:Int):aS tz ay 2 131 [aa b,.c (U8 d),aa e,aa f,aa g,aa room]=some (aw 2,uo room (oy b d e f g) 2):=by
 refine be func131 rfl ?_;have u:=fun H=>U6 H room;have h:=fun H=>aaa H b d e f g;have⟨x,v⟩:=ak (oy b d e f g);rw[v]at h|-;simp[-aD,f131,u]
 refine Ends.loop (fun S=>S.env.get 13=some (aw 2)/\S.bH=[]/\S.heap=uo room x 2)
  (gO (fun j:Nat=>[(13,aw 2),(19,aa j),(0,aa b),(1,.c (U8 d)),(2,aa e),(3,aa f),(4,aa g)]) (fun j G=>j<=2/\G=uo room x j) [] (fun j=>2-j) _ [13,19,0,1,2,3,4] (fun _=>rfl) ?_ 0 _ (by simp) ⟨by omega,rfl⟩ rfl) ?_
 .rintro j⟨w,G,y⟩i⟨l,m⟩n;simp only at i l m n;subst m n;simp at i;have⟨a,k,o,p,q,r,s⟩:=i;match j,l with
  |0,_=>simp[-aD,uo,a,k,o,p,q,r,s,h];exact⟨1,by omega,rfl,by omega,rfl⟩
  |1,_=>simp[-aD,uo,a,k,o,p,q,r,s,h];exact⟨2,by omega,rfl,by omega,rfl⟩
  |2,_=>simp[-aD,uo,a,k]
 .rintro⟨w,G,y⟩⟨a,rfl,t⟩;simp only at a t;subst t;simp[a]
def tS(c:Nat->aU)(g:Nat->aU)(n m:Nat):aU:=if m<n then c m else if m<n+2 then g 3 else if m=n+2 then g 0 else if m=n+3 then g 1 else g 2
def Mf{a:Type}{H:List a}{n:Nat}(l:List a)(k:Nat)(hn:H.length=n):(H++l)[k+n]?=l[k]?:=by rw[<-hn,alm];exact jd _ _ _
def afz{g:Nat->aU}(H:List Ob)(c:Nat->aU)(b d f room:Int):∃p o l,aO tz ay 131 [aa 1,.c (U8 0),aa b,aa d,aa f,aa room] H=some (aw p,l)/\eB l o g p (wV b d f room)/\aH (fun _=>False) c o H l/\H.length<=p:=by
 have h:=YE 1 0 b d f room;have⟨x,j⟩:=ak (oy 1 0 b d f);have q:∀s,(wV b d f room).e s=x:=fun _=>j;have r:x.queue=[]:=by rw[<-j];rfl
 rw[j]at h;clear j;have⟨n,hn⟩:=ak H.length;have t:uo room x 2=[.mp [],ah 3 [[I 2,I room,.mr 0]],ah 5 [[.ptr 3 0 0 0,.ptr 4 0 0 0,ap,ap,.ptr 1 0 0 0]],ah 11 [cq x ap],ah 11 [cq x ap]]:=rfl;rw[t]at h;have u:dY n (ah 11 [cq x ap])=ah 11 [cq x ap]:=qy rfl;have v:oz (ah 11 [cq x ap])=true:=rfl;have⟨K,a⟩:=ak ([.mp [],ah 3 [[I 2,I room,.mr n]],ah 5 [[.ptr (3+n) 0 0 0,.ptr (4+n) 0 0 0,ap,ap,.ptr (1+n) 0 0 0]],ah 11 [cq x ap],ah 11 [cq x ap]]:List Ob);have i:∀k,(H++K)[k+n]?=K[k]?:=fun k=>Mf _ _ hn;refine⟨2+n,tS c g n,H++K,?_,?_,?_,by omega⟩
 .rw[<-a];simp[h,hn,eo,pR,jy,oz,rp,eR,dY,dZ,cw,bD,bA];exact⟨.inl rfl,by omega,⟨by omega,by omega,by omega⟩,rfl⟩
 .refine ⟨fun s=>if s=true then 4+n else 3+n,fun _=>ap,1+n,room,⟨by rw[i 2, <-a];rfl,?_,fun s=>?_,fun s=> .inl ⟨rfl,rfl⟩,⟨n,[],⟨by rw[i 1, <-a];rfl,?_,rfl,?_,?_,fun s=> .inl ⟨rfl,rfl⟩⟩⟩,rfl⟩⟩
  .show tS c g n (2+n)=g 0;unfold tS;rw[if_neg (by omega),if_neg (by omega),if_pos (by omega)]
  .rw[q s];refine⟨ap,?_,.inl ⟨r,rfl⟩,?_,by simp[rf]⟩
   .cases s
    .exact (i 3).trans (by rw[<-a];rfl)
    .exact (i 4).trans (by rw[<-a];rfl)
   .unfold tS;cases s
    .simp only[aeb,if_false];rw[if_neg (by omega),if_neg (by omega),if_neg (by omega),if_pos (by omega)];rfl
    .simp only[if_true];rw[if_neg (by omega),if_neg (by omega),if_neg (by omega),if_neg (by omega)];rfl
  .have:=i 0;rw[aiQ]at this;rw[this, <-a];rfl
  .unfold tS;rw[if_neg (by omega),if_pos (by omega)]
  .unfold tS;rw[if_neg (by omega),if_pos (by omega)]
 .refine ⟨by simp,fun m hm=>?_,fun m hm _=>aaK hm⟩;unfold tS;rw[if_pos (by omega)]
section
def uh(H:List Ob)(q:ab)(l:List cU):Prop:=(l=[]/\q=ap)\/∃(h v a:Nat) (rows:List (List ab)),q= .sl h v a l.length/\H[h]?=some (.live v 3 rows)/\(rows.drop a).take l.length=l.map br/\a+l.length=rows.length
def uh.lt{H:List Ob}{q:ab}{l:List cU}(h:uh H q l):∀m∈rf q,m<H.length:=by
 rcases h with⟨_,rfl⟩|⟨h,v,b,rows,rfl,a,_⟩
 .intro m hm;simp[rf]at hm
 .intro m hm;simp[rf]at hm;subst hm;exact bf a
def uh.same{H a:List Ob}{q:ab}{l:List cU}(h:uh H q l)(b:∀m∈rf q,a[m]?=H[m]?):uh a q l:=by
 rcases h with h|⟨h,v,c,rows,rfl,d,e⟩
 .exact .inl h
 .exact .inr ⟨h,v,c,rows,rfl,by rw[b h (by simp[rf])];exact d,e⟩
def nT(H:List Ob)(c:Nat->aU)(k:aU)(t:Nat)(T:Tr):Prop:= ∃q,H[t]?=some (ah 2 [[q,I T.bO]])/\uh H q T.left/\c t=k/\∀m∈rf q,c m=k
def nT.aJ{H H':List Ob}{c e:Nat->aU}{k:aU}{K:aU->Prop}{t:Nat}{T:Tr}(h:nT H c k t T)(a:aH K c e H H')(f:¬K k):nT H' e k t T:=by
 have⟨q,b,d,g,i⟩:=h;refine⟨q,?_,d.same fun m hm=>a.aJ m (d.lt m hm) (by rw[i m hm];exact f),?_,fun m hm=>by rw[a.jS m (d.lt m hm)];exact i m hm⟩
 .rw[a.aJ t (bf b) (by rw[g];exact f)];exact b
 .rw[a.jS t (bf b)];exact g
def eB.aJ{H H':List Ob}{c a:Nat->aU}{g:Nat->aU}{K:aU->Prop}{p:Nat}{P:Pp}(h:eB H c g p P)(b:aH K c a H H')(d:∀i,i<=7-> ¬K (g i)):eB H' a g p P:=by have⟨e,f,j,room,h⟩:=h;exact⟨e,f,j,room,h.aJ b d⟩
def eB.ob{H:List Ob}{c:Nat->aU}{g:Nat->aU}{p:Nat}{P:Pp}(h:eB H c g p P):∃r,H[p]?=some (ah 5 [r]):=by have⟨e,a,b,room,h⟩:=h;exact⟨_,h.hp⟩
def tv(H:List Ob)(c:Nat->aU)(q:ab)(l:List Nd):Prop:=(l=[]/\q= .aj [])\/∃h v,q= .sl h v 0 l.length/\H[h]?=some (.live v 10 (l.map aT))/\c h= .cl 1
def tv.aJ{H H':List Ob}{c a:Nat->aU}{K:aU->Prop}{q:ab}{l:List Nd}(h:tv H c q l)(d:aH K c a H H')(e:¬K (.cl 1)):tv H' a q l:=by
 rcases h with h|⟨h,v,f,g,b⟩
 .exact .inl h
 .have ⟨i,j⟩:=d.get g (by rw[b];exact e);exact .inr ⟨h,v,f,i,j.trans b⟩
abbrev gP(x y:Nat):Nat->aU:= .pp x y
def sD(x y:Nat):fU (gP x y):=⟨fun i j h=>by cases h;rfl,fun i h=>by cases h⟩
abbrev Lw(k:aU):Prop:=k= .none\/∃j,9<=j/\k= .cl j
structure jv(H:List Ob)(c:Nat->aU)(b:Nat)(q:ab)(mp mt:Nat)(es et:List (List ab×ab))(K:Cl):Prop where
 hb:H[b]?=some (ah 8 [[I K.win,I K.fB,I K.wait,I K.room,I K.hold,q,.mr mp,.mr mt]])
 hn:tv H c q K.nodes
 hp:H[mp]?=some (.mp es)
 ht:H[mt]?=some (.mp et)
 kp:mS es=true
 kt:mS et=true
 cb:c b= .cl 0
 cp:c mp= .cl 2
 ct:c mt= .cl 3
 pp:∀x y:Nat,(ec es [(x:Int),(y:Int)]=none/\K.pp x y=wV K.win K.fB K.wait K.room)\/∃p,ec es [(x:Int),(y:Int)]=some (.ptr p 0 0 0)/\eB H c (gP x y) p (K.pp x y)
 tr:∀x y:Nat,(ec et [(x:Int),(y:Int)]=none/\K.tr x y=⟨[],0⟩)\/∃t,ec et [(x:Int),(y:Int)]=some (.ptr t 0 0 0)/\nT H c (.tr x y) t (K.tr x y)
def bK(H:List Ob)(c:Nat->aU)(b:Nat)(K:Cl):Prop:= ∃q mp mt es et,jv H c b q mp mt es et K
section
variable{H:List Ob}{c:Nat->aU}{b mp mt:Nat}{q:ab}{es et:List (List ab×ab)}{K:Cl}
def jv.aJ{H':List Ob}{j:Nat->aU}{X:aU->Prop}(h:jv H c b q mp mt es et K)(a:aH X c j H H')(l:∀k,X k->Lw k):jv H' j b q mp mt es et K:=by
 have d:∀ {k:aU}, ¬Lw k-> ¬X k:=fun hn m=>hn (l _ m);have⟨n,o⟩:=a.get h.hb (by rw[h.cb];exact d (by simp));have⟨r,s⟩:=a.get h.hp (by rw[h.cp];exact d (by simp));have⟨t1,t2⟩:=a.get h.ht (by rw[h.ct];exact d (by simp));refine⟨n,h.hn.aJ a (d (by simp)),r,t1,h.kp,h.kt,o.trans h.cb,s.trans h.cp,t2.trans h.ct,fun x y=>?_,fun x y=>?_⟩
 .rcases h.pp x y with g|⟨p,e,f⟩
  .exact .inl g
  .exact .inr ⟨p,e,f.aJ a fun i _=>d (by simp)⟩
 .rcases h.tr x y with g|⟨p,e,f⟩
  .exact .inl g
  .exact .inr ⟨p,e,f.aJ a (d (by simp))⟩
def bK.aJ{H':List Ob}{a:Nat->aU}{X:aU->Prop}(h:bK H c b K)(d:aH X c a H H')(e:∀k,X k->Lw k):bK H' a b K:=by have⟨q,mp,mt,es,et,h⟩:=h;exact⟨q,mp,mt,es,et,h.aJ d e⟩
def jv.Pz{f:List Ob}{l:Nat->aU}{x y p:Nat}{o:Pp}(h:jv H c b q mp mt es et K)(F:x<=y)(a:aH (Gp (gP x y)) c l H f)(r:ec es [(x:Int),(y:Int)]=some (.ptr p 0 0 0))(s:eB f l (gP x y) p o):jv f l b q mp mt es et (K.eO x y o):=by
 have d:∀ {k:aU},(∀i,k≠ .pp x y i)-> ¬Gp (gP x y) k:=fun hn ⟨i,_,t⟩=>hn i t;have⟨w,z⟩:=a.get h.hb (by rw[h.cb];exact d (by simp));have⟨A,B⟩:=a.get h.hp (by rw[h.cp];exact d (by simp));have⟨t1,t2⟩:=a.get h.ht (by rw[h.ct];exact d (by simp));refine⟨w,h.hn.aJ a (d (by simp)),A,t1,h.kp,h.kt,z.trans h.cb,B.trans h.cp,t2.trans h.ct,fun u v=>?_,fun u v=>?_⟩
 .have C:min x y=x:=by omega
  have D:max x y=y:=by omega
  simp only[Cl.eO,C,D];by_cases e:u=x/\v=y
  .obtain ⟨rfl,rfl⟩:=e;rw[if_pos ⟨rfl,rfl⟩];exact .inr ⟨p,r,s⟩
  .rw[if_neg e];rcases h.pp u v with g|⟨p,m,n⟩
   .exact .inl g
   .exact .inr ⟨p,m,n.aJ a fun i _=>d fun j E=>e (by cases E;exact⟨rfl,rfl⟩)⟩
 .rcases h.tr u v with g|⟨p,m,n⟩
  .exact .inl g
  .exact .inr ⟨p,m,n.aJ a (d (by simp))⟩
def jv.xe{d:List Ob}{f:Nat->aU}{x y t:Nat}{l:Tr}(h:jv H c b q mp mt es et K)(a:aH (· = .tr x y) c f H d)(m:ec et [(x:Int),(y:Int)]=some (.ptr t 0 0 0))(n:nT d f (.tr x y) t l):jv d f b q mp mt es et (K.nj x y l):=by
 have⟨o,r⟩:=a.get h.hb (by rw[h.cb];simp);have⟨s,w⟩:=a.get h.hp (by rw[h.cp];simp);have⟨t1,t2⟩:=a.get h.ht (by rw[h.ct];simp);refine⟨o,h.hn.aJ a (by simp),s,t1,h.kp,h.kt,r.trans h.cb,w.trans h.cp,t2.trans h.ct,fun u v=>?_,fun u v=>?_⟩
 .rcases h.pp u v with g|⟨p,j,k⟩
  .exact .inl g
  .exact .inr ⟨p,j,k.aJ a fun i _=>by simp⟩
 .simp only[Cl.nj];by_cases e:u=x/\v=y
  .obtain ⟨rfl,rfl⟩:=e;rw[if_pos ⟨rfl,rfl⟩];exact .inr ⟨t,m,n⟩
  .rw[if_neg e];rcases h.tr u v with g|⟨p,j,k⟩
   .exact .inl g
   .exact .inr ⟨p,j,k.aJ a fun z=>e (by cases z;exact⟨rfl,rfl⟩)⟩
def OS(h:tv H c q K.nodes):(∃n:Nat,n=K.nodes.length/\((q= .aj []/\n=0)\/∃h v,q= .sl h v 0 n/\H[h]?=some (.live v 10 (K.nodes.map aT)))):=by
 rcases h with⟨a,b⟩|⟨h,v,a,b,d⟩
 .exact ⟨0,by rw[a];rfl,.inl ⟨b,rfl⟩⟩
 .exact ⟨_,rfl,.inr ⟨h,v,a,b⟩⟩
def nZ(h:bK H c b K)(a:Int):aO tz ay 34 [aw b,aa a] H=some (aR (decide (K.there a)),H):=by
 have⟨q,mp,mt,es,et,h⟩:=h;have d:=h.hb;have⟨n,hn,g⟩:=OS h.hn;have i:decide (K.there a)=(decide (0<=a)&&decide (a< (n:Int))):=by rw[ajY];simp only[decide_eq_true_iff,aa2];rw[hn];exact ak7
 rw[i]
 obtain⟨r,e,j,rfl,rfl⟩:=cG (C:=tz) (f:=34) (args:=[aw b,aa a]) (H:=H) (fun x e=>x=aR (decide (0<=a)&&decide (a< (n:Int)))/\e=H) func34 rfl (by
  by_cases c1:0<=a
  .rcases g with⟨rfl,rfl⟩|⟨h,v,rfl,k⟩
   .simp[f34,d,c1]
   .have l:n<=K.nodes.length:=by omega
    simp[f34,d,c1]
  .simp[f34,c1])
 exact dK (by simp) j
def vW(h:bK H c b K)(x y:Int):aO tz ay 56 [aw b,aa x,aa y] H=some (aR (decide (K.two x y)),H):=by
 have a:=nZ h x;have d:=nZ h y
 obtain⟨r,e,a,rfl,rfl⟩:=cG (C:=tz) (f:=56) (args:=[aw b,aa x,aa y]) (H:=H) (fun r e=>r=aR (decide (K.two x y))/\e=H) func56 rfl (by
  unfold Cl.two;by_cases c1:K.there x
  .rw[decide_eq_true c1]at a;by_cases c2:K.there y
   .rw[decide_eq_true c2]at d;simp[-aD,f56,a,d,c1,c2]
   .rw[decide_eq_false c2]at d;simp[-aD,f56,a,d,c1,c2]
  .rw[decide_eq_false c1]at a;simp[-aD,f56,a,c1])
 exact dK (by simp) a
end
end
section
def mZ(H:List Ob)(q:ab)(l:List Int):Prop:=(l=[]/\q=ap)\/∃h v,l≠ []/\q= .sl h v 0 l.length/\H[h]?=some (.live v 1 (l.map aC))
def mZ.aJ{H H':List Ob}{q:ab}{l:List Int}(h:mZ H q l)(a:∀m∈rf q,H'[m]?=H[m]?):mZ H' q l:=by
 rcases h with h|⟨h,v,b,rfl,c⟩
 .exact .inl h
 .exact .inr ⟨h,v,b,rfl,by rw[a h (by simp[rf])];exact c⟩
def oa(n a:Nat):List Int:=(others n a).map fun i:Nat=>(i:Int)
def aav(n a:Nat):oa (n+1) a=if n=a then oa n a else oa n a++[(n:Int)]:=by unfold oa others;rw[ajX,ajh,agA];by_cases h:n=a;all_goals simp[h]
def zi(n a:Nat):(oa n a).length<=n:=by unfold oa others;rw[ahL];exact aiZ (ah2 _ _) (by simp)
section
variable{H:List Ob}{c:Nat->aU}{b:Nat}{K:Cl}
def ML(h:bK H c b K)(a:Nat)(hn:K.nodes.length<=1000):∃q I o,aO tz ay 77 [aw b,aa a] H=some (.c q,o)/\mZ o q (oa K.nodes.length a)/\(∀m∈rf q,I m= .none)/\aH (fun _=>False) c I H o:=by
 have⟨q,mp,mt,es,et,h⟩:=h;have J:=h.hb;have⟨n,R,T⟩:=OS h.hn;rw[<-R]at hn|-
 obtain⟨ae,o,U,i,rfl,V,L,W,X⟩:=cG (C:=tz) (f:=77) (args:=[aw b,aa a]) (H:=H) (fun x o=>∃i,x= .c i/\mZ o i (oa n a)/\(∀m∈rf i,H.length<=m)/\H.length<=o.length/\∀m,m<H.length->o[m]?=H[m]?) func77 rfl (by
  simp only[f77,bX];rw[fK];refine bp [(5,.c ap),(0,aw b),(1,aa a)] (fun G=>G=H) ?_ ?_
  .simp
  rintro A G⟨M,N,O,_⟩B;obtain rfl:H=G:=B.symm;refine ef (fun S=>S.bH=[]/\∃i,S.env.get 5=some (.c i)/\mZ S.heap i (oa n a)/\(∀m∈rf i,H.length<=m)/\H.length<=S.heap.length/\∀m,m<H.length->S.heap[m]?=H[m]?) ?_ ?_
  .refine bp [(1,aa a),(11,aa n),(12,aa (0:Nat)),(5,.c ap)] (fun G=>G=H) ?_ ?_
   .rcases T with⟨rfl,rfl⟩|⟨h,v,rfl,D⟩
    .simp[J,N,O,M]
    .have af:n<=K.nodes.length:=by omega
     simp[J,N,O,M]
   rintro A G Y B;obtain rfl:H=G:=B.symm;rw[eD];refine im (fun p:Nat×ab=>[(1,aa a),(11,aa n),(12,aa p.1),(5,.c p.2)]) (fun p G=>p.1<=n/\mZ G p.2 (oa p.1 a)/\(∀m∈rf p.2,H.length<=m)/\H.length<=G.length/\∀m,m<H.length->G[m]?=H[m]?) (fun p=>n-p.1) ?_ (0,ap) Y ⟨by omega,.inl ⟨rfl,rfl⟩,by simp[rf],adt _,fun _ _=>rfl⟩ fun _=>rfl;rintro⟨j,i⟩ A G ⟨y,s,t,r,_⟩ ⟨Z,u,z,E,w⟩;simp only at y s t r Z u z E w;by_cases d:j<n
   .have F:ads.wrap ((j:Int)+1)=((j+1:Nat):Int):=cr (by omega);have k:=aav j a;by_cases e:j=a
    .rw[if_pos e]at k;subst e;simp[-ac7,y,s,t,r,d,F];exact⟨j+1,by omega,i,⟨rfl,rfl⟩,by omega,by rw[k];exact u,z,E,w⟩
    .rw[if_neg e]at k;have P:¬(j:Int)=a:=by omega
     have ad:=zi j a;have⟨l,hl⟩:=ak (oa j a);rw[hl]at u k ad;rcases u with⟨rfl,rfl⟩|⟨h,v,ag,rfl,D⟩
     .simp[-ac7,y,s,t,r,d,F,P];refine⟨j+1,by omega,_,⟨rfl,rfl⟩,by omega,.inr ⟨G.length+1,0,by rw[k];simp,by rw[k];rfl,by rw[k,jd];rfl⟩,?_,by omega,fun m hm=>by rw[aaK (by omega)];exact w m hm⟩;intro m hm;simp[rf]at hm;omega
     .have m1:l.length+1<=maxLen:=by unfold maxLen;omega
      have m2:(l.length+1)*8<=140737488355328:=by omega
      have Q:∀K,(G++K)[h]?=some (.live v 1 (l.map aC)):=fun K=>by rw[aaK (bf D)];exact D
      simp[-ac7,y,s,t,r,d,F,P,Q,m1,m2];have L:H.length<=h:=z h (by simp[rf]);refine⟨j+1,by omega,_,⟨rfl,rfl⟩,by omega,.inr ⟨h,v+1,by rw[k];simp,by rw[k];simp,by rw[k,ba (Q _)];simp[aC]⟩,?_,by omega,fun m hm=>by rw[aay (by omega),aaK (by omega)];exact w m hm⟩;intro m hm;simp[rf]at hm;omega
   .simp[s,t,r,d];have hj:j=n:=by omega
    rw[<-hj];exact⟨u,z,E,w⟩
  rintro⟨A,G,ds⟩⟨rfl,i,r,g⟩;simp only at r g;simp[r];exact g)
 exact⟨i,ext c H.length .none,o,dK (by simp) U,V,fun m hm=>jr (L m hm),aH.of _ W fun m hm _=>X m hm⟩
def yy:sF aaD 101=true:=by kernel_rfl
def zS:sF aaD 102=true:=by kernel_rfl
def Nr:rB aaD 186=true:=by kernel_rfl
def OM:rB aaD 159=true:=by kernel_rfl
def nT.ob{k:aU}{t:Nat}{T:Tr}(h:nT H c k t T):∃r,H[t]?=some (ah 2 [r]):=by have⟨q,a,_⟩:=h;exact⟨_,a⟩
structure TrQ(b:Nat)(K:Cl)(x y t:Nat)(c':Nat->aU)(H':List Ob):Prop where
 n:∃q mp mt es et,jv H' c' b q mp mt es et K/\ec et [(x:Int),(y:Int)]=some (.ptr t 0 0 0)
 r:nT H' c' (.tr x y) t (K.tr x y)
def Df(b:Nat)(q:ab)(mp mt:Nat)(e:List (List ab×ab))(K:Cl)(x y t:Nat)(a:Nat->aU)(c:List Ob):Prop:=
 (∃d,jv c a b q mp mt e d K/\ec d [(x:Int),(y:Int)]=some (.ptr t 0 0 0))/\nT c a (.tr x y) t (K.tr x y)
def Hr{q:ab}{mp mt:Nat}{s k:List (List ab×ab)}(d:jv H c b q mp mt s k K)(x y:Nat):∃t m l,aO tz ay 58 [aw b,aa x,aa y] H=some (aw t,l)/\Df b q mp mt s K x y t m l/\aH (· = .cl 3) c m H l:=by
 obtain⟨r,l,G,t,m,rfl,w,Z⟩:=cG (C:=tz) (f:=58) (args:=[aw b,aa x,aa y]) (H:=H) (fun r l=>∃t m,r=aw t/\Df b q mp mt s K x y t m l/\aH (· = .cl 3) c m H l) func58 rfl (by
  have J:=d.hb;have hm:=d.ht;have L:=d.kt;have P:=bf J;have Q:=bf hm;have z:∀K,(H++K)[b]?=H[b]?:=fun K=>aaK P;have A:∀K,(H++K)[mt]?=H[mt]?:=fun K=>aaK Q;rw[J]at z;rw[hm]at A;rcases d.tr x y with⟨B,D⟩|⟨t,B,D⟩
  .have ⟨X,n⟩:=ak (H++[ah 2 [[I x,I y]],ah 2 [[ap,I 0]]]:List Ob);have E:ec (gY k [(x:Int),(y:Int)] (.ptr (H.length+1) 0 0 0)) [(x:Int),(y:Int)]=some (.ptr (H.length+1) 0 0 0):=EQ _ _ _ rfl;have M:=Fz (a:=(x:Int)) (b:=(y:Int)) k (.ptr (H.length+1) 0 0 0) L;have R:∀u v:Nat, ¬(u=x/\v=y)->ec (gY k [(x:Int),(y:Int)] (.ptr (H.length+1) 0 0 0)) [(u:Int),(v:Int)]=ec k [(u:Int),(v:Int)]:=fun u v ad=>CN _ _ rfl fun e=>ad (by simp at e;omega);have⟨F,S⟩:=ak (gY k [(x:Int),(y:Int)] (.ptr (H.length+1) 0 0 0));rw[S]at E M R;have nb:b≠mt:=fun e=>by subst e;rw[J]at hm;cases hm
   have np:mt≠mp:=fun e=>by have G:=d.cp;have w:=d.ct;rw[e,G]at w;cases w
   have x1:X[b]?=some (ah 8 [[I K.win,I K.fB,I K.wait,I K.room,I K.hold,q,.mr mp,.mr mt]]):=by rw[<-n];exact z _
   have T:X[mt]?=some (.mp k):=by rw[<-n];exact A _
   have x3:X[H.length]?=some (ah 2 [[I x,I y]]):=by rw[<-n];simp
   have x4:X[H.length+1]?=some (ah 2 [[ap,I 0]]):=by rw[<-n];simp
   have U:∀o,(X.set mt o)[b]?=some (ah 8 [[I K.win,I K.fB,I K.wait,I K.room,I K.hold,q,.mr mp,.mr mt]]):=fun o=>by rw[aay (ain nb)];exact x1
   have V:∀o,(X.set mt o)[mt]?=some o:=fun o=>ba T;have y3:∀o,(X.set mt o)[H.length]?=some (ah 2 [[I x,I y]]):=fun o=>by rw[aay (by omega)];exact x3
   have y4:∀o,(X.set mt o)[H.length+1]?=some (ah 2 [[ap,I 0]]):=fun o=>by rw[aay (by omega)];exact x4
   have j:aH (· = .cl 3) c (ext c H.length (.tr x y)) H (X.set mt (.mp F)):=by refine aH.of _ (by rw[<-n];simp) fun ae hm hk=>?_;rw[aay (fun e=>hk (by rw[<-e];exact d.ct)), <-n,aaK hm]
   have hq:Df b q mp mt s K x y (H.length+1) (ext c H.length (.tr x y)) (X.set mt (.mp F)):=by
    have W:nT (X.set mt (.mp F)) (ext c H.length (.tr x y)) (.tr x y) (H.length+1) (K.tr x y):=by rw[D];exact⟨ap,y4 _,.inl ⟨rfl,rfl⟩,jr (by omega),by simp[rf]⟩
    have⟨p1,p2⟩:=j.get d.hp (by rw[d.cp];simp);refine⟨⟨F,⟨U _,d.hn.aJ j (by simp),p1,V _,d.kp,M,by rw[ji P];exact d.cb,p2.trans d.cp,by rw[ji Q];exact d.ct,fun u v=>?_,fun u v=>?_⟩,E⟩,W⟩
    .rcases d.pp u v with g|⟨p,N,O⟩
     .exact .inl g
     .exact .inr ⟨p,N,O.aJ j fun i _=>by simp⟩
    .by_cases e:u=x/\v=y
     .obtain ⟨rfl,rfl⟩:=e;exact .inr ⟨_,E,W⟩
     .rw[R u v e];rcases d.tr u v with g|⟨p,N,O⟩
      .exact .inl g
      .exact .inr ⟨p,N,O.aJ j (by simp)⟩
   simp[f58,z,A,T,zS,OM,nX,rn,iF,L,B,li,n,U,V,y3,S,E,M];exact⟨_,hq,j⟩
  .have ⟨r,hp⟩:=D.ob;have Y:∀K,(H++K)[t]?=H[t]?:=fun K=>aaK (bf hp);rw[hp]at Y;simp[f58,z,A,zS,OM,nX,iF,L,B,Y,li];have j:aH (fun _=>False) c (ext c H.length .none) H (H++[ah 2 [[I x,I y]]]):=aH.of _ (by simp) fun ae hm _=>aaK hm;exact⟨_,⟨⟨k,d.aJ j fun _ h=>h.elim,B⟩,D.aJ j fun h=>h⟩,j.mono fun _ h=>h.elim⟩)
 exact⟨t,m,l,dK (by simp) G,w,Z⟩
def Pr(h:bK H c b K)(x y:Nat):∃t d a,aO tz ay 58 [aw b,aa x,aa y] H=some (aw t,a)/\TrQ b K x y t d a/\aH (· = .cl 3) c d H a:=by have⟨q,mp,mt,e,n,f⟩:=h;have⟨t,d,a,g,⟨⟨i,j,k⟩,l⟩,m⟩:=Hr f x y;exact⟨t,d,a,g,⟨⟨q,mp,mt,e,i,j,k⟩,l⟩,m⟩
end
end
section
variable{x y:Nat}
def aeB(a b x y:Int):eM [Sh.int,Sh.int] [I a,I b] [I x,I y]=some (decide (a=x)&&decide (b=y)):=by
 have h:∀a b:Int,lY Sh.int (I a) (I b)=some (decide (a=b)):=fun a b=>by
  simp only[lY];by_cases h:a=b
  .subst h;simp
  .simp[h]
 simp[eM,h]
structure IW(b:Nat)(K:Cl)(x y p:Nat)(c':Nat->aU)(H':List Ob):Prop where
 n:∃q mp mt es et,jv H' c' b q mp mt es et K/\ec es [((min x y:Nat):Int),((max x y:Nat):Int)]=some (.ptr p 0 0 0)
 r:eB H' c' (gP (min x y) (max x y)) p (K.pipe x y)
def IW.bJ{b:Nat}{K:Cl}{p:Nat}{c d:Nat->aU}{H f:List Ob}{a:Pp}(h:IW b K x y p c H)(g:aH (Gp (gP (min x y) (max x y))) c d H f)(i:eB f d (gP (min x y) (max x y)) p a):bK f d b (K.eO x y a):=by
 have⟨q,mp,mt,j,k,l,m⟩:=h.n;have:=l.Pz (by omega) g m i;refine⟨q,mp,mt,j,k,?_⟩;have e:K.eO (min x y) (max x y) a=K.eO x y a:=by unfold Cl.eO;rw[show min (min x y) (max x y)=min x y by omega,show max (min x y) (max x y)=max x y by omega]
 rw[<-e];exact this
section
variable{H:List Ob}{c:Nat->aU}{b:Nat}{K:Cl}
def zu(b:Nat)(q:ab)(mp mt:Nat)(e:List (List ab×ab))(K:Cl)(x y p:Nat)(a:Nat->aU)(c:List Ob):Prop:=
 (∃d,jv c a b q mp mt d e K/\ec d [((min x y:Nat):Int),((max x y:Nat):Int)]=some (.ptr p 0 0 0))/\eB c a (gP (min x y) (max x y)) p (K.pipe x y)
def Rn{q:ab}{mp mt:Nat}{n t:List (List ab×ab)}(w:jv H c b q mp mt n t K)(al:x≠y):∃p m k,aO tz ay 78 [aw b,aa x,aa y] H=some (.aM [aw p,aa (bI (cT x y))],k)/\zu b q mp mt t K x y p m k/\aH (· = .cl 2) c m H k:=by
 obtain⟨r,k,O,p,m,rfl,P,h3⟩:=cG (C:=tz) (f:=78) (args:=[aw b,aa x,aa y]) (H:=H) (fun r k=>∃p m,r= .aM [aw p,aa (bI (cT x y))]/\zu b q mp mt t K x y p m k/\aH (· = .cl 2) c m H k) func78 rfl (by
  have⟨u,hu⟩:=ak (min x y);have⟨v,hv⟩:=ak (max x y);have W:min (x:Int) y=(u:Int):=by omega
  have Y:max (x:Int) y=(v:Int):=by omega
  have F:eM [Sh.int,Sh.int] [I u,I v] [I x,I y]=some (!cT x y):=by
   rw[aeB];unfold cT;by_cases d:y<x
   .rw[decide_eq_true d,decide_eq_false (by omega)];rfl
   .rw[decide_eq_false d,decide_eq_true (by omega),decide_eq_true (by omega)];rfl
  have Z:∀ {p:Nat} {m:Nat->aU} {k:List Ob},(∃n,jv k m b q mp mt n t K/\ec n [(u:Int),(v:Int)]=some (.ptr p 0 0 0))->eB k m (gP u v) p (K.pp u v)->zu b q mp mt t K x y p m k:=fun O P=>by subst hu hv;exact⟨O,P⟩
  have Q:=w.hb;have hm:=w.hp;have R:=w.kp;have lb:=bf Q;have lm:=bf hm;have gb:∀K,(H++K)[b]?=H[b]?:=fun K=>aaK lb;have gm:∀K,(H++K)[mp]?=H[mp]?:=fun K=>aaK lm;rw[Q]at gb;rw[hm]at gm;rcases w.pp u v with⟨J,L⟩|⟨p,J,L⟩
  .have ⟨X,M⟩:=ak (H++[ah 2 [[I u,I v]]]:List Ob);have⟨c1,ai⟩:=ak (ext c H.length .none);have ad:aH (fun _=>False) c c1 H X:=by rw[<-ai, <-M];exact aH.of _ (by simp) fun ae hm _=>aaK hm
   have⟨s,c2,G,r1,r2,S,r4⟩:=afz (g:=gP u v) X c1 K.win K.fB K.wait K.room;have lX:X.length=H.length+1:=by rw[<-M];simp
   have T:=w.aJ ad fun _ h=>h.elim;have l:=T.aJ S fun _ h=>h.elim;have nb:b≠mp:=fun e=>by subst e;rw[Q]at hm;cases hm
   have N:ec (gY n [(u:Int),(v:Int)] (.ptr s 0 0 0)) [(u:Int),(v:Int)]=some (.ptr s 0 0 0):=EQ _ _ _ rfl;have U:=Fz (a:=(u:Int)) (b:=(v:Int)) n (.ptr s 0 0 0) R;have e3:∀i j:Nat, ¬(i=u/\j=v)->ec (gY n [(u:Int),(v:Int)] (.ptr s 0 0 0)) [(i:Int),(j:Int)]=ec n [(i:Int),(j:Int)]:=fun i j aj=>CN _ _ rfl fun e=>aj (by simp at e;omega);have⟨B,af⟩:=ak (gY n [(u:Int),(v:Int)] (.ptr s 0 0 0));rw[af]at N U e3;have x3:X[H.length]?=some (ah 2 [[I u,I v]]):=by rw[<-M];simp
   have D:=l.hb;have z:=l.hp;have g3:G[H.length]?=some (ah 2 [[I u,I v]]):=by rw[S.aJ _ (by omega) fun h=>h];exact x3
   have y1:∀o,(G.set mp o)[b]?=some (ah 8 [[I K.win,I K.fB,I K.wait,I K.room,I K.hold,q,.mr mp,.mr mt]]):=fun o=>by rw[aay (ain nb)];exact D
   have y2:∀o,(G.set mp o)[mp]?=some o:=fun o=>ba z;have y3:∀o,(G.set mp o)[H.length]?=some (ah 2 [[I u,I v]]):=fun o=>by rw[aay (by omega)];exact g3
   have ag:c2 mp= .cl 2:=l.cp;have A:aH (· = .cl 2) c2 c2 G (G.set mp (.mp B)):=pX (b:=mp) (h:=mp) (by simp) ag ag fun ae h _=>aay (ain h);have E:aH (· = .cl 2) c c2 H (G.set mp (.mp B)):=((ad.mono fun _ h=>h.elim).trans (S.mono fun _ h=>h.elim)).trans A;have rr:eB (G.set mp (.mp B)) c2 (gP u v) s (K.pp u v):=by rw[L];exact r2.aJ A fun i _=>by simp
   have hq:zu b q mp mt t K x y s c2 (G.set mp (.mp B)):=by
    have⟨p1,p2⟩:=A.get l.ht (by rw[l.ct];simp);refine Z ⟨B,⟨y1 _,l.hn.aJ A (by simp),y2 _,p1,U,l.kt,l.cb,l.cp,l.ct,fun i j=>?_,fun i j=>?_⟩,N⟩ rr
    .by_cases e:i=u/\j=v
     .obtain ⟨rfl,rfl⟩:=e;exact .inr ⟨_,N,rr⟩
     .rw[e3 i j e];rcases l.pp i j with g|⟨p,D,z⟩
      .exact .inl g
      .exact .inr ⟨p,D,z.aJ A fun i _=>by simp⟩
    .rcases l.tr i j with g|⟨p,D,z⟩
     .exact .inl g
     .exact .inr ⟨p,D,z.aJ A (by simp)⟩
   have x1:=T.hb;have x2:=T.hp;cases V:cT x y<;>rw[V]at F<;>simp[-aD,f78,W,Y,F,x1,x2,x3,yy,Nr,nX,rn,iF,R,J,li,M,r1,z,y1,y2,y3,af,N,U,bI];all_goals exact⟨_,hq,E⟩
  .have ⟨r,hp⟩:=L.ob;have gp:∀K,(H++K)[p]?=H[p]?:=fun K=>aaK (bf hp);rw[hp]at gp;have E:aH (fun _=>False) c (ext c H.length .none) H (H++[ah 2 [[I u,I v]]]):=aH.of _ (by simp) fun ae hm _=>aaK hm;have fin:=Z ⟨n,w.aJ E fun _ h=>h.elim,J⟩ (L.aJ E fun _ _ h=>h);cases V:cT x y<;>rw[V]at F<;>simp[f78,W,Y,F,gb,gm,yy,Nr,nX,iF,R,J,gp,li,bI];all_goals exact⟨_,fin,E.mono fun _ h=>h.elim⟩)
 exact⟨p,m,k,dK (by simp) O,P,h3⟩
def uk(h:bK H c b K)(e:x≠y):∃p d a,aO tz ay 78 [aw b,aa x,aa y] H=some (.aM [aw p,aa (bI (cT x y))],a)/\IW b K x y p d a/\aH (· = .cl 2) c d H a:=by have⟨q,mp,mt,o,f,g⟩:=h;have⟨p,d,a,i,⟨⟨j,k,l⟩,m⟩,n⟩:=Rn g e;exact⟨p,d,a,i,⟨⟨q,mp,mt,j,f,k,l⟩,m⟩,n⟩
end
end
section
abbrev Gx:aU->Prop:=fun k=> ¬Lw k
def lU{k:Nat}(a:k<9)(x:aU)(h:x= .cl k):Gx x:=by subst h;simp;omega
def G8{i j:Nat}(x:aU)(h:x= .tr i j):Gx x:=by subst h;simp
def rF{i j:Nat}(x:aU)(h:Gp (gP i j) x):Gx x:=by obtain⟨k,_,rfl⟩:=h;simp
def KL(K:Cl)(x y:Nat):K.eO x y (K.pipe x y)=K:=by
 unfold Cl.eO Cl.pipe;congr 1
 funext u v
 split
 .rename_i h;rw[h.1,h.2]
 .rfl
structure dN(K:Cl):Prop where
 pp:∀x y,dO (K.pp x y)
 n:K.nodes.length<=1000
 ts:∀x y,(K.tr x y).bO<=(K.tr x y).left.length
 tl:∀x y,(K.tr x y).left.length<=1000000000
def dN.pipe{K:Cl}(h:dN K)(x y:Nat):dO (K.pipe x y):=h.pp _ _
def Bb(H:List Ob)(x:Bool):aO tz ay 100 [aR x] H=some (aa (if x=true then 0 else 211),H):=by
 have h:aS tz ay 0 100 [aR x]=some (aa (if x=true then 0 else 211),[]):=by refine be func100 rfl ?_;cases x<;>simp[f100]
 cases x<;>simp[h]<;>exact h
section
variable{H:List Ob}{c:Nat->aU}{b:Nat}{K:Cl}
def qL{x y:Int}(h:K.two x y):∃u v:Nat,x=u/\y=v/\u≠v:=by have⟨a,b,c⟩:=h;exact⟨x.toNat,y.toNat,by have:=a.1;omega,by have:=b.1;omega,by have:=a.1;have:=b.1;omega⟩
def Am(h:bK H c b K)(x y k:Int):∃i a,aO tz ay 53 [aw b,aa x,aa y,aa k] H=some (eI (K.look x y k),a)/\bK a i b K/\aH Gx c i H a:=by
 have e:=vW h x y;unfold Cl.look;by_cases d:K.two x y
 .obtain ⟨u,v,rfl,rfl,o⟩:=qL d;rw[if_pos d];rw[decide_eq_true d]at e;simp only[aim];have⟨p,c1,z,q,j,s⟩:=uk h (ain o);have⟨c2,t,l,w,m⟩:=Zp (sD _ _) j.r (cT v u) k;have n:=j.bJ m w;rw[KL]at n;unfold eI at l|-;obtain⟨r,a,g,rfl,rfl⟩:=cG (C:=tz) (f:=53) (args:=[aw b,aa u,aa v,aa k]) (H:=H) (fun r a=>r= .aM [.c (Sg (((K.pipe v u).look (cT v u) k).getD [])),aR ((K.pipe v u).look (cT v u) k).isSome]/\a=t) func53 rfl (by simp[-aD,f53,e,q,l])
  exact⟨c2,_,dK (by simp) g,n,(s.mono (lU (by omega))).trans (m.mono rF)⟩
 .rw[if_neg d];rw[decide_eq_false d]at e;unfold eI;obtain⟨r,a,g,rfl,rfl⟩:=cG (C:=tz) (f:=53) (args:=[aw b,aa x,aa y,aa k]) (H:=H) (fun r a=>r= .aM [.c (Sg []),aR false]/\a=H) func53 rfl (by simp[-aD,f53,e])
  exact⟨c,_,dK (by simp) g,h,aH.refl _ _ _⟩
def c62(h:bK H c b K)(x y k:Int):∃i a,aO tz ay 62 [aw b,aa x,aa y,aa k] H=some (aa (K.jk x y k).2,a)/\bK a i b (K.jk x y k).1/\aH Gx c i H a:=by
 have e:=vW h x y;unfold Cl.jk Cl.qV;by_cases d:K.two x y
 .obtain ⟨u,v,rfl,rfl,n⟩:=qL d;simp only[if_pos d];rw[decide_eq_true d]at e;simp only[aim];have⟨p,c1,D,o,j,q⟩:=uk h (ain n);have⟨c2,s,t,w,l⟩:=Yh (sD _ _) j.r (cT v u) k;have A:=j.bJ l w;have m:=fun H=>Bb H ((K.pipe v u).jk (cT v u) k).2;have⟨z,B⟩:=ak (if((K.pipe v u).jk (cT v u) k).2=true then(0:Int)else 211);rw[B]at m|-;obtain⟨r,a,g,rfl,rfl⟩:=cG (C:=tz) (f:=62) (args:=[aw b,aa u,aa v,aa k]) (H:=H) (fun r a=>r=aa z/\a=s) func62 rfl (by simp[-aD,f62,e,o,t,m])
  exact⟨c2,_,dK (by simp) g,A,(q.mono (lU (by omega))).trans (l.mono rF)⟩
 .simp only[if_neg d];rw[decide_eq_false d]at e;obtain⟨r,a,g,rfl,rfl⟩:=cG (C:=tz) (f:=62) (args:=[aw b,aa x,aa y,aa k]) (H:=H) (fun r a=>r=aa 211/\a=H) func62 rfl (by simp[-aD,f62,e])
  exact⟨c,_,dK (by simp) g,h,aH.refl _ _ _⟩
def Th(h:bK H c b K)(x y k:Int):∃i a,aO tz ay 63 [aw b,aa x,aa y,aa k] H=some (aa (K.double x y k).2,a)/\bK a i b (K.double x y k).1/\aH Gx c i H a:=by
 have e:=vW h x y;unfold Cl.double Cl.qV;by_cases d:K.two x y
 .obtain ⟨u,v,rfl,rfl,n⟩:=qL d;simp only[if_pos d];rw[decide_eq_true d]at e;simp only[aim];have⟨p,c1,D,o,j,q⟩:=uk h (ain n);have⟨c2,s,t,w,l⟩:=Wi (sD _ _) j.r (cT v u) k;have A:=j.bJ l w;have m:=fun H=>Bb H ((K.pipe v u).double (cT v u) k).2;have⟨z,B⟩:=ak (if((K.pipe v u).double (cT v u) k).2=true then(0:Int)else 211);rw[B]at m|-;obtain⟨r,a,g,rfl,rfl⟩:=cG (C:=tz) (f:=63) (args:=[aw b,aa u,aa v,aa k]) (H:=H) (fun r a=>r=aa z/\a=s) func63 rfl (by simp[-aD,f63,e,o,t,m])
  exact⟨c2,_,dK (by simp) g,A,(q.mono (lU (by omega))).trans (l.mono rF)⟩
 .simp only[if_neg d];rw[decide_eq_false d]at e;obtain⟨r,a,g,rfl,rfl⟩:=cG (C:=tz) (f:=63) (args:=[aw b,aa x,aa y,aa k]) (H:=H) (fun r a=>r=aa 211/\a=H) func63 rfl (by simp[-aD,f63,e])
  exact⟨c,_,dK (by simp) g,h,aH.refl _ _ _⟩
def c64(h:bK H c b K)(o:dN K)(x y k d:Int):∃j a,aO tz ay 64 [aw b,aa x,aa y,aa k,aa d] H=some (aa (K.flip x y k d).2,a)/\bK a j b (K.flip x y k d).1/\aH Gx c j H a:=by
 have g:=vW h x y;unfold Cl.flip Cl.qV;by_cases e:K.two x y
 .obtain ⟨u,v,rfl,rfl,q⟩:=qL e;simp only[if_pos e];rw[decide_eq_true e]at g;simp only[aim];have⟨p,c1,F,s,l,t⟩:=uk h (ain q);have⟨c2,w,A,B,m⟩:=XY (sD _ _) l.r (o.pipe v u) (cT v u) k d;have D:=l.bJ m B;have n:=fun H=>Bb H ((K.pipe v u).flip (cT v u) k d).2;have⟨z,E⟩:=ak (if((K.pipe v u).flip (cT v u) k d).2=true then(0:Int)else 211);rw[E]at n|-;obtain⟨r,a,i,rfl,rfl⟩:=cG (C:=tz) (f:=64) (args:=[aw b,aa u,aa v,aa k,aa d]) (H:=H) (fun r a=>r=aa z/\a=w) func64 rfl (by simp[-aD,f64,g,s,A,n])
  exact⟨c2,_,dK (by simp) i,D,(t.mono (lU (by omega))).trans (m.mono rF)⟩
 .simp only[if_neg e];rw[decide_eq_false e]at g;obtain⟨r,a,i,rfl,rfl⟩:=cG (C:=tz) (f:=64) (args:=[aw b,aa x,aa y,aa k,aa d]) (H:=H) (fun r a=>r=aa 211/\a=H) func64 rfl (by simp[-aD,f64,g])
  exact⟨c,_,dK (by simp) i,h,aH.refl _ _ _⟩
end
end
section
def Jd{P:Pp}(h:dO P)(s:Bool)(b:bx):dO (P.send s b).1:=by
 refine⟨fun t=>?_,h.q,h.b,h.r⟩;by_cases e:t=s
 .subst e;show ig (up P.e t _ t);rw[pV];exact agr (h.l t) b
 .show ig (up P.e s _ t);rw[ql _ _ e];exact h.l t
def WT(H:List Ob)(m:cU):aO tz ay 80 [.agg (br m)] H=some (.aM [.c (Sg (ju m).1),aa (ju m).2],H):=by have h:=p80 m;simp only[br]at h|-;simp[h]
def mC(s:Bool)(l:List cU)(P:Pp)(k:Nat):Pp:=(l.take k).foldl (fun P m=>(P.send s (ju m).1).1) P
def nD(s:Bool)(l:List cU)(P:Pp)(k:Nat)(m:cU):Bool:=!decide (((mC s l P k).send s (ju m).1).2=0)
def R7{s:Bool}{l:List cU}{P:Pp}{k:Nat}(h:k<l.length):mC s l P (k+1)=((mC s l P k).send s (ju l[k]).1).1:=by unfold mC;rw[aiB,aae h,ajc];rfl
def Xt{s:Bool}{P:Pp}(h:dO P):∀(l:List cU) (k:Nat),dO (mC s l P k):=fun l k=>by
 unfold mC
 have a:∀(r:List cU) (P:Pp),dO P->dO (r.foldl (fun P m=>(P.send s (ju m).1).1) P):=by
  intro r;induction r with
  |nil=>exact fun P h=>h
  |cons m r b=>exact fun P h=>b _ (Jd h s _)
 exact a _ P h
def Hh(s:Bool)(l:List cU)(P:Pp):∀(r:List cU) (k:Nat),l.drop k=r->sendAll s r (mC s l P k)=(mC s l P (jj (nD s l P) k r),if fX (nD s l P) k r<0 then r.length else(fX (nD s l P) k r).toNat-k)/\(0<=fX (nD s l P) k r->(k:Int)<=fX (nD s l P) k r)
 |[],k,h=>by simp[sendAll,jj,fX]
 |m::r,k,h=>by
  have e:k<l.length:=by
   rcases aj2 k l.length with a|a
   .exact a
   .rw[aip a]at h;cases h
  have i:l.drop k=l[k]::l.drop (k+1):=afv e
  rw[i]at h
  injection h with a j
  have⟨n,f⟩:=Hh s l P r (k+1) j
  have g:mC s l P (k+1)=((mC s l P k).send s (ju m).1).1:=by rw[R7 e,a]
  unfold sendAll fX jj
  by_cases c:((mC s l P k).send s (ju m).1).2=0
  .have b:nD s l P k m=false:=by unfold nD;rw[decide_eq_true c];rfl
   rw[if_pos c,b, <-g,n]
   simp only[aeb,if_false]
   refine⟨?_,fun h=>by have:=f h;omega⟩
   by_cases d:fX (nD s l P) (k+1) r<0
   .rw[if_pos d,if_pos d];rfl
   .rw[if_neg d,if_neg d]
    have:=f (by omega)
    congr 1
    omega
  .have b:nD s l P k m=true:=by unfold nD;rw[decide_eq_false c];rfl
   rw[if_neg c,b, <-g]
   simp only[if_true]
   refine⟨?_,fun _=>aj5 _⟩
   rw[if_neg (by omega)]
   congr 1
   omega
section
variable{H:List Ob}{c:Nat->aU}{g:Nat->aU}{p:Nat}{P:Pp}
def Wz(i:fU g)(h:eB H c g p P)(j:dO P)(s:Bool)(m:cU){t7 t8:Nat}(k:H[t7]?=some (ah 1 [[.ptr p 0 0 0]]))(l:H[t8]?=some (ah 1 [[I (bI s)]])):∃b a,aO tz ay 79 [.agg (br m),aw t7,aw t8] H=some (aR (!decide ((P.send s (ju m).1).2=0)),a)/\eB a b g p (P.send s (ju m).1).1/\aH (Gp g) c b H a:=by
 have⟨c1,n,d,o,q⟩:=Wr i h j s (ju m).1;have e:=fun H=>WT H m;simp only[br]at e|-;have⟨z,t⟩:=ak ((P.send s (ju m).1).2);rw[t]at d|-;obtain⟨r,a,u,rfl,rfl⟩:=cG (C:=tz) (f:=79) (args:=[.agg [I m.kind,I m.aP,I m.num],aw t7,aw t8]) (H:=H) (fun r a=>r=aR (!decide (z=0))/\a=n) func79 rfl (by simp[-aD,f79,e,d,k,l])
 exact⟨c1,_,dK (by simp) u,o,q⟩
end
end
section
def aeD{K:Cl}{a b:Nat}(h:(K.tr a b).bO=(K.tr a b).left.length):K.oQ a b=K:=by
 unfold Cl.oQ;rw[h,amf];simp only[sendAll,aiw];rw[KL];unfold Cl.nj
 have e:(fun x y=>if x=a/\y=b then(⟨(K.tr a b).left,(K.tr a b).left.length⟩:Tr)else K.tr x y)=K.tr:=by
  funext x y
  split
  .rename_i c;rw[c.1,c.2, <-h]
  .rfl
 show({K with tr:=fun x y=>if x=a/\y=b then _ else K.tr x y}:Cl)=K;rw[e]
def IE{s:Bool}:∀(l:List cU) {P:Pp},dO P->dO (sendAll s l P).1/\(sendAll s l P).2<=l.length
 |[],P,h=>⟨h,adt _⟩
 |m::r,P,h=>by
  unfold sendAll
  split
  .obtain ⟨a,b⟩:=IE r (Jd h s (ju m).1)
   exact⟨a,by simp;omega⟩
  .exact ⟨Jd h s _,by simp⟩
def QT{K:Cl}(h:dN K)(a b:Nat):dN (K.oQ a b):=by
 have⟨c,d⟩:=IE ((K.tr a b).left.drop (K.tr a b).bO) (s:=cT a b) (h.pipe a b);refine⟨fun x y=>?_,h.n,fun x y=>?_,fun x y=>?_⟩
 .show dO (if x=min a b/\y=max a b then _ else K.pp x y);split
  .exact c
  .exact h.pp x y
 .show (if x=a/\y=b then(⟨_,_⟩:Tr)else K.tr x y).bO<=(if x=a/\y=b then(⟨_,_⟩:Tr)else K.tr x y).left.length;split
  .have:=h.ts a b;rw[ajV]at d;simp only;omega
  .exact h.ts x y
 .show (if x=a/\y=b then(⟨_,_⟩:Tr)else K.tr x y).left.length<=_;split
  .exact h.tl a b
  .exact h.tl x y
def wS{a:Nat}:∀(l:List Nat) {K:Cl},dN K->dN (l.foldl (fun c b=>c.oQ a b) K)/\(l.foldl (fun c b=>c.oQ a b) K).nodes=K.nodes
 |[],K,h=>⟨h,rfl⟩
 |b::l,K,h=>wS l (QT h a b)
def Pq{K:Cl}(h:dN K)(a:Nat):dN (K.flush a):=(wS _ h).1
section
variable{H:List Ob}{c:Nat->aU}{b:Nat}{K:Cl}
def X2{g:Nat->aU}{p:Nat}{P:Pp}{h v f:Nat}{rows:List (List ab)}{t7 t8:Nat}{s:Bool}(m:fU g)(n:eB H c g p P)(o:dO P)(l:List cU)(hm:l.length<=maxLen)(q:H[h]?=some (.live v 3 rows))(r:∀j (L:j<l.length),rows[f+j]?=some (br l[j]))(t:H[t7]?=some (ah 1 [[.ptr p 0 0 0]]))(u:H[t8]?=some (ah 1 [[I (bI s)]]))
  (w:¬Gp g (c h)) (x:¬Gp g (c t7)) (y:¬Gp g (c t8)):∃a b,aO tz ay 82 [bd h v f l.length,.c (.bG 79 [.ptr t7 0 0 0,.ptr t8 0 0 0])] H=some (aa (fX (nD s l P) 0 l),b)/\eB b a g p (sendAll s l P).1/\aH (Gp g) c a H b:=by
 have⟨b,z,a,A,B⟩:=afC (g:=79) (caps:=[.ptr t7 0 0 0,.ptr t8 0 0 0]) l hm h v f (fun k G=>∃a,eB G a g p (mC s l P k)/\aH (Gp g) c a H G) (nD s l P)
  (fun k G i=>by
   have⟨a,_,d⟩:=i
   exact⟨rows,(d.get q w).1,r⟩)
  (fun k C G i=>by
   have⟨a,j1,d⟩:=i
   have⟨c2,D,E,F,J⟩:=Wz m j1 (Xt o l k) s l[k] (d.get t x).1 (d.get u y).1
   exact⟨D,E,c2,by rw[R7 C];exact F,d.trans J⟩) H ⟨c,n,aH.refl _ _ _⟩
 have e:=(Hh s l P l 0 rfl).1
 have K:mC s l P 0=P:=rfl
 rw[K]at e
 refine⟨a,b,?_,by rw[e];exact A,B⟩
 rw[aD,if_pos (.inr (by simp[eQ])),ay,z]
def Fl(K:Cl)(a:Nat)(l:List Nat):Cl:=l.foldl (fun c b=>c.oQ a b) K
def wE(n a:Nat):oa n a=(others n a).map fun i:Nat=>(i:Int):=rfl
def Em{n a i:Nat}(h:i∈others n a):a≠i:=by unfold others at h;simp at h;exact fun e=>h.2 e.symm
def Ea(h:bK H c b K)(m:dN K)(a:Nat):∃e o,bB tz (ev tz) 36 [aw b,aa a] H=some (.aM [],o)/\me tz (ev tz) 36 [aw b,aa a] H=some (.aM [],o)/\bK o e b (K.flush a)/\aH Gx c e H o:=by
 have⟨Q,c1,r,ay,S,i2,s1⟩:=ML h a m.n;have u:=h.aJ s1 fun _ h=>h.elim;have⟨L,U⟩:=ak (others K.nodes.length a);have aP:∀i∈L,a≠i:=fun i m=>Em (by rw[U];exact m);have bc:L.length<=1000:=by have:=zi K.nodes.length a;rw[wE,U,ahL]at this;have:=m.n;omega
 rw[wE,U]at S
 obtain⟨az,o,e1,e2,e,rfl,g,h3⟩:=acq (C:=tz) (f:=36) (args:=[aw b,aa a]) (H:=H) (fun az o=>∃e,az= .aM []/\bK o e b (K.flush a)/\aH Gx c e H o) func36 rfl (by
  have hf:K.flush a=Fl K a L:=by unfold Cl.flush Fl;rw[U]
  rw[hf];simp only[f36,bX];have⟨n,hn⟩:=ak L.length;have⟨R,hR⟩:=ak ((L.map fun i:Nat=>(i:Int)).map aC);have bd:R.length=n:=by rw[<-hR];simpa using hn
  have aQ:∀j (hj:j<L.length),R[j]?=some [I (L[j]:Int)]:=fun j hj=>by rw[<-hR,adn,adn,aae hj];rfl
  unfold mZ at S;simp only[hR]at S
  have hq:(Q=ap/\n=0)\/∃h v,Q= .sl h v 0 n/\r[h]?=some (.live v 1 R)/\c1 h= .none:=by
   rcases S with⟨u,g⟩|⟨h,v,u,rfl,g⟩
   .exact .inl ⟨g,by rw[<-hn];simpa using u⟩
   .exact .inr ⟨h,v,by rw[ahL,hn],g,i2 h (by simp[rf])⟩
  refine bp [(0,aw b),(1,aa a),(13,.c Q),(14,aa n),(15,aa (0:Nat))] (fun G=>G=r) ?_ ?_
  .rcases hq with⟨rfl,rfl⟩|⟨h,v,rfl,hh,_⟩
   .simp[-aD,ay]
   .have aA:n<=R.length:=by omega
    simp[-aD,ay]
  rintro en G g1 hG;obtain rfl:r=G:=hG.symm;rw[eD];refine im (fun j:Nat=>[(0,aw b),(1,aa a),(13,.c Q),(14,aa n),(15,aa j)]) (fun j G=>j<=n/\∃e,bK G e b (Fl K a (L.take j))/\aH Gx c1 e r G) (fun j=>n-j) ?_ 0 g1 ⟨by omega,c1,u,aH.refl _ _ _⟩ fun _=>rfl;rintro j en G ⟨V,W,X,E,F,_⟩ ⟨g2,c2,Y,Z⟩;by_cases d:j<n
  .have am:j<L.length:=by omega
   have⟨w,an⟩:=ak L[j];have aR:a≠w:=aP w (by rw[<-an];exact air am);have ao:Fl K a (L.take (j+1))=(Fl K a (L.take j)).oQ a w:=by unfold Fl;rw[aiB,aae am,an,ajc];rfl
   have ab:dN (Fl K a (L.take j)):=(wS _ m).1;have⟨p,aS⟩:=ak (Fl K a (L.take j));rw[aS]at Y ao ab;obtain⟨h,v,rfl,hh,hc⟩:=hq.resolve_left fun ad=>by omega
   have gh:G[h]?=some (.live v 1 R):=(Z.get hh (by rw[hc];simp)).1;have m1:R[j]?=some [I (w:Int)]:=by rw[aQ j am,an]
   have ae:j<R.length:=by omega
   have hw:ads.wrap ((j:Int)+1)=((j+1:Nat):Int):=cr (by omega);have⟨aB,mp,mt,es,et,hr⟩:=Y;have⟨t,c3,H3,af,⟨⟨aE,aF,aT⟩,aG⟩,s3⟩:=Hr hr a w;have aq:=ab.ts a w;have aV:=ab.tl a w;have⟨T,hT⟩:=ak (p.tr a w);rw[hT]at aG aq aV;have⟨qt,k1,k2,k3,k4⟩:=aG;by_cases c0:T.bO=T.left.length
   .have aW:=aeD (K:=p) (a:=a) (b:=w) (by rw[hT];exact c0)
    have fin:∃q,n-q<n-j/\((j+1:Nat):Int)=(q:Int)/\q<=n/\∃e,bK H3 e b (Fl K a (L.take q))/\aH Gx c1 e r H3:=
     ⟨j+1,by omega,rfl,by omega,c3,by rw[ao,aW];exact⟨aB,mp,mt,es,aE,aF⟩,Z.trans (s3.mono (lU (by omega)))⟩
    have x:=k1;rw[c0]at x;rcases k2 with⟨h5,rfl⟩|⟨g,v2,k,rows,rfl,h6,h7,h8⟩
    .rw[h5]at x;simp[-aD,-getElem?_pos,-aae,-ac7,V,W,X,E,F,d,gh,ae,m1,af,x,hw];exact fin
    .have aA:k+T.left.length<=rows.length:=by omega
     simp[-aD,-getElem?_pos,-aae,-ac7,V,W,X,E,F,d,gh,ae,m1,af,x,hw];exact fin
   .have aI:¬(T.bO:Int)=T.left.length:=by omega
    obtain⟨g,v2,k,rows,rfl,h6,h7,h8⟩:=k2.resolve_left fun ad=>by rw[ad.1]at c0 aq;simp at c0 aq;omega
    have aA:k+T.left.length<=rows.length:=by omega
    have⟨aK,c4,J,ar,⟨⟨aX,aY,aZ⟩,a0⟩,s4⟩:=Rn aF aR;have ag:c3 g= .tr a w:=k4 g (by simp[rf]);have t4:=s4.get k1 (by rw[k3];simp);have r4:=s4.get h6 (by rw[ag];simp);have⟨s,hs⟩:=ak (cT a w);rw[hs]at ar;have⟨G5,M⟩:=ak (J++[ah 1 [[.ptr aK 0 0 0]],ah 1 [[I (bI s)]]]);have⟨c5,au⟩:=ak (ext c4 J.length .none);have N:aH (fun _=>False) c4 c5 J G5:=by rw[<-au, <-M];exact aH.of _ (by simp) fun aL hm _=>aaK hm
    have a1:=aY.aJ N fun _ h=>h.elim;have a2:=a0.aJ N fun _ _ h=>h;have t5:=N.get t4.1 fun h=>h;have y:=N.get r4.1 fun h=>h;have x7:G5[J.length]?=some (ah 1 [[.ptr aK 0 0 0]]):=by rw[<-M];simp
    have x8:G5[J.length+1]?=some (ah 1 [[I (bI s)]]):=by rw[<-M];simp
    have⟨l,hl⟩:=ak (T.left.drop T.bO);have a3:l.length=T.left.length-T.bO:=by rw[<-hl,ajV]
    have a4:∀i (m:i<l.length),rows[k+T.bO+i]?=some (br l[i]):=fun i m=>by
     have h9:((rows.drop k).take T.left.length)[T.bO+i]?=(T.left.map br)[T.bO+i]?:=by rw[h7]
     rw[aj1 (by omega),aiX,adn,aae (l:=T.left) (by omega)]at h9;rw[show k+T.bO+i=k+(T.bO+i)by omega,h9];simp only[<-hl,List.getElem_drop,ajJ]
    have gp:=sD (min a w) (max a w);have O:∀ai:aU,ai= .none\/ai= .tr a w-> ¬Gp (gP (min a w) (max a w)) ai:=fun ai hk ⟨i,_,m⟩=>by rcases hk with rfl|rfl<;>simp at m
    have pi:=ab.pipe a w;have⟨z,H6,aj,a5,s6⟩:=X2 gp a2 pi l (by unfold maxLen;omega) y.1 a4 x7 x8 (O _ (.inr (by rw[y.2,r4.2];exact ag))) (O _ (.inl (by rw[<-au];exact jr (adt _)))) (O _ (.inl (by rw[<-au];exact jr (by omega))));have aN:=a1.Pz (by omega) s6 aZ a5;have t6:=s6.get t5.1 (O _ (.inr (by rw[t5.2,t4.2];exact k3)));have r6:=s6.get y.1 (O _ (.inr (by rw[y.2,r4.2];exact ag)));have ct:z t= .tr a w:=by rw[t6.2,t5.2,t4.2];exact k3
    have a6:z g= .tr a w:=by rw[r6.2,y.2,r4.2];exact ag
    have sA:aH Gx c1 z r H6:=(((Z.trans (s3.mono (lU (by omega)))).trans (s4.mono (lU (by omega)))).trans (N.mono fun _ h=>h.elim)).trans (s6.mono rF);have⟨A,P⟩:=ak (sendAll (cT a w) l (p.pipe a w))
    have a7:p.oQ a w=(p.eO (min a w) (max a w) A.1).nj a w ⟨T.left,T.bO+A.2⟩:=by
     unfold Cl.oQ;simp only[hT,hl,P];congr 1
     unfold Cl.eO;rw[show min (min a w) (max a w)=min a w by omega,show max (min a w) (max a w)=max a w by omega]
    rw[hs]at P;have av:=(Hh s l (p.pipe a w) l 0 rfl).1;have e0:mC s l (p.pipe a w) 0=p.pipe a w:=rfl;rw[e0,P]at av;rw[P]at aN;have sl:=(IE l (s:=s) pi).2;rw[P]at sl
    have fin:∀B,B=H6.set t (ah 2 [[.sl g v2 k T.left.length,I ((T.bO+A.2:Nat):Int)]])->∃q,n-q<n-j/\((j+1:Nat):Int)=(q:Int)/\q<=n/\∃e,bK B e b (Fl K a (L.take q))/\aH Gx c1 e r B:=fun B ax=>by
     have s7:aH (· = .tr a w) z z H6 B:=by rw[ax];exact pX (b:=t) (h:=t) (by simp) ct ct fun aL h _=>aay (ain h)
     have tt:nT B z (.tr a w) t ⟨T.left,T.bO+A.2⟩:=by refine⟨.sl g v2 k T.left.length,by rw[ax];exact ba t6.1,.inr ⟨g,v2,k,rows,rfl,?_,h7,h8⟩,ct,fun aL hm=>by simp[rf]at hm;rw[hm];exact a6⟩;rw[ax,aay (fun ad=>by have u:=r6.1;rw[<-ad,t6.1]at u;cases u)];exact r6.1
     refine⟨j+1,by omega,rfl,by omega,z,?_,sA.trans (s7.mono G8)⟩;rw[ao,a7];exact⟨aB,mp,mt,aX,aE,aN.xe s7 aT tt⟩
    have⟨D,a8⟩:=ak (fX (nD s l (p.pipe a w)) 0 l);rw[a8]at aj av;rw[a3]at aj;have x:=k1;have aO:=t6.1;have al:A.2=if D<0 then l.length else D.toNat-0:=by rw[av]
    have q1:(0:Int)<=T.bO:=by omega
    have q2:(T.bO:Int)<=T.left.length:=by omega
    have q3:((T.left.length:Int)-T.bO).toNat=T.left.length-T.bO:=by omega
    have q4:k+T.bO<=rows.length:=by omega
    by_cases d2:D<0
    .have d3:¬0<=D:=by omega
     rw[if_pos d2]at al;have a9:T.bO+A.2=T.left.length:=by omega
     rw[a9]at fin;simp[-aD,-getElem?_pos,-aae,-ac7,V,W,X,E,F,d,gh,ae,m1,af,x,hw,aI,ar,M,t5.1,y.1,aj,aO,d3,q1,q2];exact fin _ rfl
    .obtain ⟨i,rfl⟩:∃i:Nat,D=i:=⟨D.toNat,by omega⟩;rw[if_neg d2]at al;simp only[aim,Nat.sub_zero]at al;rw[al]at fin;have bb:ads.wrap ((T.bO:Int)+i)=((T.bO+i:Nat):Int):=by rw[fC (by omega) (by omega)];omega
     simp[-aD,-getElem?_pos,-aae,-ac7,V,W,X,E,F,d,gh,ae,m1,af,x,hw,aI,ar,M,t5.1,y.1,aj,aO,q1,q2,bb];exact fin _ rfl
  .simp[E,F,d];rw[ach (by omega)]at Y;exact⟨c2,Y,(s1.mono fun _ h=>h.elim).trans Z⟩)
 exact⟨e,o,e1,e2,g,h3⟩
def BB(h:bK H c b K)(f:dN K)(a:Nat):∃e d,aO tz ay 36 [aw b,aa a] H=some (.aM [],d)/\bK d e b (K.flush a)/\aH Gx c e H d:=by have⟨e,d,g,_,i,j⟩:=Ea h f a;exact⟨e,d,dK (by simp) g,i,j⟩
end
end
section
variable{P:Pp}
def Vh(f:Fm):(jT f).1.length<=f.body.length+27:=by
 unfold jT;split
 .simp
 .simp[u7,nU,qW];omega
def Ch(R:Nat):∀(a:List Fm) (l:List bx) (n:Nat),(∀f∈a,f.body.length<=64)->(∀t∈l,t.length<=1000)->∀t∈(gJ R a l n).1,t.length<=1000
 |[],l,n,_,b=>b
 |f::a,l,n,c,b=>by
  unfold gJ
  split
  .refine Ch R a _ _ (fun g d=>c g (aiI _ d)) fun t e=>?_
   rcases ahl.1 e with h|h
   .exact b t h
   .simp at h
    subst h
    have:=Vh f
    have:=c f (ajv ..)
    omega
  .exact Ch R a _ _ (fun g d=>c g (aiI _ d)) b
def J8(h:dO P)(s:Bool){x:Lk}(a:ig x):dO (P.jO s x):=by
 refine⟨fun t=>?_,h.q,h.b,h.r⟩;by_cases e:t=s
 .subst e;show ig (up P.e t _ t);rw[pV];exact a
 .show ig (up P.e s _ t);rw[ql _ _ e];exact h.l t
def KB(h:dO P)(s:Bool){l:List bx}(a:l.length<=P.room)(c:∀t∈l,t.length<=1000):dO (P.uF s l):=by
 refine⟨h.l,fun t=>?_,fun t=>?_,h.r⟩
 .show (up P.q s l t).length<=P.room;by_cases e:t=s
  .subst e;rw[pV];exact a
  .rw[ql _ _ e];exact h.q t
 .show ∀x∈up P.q s l t,_;by_cases e:t=s
  .subst e;rw[pV];exact c
  .rw[ql _ _ e];exact h.b t
def Hg(h:dO P)(s:Bool):dO (P.go s).1/\(P.go s).2<=8:=by have⟨c,a⟩:=Np (h.l s);have d:=yl P.room (iH (P.e s)).2 (P.q s) 0;refine⟨?_,by show(gJ P.room (iH (P.e s)).2 (P.q s) 0).2<=8;omega⟩;exact KB (J8 h s (agj (h.l s))) s (BJ _ _ _ _ (h.q s)).1 (Ch _ _ _ _ a (h.b s))
def RC(h:dO P)(s:Bool):dO (P.tick s):=J8 h s (aaU (h.l s))
def dN.eO{K:Cl}(h:dN K)(a b:Nat)(hp:dO P):dN (K.eO a b P):=by
 refine⟨fun x y=>?_,h.n,h.ts,h.tl⟩;show dO (if x=min a b/\y=max a b then P else K.pp x y);split
 .exact hp
 .exact h.pp x y
def gZ(a:Nat)(l:List Nat)(r:Cl×Nat):Cl×Nat:=l.foldl (fun r b=>(r.1.u6 a b,r.2+((r.1.pipe a b).go (cT a b)).2)) r
def xw(a:Nat):∀(l:List Nat) (K:Cl) (n:Nat),yD a l K n=gZ a l (K,n)
 |[],K,n=>rfl
 |b::l,K,n=>xw a l _ _
def Fi(a:Nat):∀(l:List Nat) (r:Cl×Nat),dN r.1->dN (gZ a l r).1/\(gZ a l r).1.nodes=r.1.nodes/\(gZ a l r).2<=r.2+8*l.length
 |[],r,h=>⟨h,rfl,adt _⟩
 |b::l,r,h=>by
  have⟨c,g⟩:=Hg (h.pipe a b) (cT a b)
  have⟨d,e,f⟩:=Fi a l (r.1.u6 a b,r.2+((r.1.pipe a b).go (cT a b)).2) (h.eO a b c)
  refine⟨d,e,?_⟩
  have:(gZ a (b::l) r).2=(gZ a l (r.1.u6 a b,r.2+((r.1.pipe a b).go (cT a b)).2)).2:=rfl
  rw[this]
  simp only[ahP]at f|-
  omega
structure aff(H:List Ob)(c:Nat->aU)(qo:ab)(L:List Nat)(n:Nat)(R:List (List ab)):Prop where
 l:L.length=n
 r:R.length=n
 j:∀j (hj:j<L.length),R[j]?=some [I (L[j]:Int)]
 q:(qo=ap/\n=0)\/∃h v,qo= .sl h v 0 n/\H[h]?=some (.live v 1 R)/\c h= .none
section
variable{H:List Ob}{c:Nat->aU}{b:Nat}{K:Cl}
def Lf(h:bK H c b K)(o:dN K)(a:Nat):∃d k e n R,aO tz ay 77 [aw b,aa a] H=some (.c d,e)/\aff e k d (others K.nodes.length a) n R/\n<=1000/\bK e k b K/\aH (fun _=>False) c k H e:=by
 have⟨d,c1,s,t,f,u,p⟩:=ML h a o.n;have⟨L,g⟩:=ak (others K.nodes.length a);have y:L.length<=1000:=by have:=zi K.nodes.length a;rw[wE,g,ahL]at this;have:=o.n;omega
 rw[wE,g]at f;have⟨n,hn⟩:=ak L.length;have⟨R,l⟩:=ak ((L.map fun i:Nat=>(i:Int)).map aC);have w:R.length=n:=by rw[<-l];simpa using hn
 have x:∀j (q:j<L.length),R[j]?=some [I (L[j]:Int)]:=fun j q=>by rw[<-l,adn,adn,aae q];rfl
 unfold mZ at f;simp only[l]at f;refine⟨d,c1,s,n,R,t,⟨by rw[g];exact hn,w,by rw[g];exact x,?_⟩,by omega,h.aJ p fun _ h=>h.elim,p⟩;rcases f with⟨r,m⟩|⟨h,v,r,rfl,m⟩
 .exact .inl ⟨m,by rw[<-hn];simpa using r⟩
 .exact .inr ⟨h,v,by rw[ahL,hn],m,u h (by simp[rf])⟩
def S6(h:bK H c b K)(p:dN K)(a:Int):∃d k,aO tz ay 41 [aw b,aa a] H=some (.aM [aa (K.goes a).2.1,aa (K.goes a).2.2],k)/\bK k d b (K.goes a).1/\aH Gx c d H k:=by
 have y:=nZ h a;by_cases q:K.there a
 case neg=>
  have hg:K.goes a=(K,0,210):=by unfold Cl.goes;rw[if_pos q]
  rw[hg];rw[decide_eq_false q]at y;obtain⟨r,k,z,rfl,rfl⟩:=cG (C:=tz) (f:=41) (args:=[aw b,aa a]) (H:=H) (fun r k=>r= .aM [aa 0,aa 210]/\k=H) func41 rfl (by simp[-aD,f41,y])
  exact⟨c,_,dK (by simp) z,h,aH.refl _ _ _⟩
 obtain⟨a,rfl⟩:∃n:Nat,a=n:=⟨a.toNat,by have:=q.1;omega⟩;have⟨c0,T,ai,h0,s0⟩:=BB h p a;have B:=Pq p a;have⟨U,c1,t,n,R,V,D,nl,z,s1⟩:=Lf h0 B a;have aj:(K.flush a).nodes=K.nodes:=(wS _ p).2;rw[aj]at D;have⟨L,E⟩:=ak (others K.nodes.length a);have al:∀i∈L,a≠i:=fun i p=>Em (by rw[E];exact p);rw[E]at D;have⟨av,ax,am,W⟩:=D;have an:K.goes a=((gZ a L (K.flush a,0)).1,(gZ a L (K.flush a,0)).2,0):=by unfold Cl.goes;rw[if_neg (fun e=>e q)];simp only[aim,E,xw]
 rw[an];rw[decide_eq_true q]at y;have⟨g,ao⟩:=ak (K.flush a);rw[ao]at z B|-
 obtain⟨r,k,e1,d,rfl,h2,h3⟩:=cG (C:=tz) (f:=41) (args:=[aw b,aa a]) (H:=H) (fun r k=>∃d,r= .aM [aa (gZ a L (g,0)).2,aa 0]/\bK k d b (gZ a L (g,0)).1/\aH Gx c d H k) func41 rfl (by
  simp only[f41,bX];rw[fK,fK,fK];refine bp [(0,aw b),(1,aa a),(6,aa 0)] (fun G=>G=T) ?_ ?_
  .simp[-aD,y,ai]
  rintro F G⟨X,Y,Z,_⟩A;obtain rfl:T=G:=A.symm;refine bp [(6,aa (gZ a L (g,0)).2)] (fun G=>∃d,bK G d b (gZ a L (g,0)).1/\aH Gx c1 d t G) ?_ ?_
  .refine ef (fun S=>Has S.env [(0,aw b),(1,aa a),(20,.c U),(21,aa n),(22,aa (0:Nat)),(6,aa (0:Nat))]/\S.bH=[]/\S.heap=t) ?_ ?_
   .rcases W with⟨rfl,rfl⟩|⟨h,v,rfl,hh,_⟩
    .simp[-aD,V,X,Y,Z]
    .have az:n<=R.length:=by omega
     simp[-aD,V,X,Y,Z]
   rintro⟨F,G,ds⟩⟨m,rfl,A⟩;simp only at m A;obtain rfl:t=G:=A.symm;rw[eD];refine Ends.bl (gO (fun j:Nat=>[(0,aw b),(1,aa a),(20,.c U),(21,aa n),(22,aa j),(6,aa (gZ a (L.take j) (g,0)).2)]) (fun j G=>j<=n/\∃d,bK G d b (gZ a (L.take j) (g,0)).1/\aH Gx c1 d t G) [] (fun j=>n-j) _ [0,1,20,21,22,6] (fun _=>rfl) ?_ 0 _ m ⟨by omega,c1,z,aH.refl _ _ _⟩ rfl);rintro j ⟨F,G,ds⟩ m ⟨g2,c2,l,o⟩ g5;simp only at m g2 l o g5;subst g5;simp at m;have⟨b0,b1,ap,ab,ad,u⟩:=m;by_cases ae:j<n
   .have J:j<L.length:=by omega
    have⟨w,M⟩:=ak L[j];have aq:a≠w:=al w (by rw[<-M];exact air J);have N:gZ a (L.take (j+1)) (g,0)=((gZ a (L.take j) (g,0)).1.u6 a w,(gZ a (L.take j) (g,0)).2+(((gZ a (L.take j) (g,0)).1.pipe a w).go (cT a w)).2):=by unfold gZ;rw[aiB,aae J,M,ajc];rfl
    have⟨O,_,P⟩:=Fi a (L.take j) (g,0) B;have⟨r,hr⟩:=ak (gZ a (L.take j) (g,0));rw[hr]at l N O P u;rw[aiV]at P;simp only at P;obtain⟨h,v,rfl,hh,hc⟩:=W.resolve_left fun e=>by omega
    have gh:G[h]?=some (.live v 1 R):=(o.get hh (by rw[hc];simp)).1;have m1:R[j]?=some [I (w:Int)]:=by rw[am j J,M]
    have ar:j<R.length:=by omega
    have hw:ads.wrap ((j:Int)+1)=((j+1:Nat):Int):=cr (by omega);have⟨aA,c3,H3,af,r3,s3⟩:=uk l aq;have⟨s,hs⟩:=ak (cT a w);have⟨aB,ag⟩:=Hg (O.pipe a w) (cT a w);have⟨c4,H4,Q,r4,s4⟩:=VX (sD _ _) r3.r (O.pipe a w) (cT a w);have r5:=r3.bJ s4 r4
    have fin:∃x,n-x<n-j/\(((j+1:Nat):Int)=(x:Int)/\((r.2+((r.1.pipe a w).go (cT a w)).2:Nat):Int)=((gZ a (L.take x) (g,0)).2:Int))/\x<=n/\∃d,bK H4 d b (gZ a (L.take x) (g,0)).1/\aH Gx c1 d t H4:=
     ⟨j+1,by omega,⟨rfl,by rw[N]⟩,by omega,c4,by rw[N];exact r5,(o.trans (s3.mono (lU (by omega)))).trans (s4.mono rF)⟩
    rw[hs]at af Q fin ag;have⟨ah,hz⟩:=ak (((r.1.pipe a w).go s).2);rw[hz]at Q fin ag;have au:ads.wrap ((r.2:Int)+ah)=((r.2+ah:Nat):Int):=by rw[fC (by omega) (by omega)];omega
    simp[-aD,-getElem?_pos,-aae,-ac7,b0,b1,ap,ab,ad,u,ae,gh,ar,m1,af,Q,hw,au];exact fin
   .simp[ab,ad,u,ae];rw[ach (by omega)]at l;exact⟨by rw[ach (by omega)],c2,l,o⟩
  rintro F G⟨u,_⟩⟨c2,l,o⟩;simp[u];exact⟨c2,l,(s0.trans (s1.mono fun _ h=>h.elim)).trans o⟩)
 exact⟨d,k,dK (by simp) e1,h2,h3⟩
end
end
section
variable{t:Tr}{T:Nat}
def lW(T:Nat)(K:Cl):Prop:= ∀x y,(K.tr x y).left.length<=T
def OX{K:Cl}(h:dN K){x y:Nat}(a:t.bO<=t.left.length)(b:t.left.length<=1000000000):dN (K.nj x y t):=by
 refine⟨h.pp,h.n,fun u v=>?_,fun u v=>?_⟩
 .show (if u=x/\v=y then t else K.tr u v).bO<=(if u=x/\v=y then t else K.tr u v).left.length;split
  .exact a
  .exact h.ts u v
 .show (if u=x/\v=y then t else K.tr u v).left.length<=_;split
  .exact b
  .exact h.tl u v
def K8{K:Cl}(h:lW T K){x y:Nat}(a:t.left.length<=T):lW T (K.nj x y t):=by
 intro u v;show(if u=x/\v=y then t else K.tr u v).left.length<=T;split
 .exact a
 .exact h u v
def aal{K:Cl}(h:dN K)(a:lW T K)(b:T+1<=1000000000)(m:cB):dN (K.ir m)/\lW (T+1) (K.ir m)/\(K.ir m).nodes=K.nodes:=by
 unfold Cl.ir;split
 .have c:=a m.src.toNat m.dst.toNat;have d:=h.ts m.src.toNat m.dst.toNat;exact⟨OX h (by simp;omega) (by simp;omega),K8 (fun x y=>Nat.le_succ_of_le (a x y)) (by simp;omega),rfl⟩
 .exact ⟨h,fun x y=>Nat.le_succ_of_le (a x y),rfl⟩
def Ah:∀(l:List cB) {K:Cl} {T:Nat},dN K->lW T K->T+l.length<=1000000000->dN (l.foldl Cl.ir K)/\lW (T+l.length) (l.foldl Cl.ir K)/\(l.foldl Cl.ir K).nodes=K.nodes
 |[],K,T,h,a,_=>⟨h,a,rfl⟩
 |m::l,K,T,h,a,b=>by
  simp only[ahP]at b
  have⟨c,d,e⟩:=aal h a (by omega) m
  have⟨f,g,i⟩:=Ah l c d (by omega)
  refine⟨f,fun x y=>?_,i.trans e⟩
  have:=g x y
  simp only[ahP,aiW]
  omega
def PY{K:Cl}(h:dN K)(n:Nd):dN (K.oM n):=⟨h.pp,by show(K.nodes.set _ n).length<=_;rw[aiJ];exact h.n,h.ts,h.tl⟩
section
variable{H:List Ob}{c:Nat->aU}{b:Nat}{K:Cl}
def jv.sk{d:List Ob}{e:Nat->aU}{q:ab}{mp mt:Nat}{k l:List (List ab×ab)}{n:Nd}(h:jv H c b q mp mt k l K)(a:aH (· = .cl 1) c e H d)(hn:tv d e q (K.oM n).nodes):jv d e b q mp mt k l (K.oM n):=by
 have⟨m,o⟩:=a.get h.hb (by rw[h.cb];simp);have⟨r,s⟩:=a.get h.hp (by rw[h.cp];simp);have⟨t1,t2⟩:=a.get h.ht (by rw[h.ct];simp);refine⟨m,hn,r,t1,h.kp,h.kt,o.trans h.cb,s.trans h.cp,t2.trans h.ct,fun u v=>?_,fun u v=>?_⟩
 .rcases h.pp u v with g|⟨p,f,j⟩
  .exact .inl g
  .exact .inr ⟨p,f,j.aJ a fun i _=>by simp⟩
 .rcases h.tr u v with g|⟨p,f,j⟩
  .exact .inl g
  .exact .inr ⟨p,f,j.aJ a (by simp)⟩
def Sf(h:bK H c b K)(hi:dN K)(hT:lW T K)(n:Nd)(l:List cB){lf:ab}(hid:0<=n.dr.ai.id/\n.dr.ai.id<K.nodes.length)(hl:T+l.length<=1000000000)(aV:(lf=ap/\l=[])\/lf= .aj (l.map dX)):
  ∃a p,aO tz ay 37 [aw b,.agg (aT n),.c lf] H=some (.aM [],p)/\bK p a b (K.take n l)/\aH Gx c a H p:=by
 have⟨aA,mp,mt,es,et,J⟩:=h
 obtain⟨aB,p,e1,a,rfl,d,h3⟩:=cG (C:=tz) (f:=37) (args:=[aw b,.agg (aT n),.c lf]) (H:=H) (fun aB p=>∃a,aB= .aM []/\bK p a b (K.take n l)/\aH Gx c a H p) func37 rfl (by
  have hb:=J.hb
  obtain⟨h,v,rfl,hh,hc⟩:=J.hn.resolve_left fun e=>by rw[e.1]at hid;simp at hid;omega
  obtain⟨i,U⟩:∃i:Nat,n.dr.ai.id=i:=⟨n.dr.ai.id.toNat,by omega⟩
  have ag:i<K.nodes.length:=by omega
  have⟨R,o⟩:=ak (K.nodes.map aT)
  obtain⟨nd,aC⟩:∃nd,R[i]?=some (aT nd):=by rw[<-o,adn,aae ag];exact⟨_,rfl⟩
  have aW:i<R.length:=by rw[<-o];simpa using ag
  have aE:R.set i (aT n)=(K.oM n).nodes.map aT:=by
   show _=(K.nodes.set n.dr.ai.id.toNat n).map aT
   rw[U,aix,o];rfl
  have aX:(K.oM n).nodes.length=K.nodes.length:=aiJ ..
  have⟨Y,hY⟩:=ak (H.set h (.live v 10 ((K.oM n).nodes.map aT)))
  have aF:aH (· = .cl 1) c c H Y:=by rw[<-hY];exact pX (b:=h) (h:=h) (by simp) hc hc fun m h _=>aay (ain h)
  have rY:=J.sk (n:=n) aF (.inr ⟨h,v,by rw[aX],by rw[<-hY];exact ba hh,hc⟩)
  have tk:K.take n l=(l.foldl Cl.ir (K.oM n)).flush i:=by unfold Cl.take;simp only[U];rfl
  rw[tk]
  have sY:aH Gx c c H Y:=aF.mono (lU (by omega))
  simp only[f37,bX]
  rw[fK]
  refine bp [(0,aw b),(2,.c lf),(4,.c (.aK [aT n] 0 0))] (fun G=>G=Y) ?_ ?_
  .simp only[o]at hh
   simp only[aT,U,aG]at aE aC|-
   simp[-getElem?_pos,-aae,hb,hh,aW,aC,ag,aE,hY]
  rintro en G⟨a0,a2,a4,_⟩V
  obtain rfl:Y=G:=V.symm
  have al:=PY hi n
  have am:lW T (K.oM n):=hT
  have⟨x,aY⟩:=ak (K.oM n)
  rw[aY]at rY al am|-
  have⟨N,hN⟩:=ak l.length
  have aI:(lf=ap/\N=0)\/lf= .aj (l.map dX):=by
   rcases aV with⟨h1,d⟩|h
   .exact .inl ⟨h1,by rw[<-hN,d];rfl⟩
   .exact .inr h
  refine bp [(0,aw b),(4,.c (.aK [aT n] 0 0))] (fun G=>∃a,bK G a b (l.foldl Cl.ir x)/\aH Gx c a Y G) ?_ ?_
  .refine ef (fun an=>Has an.env [(0,aw b),(4,.c (.aK [aT n] 0 0)),(19,.c lf),(20,aa N),(21,aa (0:Nat))]/\an.bH=[]/\an.heap=Y) ?_ ?_
   .rcases aI with⟨rfl,rfl⟩|rfl
    .simp[-getElem?_pos,-aae,a0,a2,a4]
    .simp[-getElem?_pos,-aae,a0,a2,a4,hN]
   rintro⟨en,G,ds⟩⟨y,rfl,V⟩
   simp only at y V
   obtain rfl:Y=G:=V.symm
   rw[eD]
   refine Ends.bl (gO (fun j:Nat=>[(0,aw b),(4,.c (.aK [aT n] 0 0)),(19,.c lf),(20,aa N),(21,aa j)]) (fun j G=>j<=N/\∃a,bK G a b ((l.take j).foldl Cl.ir x)/\aH Gx c a Y G) [] (fun j=>N-j) _ [0,4,19,20,21] (fun _=>rfl) ?_ 0 _ y ⟨by omega,c,⟨_,_,_,_,_,rY⟩,aH.refl _ _ _⟩ rfl)
   rintro j⟨en,G,ds⟩y⟨g2,c2,r,z⟩g5
   simp only at y g2 r z g5
   subst g5
   simp at y
   have⟨A,s,W,Z,ad⟩:=y
   by_cases ae:j<N
   .have ao:j<l.length:=by omega
    have⟨m,hm⟩:=ak l[j]
    have aq:(l.take (j+1)).foldl Cl.ir x=((l.take j).foldl Cl.ir x).ir m:=by
     rw[aiB,aae ao,hm,ajc]
     rfl
    have⟨ar,af,_⟩:=Ah (l.take j) al am (by rw[aiV];omega)
    rw[aiV]at af
    have⟨q,aZ⟩:=ak ((l.take j).foldl Cl.ir x)
    rw[aZ]at r aq ar af
    obtain rfl:=aI.resolve_left fun e=>by omega
    have L:(l.map dX)[j]?=some [I m.src,I m.dst,I m.fP.kind,I m.fP.aP,I m.fP.num]:=by rw[adn,aae ao,hm];rfl
    have⟨R,o⟩:=ak (l.map dX)
    rw[o]at L W
    have au:j<R.length:=by rw[<-o];simpa using ao
    have hw:ads.wrap ((j:Int)+1)=((j+1:Nat):Int):=cr (by omega)
    have⟨X,B⟩:=ak (G++[ah 5 [[I m.src,I m.dst,I m.fP.kind,I m.fP.aP,I m.fP.num]]]:List Ob)
    have⟨c3,aL⟩:=ak (ext c2 G.length .none)
    have av:aH (fun _=>False) c2 c3 G X:=by rw[<-aL, <-B];exact aH.of _ (by simp) fun m hm _=>aaK hm
    have cX:=r.aJ av fun _ h=>h.elim
    have M:X[G.length]?=some (ah 5 [[I m.src,I m.dst,I m.fP.kind,I m.fP.aP,I m.fP.num]]):=by rw[<-B];simp
    have D:=vW cX m.src m.dst
    by_cases O:q.two m.src m.dst
    case neg=>
     have E:q.ir m=q:=by unfold Cl.ir;rw[if_neg O]
     rw[decide_eq_false O]at D
     simp[-aD,-getElem?_pos,-aae,-ac7,A,s,W,Z,ad,ae,L,au,B,M,D,hw]
     exact⟨j+1,by omega,⟨o.symm,rfl⟩,by omega,c3,by rw[aq,E];exact cX,z.trans (av.mono fun _ h=>h.elim)⟩
    rw[decide_eq_true O]at D
    have E:q.ir m=q.nj m.src.toNat m.dst.toNat ⟨(q.tr m.src.toNat m.dst.toNat).left++[m.fP],(q.tr m.src.toNat m.dst.toNat).bO⟩:=by unfold Cl.ir;rw[if_pos O]
    have⟨u,w,hu,a1,be⟩:=qL O
    rw[hu,a1]at E D M B L
    simp only[aim]at E
    have⟨aA,mp,mt,es,et,J⟩:=cX
    have⟨t,c4,k,aN,⟨⟨a3,a5,a6⟩,aQ⟩,s4⟩:=Hr J u w
    have a7:=af u w
    have⟨g,a8⟩:=ak (q.tr u w)
    rw[a8]at aQ E a7
    have⟨qt,P,k2,k3,k4⟩:=aQ
    have a9:c3 G.length= .none:=by rw[<-aL];exact jr (adt _)
    have x2:=s4.get M (by rw[a9];simp)
    have sA:aH Gx c c4 Y k:=(z.trans (av.mono fun _ h=>h.elim)).trans (s4.mono (lU (by omega)))
    have fin:∀(Q:List Ob) (c7:Nat->aU),aH (· = .tr u w) c4 c7 k Q->nT Q c7 (.tr u w) t ⟨g.left++[m.fP],g.bO⟩->∃b',N-b'<N-j/\(R=l.map dX/\((j+1:Nat):Int)=(b':Int))/\b'<=N/\∃a,bK Q a b ((l.take b').foldl Cl.ir x)/\aH Gx c a Y Q:=fun Q c7 s7 tt=>
     ⟨j+1,by omega,⟨o.symm,rfl⟩,by omega,c7,by rw[aq,E];exact⟨aA,mp,mt,es,a3,a5.xe s7 a6 tt⟩,sA.trans (s7.mono G8)⟩
    have lt:=bf P
    have ax:∀K,(k++K)[t]?=some (ah 2 [[qt,I g.bO]]):=fun K=>by rw[aaK lt];exact P
    rcases k2 with⟨h5,rfl⟩|⟨d,F,lo,rows,rfl,S,h7,h8⟩
    .have az:=fin ((k++[Ob.live 0 3 [[I m.fP.kind,I m.fP.aP,I m.fP.num]],Ob.live 0 3 [[I m.fP.kind,I m.fP.aP,I m.fP.num]]]).set t (Ob.live 0 2 [[.sl (k.length+1) 0 0 1,I g.bO]])) (ext c4 k.length (.tr u w)) (aH.of _ (by simp) fun m hm hk=>by
      rw[aay (fun e=>hk (by rw[<-e];exact k3)),aaK hm]) ⟨.sl (k.length+1) 0 0 1,ba (ax _),.inr ⟨k.length+1,0,0,[br m.fP],by rw[h5];rfl,by rw[aay (by omega),jd];rfl,by rw[h5];rfl,by rw[h5];rfl⟩,by rw[ji lt];exact k3,fun m hm=>by simp[rf]at hm;exact jr (by omega)⟩
     simp[-aD,-getElem?_pos,-aae,-ac7,A,s,W,Z,ad,ae,L,au,B,M,x2.1,D,aN,P,ax,hw]
     exact az
    .have aR:c4 d= .tr u w:=k4 d (by simp[rf])
     have gh:∀K,(k++K)[d]?=some (.live F 3 rows):=fun K=>by rw[aaK (bf S)];exact S
     have aS:d≠t:=fun e=>by rw[e,P]at S;cases S
     have gs:∀K X,((k++K).set d X)[t]?=some (ah 2 [[.sl d F lo g.left.length,I g.bO]]):=fun K X=>by rw[aay aS];exact ax K
     have bb:lo+g.left.length<=rows.length:=by omega
     have bc:¬lo+g.left.length+1<=rows.length:=by omega
     have q1:g.left.length+1<=maxLen:=by unfold maxLen;omega
     have q2:(g.left.length+1)*24<=140737488355328:=by omega
     have az:=fin (((k++[Ob.live 0 3 [[I m.fP.kind,I m.fP.aP,I m.fP.num]]]).set d (Ob.live (F+1) 3 (g.left.map br++[[I m.fP.kind,I m.fP.aP,I m.fP.num]]))).set t (Ob.live 0 2 [[.sl d (F+1) 0 (g.left.length+1),I g.bO]])) (ext c4 k.length (.tr u w)) (aH.of _ (by simp) fun m hm hk=>by
      rw[aay (fun e=>hk (by rw[<-e];exact k3)),aay (fun e=>hk (by rw[<-e];exact aR)),aaK hm]) ⟨.sl d (F+1) 0 (g.left.length+1),ba (gs _ _),.inr ⟨d,F+1,0,_,by simp,by rw[aay (ain aS),ba (gh _)],by simp[br],by simp⟩,by rw[ji lt];exact k3,fun m hm=>by simp[rf]at hm;rw[hm,ji (bf S)];exact aR⟩
     simp[-aD,-getElem?_pos,-aae,-ac7,A,s,W,Z,ad,ae,L,au,B,M,x2.1,D,aN,P,hw,h7,bb,bc,gh,gs,q1,q2]
     exact az
   .simp[-getElem?_pos,-aae,A,s,Z,ad,ae]
    rw[ach (by omega)]at r
    exact⟨c2,r,z⟩
  rintro en G⟨A,s,_⟩⟨c2,r,z⟩
  have⟨ar,af,_⟩:=Ah l al am hl
  have⟨c3,H3,bd,h3,s3⟩:=BB r ar i
  simp only[aT,U]at s
  simp[-aD,-getElem?_pos,-aae,A,s,bd]
  exact⟨c3,h3,(sY.trans z).trans s3⟩)
 exact⟨a,p,dK (by simp) e1,d,h3⟩
end
end
section
def XX{n:Nd}{a:Act}(h:(cN n a).e=0):dv n=true:=by
 cases hn:dv n with
 |true=>rfl
 |false=>
  have b:(bg n).e=180:=by unfold bg;rw[hn];rfl
  unfold cN at h;rw[hn]at h;simp only[aeb,if_false]at h;repeat' split at h
  all_goals rw[b]at h;cases h
def nB{H:List Ob}{n:Nat}:∀ {l:List ab},cw l=true->eS (bV H (n+1)) l=some (l,[])
 |[],_=>rfl
 |x::l,h=>by
  simp only[cw,aa2]at h
  simp only[eS,z8 h.1,nB h.2]
  rfl
def AA(n:Nd):cw (aT n)=true:=by simp[aT,cw,bD,bL,bW,bS]
def Lm(n:Nd):(aT n).map da=aT n:=rfl
def Ns{n:Nat}:∀ {l:List ab},cw l=true->l.map (dZ n)=l
 |[],_=>rfl
 |x::l,h=>by
  simp only[cw,aa2]at h
  rw[afL,Ns h.2]
  congr 1
  cases x<;>first|rfl|(simp[bD]at h)
def mF.sh{w:Wk}{o:au}(h:mF w o)(n:Nat):eR n o=o:=by
 unfold mF at h;split at h
 .obtain ⟨v,a,le,rfl,_,b,c⟩:=h;have d:=Ns (n:=n) (AA v.n);have e:dZ n a=a:=by rcases b with⟨rfl,_⟩|rfl<;>rfl
  have f:dZ n le=le:=by rcases c with⟨rfl,_⟩|rfl<;>rfl
  simp only[eR,afL,aiO,d,e,f];rfl
 .subst h;rfl
def lM(le:ab)(s:List Ev):Prop:=(le=ap/\s=[])\/le= .aj (s.map fW)
def Uq(H:List Ob){n:Nd}(hn:fm n)(d:Act){a:ab}(b:bD a=true)(f:d.kind=0->da a=aG d.need/\d.need.length<=100000):∃o,aO tz ay 35 [.agg (aT n),.agg [I d.kind,I d.id,I d.peer,I d.hold,a]] H=some (o,H)/\mF (cN n d) o:=by
 have g:bD (da a)=true:=by
  unfold da;split
  .rfl
  .exact b
 have⟨o,h,c⟩:=Yf n d (da a) (Se hn) g f fun e=>LW (XX e) e;refine⟨o,?_,c⟩;have i:df H (.agg (aT n))=some (.agg (aT n),[]):=by simp only[df,nB (AA n),Lm]
 have j:df H (.agg [I d.kind,I d.id,I d.peer,I d.hold,a])=some (.agg [I d.kind,I d.id,I d.peer,I d.hold,da a],[]):=by
  have:cw [I d.kind,I d.id,I d.peer,I d.hold,a]=true:=by simp[cw,bD,b]
  simp only[df,nB this];rfl
 rw[aD,if_neg (by simp[eQ])];simp only[dy,i,j,lJ,show tz.md 35=1 from rfl,aeo];rw[h,jQ,c.sh];simp[eo]
structure zx(K:Cl):Prop where
 s:∀i (h:i<K.nodes.length),fm K.nodes[i]
 id:∀i (h:i<K.nodes.length),K.nodes[i].dr.ai.id=(i:Int)
def eV.s{v:Wk}(h:eV v):fm v.n:=by
 have a:=h.i;have b:=h.t;unfold il at b;have d:=a.af;have e:=a.need;have f:=HO a.ad fun k c=>by have:=a.ask k c;have:=a.id;exact⟨by omega,by omega⟩
 exact⟨by omega,by omega,ze a.bk,by omega,by omega,by omega⟩
def jm.jW{w v:Wk}(h:jm w v):eV v:=by obtain⟨u,_,a,_,rfl⟩:=h;exact a.iv
def jm.out{w v:Wk}(h:jm w v):v.out.length<=9000/\v.seen.length<=9000:=by have:=h.jW.t;unfold il at this;omega
section
variable{H:List Ob}{c:Nat->aU}{b:Nat}{K:Cl}
def NA{T:Nat}(h:bK H c b K)(O:dN K)(P:zx K)(hT:lW T K)(av:T<=900000000)(a:Int)(d:Act){nl:ab}(ag:bD nl=true)(h0:d.kind=0->da nl=aG d.need/\d.need.length<=100000)(hid:∀n v,jm (cN n d) v->v.n.dr.ai.id=n.dr.ai.id):
  ∃l j o s e le,aO tz ay 18 [aw b,aa a,.agg [I d.kind,I d.id,I d.peer,I d.hold,nl]] H=some (.aM [.c le,aa e],j)/\K.bP a d o s e/\lM le s/\bK j l b o/\aH Gx c l H j:=by
 have t:=nZ h a
 have A:=nZ h d.peer
 obtain⟨r,j,h1,l,o,s,e,le,rfl,h2⟩:=cG (C:=tz) (f:=18) (args:=[aw b,aa a,.agg [I d.kind,I d.id,I d.peer,I d.hold,nl]]) (H:=H) (fun r j=>∃l o s e le,r= .aM [.c le,aa e]/\K.bP a d o s e/\lM le s/\bK j l b o/\aH Gx c l H j) func18 rfl (by
  have hA:¬K.there a\/(d.kind=4/\ ¬K.there d.peer)->K.bP a d K [] 210:=fun h=>by unfold Cl.bP;rw[if_pos h];exact⟨rfl,rfl,rfl⟩
  by_cases u:K.there a
  case neg=>
   rw[decide_eq_false u]at t
   simp[-aD,f18,t]
   exact⟨c,K,[],210,ap,⟨rfl,rfl⟩,hA (.inl u),.inl ⟨rfl,rfl⟩,h,aH.refl _ _ _⟩
  rw[decide_eq_true u]at t
  by_cases x:d.kind=4/\ ¬K.there d.peer
  .rw[decide_eq_false x.2]at A
   simp[-aD,f18,t,A,x.1]
   exact⟨c,K,[],210,ap,⟨rfl,rfl⟩,hA (.inr x),.inl ⟨rfl,rfl⟩,h,aH.refl _ _ _⟩
  have Q:¬(¬K.there a\/(d.kind=4/\ ¬K.there d.peer)):=fun h=>h.elim (fun h=>h u) x
  obtain⟨i,rfl⟩:∃i:Nat,a=i:=⟨a.toNat,by have:=u.1;omega⟩
  have g:i<K.nodes.length:=by have:=u.2;omega
  have⟨n,hn⟩:=ak K.nodes[i]
  have S:K.nodes.getD i .zero=n:=by rw[ae9,aae g,hn];rfl
  have B:(cN n d).e≠0->K.bP i d (K.flush i) [] (cN n d).e:=fun h=>by
   unfold Cl.bP
   rw[if_neg Q]
   simp only[aim,S]
   rw[if_pos h]
   refine⟨?_,?_,?_⟩<;>first|rfl|trivial
  have hC:(cN n d).e=0->∀v,jm (cN n d) v->K.bP i d (K.take v.n v.out) v.seen 0:=fun h v p=>by
   unfold Cl.bP
   rw[if_neg Q]
   simp only[aim,S]
   rw[if_neg (fun hn=>hn h)]
   refine⟨v,p,?_,?_,?_⟩<;>first|rfl|trivial
  have ah:fm n:=by rw[<-hn];exact P.s i g
  have al:n.dr.ai.id=i:=by rw[<-hn];exact P.id i g
  have⟨ax,y,p⟩:=Uq (H++[.dead]) ah d ag h0
  simp only[f18,bX]
  rw[fK]
  refine bp [(0,aw b),(1,aa i),(5,.c (.aK [[I d.kind,I d.id,I d.peer,I d.hold,nl]] 0 0))] (fun G=>G=H) ?_ ?_
  .by_cases E:d.kind=4
   .have hp:K.there d.peer:=akj fun h=>x ⟨E,h⟩
    rw[decide_eq_true hp]at A
    simp[-aD,t,A,E]
   .simp[-aD,t,E]
  rintro en G⟨U,V,W,_⟩hG
  obtain rfl:H=G:=hG.symm
  have⟨az,mp,mt,es,et,F⟩:=h
  have hb:=F.hb
  obtain⟨hh,v,rfl,Y,hc⟩:=F.hn.resolve_left fun e=>by rw[e.1]at g;simp at g
  have⟨R,J⟩:=ak (K.nodes.map aT)
  have D:R[i]?=some (aT n):=by rw[<-J,adn,aae g,hn];rfl
  have Z:i<R.length:=by rw[<-J];simpa using g
  rw[J]at Y
  have ad:bK H c b K:=⟨_,_,_,_,_,F⟩
  have gb:=fun K=>aV (m:=K) hb
  have gr:=fun K=>aV (m:=K) Y
  unfold mF at p
  by_cases w:(cN n d).e=0
  .rw[if_pos w]at p
   obtain⟨k,lo,le,rfl,L,am,an⟩:=p
   have⟨X,q⟩:=ak (H++[.live 1 10 [aT k.n]]:List Ob)
   have z:aH (fun _=>False) c (ext c H.length .none) H X:=by rw[<-q];exact aH.of _ (by simp) fun m hm _=>aaK hm
   have ae:X[H.length]?=some (.live 1 10 [aT k.n]):=by rw[<-q];simp
   have ao:=hid n k L
   have⟨c2,H2,af,M,N⟩:=Sf (T:=T) (ad.aJ z fun _ h=>h.elim) O hT k.n k.out (lf:=lo) (by rw[ao,al];omega) (by have:=L.out.1;omega) am
   have aq:lM le k.seen:=by
    rcases an with h|h
    .exact .inl h
    .exact .inr h
   simp only[aT,aG]at D y q ae af
   simp[-aD,-getElem?_pos,-aae,mT,gV,iT,U,V,W,gb,gr,g,D,Z,y,q,ae,af]
   exact⟨c2,_,k.seen,0,le,⟨rfl,rfl⟩,hC w k L,aq,M,(z.mono fun _ h=>h.elim).trans N⟩
  .rw[if_neg w]at p
   have B:=B w
   subst p
   have⟨X,q⟩:=ak (H++[.live 1 10 [[I 0,I 0,.aj [],I 0,.aj [],I 0,.aj [],.aj [],.aj [],.aj []]]]:List Ob)
   have z:aH (fun _=>False) c (ext c H.length .none) H X:=by rw[<-q];exact aH.of _ (by simp) fun m hm _=>aaK hm
   have⟨c2,H2,ar,M,N⟩:=BB (ad.aJ z fun _ h=>h.elim) O i
   have⟨au,hz⟩:=ak ((cN n d).e)
   rw[hz]at y w B
   simp only[aT,aG]at D y
   simp[-aD,-getElem?_pos,-aae,mT,gV,iT,U,V,W,gb,gr,g,D,Z,y,q,w,ar]
   exact⟨c2,_,[],au,ap,⟨rfl,rfl⟩,B,.inl ⟨rfl,rfl⟩,M,(z.mono fun _ h=>h.elim).trans N⟩)
 exact⟨l,j,o,s,e,le,dK (by simp) h1,h2⟩
end
end
section
def lr(a:Nat)(l:List Nat)(K:Cl):Cl:=l.foldl (fun c b=>c.eO a b ((c.pipe a b).tick (cT a b))) K
def Ba(a:Nat):∀(l:List Nat) (K:Cl),dN K->dN (lr a l K)/\(lr a l K).nodes=K.nodes/\(lr a l K).hold=K.hold/\(lr a l K).tr=K.tr
 |[],K,h=>⟨h,rfl,rfl,rfl⟩
 |b::l,K,h=>Ba a l _ (h.eO a b (RC (h.pipe a b) (cT a b)))
section
variable{H:List Ob}{c:Nat->aU}{b:Nat}{K:Cl}
def c61{T:Nat}(h:bK H c b K)(p:dN K)(Q:zx K)(hT:lW T K)(al:T<=900000000)(a:Int)(hid:∀n v,jm (cN n ⟨3,0,0,K.hold,[]⟩) v->v.n.dr.ai.id=n.dr.ai.id):
  ∃d g k s e le,aO tz ay 61 [aw b,aa a] H=some (.aM [.c le,aa e],g)/\K.uc a k s e/\lM le s/\bK g d b k/\aH Gx c d H g:=by
 have u:=nZ h a
 by_cases q:K.there a
 case neg=>
  rw[decide_eq_false q]at u
  obtain⟨r,g,D,rfl,rfl⟩:=cG (C:=tz) (f:=61) (args:=[aw b,aa a]) (H:=H) (fun r g=>r= .aM [.c ap,aa 210]/\g=H) func61 rfl (by
   simp[-aD,f61,u])
  exact⟨c,_,K,[],210,ap,dK (by simp) D,by unfold Cl.uc;rw[if_pos q];exact⟨rfl,rfl,rfl⟩,.inl ⟨rfl,rfl⟩,h,aH.refl _ _ _⟩
 obtain⟨a,rfl⟩:∃n:Nat,a=n:=⟨a.toNat,by have:=q.1;omega⟩
 have⟨U,c1,t,n,R,V,W,nl,D,s1⟩:=Lf h p a
 have⟨L,E⟩:=ak (others K.nodes.length a)
 have am:∀i∈L,a≠i:=fun i p=>Em (by rw[E];exact p)
 rw[E]at W
 have⟨az,aA,an,X⟩:=W
 have⟨ti,Y,th,tt⟩:=Ba a L K p
 have ao:K.An a=lr a L K:=by unfold Cl.An lr;rw[E]
 rw[decide_eq_true q]at u
 obtain⟨r,g,e1,d,k,s,e,le,rfl,F,h2,h3,h4⟩:=cG (C:=tz) (f:=61) (args:=[aw b,aa a]) (H:=H) (fun r g=>∃d k s e le,r= .aM [.c le,aa e]/\Cl.bP (K.An a) a ⟨3,0,0,K.hold,[]⟩ k s e/\lM le s/\bK g d b k/\aH Gx c d H g) func61 rfl (by
  simp only[f61,bX]
  rw[fK]
  refine bp [(0,aw b),(1,aa a)] (fun G=>G=H) ?_ ?_
  .simp[-aD,u]
  rintro J G⟨Z,a1,_⟩x
  obtain rfl:H=G:=x.symm
  refine bp [(0,aw b),(1,aa a)] (fun G=>∃d,bK G d b (lr a L K)/\aH Gx c1 d t G) ?_ ?_
  .refine ef (fun S=>Has S.env [(0,aw b),(1,aa a),(16,.c U),(17,aa n),(18,aa (0:Nat))]/\S.bH=[]/\S.heap=t) ?_ ?_
   .rcases X with⟨rfl,rfl⟩|⟨h,v,rfl,hh,_⟩
    .simp[-aD,V,Z,a1]
    .have aB:n<=R.length:=by omega
     simp[-aD,V,Z,a1]
   rintro⟨J,G,ds⟩⟨m,rfl,x⟩
   simp only at m x
   obtain rfl:t=G:=x.symm
   rw[eD]
   refine Ends.bl (gO (fun j:Nat=>[(0,aw b),(1,aa a),(16,.c U),(17,aa n),(18,aa j)]) (fun j G=>j<=n/\∃d,bK G d b (lr a (L.take j) K)/\aH Gx c1 d t G) [] (fun j=>n-j) _ [0,1,16,17,18] (fun _=>rfl) ?_ 0 _ m ⟨by omega,c1,D,aH.refl _ _ _⟩ rfl)
   rintro j⟨J,G,ds⟩m⟨g2,c2,l,o⟩g5
   simp only at m g2 l o g5
   subst g5
   simp at m
   have⟨y,z,aq,ab,ad⟩:=m
   by_cases ae:j<n
   .have M:j<L.length:=by omega
    have⟨w,N⟩:=ak L[j]
    have ar:a≠w:=am w (by rw[<-N];exact air M)
    have af:lr a (L.take (j+1)) K=(lr a (L.take j) K).eO a w (((lr a (L.take j) K).pipe a w).tick (cT a w)):=by
     unfold lr
     rw[aiB,aae M,N,ajc]
     rfl
    have⟨ag,_⟩:=Ba a (L.take j) K p
    have⟨r,O⟩:=ak (lr a (L.take j) K)
    rw[O]at l af ag
    obtain⟨h,v,rfl,hh,hc⟩:=X.resolve_left fun e=>by omega
    have gh:G[h]?=some (.live v 1 R):=(o.get hh (by rw[hc];simp)).1
    have m1:R[j]?=some [I (w:Int)]:=by rw[an j M,N]
    have au:j<R.length:=by omega
    have hw:ads.wrap ((j:Int)+1)=((j+1:Nat):Int):=cr (by omega)
    have⟨aC,c3,H3,ah,A,P⟩:=uk l ar
    have⟨s,hs⟩:=ak (cT a w)
    have⟨c4,H4,aj,r4,s4⟩:=YY (sD _ _) A.r (ag.pipe a w) (cT a w)
    have r5:=A.bJ s4 r4
    have fin:∃B,n-B<n-j/\((j+1:Nat):Int)=(B:Int)/\B<=n/\∃d,bK H4 d b (lr a (L.take B) K)/\aH Gx c1 d t H4:=
     ⟨j+1,by omega,rfl,by omega,c4,by rw[af];exact r5,(o.trans (P.mono (lU (by omega)))).trans (s4.mono rF)⟩
    rw[hs]at ah aj
    simp[-aD,-getElem?_pos,-aae,-ac7,y,z,aq,ab,ad,ae,gh,au,m1,ah,aj,hw]
    exact fin
   .simp[y,z,ab,ad,ae]
    rw[ach (by omega)]at l
    exact⟨c2,l,o⟩
  rintro J G⟨y,z,_⟩⟨c2,l,o⟩
  rw[ao]
  have⟨c3,H3,k,s,e,le,av,F,ax,A,P⟩:=NA (T:=T) l ti ⟨by rw[Y];exact Q.s,by rw[Y];exact Q.id⟩ (by unfold lW;rw[tt];exact hT) al a ⟨3,0,0,K.hold,[]⟩ (nl:=ap) rfl (fun h=>by cases h) hid
  have⟨aE,mp,mt,es,et,O⟩:=l
  have hb:=O.hb
  rw[th]at hb
  simp[-aD,y,z,hb,av]
  exact⟨c3,k,s,e,le,⟨rfl,rfl⟩,F,ax,A,((s1.mono fun _ h=>h.elim).trans o).trans P⟩)
 refine⟨d,g,k,s,e,le,dK (by simp) e1,?_,h2,h3,h4⟩
 unfold Cl.uc
 rw[if_neg (fun h=>h q)]
 exact F
def ZP(H:List Ob)(c:Nat->aU)(q:ab)(l:List cU):Prop:=(l=[]/\q=ap)\/∃h v,q= .sl h v 0 l.length/\H[h]?=some (.live v 3 (l.map br))/\c h= .none
def c57(H:List Ob){q:ab}{l:List cU}(f:uh H q l)(g:l.length<=1000000):aO tz ay 57 [.c q] H=some (bd H.length 0 0 l.length,H++[ah 3 (l.map br)]):=by
 have b:bA (l.map br)=true:=ada l;have i:kW [3] (ah 3 (l.map br))=true:=by simp[kW,cW,fZ,br]
 have j:dY H.length (ah 3 (l.map br))=ah 3 (l.map br):=qy b;rcases f with⟨rfl,rfl⟩|⟨h,v,lo,rows,rfl,d,k,o⟩
 .have h:=PX (a:=ap) (l:=[]) rfl (by simp);simp[h,eo,bV,bD,eR,dZ,dY]
 .have e:=tX (lo:=lo) (len:=l.length) d (by omega);rw[k]at e;have m:=yg (n:=5) d e b;have h:=PX (a:= .aj (l.map br)) (l:=l) rfl g;simp[-bV,-dY,-kW,h,m,eo,i,j,km,fZ,eR,dZ]
def RX(h:bK H c b K)(x y:Int)(g:(K.pc x y).length<=1000000):∃q j a,aO tz ay 28 [aw b,aa x,aa y] H=some (.c q,a)/\ZP a j q (K.pc x y)/\bK a j b K/\aH Gx c j H a:=by
 have i:=vW h x y;unfold Cl.pc at g|-;by_cases e:K.two x y
 .obtain ⟨u,v,rfl,rfl,I⟩:=qL e;rw[if_pos e]at g|-;rw[decide_eq_true e]at i;simp only[aim]at g|-;have⟨t,c1,d,w,o,z⟩:=Pr h u v;have⟨J,A,B,L,M⟩:=o.r;have p:=c57 d B g;have⟨l,D⟩:=ak ((K.tr u v).left);rw[D]at p|-;have s:aH (fun _=>False) c1 (ext c1 d.length .none) d (d++[ah 3 (l.map br)]):=aH.of _ (by simp) fun m hm _=>aaK hm;have⟨q,mp,mt,E,F,G,_⟩:=o.n;obtain⟨r,a,k,rfl,rfl⟩:=cG (C:=tz) (f:=28) (args:=[aw b,aa u,aa v]) (H:=H) (fun r a=>r=bd d.length 0 0 l.length/\a=d++[ah 3 (l.map br)]) func28 rfl (by simp[-aD,f28,i,w,A,p])
  exact⟨_,_,_,dK (by simp) k,.inr ⟨d.length,0,rfl,by simp,jr (adt _)⟩,⟨q,mp,mt,E,F,G.aJ s fun _ h=>h.elim⟩,(z.mono (lU (by omega))).trans (s.mono fun _ h=>h.elim)⟩
 .rw[if_neg e];rw[decide_eq_false e]at i;obtain⟨r,a,k,rfl,rfl⟩:=cG (C:=tz) (f:=28) (args:=[aw b,aa x,aa y]) (H:=H) (fun r a=>r= .c ap/\a=H) func28 rfl (by simp[-aD,f28,i])
  exact⟨_,c,_,dK (by simp) k,.inl ⟨rfl,rfl⟩,h,aH.refl _ _ _⟩
end
end
section
variable{n:Nd}{T:Nat}
def Tz{p:Int}{m:cU}(h:(fQ n p m).e=0):dv n=true:=by
 unfold fQ at h;split at h
 .rename_i a;exact vg a
 .exact vg h
def WH(H:List Ob)(hn:fm n)(p:Int)(m:cU):∃o,aO tz ay 142 [.agg (aT n),aa p,.agg (br m)] H=some (o,H)/\mF (fQ n p m) o:=by
 have⟨o,c,a⟩:=YG n p m (Se hn) fun b=>Q1 (Tz b) b;refine⟨o,?_,a⟩;have d:df H (.agg (aT n))=some (.agg (aT n),[]):=by simp only[df,nB (AA n),Lm]
 have e:df H (.agg (br m))=some (.agg (br m),[]):=by have:cw (br m)=true:=rfl;simp only[df,nB this];rfl
 have f:df H (aa p)=some (aa p,[]):=by simp only[df,vI]
 rw[aD,if_neg (by simp[eQ])];simp only[dy,d,e,f,lJ,show tz.md 142=1 from rfl,aeo];rw[c,jQ,a.sh];simp[eo]
def Ui(H:List Ob)(l:bx)(a:l.length<=1000000):aO tz ay 141 [.c (Sg l)] H=some (.aM [.agg (br (lj l).1),aa (lj l).2],H):=by have h:=XZ l a;simp[h,br]
def QZ(K:Cl)(x y:Nat):K.nj x y (K.tr x y)=K:=by
 unfold Cl.nj;congr 1
 funext u v
 split
 .rename_i h;rw[h.1,h.2]
 .rfl
def zg{K:Cl}(h:dN K)(c:lW T K)(a b:Nat):dN (K.tell a b)/\lW T (K.tell a b)/\(K.tell a b).nodes=K.nodes:=by
 unfold Cl.tell;split
 .rw[QZ];exact⟨h,c,rfl⟩
 .have d:=h.ts a b;have e:=c a b;have f:=h.tl a b;exact⟨OX h (by simp;omega) (by simp;omega),K8 c (by simp;omega),rfl⟩
section
variable{H:List Ob}{c:Nat->aU}{b:Nat}{K:Cl}
def c85(h:bK H c b K)(hi:dN K)(hN:zx K)(hT:lW T K)(aU:T<=900000000)(a i:Nat)(r:i<K.nodes.length)(s:bx)(hs:s.length<=1000000)(hid:∀n ax m v,jm (fQ n ax m) v->v.n.dr.ai.id=n.dr.ai.id):
  ∃d u z l e le,aO tz ay 85 [aw b,aa a,aa i,.c (Sg s)] H=some (.aM [.c le,aa e],u)/\K.Told a i s z l e/\lM le l/\bK u d b z/\aH Gx c d H u:=by
 have⟨t,c1,N,ad,r1,s1⟩:=Pr h a i
 have⟨n,hn⟩:=ak K.nodes[i]
 have ag:K.nodes.getD i .zero=n:=by rw[ae9,aae r,hn];rfl
 have az:fm n:=by rw[<-hn];exact hN.s i r
 have aA:n.dr.ai.id=i:=by rw[<-hn];exact hN.id i r
 have⟨ti,tT,F⟩:=zg hi hT a i
 have hA:(lj s).2≠0->K.Told a i s (K.tell a i) [] 212:=fun h=>by
  unfold Cl.Told
  rw[if_pos h]
  exact⟨rfl,rfl,rfl⟩
 have A:(lj s).2=0->(fQ n a (lj s).1).e≠0->K.Told a i s (K.tell a i) [] 212:=fun h j=>by
  unfold Cl.Told
  rw[if_neg (fun e=>e h),ag,if_pos j]
  exact⟨rfl,rfl,rfl⟩
 have O:(lj s).2=0->(fQ n a (lj s).1).e=0->∀v,jm (fQ n a (lj s).1) v->K.Told a i s ((K.tell a i).take v.n v.out) v.seen 0:=fun h j v B=>by
  unfold Cl.Told
  rw[if_neg (fun e=>e h),ag,if_neg (fun e=>e j)]
  exact⟨v,B,rfl,rfl,rfl⟩
 have⟨q0,mp,mt,es,et,J,aB⟩:=r1.n
 have⟨aC,o,k2,k3,k4⟩:=r1.r
 obtain⟨al,u,h1,d,z,l,e,le,rfl,j⟩:=cG (C:=tz) (f:=85) (args:=[aw b,aa a,aa i,.c (Sg s)]) (H:=H) (fun al u=>∃d z l e le,al= .aM [.c le,aa e]/\K.Told a i s z l e/\lM le l/\bK u d b z/\aH Gx c d H u) func85 rfl (by
  simp only[f85,bX]
  rw[fK,fK]
  refine bp [(0,aw b),(1,aa a),(2,aa i),(3,.c (Sg s))] (fun G=>∃d,bK G d b (K.tell a i)/\aH Gx c d H G) ?_ ?_
  .have ⟨g,P⟩:=ak (K.tr a i)
   rw[P]at o k2
   have aE:=hi.ts a i
   have aF:=hi.tl a i
   rw[P]at aE aF
   by_cases k:g.left=[]
   .have ae:K.tell a i=K:=by unfold Cl.tell;rw[P,if_pos k, <-P,QZ]
    have fin:∃d,bK N d b (K.tell a i)/\aH Gx c d H N:=⟨c1,by rw[ae];exact⟨_,_,_,_,_,J⟩,s1.mono (lU (by omega))⟩
    rcases k2 with⟨_,rfl⟩|⟨j,v,p,rows,rfl,Q,L,R⟩
    .simp[-aD,ad,o]
     exact fin
    .rw[k]at o R
     simp only[aiK,aiw]at o R
     have af:p<=rows.length:=by omega
     simp[-aD,ad,o]
     exact fin
   .obtain ⟨j,v,p,rows,rfl,Q,L,R⟩:=k2.resolve_left fun e=>k e.1
    obtain⟨q,S⟩:∃q,g.left.length=q+1:=⟨g.left.length-1,by cases aI:g.left with|nil=>exact absurd aI k|cons _ _=>simp⟩
    have ae:K.tell a i=K.nj a i ⟨g.left.tail,g.bO-1⟩:=by unfold Cl.tell;rw[P,if_neg k]
    have af:p+g.left.length<=rows.length:=by omega
    have hw:ads.wrap ((g.bO:Int)-1)=(g.bO:Int)-1:=fC (by omega) (by omega)
    have aK:max ((g.bO:Int)-1) 0=((g.bO-1:Nat):Int):=by omega
    have aL:j≠t:=fun e=>by rw[e,o]at Q;cases Q
    have fin:∀G,G=N.set t (ah 2 [[.sl j v (p+1) q,I ((g.bO-1:Nat):Int)]])->∃d,bK G d b (K.tell a i)/\aH Gx c d H G:=fun G hG=>by
     have U:aH (· = .tr a i) c1 c1 N G:=by rw[hG];exact pX (b:=t) (h:=t) (by simp) k3 k3 fun m h _=>aay (ain h)
     refine⟨c1,?_,(s1.mono (lU (by omega))).trans (U.mono G8)⟩
     rw[ae]
     refine⟨_,_,_,_,_,J.xe U aB ⟨.sl j v (p+1) q,by rw[hG];exact ba o,.inr ⟨j,v,p+1,rows,?_,?_,?_,?_⟩,k3,fun m hm=>k4 m (by simpa[rf]using hm)⟩⟩
     .simp[S]
     .rw[hG,aay (ain aL)];exact Q
     .rw[S]at L
      have:=congrArg List.tail L
      simp only[List.length_tail,S,alN, <-List.map_tail]at this|-
      rw[<-this]
      rw[<-List.drop_one,alv,aj8]
      rfl
     .simp only[List.length_tail,S,alN];omega
    have q1:(0:Int)< ((q+1:Nat):Int):=by omega
    have q2:(((q+1:Nat):Int)-1).toNat=q:=by omega
    have q3:(1:Int)<=((q+1:Nat):Int):=by omega
    have q4:p+(q+1)<=rows.length:=by omega
    have q5:p+1<=rows.length:=by omega
    rw[S]at o
    have V:∀X,(N.set t X)[t]?=some X:=fun X=>ba o
    simp[-aD,-ac7,ad,o,Q,q3,V,hw,aK]
    exact fin _ rfl
  rintro en G⟨a0,a1,a2,a3,_⟩⟨c2,L,R⟩
  have⟨W,aN⟩:=ak (K.tell a i)
  rw[aN]at L hA A O ti tT F
  have w:=Ui G s hs
  have⟨m,hm⟩:=ak ((lj s).1)
  rw[hm]at w A O
  have⟨X,x⟩:=ak (G++[ah 3 [br m]]:List Ob)
  have U:aH (fun _=>False) c2 (ext c2 G.length .none) G X:=by rw[<-x];exact aH.of _ (by simp) fun m hm _=>aaK hm
  have gX:=L.aJ U fun _ h=>h.elim
  have aP:X[G.length]?=some (ah 3 [br m]):=by rw[<-x];simp
  have sX:aH Gx c (ext c2 G.length .none) H X:=R.trans (U.mono fun _ h=>h.elim)
  by_cases k:(lj s).2=0
  case neg=>
   have hA:=hA k
   simp only[br]at w x
   simp[-aD,a3,w,x,k]
   exact⟨_,W,[],212,ap,⟨rfl,rfl⟩,hA,.inl ⟨rfl,rfl⟩,gX,sX⟩
  rw[k]at w
  have A:=A k
  have O:=O k
  have⟨aC,mp,mt,es,et,J⟩:=gX
  have hb:=J.hb
  obtain⟨hh,v,rfl,am,hc⟩:=J.hn.resolve_left fun e=>by rw[F]at e;rw[e.1]at r;simp at r
  have⟨an,hR⟩:=ak (W.nodes.map aT)
  have Z:an[i]?=some (aT n):=by rw[<-hR,F,adn,aae r,hn];rfl
  have ao:i<an.length:=by rw[<-hR,F];simpa using r
  have aq:i<W.nodes.length:=by rw[F];exact r
  rw[hR]at am
  have ar:bK X (ext c2 G.length .none) b W:=⟨_,_,_,_,_,J⟩
  have⟨aW,D,B⟩:=WH (X++[.dead]) az a m
  have gb:=fun K=>aV (m:=K) hb
  have gr:=fun K=>aV (m:=K) am
  have gm:=fun K=>aV (m:=K) aP
  unfold mF at B
  by_cases M:(fQ n a m).e=0
  .rw[if_pos M]at B
   obtain⟨y,p,le,rfl,V,aQ,af⟩:=B
   have aR:lM le y.seen:=by
    rcases af with h|h
    .exact .inl h
    .exact .inr h
   have⟨ab,E⟩:=ak (X++[.live 1 10 [aT y.n]]:List Ob)
   have Y:aH (fun _=>False) (ext c2 G.length .none) (ext (ext c2 G.length .none) X.length .none) X ab:=by rw[<-E];exact aH.of _ (by simp) fun m hm _=>aaK hm
   have au:ab[X.length]?=some (.live 1 10 [aT y.n]):=by rw[<-E];simp
   have aS:=hid n a m y V
   have⟨c3,H2,av,r2,s2⟩:=Sf (T:=T) (ar.aJ Y fun _ h=>h.elim) ti tT y.n y.out (lf:=p) (by rw[aS,aA,F];omega) (by have:=V.out.1;omega) aQ
   simp only[aT,aG]at Z D E au av
   simp only[br]at w D x gm
   simp[-aD,-getElem?_pos,-aae,mT,gV,iT,a0,a1,a2,a3,w,x,gb,gr,gm,aq,Z,ao,D,E,au,av]
   exact⟨c3,_,y.seen,0,le,⟨rfl,rfl⟩,O M y V,aR,r2,(sX.trans (Y.mono fun _ h=>h.elim)).trans s2⟩
  .rw[if_neg M]at B
   have A:=A M
   subst B
   have⟨ab,E⟩:=ak (X++[.live 1 10 [[I 0,I 0,.aj [],I 0,.aj [],I 0,.aj [],.aj [],.aj [],.aj []]]]:List Ob)
   have Y:aH (fun _=>False) (ext c2 G.length .none) (ext (ext c2 G.length .none) X.length .none) X ab:=by rw[<-E];exact aH.of _ (by simp) fun m hm _=>aaK hm
   have⟨aX,hz⟩:=ak ((fQ n a m).e)
   rw[hz]at D M
   simp only[aT,aG]at Z D
   simp only[br]at w D x gm
   simp[-aD,-getElem?_pos,-aae,mT,gV,iT,a0,a1,a2,a3,w,x,gb,gr,gm,aq,Z,ao,D,E,M]
   exact⟨_,W,[],212,ap,⟨rfl,rfl⟩,A,.inl ⟨rfl,rfl⟩,ar.aJ Y fun _ h=>h.elim,sX.trans (Y.mono fun _ h=>h.elim)⟩)
 exact⟨d,u,z,l,e,le,dK (by simp) h1,j⟩
end
end
section
variable{T:Nat}{l:List Ev}{P:Pp}{e:Int}
structure xo:Prop where
 a:∀n d v,jm (cN n d) v->v.n.dr.ai.id=n.dr.ai.id
 g:∀n p m v,jm (fQ n p m) v->v.n.dr.ai.id=n.dr.ai.id
structure dL(T:Nat)(K:Cl):Prop where
 i:dN K
 n:zx K
 t:lW T K
 g:∀x y s,(K.pp x y).dT s<=T
def dL.mono{a:Nat}{K:Cl}(h:dL T K)(b:T<=a):dL a K:=⟨h.i,h.n,fun x y=>aiZ (h.t x y) b,fun x y s=>aiZ (h.g x y s) b⟩
def Qf{s:Bool}:∀(l:List cU) (P:Pp),(sendAll s l P).1.dT=P.dT
 |[],P=>rfl
 |m::r,P=>by
  unfold sendAll
  split
  .exact Qf r _
  .rfl
def XE{K:Cl}(h:dL T K)(a b:Nat):dL T (K.oQ a b):=by
 refine⟨QT h.i a b,⟨h.n.s,h.n.id⟩,fun x y=>?_,fun x y s=>?_⟩
 .show (if x=a/\y=b then(⟨_,_⟩:Tr)else K.tr x y).left.length<=T;split
  .exact h.t a b
  .exact h.t x y
 .show (if x=min a b/\y=max a b then _ else K.pp x y).dT s<=T;split
  .rw[Qf];exact h.g _ _ s
  .exact h.g x y s
def qn{K:Cl}(h:dL T K)(a:Nat):dL T (K.flush a)/\(K.flush a).nodes=K.nodes:=by
 refine⟨?_,(wS _ h.i).2⟩;unfold Cl.flush;generalize others K.nodes.length a=l;induction l generalizing K with
 |nil=>exact h
 |cons b l c=>exact c (XE h a b)
def ag3:∀(l:List cB) {K:Cl},dL T K->T+l.length<=1000000000->dL (T+l.length) (l.foldl Cl.ir K)/\(l.foldl Cl.ir K).nodes=K.nodes:=fun l K h b=>by
 have⟨c,d,a⟩:=Ah l h.i h.t b
 have hp:(l.foldl Cl.ir K).pp=K.pp:=by
  clear c d a h b;induction l generalizing K with
  |nil=>rfl
  |cons m l e=>rw[aiW,e];unfold Cl.ir;split<;>rfl
 exact⟨⟨c,⟨by rw[a];exact h.n.s,by rw[a];exact h.n.id⟩,d,fun x y s=>by rw[hp];have:=h.g x y s;omega⟩,a⟩
def zm{K:Cl}(h:dL T K){n:Nd}{l:List cB}(hn:fm n)(hid:0<=n.dr.ai.id/\n.dr.ai.id<K.nodes.length)(b:T+l.length<=1000000000):dL (T+l.length) (K.take n l)/\(K.take n l).nodes=K.nodes.set n.dr.ai.id.toNat n:=by
 have c:dL T (K.oM n):=by
  refine⟨PY h.i n,⟨fun i a=>?_,fun i a=>?_⟩,h.t,h.g⟩
  .have d:i< (K.nodes.set n.dr.ai.id.toNat n).length:=a;show fm ((K.nodes.set n.dr.ai.id.toNat n)[i]);rw[ame];split
   .exact hn
   .exact h.n.s i _
  .have d:i< (K.nodes.set n.dr.ai.id.toNat n).length:=a;show((K.nodes.set n.dr.ai.id.toNat n)[i]).dr.ai.id=_;rw[ame];split
   .rename_i e;omega
   .exact h.n.id i _
 have⟨f,j⟩:=ag3 l c b;have⟨k,m⟩:=qn f n.id.toNat;exact⟨k,m.trans j⟩
def Ma{K:Cl}(h:dL T K)(a b:Nat):dL T (K.tell a b):=by have⟨d,e,c⟩:=zg h.i h.t a b;refine⟨d,⟨by rw[c];exact h.n.s,by rw[c];exact h.n.id⟩,e,h.g⟩
def Gb(h:dO P)(s:Bool)(k:Int):dO (P.jt s k).1:=by
 unfold Pp.jt;split
 .exact h
 .rename_i b c;split
  .have a:=J8 (h.cut s k) s (abL ((h.cut s k).l s) (lB (jU b)).1);simp only;unfold Pp.zd;split
   .exact a
   .exact ⟨a.l,a.q,a.b,a.r⟩
  .exact h.cut s k
def KI(P:Pp)(s:Bool)(k:Int)(t:Bool):(P.jt s k).1.dT t<=P.dT t+1:=by
 unfold Pp.jt;split
 .exact amn _
 .split
  .simp only;unfold Pp.zd;split
   .exact amn _
   .show up P.dT s (P.dT s+1) t<=_;unfold up;split
    .rename_i e;rw[e];exact adt _
    .exact amn _
  .exact amn _
def zH{K:Cl}(h:dL T K)(a b:Nat)(hp:dO P)(c:∀s,P.dT s<=T):dL T (K.eO a b P):=by
 refine⟨h.i.eO a b hp,⟨h.n.s,h.n.id⟩,h.t,fun x y s=>?_⟩;show(if x=min a b/\y=max a b then P else K.pp x y).dT s<=T;split
 .exact c s
 .exact h.g x y s
def Ir{K d:Cl}(m:xo)(h:dL T K)(r:T<=900000000){a i:Nat}(j:i<K.nodes.length){s:bx}(b:K.Told a i s d l e):dL (T+9000) d/\d.nodes.length=K.nodes.length:=by
 unfold Cl.Told at b;have f:=Ma h a i;have hn:(K.tell a i).nodes=K.nodes:=(zg h.i h.t a i).2.2;split at b
 .obtain ⟨rfl,_⟩:=b;exact⟨f.mono (by omega),by rw[hn]⟩
 .split at b
  .obtain ⟨rfl,_⟩:=b;exact⟨f.mono (by omega),by rw[hn]⟩
  .obtain ⟨v,c,rfl,_⟩:=b;have o:K.nodes.getD i .zero=K.nodes[i]:=by rw[ae9,aae j];rfl
   have k:=m.g _ _ _ _ c;rw[o,h.n.id i j]at k;have⟨p,q⟩:=zm f (l:=v.out) c.jW.s (by rw[k,hn];omega) (by have:=c.out.1;omega);exact⟨p.mono (by have:=c.out.1;omega),by rw[q,aiJ,hn]⟩
def Mo{K f:Cl}(o:xo)(h:dL T K)(q:T<=900000000){a:Int}{d:Act}(b:K.bP a d f l e):dL (T+9000) f/\f.nodes.length=K.nodes.length:=by
 unfold Cl.bP at b;split at b
 .obtain ⟨rfl,_⟩:=b;exact⟨h.mono (by omega),rfl⟩
 rename_i hc;have hth:K.there a:=akj fun hn=>hc (.inl hn);obtain⟨i,rfl⟩:∃i:Nat,a=i:=⟨a.toNat,by have:=hth.1;omega⟩;have k:i<K.nodes.length:=by have:=hth.2;omega
 simp only[aim]at b;split at b
 .obtain ⟨rfl,_⟩:=b;have⟨g,j⟩:=qn h i;exact⟨g.mono (by omega),by rw[j]⟩
 .obtain ⟨v,c,rfl,_⟩:=b;have p:K.nodes.getD i .zero=K.nodes[i]:=by rw[ae9,aae k];rfl
  have m:=o.a _ _ _ c;rw[p,h.n.id i k]at m;have⟨g,j⟩:=zm h (l:=v.out) c.jW.s (by rw[m];omega) (by have:=c.out.1;omega);exact⟨g.mono (by have:=c.out.1;omega),by rw[j,aiJ]⟩
section
variable{H:List Ob}{c:Nat->aU}{b:Nat}{K:Cl}
def vB{K:Cl}(h:dN K){x y k:Int}{s:bx}(a:K.look x y k=some s):K.two x y/\s.length<=1000:=by
 unfold Cl.look at a;split at a
 .rename_i c;refine⟨c,?_⟩;unfold Pp.look dV at a;split at a
  .cases a
  .exact (h.pipe _ _).b _ _ (aiD a)
 .cases a
def adR{e:Lk}{f:Fm}{s:bx}(h:(jc e f).2=some s):s.length<=64:=by
 unfold jc at h;split at h
 .cases h
 .rename_i b;split at h
  .cases h
  split at h
  .cases h
  .simp only[abj]at h;subst h;have a:mO f=true:=by cases c:mO f with|true=>rfl|false=>exact absurd (.inl c) b
   simp only[mO,aa2,decide_eq_true_eq]at a;exact a.1.2
def adi{s:Bool}{k:Int}{t:bx}(h:(P.jt s k).2=some t):t.length<=64:=by
 unfold Pp.jt at h;split at h
 .cases h
 .split at h
  .exact adR h
  .cases h
def YF(N:xo)(h:bK H c b K)(m:dL T K)(ah:T<=800000000)(x y k:Int):
  ∃p a q l e le,aO tz ay 42 [aw b,aa x,aa y,aa k] H=some (.aM [.c le,aa e],a)/\K.Comes x y k q l e/\lM le l/\bK a p b q/\aH Gx c p H a:=by
 obtain⟨c1,W,j,O,P⟩:=Am h x y k
 unfold eI at j
 cases w:K.look x y k with
 |none=>
  rw[w]at j
  simp only[ajj,ajg]at j
  obtain⟨r,a,G,rfl,rfl⟩:=cG (C:=tz) (f:=42) (args:=[aw b,aa x,aa y,aa k]) (H:=H) (fun r a=>r= .aM [.c ap,aa 211]/\a=W) func42 rfl (by
   simp[-aD,f42,j])
  exact⟨c1,_,K,[],211,ap,dK (by simp) G,by unfold Cl.Comes;rw[if_pos w];exact⟨rfl,rfl,rfl⟩,.inl ⟨rfl,rfl⟩,O,P⟩
 |some s0=>
 rw[w]at j
 simp only[aiU,ajf]at j
 obtain⟨u,v,rfl,rfl,X⟩:=qL (vB m.i w).1
 have Q:v<K.nodes.length:=by have:=(vB m.i w).1.2.1.2;omega
 obtain⟨ai,c2,H2,R,S,Y⟩:=uk O (ain X)
 obtain⟨c3,Z,z,r3,U⟩:=aaQ (sD _ _) S.r (m.i.pipe v u) (cT v u) k (by have:=m.g (min v u) (max v u) (cT v u);show(K.pipe v u).dT _<=_;unfold Cl.pipe;omega)
 have I:=S.bJ U r3
 obtain⟨D,A⟩:=ak (((K.pipe v u).jt (cT v u) k).1)
 obtain⟨o,E⟩:=ak (((K.pipe v u).jt (cT v u) k).2)
 have B:dL (T+1) (K.eO v u D):=zH (m.mono (by omega)) v u (by rw[<-A];exact Gb (m.i.pipe v u) _ _) fun s=>by
  rw[<-A]
  exact aiZ (KI _ _ _ _) (by have:=m.g (min v u) (max v u) s;show(K.pp _ _).dT s+1<=_;omega)
 have ab:o=none->K.Comes u v k ((K.eO v u D).flush v) [] 0:=fun h=>by
  unfold Cl.Comes
  rw[if_neg (by rw[w];simp)]
  simp only[aim,E,h,A]
  refine⟨?_,?_,?_⟩<;>first|rfl|trivial
 have ad:∀s,o=some s->∀d l e,Cl.Told (K.eO v u D) u v s d l e->K.Comes u v k (d.flush v) l e:=fun s h d l e F=>by
  unfold Cl.Comes
  rw[if_neg (by rw[w];simp)]
  simp only[aim,E,h,A]
  exact⟨d,F,rfl⟩
 rw[A]at I
 rw[E]at z
 have V:aH Gx c c3 H Z:=(P.trans (Y.mono (lU (by omega)))).trans (U.mono rF)
 obtain⟨r,a,G,p,q,l,e,le,rfl,g2⟩:=Ws (C:=tz) (f:=42) (args:=[aw b,aa u,aa v,aa k]) (H:=H) (fun r a=>∃p q l e le,r= .aM [.c le,aa e]/\K.Comes u v k q l e/\lM le l/\bK a p b q/\aH Gx c p H a) func42 rfl (by
  have aj:tz.kL 36=false:=rfl
  unfold eI at z
  cases o with
  |none=>
   simp only[ajj,ajg]at z
   obtain⟨c4,H4,_,J,L,M⟩:=Ea I B.i v
   simp[-aD,f42,j,R,z,rj]
   exact⟨_,_,⟨rfl,rfl⟩,rfl,rfl,_,_,J,c4,_,[],0,ap,⟨rfl,rfl⟩,ab rfl,.inl ⟨rfl,rfl⟩,L,V.trans M⟩
  |some s=>
   simp only[aiU,ajf]at z
   obtain⟨c4,H4,K4,l,e,le,ae,F,af,L,M⟩:=c85 (T:=T+1) I B.i B.n B.t (by omega) u v Q s (by have:=adi E;omega) N.g
   obtain⟨ag,_⟩:=Ir N B (by omega) (show v< (K.eO v u D).nodes.length from Q) F
   obtain⟨c5,H5,_,J,h5,s5⟩:=Ea L ag.i v
   simp[-aD,f42,j,R,z,ae,rj]
   exact⟨_,_,⟨rfl,rfl⟩,rfl,rfl,_,_,J,c5,_,l,e,le,⟨rfl,rfl⟩,ad s rfl _ _ _ F,af,h5,(V.trans M).trans s5⟩)
 exact⟨p,a,q,l,e,le,dK (by simp) G,g2⟩
end
end
section
variable{k:aU}{q:ab}
def Cl.jG(K:Cl)(x y:Int):List bx:=if K.two x y then(K.pipe y.toNat x.toNat).q (!cT y.toNat x.toNat)else []
def LF(K:Cl)(x y k:Int):K.look x y k=dV (K.jG x y) k:=by
 unfold Cl.look Cl.jG Pp.look;split
 .rfl
 .unfold dV;split<;>rfl
def A6{K:Cl}(h:dN K)(x y:Int):(K.jG x y).length<=1000/\∀t∈K.jG x y,t.length<=1000:=by
 unfold Cl.jG;split
 .have hp:=h.pipe y.toNat x.toNat;exact⟨by have:=hp.q (!cT y.toNat x.toNat);have:=hp.r;omega,hp.b _⟩
 .exact ⟨by simp,by simp⟩
section
variable{H:List Ob}{c:Nat->aU}{b:Nat}{K:Cl}
def Rh(h:bK H c b K)(z:dN K)(x y:Int):∃a e,aO tz ay 59 [aw b,aa x,aa y] H=some (aa (K.jG x y).length,e)/\bK e a b K/\aH Gx c a H e:=by
 have⟨n,hn⟩:=ak ((K.jG x y).length);have A:=(A6 z x y).1;rw[hn]at A|-
 obtain⟨r,e,B,a,rfl,D⟩:=cG (C:=tz) (f:=59) (args:=[aw b,aa x,aa y]) (H:=H) (fun r e=>∃a,r=aa n/\bK e a b K/\aH Gx c a H e) func59 rfl (by
  simp only[f59,bX];refine bp [(0,aw b),(1,aa x),(2,aa y)] (fun G=>G=H) ?_ ?_
  .simp
  rintro l G⟨E,F,I,_⟩k;obtain rfl:H=G:=k.symm;rw[iY];refine Ends.sq ?_;refine bp [(0,aw b),(1,aa x),(2,aa y),(7,aa (0:Nat))] (fun G=>G=H) ?_ ?_
  .simp[E,F,I]
  rintro l G J k;obtain rfl:H=G:=k.symm;rw[eD];refine im (fun j:Nat=>[(0,aw b),(1,aa x),(2,aa y),(7,aa j)]) (fun j G=>j<=n/\∃a,bK G a b K/\aH Gx c a H G) (fun j=>n-j) ?_ 0 J ⟨by omega,c,h,aH.refl _ _ _⟩ fun _=>rfl;rintro j l G ⟨m,o,p,q,_⟩ ⟨N,c2,L,t⟩;have u:(j:Int)<1001:=by omega
  have⟨c3,O,g,v,w⟩:=Am L x y j;rw[LF]at g;unfold eI at g;have M:ads.wrap ((j:Int)+1)=((j+1:Nat):Int):=cr (by omega);by_cases d:j<n
  .have i:∃s,dV (K.jG x y) (j:Int)=some s:=by unfold dV;rw[if_neg (by omega)];exact⟨_,aae (by rw[hn];omega)⟩
   have⟨s,i⟩:=i;rw[i]at g;simp only[aiU,ajf]at g;simp[-aD,-getElem?_pos,-aae,-ac7,m,o,p,q,u,g,M];exact⟨j+1,by omega,rfl,by omega,c3,v,t.trans w⟩
  .have P:j=n:=by omega
   have i:dV (K.jG x y) (j:Int)=none:=by unfold dV;rw[if_neg (by omega)];exact aiz (by rw[hn];omega)
   rw[i]at g;simp only[ajj,ajg]at g;simp[-aD,-getElem?_pos,-aae,-ac7,m,o,p,q,u,g];exact⟨by omega,c3,v,t.trans w⟩)
 exact⟨a,e,dK (by simp) B,D⟩
def iJ(H:List Ob)(c:Nat->aU)(k:aU)(z:Nat)(q:ab)(rows:List (List ab)):Prop:= ∃h v,q= .sl h v 0 rows.length/\H[h]?=some (.live v z rows)/\c h=k
def iJ.aJ{H':List Ob}{a:Nat->aU}{X:aU->Prop}{z:Nat}{rows:List (List ab)}(h:iJ H c k z q rows)(d:aH X c a H H')(e:¬X k):iJ H' a k z q rows:=by have⟨h,v,f,g,b⟩:=h;have⟨i,j⟩:=d.get g (by rw[b];exact e);exact⟨h,v,f,i,j.trans b⟩
def Cl.lR(K:Cl)(x:Int)(n:Nat):List Int:=(aiT n).map fun(i:Nat)=>((K.jG x (i:Int)).length:Int)
def agn(K:Cl)(x:Int)(n:Nat):K.lR x (n+1)=K.lR x n++[((K.jG x (n:Int)).length:Int)]:=by unfold Cl.lR;rw[ajX,agA];rfl
def c29(h:bK H c b K)(X:dN K)(x:Int)(n:Nat)(hn:n<=1000):∃q a e,aO tz ay 29 [aw b,aa x,aa n] H=some (.c q,e)/\iJ e a .none 1 q ((K.lR x n).map aC)/\bK e a b K/\aH Gx c a H e:=by
 obtain⟨r,e,Y,q,a,rfl,Z⟩:=cG (C:=tz) (f:=29) (args:=[aw b,aa x,aa n]) (H:=H) (fun r e=>∃q a,r= .c q/\iJ e a .none 1 q ((K.lR x n).map aC)/\bK e a b K/\aH Gx c a H e) func29 rfl (by
  simp only[f29,bX];rw[fK];have L:aH (fun _=>False) c (ext c H.length .none) H (H++[ah 1 []]):=aH.of _ (by simp) fun m hm _=>aaK hm;refine bp [(0,aw b),(1,aa x),(2,aa n),(7,bd H.length 0 0 0)] (fun G=>G=H++[ah 1 []]) ?_ ?_
  .simp
  rintro t G⟨a0,a1,a2,a7,_⟩u;refine ef (fun S=>S.bH=[]/\∃q a,S.env.get 7=some (.c q)/\iJ S.heap a .none 1 q ((K.lR x n).map aC)/\bK S.heap a b K/\aH Gx c a H S.heap) ?_ ?_
  .refine bp [(0,aw b),(1,aa x),(2,aa n),(8,aa (0:Nat)),(7,bd H.length 0 0 0)] (fun ad=>ad=G) ?_ ?_
   .simp[a0,a1,a2,a7]
   rintro t G2 g1 ae;obtain rfl:G=G2:=ae.symm;rw[eD];refine im (fun p:Nat×ab=>[(0,aw b),(1,aa x),(2,aa n),(8,aa p.1),(7,.c p.2)]) (fun p G=>p.1<=n/\(∀m∈rf p.2,H.length<=m)/\∃a,iJ G a .none 1 p.2 ((K.lR x p.1).map aC)/\bK G a b K/\aH Gx c a H G) (fun p=>n-p.1) ?_ (0,.sl H.length 0 0 0) g1 ⟨by omega,by simp[rf],_,⟨H.length,0,rfl,by rw[u];simp[Cl.lR],jr (adt _)⟩,by rw[u];exact h.aJ L fun _ h=>h.elim,by rw[u];exact L.mono fun _ h=>h.elim⟩ fun _=>rfl;rintro⟨j,q⟩ t G ⟨M,N,w,y,k,_⟩ ⟨g2,O,c2,A,B,D⟩;simp only at M N w y k g2 O A B D;by_cases d:j<n
   .have ⟨c3,l,P,h3,Q⟩:=Rh B X x j;have af:=A.aJ Q (by simp);obtain⟨i,v,rfl,o,T⟩:=af;have E:((K.lR x j).map aC).length=j:=by simp[Cl.lR]
    have U:=agn K x j;have⟨z,hz⟩:=ak ((K.jG x (j:Int)).length);rw[hz]at P U;have⟨R,V⟩:=ak ((K.lR x j).map aC);rw[V]at o E k;rw[E]at k;have m1:j+1<=maxLen:=by unfold maxLen;omega
    have m2:(j+1)*8<=140737488355328:=by omega
    have W:∀K,(l++K)[i]?=some (.live v 1 R):=fun K=>by rw[aaK (bf o)];exact o
    have hw:ads.wrap ((j:Int)+1)=((j+1:Nat):Int):=cr (by omega);have ht:R.take j=R:=ach (by omega)
    have fin:∃s,n-s<n-j/\∃q,(((j+1:Nat):Int)=(s:Int)/\ab.sl i (v+1) 0 (j+1)=q)/\s<=n/\(∀m∈rf q,H.length<=m)/\∃a,iJ ((l++[Ob.live 0 1 [[I z]]]).set i (Ob.live (v+1) 1 (R++[[I z]]))) a .none 1 q ((K.lR x s).map aC)/\bK ((l++[Ob.live 0 1 [[I z]]]).set i (Ob.live (v+1) 1 (R++[[I z]]))) a b K/\aH Gx c a H ((l++[Ob.live 0 1 [[I z]]]).set i (Ob.live (v+1) 1 (R++[[I z]]))):=by
     have st:aH (· = .none) c3 (ext c3 l.length .none) l ((l++[Ob.live 0 1 [[I z]]]).set i (Ob.live (v+1) 1 (R++[[I z]]))):=aH.of _ (by simp) fun m hm F=>by rw[aay (fun ag=>F (by rw[<-ag];exact T)),aaK hm]
     have ai:H.length<=i:=O i (by simp[rf]);refine⟨j+1,by omega,_,⟨rfl,rfl⟩,by omega,by simp[rf];exact ai,ext c3 l.length .none,⟨i,v+1,?_,?_,?_⟩,h3.aJ st fun _ h=> .inl h,?_⟩
     .simp[Cl.lR]
     .rw[ba (W _),U,agA,V];rfl
     .rw[ji (bf o)];exact T
     .have J:=D.trans Q;have sl:=J.len;exact⟨by simp;omega,fun m hm=>by rw[ji (by omega)];exact J.jS m hm,fun m hm F=>by rw[aay (by omega),aaK (by omega)];exact J.aJ m hm F⟩
    simp[-aD,-getElem?_pos,-aae,-ac7,M,N,w,y,k,d,P,W,m1,m2,hw,ht,E];exact fin
   .simp[-getElem?_pos,-aae,w,y,k,d];have hj:j=n:=by omega
    rw[<-hj];exact⟨c2,A,B,D⟩
  rintro⟨t,G,ds⟩⟨rfl,q,a,k,g⟩;simp only at k g;simp[k];exact⟨a,g⟩)
 exact⟨q,a,e,dK (by simp) Y,Z⟩
end
structure jB where
 f:Int
 t:Int
 b:bx
deriving DecidableEq
def eW(x:jB):List ab:=[I x.f,I x.t,Sg x.b]
def Zk(l:List jB):bA (l.map eW)=true:=je _ (fun _=>rfl) l
def abM(l:List UInt8):(⟨l.toArray⟩:ByteArray).toList=l:=by rw[Io]
def eqW(x y:jB):eM [Sh.int,Sh.int,Sh.str] [I x.f,I x.t,Sg x.b] [I y.f,I y.t,Sg y.b]=some (decide (x=y)):=by
 have h:∀a b:Int,lY Sh.int (I a) (I b)=some (decide (a=b)):=fun a b=>by
  simp only[lY];by_cases h:a=b
  .subst h;simp
  .simp[h]
 have c:∀a b:bx,lY Sh.str (Sg a) (Sg b)=some (decide (a=b)):=fun a b=>by
  simp only[lY,abM];by_cases h:a=b
  .subst h;simp
  .simp[h]
 simp only[eM,h,c];congr 1
 have⟨a,b,s⟩:=x;have⟨d,e,g⟩:=y;by_cases i:a=d<;>by_cases j:b=e<;>by_cases k:s=g<;>simp[i,j,k]
def X6(l:List jB)(D:l.length<=1000000000)(x:jB):aS tz ay 0 55 [bh (l.map eW),.agg (eW x)]=some (aR (decide (x∈l)),[]):=by
 refine be func55 rfl ?_;simp only[f55,bX];have⟨n,hn⟩:=ak l.length;have⟨R,g⟩:=ak (l.map eW);have i:R.length=n:=by rw[<-g];simpa using hn
 have w:∀j (t:j<l.length),R[j]?=some (eW l[j]):=fun j t=>by rw[<-g,adn,aae t];rfl
 rw[g];refine bp [(0,bh R),(3,.c (.aK [eW x] 0 0))] (fun G=>G=[]) ?_ ?_
 .simp[eW]
 rintro u G a rfl;simp at a;have⟨A,B⟩:=a;rw[iY];refine Ends.sq ?_;refine bp [(0,bh R),(3,.c (.aK [eW x] 0 0)),(5,aa (0:Nat))] (fun G=>G=[]) ?_ ?_
 .simp[A,B]
 rintro u G a rfl;rw[eD];refine im (fun j:Nat=>[(0,bh R),(3,.c (.aK [eW x] 0 0)),(5,aa j)]) (fun j G=>j<=n/\G=[]/\∀y∈l.take j, ¬y=x) (fun j=>n-j) ?_ 0 a ⟨by omega,rfl,by simp⟩ fun _=>rfl;rintro j u G ⟨k,m,o,_⟩ ⟨E,rfl,p⟩;by_cases d:j<n
 .have q:j<l.length:=by omega
  have F:j<R.length:=by omega
  have C:ads.wrap ((j:Int)+1)=((j+1:Nat):Int):=cr (by omega);have b:=w j q;have⟨y,r⟩:=ak l[j];rw[r]at b;have f:=eqW y x;simp only[eW]at b m;by_cases e:y=x
  .rw[decide_eq_true e]at f;have s:x∈l:=by rw[<-e, <-r];exact air q
   simp[-getElem?_pos,-aae,-ac7,k,m,o,d,i,b,f,s]
  .rw[decide_eq_false e]at f;simp[-getElem?_pos,-aae,-ac7,k,m,o,d,i,b,f,C];refine⟨j+1,by omega,⟨rfl,rfl⟩,by omega,fun z v=>?_⟩;rw[aiB,aae q,r]at v;rcases ahl.1 v with h|h
   .exact p z h
   .simp at h;rw[h];exact e
 .have s:¬x∈l:=fun h=>by rw[ach (by omega)]at p;exact p x h rfl
  simp[-getElem?_pos,-aae,k,o,d,i,s]
def W5{H:List Ob}{c:Nat->aU}{l:List jB}(g:iJ H c k 3 q (l.map eW))(i:l.length<=1000000000)(x:jB):aO tz ay 55 [.c q,.agg (eW x)] H=some (aR (decide (x∈l)),H):=by
 obtain⟨h,v,rfl,a,p⟩:=g;have b:=X6 l i x;have d:=tX (lo:=0) (len:=(l.map eW).length) a (by simp);rw[akh,aiv]at d;have e:=yg (n:=5) a d (Zk l);have f:df H (.agg (eW x))=some (.agg (eW x),[]):=by have:cw (eW x)=true:=rfl;simp only[df,nB this];rfl
 simp only[eW]at f b|-;rw[ahL]at e
 have j:df H (bd h v 0 (l.map eW).length)=some (bh (l.map eW),[3]):=by
  rw[ahL]
  show(match bV H 6 (.sl h v 0 l.length)with
   |some (m,o)=>some (au.c m,o)
   |none=>none)=_
  rw[e]
 rw[aD,if_neg (by simp[eQ])];simp only[dy,f,j,lJ,show tz.md 55=0 from rfl,aeo];rw[b,jQ];simp[eo,eR,dZ]
end
section
structure LA where
 K:Int
 A:Int
 B:Int
 N:Int
 X:Int
 d:Act
def cO(x:LA):List ab:=[I x.K,I x.A,I x.B,I x.N,I x.X,I x.d.kind,I x.d.id,I x.d.peer,I x.d.hold,aG x.d.need]
def RW(x:LA):cw (cO x)=true:=by simp[cO,cw,bD]
def ya(K:Cl)(x:Int)(i k:Nat):List jB:=((K.jG x (i:Int)).drop k).map fun b=>⟨x,(i:Int),b⟩
def wB(K:Cl)(x:Int)(a:List Nat):List jB:=(aiT a.length).flatMap fun i=>ya K x i (a.getD i 0)
section
variable{H:List Ob}{c:Nat->aU}{b:Nat}{K:Cl}
abbrev G9:aU->Prop:=fun k=>Gx k\/k= .cl 9
def MU(x:aU)(h:Gx x):G9 x:= .inl h
def kG(K:Cl)(x:Int)(a:List Nat)(i:Nat):List jB:=(aiT i).flatMap fun j=>ya K x j (a.getD j 0)
def KM(K:Cl)(x:Int)(a:List Nat)(i:Nat):kG K x a (i+1)=kG K x a i++ya K x i (a.getD i 0):=by unfold kG;rw[ajX,ako];simp
def Nh{K:Cl}(a:dN K)(x:Int)(b:List Nat)(i:Nat):(kG K x b i).length<=1000*i:=by
 induction i with
 |zero=>simp[kG]
 |succ i c=>rw[KM,afu];have:=(A6 a x (i:Int)).1;simp only[ya,ahL,ajV];omega
def xm(h:bK H c b K)(hi:dN K)(x:Int){q qw:ab}(l:List jB)(e:List Nat)(hq:iJ H c (.cl 9) 3 q (l.map eW))(O:iJ H c .none 1 qw (e.map fun n:Nat=>aC n))(hn:e.length<=1000)(hl:l.length+1000000<=1000000000):
  ∃U a o,aO tz ay 31 [aw b,.c q,aa x,.c qw] H=some (.c U,o)/\iJ o a (.cl 9) 3 U ((l++wB K x e).map eW)/\bK o a b K/\aH G9 c a H o:=by
 have⟨n,ae⟩:=ak e.length
 have hM:wB K x e=kG K x e n:=by rw[<-ae];rfl
 rw[hM]
 obtain⟨z,A,rfl,wb,cb⟩:=O
 rw[ahL,ae]
 have ah:∀j,j<n->(e.map fun n:Nat=>aC n)[j]?=some [I ((e.getD j 0:Nat):Int)]:=fun j hj=>by
  rw[adn,aae (by omega),ae9,aae (by omega)];rfl
 have ai:(e.map fun n:Nat=>aC n).length=n:=by simpa using ae
 have⟨W,hW⟩:=ak (e.map fun n:Nat=>aC n)
 rw[hW]at wb ah ai
 obtain⟨aj,o,h1,U,a,rfl,h2⟩:=cG (C:=tz) (f:=31) (args:=[aw b,.c q,aa x,bd z A 0 n]) (H:=H) (fun aj o=>∃q a,aj= .c q/\iJ o a (.cl 9) 3 q ((l++kG K x e n).map eW)/\bK o a b K/\aH G9 c a H o) func31 rfl (by
  simp only[f31,bX]
  refine bp [(0,aw b),(1,.c q),(2,aa x),(3,bd z A 0 n)] (fun G=>G=H) ?_ ?_
  .simp
  rintro E G⟨a0,a1,a2,a3,_⟩hG
  obtain rfl:H=G:=hG.symm
  refine ef (fun S=>S.bH=[]/\∃q a,S.env.get 1=some (.c q)/\iJ S.heap a (.cl 9) 3 q ((l++kG K x e n).map eW)/\bK S.heap a b K/\aH G9 c a H S.heap) ?_ ?_
  .refine bp [(0,aw b),(2,aa x),(3,bd z A 0 n),(9,aa (0:Nat)),(1,.c q)] (fun G=>G=H) ?_ ?_
   .simp[a0,a1,a2,a3]
   rintro E P m Q
   obtain rfl:H=P:=Q.symm
   rw[eD]
   refine im (fun p:Nat×ab=>[(0,aw b),(2,aa x),(3,bd z A 0 n),(9,aa p.1),(1,.c p.2)]) (fun p G=>p.1<=n/\∃a,iJ G a (.cl 9) 3 p.2 ((l++kG K x e p.1).map eW)/\bK G a b K/\aH G9 c a H G) (fun p=>n-p.1) ?_ (0,q) m ⟨by omega,c,by simpa[kG]using hq,h,aH.refl _ _ _⟩ fun _=>rfl
   rintro⟨j,q⟩E G⟨u,y,r,t,i,_⟩⟨g2,c2,F,M,B⟩
   simp only at u y r t i g2 F M B
   by_cases d:j<n
   .refine bp [(0,aw b),(2,aa x),(3,bd z A 0 n),(9,aa j),(1,.c q)] (fun af=>af=G) ?_ ?_
    .simp[u,i,y,r,t,d]
    rintro E P m Q
    obtain rfl:G=P:=Q.symm
    simp at m
    have⟨u,y,r,t,i⟩:=m
    have⟨w,al⟩:=ak (e.getD j 0)
    have wr:=ah j d
    rw[al]at wr
    have ao:=(B.get wb (by rw[cb];simp)).1
    have⟨L,hL⟩:=ak ((K.jG x (j:Int)).map (fun b=>(⟨x,(j:Int),b⟩:jB)))
    have ap:(K.jG x (j:Int)).length=L.length:=by rw[<-hL];simp
    have aq:kG K x e (j+1)=kG K x e j++L.drop w:=by
     rw[KM,al, <-hL];unfold ya;rw[List.map_drop]
    have aB:=Nh hi x e j
    have aE:=(A6 hi x (j:Int)).1
    refine ef (fun S=>S.bH=[]/\∃q a,Has S.env [(0,aw b),(2,aa x),(3,bd z A 0 n),(9,aa j),(1,.c q)]/\iJ S.heap a (.cl 9) 3 q ((l++kG K x e (j+1)).map eW)/\bK S.heap a b K/\aH G9 c a H S.heap) ?_ ?_
    .rw[eD]
     refine Ends.bl ?_
     refine bp [(0,aw b),(2,aa x),(3,bd z A 0 n),(9,aa j),(10,aa (w:Nat)),(1,.c q)] (fun af=>af=G) ?_ ?_
     .simp[-getElem?_pos,-aae,u,i,y,r,t,ao,wr,ai,d]
     rintro E P m Q
     obtain rfl:G=P:=Q.symm
     rw[eD]
     refine Ends.bl (gO (fun p:Nat×ab=>[(0,aw b),(2,aa x),(3,bd z A 0 n),(9,aa j),(10,aa p.1),(1,.c p.2)]) (fun p G=>w<=p.1/\(p.1=w\/p.1<=L.length)/\∃a,iJ G a (.cl 9) 3 p.2 ((l++kG K x e j++(L.drop w).take (p.1-w)).map eW)/\bK G a b K/\aH G9 c a H G) [] (fun p=>L.length-p.1) _ [0,2,3,9,10,1] (fun _=>rfl) ?_ (w,q) _ m ⟨adt _,.inl rfl,c2,by simpa using F,M,B⟩ rfl)
     rintro⟨k,q⟩⟨E,G,ds⟩m⟨ar,au,c2,F,M,B⟩g6
     simp only at m ar au F M B g6
     subst g6
     simp at m
     have⟨u,y,r,t,am,i⟩:=m
     have⟨c3,H3,ag,h3,V⟩:=Rh M hi x j
     rw[ap]at ag
     by_cases dk:k<L.length
     .have ⟨c4,D,T,h4,s4⟩:=Am h3 x j k
      rw[LF]at T
      unfold eI at T
      have hs:∃s,dV (K.jG x j) (k:Int)=some s/\L[k]?=some ⟨x,(j:Int),s⟩:=by
       have X:k< (K.jG x j).length:=by omega
       refine⟨(K.jG x j)[k],?_,?_⟩
       .unfold dV
        rw[if_neg (by omega)]
        exact aae X
       .rw[<-hL,adn,aae X];rfl
      have⟨s,hs,av⟩:=hs
      rw[hs]at T
      simp only[aiU,ajf]at T
      have ax:=F.aJ (V.trans s4) (by simp)
      obtain⟨J,v,rfl,Y,k2⟩:=ax
      have⟨R,Z⟩:=ak ((l++kG K x e j++(L.drop w).take (k-w)).map eW)
      have az:R.length<=l.length+1000*j+1000:=by
       rw[<-Z,ahL,afu,afu,aiV,ajV]
       omega
      rw[Z]at Y i
      have⟨ad,hu⟩:=ak R.length
      rw[hu]at i az
      have m1:ad+1<=maxLen:=by unfold maxLen;omega
      have m2:(ad+1)*32<=140737488355328:=by omega
      have gh:∀K,(D++K)[J]?=some (.live v 3 R):=fun K=>by rw[aaK (bf Y)];exact Y
      have O:ads.wrap ((k:Int)+1)=((k+1:Nat):Int):=cr (by omega)
      have ht:R.take ad=R:=ach (by omega)
      have an:(L.drop w).take (k+1-w)=(L.drop w).take (k-w)++[⟨x,(j:Int),s⟩]:=by
       rw[show k+1-w=k-w+1 from by omega,aiB,aiX,show w+(k-w)=k from by omega,av]
       rfl
      have fin:∃N,L.length-N<L.length-k/\∃q,(((k+1:Nat):Int)=(N:Int)/\ab.sl J (v+1) 0 (ad+1)=q)/\w<=N/\(N=w\/N<=L.length)/\∃a,iJ ((D++[Ob.live 0 3 [[I x,I j,Sg s]]]).set J (Ob.live (v+1) 3 (R++[[I x,I j,Sg s]]))) a (.cl 9) 3 q ((l++kG K x e j++(L.drop w).take (N-w)).map eW)/\bK ((D++[Ob.live 0 3 [[I x,I j,Sg s]]]).set J (Ob.live (v+1) 3 (R++[[I x,I j,Sg s]]))) a b K/\aH G9 c a H ((D++[Ob.live 0 3 [[I x,I j,Sg s]]]).set J (Ob.live (v+1) 3 (R++[[I x,I j,Sg s]]))):=by
       have st:aH (· = .cl 9) c4 (ext c4 D.length .none) D ((D++[Ob.live 0 3 [[I x,I j,Sg s]]]).set J (Ob.live (v+1) 3 (R++[[I x,I j,Sg s]]))):=aH.of _ (by simp) fun aF hm X=>by
        rw[aay (fun aA=>X (by rw[<-aA];exact k2)),aaK hm]
       refine⟨k+1,by omega,_,⟨rfl,rfl⟩,by omega,by omega,ext c4 D.length .none,⟨J,v+1,?_,?_,?_⟩,h4.aJ st fun k h=>by subst h;simp[Lw],?_⟩
       .rw[an, <-aio,agA,Z,afu,hu];rfl
       .rw[ba (gh _),an, <-aio,agA,Z];rfl
       .rw[ji (bf Y)];exact k2
       .exact B.trans (((V.trans s4).mono MU).trans (st.mono fun k h=> .inr h))
      simp[-aD,-ac7,-agA,-aio,u,i,y,r,t,am,dk,ag,T,gh,m1,m2,O,ht,hu]
      exact fin
     .simp[-aD,-ac7,-agA,-aio,u,i,y,r,t,am,dk,ag]
      refine⟨c3,?_,h3,B.trans (V.mono MU)⟩
      have:=F.aJ V (by simp)
      rw[ach (by rw[ajV];omega),aio, <-aq]at this
      exact this
    rintro⟨E,G3,ds⟩⟨rfl,q,c4,m,g⟩
    simp only at m g
    simp at m
    have⟨u,y,r,t,i⟩:=m
    have O:ads.wrap ((j:Int)+1)=((j+1:Nat):Int):=cr (by omega)
    simp[-agA,-ac7,u,i,y,r,t,O]
    exact⟨j+1,by omega,_,⟨rfl,rfl⟩,by omega,c4,g⟩
   .simp[-agA,r,t,i,d]
    have hj:j=n:=by omega
    rw[<-hj]
    exact⟨c2,F,M,B⟩
  rintro⟨E,G,ds⟩⟨rfl,q,a,i,g⟩
  simp only at i g
  simp[-agA,i]
  exact⟨a,g⟩)
 exact⟨U,a,o,dK (by simp) h1,h2⟩
def sE(K:Cl)(l:List jB)(x:LA):Bool:=
 match K.look x.A x.B x.N with
 |none=>false
 |some s=>decide ((lB (jU s)).2=0)&&!decide ((⟨x.A,x.B,s⟩:jB)∈l)
def Si(h:bK H c b K)(E:dN K)(x:LA){q:ab}(l:List jB)(F:iJ H c (.cl 9) 3 q (l.map eW))(G:l.length<=1000000000):
  ∃u e,aO tz ay 27 [aw b,.c q,.agg (cO x)] H=some (aR (sE K l x),e)/\bK e u b K/\aH Gx c u H e:=by
 have⟨c1,g,a,k,v⟩:=Am h x.A x.B x.N
 have J:∀s,K.look x.A x.B x.N=some s->s.length<=1000000:=fun s i=>by have:=(vB E i).2;omega
 unfold eI at a
 have L:=F.aJ v (by simp)
 have⟨o,n⟩:=ak (K.look x.A x.B x.N)
 have M:(o.getD []).length<=1000000:=by
  cases o with
  |none=>simp
  |some s=>exact J s n
 rw[n]at a
 have d:=Mb g (o.getD []) M
 have⟨s,i⟩:=ak (o.getD [])
 rw[i]at a d
 have⟨f,O⟩:=ak ((lB (jU s)).1)
 rw[O]at d
 simp only[cd]at d
 have⟨X,j⟩:=ak (g++[ah 5 [[I f.kind,I f.link,U8 f.seq,U8 f.qD,Sg f.body]]]:List Ob)
 have p:aH (fun _=>False) c1 (ext c1 g.length .none) g X:=by rw[<-j];exact aH.of _ (by simp) fun m hm _=>aaK hm
 have w:=W5 (L.aJ p fun h=>h) G ⟨x.A,x.B,s⟩
 simp only[eW]at w
 have fin:bK X (ext c1 g.length .none) b K/\aH Gx c (ext c1 g.length .none) H X:=⟨k.aJ p fun _ h=>h.elim,v.trans (p.mono fun _ h=>h.elim)⟩
 have P:sE K l x=(o.isSome&&(decide ((lB (jU s)).2=0)&&!decide ((⟨x.A,x.B,s⟩:jB)∈l))):=by
  unfold sE
  rw[n]
  cases o with
  |none=>rfl
  |some Q=>simp only[aiU]at i;rw[i];rfl
 have⟨z,y⟩:=ak ((lB (jU s)).2)
 obtain⟨r,e,k,rfl,rfl⟩:=cG (C:=tz) (f:=27) (args:=[aw b,.c q,.agg (cO x)]) (H:=H) (fun r e=>r=aR (sE K l x)/\e=X) func27 rfl (by
  rw[P,y]
  rw[y]at d
  cases D:o.isSome with
  |false=>
   rw[D]at a
   simp[-aD,f27,cO,a,d,j]
  |true=>
   rw[D]at a
   by_cases t:z=0
   .rw[t]at d
    simp[-aD,f27,cO,a,d,j,w,t]
   .simp[-aD,f27,cO,a,d,j,t])
 exact⟨_,_,dK (by simp) k,fin⟩
def Yb(x:LA)(hn:x.d.need.length<=100000):aS tz ay 1 60 [.agg (cO x)]=some (.agg [I x.d.kind,I x.d.id,I x.d.peer,I x.d.hold,aG x.d.need],[]):=by
 refine be func60 rfl ?_;have c:x.d.need.length<=maxLen:=by unfold maxLen;omega
 have e:x.d.need.length*8<=140737488355328:=by omega
 have f:(x.d.need=[]/\0<x.d.need.length)=False:=eq_false fun⟨a,b⟩=>by rw[a]at b;simp at b
 simp[f60,cO,c,e,f]
def YH(H:List Ob)(x:LA)(hn:x.d.need.length<=100000):aO tz ay 60 [.agg (cO x)] H=some (.agg [I x.d.kind,I x.d.id,I x.d.peer,I x.d.hold,aG x.d.need],H):=by
 have a:=Yb x hn;have b:df H (.agg (cO x))=some (.agg (cO x),[]):=by simp only[df,nB (RW x)];rfl
 rw[aD,if_neg (by simp[eQ])];simp only[dy,b,lJ,show tz.md 60=1 from rfl,aeo];rw[a,jQ];simp[eo,eR,dZ]
def Cl.rS(K:Cl)(x:LA)(a:Cl)(s:List Ev)(e:Int):Prop:=
 if x.K=0 then K.bP x.A x.d a s e
 else if x.K=1 then K.uc x.A a s e
 else if x.K=2 then a=(K.goes x.A).1/\s=[]/\e=(K.goes x.A).2.2+1000*((K.goes x.A).2.1:Int)
 else if x.K=3 then K.Comes x.A x.B x.N a s e
 else if x.K=4 then a=(K.jk x.A x.B x.N).1/\s=[]/\e=(K.jk x.A x.B x.N).2
 else if x.K=5 then a=(K.double x.A x.B x.N).1/\s=[]/\e=(K.double x.A x.B x.N).2
 else a=(K.flip x.A x.B x.N x.X).1/\s=[]/\e=(K.flip x.A x.B x.N x.X).2
def adM{K:Cl}(b:dN K)(a:Int):0<=(K.goes a).2.2/\(K.goes a).2.2<=210/\(K.goes a).2.1<=8000:=by
 unfold Cl.goes;split
 .exact ⟨by simp,by simp,by simp⟩
 .refine ⟨by simp,by simp,?_⟩;simp only;rw[xw];have c:=(Fi a.toNat (others K.nodes.length a.toNat) (K.flush a.toNat,0) (Pq b _)).2.2;have d:=zi K.nodes.length a.toNat;rw[wE,ahL]at d;have:=b.n;simp only at c;omega
def wT{T:Nat}(F:xo)(h:bK H c b K)(m:dL T K)(Q:T<=800000000)(x:LA)(hn:x.d.need.length<=100000):
  ∃k l j s e le,aO tz ay 30 [aw b,.agg (cO x)] H=some (.aM [.c le,aa e],l)/\K.rS x j s e/\lM le s/\bK l k b j/\aH Gx c k H l:=by
 obtain⟨r,l,R,k,j,s,e,le,rfl,S⟩:=cG (C:=tz) (f:=30) (args:=[aw b,.agg (cO x)]) (H:=H) (fun r l=>∃k j s e le,r= .aM [.c le,aa e]/\K.rS x j s e/\lM le s/\bK l k b j/\aH Gx c k H l) func30 rfl (by
  have hA:∀j s e,(if x.K=0 then K.bP x.A x.d j s e else if x.K=1 then K.uc x.A j s e else if x.K=2 then j=(K.goes x.A).1/\s=[]/\e=(K.goes x.A).2.2+1000*((K.goes x.A).2.1:Int)else if x.K=3 then K.Comes x.A x.B x.N j s e else if x.K=4 then j=(K.jk x.A x.B x.N).1/\s=[]/\e=(K.jk x.A x.B x.N).2 else if x.K=5 then j=(K.double x.A x.B x.N).1/\s=[]/\e=(K.double x.A x.B x.N).2 else j=(K.flip x.A x.B x.N x.X).1/\s=[]/\e=(K.flip x.A x.B x.N x.X).2)->K.rS x j s e:=fun _ _ _ h=>h
  by_cases o:x.K=0
  .have I:=YH H x hn
   have⟨k,l,j,s,e,le,J,z,g⟩:=NA (T:=T) h m.i m.n m.t (by omega) x.A x.d (nl:=aG x.d.need) (bi _) (fun _=>⟨rfl,hn⟩) fun n v G=>F.a n _ v G
   simp only[cO,aG,o]at I J|-
   simp[-aD,f30,I,J]
   exact⟨k,j,s,e,le,⟨rfl,rfl⟩,hA _ _ _ (by rw[if_pos o];exact z),g⟩
  by_cases p:x.K=1
  .have ⟨k,l,j,s,e,le,U,z,g⟩:=c61 (T:=T) h m.i m.n m.t (by omega) x.A fun n v G=>F.a n _ v G
   simp[-aD,f30,cO,p,U]
   exact⟨k,j,s,e,le,⟨rfl,rfl⟩,hA _ _ _ (by rw[if_neg o,if_pos p];exact z),g⟩
  by_cases q:x.K=2
  .have ⟨k,l,L,g⟩:=S6 h m.i x.A
   have⟨V,W,Y⟩:=adM m.i x.A
   have M:=hA (K.goes x.A).1 [] ((K.goes x.A).2.2+1000*((K.goes x.A).2.1:Int)) (by rw[if_neg o,if_neg p,if_pos q];exact⟨rfl,rfl,rfl⟩)
   have⟨u,O⟩:=ak ((K.goes x.A).2.1)
   have⟨w,P⟩:=ak ((K.goes x.A).2.2)
   rw[O,P]at L M
   rw[O]at Y
   rw[P]at V W
   have w1:ads.wrap (1000*(u:Int))=1000*(u:Int):=fC (by omega) (by omega)
   have w2:ads.wrap (w+1000*(u:Int))=w+1000*(u:Int):=fC (by omega) (by omega)
   simp[-aD,f30,cO,q,L,w1,w2]
   exact⟨k,_,[],_,ap,⟨rfl,rfl⟩,M,.inl ⟨rfl,rfl⟩,g⟩
  by_cases y:x.K=3
  .have ⟨k,l,j,s,e,le,Z,z,g⟩:=YF F h m Q x.A x.B x.N
   simp[-aD,f30,cO,y,Z]
   exact⟨k,j,s,e,le,⟨rfl,rfl⟩,hA _ _ _ (by rw[if_neg o,if_neg p,if_neg q,if_pos y];exact z),g⟩
  by_cases D:x.K=4
  .have ⟨k,l,ab,g⟩:=c62 h x.A x.B x.N
   simp[-aD,f30,cO,D,ab]
   exact⟨k,_,[],_,ap,⟨rfl,rfl⟩,hA _ _ _ (by rw[if_neg o,if_neg p,if_neg q,if_neg y,if_pos D];exact⟨rfl,rfl,rfl⟩),.inl ⟨rfl,rfl⟩,g⟩
  by_cases E:x.K=5
  .have ⟨k,l,ad,g⟩:=Th h x.A x.B x.N
   simp[-aD,f30,cO,E,ad]
   exact⟨k,_,[],_,ap,⟨rfl,rfl⟩,hA _ _ _ (by rw[if_neg o,if_neg p,if_neg q,if_neg y,if_neg D,if_pos E];exact⟨rfl,rfl,rfl⟩),.inl ⟨rfl,rfl⟩,g⟩
  .have ⟨k,l,ae,g⟩:=c64 h m.i x.A x.B x.N x.X
   simp[-aD,f30,cO,o,p,q,y,D,E,ae]
   exact⟨k,_,[],_,ap,⟨rfl,rfl⟩,hA _ _ _ (by rw[if_neg o,if_neg p,if_neg q,if_neg y,if_neg D,if_neg E];exact⟨rfl,rfl,rfl⟩),.inl ⟨rfl,rfl⟩,g⟩)
 exact⟨k,l,j,s,e,le,dK (by simp) R,S⟩
end
end
section
variable{es:List Ev}{w:Wk}{n:Nd}{a:Act}{p:Int}{m:cU}
inductive nO (id:Int):ci->List Ev->ci->Prop
 |quiet (b:ci) (es:List Ev) (h:∀e∈es,6<=e.kind/\e.node=id):nO id b es b
 |Ol (b:ci) (s:bY) (r:List bY) (hb:b.aA=s::r) (h0:s.state=0):nO id b [⟨1,id,s.id,0,[]⟩] ⟨b.last,{s with state:=1}::r⟩
 |fin (b:ci) (s:bY) (k:Int) (hs:b.aA.find? (fun x=>decide (x.id=s.id))=some s) (hk:(k=2/\s.state=1)\/(k=3/\s.state=0)):nO id b [⟨k,id,s.id,0,[]⟩] ⟨b.last,ey s.id b.aA⟩
 |exp (b:ci) (s:bY) (r:List bY) (hb:b.aA=s::r) (h1:s.state=1):nO id b [⟨4,id,s.id,0,[]⟩] ⟨b.last,r⟩
 |cH (b:ci) (s:bY) (r:List bY) (a:Int) (hb:b.aA=s::r) (h1:s.state=1):nO id b [] ⟨b.last,{s with cH:=a}::r⟩
 |opens (b:ci) (i:Int) (need:List Int) (hi:b.last<i):nO id b [⟨0,id,i,0,need⟩] ⟨i,b.aA++[⟨i,need,0,0⟩]⟩
 |gone (b:ci) (p:Int):nO id b ((b.aA.filter (cg p)).map fun s=>⟨5,id,s.id,0,[]⟩) ⟨b.last,b.aA.filter fun s=>!cg p s⟩
inductive lH (id:Int):ci->List Ev->ci->Prop
 |nil (b:ci):lH id b [] b
 |step {b b' b'':ci} {es es':List Ev}:lH id b es b'->nO id b' es' b''->lH id b (es++es') b''
def lH.trans{id:Int}{b a c:ci}{d:List Ev}(h:lH id b es a)(e:lH id a d c):lH id b (es++d) c:=by
 induction e with
 |nil=>rw[aeo];exact h
 |step i f g=>rw[<-aio];exact .step g f
def lH.one{id:Int}{b a:ci}(h:nO id b es a):lH id b es a:=by have:=lH.step (.nil b) h;exact this
def BW(w w':Wk):Prop:=w'.n.dr.ai.id=w.n.dr.ai.id/\∃es,w'.seen=w.seen++es/\lH w.n.dr.ai.id w.n.book es w'.n.book
def BW.refl(w:Wk):BW w w:=⟨rfl,[],by simp,.nil _⟩
def BW.trans{w a b:Wk}(h:BW w a)(e:BW a b):BW w b:=by have⟨f,es,g,i⟩:=h;have⟨c,j,k,d⟩:=e;rw[f]at d c;exact⟨c,es++j,by rw[k,g,aio],i.trans d⟩
def BW.same{w':Wk}(a:w'.n.dr.ai.id=w.n.dr.ai.id)(b:w'.seen=w.seen)(c:w'.n.book=w.n.book):BW w w':=⟨a,[],by simp[b],by rw[c];exact .nil _⟩
def BW.ek(w:Wk){k:Int}(b:6<=k)(p:Int):BW w (w.ek k p):=⟨rfl,[⟨k,w.n.dr.ai.id,0,p,[]⟩],rfl,.one (.quiet _ _ fun e a=>by simp at a;subst a;exact⟨b,rfl⟩)⟩
def BW.one{w:Wk}{a:ci}{es:List Ev}(h:nO w.n.dr.ai.id w.n.book es a):BW w ⟨{w.n with book:=a},w.out,w.seen++es,w.e⟩:=⟨rfl,es,rfl,.one h⟩
def D8(h:dE w.n.dr=true):BW w w.di:=by
 unfold Wk.di;split
 .refine .same ?_ rfl rfl;show(lu w.n.dr).1.ai.id=_;unfold lu;rw[if_neg (by simp[h])];rename_i hc;unfold lu at hc;rw[if_neg (by simp[h])]at hc;split
  .rename_i a;rw[if_pos a]at hc;cases hc
  .rfl
 .exact .refl w
def afx(l:List cu):∀w:Wk,BW w (l.foldl Wk.iz w):=by
 induction l with
 |nil=>exact fun w=> .refl w
 |cons k r a=>exact fun w=>((BW.same (w':=(w.nW ⟨k.peer,k.aP,0,false,false,true,false,true⟩).send ⟨k.peer,k.aP,0,false,false,true,false,true⟩ 6) rfl rfl rfl).trans (.ek _ (by omega) k.peer)).trans (a _)
def V8(w:Wk):BW w (dB w):=by
 unfold dB;split
 .exact (afx w.n.asked w).trans (.same rfl rfl rfl)
 .exact .refl w
def Wo(w:Wk):BW w (dq w):=by
 unfold dq;split
 .split
  .exact .same rfl rfl rfl
  .exact .refl w
 .exact .refl w
def aaz(w:Wk):BW w (dI w):=by
 unfold dI;split
 .exact .same rfl rfl rfl
 .exact .refl w
def afy(h:db w.n)(a:¬(w.n.dr.aQ=0/\jE w.n.book=true)):BW w (fI w):=by have r:=Rr (told:=w.n.told) h.dr a;exact .same r.id rfl rfl
def aa6(h:db w.n):BW w (fe w):=by
 unfold fe waits;cases b:w.n.book.aA with
 |nil=>exact .refl w
 |cons s r=>
  simp only;by_cases a:s.state=0
  .rw[if_pos a];simp only;split
   .have c:(kB w.n.book).1=⟨w.n.book.last,{s with state:=1}::r⟩:=by unfold kB;rw[if_neg (by simp[h.bk]),b];simp only;rw[if_neg (by rw[a];decide)]
    rw[c];exact .one (.Ol _ s r b a)
   .exact .refl w
  .rw[if_neg a];exact .refl w
def aeC(w:Wk):BW w (iX w):=by
 unfold iX;split
 .exact .same rfl rfl rfl
 .exact .refl w
def Ov(h:db w.n):BW w w.iv:=by
 have⟨b,f,g,i⟩:=Kx h;have⟨c,j,d,e⟩:=Kk b;have⟨c1,c2,c3,c4⟩:=EX c;have a:¬((dI (dq (dB w))).n.dr.aQ=0/\jE (dI (dq (dB w))).n.book=true):=by rw[c3,c4,d];exact e
 have⟨d1,d2,d3⟩:=FH c1 a;exact(((((V8 w).trans (Wo _)).trans (aaz _)).trans (afy c1 a)).trans (aa6 d1)).trans ((aeC _).trans (.same rfl rfl rfl))
def aaH{u:Wk}(h:Reach w u)(b:db w.n):BW w u/\db u.n:=by
 induction h with
 |refl=>exact⟨.refl w,b⟩
 |step h a=>exact⟨a.1.trans (Ov a.2),(yY a.2).1⟩
def PG{v:Wk}(h:jm w v)(a:db w.n):BW w v:=by obtain⟨u,b,e,_,rfl⟩:=h;have⟨c,d⟩:=aaH b a;exact c.trans (Ov d)
def wF(b:w.e=0)(a:ci):w.eY a 0=w.put {w.n with book:=a}:=by unfold Wk.eY Wk.need;simp[b]
def Rx(f:dE w.n.dr=true)(h:w.e=0){id a k:Int}(i:(k=2/\a=1)\/(k=3/\a=0))(b:(de w.n.book id a).2=0):BW w ((w.eY (de w.n.book id a).1 (de w.n.book id a).2).dM k id)/\BW w ((w.eY (de w.n.book id a).1 (de w.n.book id a).2).dM k id).di:=by
 have⟨m,⟨s,c,j⟩,l⟩:=IJ b;have d:s.id=id:=by have:=akN c;simpa using this
 rw[l,b,wF h];have g:BW w ((w.put {w.n with book:=⟨w.n.book.last,ey id w.n.book.aA⟩}).dM k id):=by have:=BW.one (w:=w) (.fin w.n.book s k (by rw[d];exact c) (by rw[j];exact i));rw[d]at this;exact this
 exact⟨g,g.trans (D8 f)⟩
def SY(w:Wk)(p:Int)(a:cM w.n.book=true):BW w ((w.put {w.n with book:=(iS w.n.book p).1}).na 5 (iS w.n.book p).2.1):=by
 have b:iS w.n.book p=(⟨w.n.book.last,w.n.book.aA.filter fun s=>!cg p s⟩,(w.n.book.aA.filter (cg p)).map (·.id),0):=by unfold iS;rw[if_neg (by simp[a])]
 rw[b];have:=BW.one (w:=w) (.gone w.n.book p);have e:(w.put {w.n with book:=⟨w.n.book.last,w.n.book.aA.filter fun s=>!cg p s⟩}).na 5 ((w.n.book.aA.filter (cg p)).map (·.id))=⟨{w.n with book:=⟨w.n.book.last,w.n.book.aA.filter fun s=>!cg p s⟩},w.out,w.seen++(w.n.book.aA.filter (cg p)).map (fun s=>⟨5,w.n.dr.ai.id,s.id,0,[]⟩),w.e⟩:=by unfold Wk.na Wk.put;simp only[ai6];rfl
 rw[e];exact this
def LO(c:db w.n)(p:Int):BW w (w.shut p):=by
 have⟨w1,a⟩:=ak ((w.put (w.n.eK (setAt (cQ p) (fun x=>{x with state:=2}) w.n.af))).ek 7 p);have e:BW w w1:=by rw[<-a];exact(BW.same (w':=w.put (w.n.eK (setAt (cQ p) (fun x=>{x with state:=2}) w.n.af))) rfl rfl rfl).trans (.ek _ (by omega) p)
 have f:cM w1.n.book=true:=by rw[<-a];exact c.bk
 have g:dE w1.n.dr=true:=by rw[<-a];exact AQ c.dr fun x j=>⟨rfl,fun k h=>by simp only[cR,aa2,afj,decide_eq_false_iff_not,decide_eq_true_eq]at h|-;simp only[h];simp⟩
 unfold Wk.shut;simp only[a];have b:∀w2:Wk,BW w1 w2->w2.n.book=w1.n.book->BW w ((w2.put {w2.n with book:=(iS w1.n.book p).1}).na 5 (iS w1.n.book p).2.1):=fun w2 i d=>by rw[<-d];exact(e.trans i).trans (SY w2 p (by rw[d];exact f))
 cases l:w1.n.book.aA with
 |nil=>exact b w1 (.refl w1) rfl
 |cons s r=>
  simp only;split
  .refine b _ (D8 g) ?_;unfold Wk.di;split<;>rfl
  .exact b w1 (.refl w1) rfl
def OJ(h:dv n=true):(bg n).e=0:=by unfold bg;rw[h];rfl
def Wm(b:(cN n a).e=0):BW (bg n) (cN n a):=by
 have hn:dv n=true:=by
  cases hn:dv n with
  |true=>rfl
  |false=>
   have c:(bg n).e=180:=by unfold bg;rw[hn];rfl
   unfold cN at b;rw[hn]at b;simp only[aeb,if_false]at b;repeat' split at b
   all_goals rw[c]at b;cases b
 have i:=OJ hn;have l:db n:=(IZ hn).1;have E:∀e:Int,e≠0->((bg n).fail e).e≠0:=fun e h=>h;unfold cN at b|-;rw[hn]at b|-;simp only[if_true]at b|-;split at b
 .rename_i k;rw[if_pos k];unfold Wk.opens at b|-;split at b
  .rename_i hc;exact absurd b hc
  rename_i hc;rw[if_neg hc];split at b
  .cases b
  rename_i o;rw[if_neg o];have m:(io (bg n).n.book a.id a.need).2=0:=akj fun h=>hc h;have⟨u,v,F⟩:=Ml m;rw[v];refine BW.one (w:=bg n) (.opens _ _ _ ?_);unfold io at m;rw[if_neg (by simp[u])]at m;split at m
  .cases m
  .rename_i h;exact Int.not_le.1 h
 rename_i y;rw[if_neg y];split at b
 .rename_i k;rw[if_pos k];unfold Wk.release at b|-;split at b
  case isFalse hc=>exact absurd b hc
  rename_i hc;rw[if_pos hc];exact(Rx (w:=bg n) l.dr i (.inl ⟨rfl,rfl⟩) hc).2
 rename_i z;rw[if_neg z];split at b
 .rename_i k;rw[if_pos k];unfold Wk.cancel at b|-;split at b
  case isFalse hc=>exact absurd b hc
  rename_i hc;rw[if_pos hc];have g:=Rx (w:=bg n) l.dr i (.inr ⟨rfl,rfl⟩) hc;split
  .exact g.2
  .exact g.1
 rename_i A;rw[if_neg A];split at b
 .rename_i k;rw[if_pos k];unfold Wk.tick at b|-;split at b
  case isFalse hc=>exact absurd b hc
  rename_i hc;rw[if_pos hc];clear hc b;have j:=l.bk;show BW (bg n) (if(dQ n.book a.hold).2.1≠0 then(((bg n).eY (dQ n.book a.hold).1 0).dM 4 (dQ n.book a.hold).2.1).di else(bg n).eY (dQ n.book a.hold).1 0);cases d:n.book.aA with
  |nil=>
   have f:dQ n.book a.hold=(n.book,0,0):=by unfold dQ;rw[if_neg (by simp[j]),d]
   rw[f,if_neg (by simp),wF i];exact .same rfl rfl rfl
  |cons s r=>
   by_cases c:s.state=1
   case neg=>
    have f:dQ n.book a.hold=(n.book,0,0):=by unfold dQ;rw[if_neg (by simp[j]),d];simp only;rw[if_neg c]
    rw[f,if_neg (by simp),wF i];exact .same rfl rfl rfl
   by_cases q:max s.cH (min s.cH (4611686018427387904-1)+1)<a.hold
   .have f:dQ n.book a.hold=(⟨n.book.last,{s with cH:=max s.cH (min s.cH (4611686018427387904-1)+1)}::r⟩,0,0):=by unfold dQ;rw[if_neg (by simp[j]),d];simp only;rw[if_pos c,if_pos q]
    rw[f,if_neg (by simp),wF i];refine⟨rfl,[],by simp[Wk.put],.one (.cH n.book s r _ d c)⟩
   .have f:dQ n.book a.hold=(⟨n.book.last,r⟩,s.id,0):=by unfold dQ;rw[if_neg (by simp[j]),d];simp only;rw[if_pos c,if_neg q]
    have B:s.id≠0:=by simp only[cM,aa2]at j;have t:=j.2;rw[d]at t;simp only[dR,dx,aa2,afj,aiR,decide_eq_false_iff_not]at t;omega
    rw[f,if_pos B,wF i];exact(BW.one (w:=bg n) (.exp n.book s r d c)).trans (D8 (w:=((bg n).put {n with book:=⟨n.book.last,r⟩}).dM 4 s.id) l.dr)
 rename_i C;rw[if_neg C];split at b
 .rename_i k;rw[if_pos k];split at b
  .cases b
  rename_i hc;rw[if_neg hc];split at b
  .cases b
  rename_i o;rw[if_neg o];split at b
  case isFalse hc=>cases b
  rename_i p;rw[if_pos p];exact .same rfl rfl rfl
 rename_i D;rw[if_neg D];split at b
 .rename_i k;rw[if_pos k];split at b
  .cases b
  rename_i hc;rw[if_neg hc];split at b
  .cases b
  rename_i x G;split at b
  case isFalse hc=>cases b
  rename_i p;rw[if_pos p];exact LO (w:=bg n) l a.peer
 .cases b
def S5(a:(fQ n p m).e=0):BW (bg n) (fQ n p m):=by
 unfold fQ at a|-;split at a
 case isFalse hc=>exact absurd a hc
 rename_i hc;rw[if_pos hc];have hn:=vg hc;have g:=OJ hn;have i:db n:=(IZ hn).1
 have j:iO n m=bg n:=by
  unfold iO at hc|-;rw[if_pos hn]at hc|-;split at hc
  .rename_i h;rw[if_pos h]
  .cases hc
 rw[j]at a|-;unfold ly at a|-;split at a
 .rename_i k;rw[if_pos k];cases l:n.dr.ai.af.find? (cQ p)with
  |none=>exact .refl _
  |some x=>
   rw[l]at a;simp only at a|-;split at a
   .rename_i b;rw[if_pos b];unfold Wk.sj at a|-;by_cases c:(gW (bg n).n.dr p m).2=0
    .have d:(bg n).need (decide ((gW (bg n).n.dr p m).2=0)) 187=bg n:=by unfold Wk.need;simp[c]
     rw[d,if_pos g];have⟨f,o,_⟩:=Qa c;refine .same ?_ rfl rfl;show(gW (bg n).n.dr p m).1.ai.id=_;rw[o]
    .exfalso
     have d:(bg n).need (decide ((gW (bg n).n.dr p m).2=0)) 187=(bg n).fail 187:=by unfold Wk.need Wk.fail;simp[c,g]
     rw[d,if_neg (by simp[Wk.fail])]at a;cases a
   .rename_i b;rw[if_neg b];exact .refl _
 rename_i q;rw[if_neg q];split at a
 .rename_i k;rw[if_pos k];split at a
  case isFalse hc=>cases a
  rename_i hc;rw[if_pos hc];exact .same rfl rfl rfl
 rename_i r;rw[if_neg r];split at a
 .rename_i k;rw[if_pos k];split at a
  case isFalse hc=>cases a
  rename_i hc;rw[if_pos hc];unfold sK;exact(BW.same (w':=(bg n).put _) rfl rfl rfl).trans (.ek _ (by omega) p)
 rename_i s;rw[if_neg s];split at a
 .rename_i k;rw[if_pos k];split at a
  case isFalse hc=>cases a
  rename_i hc;rw[if_pos hc];exact LO (w:=bg n) i p
 rename_i t;rw[if_neg t];split at a
 .rename_i k;rw[if_pos k];split at a
  case isFalse hc=>cases a
  rename_i hc;rw[if_pos hc];exact(BW.same (w':=(bg n).drop p) rfl rfl rfl).trans (.ek _ (by omega) p)
 .cases a
def U2(l:List cu):∀w:Wk,(l.foldl Wk.iz w).e=w.e:=by
 induction l with
 |nil=>exact fun w=>rfl
 |cons k r a=>exact fun w=>a _
def LQ(w:Wk):w.iv.e=w.e:=by
 have hA:(dB w).e=w.e:=by
  unfold dB;split
  .exact U2 w.n.asked w
  .rfl
 have a:∀w,(dq w).e=w.e:=fun w=>by
  unfold dq;split
  .split<;>rfl
  .rfl
 have b:∀w,(dI w).e=w.e:=fun w=>by unfold dI;split<;>rfl
 have c:∀w,(fe w).e=w.e:=fun w=>by
  unfold fe;split
  .split<;>rfl
  .rfl
 have d:∀w,(iX w).e=w.e:=fun w=>by unfold iX;split<;>rfl
 show(iX (fe (fI (dI (dq (dB w)))))).e=w.e;rw[d,c];show(dI (dq (dB w))).e=w.e;rw[b,a,hA]
def K6{v:Wk}(h:jm w v):w.e=0/\v.e=0:=by
 obtain⟨u,b,a,_,rfl⟩:=h
 have c:∀ {u:Wk},Reach w u->u.e=w.e:=fun h=>by
  induction h with
  |refl=>rfl
  |step h d=>rw[LQ];exact d
 have:=c b;exact⟨by rw[<-this];exact a.e,by rw[LQ];exact a.e⟩
def ZD(b:(cN n a).e=0):dv n=true:=by
 cases hn:dv n with
 |true=>rfl
 |false=>
  have c:(bg n).e=180:=by unfold bg;rw[hn];rfl
  unfold cN at b;rw[hn]at b;simp only[aeb,if_false]at b;repeat' split at b
  all_goals rw[c]at b;cases b
def adr(h:(fQ n p m).e=0):dv n=true:=by
 unfold fQ at h;split at h
 .rename_i a;exact vg a
 .exact vg h
def QE{v:Wk}(h:jm (cN n a) v):dv n=true/\BW (bg n) v:=by have b:=(K6 h).1;have hn:=ZD b;exact⟨hn,(Wm b).trans (PG h (LW hn b).i)⟩
def PD{v:Wk}(h:jm (fQ n p m) v):dv n=true/\BW (bg n) v:=by have a:=(K6 h).1;have hn:=adr a;exact⟨hn,(S5 a).trans (PG h (Q1 hn a).i)⟩
end
section
variable{C:List Ev->Ev->Prop}{E es:List Ev}{b b':ci}
def kC(C:List Ev->Ev->Prop)(E:List Ev):Prop:= ∀P e Q,E=P++e::Q->C P e
def kC.nil(C:List Ev->Ev->Prop):kC C []:=fun P e Q h=>by simp at h
def kC.QC(h:kC C E)(d:∀P e Q,es=P++e::Q->C (E++P) e):kC C (E++es):=by
 intro P e Q f;rcases List.append_eq_append_iff.1 f with⟨a,c,b⟩|⟨a,c,b⟩
 .subst c;exact d a e Q b
 .cases a with
  |nil=>simp only[aeo,aiy]at c b;subst c;have:=d [] e Q b.symm;simpa using this
  |cons x a=>simp only[ai1,aiu]at b;obtain⟨rfl,rfl⟩:=b;exact h P e a c
def kC.one{e:Ev}(h:kC C E)(c:C E e):kC C (E++[e]):=h.QC fun P x Q b=>by
 cases P with
 |nil=>simp only[aiy,aiu]at b;rw[<-b.1,aeo];exact c
 |cons a P=>simp at b
def kC.pre(h:kC C (E++es)):kC C E:=fun P e Q a=>h P e (Q++es) (by rw[a];simp)
def mj:List Ev->Int->Int
 |[],g=>g
 |e::r,g=>mj r (if e.kind=1 then e.id else g)
def nI(E es:List Ev)(g:Int):mj (E++es) g=mj es (mj E g):=by
 induction E generalizing g with
 |nil=>rfl
 |cons e r a=>exact a _
def qb(h:∀e∈es,e.kind≠1)(g:Int):mj es g=g:=by
 induction es with
 |nil=>rfl
 |cons e r a=>simp only[mj];rw[if_neg (h e (ajv ..))];exact a fun e b=>h e (aiI _ b)
def CG(P:List Ev)(e:Ev):Prop:=e.kind=1->mj P 0<e.id
def kC.quiet(h:kC CG E)(a:∀e∈es,e.kind≠1):kC CG (E++es):=h.QC fun P e Q b c=>absurd c (a e (by rw[b];simp))
structure GI(E:List Ev)(b:ci):Prop where
 o:kC CG E
 p:b.aA.Pairwise fun s t=>s.id<t.id
 l:∀s∈b.aA,s.id<=b.last
 w:∀s∈b.aA,s.state=0->mj E 0<s.id
 g:mj E 0<=b.last
def L4{id:Int}:∀l:List bY,(ey id l).Sublist l
 |[]=> .slnil
 |s::r=>by
  unfold ey
  split
  .exact List.sublist_cons_self _ _
  .exact (L4 r).cons_cons _
def gi_step{id:Int}(h:GI E b)(o:nO id b es b'):GI (E++es) b':=by
 have⟨n,j,f,l,q⟩:=h;cases o with
 |quiet _ y=>
  have v:∀e∈es,e.kind≠1:=fun e g h=>by have:=(y e g).1;omega
  exact⟨n.quiet v,j,f,by rw[nI,qb v];exact l,by rw[nI,qb v];exact q⟩
 |Ol s r u m=>
  rw[u]at j f l;have o:=l s (ajv ..) m;have w:=f s (ajv ..);have hp:=af7.1 j;refine⟨n.one fun _=>o,af7.2 ⟨hp.1,hp.2⟩,fun t c=>?_,fun t c m=>?_,?_⟩
  .rcases ae3.1 c with rfl|c
   .exact w
   .exact f t (aiI _ c)
  .rw[nI];rcases ae3.1 c with rfl|c
   .cases m
   .exact hp.1 t c
  .rw[nI];exact w
 |fin s k z v=>
  have d:∀e∈ [(⟨k,id,s.id,0,[]⟩:Ev)],e.kind≠1:=fun e g=>by simp at g;subst g;simp only;omega
  have sub:=L4 (id:=s.id) b.aA;exact⟨n.quiet d,j.sublist sub,fun t c=>f t (sub.subset c),fun t c=>by rw[nI,qb d];exact l t (sub.subset c),by rw[nI,qb d];exact q⟩
 |exp s r u x=>
  have d:∀e∈ [(⟨4,id,s.id,0,[]⟩:Ev)],e.kind≠1:=fun e g=>by simp at g;subst g;simp
  rw[u]at j f l;exact⟨n.quiet d,(af7.1 j).2,fun t c=>f t (aiI _ c),fun t c=>by rw[nI,qb d];exact l t (aiI _ c),by rw[nI,qb d];exact q⟩
 |cH s r a u x=>
  rw[aeo];rw[u]at j f l;have hp:=af7.1 j;refine⟨n,af7.2 ⟨hp.1,hp.2⟩,fun t c=>?_,fun t c m=>?_,q⟩
  .rcases ae3.1 c with rfl|c
   .exact f s (ajv ..)
   .exact f t (aiI _ c)
  .rcases ae3.1 c with rfl|c
   .rw[x]at m;cases m
   .exact l t (aiI _ c) m
 |opens i need A=>
  have d:∀e∈ [(⟨0,id,i,0,need⟩:Ev)],e.kind≠1:=fun e g=>by simp at g;subst g;simp
  refine⟨n.quiet d,?_,fun t c=>?_,fun t c m=>?_,by rw[nI,qb d];show _<=i;omega⟩
  .refine List.pairwise_append.2 ⟨j,by simp,fun s o t c=>?_⟩;simp at c;subst c;have:=f s o;simp only;omega
  .rcases ahl.1 c with c|c
   .have:=f t c;show _<=i;omega
   .simp at c;subst c;exact aj5 _
  .rw[nI,qb d];rcases ahl.1 c with c|c
   .exact l t c m
   .simp at c;subst c;simp only;omega
 |gone p=>
  have d:∀e∈((b.aA.filter (cg p)).map fun s=>(⟨5,id,s.id,0,[]⟩:Ev)),e.kind≠1:=fun e g=>by obtain⟨s,_,rfl⟩:=aiE.1 g;simp
  have sub:(b.aA.filter fun s=>!cg p s).Sublist b.aA:=List.filter_sublist;exact⟨n.quiet d,j.sublist sub,fun t c=>f t (sub.subset c),fun t c=>by rw[nI,qb d];exact l t (sub.subset c),by rw[nI,qb d];exact q⟩
def SU{id:Int}(h:GI E b)(a:lH id b es b'):GI (E++es) b':=by
 induction a with
 |nil=>rw[aeo];exact h
 |step e c d=>rw[<-aio];exact gi_step d c
def qs(k:Int->Bool)(i:Int)(E:List Ev):Nat:=E.countP fun e=>k e.kind&&decide (e.id=i)
def Bs(k:Int):Bool:=decide (k=0)
def EB(k:Int):Bool:=decide (k=1)
def HP(k:Int):Bool:=decide (2<=k)&&decide (k<=5)
def CA(P:List Ev)(e:Ev):Prop:=1<=e.kind->e.kind<=5->qs Bs e.id P=1/\qs HP e.id P=0/\qs EB e.id P=(if e.kind=2\/e.kind=4 then 1 else 0)
structure AI(E:List Ev)(b:ci):Prop where
 o:kC CA E
 p:b.aA.Pairwise fun s t=>s.id<t.id
 l:∀s∈b.aA,s.id<=b.last
 s:∀s∈b.aA,qs Bs s.id E=1/\qs HP s.id E=0/\qs EB s.id E=(if s.state=1 then 1 else 0)
 z:∀i,b.last<i->qs Bs i E=0/\qs HP i E=0/\qs EB i E=0
def aa8{id:Int}(h:nO id b es b'):∀e∈es,e.node=id:=by
 cases h with
 |quiet _ c=>exact fun e a=>(c e a).2
 |gone p=>exact fun e a=>by obtain⟨s,_,rfl⟩:=aiE.1 a;rfl
 |cH=>exact fun e a=>by simp at a
 |_=>exact fun e a=>by simp at a;subst a;rfl
def LK{id:Int}(h:lH id b es b'):∀e∈es,e.node=id:=by
 induction h with
 |nil=>exact fun e a=>by simp at a
 |step f c d=>
   intro e a;rcases ahl.1 a with h|h
   .exact d e h
   .exact aa8 c e h
end
section
variable{P:Pp}{T:Nat}{K:Cl}{e:Int}
def xA:xo:=⟨fun _ _ _ h=>(QE h).2.1,fun _ _ _ _ h=>(PD h).2.1⟩
def Mn{s:Bool}{k:Int}{b:bx}(h:P.look s k=some b):b∈P.q (!s):=by
 unfold Pp.look dV at h;split at h
 .cases h
 .exact aiD h
def N8(h:dO P)(s:Bool)(k:Int):dO (P.jk s k).1/\(P.jk s k).1.dT=P.dT:=by
 unfold Pp.jk;split
 .exact ⟨h,rfl⟩
 .exact ⟨h.cut s k,rfl⟩
def Oa(h:dO P)(s:Bool)(k:Int):dO (P.double s k).1/\(P.double s k).1.dT=P.dT:=by
 unfold Pp.double;split
 .exact ⟨h,rfl⟩
 .rename_i b c;refine⟨KB h _ ?_ ?_,rfl⟩
  .unfold ox;have:=h.q (!s);split
   .simp;omega
   .exact this
  .unfold ox;split
   .intro t d;rcases ahl.1 d with a|a
    .exact h.b _ t a
    .simp at a;rw[a];exact h.b _ b (Mn c)
   .exact h.b _
def ad7(s:bx)(k:Int):(x6 s k).length=s.length:=by simp[x6]
def R9(h:dO P)(s:Bool)(k c:Int):dO (P.flip s k c).1/\(P.flip s k c).1.dT=P.dT:=by
 unfold Pp.flip;split
 .exact ⟨h,rfl⟩
 .rename_i b d;split
  .exact ⟨h,rfl⟩
  .refine ⟨KB h _ (by simpa using h.q (!s)) fun t e=>?_,rfl⟩;rcases akZ e with a|a
   .exact h.b _ t a
   .rw[a,ad7];exact h.b _ b (Mn d)
def EK(h:dL T K)(a b:Nat)(hp:dO P)(c:P.dT=(K.pipe a b).dT):dL T (K.eO a b P):=zH h a b hp fun s=>by rw[c];exact h.g _ _ s
def Er{T:Nat}(a:Nat):∀(l:List Nat) (K:Cl),dL T K->dL T (lr a l K)/\(lr a l K).nodes=K.nodes
 |[],K,h=>⟨h,rfl⟩
 |b::l,K,h=>Er a l _ (EK h a b (RC (h.i.pipe a b) (cT a b)) rfl)
def Jg{T:Nat}(a:Nat):∀(l:List Nat) (r:Cl×Nat),dL T r.1->dL T (gZ a l r).1/\(gZ a l r).1.nodes=r.1.nodes
 |[],r,h=>⟨h,rfl⟩
 |b::l,r,h=>Jg a l (r.1.u6 a b,_) (EK h a b (Hg (h.i.pipe a b) (cT a b)).1 rfl)
def uY(h:dL T K)(a b:Int)(f:Pp->Bool->Pp×Bool)(c:∀P s,dO P->dO (f P s).1/\(f P s).1.dT=P.dT):dL T (K.qV a b f).1/\(K.qV a b f).1.nodes=K.nodes:=by
 unfold Cl.qV;split
 .have ⟨d,e⟩:=c (K.pipe b.toNat a.toNat) (cT b.toNat a.toNat) (h.i.pipe _ _);exact⟨EK h _ _ d e,rfl⟩
 .exact ⟨h,rfl⟩
def UZ{b:Cl}(h:dL T K)(z:T<=800000000){x y k:Int}{l:List Ev}(a:K.Comes x y k b l e):dL (T+9001) b/\b.nodes.length=K.nodes.length:=by
 unfold Cl.Comes at a;split at a
 .obtain ⟨rfl,_⟩:=a;exact⟨h.mono (by omega),rfl⟩
 rename_i o
 obtain⟨j,m⟩:∃j,K.look x y k=some j:=by
  cases p:K.look x y k with
  |none=>exact absurd p o
  |some s=>exact⟨s,rfl⟩
 obtain⟨u,v,rfl,rfl,A⟩:=qL (vB h.i m).1;have q:v<K.nodes.length:=by have:=(vB h.i m).1.2.1.2;omega
 have n:dL (T+1) (K.eO v u ((K.pipe v u).jt (cT v u) k).1):=zH (h.mono (by omega)) v u (Gb (h.i.pipe v u) _ _) fun s=>aiZ (KI _ _ _ _) (by have:=h.g (min v u) (max v u) s;show(K.pp _ _).dT s+1<=_;omega);simp only[aim]at a;split at a
 .obtain ⟨rfl,_⟩:=a;have⟨c,f⟩:=qn n v;exact⟨c.mono (by omega),by rw[f];rfl⟩
 .obtain ⟨d,r,rfl⟩:=a;have⟨c,f⟩:=Ir xA n (by omega) (show v< (K.eO v u _).nodes.length from q) r;have⟨t,w⟩:=qn c v;exact⟨t.mono (by omega),by rw[w,f];rfl⟩
def af5{d:Cl}(h:dL T K)(i:T<=800000000){x:LA}{s:List Ev}(a:K.rS x d s e):dL (T+9001) d/\d.nodes.length=K.nodes.length:=by
 unfold Cl.rS at a;split at a
 .have ⟨b,c⟩:=Mo xA h (by omega) a;exact⟨b.mono (by omega),c⟩
 split at a
 .unfold Cl.uc at a;split at a
  .obtain ⟨rfl,_⟩:=a;exact⟨h.mono (by omega),rfl⟩
  .have ⟨b,c⟩:=Er x.A.toNat (others K.nodes.length x.A.toNat) K h;have⟨f,g⟩:=Mo xA b (by omega) a;exact⟨f.mono (by omega),by rw[g,c]⟩
 split at a
 .obtain ⟨rfl,_⟩:=a;unfold Cl.goes;split
  .exact ⟨h.mono (by omega),rfl⟩
  .simp only;rw[xw];have⟨b,c⟩:=qn h x.A.toNat;have⟨f,g⟩:=Jg x.A.toNat (others K.nodes.length x.A.toNat) (K.flush x.A.toNat,0) b;exact⟨f.mono (by omega),by rw[g,c]⟩
 split at a
 .exact UZ h i a
 split at a
 .obtain ⟨rfl,_⟩:=a;have⟨b,c⟩:=uY h x.A x.B (fun p s=>p.jk s x.N) fun P s hp=>N8 hp s _;exact⟨b.mono (by omega),congrArg _ c⟩
 split at a
 .obtain ⟨rfl,_⟩:=a;have⟨b,c⟩:=uY h x.A x.B (fun p s=>p.double s x.N) fun P s hp=>Oa hp s _;exact⟨b.mono (by omega),congrArg _ c⟩
 .obtain ⟨rfl,_⟩:=a;have⟨b,c⟩:=uY h x.A x.B (fun p s=>p.flip s x.N x.X) fun P s hp=>R9 hp s _ _;exact⟨b.mono (by omega),congrArg _ c⟩
end
section
structure mR where
 win:Int
 fB:Int
 wait:Int
 room:Int
 hold:Int
def fY(r:mR):List ab:=[I r.win,I r.fB,I r.wait,I r.room,I r.hold]
def bR(g:Gr):List ab:=[I g.n,.aj (g.bw.map dm)]
def AM(g:Gr):cw (bR g)=true:=by simp[bR,cw,bD,jX]
def YA(r:mR):cw (fY r)=true:=rfl
def OH(g:Gr)(r:mR)(K:Cl):Prop:= ∀H c, ∃b d a,aO tz ay 16 [.agg (bR g),.agg (fY r)] H=some (.aM [aw b,aa 0],a)/\bK a d b K/\aH (fun _=>False) c d H a
def p17(g:Gr)(h:g.bw.length<=400):aS tz ay 1 17 [.agg (bR g)]=some (.agg (bR g),[]):=by
 refine be func17 rfl ?_;have c:g.bw.length<=maxLen:=by unfold maxLen;omega
 have d:g.bw.length*16<=140737488355328:=by omega
 have e:(g.bw=[]/\0<g.bw.length)=False:=eq_false fun⟨a,b⟩=>by rw[a]at b;simp at b
 have f:(∀a:Edge,a∈g.bw->(dm a).length=2)=True:=eq_true fun _ _=>rfl;simp[f17,bR,c,d,e,f]
def c17(H:List Ob)(g:Gr)(a:g.bw.length<=400):aO tz ay 17 [.agg (bR g)] H=some (.agg (bR g),H):=by
 have b:=p17 g a;have c:df H (.agg (bR g))=some (.agg (bR g),[]):=by simp only[df,nB (AM g)];rfl
 rw[aD,if_neg (by simp[eQ])];simp only[dy,c,lJ,show tz.md 17=1 from rfl,aeo];rw[b,jQ];simp[eo,eR,dZ,bR]
def TI:rB aaD 31=true:=by kernel_rfl
def bK.ob{H:List Ob}{c:Nat->aU}{b:Nat}{K:Cl}(h:bK H c b K):∃r,H[b]?=some (ah 8 r):=by have⟨q,mp,mt,a,d,h⟩:=h;exact⟨_,h.hb⟩
def xg(K:Cl)(x:Int)(n:Nat):List Nat:=(aiT n).map fun(i:Nat)=>(K.jG x (i:Int)).length
def ae1(K:Cl)(x:Int)(n:Nat):((xg K x n).map fun n:Nat=>aC n)=(K.lR x n).map aC:=by simp[xg,Cl.lR]
def yZ(x:LA):LA:=⟨min (max x.K 0) 6,x.A,x.B,x.N,x.X,x.d⟩
def xF(K a:Cl)(x:LA)(n:Nat)(l:List jB):List jB:=l++wB a x.A (if x.K=2 then xg K x.A n else [])
abbrev GJ:aU->Prop:=fun k=>Gx k\/k= .cl 10
abbrev GA:aU->Prop:=fun k=>Gx k\/k= .cl 9\/k= .cl 10
def E9(g:Gr)(R:List (List ab))(gc:Nat)(caps:List ab)(b j:Nat)(q:ab)(h:Nat):Env:=[(4,.c (.aK [bR g] 0 0)),(2,bh R),(3,.c (.bG gc caps)),(11,aw b),(14,aa j),(13,.c q),(15,aw h)]
section
variable{σ:Type}{g:Gr}{r:mR}{acts:List LA}{gc:Nat}{caps:List ab}{K0:Cl}
 {J:σ->List Ob->(Nat->aU)->Prop} {Inv:Nat->Cl->List jB->σ->Prop}
def c9(hN:OH g r K0)(F:dL 0 K0)(hn:K0.nodes.length=g.n.toNat)(b3:0<=g.n)(bv:g.bw.length<=400)(ha:acts.length<=100)(bx:∀x∈acts,x.d.need.length<=20)
  (P:∀s H D c q,J s H c->aH G9 c q H D->J s D q)
  (hS:∀j K l s x w ev af le b z H c,j<100->Inv j K l s->dL 1000000 K->x∈acts.map yZ-> ¬(x.K=3/\sE K l x=true)->K.rS x w ev af->lM le ev->bK H c b w->J s H c->
   ∃s' q D,aO tz (bB tz (Go.Nx.ev tz)) gc ([aw b,.agg (cO x),.c le,aa af,aR z]++caps.map .c) H=some (aR true,D)/\bK D q b w/\aH GJ c q H D/\J s' D q/\Inv (j+1) w (xF K w x g.n.toNat l) s')
  (s0:σ) (h0:Inv 0 K0 [] s0) (H:List Ob) (c:Nat->aU) (a6:J s0 H c):
  ∃p z s q D,aO tz (bB tz (Go.Nx.ev tz)) 9 [.agg (bR g),.agg (fY r),bh (acts.map cO),.c (.bG gc caps)] H=some (.aM [.c p,aR true,aR z],D)/\J s D q/\(∃j K l,j<=100/\Inv j K l s)/\aH GA c q H D:=by
 obtain⟨rr,D,h1,p,z,s,q,rfl,Y⟩:=cG (C:=tz) (f:=9) (args:=[.agg (bR g),.agg (fY r),bh (acts.map cO),.c (.bG gc caps)]) (H:=H) (fun r D=>∃p z s q,r= .aM [.c p,aR true,aR z]/\J s D q/\(∃j K l,j<=100/\Inv j K l s)/\aH GA c q H D) func9 rfl (by
  simp only[f9,bX]
  have⟨R,hR⟩:=ak (acts.map cO)
  have a7:R.length=acts.length:=by rw[<-hR];simp
  have bz:∀j (hj:j<acts.length),R[j]?=some (cO acts[j]):=fun j hj=>by rw[<-hR,adn,aae hj];rfl
  rw[hR]
  refine bp [(4,.c (.aK [bR g] 0 0)),(5,.c (.aK [fY r] 0 0)),(2,bh R),(3,.c (.bG gc caps))] (fun G=>G=H) ?_ ?_
  .simp[bR,fY]
  rintro E G⟨d,a5,e,k,_⟩M
  obtain rfl:H=G:=M.symm
  have⟨b,c1,y,a8,k1,s1⟩:=hN H c
  have a9:=c17 H g bv
  have eg:=AM g
  refine bp [(4,.c (.aK [bR g] 0 0)),(2,bh R),(3,.c (.bG gc caps)),(11,aw b),(12,aa 0)] (fun G=>G=y) ?_ ?_
  .simp only[bR,fY]at a8 a9 d a5|-
   simp[-aD,d,a5,e,k,a8,a9]
  rintro E G⟨d,e,k,n,bA,_⟩M
  obtain rfl:y=G:=M.symm
  refine bp [(4,.c (.aK [bR g] 0 0)),(2,bh R),(3,.c (.bG gc caps)),(11,aw b)] (fun G=>G=y) ?_ ?_
  .have ⟨rb,hb⟩:=k1.ob
   simp[-getElem?_pos,-aae,d,e,k,n,bA,TI,hb,li]
  rintro E G⟨d,e,k,n,_⟩M
  obtain rfl:y=G:=M.symm
  have ax:aH (fun _=>False) c1 (ext c1 y.length (.cl 9)) y (y++[ah 3 []]):=aH.of _ (by simp) fun m hm _=>aaK hm
  refine bp [(4,.c (.aK [bR g] 0 0)),(2,bh R),(3,.c (.bG gc caps)),(11,aw b),(13,bd y.length 0 0 0)] (fun G=>G=y++[ah 3 []]) ?_ ?_
  .simp[d,e,k,n]
  rintro E G⟨d,e,k,n,o,_⟩M
  have k2:bK G (ext c1 y.length (.cl 9)) b K0:=by rw[M];exact k1.aJ ax fun _ h=>h.elim
  have r2:iJ G (ext c1 y.length (.cl 9)) (.cl 9) 3 (.sl y.length 0 0 0) (([]:List jB).map eW):=⟨y.length,0,rfl,by rw[M];simp,jr (adt _)⟩
  have s2:aH GA c (ext c1 y.length (.cl 9)) H G:=by rw[M];exact(s1.trans ax).mono fun _ h=>h.elim
  have j2:J s0 G (ext c1 y.length (.cl 9)):=by rw[M];exact P _ _ _ _ _ a6 ((s1.trans ax).mono fun _ h=>h.elim)
  clear M ax
  rw[iY]
  refine Ends.sq ?_
  refine bp [(4,.c (.aK [bR g] 0 0)),(2,bh R),(3,.c (.bG gc caps)),(11,aw b),(14,aa (0:Nat)),(13,bd y.length 0 0 0)] (fun aq=>aq=G) ?_ ?_
  .simp[d,e,k,n,o]
  rintro E G2 a aV
  obtain rfl:G=G2:=aV.symm
  rw[eD]
  refine Ends.bl (gO (fun p:Nat×ab=>[(4,.c (.aK [bR g] 0 0)),(2,bh R),(3,.c (.bG gc caps)),(11,aw b),(14,aa p.1),(13,.c p.2)]) (fun p G=>p.1<=acts.length/\∃K l s q,Inv p.1 K l s/\dL (9001*p.1) K/\K.nodes.length=g.n.toNat/\l.length<=1000000*p.1/\iJ G q (.cl 9) 3 p.2 (l.map eW)/\bK G q b K/\J s G q/\aH GA c q H G) [] (fun p=>acts.length-p.1) _ [4,2,3,11,14,13] (fun _=>rfl) ?_ (0,.sl y.length 0 0 0) _ a ⟨by omega,K0,[],s0,_,h0,by simpa using F,hn,by simp,r2,k2,j2,s2⟩ rfl)
  clear a r2 k2 j2 s2 d e k n o F hn h0 a6
  rintro⟨j,am⟩⟨E,G,ds⟩a⟨g2,K,l,s,c2,hI,F,hn,hl,r2,k2,j2,s2⟩g6
  simp only at a g2 F hl r2 g6
  subst g6
  simp at a
  have⟨d,e,k,n,u,o⟩:=a
  by_cases ay:j<acts.length
  case neg=>
   simp[-getElem?_pos,-aae,d,e,k,n,u,o,ay,a7]
   exact⟨s,c2,j2,⟨j,by omega,K,l,hI⟩,s2⟩
  refine bp [(4,.c (.aK [bR g] 0 0)),(2,bh R),(3,.c (.bG gc caps)),(11,aw b),(14,aa j),(13,.c am)] (fun aq=>aq=G) ?_ ?_
  .simp[d,e,k,n,u,o,ay,a7]
  rintro E G2 a aV
  obtain rfl:G=G2:=aV.symm
  simp at a
  have⟨d,e,k,n,u,o⟩:=a
  rw[iY]
  refine Ends.sq ?_
  rw[eD]
  refine Ends.bl ?_
  have⟨x,hx⟩:=ak acts[j]
  have ba:x∈acts:=by rw[<-hx];exact air ay
  have bC:=bx x ba
  have aW:=bz j ay
  rw[hx]at aW
  have bD:j<R.length:=by omega
  have Z:aH (fun _=>False) c2 (ext c2 G.length .none) G (G++[ah 10 [cO (yZ x)]]):=aH.of _ (by simp) fun m hm _=>aaK hm
  rw[fK]
  have⟨X,hX⟩:=ak (yZ x)
  have bE:X∈acts.map yZ:=by rw[<-hX];exact akm ba
  have b4:X.d.need.length<=20:=by rw[<-hX];exact bC
  have bF:[I (min (max x.K 0) 6),I x.A,I x.B,I x.N,I x.X,I x.d.kind,I x.d.id,I x.d.peer,I x.d.hold,aG x.d.need]=cO X:=by rw[<-hX];rfl
  have⟨h,hh⟩:=ak G.length
  rw[hX,hh]at Z
  have L:(G++[Ob.live 0 10 [cO X]])[h]?=some (ah 10 [cO X]):=by rw[<-hh];simp
  have az:ext c2 h .none h= .none:=jr (adt _)
  refine bp (E9 g R gc caps b j am h) (fun aq=>aq=G++[ah 10 [cO X]]) ?_ ?_
  .rw[<-bF, <-hh]
   simp only[cO]at aW
   simp[-getElem?_pos,-aae,E9,d,e,k,n,u,o,aW,bD]
  clear d e k n u o
  rintro E G1 a bb
  rw[<-bb]at Z L
  have⟨c3,bc⟩:=ak (ext c2 h .none)
  rw[bc]at Z az
  have k3:=k2.aJ Z fun _ h=>h.elim
  have r3:=r2.aJ Z fun h=>h
  have j3:=P _ _ _ _ _ j2 (Z.mono fun _ h=>h.elim)
  have s3:aH GA c c3 H G1:=s2.trans (Z.mono fun _ h=>h.elim)
  clear bb Z k2 r2 j2 s2 bc
  have be:l.length<=1000000000:=by omega
  have⟨nl,Q⟩:=ak (aG X.d.need)
  by_cases hf:X.K=3/\sE K l X=true
  .have ⟨c4,H4,T,k4,N⟩:=Si k3 F.i X l r3 be
   rw[hf.2]at T
   simp only[cO]at T L
   rw[hf.1,Q]at T L
   simp[E9]at a
   have⟨d,e,k,n,u,o,v⟩:=a
   simp[-aD,-getElem?_pos,-aae,d,e,k,n,u,o,v,L,T]
   exact⟨s,c4,P _ _ _ _ _ j3 (N.mono fun _ h=> .inl h),⟨j,by omega,K,l,hI⟩,s3.trans (N.mono fun _ h=> .inl h)⟩
  refine bp (E9 g R gc caps b j am h) (fun G=>∃c4,bK G c4 b K/\aH Gx c3 c4 G1 G) ?_ ?_
  .simp[E9]at a
   have⟨d,e,k,n,u,o,v⟩:=a
   by_cases h3:X.K=3
   .have ⟨c4,H4,T,k4,N⟩:=Si k3 F.i X l r3 be
    have bI:sE K l X=false:=by
     cases hh:sE K l X with
     |false=>rfl
     |true=>exact absurd ⟨h3,hh⟩ hf
    rw[bI]at T
    simp only[cO]at T L
    rw[h3,Q]at T L
    simp[-aD,-getElem?_pos,-aae,E9,d,e,k,n,u,o,v,L,T]
    exact⟨c4,k4,N⟩
   .simp only[cO]at L
    rw[Q]at L
    simp[-aD,-getElem?_pos,-aae,E9,d,e,k,n,u,o,v,L,h3]
    exact⟨c3,k3,aH.refl _ _ _⟩
  rintro E G2 a⟨c4,k4,N⟩
  have⟨an,aA⟩:=N.get L (by rw[az];simp[Lw])
  rw[az]at aA
  have r4:=r3.aJ N (by simp[Lw])
  have j4:=P _ _ _ _ _ j3 (N.mono fun _ h=> .inl h)
  have s5:aH GA c c4 H G2:=s3.trans (N.mono fun _ h=> .inl h)
  clear L az k3 r3 j3 s3 N
  have bJ:(K.pc X.A X.B).length<=1000000:=by
   unfold Cl.pc
   split
   .have:=F.t X.A.toNat X.B.toNat;omega
   .simp
  have⟨bL,c5,U,ad,ms,k5,t5⟩:=RX k4 X.A X.B bJ
  have⟨m,hm⟩:=ak ((K.pc X.A X.B).length)
  have⟨aB,aX⟩:=t5.get an (by rw[aA];simp[Lw])
  rw[aA]at aX
  have t6:aH (fun _=>False) c5 (ext c5 U.length .none) U (U++[ah 1 []]):=aH.of _ (by simp) fun m hm _=>aaK hm
  refine bp (E9 g R gc caps b j am h++[(16,aa m),(17,bd U.length 0 0 0)]) (fun G=>G=U++[ah 1 []]) ?_ ?_
  .simp[E9]at a
   have⟨d,e,k,n,u,o,v⟩:=a
   simp only[cO]at an
   rw[Q]at an
   rcases ms with⟨bg,rfl⟩|⟨hq,vq,rfl,aY,_⟩
   .have:m=0:=by rw[<-hm,bg];rfl
    subst this
    simp[-aD,-getElem?_pos,-aae,E9,d,e,k,n,u,o,v,an,ad]
   .rw[hm]at ad
    have bM:m<=((K.pc X.A X.B).map br).length:=by rw[ahL,hm];exact adt _
    simp[-aD,-getElem?_pos,-aae,E9,d,e,k,n,u,o,v,an,ad,aY,hm]
  clear a
  rintro E G3 a aE
  have ag:G3[h]?=some (ah 10 [cO X]):=by rw[aE,aaK (bf aB)];exact aB
  have⟨z5,aZ⟩:=ak U.length
  have w3:iJ G3 (ext c5 U.length .none) .none 1 (.sl z5 0 0 0) (([]:List Nat).map fun a0:Nat=>aC a0):=⟨z5,0,rfl,by rw[aE, <-aZ];simp,by rw[<-aZ];exact jr (adt _)⟩
  rw[<-aE]at t6
  have aF:ext c5 U.length .none h= .none:=by rw[ji (bf aB)];exact aX
  have⟨c6,bi⟩:=ak (ext c5 U.length .none)
  rw[bi]at t6 w3 aF
  rw[aZ]at a
  have t7:aH Gx c4 c6 G2 G3:=t5.trans (t6.mono fun _ h=>h.elim)
  have k6:=k5.aJ t6 fun _ h=>h.elim
  have r6:=r4.aJ t7 (by simp[Lw])
  have j6:=P _ _ _ _ _ j4 (t7.mono fun _ h=> .inl h)
  have s6:aH GA c c6 H G3:=s5.trans (t7.mono fun _ h=> .inl h)
  clear an aA k4 r4 j4 s5 ad ms k5 t5 aB aX t6 t7 bi aE
  have⟨ai,bj⟩:=ak g.n.toNat
  have bk:g.n=(ai:Int):=by omega
  have bm:ai<=1000:=by rw[<-bj, <-hn];exact F.i.n
  have⟨V,ao⟩:=ak (if X.K=2 then xg K X.A ai else [])
  have bN:V.length<=1000:=by
   rw[<-ao];split
   .simpa[xg]using bm
   .simp
  refine ef (fun S=>S.bH=[]/\∃aI q,Has S.env (E9 g R gc caps b j am h++[(16,aa m),(17,.c aI)])/\iJ S.heap q .none 1 aI (V.map fun a0:Nat=>aC a0)/\bK S.heap q b K/\aH Gx c6 q G3 S.heap) ?_ ?_
  .simp[E9]at a
   have⟨d,e,k,n,u,o,v,O,ap⟩:=a
   simp only[cO]at ag
   rw[Q]at ag
   by_cases Y:X.K=2
   .have ⟨b5,c7,H7,bO,w7,k7,s7⟩:=c29 k6 F.i X.A ai bm
    rw[if_pos Y]at ao
    rw[<-ae1,ao]at w7
    simp only[bR,bk]at d
    rw[Y]at ag
    simp[-aD,-getElem?_pos,-aae,-ai6,E9,d,e,k,n,u,o,v,O,ap,ag,bO,bR,bk]
    exact⟨c7,w7,k7,s7⟩
   .rw[if_neg Y]at ao
    rw[ao]at w3
    simp[-aD,-getElem?_pos,-aae,-ai6,E9,d,e,k,n,u,o,v,O,ap,ag,Y]
    exact⟨c6,w3,k6,aH.refl _ _ _⟩
  clear a w3
  rintro⟨E,G4,ds⟩⟨rfl,aI,c7,a,w7,k7,s7⟩
  simp only at a w7 k7 s7
  have⟨ar,aL⟩:=s7.get ag (by rw[aF];simp[Lw])
  rw[aF]at aL
  have r7:=r6.aJ s7 (by simp[Lw])
  have j7:=P _ _ _ _ _ j6 (s7.mono fun _ h=> .inl h)
  have s8:aH GA c c7 H G4:=s6.trans (s7.mono fun _ h=> .inl h)
  clear ag aF k6 r6 j6 s6 s7
  have hT:9001*j<=900100:=by omega
  have⟨c8,H8,w,sv,af,le,aN,hA,bP,k8,s9⟩:=wT xA k7 F (by omega) X (by omega)
  have⟨aP,bQ⟩:=af5 F (by omega) hA
  have⟨au,aQ⟩:=s9.get ar (by rw[aL];simp[Lw])
  rw[aL]at aQ
  have r8:=r7.aJ s9 (by simp[Lw])
  have w8:=w7.aJ s9 (by simp[Lw])
  have j8:=P _ _ _ _ _ j7 (s9.mono fun _ h=> .inl h)
  have bn:aH GA c c8 H H8:=s8.trans (s9.mono fun _ h=> .inl h)
  refine bp (E9 g R gc caps b j am h++[(16,aa m),(17,.c aI),(18,.c le),(19,aa af)]) (fun G=>G=H8) ?_ ?_
  .simp[E9]at a
   have⟨d,e,k,n,u,o,v,O,ap⟩:=a
   simp only[cO]at ar aN
   rw[Q]at ar aN
   simp[-aD,-getElem?_pos,-aae,-ai6,E9,d,e,k,n,u,o,v,O,ap,ar,aN]
  clear a ar aL k7 r7 w7 j7 s8 s9 aN
  rintro E G5 a a1
  obtain rfl:H8=G5:=a1.symm
  have⟨q9,c9,H9,bo,r9,k9,aS⟩:=xm k8 aP.i X.A l V r8 w8 bN (by omega)
  have⟨ae,aT⟩:=aS.get au (by rw[aQ];simp[Lw])
  rw[aQ]at aT
  have j9:=P _ _ _ _ _ j8 aS
  have bq:aH GA c c9 H H9:=bn.trans (aS.mono fun _ h=>by rcases h with h|h;exact .inl h;exact .inr (.inl h))
  have bs:xF K w X ai l=l++wB w X.A V:=by unfold xF;rw[ao]
  rw[<-bs]at r9
  refine bp (E9 g R gc caps b j q9 h++[(16,aa m),(18,.c le),(19,aa af)]) (fun G=>G=H9) ?_ ?_
  .simp[E9]at a
   have⟨d,e,k,n,u,o,v,O,ap,aj,al⟩:=a
   simp only[cO]at au
   rw[Q]at au
   simp[-aD,-getElem?_pos,-aae,-ai6,E9,d,e,k,n,u,o,v,O,ap,aj,al,au,bo]
  clear a au aQ k8 r8 w8 j8 bn aS bo
  rintro E G5 a a1
  obtain rfl:H9=G5:=a1.symm
  have bS:(w.pc X.A X.B).length<=1000000:=by
   unfold Cl.pc
   split
   .have:=aP.t X.A.toNat X.B.toNat;omega
   .simp
  refine ef (fun S=>S.bH=[]/\∃z q,Has S.env (E9 g R gc caps b j q9 h++[(18,.c le),(19,aa af),(20,aR z)])/\bK S.heap q b w/\aH Gx c9 q H9 S.heap) ?_ ?_
  .simp[E9]at a
   have⟨d,e,k,n,u,o,v,O,aj,al⟩:=a
   simp only[cO]at ae
   rw[Q]at ae
   by_cases h3:X.K=3
   .have ⟨bL,o8,b6,ad,ms,av,W⟩:=RX k9 X.A X.B bS
    have⟨m',a2⟩:=ak ((w.pc X.A X.B).length)
    rw[h3]at ae
    rcases ms with⟨bg,rfl⟩|⟨hq,vq,rfl,aY,_⟩
    .simp[-aD,-getElem?_pos,-aae,-ai6,E9,d,e,k,n,u,o,v,O,aj,al,ae,ad]
     exact⟨by omega,o8,av,W⟩
    .rw[a2]at ad
     have bM:m'<=((w.pc X.A X.B).map br).length:=by rw[ahL,a2];exact adt _
     simp[-aD,-getElem?_pos,-aae,-ai6,E9,d,e,k,n,u,o,v,O,aj,al,ae,ad,aY,a2]
     exact⟨by omega,o8,av,W⟩
   .simp[-aD,-getElem?_pos,-aae,-ai6,E9,d,e,k,n,u,o,v,O,aj,al,ae,h3]
    exact⟨c9,k9,aH.refl _ _ _⟩
  clear a
  rintro⟨E,G6,ds⟩⟨rfl,z,o8,a,av,W⟩
  simp only at a av W
  have⟨a3,bT⟩:=W.get ae (by rw[aT];simp[Lw])
  rw[aT]at bT
  have bU:=r9.aJ W (by simp[Lw])
  have bV:=P _ _ _ _ _ j9 (W.mono fun _ h=> .inl h)
  have bW:aH GA c o8 H G6:=bq.trans (W.mono fun _ h=> .inl h)
  clear ae aT k9 r9 j9 bq W
  have⟨s',lq,b7,a4,bY,bt,bZ,bu⟩:=hS j K l s X w sv af le b z G6 o8 (by omega) hI (F.mono (by omega)) bE hf hA bP av bV
  have b0:=bU.aJ bt (by simp[Lw])
  rw[bj]at bu
  simp[E9]at a
  have⟨d,e,k,n,u,o,v,aj,al,b1⟩:=a
  simp only[cO,ai1,aiy]at a3 a4
  rw[Q]at a3 a4
  have hw:ads.wrap ((j:Int)+1)=((j+1:Nat):Int):=cr (by omega)
  simp[-aD,-getElem?_pos,-aae,-ai6,-ac7,E9,d,e,k,n,u,o,v,aj,al,b1,a3,a4,hw]
  have b2:(xF K w X ai l).length<=1000000*(j+1):=by
   rw[bs,afu]
   have:=Nh aP.i X.A V V.length
   have Y:wB w X.A V=kG w X.A V V.length:=rfl
   rw[Y]
   omega
  exact⟨j+1,by omega,q9,⟨rfl,rfl⟩,by omega,w,xF K w X ai l,s',bu,aP.mono (by omega),by rw[bQ,hn],b2,lq,b0,bY,bZ,bW.trans (bt.mono fun _ h=>by rcases h with h|h;exact .inl h;exact .inr (.inr h))⟩)
 exact⟨p,z,s,q,D,dK (by simp) h1,Y⟩
end
end
section
variable [W]
def p40(x y:Edge):aS tz ay 0 40 [.agg (dm x),.agg (dm y)]=some (aR (nR x y),[]):=by
 refine be func40 rfl ?_;unfold nR;by_cases b:x.a<y.a
 .simp[f40,dm,b]
 by_cases c:x.a=y.a;all_goals simp[f40,dm,b,c]
def oN(a b:Int):Int:=if a<b then -1 else if a>b then 1 else 0
def QL(a:Int):aS tz ay 0 340 [aa a]=some (aR false,[]):=by refine be func340 rfl ?_;simp[f340]
def WX(a b:Int):aS tz ay 0 334 [aa a,aa b]=some (aa (oN a b),[]):=by
 refine be func334 rfl ?_;unfold oN;by_cases c:a<b
 .simp[f334,QL,c]
 by_cases d:a>b;all_goals simp[f334,QL,c,d]
def Wp(a b:Int):aS tz ay 0 333 [bh [[I a],[I b]]]=some (aa (if a=0 then b else a),[]):=by
 refine be func333 rfl ?_;simp only[f333,bX];refine bp [(0,bh [[I a],[I b]]),(2,aa 0)] (fun G=>G=[]) ?_ ?_
 .simp
 rintro g G⟨i,k,_⟩rfl;refine bp [(0,bh [[I a],[I b]]),(2,aa 0),(3,aa 0)] (fun G=>G=[]) ?_ ?_
 .simp[i,k]
 rintro g G⟨i,k,l,_⟩rfl;rw[iY];refine Ends.sq ?_;refine bp [(3,aa 0),(6,bh [[I a],[I b]]),(7,aa 2),(8,aa (0:Nat))] (fun G=>G=[]) ?_ ?_
 .simp[i,k,l]
 rintro g G m rfl;rw[eD];refine im (fun j:Nat=>[(3,aa 0),(6,bh [[I a],[I b]]),(7,aa 2),(8,aa j)]) (fun j G=>G=[]/\(j=0\/j=1/\a=0\/j=2/\a=0/\b=0)) (fun j=>2-j) ?_ 0 m ⟨rfl,.inl rfl⟩ fun _=>rfl;rintro j g G ⟨c,d,e,f,_⟩ ⟨rfl,n⟩;rcases n with rfl|⟨rfl,rfl⟩|⟨rfl,rfl,rfl⟩
 .by_cases h:a=0
  .subst h;simp[c,d,e,f];exact⟨1,by omega,rfl,by simp⟩
  .simp[c,d,e,f,h]
 .by_cases h:b=0
  .subst h;simp[c,d,e,f];exact⟨2,by omega,rfl,by simp⟩
  .simp[c,d,e,f,h]
 .simp[c,d,e,f]
def xx(x y:Edge):Int:=if oN x.a y.a=0 then oN x.b y.b else oN x.a y.a
def aaG(x y:Edge):decide (0<=xx x y)=!nR x y:=by
 unfold xx oN nR;by_cases d:x.a<y.a
 .simp[d]
 by_cases c:x.a=y.a
 .by_cases e:x.b<y.b
  .simp[c,e]
  .by_cases f:x.b=y.b
   .simp[c,f]
   .have:y.b<x.b:=by omega
    simp[c,e,this]
 .have:y.a<x.a:=by omega
  simp[d,c,this]
def aci(x y:Edge):aS tz ay 0 293 [.agg (dm x),.agg (dm y)]=some (aa (xx x y),[]):=by refine be func293 rfl ?_;have c:=Wp (oN x.a y.a) (oN x.b y.b);have d:xx x y=if oN x.a y.a=0 then oN x.b y.b else oN x.a y.a:=rfl;rw[<-d]at c;simp[f293,dm,WX,c]
def mg(g:Gr)(e:Edge):Bool:=decide (e.a<0)||decide (e.a>=e.b)||decide (e.b>=g.n)
def ahb(g:Gr)(e:Edge):aS tz ay 0 291 [.agg (dm e),.c (.aK [bR g] 0 0)]=some (aR (mg g e),[]):=by
 refine be func291 rfl ?_;unfold mg;by_cases d:e.a<0
 .simp[f291,dm,bR,d]
 by_cases f:e.a>=e.b
 .simp[f291,dm,bR,d,f]
 by_cases h:e.b>=g.n;all_goals simp[f291,dm,bR,d,f,h]
def LD:∀l:List Edge,vt l=true↔ ∀j (h:j+1<l.length),nR (l[j]'(by omega)) l[j+1]=true
 |[]=>by simp[vt]
 |[x]=>by simp[vt]
 |x::y::r=>by
  have b:=LD (y::r)
  unfold vt
  simp only[aa2]
  rw[b]
  constructor
  .rintro⟨c,d⟩j a
   cases j with
   |zero=>exact c
   |succ j=>exact d j (by simp at a|-;omega)
  .intro h
   exact⟨h 0 (by simp),fun j a=>h (j+1) (by simp at a|-;omega)⟩
def nm(g:Gr):fg g=true↔0<=g.n/\g.n<=64/\g.bw.length<=400/\(∀j (h:j<g.bw.length),mg g g.bw[j]=false)/\∀j (h:j+1<g.bw.length),nR (g.bw[j]'(by omega)) g.bw[j+1]=true:=by
 unfold fg;simp only[aa2,afj,decide_eq_false_iff_not,LD];constructor
 .rintro⟨⟨⟨⟨d,f⟩,i⟩,a⟩,b⟩;refine⟨by omega,by omega,by omega,fun j c=>?_,b⟩;rw[ai4]at a;have:=a _ (air c);unfold mg;simpa using this
 .rintro⟨d,f,i,a,b⟩;refine⟨⟨⟨⟨by omega,by omega⟩,by omega⟩,?_⟩,b⟩;rw[ai4];intro e k;obtain⟨j,c,rfl⟩:=ajU.1 k;have:=a j c;unfold mg at this;simpa using this
def wv{g:Gr}(h:¬(0<=g.n/\g.n<=64/\g.bw.length<=400/\(∀j (h:j<g.bw.length),mg g g.bw[j]=false)/\∀j (h:j+1<g.bw.length),nR (g.bw[j]'(by omega)) g.bw[j+1]=true)):fg g=false:=by
 cases a:fg g with
 |false=>rfl
 |true=>exact absurd ((nm g).1 a) h
def p26(g:Gr):aS tz ay 0 26 [.agg (bR g)]=some (aR (fg g),[]):=by
 refine be func26 rfl ?_;simp only[f26,bX];have⟨R,A⟩:=ak (g.bw.map dm);have⟨n,hn⟩:=ak g.bw.length;have l:R.length=n:=by rw[<-A];simpa using hn
 have H:∀j (B:j<g.bw.length),R[j]?=some (dm g.bw[j]):=fun j B=>by rw[<-A,adn,aae B];rfl
 have P:bR g=[I g.n,.aj R]:=by unfold bR;rw[A]
 rw[P];refine bp [(1,.c (.aK [[I g.n,.aj R]] 0 0)),(2,aR false)] (fun G=>G=[]) ?_ ?_
 .simp
 rintro C G⟨r,s,_⟩rfl;by_cases c:g.n<0\/64<g.n\/400<n
 .rw[wv (by omega)];by_cases c1:g.n<0
  .simp[r,s,c1]
  by_cases c2:64<g.n
  .simp[r,s,c1,c2]
  .have c3:(400:Int)<n:=by omega
   simp[r,s,c1,c2,l,c3]
 have c1:¬g.n<0:=by omega
 have c2:¬64<g.n:=by omega
 have c3:¬(400:Int)<n:=by omega
 refine bp [(1,.c (.aK [[I g.n,.aj R]] 0 0)),(2,aR false)] (fun G=>G=[]) ?_ ?_
 .simp[r,s,c1,c2,l,c3]
 rintro C G⟨r,s,_⟩rfl;rw[iY];refine Ends.sq ?_;refine bp [(1,.c (.aK [[I g.n,.aj R]] 0 0)),(3,aa (0:Nat))] (fun G=>G=[]) ?_ ?_
 .simp[r,s]
 rintro C G Q rfl;rw[eD];refine im (fun j:Nat=>[(1,.c (.aK [[I g.n,.aj R]] 0 0)),(3,aa j)]) (fun j _=>j<=n/\(∀i (h:i<g.bw.length),i<j->mg g g.bw[i]=false)/\∀i (h:i+1<g.bw.length),i+1<j->nR (g.bw[i]'(by omega)) g.bw[i+1]=true) (fun j=>n-j) ?_ 0 Q ⟨by omega,fun i _ h=>absurd h (by omega),fun i _ h=>absurd h (by omega)⟩ fun _=>rfl;rintro j C G ⟨o,p,_⟩ ⟨Z,J,K⟩;by_cases d:j<n
 case neg=>
  have B:j=n:=by omega
  have S:fg g=true:=(nm g).2 ⟨by omega,by omega,by omega,fun i q=>J i q (by omega),fun i q=>K i q (by omega)⟩;simp[o,p,d,l,S]
 have D:j<g.bw.length:=by omega
 have t:j<R.length:=by omega
 have m:=H j D;have⟨e,v⟩:=ak g.bw[j];rw[v]at m;simp only[dm]at m;have T:ads.wrap ((j:Int)+1)=((j+1:Nat):Int):=cr (by omega);have E:mg g e=true->fg g=false:=fun h=>wv fun⟨_,_,_,U,_⟩=>by have:=U j D;rw[v,h]at this;cases this
 have x:mg g e=(decide (e.a<0)||decide (e.a>=e.b)||decide (e.b>=g.n)):=rfl;by_cases c4:e.a<0
 .rw[E (by rw[x];simp[c4])];simp[-getElem?_pos,-aae,-ac7,o,p,d,l,t,m,c4]
 by_cases c5:e.a>=e.b
 .rw[E (by rw[x];simp[c5])];simp[-getElem?_pos,-aae,-ac7,o,p,d,l,t,m,c4,c5]
 by_cases u:e.b>=g.n
 .rw[E (by rw[x];simp[u])];simp[-getElem?_pos,-aae,-ac7,o,p,d,l,t,m,c4,c5,u]
 have V:mg g e=false:=by rw[x];simp[c4,c5,u]
 have L:∀i (h:i<g.bw.length),i<j+1->mg g g.bw[i]=false:=fun i q W=>by
  by_cases h:i=j
  .subst h;rw[v];exact V
  .exact J i q (by omega)
 by_cases X:j=0
 .subst X;simp[-getElem?_pos,-aae,-ac7,o,p,d,l,t,m,c4,c5,u];exact⟨1,by omega,rfl,by omega,L,fun i _ h=>absurd h (by omega)⟩
 obtain⟨k,rfl⟩:∃k,j=k+1:=⟨j-1,by omega⟩;have y:=H k (by omega);have⟨f,F⟩:=ak (g.bw[k]'(by omega));rw[F]at y;simp only[dm]at y;have M:ads.wrap (((k+1:Nat):Int)-1)=(k:Int):=by rw[fC (by omega) (by omega)];omega
 have N:k<n:=by omega
 have O:(0:Int)< ((k+1:Nat):Int):=by omega
 have w:=p40 f e;simp only[dm]at w;cases z:nR f e with
 |false=>
  rw[wv fun⟨_,_,_,_,Y⟩=>by have:=Y k D;rw[v,F,z]at this;cases this]
  rw[z]at w;simp[-getElem?_pos,-aae,-ac7,o,p,d,l,t,m,y,c4,c5,u,O,M,N,w]
 |true=>
  rw[z]at w;simp[-getElem?_pos,-aae,-ac7,o,p,d,l,t,m,y,c4,c5,u,O,M,N,w,T];refine⟨k+1+1,by omega,rfl,by omega,L,fun i q W=>?_⟩;by_cases h:i=k
  .subst h;rw[v,F];exact z
  .exact K i q (by omega)
end
section
variable [W]
def Te(H:List Ob)(g:Gr)(e:Edge):aO tz ay 291 [.agg (dm e),.c (.aK [bR g] 0 0)] H=some (aR (mg g e),H):=by have h:=ahb g e;have a:=jX g.bw;simp only[dm,bR]at h|-;simp[h,a]
def xk(g:Gr)(Z:g.bw.length<=1000000000):aS tz ay 0 245 [.agg (bR g)]=some (aa (if fg g=true then 0 else 30),[]):=by
 refine be func245 rfl ?_;simp only[f245,bX];have⟨R,l⟩:=ak (g.bw.map dm);have⟨n,hn⟩:=ak g.bw.length;have b:R.length=n:=by rw[<-l];simpa using hn
 have J:∀j (m:j<g.bw.length),R[j]?=some (dm g.bw[j]):=fun j m=>by rw[<-l,adn,aae m];rfl
 have C:bR g=[I g.n,.aj R]:=by unfold bR;rw[l]
 have D:bA R=true:=by rw[<-l];exact jX _
 have o:=KU (g:=291) (caps:=[.aK [bR g] 0 0]) g.bw (by unfold maxLen;omega) (mg g) (by rw[(show tz.md 291=0 from rfl)];decide) (by rw[C];simp[cw,bD,bA,D]) (jX _) (fun x _=>Te [] g x);rw[l,C]at o;rw[C];refine bp [(1,.c (.aK [[I g.n,.aj R]] 0 0)),(2,aa 0)] (fun G=>G=[]) ?_ ?_
 .simp
 rintro s G⟨a,a2,_⟩rfl;refine bp [(1,.c (.aK [[I g.n,.aj R]] 0 0)),(3,.c (.bG 291 [.aK [[I g.n,.aj R]] 0 0]))] (fun G=>G=[]) ?_ ?_
 .simp[a]
 rintro s G⟨a,K,_⟩rfl;by_cases c:g.n<0\/64<g.n\/400<n
 .rw[wv (by omega)];by_cases c1:g.n<0
  .simp[a,c1]
  by_cases c2:64<g.n
  .simp[a,c1,c2]
  .have c3:(400:Int)<n:=by omega
   simp[a,c1,c2,b,c3]
 have c1:¬g.n<0:=by omega
 have c2:¬64<g.n:=by omega
 have c3:¬(400:Int)<n:=by omega
 cases t:g.bw.any (mg g)with
 |true=>
  rw[t]at o;rw[wv fun⟨_,_,_,Q,_⟩=>by have⟨e,p,L⟩:=akk.1 t;obtain⟨j,m,rfl⟩:=ajU.1 p;rw[Q j m]at L;cases L]
  simp[a,K,c1,c2,c3,b,D,o]
 |false=>
 rw[t]at o;have S:∀i (h:i<g.bw.length),mg g g.bw[i]=false:=fun i q=>by have:=ai4.1 t _ (air q);simpa using this
 refine bp [(1,.c (.aK [[I g.n,.aj R]] 0 0))] (fun G=>G=[]) ?_ ?_
 .simp[a,K,c1,c2,c3,b,D,o]
 rintro s G⟨a,_⟩rfl;rw[iY];refine Ends.sq ?_;refine bp [(1,.c (.aK [[I g.n,.aj R]] 0 0)),(28,aa n),(29,aa (0:Nat))] (fun G=>G=[]) ?_ ?_
 .simp[a,b]
 rintro s G T rfl;rw[eD];refine im (fun j:Nat=>[(1,.c (.aK [[I g.n,.aj R]] 0 0)),(28,aa n),(29,aa j)]) (fun j G=>G=[]/\j<=n/\∀i (h:i+1<g.bw.length),i+1<j->nR (g.bw[i]'(by omega)) g.bw[i+1]=true) (fun j=>n-j) ?_ 0 T ⟨rfl,by omega,fun i _ h=>absurd h (by omega)⟩ fun _=>rfl;rintro j s G ⟨E,v,w,_⟩ ⟨rfl,g2,M⟩;by_cases d:j<n
 case neg=>
  have m:j=n:=by omega
  have U:fg g=true:=(nm g).2 ⟨by omega,by omega,by omega,S,fun i q=>M i q (by omega)⟩;simp[v,w,d,U]
 have N:j<g.bw.length:=by omega
 have V:ads.wrap ((j:Int)+1)=((j+1:Nat):Int):=cr (by omega);by_cases W:j=0
 .subst W;simp[-getElem?_pos,-aae,-ac7,E,v,w,d];exact⟨1,by omega,rfl,by omega,fun i _ h=>absurd h (by omega)⟩
 obtain⟨k,rfl⟩:∃k,j=k+1:=⟨j-1,by omega⟩;have y:=J (k+1) N;have z:=J k (by omega);have⟨e,p⟩:=ak g.bw[k+1];have⟨f,F⟩:=ak (g.bw[k]'(by omega));rw[p]at y;rw[F]at z;simp only[dm]at y z;have O:ads.wrap (((k+1:Nat):Int)-1)=(k:Int):=by rw[fC (by omega) (by omega)];omega
 have P:k<n:=by omega
 have ab:(0:Int)< ((k+1:Nat):Int):=by omega
 have A:=aci f e;have r:=aaG f e;have⟨u,X⟩:=ak (xx f e);rw[X]at A r;simp only[dm]at A;cases B:nR f e with
 |false=>
  rw[wv fun⟨_,_,_,_,Y⟩=>by have:=Y k N;rw[p,F,B]at this;cases this]
  rw[B]at r;have H:0<=u:=by simpa using r
  simp[-getElem?_pos,-aae,-ac7,E,v,w,d,b,y,z,O,P,A,H]
 |true=>
  rw[B]at r;have H:¬0<=u:=by simpa using r
  simp[-getElem?_pos,-aae,-ac7,E,v,w,d,b,y,z,O,P,A,H,V];refine⟨k+1+1,by omega,rfl,by omega,fun i q ad=>?_⟩;by_cases h:i=k
  .subst h;rw[p,F];exact B
  .exact M i q (by omega)
end
def sy(g:Gr)(l:List LA):Bool:=(l.take 101).all (fun x=>decide (x.d.need.length<=20))&&(fg g&&decide (g.n<=5)&&decide (l.length<=100))
def p8(g:Gr)(l:List LA):aS tz ay 0 8 [.agg (bR g),bh (l.map cO)]=some (aR (sy g l),[]):=by
 refine be func8 rfl ?_;simp only[f8,bX];have⟨R,s⟩:=ak (l.map cO);have⟨n,hn⟩:=ak l.length;have a:R.length=n:=by rw[<-s];simpa using hn
 have F:∀j (v:j<l.length),R[j]?=some (cO l[j]):=fun j v=>by rw[<-s,adn,aae v];rfl
 have b:=p26 g;have m:=jX g.bw;have⟨E,w⟩:=ak (g.bw.map dm);have y:bR g=[I g.n,.aj E]:=by unfold bR;rw[w]
 rw[w]at m;rw[s,y];rw[y]at b;refine bp [(2,.c (.aK [[I g.n,.aj E]] 0 0)),(1,bh R)] (fun G=>G=[]) ?_ ?_
 .simp
 rintro z G⟨H,J,_⟩rfl;rw[iY];refine Ends.sq ?_;refine bp [(2,.c (.aK [[I g.n,.aj E]] 0 0)),(1,bh R),(5,aa (0:Nat))] (fun G=>G=[]) ?_ ?_
 .simp[J,H]
 rintro z G K rfl;rw[eD];refine im (fun j:Nat=>[(2,.c (.aK [[I g.n,.aj E]] 0 0)),(1,bh R),(5,aa j)]) (fun j G=>G=[]/\j<=101/\∀i (h:i<l.length),i<j->l[i].d.need.length<=20) (fun j=>101-j) ?_ 0 K ⟨rfl,by omega,fun i _ h=>absurd h (by omega)⟩ fun _=>rfl;rintro j z G ⟨e,f,k,_⟩ ⟨rfl,O,A⟩;by_cases d:j<n/\j<101
 case neg=>
  have L:(l.take 101).all (fun x=>decide (x.d.need.length<=20))=true:=by
   rw[af8];intro x p;obtain⟨i,q,rfl⟩:=ajU.1 p;rw[List.getElem_take];have:i<l.length:=by simp at q;omega
   have:=A i this (by simp at q;omega);simpa using this
  have⟨o,B⟩:=ak (fg g);have t:sy g l=(o&&decide (g.n<=5)&&decide (n<=100)):=by unfold sy;rw[L,B,hn];rfl
  rw[t];rw[B]at b
  have C:decide ((n:Int)<=100)=decide (n<=100):=by
   by_cases h:n<=100
   .rw[decide_eq_true h,decide_eq_true (by omega)]
   .rw[decide_eq_false h,decide_eq_false (by omega)]
  cases o with
  |false=>
   by_cases d1:j<n
   .have d2:¬(j:Int)<101:=by omega
    simp[f,e,k,d1,d2,a,b,m]
   .simp[f,e,k,d1,a,b,m]
  |true=>
   by_cases d5:g.n<=5
   .by_cases d1:j<n
    .have d2:¬(j:Int)<101:=by omega
     simp[f,e,k,d1,d2,a,b,m,d5,C]
    .simp[f,e,k,d1,a,b,m,d5,C]
   .by_cases d1:j<n
    .have d2:¬(j:Int)<101:=by omega
     simp[f,e,k,d1,d2,a,b,m,d5]
    .simp[f,e,k,d1,a,b,m,d5]
 have⟨d1,d2⟩:=d;have D:(j:Int)<101:=by omega
 have M:j<l.length:=by omega
 have r:=F j M;have⟨x,p⟩:=ak l[j];rw[p]at r;simp only[cO,aG]at r;have N:ads.wrap ((j:Int)+1)=((j+1:Nat):Int):=cr (by omega);by_cases c:20<x.d.need.length
 .have t:sy g l=false:=by
   have:(l.take 101).all (fun x=>decide (x.d.need.length<=20))=false:=by rw[List.all_eq_false];refine⟨x,?_,by simp;omega⟩;rw[<-p,ajU];exact⟨j,by simp;omega,by rw[List.getElem_take]⟩
   unfold sy;rw[this];rfl
  rw[t];have u:(20:Int)< (x.d.need.length:Nat):=by omega
  simp[-getElem?_pos,-aae,-ac7,f,e,k,d1,D,a,r,u]
 .have u:¬(20:Int)< (x.d.need.length:Nat):=by omega
  simp[-getElem?_pos,-aae,-ac7,f,e,k,d1,D,a,r,u,N];refine⟨j+1,by omega,rfl,by omega,fun i q P=>?_⟩;by_cases h:i=j
  .subst h;rw[p];omega
  .exact A i q (by omega)
def UP(a:Int)(l m:List Edge):eN a (l++m)=eN a l++eN a m:=by
 induction l with
 |nil=>rfl
 |cons e r b=>
  simp only[ai1,eN];split
  .rw[b];rfl
  .split
   .rw[b];rfl
   .exact b
def GL(a:Int)(l:List Edge):(eN a l).length<=l.length:=by
 induction l with
 |nil=>simp[eN]
 |cons e r b=>
  simp only[eN];split
  .simp;omega
  .split
   .simp;omega
   .simp;omega
def aeT:tz.dH 248=qC:=by kernel_rfl
def zp(l:List (List ab)):rowsOf (.aj l)=some l:=rfl
def DB(l:List Edge):rW (l.map dm)=some l:=by
 induction l with
 |nil=>rfl
 |cons x r a=>simp[rW,dm,a]
def Tf(g:Gr)(b:fg g=true)(a:Int):aS tz ay 0 248 [.agg (bR g),aa a]=some (cy (ee g a)):=by unfold aS ay;rw[iw Ql,aeT];simp[qC,bR,zp,DB,b,cy,bi]
def acw:tz.dG 168=true:=by kernel_rfl
def ac0:tz.dH 168=uQ:=by kernel_rfl
def W8(g:Gr)(a:fg g=true){c:List Int}{k:Nat}(hc:oZ g=some (c,k)):aS tz ay 0 168 [.agg (bR g)]=some (.aM [bd 0 0 0 c.length,aa k,aa 0],[ah 1 (c.map aC)]):=by unfold aS ay;rw[iw acw,ac0];simp[uQ,bR,zp,DB,a,hc,bi]
instance iW8:W:=W2
section
variable{H H':List Ob}{r:au}
def Xj:aO tz ay 114 [.c ap] H=some (bd H.length 0 0 0,H++[ah 1 []]):=by
 have a:aS tz ay 0 114 [.c ap]=some (bd 0 0 0 0,[ah 1 []]):=by unfold aS ay;rw[iw Lu,MG];rfl
 simp[Mq,a]
def T3(g:Gr)(F:fg g=true)(a:Int):aS tz ay 0 248 [.agg (bR g),aa a]=some (cy (ee g a)):=by
 refine be func248 rfl ?_;simp only[f248,bX];have af:=((nm g).1 F).2.2.1;have H:=xk g (by omega);rw[if_pos F]at H;have⟨R,C⟩:=ak (g.bw.map dm);have⟨n,hn⟩:=ak g.bw.length;have t:R.length=n:=by rw[<-C];simpa using hn
 have V:∀j (D:j<g.bw.length),R[j]?=some (dm g.bw[j]):=fun j D=>by rw[<-C,adn,aae D];rfl
 have W:bA R=true:=by rw[<-C];exact jX _
 have X:bR g=[I g.n,.aj R]:=by unfold bR;rw[C]
 rw[X]at H|-;have Y:ee g a=cD (eN a g.bw):=by unfold ee;rw[if_pos F]
 rw[Y];refine bp [(2,.c (.aK [[I g.n,.aj R]] 0 0)),(1,aa a)] (fun G=>G=[]) ?_ ?_
 .simp
 rintro E G⟨y,z,_⟩rfl;refine bp [(2,.c (.aK [[I g.n,.aj R]] 0 0)),(1,aa a)] (fun G=>G=[]) ?_ ?_
 .simp[y,z,H,W]
 rintro E G⟨y,z,_⟩rfl;refine bp [(2,.c (.aK [[I g.n,.aj R]] 0 0)),(1,aa a),(5,.c ap)] (fun G=>G=[]) ?_ ?_
 .simp[y,z]
 rintro E G⟨y,z,Z,_⟩rfl;rw[iY];refine Ends.sq ?_;refine bp [(1,aa a),(12,bh R),(13,aa n),(14,aa (0:Nat)),(5,.c ap)] (fun G=>G=[]) ?_ ?_
 .simp[z,y,Z,t]
 rintro E G g1 rfl;rw[eD];refine im (fun p:Nat×ab=>[(1,aa a),(12,bh R),(13,aa n),(14,aa p.1),(5,.c p.2)]) (fun p G=>p.1<=n/\mZ G p.2 (eN a (g.bw.take p.1))) (fun p=>n-p.1) ?_ (0,ap) g1 ⟨by omega,.inl ⟨rfl,rfl⟩⟩ fun _=>rfl;rintro⟨j,ad⟩ E G ⟨i,k,m,o,e,_⟩ ⟨g2,q⟩;simp only at i k m o e g2 q;by_cases d:j<n
 case neg=>
  have D:g.bw.take j=g.bw:=ach (by omega);rw[D]at q;have J:=GL a g.bw;have M:=bi (cD (eN a g.bw));rcases q with⟨h0,rfl⟩|⟨h,v,N,rfl,b⟩
  .rw[h0];simp[-aD,i,k,m,o,e,d,Xj,cy,cD,gA,du]
  .have hc:=Sp b rfl (by omega);have⟨ag,hL⟩:=ak (eN a g.bw);rw[hL]at b hc e M|-;simp[-aD,i,k,m,o,e,d,hc,cy,M]
 have O:j<g.bw.length:=by omega
 have ah:j<R.length:=by omega
 have r:=V j O;have⟨ae,P⟩:=ak g.bw[j];have⟨u,w⟩:=ae;rw[P]at r;simp only[dm]at r;have A:ads.wrap ((j:Int)+1)=((j+1:Nat):Int):=cr (by omega);have f:eN a (g.bw.take (j+1))=eN a (g.bw.take j)++eN a [⟨u,w⟩]:=by rw[aiB,aae O,P,UP];rfl
 have J:=GL a (g.bw.take j);rw[aiV]at J;have⟨l,hl⟩:=ak (eN a (g.bw.take j));rw[hl]at q f J;have Q:l.length+1<=maxLen:=by unfold maxLen;omega
 have S:(l.length+1)*8<=140737488355328:=by omega
 have T:∀(x:Int) (K:Ob),eN a (g.bw.take (j+1))=[]++[x]->mZ (G++[K,Ob.live 0 1 [[I x]],Ob.live 0 1 [[I x]]]) (.sl (G.length+2) 0 0 1) (eN a (g.bw.take (j+1))):=fun x K s=> .inr ⟨G.length+2,0,by rw[s];simp,by rw[s];rfl,by rw[s,ad8 (by omega),show G.length+2-G.length=2 from by omega];rfl⟩;have U:∀(x:Int) (K:Ob) (h v:Nat),G[h]?=some (.live v 1 (l.map aC))->eN a (g.bw.take (j+1))=l++[x]->mZ ((G++[K,Ob.live 0 1 [[I x]]]).set h (Ob.live (v+1) 1 (l.map aC++[[I x]]))) (.sl h (v+1) 0 (l.length+1)) (eN a (g.bw.take (j+1))):=fun x K h v b s=> .inr ⟨h,v+1,by rw[s];simp,by rw[s];simp,by rw[s,ba (show(G++_)[h]?=some (.live v 1 (l.map aC))by rw[aaK (bf b)];exact b)];simp[aC]⟩;by_cases c1:a=u
 .subst c1;have B:eN a [⟨a,w⟩]=[w]:=by simp[eN]
  rw[B]at f;rcases q with⟨rfl,rfl⟩|⟨h,v,N,rfl,b⟩
  .simp[-getElem?_pos,-aae,-ac7,i,k,m,o,e,d,t,r,A];exact⟨j+1,by omega,_,⟨rfl,rfl⟩,by omega,T _ _ f⟩
  .have L:∀K,(G++K)[h]?=some (.live v 1 (l.map aC)):=fun K=>by rw[aaK (bf b)];exact b
   simp[-getElem?_pos,-aae,-ac7,i,k,m,o,e,d,t,r,A,L,Q,S];exact⟨j+1,by omega,_,⟨rfl,rfl⟩,by omega,U _ _ _ _ b f⟩
 by_cases c2:a=w
 .subst c2;have B:eN a [⟨u,a⟩]=[u]:=by simp[eN,c1]
  rw[B]at f;rcases q with⟨rfl,rfl⟩|⟨h,v,N,rfl,b⟩
  .simp[-getElem?_pos,-aae,-ac7,i,k,m,o,e,d,t,r,c1,A];exact⟨j+1,by omega,_,⟨rfl,rfl⟩,by omega,T _ _ f⟩
  .have L:∀K,(G++K)[h]?=some (.live v 1 (l.map aC)):=fun K=>by rw[aaK (bf b)];exact b
   simp[-getElem?_pos,-aae,-ac7,i,k,m,o,e,d,t,r,c1,A,L,Q,S];exact⟨j+1,by omega,_,⟨rfl,rfl⟩,by omega,U _ _ _ _ b f⟩
 .have B:eN a [⟨u,w⟩]=[]:=by simp[eN,c1,c2]
  rw[B,aeo]at f;simp[-getElem?_pos,-aae,-ac7,i,k,m,o,e,d,t,r,c1,c2,A]
  have g4:mZ (G++[Ob.live 0 2 [[I u,I w]]]) ad (eN a (g.bw.take (j+1))):=by
   rw[f];refine q.aJ fun ai hm=>aaK ?_;rcases q with⟨_,rfl⟩|⟨h,v,_,rfl,b⟩
   .simp[rf]at hm
   .simp[rf]at hm;subst hm;exact bf b
  exact⟨j+1,by omega,_,⟨rfl,rfl⟩,by omega,g4⟩
def DE:∀(rows:List (List ab)) (l:List Edge),rW rows=some l->rows=l.map dm
 |[],l,h=>by simp[rW]at h;subst h;rfl
 |r::e,l,h=>by
  unfold rW at h
  split at h
  .rename_i c;cases c
  .rename_i a b f c
   cases c
   split at h
   .rename_i g d
    cases h
    rw[DE _ _ d]
    rfl
   .cases h
  .cases h
def Ro{P:Program}{f:FuncId}{n:Int}{l:ab}{rows:List (List ab)}(b:rowsOf l=some rows){args:List au}(h:Call P f (.agg [I n,.aj rows]::args) H r H'):Call P f (.agg [I n,l]::args) H r H':=by refine Ot (fun p q a=>?_) h;simp only[bU,aL,aX]at a|-;obtain⟨y,t,rfl,⟨c,rfl,d,t1,e,g,i,t2,j,k,m⟩,o⟩:=a;exact⟨_,t,rfl,⟨c,rfl,d,t1,e,g,i,t2,j,RT b k,m⟩,o⟩
def NS(e:gS tz){c:List au}(h:qC c H=some (r,H')):Call aaD 248 c H r H':=by
 unfold qC at h;split at h
 .rename_i n l a;split at h
  .rename_i rows d;split at h
   .rename_i b f;split at h
    .rename_i g;injection h with h;have i:(cy (ee ⟨n,b⟩ a)).1=r:=by rw[h]
     have j:(cy (ee ⟨n,b⟩ a)).2=H':=by rw[h]
     subst i j;rw[DE _ _ f]at d;refine Ro d (o9 e ?_);have:=T3 ⟨n,b⟩ g a;simp only[bR]at this;simp[this,cy,bi,jX]
    .cases h
   .cases h
  .cases h
 .cases h
end
instance iW9:W:=W1
section
variable{c:List Int}{g:Gr}{n:Nat}
def Iq:∀(n:Nat) (k:Int) (l:List Int),(∀i:Nat,i<n->k+i∈l)->n<=l.length
 |0,_,_,_=>akb _
 |n+1,k,l,h=>by
  have a:=h n (by omega)
  have b:=Iq n k (l.erase (k+n)) fun i c=>by
   rw[List.mem_erase_of_ne (by omega)]
   exact h i (by omega)
  rw[List.length_erase_of_mem a]at b
  have:=List.length_pos_of_mem a
  omega
def zt(l:List Int):∀(n:Nat) (k:Int),k<=mW l n k
 |0,k=>aj5 _
 |n+1,k=>by
  unfold mW
  split
  .have:=zt l n (k+1);omega
  .exact aj5 _
def OC(l:List Int):∀(n:Nat) (k:Int),mW l n k∈l->∀i:Nat,i<=n->k+i∈l
 |0,k,h,i,b=>by
  have:i=0:=by omega
  subst this
  simpa[mW]using h
 |n+1,k,h,i,b=>by
  unfold mW at h
  split at h
  .rename_i a
   cases i with
   |zero=>simpa using a
   |succ i=>
    have:=OC l n (k+1) h i (by omega)
    rw[show k+((i+1:Nat):Int)=k+1+(i:Int)from by omega]
    exact this
  .rename_i a
   exact absurd h a
def Zb(l:List Int)(n:Nat)(k:Int)(h:l.length<=n):¬mW l n k∈l:=fun hm=>by have:=Iq (n+1) k l fun i a=>OC l n k hm i (by omega);omega
def PJ{a b:Int}:∀ {l:List Edge},b∈eN a l↔ ∃e∈l,(a=e.a/\b=e.b)\/(a≠e.a/\a=e.b/\b=e.a)
 |[]=>by simp[eN]
 |e::r=>by
  have i:=@PJ a b r
  unfold eN
  by_cases d:a=e.a
  .rw[if_pos d]
   simp only[ae3,i]
   constructor
   .rintro (h|⟨f,c,h⟩)
    .exact ⟨e,.inl rfl,.inl ⟨d,h⟩⟩
    .exact ⟨f,.inr c,h⟩
   .rintro⟨f,rfl|c,h⟩
    .rcases h with⟨_,h⟩|⟨h,_⟩
     .exact .inl h
     .exact absurd d h
    .exact .inr ⟨f,c,h⟩
  rw[if_neg d]
  by_cases g:a=e.b
  .rw[if_pos g]
   simp only[ae3,i]
   constructor
   .rintro (h|⟨f,c,h⟩)
    .exact ⟨e,.inl rfl,.inr ⟨d,g,h⟩⟩
    .exact ⟨f,.inr c,h⟩
   .rintro⟨f,rfl|c,h⟩
    .rcases h with⟨h,_⟩|⟨_,_,h⟩
     .exact absurd h d
     .exact .inl h
    .exact .inr ⟨f,c,h⟩
  .rw[if_neg g,i]
   simp only[ae3]
   constructor
   .rintro⟨f,c,h⟩;exact⟨f,.inr c,h⟩
   .rintro⟨f,rfl|c,h⟩
    .rcases h with⟨h,_⟩|⟨_,h,_⟩
     .exact absurd h d
     .exact absurd h g
    .exact ⟨f,c,h⟩
structure qH(g:Gr)(n:Nat):Prop where
 n:g.n=(n:Int)
 e:∀e∈g.bw,0<=e.a/\e.a<e.b/\e.b<g.n
 m:∀a b,b∈ee g a↔ ∃e∈g.bw,(a=e.a/\b=e.b)\/(a≠e.a/\a=e.b/\b=e.a)
 s:∀a,ei (ee g a)=true
def pr{b:Nat}(h:b<c.length):bC c (b:Int)=c[b]:=by unfold bC;rw[aim,ae9,aae h];rfl
structure zI(g:Gr)(n k:Nat)(c:List Int):Prop where
 l:c.length=n
 nn:∀i:Nat,i<n->0<=bC c i
 z:∀i:Nat,n<=i+k->i<n->bC c i≠0
 p:∀e∈g.bw,bC c e.a≠0->bC c e.b≠0->bC c e.a≠bC c e.b
def uB(a:qH g n)(i:Nat)(b:i<n):bC (iV g c) (i:Int)=ku g c i:=by unfold bC iV;rw[ae9,adn,aim,a.n,aim,ajA b];rfl
def wq{i:Nat}(h:bC c i≠0):ku g c i=bC c i:=by unfold ku;simp only;rw[if_pos (.inl h)]
def Vf{k:Nat}(d:qH g n)(h:zI g n k c):zI g n (k+1) (iV g c):=by
 have ne:∀i:Nat,i<n->bC (iV g c) i≠0->bC c i=0->(∀b∈ee g i, ¬(bC c b=0/\b>(i:Int)))/\ ¬bC (iV g c) i∈(ee g i).map (bC c):=fun i r hn q=>by
  rw[uB d i r]at hn|-;unfold ku at hn|-;simp only at hn|-;by_cases hc:bC c i≠0\/((ee g i).any fun b=>decide (bC c b=0)&&decide (b>(i:Int)))=true
  .rw[if_pos hc]at hn;exact absurd q hn
  .rw[if_neg hc];refine⟨fun b l f=>hc (.inr ?_),Zb _ _ _ (by simp)⟩;rw[akk];exact⟨b,l,by simp[f.1,f.2]⟩
 refine⟨by unfold iV;rw[d.n];simp,fun i r=>?_,fun i J E=>?_,fun e j B l=>?_⟩
 .rw[uB d i r];unfold ku;simp only;split
  .exact h.nn i r
  .have:=zt ((ee g i).map (bC c)) ((ee g i).length+1) 1;omega
 .rw[uB d i E];by_cases q:bC c i=0
  .unfold ku;simp only;rw[if_neg]
   .have:=zt ((ee g i).map (bC c)) ((ee g i).length+1) 1;omega
   .rintro (f|f)
    .exact f q
    .rw[akk]at f;have⟨b,l,f⟩:=f;simp only[aa2,decide_eq_true_eq]at f;have⟨e,j,F⟩:=(d.m _ _).1 l;have G:=d.e e j;have H:=d.n;have K:b<n:=by rcases F with⟨_,h⟩|⟨_,_,h⟩<;>omega
     have:=h.z b.toNat (by omega) (by omega);rw[show((b.toNat:Nat):Int)=b from by omega]at this;exact this f.1
  .rw[wq q];exact q
 .have G:=d.e e j;have H:=d.n;obtain⟨x,t⟩:∃x:Nat,e.a=x:=⟨e.a.toNat,by omega⟩;obtain⟨y,u⟩:∃y:Nat,e.b=y:=⟨e.b.toNat,by omega⟩;have p:=h.p e j;have C:(y:Int)∈ee g x:=(d.m _ _).2 ⟨e,j,.inl ⟨t.symm,u.symm⟩⟩;have I:(x:Int)∈ee g y:=(d.m _ _).2 ⟨e,j,.inr ⟨by omega,u.symm,t.symm⟩⟩;simp only[t,u]at B l p|-;have v:x<n:=by omega
  have w:y<n:=by omega
  by_cases s:bC c x=0
  .have ⟨D,A⟩:=ne x v B s;by_cases o:bC c y=0
   .exact absurd ⟨o,by omega⟩ (D y C)
   .intro j;refine A ?_;rw[j,uB d y w,wq o];exact akm C
  .by_cases o:bC c y=0
   .have ⟨D,A⟩:=ne y w l o;intro j;refine A ?_;rw[<-j,uB d x v,wq s];exact akm I
   .rw[uB d x v,uB d y w,wq s,wq o];exact p s o
def SC{g:Gr}{n:Nat}(o:qH g n):∀(m k:Nat) (c:List Int) (t:Nat),zI g n k c->m+k=n+1->k<=n->∃f w,sO g m c t=some (f,w)/\f.length=n/\(∀i:Nat,i<n->1<=bC f i)/\∀e∈g.bw,bC f e.a≠bC f e.b
 |0,k,c,t,h,hm,r=>by omega
 |m+1,k,c,t,h,hm,y=>by
  unfold sO
  by_cases q:(0:Int)∈c
  .rw[if_pos q]
   have⟨i,d,e⟩:=ajU.1 q
   have x:i<n:=by rw[<-h.l];exact d
   have:=pr d
   rw[e]at this
   have r:¬n<=i+k:=fun r=>h.z i r x this
   exact SC o m (k+1) _ _ (Vf o h) (by omega) (by omega)
  .rw[if_neg q]
   have s:∀i:Nat,i<n->bC c i≠0:=fun i d j=>q (by
    rw[pr (by rw[h.l];exact d)]at j
    rw[<-j];exact air _)
   refine⟨c,t,rfl,h.l,fun i d=>?_,fun e j=>?_⟩
   .have:=s i d;have:=h.nn i d;omega
   .have A:=o.e e j
    have B:=o.n
    have u:=s e.a.toNat (by omega)
    have v:=s e.b.toNat (by omega)
    rw[show((e.a.toNat:Nat):Int)=e.a from by omega]at u
    rw[show((e.b.toNat:Nat):Int)=e.b from by omega]at v
    exact h.p e j u v
def TT(d:qH g n):∃c t,oZ g=some (c,t)/\c.length=n/\(∀i:Nat,i<n->1<=bC c i)/\∀e∈g.bw,bC c e.a≠bC c e.b:=by
 have j:zI g n 0 (ago n 0):=by
  have f:∀i:Int,bC (ago n 0) i=0:=fun i=>by unfold bC;rw[ae9,List.getElem?_replicate];split<;>rfl
  exact⟨by simp,fun i _=>by rw[f];exact aj5 _,fun i k l=>absurd k (by omega),fun e _ h=>absurd (f _) h⟩
 unfold oZ;rw[show g.n.toNat=n from by rw[d.n];rfl];exact SC d (n+1) 0 _ 0 j rfl (akb _)
def vS(h:fg g=true):qH g g.n.toNat:=by
 have c:∀e∈g.bw,0<=e.a/\e.a<e.b/\e.b<g.n:=fun e d=>by unfold fg at h;simp only[aa2,afj,ai4]at h;have:=h.1.2 e d;simp only[ai3,decide_eq_true_eq,not_or]at this;omega
 have hn:0<=g.n:=by unfold fg at h;simp only[aa2,afj,decide_eq_false_iff_not]at h;omega
 refine⟨by omega,c,fun a b=>?_,fun a=>?_⟩
 .unfold ee;rw[if_pos h,wh,PJ]
 .unfold ee;rw[if_pos h];exact Pl _
def iD(c:List Int)(i:Int)(b:Int):aI:=⟨b,1,0,decide (bC c i>bC c b),decide (bC c i>bC c b),!decide (bC c i>bC c b),decide (bC c i>bC c b),!decide (bC c i>bC c b)⟩
def dA(g:Gr)(c:List Int)(i:Nat):cP:=⟨i,0,(ee g i).map (iD c i)⟩
def pZ(g:Gr)(c:List Int)(i:Nat):Dr:=⟨dA g c i,0,[]⟩
def iM(g:Gr)(c:List Int)(i:Nat):Nd:=kj (pZ g c i)
def M7:∀ {l:List Int},ei l=true->l.Pairwise (· < ·)
 |[],_=> .nil
 |[x],_=>by simp
 |x::y::r,h=>by
  have a:(decide (x<y)&&ei (y::r))=true:=h
  simp only[aa2,decide_eq_true_eq]at a
  have c:=M7 a.2
  refine af7.2 ⟨fun z b=>?_,c⟩
  rcases ae3.1 b with rfl|b
  .exact a.1
  .have:=(af7.1 c).1 z b;omega
def Oz(c:List Int)(i:Int):∀(l:List Int) (a:Int),l.Pairwise (· < ·)->(∀b∈l,a<b/\b≠i)->dU i a (l.map (iD c i))=true
 |[],_,_,_=>rfl
 |b::r,a,hp,h=>by
  have d:=af7.1 hp
  have e:=h b (ajv ..)
  simp only[afL,dU,aa2]
  refine⟨?_,Oz c i r b d.2 fun x f=>⟨d.1 x f,(h x (aiI _ f)).2⟩⟩
  simp[cR,iD,e.1,e.2]
def NO(c:List Int)(i:Int):∀(l:List Int) (a:Int),l.Pairwise (· < ·)->(∀b∈l,a<b/\b<64)->nq a ((l.map (iD c i)).map fun x=>⟨x.peer,x.aP⟩)=true
 |[],_,_,_=>rfl
 |b::r,a,hp,h=>by
  have d:=af7.1 hp
  have e:=h b (ajv ..)
  simp only[afL,nq,aa2]
  refine⟨?_,NO c i r b d.2 fun x f=>⟨d.1 x f,(h x (aiI _ f)).2⟩⟩
  simp[iD,e.1,e.2]
def Mx(c:List Int)(i b:Int):∀(l:List Int),b∈l->gR ((l.map (iD c i)).map fun x=>⟨x.peer,x.aP⟩) b=1
 |x::r,h=>by
  simp only[afL,gR,iD]
  split
  .rfl
  .rename_i a
   rcases ae3.1 h with rfl|h
   .exact absurd rfl a
   .exact Mx c i b r h
def F2{i:Nat}(a:qH g n)(k:i<n):∀b∈ee g i,0<=b/\b<n/\b≠i:=fun b c=>by have⟨e,d,h⟩:=(a.m _ _).1 c;have:=a.e e d;have:=a.n;rcases h with⟨f,j⟩|⟨_,f,j⟩<;>omega
def Iu(e:qH g n)(hn:n<=64)(c:List Int){i:Nat}(m:i<n):dv (iM g c i)=true/\(pZ g c i).ai.af.length<=100:=by
 have a:=F2 e m;have hp:=M7 (e.s i);have f:=Oz c i (ee g i) (-1) hp fun b h=>⟨by have:=a b h;omega,(a b h).2.2⟩;have o:=NO c i (ee g i) (-1) hp fun b h=>by have:=a b h;omega
 have j:∀x∈(ee g i).map (iD c i),x.peer<64:=fun x d=>by obtain⟨b,h,rfl⟩:=aiE.1 d;have:=a b h;show b<64;omega
 have q:=xy (id:=(i:Int)) (by omega) f j (aj5 _) (by omega);have r:((ee g i).map (iD c i)).length<64:=by rw[if_pos (by omega)]at q;omega
 refine⟨?_,by show((ee g i).map (iD c i)).length<=100;omega⟩;have d1:eA (dA g c i)=true:=jA.2 ⟨by show(0:Int)<=(i:Int);omega,aj5 _,(show(0:Int)<=2 by omega),r,f⟩;have d2:dE (pZ g c i)=true:=by rw[iq];refine⟨d1,aj5 _,(show(0:Int)<=2 by omega),rfl,fun _=>rfl,fun p hp=>absurd hp (by simp[pZ])⟩
 have d3:rM (iM g c i)=true:=by
  unfold rM;have k:(iM g c i).known=((ee g i).map (iD c i)).map fun x=>⟨x.peer,x.aP⟩:=rfl;have t:(iM g c i).af=(ee g i).map (iD c i):=rfl;have u:(iM g c i).id=(i:Int):=rfl;have v:(iM g c i).told=[]:=rfl;have w:((iM g c i).af.any (lO (iM g c i)))=false:=by rw[t,ai4];intro x d;have y:=j x d;obtain⟨b,h,rfl⟩:=aiE.1 d;have z:=Mx c i b _ h;unfold lO;rw[k];have l:(iD c i b).peer=b:=rfl;have A:(iD c i b).aP=1:=rfl;have B:(iD c i b).state=0:=rfl;rw[l]at y;rw[l,A,B,z];simp;omega
  rw[w,k,u,v,o];simp[ld,gH,cD,gA,du,ei];omega
 unfold dv;have d4:pj (iM g c i)=true:=by unfold pj;rw[d3];have:(iM g c i).asked=[]:=rfl;rw[this];rfl
 have d5:(iM g c i).dr=pZ g c i:=rfl;rw[d5,d2,d4];rfl
end
instance iW10:W:=W3
section
variable{c:List Int}{b:Int}{g:Gr}{n:Nat}
def agT:tz.dG 248=true:=by kernel_rfl
def ag8:tz.dH 248=qC:=by kernel_rfl
def aeW:tz.dG 45=true:=by kernel_rfl
def ado:tz.dH 45=fO 1:=by kernel_rfl
def agi:tz.md 45=0:=by kernel_rfl
def UJ(x:Int):aO tz ay 294 [aa x] []=some (aR (decide (x<0)),[]):=by
 have h:aS tz ay 0 294 [aa x]=some (aR (decide (x<0)),[]):=by refine be func294 rfl ?_;simp[f294]
 simp[h]
def Yq{a:Int}(l:0<=b)(m:b<c.length):aO tz ay 295 [aa b,.c (.aK [[.aj (c.map aC)]] 0 0),.c (.aK [[I a]] 0 0)] []=some (aR (decide (bC c b=0)&&decide (b>a)),[]):=by
 obtain⟨n,rfl⟩:∃n:Nat,b=n:=⟨b.toNat,by omega⟩;have hn:n<c.length:=by omega
 have j:bC c (n:Int)=c[n]:=pr hn;have f:=bi c;have e:(c.map aC)[n]?=some [I c[n]]:=by rw[adn,aae hn];rfl
 rw[j];have⟨x,k⟩:=ak c[n];rw[k]at e|-;have⟨C,g⟩:=ak (c.map aC);have i:n<C.length:=by rw[<-g];simpa using hn
 rw[g]at e f|-
 have h:aS tz ay 0 295 [aa n,.c (.aK [[.aj C]] 0 0),.c (.aK [[I a]] 0 0)]=some (aR (decide (x=0)&&decide ((n:Int)>a)),[]):=by
  refine be func295 rfl ?_;by_cases d:x=0
  .subst d;simp[-getElem?_pos,-aae,f295,e,i]
  .simp[-getElem?_pos,-aae,f295,e,i,d]
 simp[h,f]
def Zs{o:List Int}{a:Nat}(s:0<=b)(t:b<c.length)(f:a<o.length):aO tz ay 296 [aa b,.c (.aK [[.aj (c.map aC)]] 0 0),.c (.aK [[.aj (o.map aC)]] 0 0),.c (.aK [[I a]] 0 0)] []=some (aR (decide (bC c b=o[a])),[]):=by
 obtain⟨n,rfl⟩:∃n:Nat,b=n:=⟨b.toNat,by omega⟩;have hn:n<c.length:=by omega
 have l:bC c (n:Int)=c[n]:=pr hn;have g:=bi c;have i:=bi o;have d:(c.map aC)[n]?=some [I c[n]]:=by rw[adn,aae hn];rfl
 have e:(o.map aC)[a]?=some [I o[a]]:=by rw[adn,aae f];rfl
 rw[l];have⟨x,m⟩:=ak c[n];have⟨y,p⟩:=ak o[a];rw[m]at d|-;rw[p]at e|-;have⟨C,j⟩:=ak (c.map aC);have q:n<C.length:=by rw[<-j];simpa using hn
 have⟨O,k⟩:=ak (o.map aC);have r:a<O.length:=by rw[<-k];simpa using f
 rw[j]at d g|-;rw[k]at e i|-;have h:aS tz ay 0 296 [aa n,.c (.aK [[.aj C]] 0 0),.c (.aK [[.aj O]] 0 0),.c (.aK [[I a]] 0 0)]=some (aR (decide (x=y)),[]):=by refine be func296 rfl ?_;simp[-getElem?_pos,-aae,f296,d,q,e,r]
 simp[h,g,i]
def Oc(l:List Int):∀(n k:Nat) (s:Int),(∀i:Nat,i<k->s+i∈l)-> ¬s+k∈l->k<=n->mW l n s=s+k
 |0,k,s,a,b,c=>by
  have:k=0:=by omega
  subst this
  simp[mW]
 |n+1,0,s,a,b,c=>by
  unfold mW
  rw[if_neg (by simpa using b)]
  simp
 |n+1,k+1,s,a,b,c=>by
  unfold mW
  rw[if_pos (by simpa using a 0 (by omega)),Oc l n k (s+1) (fun i d=>by
   have:=a (i+1) (by omega)
   rwa [show s+1+(i:Int)=s+((i+1:Nat):Int)from by omega]) (by rwa [show s+1+(k:Int)=s+((k+1:Nat):Int)from by omega]) (by omega)]
  omega
def nH(g:Gr)(n:Nat)(c:List Int)(i:Nat):List Int:=(aiT n).map fun j=>if j<i then ku g c j else bC c j
def wK(g:Gr)(n:Nat)(c:List Int)(i:Nat):(nH g n c i).length=n:=by simp[nH]
def AL{i j:Nat}(h:j<n):(nH g n c i)[j]?=some (if j<i then ku g c j else bC c j):=by unfold nH;rw[adn,ajA h];rfl
def abe(h:c.length=n):nH g n c 0=c:=by
 apply ajr;intro j;by_cases a:j<n
 .rw[AL a,if_neg (by omega),aae (by omega),pr (by omega)]
 .rw[aiz (by rw[wK];omega),aiz (by omega)]
def TN(h:g.n=n):nH g n c n=iV g c:=by unfold nH iV;rw[h,aim];apply ajm;intro j a;rw[if_pos (alu.1 a)]
def agM{i:Nat}(h:i<n):nH g n c (i+1)=(nH g n c i).set i (ku g c i):=by
 apply ajr;intro j;by_cases a:j<n
 .rw[AL a];by_cases e:i=j
  .subst e;rw[afN (by rw[wK];exact h),if_pos (by omega)]
  .rw[aay e,AL a];congr 1
   by_cases q:j<i
   .rw[if_pos (by omega),if_pos q]
   .rw[if_neg (by omega),if_neg q]
 .rw[aiz (by rw[wK];omega),aiz (by rw[aiJ,wK];omega)]
def ag5(c:fg g=true)(a:Int)(H:List Ob):aO tz ay 248 [.agg (bR g),aa a] H=some (bd H.length 0 0 (ee g a).length,H++[ah 1 ((ee g a).map aC)]):=by
 have b:aS tz ay 0 248 [.agg (bR g),aa a]=some (cy (ee g a)):=by unfold aS ay;rw[iw agT,ag8];simp[qC,bR,zp,DB,c,cy,bi]
 have d:=jX g.bw;have e:=bi (ee g a);simp only[bR]at b|-;simp[b,d,e,cy]
def Yz(hc:c.length<=1000000)(H:List Ob):aO tz ay 45 [bh (c.map aC)] H=some (bd H.length 0 0 c.length,H++[ah 1 (c.map aC)]):=by
 have a:=bi c;have b:aS tz ay 0 45 [bh (c.map aC)]=some (bd 0 0 0 c.length,[ah 1 (c.map aC)]):=by unfold aS ay;rw[iw aeW,ado];have d:=vn aC 1 (fun _=>rfl) c;simp[fO,zp,d,a,hc]
 simp[agi,b,a]
end
def Z5{g:Gr}{n:Nat}{c:List Int}(Y:fg g=true)(hn:g.n=n)(hc:c.length=n)(hp:∀x∈c,0<=x):aS tz ay 0 246 [.agg (bR g),bh (c.map aC)]=some (.aM [bd 0 0 0 n,aa 0],[ah 1 ((iV g c).map aC)]):=by
 refine be func246 rfl ?_;simp only[f246,bX];have hI:=vS Y;rw[hn,aim]at hI;have⟨q1,q2,q3,q4,q5⟩:=(nm g).1 Y;have bq:n<=64:=by omega
 have ap:=xk g (by omega);rw[if_pos Y]at ap;have aI:=fun a aq=>ag5 Y a aq;have ar:=fun aq=>Yz (c:=c) (by omega) aq;have au:=ww (g:=294) (caps:=[]) c (by unfold maxLen;omega) (fun x=>decide (x<0)) (by rw[(show tz.md 294=0 from rfl)];decide) rfl (bi c) (fun x _=>UJ x);have a0:(c.any fun x=>decide (x<0))=false:=by rw[ai4];intro x hx;have:=hp x hx;simp;omega
 rw[a0]at au;have M:=bi c;have aJ:=jX g.bw;have⟨R,hR⟩:=ak (g.bw.map dm);have H:bR g=[I n,.aj R]:=by unfold bR;rw[hn,hR]
 rw[hR]at aJ;rw[H]at ap aI|-;have aL:(c.map aC).length=n:=by simpa using hc
 refine bp [(2,.c (.aK [[I n,.aj R]] 0 0)),(3,.c (.aK [[.aj (c.map aC)]] 0 0))] (fun G=>G=[]) ?_ ?_
 .simp
 rintro s G⟨J,B,_⟩rfl;have⟨C,Z⟩:=ak (c.map aC);rw[Z]at B M aL au ar;rw[hc]at ar;refine bp [(2,.c (.aK [[I n,.aj R]] 0 0)),(3,.c (.aK [[.aj C]] 0 0))] (fun G=>G=[]) ?_ ?_
 .simp[J,B,ap,aJ]
 rintro s G⟨J,B,_⟩rfl;refine bp [(2,.c (.aK [[I n,.aj R]] 0 0)),(3,.c (.aK [[.aj C]] 0 0))] (fun G=>G=[]) ?_ ?_
 .simp[J,B,aL,au,M]
 rintro s G⟨J,B,_⟩rfl;refine bp [(2,.c (.aK [[I n,.aj R]] 0 0)),(3,.c (.aK [[.aj C]] 0 0)),(7,aw 1)] (fun G=>G=[ah 1 C,ah 1 [[.sl 0 0 0 n]]]) ?_ ?_
 .simp[-aD,J,B,ar]
 rintro s G⟨J,B,a7,_⟩rfl;refine bp [(7,aw 1)] (fun G=>G[0]?=some (ah 1 ((iV g c).map aC))/\G[1]?=some (ah 1 [[.sl 0 0 0 n]])) ?_ ?_
 .refine ef (fun S=>Has S.env [(2,.c (.aK [[I n,.aj R]] 0 0)),(3,.c (.aK [[.aj C]] 0 0)),(7,aw 1),(27,aa n),(28,aa (0:Nat))]/\S.bH=[]/\S.heap=[ah 1 C,ah 1 [[.sl 0 0 0 n]]]) ?_ ?_
  .simp[J,B,a7]
  rintro⟨s,G,u⟩⟨e,rfl,rfl⟩;simp only at e;rw[eD];refine Ends.bl (gO (fun i:Nat=>[(2,.c (.aK [[I n,.aj R]] 0 0)),(3,.c (.aK [[.aj C]] 0 0)),(7,aw 1),(27,aa n),(28,aa i)]) (fun i G=>i<=n/\G[0]?=some (ah 1 ((nH g n c i).map aC))/\G[1]?=some (ah 1 [[.sl 0 0 0 n]])) [] (fun i=>n-i) _ [2,3,7,27,28] (fun _=>rfl) ?_ 0 _ e ⟨by omega,by rw[abe hc,Z];rfl,rfl⟩ rfl);rintro i ⟨s,G,u⟩ e ⟨i0,Q,af⟩ g5;simp only at e i0 Q af g5;subst g5;simp at e;have⟨f,h,j,l,p⟩:=e;by_cases d:i<n
  case neg=>
   have hi:i=n:=by omega
   rw[hi,TN hn]at Q;simp[-getElem?_pos,-aae,f,h,j,l,p,d,Q,af]
  refine ef (fun S=>Has S.env [(2,.c (.aK [[I n,.aj R]] 0 0)),(3,.c (.aK [[.aj C]] 0 0)),(7,aw 1),(27,aa n),(28,aa i),(29,aR true)]/\S.bH=[]/\S.heap=G) ?_ ?_
  .simp[f,h,j,l,p,d]
  rintro⟨s,T,u⟩⟨e,rfl,H⟩;simp only at e H;obtain rfl:G=T:=H.symm;simp at e;have⟨f,h,j,l,p,a1⟩:=e;refine ef (fun S=>Has S.env [(2,.c (.aK [[I n,.aj R]] 0 0)),(3,.c (.aK [[.aj C]] 0 0)),(7,aw 1),(27,aa n),(28,aa i)]/\S.bH=[]/\S.heap=G) ?_ ?_
  .simp[f,h,j,l,p,a1]
  rintro⟨s,T,u⟩⟨e,rfl,H⟩;simp only at e H;obtain rfl:G=T:=H.symm;simp at e;have⟨f,h,j,l,p⟩:=e;have hw:ads.wrap ((i:Int)+1)=((i+1:Nat):Int):=cr (by omega);refine ef (fun S=>Has S.env [(2,.c (.aK [[I n,.aj R]] 0 0)),(3,.c (.aK [[.aj C]] 0 0)),(7,aw 1),(27,aa n),(28,aa i)]/\S.bH=[]/\S.heap[0]?=some (ah 1 ((nH g n c (i+1)).map aC))/\S.heap[1]?=some (ah 1 [[.sl 0 0 0 n]])) ?_ ?_
  case refine_2=>rintro⟨s,T,u⟩ ⟨e,rfl,D,v⟩;simp only at e D v;simp at e;have⟨f,h,j,l,p⟩:=e;simp[-getElem?_pos,-aae,-ac7,f,h,j,l,p,hw];exact⟨i+1,by omega,rfl,by omega,D,v⟩
  rw[eD];refine Ends.bl ?_;have l0:=bf Q;have l1:=bf af;have⟨N,hN⟩:=ak G.length;have⟨r,ab⟩:=ak (ee g (i:Int));have⟨O,hO⟩:=ak (nH g n c i);have a2:O.length=n:=by rw[<-hO];exact wK ..
  have av:O[i]?=some (bC c i):=by rw[<-hO,AL d,if_neg (by omega)]
  have a3:bC c (i:Int)=c[i]'(by omega):=pr (by omega);have ax:C[i]?=some [I (bC c i)]:=by rw[<-Z,adn,aae (by omega),a3];rfl
  have ag:∀b∈r,0<=b/\b<n/\b≠i:=fun b E=>by rw[<-ab]at E;exact F2 hI d b E
  have a4:r.length<=400:=by rw[<-ab];unfold ee;rw[if_pos Y];have v:=EF (eN i g.bw);have L:=GL i g.bw;omega
  have aN:=aI (i:Int);rw[ab]at aN;rw[hO]at Q;have ad:nH g n c (i+1)=O.set i (ku g c i):=by rw[agM d,hO]
  have t0:∀K,(G++K)[0]?=some (ah 1 (O.map aC)):=fun K=>by rw[aaK l0];exact Q
  have t1:∀K,(G++K)[1]?=some (ah 1 [[.sl 0 0 0 n]]):=fun K=>by rw[aaK l1];exact af
  have tN:∀x K,(G++x::K)[N]?=some x:=fun x K=>by rw[ad8 (by omega),hN,ajx];rfl
  have a5:∀x y K,(G++x::y::K)[N+1]?=some y:=fun x y K=>by rw[ad8 (by omega),hN,akv];rfl
  have sN:∀x y,(G++[x]).set N y=G++[y]:=fun x y=>by rw[ai9 _ _ (by omega),hN,ajx];rfl
  refine ef (fun S=>Has S.env [(2,.c (.aK [[I n,.aj R]] 0 0)),(3,.c (.aK [[.aj C]] 0 0)),(7,aw 1),(27,aa n),(28,aa i),(8,aw N)]/\S.bH=[]/\S.heap=G++[ah 1 [[I i]]]) ?_ ?_
  .simp[-getElem?_pos,-aae,f,h,j,l,p,hN,tN,sN]
  rintro⟨s,G1,u⟩⟨e,rfl,az⟩;simp only at e az;simp at e;have⟨f,h,j,l,p,t⟩:=e;refine ef (fun S=>Has S.env [(2,.c (.aK [[I n,.aj R]] 0 0)),(3,.c (.aK [[.aj C]] 0 0)),(7,aw 1),(27,aa n),(28,aa i),(8,aw N),(9,bd (N+1) 0 0 r.length)]/\S.bH=[]/\S.heap=G++[ah 1 [[I i]],ah 1 (r.map aC)]) ?_ ?_
  .simp[-aD,-getElem?_pos,-aae,f,h,j,l,p,t,az,tN,aN,hN]
  clear az;rintro⟨s,w,u⟩ ⟨e,rfl,U⟩;simp only at e U;simp at e;have⟨f,h,j,l,p,t,z⟩:=e;have D:w[0]?=some (ah 1 (O.map aC)):=by rw[U];exact t0 _
  have v:w[1]?=some (ah 1 [[.sl 0 0 0 n]]):=by rw[U];exact t1 _
  have L:w[N]?=some (ah 1 [[I i]]):=by rw[U];exact tN _ _
  have h3:w[N+1]?=some (ah 1 (r.map aC)):=by rw[U];exact a5 _ _ _
  have br:2<=N:=by omega
  clear U;have aA:=ww (g:=295) (caps:=[.aK [[.aj C]] 0 0,.aK [[I i]] 0 0]) r (by unfold maxLen;omega) (fun b=>decide (bC c b=0)&&decide (b>(i:Int))) (by rw[(show tz.md 295=0 from rfl)];decide) (by simp[cw,bD,bA,M]) (bi r) (fun b E=>by have:=Yq (c:=c) (a:=i) (ag b E).1 (by rw[hc];exact(ag b E).2.1);rw[Z]at this;exact this)
  have aB:=bi r;have ai:(r.map aC).length=r.length:=ahL ..;have⟨al,hL⟩:=ak (r.map aC);have⟨m,hm⟩:=ak r.length;rw[hL]at h3 aA aB ai;rw[hm]at z ai a4;have aP:al.take m=al:=ach (by omega);have bs:(((i:Int)).toNat)=i:=by omega
  have iC:i<C.length:=by omega
  by_cases V:bC c i=0
  case neg=>have ae:ku g c i=bC c i:=wq V;have aE:O.set i (bC c i)=O:=lP av;rw[ae,aE]at ad;rw[ad];simp[-getElem?_pos,-aae,f,h,j,l,p,t,z,D,v,L,h3,ax,iC,V]
  have⟨an,aF⟩:=ak (r.any fun b=>decide (bC c b=0)&&decide (b>(i:Int)));rw[aF]at aA;have aQ:aO tz ay 152 [bd (N+1) 0 0 m,.c (.bG 295 [.aK [[.aj C]] 0 0,.ptr N 0 0 0])] w=some (aR an,w):=by simp[-getElem?_pos,-aae,L,h3,ai,aP,aB,M,aA]
  cases an with
  |true=>
   have ae:ku g c i=bC c i:=by unfold ku;simp only[ab];rw[if_pos (.inr aF)]
   have aE:O.set i (bC c i)=O:=lP av;rw[ae,aE]at ad;rw[ad];simp[-aD,-getElem?_pos,-aae,f,h,j,l,p,t,z,D,v,L,ax,iC,V,aQ]
  |false=>
  have⟨F,aG⟩:=ak (r.map (bC c));have bt:F.length=m:=by rw[<-aG];simpa using hm
  have ae:ku g c i=mW F (m+1) 1:=by unfold ku;simp only[ab];rw[if_neg (by rw[aF];simp[V]),aG,hm]
  refine ef (fun S=>Has S.env [(2,.c (.aK [[I n,.aj R]] 0 0)),(3,.c (.aK [[.aj C]] 0 0)),(7,aw 1),(27,aa n),(28,aa i),(8,aw N),(9,bd (N+1) 0 0 m)]/\S.bH=[]/\S.heap=w) ?_ ?_
  .simp[-aD,-getElem?_pos,-aae,f,h,j,l,p,t,z,D,v,L,ax,iC,V,aQ]
  rintro⟨s,T,u⟩⟨e,rfl,aT⟩;simp only at e aT;obtain rfl:w=T:=aT.symm;simp at e;have⟨f,h,j,l,p,t,z⟩:=e;have a6:(O.map aC)[i]?=some [I 0]:=by rw[adn,av,V];rfl
  have a8:i< (O.map aC).length:=by rw[ahL];omega
  have a9:i<O.length:=by omega
  have bb:(O.map aC).set i [I 1]=(O.set i 1).map aC:=by rw[aix];rfl
  refine ef (fun S=>Has S.env [(2,.c (.aK [[I n,.aj R]] 0 0)),(3,.c (.aK [[.aj C]] 0 0)),(7,aw 1),(27,aa n),(28,aa i),(8,aw N),(9,bd (N+1) 0 0 m)]/\S.bH=[]/\S.heap=w.set 0 (ah 1 ((O.set i 1).map aC))) ?_ ?_
  .simp[-getElem?_pos,-aae,-aix,f,h,j,l,p,t,z,D,v,L,a6,a8,a9,d,bb]
  rintro⟨s,G3,u⟩⟨e,rfl,W⟩;simp only at e W;simp at e;rw[eD];have A:G3[0]?=some (ah 1 ((O.set i 1).map aC)):=by rw[W];exact ba D
  have j1:G3[1]?=some (ah 1 [[.sl 0 0 0 n]]):=by rw[W,aay (by omega)];exact v
  have j2:G3[N]?=some (ah 1 [[I i]]):=by rw[W,aay (by omega)];exact L
  have j3:G3[N+1]?=some (ah 1 al):=by rw[W,aay (by omega)];exact h3
  clear W;refine Ends.bl (gO (fun k:Nat=>[(2,.c (.aK [[I n,.aj R]] 0 0)),(3,.c (.aK [[.aj C]] 0 0)),(7,aw 1),(27,aa n),(28,aa i),(8,aw N),(9,bd (N+1) 0 0 m)]) (fun k K=>(∀q:Nat,q<k->(1:Int)+q∈F)/\K[0]?=some (ah 1 ((O.set i ((1:Int)+k)).map aC))/\K[1]?=some (ah 1 [[.sl 0 0 0 n]])/\K[N]?=some (ah 1 [[I i]])/\K[N+1]?=some (ah 1 al)) [] (fun k=>m+1-k) _ [2,3,7,27,28,8,9] (fun _=>rfl) ?_ 0 _ (by simpa using e) ⟨fun q hq=>by omega,A,j1,j2,j3⟩ rfl);clear A j1 j2 j3 e;rintro k ⟨s,K,u⟩ e ⟨k1,A,j1,j2,j3⟩ g5;simp only at e k1 A j1 j2 j3 g5;subst g5;simp at e;have⟨f,h,j,l,p,t,z⟩:=e;have bu:k<=m:=by have:=Iq k 1 F k1;omega
  have aU:i< (O.set i ((1:Int)+k)).length:=by rw[aiJ];omega
  have aV:(O.set i ((1:Int)+k))[i]=1+k:=by simp
  have aH:=ww (g:=296) (caps:=[.aK [[.aj C]] 0 0,.aK [[.aj ((O.set i ((1:Int)+k)).map aC)]] 0 0,.aK [[I i]] 0 0]) r (by unfold maxLen;omega) (fun b=>decide (bC c b=1+k)) (by rw[(show tz.md 296=0 from rfl)];decide) (by simp[-aix,cw,bD,bA,M,bi]) (bi r) (fun b E=>by have:=Zs (c:=c) (o:=O.set i ((1:Int)+k)) (a:=i) (ag b E).1 (by rw[hc];exact(ag b E).2.1) aU;rw[Z,aV]at this;exact this)
  have bc:(r.any fun b=>decide (bC c b=1+k))=decide ((1:Int)+k∈F):=by rw[<-aG,ajY];simp
  rw[bc,hL]at aH;have⟨P,X⟩:=ak ((O.set i ((1:Int)+k)).map aC);have aW:P.length=n:=by rw[<-X];simp[a2]
  have bg:P[i]?=some [I (1+k)]:=by rw[<-X,adn,aae aU,aV];rfl
  have bj:bA P=true:=by rw[<-X];exact bi _
  have bk:P.take n=P:=ach (by omega);rw[X]at A aH;have am:aO tz ay 152 [bd (N+1) 0 0 m,.c (.bG 296 [.aK [[.aj C]] 0 0,.ptr 1 0 0 0,.ptr N 0 0 0])] K=some (aR (decide ((1:Int)+k∈F)),K):=by simp[-getElem?_pos,-aae,A,j1,j2,j3,ai,aP,aW,bk,bj,aB,M,aH,kg]
  by_cases ao:(1:Int)+k∈F
  case neg=>have bm:=Oc F (m+1) k 1 k1 ao (by omega);rw[ad,ae,bm,X];rw[decide_eq_false ao]at am;simp[-aD,-getElem?_pos,-aae,f,h,j,l,p,t,z,A,j1,am]
  rw[decide_eq_true ao]at am;have bn:ads.wrap ((1:Int)+k+1)=1+((k+1:Nat):Int):=by rw[wrap_i64]<;>omega
  have bo:P.set i [I (1+((k+1:Nat):Int))]=(O.set i (1+((k+1:Nat):Int))).map aC:=by rw[<-X,aix,ajB,aix];rfl
  have iP:i<P.length:=by omega
  simp[-aD,-getElem?_pos,-aae,-ac7,-aix,f,h,j,l,p,t,z,A,j1,j2,bg,iP,d,aW,am,bn,bo];refine⟨k+1,by omega,fun q hq=>?_,ba A,?_,j3⟩
  .by_cases e1:q=k
   .subst e1;exact ao
   .exact k1 q (by omega)
  .rw[aay (by omega)];exact j2
 rintro s G⟨a7,_⟩⟨g0,e⟩;have aX:=bi (iV g c);have aY:((iV g c).map aC).length=n:=by simp[iV,hn]
 have⟨aZ,hU⟩:=ak ((iV g c).map aC);rw[hU]at g0 aX aY|-;have hk:aZ.take n=aZ:=ach (by omega);simp[-getElem?_pos,-aae,a7,g0,e,aX,aY,hk]
def TG{c:List Int}(hp:∀x∈c,0<=x)(b:Int):0<=bC c b:=by
 unfold bC;rw[ae9];by_cases h:b.toNat<c.length
 .rw[aae h];exact hp _ (air h)
 .rw[aiz (by omega)];exact aj5 _
def aeU{g:Gr}{c:List Int}(hp:∀x∈c,0<=x):∀x∈iV g c,0<=x:=by
 intro x b;unfold iV at b;obtain⟨a,_,rfl⟩:=aiE.1 b;unfold ku;simp only;split
 .exact TG hp _
 .have:=zt ((ee g a).map (bC c)) ((ee g a).length+1) 1;omega
def Ty{g:Gr}(r:fg g=true){a:List Int}{j:Nat}(s:oZ g=some (a,j)):aS tz ay 0 168 [.agg (bR g)]=some (.aM [bd 0 0 0 a.length,aa j,aa 0],[ah 1 (a.map aC)]):=by
 refine be func168 rfl ?_;simp only[f168,bX];have⟨q1,q2,q3,q4,q5⟩:=(nm g).1 r;obtain⟨n,hn⟩:∃n:Nat,g.n=n:=⟨g.n.toNat,by omega⟩;have af:n<=64:=by omega
 have u:=xk g (by omega);rw[if_pos r]at u;have L:=fun(c:List Int) hc hp=>Z5 (c:=c) r hn hc hp;have w:=jX g.bw;have⟨R,M⟩:=ak (g.bw.map dm);have U:bR g=[I n,.aj R]:=by unfold bR;rw[hn,M]
 rw[M]at w;rw[U]at u L|-;unfold oZ at s;rw[hn,aim]at s;refine bp [(1,.c (.aK [[I n,.aj R]] 0 0))] (fun G=>G=[]) ?_ ?_
 .simp
 rintro k G⟨z,_⟩rfl;refine bp [(1,.c (.aK [[I n,.aj R]] 0 0))] (fun G=>G=[]) ?_ ?_
 .simp[z,u,w]
 rintro k G⟨z,_⟩rfl;refine bp [(1,.c (.aK [[I n,.aj R]] 0 0)),(6,bd 0 0 0 n),(7,aa (0:Nat))] (fun G=>G=[ah 1 ((ago n (0:Int)).map aC)]) ?_ ?_
 .have V:n<=maxLen:=by unfold maxLen;omega
  have W:n*8<=140737488355328:=by omega
  have X:8*(n:Int)<=281474976710656:=by omega
  simp[z,V,W,X]
 rintro k G Y rfl;refine ef (fun S=>∃h v,S.env.get 6=some (bd h v 0 n)/\S.env.get 7=some (aa j)/\S.bH=[]/\S.heap[h]?=some (.live v 1 (a.map aC))/\a.length=n) ?_ ?_
 .rw[eD];refine im (fun x:Nat×List Int×Nat×Nat×Nat=>[(1,.c (.aK [[I n,.aj R]] 0 0)),(6,bd x.2.2.2.1 x.2.2.2.2 0 n),(7,aa x.2.2.1)]) (fun x G=>sO g x.1 x.2.1 x.2.2.1=some (a,j)/\x.2.1.length=n/\(∀y∈x.2.1,0<=y)/\x.2.2.1+x.1<=n+1/\G[x.2.2.2.1]?=some (.live x.2.2.2.2 1 (x.2.1.map aC))) (fun x=>x.1) ?_ (n+1,ago n 0,0,0,0) Y ⟨s,by simp,by simp,by simp,rfl⟩ fun _=>rfl;rintro⟨m,c,t,h,v⟩ k G ⟨A,B,D,_⟩ ⟨b,l,E,Z,d⟩;simp only at A B D b l E Z d;have F:=Cv c 0 (by unfold maxLen;omega);have H:=L c l E;have f:=bi c;have N:=bi (iV g c);have ab:(iV g c).length=n:=by simp[iV,hn]
  unfold aG at F;have⟨C,i⟩:=ak (c.map aC);have o:C.length=n:=by rw[<-i];simpa using l
  have p:C.take n=C:=ach (by omega);rw[i]at d F H f;have⟨ad,J⟩:=ak ((iV g c).map aC);rw[J]at H N;have q:aO tz ay 128 [bd h v 0 n,aa 0] G=some (aR (decide ((0:Int)∈c)),G):=by simp[d,o,p,f,F]
  cases m with
  |zero=>simp[sO]at b
  |succ m=>
  unfold sO at b;by_cases e:(0:Int)∈c
  case neg=>rw[if_neg e]at b;simp only[abj,aca]at b;obtain⟨rfl,rfl⟩:=b;rw[decide_eq_false e]at q;simp[-aD,A,B,D,q,d,l,i];exact⟨_,_,⟨rfl,rfl⟩,d⟩
  rw[if_pos e]at b;rw[decide_eq_true e]at q;have ae:aO tz ay 246 [.agg [I n,.aj R],bd h v 0 n] G=some (.aM [bd G.length 0 0 n,aa 0],G++[ah 1 ad]):=by simp[d,o,p,f,w,N,H];intro x O;rw[<-J]at O;obtain⟨ag,_,rfl⟩:=aiE.1 O;rfl
  have hw:ads.wrap ((t:Int)+1)=((t+1:Nat):Int):=cr (by omega);simp[-aD,-ac7,A,B,D,q,ae,hw];exact⟨m,by omega,iV g c,t+1,G.length,0,⟨⟨rfl,rfl⟩,rfl⟩,b,ab,aeU E,by omega,by rw[ad8 (adt _),ajx,J];rfl⟩
 rintro⟨k,G,ds⟩⟨h,v,P,Q,rfl,K,T⟩;simp only at P Q K;have f:=bi a;have⟨C,i⟩:=ak (a.map aC);have o:C.length=n:=by rw[<-i];simpa using T
 have p:C.take n=C:=ach (by omega);rw[i]at K f|-;simp[P,Q,K,f,o,p,T]
def aat(e:gS tz){a:List au}{H:List Ob}{r:au}{b:List Ob}(h:uQ a H=some (r,b)):Call aaD 168 a H r b:=by
 unfold uQ at h;split at h
 .rename_i n l;split at h
  .rename_i rows d;split at h
   .rename_i i f;split at h
    .rename_i g;split at h
     .rename_i c k hc;cases h;rw[DE _ _ f]at d;refine Ro d (o9 e ?_);have:=Ty g hc;simp only[bR]at this;simp[this,bi,jX]
     .cases h
    .cases h
   .cases h
  .cases h
 .cases h
section
variable [W]
variable{f:FuncId}{vs:List au}{H H':List Ob}{r:au}
def gG(w:W){h:List au->List Ob->Option (au×List Ob)}(e:(@tz w).dH f=h)(a:(@tz w).dH f vs H=some (r,H')):h vs H=some (r,H'):=by rw[<-e];exact a
def xW(w:W)(b:f∈qE)(a:(@tz w).dH f vs H=some (r,H')):Call aaD f vs H r H':=by
 have c:f=52\/f=124\/f=191\/f=195\/f=200:=by simpa[qE]using b
 rcases c with rfl|rfl|rfl|rfl|rfl
 .exact absurd a (by simp[show(@tz w).dH 52=fun _ _=>none by kernel_rfl])
 .exact Qx (gG w (h:=lS 8) (by kernel_rfl) a)
 .exact Rt (gG w (h:=tq) (by kernel_rfl) a)
 .exact SA (gG w (h:=sV 4 [I 0,ap,I 0,I 0]) (by kernel_rfl) a)
 .exact NH (gG w (h:=lS 2) (by kernel_rfl) a)
def Iw(w:W)(a:(@tz w).dG f=true):f∈qE\/f∈tI w.k:=by have b:(qE.contains f||(tI w.k).contains f)=true:=(Bool.and_eq_true_iff.1 a).2;simpa[ajF]using b
def HG(w:W)(a:w.k≠4){g:FuncId}(h:(@tz w).kL g=true):False:=by have:(ajt g 147&&ajt w.k 4)=true:=h;simp at this;exact a this.2
def I8:gS (@tz W2):={
 enters:=vV
 rl:=fun f vs H r H' b a=>by
  rcases Iw W2 b with h|h
  .exact xW W2 h a
  .obtain rfl:f=114:=aks.1 h
   exact Bw nM (gG W2 (h:=ny) (by kernel_rfl) a)
 kL:=fun g vs h=>(HG W2 (by decide) h).elim
 follows:=yb
 code:=@yP W2}
def ad6:gS (@tz W3):={
 enters:=vV
 rl:=fun f vs H r H' b a=>by
  rcases Iw W3 b with h|h
  .exact xW W3 h a
  .have c:f=114\/f=248\/f=45:=by
    have d:f∈ [114,248,45]:=h
    simpa using d
   rcases c with rfl|rfl|rfl
   .exact Bw nM (gG W3 (h:=ny) (by kernel_rfl) a)
   .exact NS I8 (gG W3 (h:=qC) (by kernel_rfl) a)
   .exact Qj nM (gG W3 (h:=fO 1) (by kernel_rfl) a)
 kL:=fun g vs h=>(HG W3 (by decide) h).elim
 follows:=yb
 code:=@yP W3}
def vl:List Nat:=[43,44,45,46,47,57,98,114,190,185,318,168,248]
def LI(w:W)(b:f∈vl)(a:(@tz w).dH f vs H=some (r,H')):Call aaD f vs H r H':=by
 have c:f=43\/f=44\/f=45\/f=46\/f=47\/f=57\/f=98\/f=114\/f=190\/f=185\/f=318\/f=168\/f=248:=by simpa[vl]using b
 rcases c with rfl|rfl|rfl|rfl|rfl|rfl|rfl|rfl|rfl|rfl|rfl|rfl|rfl
 .exact o43 nM (gG w (h:=fO 10) (by kernel_rfl) a)
 .exact o44 nM (gG w (h:=fO 8) (by kernel_rfl) a)
 .exact Qj nM (gG w (h:=fO 1) (by kernel_rfl) a)
 .exact XL nM (gG w (h:=fO 2) (by kernel_rfl) a)
 .exact o47 nM (gG w (h:=fO 4) (by kernel_rfl) a)
 .exact o57 nM (gG w (h:=fO 3) (by kernel_rfl) a)
 .exact Z8 (gG w (h:=vz) (by kernel_rfl) a)
 .exact Bw nM (gG w (h:=ny) (by kernel_rfl) a)
 .exact afI nM (gG w (h:=ka gH) (by kernel_rfl) a)
 .exact WK nM (gG w (h:=ka ke) (by kernel_rfl) a)
 .exact aft I8 (gG w (h:=ka gN) (by kernel_rfl) a)
 .exact aat ad6 (gG w (h:=uQ) (by kernel_rfl) a)
 .exact NS I8 (gG w (h:=qC) (by kernel_rfl) a)
def X1(hA:Call aaD 7 [] [] (aR true) []):gS (@tz W1):={
 enters:=vV
 rl:=fun f vs H r H' i b=>by
  rcases Iw W1 i with h|h
  .exact xW W1 h b
  .have c:f∈vl\/f=7:=by
    have d:f∈tI 1:=h
    by_cases e:f=7
    .exact .inr e
    .left
     simp only[tI,vl,ae3,aiP,or_false,e]at d|-
     exact d
   rcases c with c|rfl
   .exact LI W1 c b
   .have a:=gG W1 (h:=zF) (by kernel_rfl) b
    unfold zF at a
    split at a
    .cases a
     exact hA
    .cases a
 kL:=fun g vs h=>(HG W1 (by decide) h).elim
 follows:=yb
 code:=@yP W1}
end
end Go.Nx
namespace Go.Nx
open Go Go.Proofs Tryz
def ot{a:Act}{t:Nat}(h:t<a.tmps.size)(v:Value):(a.put (some t) v).eval (.tmp t)=v:=by simp[Act.put,Act.eval,aiL,h]
set_option maxHeartbeats 1000000 in
def Zr(args:Array Value)(w:World):CallsD aaD 147 args .returning w fun e u j=>u= .returning/\e= .returned (.tuple #[])/\j=(w.alloc (.cells #[.int .i64 0] 269)).setCell ⟨w.heap.size,0,none⟩ (.int .i64 0):=by
 refine callsD_of_wpS func147 rfl fun k cs l=>?_;have m:∀w,(alp .nilIface 20 269 true).run aaD w= .ok (.tuple #[.agg #[.int .i64 0],.bool false]) w:=fun w=>by kernel_rfl
 have n:13<=(args++akW (f147.ntmps-args.size) undef).size:=by rw[ntmps147];simp;omega
 generalize args++akW (f147.ntmps-args.size) undef=T at n;have i:2<T.size:=by omega
 have a:3<T.size:=by omega
 have b:4<T.size:=by omega
 have c:5<T.size:=by omega
 have d:6<T.size:=by omega
 have f:7<T.size:=by omega
 have g:8<T.size:=by omega
 have h:9<T.size:=by omega
 apply wpS_seq;apply wpS_region;simp[wpOpsS,go_sem,recoverD,l,m,Exit.thenS,i,a,b,c,d,f,g,h];apply wpS_seq;apply wpS_region;simp[wpOpsS,go_sem,Exit.thenS,a,b,c,d,f,g,h];refine wpS_cond (t:=false) (by simp[Act.eval,i,a,b,c,d,f,g,h]) ?_;simp only[aeb,if_false];refine wpS_of_wp (wp_skip ?_);cases k;simp_all[bodyPostS,results,Tryz.results147]
end Go.Nx
namespace Go.Nx
open Go Go.Proofs Go.RowKit Go.Lib
variable{Γ:az}{H:List Ob}{w:World}
def az.to(Γ:az)(w:World):az:={Γ with w:=w}
def yA(a:aZ Γ H)(c:Below Γ.w.heap.size Γ.w w):Γ.Le (Γ.to w)where
 F _ _ h:=h
 mem b z h:=c.block b (a.F b z h)
 hs _ i v d:=⟨i,v,d,adt _,fun _=>rfl⟩
def SG(c:aZ Γ H)(a:Below Γ.w.heap.size Γ.w w):Γ.cL (Γ.to w)where
 le:=yA c a
 os:=a.os
 tape:=a.tape
 output:=a.output
 size:=a.size
 frame b h _:=a.block b h
 mu _ _ h:= .inl h
 kS _ h:= .inl h
def uV(a:aZ Γ H)(c:Below Γ.w.heap.size Γ.w w):aZ (Γ.to w) H where
 len:=a.len
 ob h o e:=(a.ob h o e).aJ (yA a c) rfl (fun _ _ _ _ _ _ d f=>⟨c.block _ (a.X _ d),f,d⟩)
 apart:=a.apart
 F b z h:=aiM (a.F b z h) c.size
 X b h:=aiM (a.X b h) c.size
 G:=a.G.le (yA a c)
def az.bare(Γ:az):az:=⟨Γ.w,Γ.F,fun _=>False,[]⟩
def xv(a:aZ Γ H):aZ Γ.bare []where
 len:=rfl
 ob h o b:=by simp at b
 apart h _ _ _ o _ _ _ _ b:=by simp at b
 F:=a.F
 X _ h:=h.elim
 G:=fun p hp=>⟨(a.G p hp).1,by
  have h:=a.G p hp
  simp only[sR,ae3,aiP,or_false]at hp
  rcases hp with rfl|rfl
  .have ⟨_,h⟩:=h
   simp only[lE,afL,aiO,bF,cS,aB]at h|-
   exact h
  .have ⟨_,h⟩:=h
   simp only[bF,cS,aB]at h|-
   exact h⟩
def Eu{a:az}(h:Γ.bare.cL a):Below Γ.w.heap.size Γ.w a.w:=⟨h.os,h.tape,h.output,h.size,fun k b=>h.frame k b (fun h=>h)⟩
def Im{P:Program}{f:FuncId}{args:List au}{r:au}{c:List Ob}(hc:Call P f args [] r c)(g:aZ Γ H){args':Array Value}(h:bU Γ.bare args args'.toList):
  Calls P f args' Γ.w fun e b=>∃y a,e= .returned y/\a.w=b/\Below Γ.w.heap.size Γ.w b/\aZ a c/\aL a r y:=
 (hc.2 _ (xv g) _ h).mono fun e b ⟨y,a,i,d,j,k,l⟩=>⟨y,a,i,d,d▸Eu j,k,l⟩
def aev(f:List au):enters aaD 147=true/\∀Γ H,aZ Γ H->∀args:Array Value,bU Γ f args.toList->CallsD aaD 147 args .returning Γ.w fun e u a=>u= .returning/\∃y b,e= .returned y/\b.w=a/\Γ.cL b/\aZ b H:=by
 refine⟨by kernel_rfl,fun Γ H c args _=>(Zr args Γ.w).mono fun e u a ⟨g,h,i⟩=>?_⟩;have d:Below Γ.w.heap.size Γ.w a:=by rw[i];exact((Below.refl _ _).alloc (adt _) _).setCell (p:=⟨Γ.w.heap.size,0,none⟩) (adt _) _
 exact⟨g,_,Γ.to a,h,rfl,SG c d,uV c d⟩
end Go.Nx
namespace Go.Proofs
open Go.Shelf
def Tryz.Qn:amg:=⟨fun|169=>52|n=>n,fun|70=>134|9=>9|0=>0|72=>137|37=>135|127=>210|3=>3|5=>5|n=>n,fun|n=>n⟩
def Tryz.aaT:amC aaD Tryz.Qn:={
 mixed:=by kernel_rfl
 f169:=Tryz.func52.trans (congrArg some (by kernel_rfl))
 t0:=ama
 a0:=Tryz.isAgg0
 z0:=Tryz.sizeOf0
 v0:=amr
 t3:=al9
 a3:=Tryz.isAgg3
 z3:=Tryz.sizeOf3
 v3:=amq
 t9:=ala
 a9:=Tryz.isAgg9
 z9:=Tryz.sizeOf9
 v9:=amo
 t37:=Tryz.underlying135
 a37:=Tryz.isAgg135
 z37:=Tryz.sizeOf135
 v37:=Tryz.zeroValue135
 t70:=akT
 a70:=Tryz.isAgg134
 z70:=Tryz.sizeOf134
 v70:=Tryz.zeroValue134
 t72:=Tryz.underlying137
 a72:=Tryz.isAgg137
 z72:=Tryz.sizeOf137
 v72:=Tryz.zeroValue137
 t127:=Tryz.underlying210
 a127:=Tryz.isAgg210
 z127:=Tryz.sizeOf210
 v127:=Tryz.zeroValue210}
def Tryz.YT:amg:=⟨fun|138=>86|195=>143|218=>144|143=>145|219=>229|217=>280|225=>281|224=>282|267=>283|266=>322|314=>323|n=>n,fun|9=>9|3=>3|4=>4|5=>5|0=>0|46=>248|146=>439|51=>349|n=>n,fun|1=>1|n=>n⟩
def Tryz.PA:amD aaD Tryz.YT:={
 mixed:=by kernel_rfl
 f138:=Tryz.func86.trans (congrArg some (by kernel_rfl))
 f143:=Tryz.func145.trans (congrArg some (by kernel_rfl))
 f195:=Tryz.func143.trans (congrArg some (by kernel_rfl))
 f217:=Tryz.func280.trans (congrArg some (by kernel_rfl))
 f218:=Tryz.func144.trans (congrArg some (by kernel_rfl))
 f219:=Tryz.func229.trans (congrArg some (by kernel_rfl))
 f224:=Tryz.func282.trans (congrArg some (by kernel_rfl))
 f225:=Tryz.func281.trans (congrArg some (by kernel_rfl))
 f266:=Tryz.func322.trans (congrArg some (by kernel_rfl))
 f267:=Tryz.func283.trans (congrArg some (by kernel_rfl))
 f314:=Tryz.func323.trans (congrArg some (by kernel_rfl))
 t0:=ama
 a0:=Tryz.isAgg0
 z0:=Tryz.sizeOf0
 v0:=amr
 t3:=al9
 a3:=Tryz.isAgg3
 z3:=Tryz.sizeOf3
 v3:=amq
 t4:=al8
 a4:=Tryz.isAgg4
 z4:=Tryz.sizeOf4
 v4:=Tryz.zeroValue4
 t5:=al7
 a5:=Tryz.isAgg5
 z5:=Tryz.sizeOf5
 v5:=amp
 t9:=ala
 a9:=Tryz.isAgg9
 z9:=Tryz.sizeOf9
 v9:=amo
 t46:=Tryz.underlying248
 a46:=Tryz.isAgg248
 z46:=Tryz.sizeOf248
 v46:=Tryz.zeroValue248
 t51:=alM
 a51:=Tryz.isAgg349
 z51:=Tryz.sizeOf349
 v51:=Tryz.zeroValue349
 t146:=Tryz.underlying439
 a146:=Tryz.isAgg439
 z146:=Tryz.sizeOf439
 v146:=Tryz.zeroValue439
 g1:=by kernel_rfl}
end Go.Proofs
namespace Go.Nx
open Go Go.Proofs Tryz
instance iW11:W:=W4
abbrev oS:=FuncId->List au->List Ob->Option (au×List Ob)
noncomputable def kD(l:List Nat)(a:oS):bu:={tz with dG:=fun f=>l.contains f,dH:=a}
def acz(l:List Nat)(a:oS):kJ (kD l a) 0 60=true:=by kernel_rfl
def YD(l:List Nat)(a:oS):kJ (kD l a) 60 60=true:=by kernel_rfl
def UL(l:List Nat)(a:oS):kJ (kD l a) 120 60=true:=by kernel_rfl
def aaR(l:List Nat)(a:oS):kJ (kD l a) 180 60=true:=by kernel_rfl
def Y3(l:List Nat)(a:oS):kJ (kD l a) 240 60=true:=by kernel_rfl
def Vi(l:List Nat)(a:oS):kJ (kD l a) 300 60=true:=by kernel_rfl
def ag6(l:List Nat)(a:oS):kJ (kD l a) 360 60=true:=by kernel_rfl
def Zc(l:List Nat)(b:oS)(f:Nat)(h:Func)(c:Code)(e:f≠52)(d:(kD l b).P.funcs[f]?=some h)(g:h.body=some c):codeOk (kD l b) f (h.params.size+h.nfree) h.ntmps c=true:=by
 have i:f<417:=by have:=(ajy.1 d).1;change f<aaD.funcs.size at this;rwa [Sw]at this
 by_cases j:f<60
 .exact mL (a:=0) (n:=60) (acz l b) (by omega) (by omega) e d g
 by_cases k:f<120
 .exact mL (a:=60) (n:=60) (YD l b) (by omega) (by omega) e d g
 by_cases m:f<180
 .exact mL (a:=120) (n:=60) (UL l b) (by omega) (by omega) e d g
 by_cases o:f<240
 .exact mL (a:=180) (n:=60) (aaR l b) (by omega) (by omega) e d g
 by_cases p:f<300
 .exact mL (a:=240) (n:=60) (Y3 l b) (by omega) (by omega) e d g
 by_cases q:f<360
 .exact mL (a:=300) (n:=60) (Vi l b) (by omega) (by omega) e d g
 .exact mL (a:=360) (n:=60) (ag6 l b) (by omega) (by omega) e d g
def zC(l:List Nat)(d:oS)(k:52∈l)(m:∀f a H r b,f∈l->d f a H=some (r,b)->Call aaD f a H r b):gS (kD l d):={
 enters:=vV
 rl:=fun f a H r b i n=>m f a H r b (by simpa[kD,ajF]using i) n
 kL:=fun g a h=>by
  have o:(ajt g 147&&ajt 4 4)=true:=h
  obtain rfl:g=147:=by simpa using o
  exact aev a
 follows:=yb
 code:=fun f p c i q s=>Zc l d f p c (fun e=>by
  subst e
  have j:l.contains 52=false:=i
  rw[ajF.2 k]at j
  cases j) q s}
end Go.Nx
namespace Go.Nx
open Go Go.Proofs Go.RowKit
variable{vs:List au}{H H':List Ob}{r:au}
def xU{l:ab}{s:List UInt8}(h:strOf l=some s):∃b:ByteArray,l= .v (.string b)/\b.data.toList=s:=by
 unfold strOf at h;split at h
 .cases h;exact⟨_,rfl,rfl⟩
 .cases h
def OB(c:UInt8):∀s:List UInt8,Aa c s=s.count c
 |[]=>rfl
 |x::r=>by
  simp only[Aa,List.count_cons,OB c r,beq_iff_eq]
  omega
def Qp(c:UInt8):∀(s:List UInt8) (i:Nat),zY c i s=if alE s c= -1 then -1 else alE s c+i
 |[],i=>rfl
 |x::r,i=>by
  have a:=Lib.indexByte_ge r c
  simp only[zY,alE,Qp c r,beq_iff_eq]
  split<;>split<;>simp_all<;>omega
def PP{b:ByteArray}{c:UInt8}(h:b.data.toList=[c]):b=⟨#[c]⟩:=by
 have⟨d⟩:=b;simp at h;have:d= #[c]:=by rw[<-amh];simpa using h
 rw[this]
def o86(h:Ag vs H=some (r,H')):Call aaD 86 vs H r H':=by
 unfold Ag at h;split at h
 .split at h
  .rename_i a b _ _ s c i j;cases h;obtain⟨f,rfl,rfl⟩:=xU i;obtain⟨p,rfl,k⟩:=xU j;obtain rfl:=PP k;refine⟨by kernel_rfl,fun d l g hc=>?_⟩;simp only[bU,aL,aB]at hc;obtain⟨y,q,t,⟨rfl,_⟩,u,v,m,⟨rfl,_⟩,rfl⟩:=hc;subst m;obtain rfl:g= #[.string f,.string ⟨#[c]⟩]:=by cases g;simp_all
   exact(Any.strings_Count_one Tryz.PA f c d.w).mono fun e x ⟨n,o⟩=>⟨_,d,n,o.symm,.refl d,l,by
    simp only[aL,aB,OB,Lib.countByte]
    exact⟨trivial,rfl⟩⟩
  .cases h
 .cases h
def agR(h:Aq vs H=some (r,H')):Call aaD 280 vs H r H':=by
 unfold Aq at h;split at h
 .split at h
  .rename_i a c _ s g;split at h
   .rename_i p;cases h;obtain⟨b,rfl,rfl⟩:=xU g;refine⟨by kernel_rfl,fun d i f hc=>?_⟩;simp only[bU,aL,aB]at hc;obtain⟨y,q,t,⟨rfl,_⟩,u,v,j,⟨rfl,_⟩,rfl⟩:=hc;subst j;obtain rfl:f= #[.string b,.int .u8 c]:=by cases f;simp_all
    exact(Any.stringslite_IndexByte {Tryz.PA with} b c d.w).mono fun e x ⟨k,l⟩=>⟨_,d,k,l.symm,.refl d,i,by
     have m:=Qp (alU c.toNat) b.data.toList 0
     have n:c.toNat.toUInt8=alU c.toNat:=rfl
     simp only[aL,aB,n,m]
     refine⟨?_,rfl⟩
     split
     .rename_i o;rw[o]
     .simp⟩
   .cases h
  .cases h
 .cases h
end Go.Nx
namespace Go.Nx
open Go Go.Proofs Tryz
def Ip:List Nat:=qE++vl++[86,280]
noncomputable abbrev Zo:bu:=kD Ip tz.dH
def Ko:gS Zo:=zC Ip tz.dH (by decide) (fun f e H r g b a=>by
 have c:f∈qE\/f∈vl\/f∈ [86,280]:=by
  rcases ahl.1 b with h|h
  .rcases ahl.1 h with h|h
   .exact .inl h
   .exact .inr (.inl h)
  .exact .inr (.inr h)
 rcases c with h|h|h
 .exact xW W4 h a
 .exact LI W4 h a
 .have d:f=86\/f=280:=by simpa using h
  rcases d with rfl|rfl
  .exact o86 (gG W4 (h:=Ag) (by kernel_rfl) a)
  .exact agR (gG W4 (h:=Aq) (by kernel_rfl) a))
def call285:Call aaD 285 [.c (Sg [49]),.c (Sg [44])] [] (bd 0 0 0 1) [ah 1 [[Sg [49]]]]:=wU (n:=60) Ko (by kernel_rfl)
def call233(p:Option Addr):Call aaD 233 [.c (.v (.pointer p)),.c (Sg [49])] [] (aa 1) []:=wU (n:=60) Ko (by kernel_rfl)
section
variable{Γ:az}{H:List Ob}{w:World}
def af3(k:aZ Γ H)(l:ai5 Γ.w.heap.size Γ.w w):Calls aaD 285 #[.string ⟨#[49]⟩,.string ⟨#[44]⟩] w fun e d=>∃b o cap,e= .returned (.slice (some ⟨b,o,none⟩) 1 cap)/\d.cell? ⟨b,o,none⟩=some (.string ⟨#[49]⟩)/\ai5 w.heap.size w d:=by
 refine(Im call285 (Γ:=Γ.to w) (uV k l) (args':= #[.string ⟨#[49]⟩,.string ⟨#[44]⟩]) ?_).mono ?_
 .simp only[bU,aL,aB];exact⟨_,_,rfl,⟨rfl,rfl⟩,_,_,rfl,⟨rfl,rfl⟩,rfl⟩
 .rintro e d⟨y,s,rfl,rfl,m,n,g⟩;simp only[aL,aB]at g;obtain⟨t,ver,a,cap,p,_,rfl,q⟩:=g;have⟨u,i,v,c⟩:=n.obj (h:=0) (ver:=0) (z:=1) (rows:=[[Sg [49]]]) rfl;rw[p]at i;cases i;rcases q rfl with⟨f,_⟩|⟨b,x,f,rfl,rfl,A,r⟩
  .simp only[f]at c;cases c
  .simp only[f]at c;have⟨_,_,_,_,_,cells,T,B,C,j⟩:=c;obtain rfl:=r (by omega);simp only[bF,cS,aB,and_true]at j;obtain⟨_,D,c1,rfl,_⟩:=j;exact⟨b,_,_,rfl,by simpa using c1,m⟩
def SO(c:aZ Γ H)(d:ai5 Γ.w.heap.size Γ.w w)(p:Option Addr):Calls aaD 233 #[.pointer p,.string ⟨#[49]⟩] w fun e a=>e= .returned (.int .i64 1)/\ai5 w.heap.size w a:=by
 refine(Im (call233 p) (Γ:=Γ.to w) (uV c d) (args':= #[.pointer p,.string ⟨#[49]⟩]) ?_).mono ?_
 .simp only[bU,aL,aB];exact⟨_,_,rfl,⟨rfl,rfl⟩,_,_,rfl,⟨rfl,rfl⟩,rfl⟩
 .rintro e a⟨y,g,rfl,rfl,f,h,b⟩;simp only[aL,aB]at b;obtain⟨rfl,_⟩:=b;exact⟨rfl,f⟩
def TY:(aaD.info? 3).map (fun i=>(i.zero,i.size,i.bytes))=some (some (.int .i64 0),1,8):=by kernel_rfl
set_option maxRecDepth 100000 in
def adT(h:aZ Γ H)(p:Option Addr):Calls aaD 234 #[.pointer p,.string ⟨#[49]⟩] Γ.w fun e i=>∃b cap a,e= .returned (.slice (some ⟨b,0,none⟩) 1 cap)/\Γ.w.heap.size<=b/\i.heap[b]?=some (.cells a 3 (0,0))/\a[0]?=some (.int .i64 1)/\1<=cap/\cap<=maxLen/\a.size=cap/\ai5 Γ.w.heap.size Γ.w i:=by
 have⟨r,s,t,v,x⟩:=info_parts TY;have M:∀(l:Go.Fn) (first cap:Array Value) (w:World),(Instr.makeFunc l first cap).run aaD w= .ok (.func l first cap) w:=fun _ _ _ _=>rfl;go_enter func234,ntmps234
 go_wp2_with fail
 refine(af3 h (ajZ _ _)).mono ?_;rintro e w1 ⟨b,o,cap,rfl,N,d⟩;go_wp2_with fail
 refine wp_loop_rounds 2 ?_;rw[rounds_succ];go_wp2_with fail
 refine(SO h d p).mono ?_;rintro e w2 ⟨rfl,y⟩;have c:ai5 Γ.w.heap.size Γ.w w2:=d.trans (y.mono d.size);go_wp2_with (at_builtin;refine wpList_append_own _ rfl _ _ 30 rfl Γ.w.heap.size 3 r (.int .i64 0) 1 8 underlying30 s t v x rfl (by decide) _ 0 [] rfl ⟨rfl,.inl ⟨rfl,rfl⟩⟩ ⟨w2.heap.size,0,none⟩ 1 1 [.int .i64 1] rfl rfl ?c1 ?c2 ?c3 ?c4 ?c5 ?_)
 case c1=>
  intro j u f;match j with
  |0=>simp at f;subst f;rw[show(⟨w2.heap.size,0,none⟩:Addr).add 0=⟨w2.heap.size,0,none⟩from rfl,alr _ _ _ _ rfl];rfl
  |j+1=>simp at f
 case c2=>intro u m;simp at m;subst m;rfl
 case c3=>unfold maxLen;omega
 case c4=>omega
 case c5=>have:=c.size;simp;omega
 intro O w3 z A _;have B:ai5 Γ.w.heap.size Γ.w w3:=(c.alloc c.size _).grown A (by have:=c.size;simp;omega) (fun k C=>by cases C);obtain⟨P,⟨rfl,D⟩|⟨g,E,a,rfl,F,G,I,J,K,n⟩⟩:=z
 .cases D
 have L:a[0]?=some (.int .i64 1):=by
  have q:(a.toList.take 1)[0]?=some (.int .i64 1):=by have e:0+1=1:=rfl;simp only[Nat.mul_one]at n;rw[n];rfl
  rw[aj1 (by omega)]at q;simpa using q
 go_wp2
 rw[rounds_succ];go_wp2
 go_end0
 go_wp2
 go_ret
 exact⟨g,E,a,rfl,F,G,L,I,J,by simpa using K,B⟩
def az.pn(Γ:az)(w:World)(b cap:Nat):az:=⟨w,Γ.F,fun k=>Γ.X k\/k=b,Γ.hs++[(⟨some b,0,cap,1⟩,0)]⟩
def Zd(a:aZ Γ H)(c:ai5 Γ.w.heap.size Γ.w w){b cap:Nat}{e:Array Value}{T:TypeId}{l:ab}{y:Value}(r:Γ.w.heap.size<=b)(g:w.heap[b]?=some (.cells e T (0,0)))(x:e[0]?=some y)(A:∀Γ,aB Γ l y)(B:1<=cap)(C:cap<=maxLen)(D:e.size=cap):
  Γ.cL (Γ.pn w b cap)/\aZ (Γ.pn w b cap) (H++[ah 1 [[l]]]):=by
 have j:b<w.heap.size:=by
  rcases aj2 b w.heap.size with h|h
  .exact h
  .simp[ajz h]at g
 have s:Γ.Le (Γ.pn w b cap):=⟨fun _ _ h=>h,fun k z h=>c.block k (a.F k z h),fun h i v t=>⟨i,v,by
  have j:h<Γ.hs.length:=(aa3.1 t).1
  simp only[az.pn]
  rw[aaK j];exact t,adt _,fun _=>rfl⟩⟩
 refine⟨⟨s,c.os,c.tape,c.output,c.size,fun k m _=>c.block k m,fun k z h=> .inl h,fun k h=>?_⟩,?_⟩
 .rcases h with h|rfl
  .exact .inl h
  .exact .inr r
 refine a.put s H.length (by simp[az.pn,a.len]) (fun n hn=>⟨od _ _ _ hn,by simp only[az.pn];exact od _ _ _ (by rw[<-a.len];exact hn)⟩) (fun o p=>?_) (fun o E v G p _ f u=>?_) (fun k m _=>c.block k m)
  (fun b z d=> .inl d) (fun b q=> .inl q) (fun k z d=>aiM (a.F k z d) c.size) (fun k q=>?_)
 .simp at p
  subst p
  refine⟨⟨some b,0,cap,1⟩,by simp[az.pn,a.len],C,rfl,.inr rfl,fun z d=>?_,by simpa using B,by simp,e,T,.fresh g,by simp[D],?_⟩
  .have:=a.F _ _ d
   omega
  .simp only[bF,cS,and_true]
   refine⟨rfl,y,?_,A _⟩
   rw[cell_of (w:=(Γ.pn w b cap).w) g]
   exact x
 .simp only[az.pn]at f
  rw[a.len]at f
  simp at f
  rw[<-f.1]at u
  cases u
  exact .inl r
 .rcases q with h|rfl
  .exact aiM (a.X k h) c.size
  .exact j
def afB{d:List au}{r:au}{f:List Ob}(h:Ai d H=some (r,f)):Call aaD 234 d H r f:=by
 unfold Ai at h;split at h
 .split at h
  .rename_i x z a _ j;cases h;obtain⟨A,rfl,k⟩:=xU j;obtain rfl:=PP k;refine⟨by kernel_rfl,fun Γ c g hc=>?_⟩;simp only[bU,aL,aB]at hc;obtain⟨y,B,C,⟨D,E,p,F,G,rfl,J⟩,K,L,m,⟨rfl,_⟩,rfl⟩:=hc;subst m;obtain rfl:g= #[.pointer p,.string ⟨#[49]⟩]:=by cases g;simp_all
   refine(adT c p).mono ?_;rintro e M ⟨b,cap,N,rfl,n,o,q,i,s,t,u⟩;have⟨v,w⟩:=Zd c u n o q (l:=I 1) (fun _=>⟨rfl,rfl⟩) i s t;refine⟨_,_,rfl,rfl,v,w,?_⟩;simp only[aL,aB];refine⟨⟨some b,0,cap,1⟩,0,some ⟨b,0,none⟩,cap,by simp[az.pn,c.len],adt _,rfl,fun _=> .inr ⟨b,_,rfl,rfl,by simp,by simpa using i,fun _=>by simp⟩⟩
  .cases h
 .cases h
end
end Go.Nx
namespace Go.Nx
open Go Go.Proofs Go.RowKit
def yc:List UInt8->List UInt8->Bool
 |[],[]=>true
 |a::l,b::m=>ajt a.toNat b.toNat&&yc l m
 |_,_=>false
def Nl:∀ {l m:List UInt8},yc l m=true->l=m
 |[],[],_=>rfl
 |a::l,b::m,h=>by
  simp only[yc,aa2,ake]at h
  rw[UInt8.toNat_inj.1 h.1,Nl h.2]
def B9:Int->Int->Bool
 | .ofNat a,.ofNat b=>ajt a b
 | .negSucc a,.negSucc b=>ajt a b
 |_,_=>false
def O7:∀ {a b:Int},B9 a b=true->a=b
 | .ofNat a,.ofNat b,h=>by rw[ajs h]
 | .negSucc a,.negSucc b,h=>by rw[ajs h]
def Hy:Value->Value->Bool
 | .int .i64 n,.int .i64 m=>B9 n m
 | .int .u64 n,.int .u64 m=>B9 n m
 | .bool true,.bool true=>true
 | .bool false,.bool false=>true
 | .slice none 0 0,.slice none 0 0=>true
 | .string s,.string t=>yc s.data.toList t.data.toList
 |_,_=>false
def aa1{x y:Value}(h:Hy x y=true):x=y:=by
 unfold Hy at h;split at h
 .rw[O7 h]
 .rw[O7 h]
 .rfl
 .rfl
 .rfl
 .rename_i s t;have a:=Nl h;have⟨⟨s⟩⟩:=s;have⟨⟨t⟩⟩:=t;simp at a;rw[a]
 .cases h
mutual
def mG:ab->ab->Bool
 | .v x,.v y=>Hy x y
 | .aj r,.aj s=>tK r s
 | .ptr a b c d,.ptr e f g h=>ajt a e&&ajt b f&&ajt c g&&ajt d h
 | .sl a b c d,.sl e f g h=>ajt a e&&ajt b f&&ajt c g&&ajt d h
 | .mr a,.mr b=>ajt a b
 |_,_=>false
def rE:List ab->List ab->Bool
 |[],[]=>true
 |a::l,b::m=>mG a b&&rE l m
 |_,_=>false
def tK:List (List ab)->List (List ab)->Bool
 |[],[]=>true
 |a::l,b::m=>rE a b&&tK l m
 |_,_=>false
end
mutual
def IU:∀ {a b:ab},mG a b=true->a=b
 | .v x,b,h=>by
  cases b<;>simp only[mG]at h<;>first|cases h|rw[aa1 h]
 | .aj r,b,h=>by
  cases b<;>simp only[mG]at h<;>first|cases h|rw[Hz h]
 | .ptr a b c d,x,h=>by
  cases x<;>simp only[mG,aa2,ake]at h<;>first|cases h;done|(obtain⟨⟨⟨rfl,rfl⟩,rfl⟩,rfl⟩:=h;rfl)
 | .sl a b c d,x,h=>by
  cases x<;>simp only[mG,aa2,ake]at h<;>first|cases h;done|(obtain⟨⟨⟨rfl,rfl⟩,rfl⟩,rfl⟩:=h;rfl)
 | .mr a,x,h=>by
  cases x<;>simp only[mG,ake]at h<;>first|cases h;done|(subst h;rfl)
 | .aK ..,_,h=>by simp[mG]at h
 | .eX ..,_,h=>by simp[mG]at h
 | .bG ..,_,h=>by simp[mG]at h
 | .iA ..,_,h=>by simp[mG]at h
 | .mi ..,_,h=>by simp[mG]at h
def AB:∀ {a b:List ab},rE a b=true->a=b
 |[],[],_=>rfl
 |a::l,b::m,h=>by
  simp only[rE,aa2]at h
  rw[IU h.1,AB h.2]
 |[],_::_,h=>by simp[rE]at h
 |_::_,[],h=>by simp[rE]at h
def Hz:∀ {a b:List (List ab)},tK a b=true->a=b
 |[],[],_=>rfl
 |a::l,b::m,h=>by
  simp only[tK,aa2]at h
  rw[AB h.1,Hz h.2]
 |[],_::_,h=>by simp[tK]at h
 |_::_,[],h=>by simp[tK]at h
end
def zM:List (List ab×ab)->List (List ab×ab)->Bool
 |[],[]=>true
 |(a,x)::l,(b,y)::m=>rE a b&&mG x y&&zM l m
 |_,_=>false
def L8:∀ {l m:List (List ab×ab)},zM l m=true->l=m
 |[],[],_=>rfl
 |(a,x)::l,(b,y)::m,h=>by
  simp only[zM,aa2]at h
  rw[AB h.1.1,IU h.1.2,L8 h.2]
def JX:Ob->Ob->Bool
 | .live v z r,.live a b c=>ajt v a&&ajt z b&&tK r c
 | .dead,.dead=>true
 | .mp e,.mp f=>zM e f
 |_,_=>false
def adQ{a b:Ob}(h:JX a b=true):a=b:=by
 unfold JX at h;split at h
 .simp only[aa2,ake]at h;rw[h.1.1,h.1.2,Hz h.2]
 .rfl
 .rw[L8 h]
 .cases h
def wx:List Ob->List Ob->Bool
 |[],[]=>true
 |a::l,b::m=>JX a b&&wx l m
 |_,_=>false
def N0:∀ {l m:List Ob},wx l m=true->l=m
 |[],[],_=>rfl
 |a::l,b::m,h=>by
  simp only[wx,aa2]at h
  rw[adQ h.1,N0 h.2]
def sP:List au->List au->Bool
 |[],[]=>true
 | .c a::l,.c b::m=>mG a b&&sP l m
 | .agg a::l,.agg b::m=>rE a b&&sP l m
 |_,_=>false
def J5:∀ {l m:List au},sP l m=true->l=m
 |[],[],_=>rfl
 | .c a::l,.c b::m,h=>by
  simp only[sP,aa2]at h
  rw[IU h.1,J5 h.2]
 | .agg a::l,.agg b::m,h=>by
  simp only[sP,aa2]at h
  rw[AB h.1,J5 h.2]
def AO:Ob->Ob->Ob
 | .live v z _,.live _ _ []=> .live v z []
 |o,_=>o
def mP:List Ob->List Ob->List Ob
 |o::H,x::R=>AO o x::mP H R
 |H,_=>H
def agk(o x:Ob):AO o x=o\/∃v z rows,o= .live v z rows/\AO o x= .live v z []:=by
 unfold AO;split
 .exact .inr ⟨_,_,_,rfl,rfl⟩
 .exact .inl rfl
def Bz:∀(H R:List Ob) (i:Nat),(mP H R)[i]?=H[i]?\/∃v z rows,H[i]?=some (.live v z rows)/\(mP H R)[i]?=some (.live v z [])
 |[],R,i=>by cases R<;>exact .inl rfl
 |o::H,[],i=> .inl rfl
 |o::H,x::R,i=>by
  cases i with
  |zero=>
   simp only[mP,ak9,abj]
   exact agk o x
  |succ i=>
   simp only[mP,List.getElem?_cons_succ]
   exact Bz H R i
def Nt:∀(H R:List Ob),(mP H R).length=H.length
 |[],R=>by cases R<;>rfl
 |o::H,[]=>rfl
 |o::H,x::R=>by simp only[mP,ahP,Nt H R]
def O8{H R:List Ob}{i:Nat}{o:Ob}(h:(mP H R)[i]?=some o):∃a,H[i]?=some a/\a.there=o.there:=by
 rcases Bz H R i with e|⟨v,z,rows,c,b⟩
 .rw[e]at h;exact⟨o,h,rfl⟩
 .rw[h]at b;cases b;exact⟨_,c,rfl⟩
def aaA{g:az}{H:List Ob}(a:aZ g H)(R:List Ob):aZ g (mP H R)where
 len:=by rw[Nt];exact a.len
 ob i o h:=by
  rcases Bz H R i with e|⟨v,z,rows,f,c⟩
  .rw[e]at h
   exact a.ob i o h
  .rw[h]at c
   cases c
   have⟨d,l,m,k⟩:=a.ob i _ f
   refine⟨d,l,m,?_⟩
   cases n:d.base with
   |none=>simp
   |some b=>
    simp only[n]at k
    have⟨r,s,t,O,u,cells,T,w,x,P⟩:=k
    exact⟨r,s,t,by simp,u,cells,T,w,x,by simp[bF]⟩
 apart i j v y o Q d A b f c B C D E I J:=by
  have⟨p,K,L⟩:=O8 f
  have⟨q,M,N⟩:=O8 c
  exact a.apart i j v y p q d A b K M (by rw[L];exact B) (by rw[N];exact C) D E I J
 F:=a.F
 X:=a.X
 G:=a.G
def Call.mP{P:Program}{f:FuncId}{args:List au}{H b R:List Ob}{r:au}(h:Call P f args H r b)(e:Nx.mP b R=R):Call P f args H r R:=
 ⟨h.1,fun c d a hc=>(h.2 c d a hc).mono fun _ _ ⟨y,g,i,j,k,l,m⟩=>⟨y,g,i,j,k,e▸aaA l R,m⟩⟩
abbrev CI:=List (List au×List Ob×au×List Ob)
def xh:CI->List au->List Ob->Option (au×List Ob)
 |[],_,_=>none
 |(a,h,r)::t,b,H=>cond (sP a b&&wx h H) (some r) (xh t b H)
def R4{P:Program}{f:FuncId}:∀ {T:CI} {b:List au} {H:List Ob} {r:au} {c:List Ob},xh T b H=some (r,c)->(∀e∈T,Call P f e.1 e.2.1 e.2.2.1 e.2.2.2)->Call P f b H r c
 |(a,h,g)::t,b,H,r,c,e,d=>by
  unfold xh at e
  cases hc:(sP a b&&wx h H)with
  |true=>
   rw[hc]at e
   cases e
   simp only[aa2]at hc
   have:=d _ (ajv ..)
   rw[J5 hc.1,N0 hc.2]at this
   exact this
  |false=>
   rw[hc]at e
   exact R4 e fun e h=>d e (aiI _ h)
end Go.Nx
namespace Go.Nx
open Go Go.Proofs Tryz
def Fk:List Nat:=Ip++[234]
noncomputable abbrev ZM:bu:=kD Fk tz.dH
def nL:gS ZM:=zC Fk tz.dH (by decide) (fun f b H r c d a=>by
 rcases ahl.1 d with h|h
 .exact Ko.rl f b H r c (by simpa[kD,ajF]using h) a
 .obtain rfl:f=234:=by simpa using h
  exact afB (gG W4 (h:=Ai) (by kernel_rfl) a))
def fit{C:bu}(b:gS C)(n:Nat){f:FuncId}{a:List au}{G R:List Ob}{r:au}(h:(bB C (run C n) f a G).map (fun p=>(p.1,mP p.2 R))=some (r,R)):Call C.P f a G r R:=by have⟨⟨x,H⟩,c,d⟩:=abr.1 h;injection d with e g;subst e;exact(wU b c).mP g
def oT:List Ob:=[ah 1 [],ah 2 [],ah 6 [],ah 5 [],ah 3 [],ah 1 [[I 0]],.live 1 10 [],ah 1 [[Sg [5,0,1]]],.live 5 6 [[I 3,I 0,I 1,I 0,I 0,.aj []],[I 6,I 0,I 0,I 0,I 0,.aj []],[I 7,I 0,I 1,I 0,I 0,.aj []],[I 6,I 1,I 0,I 0,I 0,.aj []],[I 7,I 1,I 0,I 0,I 0,.aj []],[I 0,I 0,I 0,I 1,I 0,.aj [[I 1]]]],ah 8 [[I 2,I 8,I 1,I 8,I 9,.sl 13 0 0 2,.mr 15,.mr 16]],ah 6 [[I 3,I 0,I 1,I 0,I 0,.aj []]],.mp [([I 0,I 1],.ptr 31 0 0 0)],ah 3 [[I 5,I 1,I 0]],ah 3 [[I 2,I 8,.mr 29]],ah 6 [[I 6,I 0,I 0,I 0,I 0,.aj []]],ah 1 [[Sg [6,0,1]]],ah 1 [[Sg [78,1,1,0,1,0,0,0,0,0,0,0,0,0,0,0,0,0,0,0,0,0,3,5,0,1,81,62,229,102]],[Sg []],[Sg []],[Sg []],[Sg []],[Sg []],[Sg []],[Sg []]],ah 6 [[I 7,I 0,I 1,I 0,I 0,.aj []]],.mp [([I 0,I 1],.ptr 22 0 0 0),([I 1,I 0],.ptr 70 0 0 0)],ah 2 [[.sl 24 0 1 0,I 0]],ah 3 [[.sl 54 0 0 8,I 0,I 0]],ah 3 [[I 6,I 1,I 0]],ah 11 [[I 1,I 2,I 8,I 1,.sl 37 0 0 1,.v (.int .u64 0),I 1,I 1,.v (.int .u64 0),B false,I 0]],ah 6 [[I 6,I 1,I 0,I 0,I 0,.aj []]],.mp [([I 0,I 1],.ptr 55 0 0 0),([I 1,I 0],.ptr 99 0 0 0)],ah 11 [[I 1,I 2,I 8,I 1,.sl 80 0 0 1,.v (.int .u64 0),I 1,I 1,.v (.int .u64 1),B false,I 0]],ah 1 [[Sg [78,1,1,0,1,0,0,0,0,0,0,0,0,0,0,0,0,0,0,0,1,0,3,6,0,1,152,36,136,154]],[Sg []],[Sg []],[Sg []],[Sg []],[Sg []],[Sg []],[Sg []]],.mp [],ah 10 [[I 0,I 2,.aj [[I 1,I 1,I 1,B true,B true,B false,B true,B false]],I 0,.aj [],I 0,.aj [],.aj [[I 1,I 1]],.aj [[I 1]],.aj []],[I 1,I 0,.aj [],I 0,.aj [],I 0,.aj [],.aj [],.aj [],.aj []]],.mp [([I 0,I 1],.ptr 22 0 0 0)],ah 2 [[.sl 24 0 0 1,I 1]],ah 5 [[.ptr 32 0 0 0,.ptr 33 0 0 0,ap,ap,.ptr 30 0 0 0]],ah 11 [[I 1,I 2,I 8,I 1,ap,.v (.int .u64 0),I 0,I 0,.v (.int .u64 0),B false,I 0]],.mp [([I 0,I 1],.ptr 55 0 0 0)],ah 10 [[I 0,I 2,.aj [[I 1,I 1,I 1,B true,B true,B false,B true,B false]],I 0,.aj [],I 0,.aj [],.aj [[I 1,I 1]],.aj [[I 1]],.aj []],[I 1,I 0,.aj [[I 0,I 1,I 0,B false,B false,B true,B false,B true]],I 0,.aj [],I 0,.aj [],.aj [[I 0,I 1]],.aj [],.aj []]],ah 5 [[.ptr 32 0 0 0,.ptr 33 0 0 0,ap,.sl 64 0 0 1,.ptr 30 0 0 0]],ah 2 [[.sl 72 0 0 1,I 1]],ah 6 [[I 7,I 1,I 0,I 0,I 0,.aj []]],ah 5 [[.ptr 32 0 0 0,.ptr 33 0 0 0,.sl 108 0 0 1,.sl 64 0 0 1,.ptr 30 0 0 0]],ah 11 [[I 1,I 2,I 8,I 1,.sl 37 0 1 0,.v (.int .u64 1),I 0,I 0,.v (.int .u64 1),B true,I 0]],ah 2 [[.sl 72 0 1 0,I 0]],ah 3 [[.sl 98 0 0 8,I 0,I 0]],ah 11 [[I 1,I 2,I 8,I 1,.sl 37 0 0 1,.v (.int .u64 0),I 0,I 0,.v (.int .u64 0),B false,I 0]],ah 3 [[.sl 54 0 0 8,I 0,I 1]],.live 1 5 [],.live 1 1 [[I 0],[I 0]],ah 11 [[I 1,I 2,I 8,I 1,.sl 80 0 0 1,.v (.int .u64 0),I 0,I 0,.v (.int .u64 1),B true,I 0]],.live 2 5 [[I 6,I 1,I 0,I 0,ap]],.live 2 1 [[I 0],[I 0],[I 0]],ah 3 [[.sl 98 0 0 8,I 0,I 1]],.live 3 5 [[I 6,I 1,I 0,I 0,ap]],.live 3 1 [[I 0],[I 0],[I 0],[I 0]],ah 10 [[I 0,I 0,.aj [[I 1,I 1,I 0,B true,B true,B false,B true,B false]],I 0,.aj [],I 0,.aj [],.aj [[I 1,I 1]],.aj [],.aj []],[I 1,I 0,.aj [[I 0,I 1,I 0,B false,B false,B true,B false,B true]],I 0,.aj [],I 0,.aj [],.aj [[I 0,I 1]],.aj [],.aj []]],.live 4 5 [[I 6,I 1,I 0,I 0,ap],[I 6,I 0,I 0,I 1,ap]],.live 4 1 [[I 0],[I 0],[I 0],[I 0],[I 0]],ah 6 [[I 0,I 0,I 0,I 1,I 0,.aj [[I 1]]]],ah 11 [],ah 10 [[I 0,I 0,.aj [],I 0,.aj [],I 0,.aj [],.aj [],.aj [],.aj []],[I 1,I 0,.aj [],I 0,.aj [],I 0,.aj [],.aj [],.aj [],.aj []]],ah 2 [[.sl 13 0 0 2,.aj []]],ah 10 [[I 0,I 0,.aj [[I 1,I 1,I 0,B true,B true,B false,B true,B false]],I 2,.aj [[I 1]],I 1,.aj [[I 1,.aj [[I 1]],I 1,I 0]],.aj [[I 1,I 1]],.aj [],.aj []],[I 1,I 0,.aj [[I 0,I 1,I 0,B false,B false,B true,B false,B true]],I 0,.aj [],I 0,.aj [],.aj [[I 0,I 1]],.aj [],.aj []]],.live 5 6 [],ah 10 [],ah 8 [],.live 5 5 [[I 6,I 1,I 0,I 0,ap],[I 6,I 0,I 0,I 1,ap],[I 0,I 0,I 1,I 0,.aj [[I 1]]],[I 1,I 0,I 1,I 0,ap]],.live 5 1 [[I 0],[I 0],[I 0],[I 0],[I 0],[I 0]]]
def hp:List Nat->List Ob
 |[]=>[]
 |i::r=>oT.getD i .dead::hp r
def yJ:List Ob:=hp [2,2,8,2,2,2,2,2,2,2,2,2,2]
def call48:Call aaD 48 [.c (Sg ua)] [] (.aM [bd 2 5 0 6,aa 0,aa 0]) yJ:=fit nL 100 (by kernel_rfl)
def Ls:List Ob:=hp [2,2,8,2,2,2,2,2,2,2,2,2,2,57,58,27,27,9,10]
def Lj:List Ob:=hp [2,2,8,2,2,2,2,2,2,2,2,2,2,28,1,11,29,9,10,6,3,1,30,4,12,0,0,1,1,27,13,31,42,32,0,0,0,7]
def aen:Call aaD 92 [aw 17,.agg [I 3,I 0,I 1,I 0,I 0,.aj []]] Ls (.aM [.c (ap),aa 0]) Lj:=fit nL 200 (by kernel_rfl)
def N4:List Ob:=hp [2,2,8,2,2,2,2,2,2,2,2,2,2,28,1,11,29,9,10,6,3,1,30,4,12,0,0,1,1,27,13,31,42,32,0,0,0,7,3,5,5,14]
def Q2:List Ob:=hp [2,2,8,2,2,2,2,2,2,2,2,2,2,28,1,11,29,9,10,6,3,1,30,4,12,0,0,1,1,33,13,31,22,32,0,0,0,7,3,5,5,14,0,0,1,0,0,1,0,0,3,3,3,1,16,43]
def abJ:Call aaD 92 [aw 17,.agg [I 6,I 0,I 0,I 0,I 0,.aj []]] N4 (.aM [.c (ap),aa 0]) Q2:=fit nL 200 (by kernel_rfl)
def Rj:List Ob:=hp [2,2,8,2,2,2,2,2,2,2,2,2,2,28,1,11,29,9,10,6,3,1,30,4,12,0,0,1,1,33,13,31,22,32,0,0,0,7,44,5,45,14,0,0,1,0,0,1,0,0,3,3,3,1,16,43,5,17]
def OU:List Ob:=hp [2,2,8,2,2,2,2,2,2,2,2,2,2,34,1,11,18,9,10,6,3,1,19,4,12,0,0,1,1,33,13,35,22,46,0,0,0,7,44,5,45,14,0,0,1,0,0,1,0,0,3,3,3,1,16,20,5,17,1,1,1,1,3,0,7,1,4,6,3,1,36,4,21,0,0,1,1,0,0,0,15,0,0,1]
def acY:Call aaD 92 [aw 17,.agg [I 7,I 0,I 1,I 0,I 0,.aj []]] Rj (.aM [bh [[I 6,I 1,I 0,I 0,ap]],aa 0]) OU:=fit nL 200 (by kernel_rfl)
def Lh:List Ob:=hp [2,2,8,2,2,2,2,2,2,2,2,2,2,34,1,11,18,9,10,6,3,1,19,4,12,0,0,1,1,33,13,35,22,46,0,0,0,7,47,5,48,14,0,0,1,0,0,1,0,0,3,3,3,1,16,20,5,17,1,1,1,1,3,0,7,1,4,6,3,1,36,4,21,0,0,1,1,0,0,0,15,0,0,1,5,23]
def Qt:List Ob:=hp [2,2,8,2,2,2,2,2,2,2,2,2,2,34,1,11,18,9,10,6,3,1,19,4,12,0,0,1,1,24,13,35,22,25,0,0,0,7,47,5,48,14,0,0,1,0,0,1,0,0,3,3,3,1,16,20,5,17,1,1,1,1,3,0,7,1,4,6,3,1,36,4,21,0,0,1,1,0,0,0,15,0,0,1,5,23,0,0,1,0,0,1,0,0,3,3,3,1,26,49]
def agu:Call aaD 92 [aw 17,.agg [I 6,I 1,I 0,I 0,I 0,.aj []]] Lh (.aM [.c (ap),aa 0]) Qt:=fit nL 200 (by kernel_rfl)
def MP:List Ob:=hp [2,2,8,2,2,2,2,2,2,2,2,2,2,34,1,11,18,9,10,6,3,1,19,4,12,0,0,1,1,24,13,35,22,25,0,0,0,7,50,5,51,14,0,0,1,0,0,1,0,0,3,3,3,1,16,20,5,17,1,1,1,1,3,0,7,1,4,6,3,1,36,4,21,0,0,1,1,0,0,0,15,0,0,1,5,23,0,0,1,0,0,1,0,0,3,3,3,1,26,49,5,37]
def Pv:List Ob:=hp [2,2,8,2,2,2,2,2,2,2,2,2,2,52,1,11,18,9,10,6,3,1,19,4,12,0,0,1,1,24,13,38,39,25,0,0,0,7,50,5,51,14,0,0,1,0,0,1,0,0,3,3,3,1,16,20,5,17,1,1,1,1,3,0,7,1,4,6,3,1,40,4,21,0,0,1,1,0,0,0,15,0,0,1,5,23,0,0,1,0,0,1,0,0,3,3,3,1,26,41,5,37,1,1,1,1,3,0,15,1,4,6,0,0,1,0,0,1]
def Wg:Call aaD 92 [aw 17,.agg [I 7,I 1,I 0,I 0,I 0,.aj []]] MP (.aM [bh [[I 6,I 0,I 0,I 1,ap]],aa 0]) Pv:=fit nL 200 (by kernel_rfl)
def MK:List Ob:=hp [2,2,8,2,2,2,2,2,2,2,2,2,2,52,1,11,18,9,10,6,3,1,19,4,12,0,0,1,1,24,13,38,39,25,0,0,0,7,53,5,54,14,0,0,1,0,0,1,0,0,3,3,3,1,16,20,5,17,1,1,1,1,3,0,7,1,4,6,3,1,40,4,21,0,0,1,1,0,0,0,15,0,0,1,5,23,0,0,1,0,0,1,0,0,3,3,3,1,26,41,5,37,1,1,1,1,3,0,15,1,4,6,0,0,1,0,0,1,5,55]
def Sq:List Ob:=hp [2,2,8,2,2,2,2,2,2,2,2,2,2,59,1,11,18,9,10,6,3,1,19,4,12,0,0,1,1,24,13,38,39,25,0,0,0,7,53,5,54,14,0,0,1,0,0,1,0,0,3,3,3,1,16,20,5,17,1,1,1,1,3,0,7,1,4,6,3,1,40,4,21,0,0,1,1,0,0,0,15,0,0,1,5,23,0,0,1,0,0,1,0,0,3,3,3,1,26,41,5,37,1,1,1,1,3,0,15,1,4,6,0,0,1,0,0,1,5,55,6,0,0,1]
def Td:Call aaD 92 [aw 17,.agg [I 0,I 0,I 0,I 1,I 0,.aj [[I 1]]]] MK (.aM [bh [[I 0,I 0,I 1,I 0,.aj [[I 1]]],[I 1,I 0,I 1,I 0,ap]],aa 0]) Sq:=fit nL 200 (by kernel_rfl)
def Ap:CI:=[([aw 17,.agg [I 3,I 0,I 1,I 0,I 0,.aj []]],Ls,.aM [.c (ap),aa 0],Lj),([aw 17,.agg [I 6,I 0,I 0,I 0,I 0,.aj []]],N4,.aM [.c (ap),aa 0],Q2),([aw 17,.agg [I 7,I 0,I 1,I 0,I 0,.aj []]],Rj,.aM [bh [[I 6,I 1,I 0,I 0,ap]],aa 0],OU),([aw 17,.agg [I 6,I 1,I 0,I 0,I 0,.aj []]],Lh,.aM [.c (ap),aa 0],Qt),([aw 17,.agg [I 7,I 1,I 0,I 0,I 0,.aj []]],MP,.aM [bh [[I 6,I 0,I 0,I 1,ap]],aa 0],Pv),([aw 17,.agg [I 0,I 0,I 0,I 1,I 0,.aj [[I 1]]]],MK,.aM [bh [[I 0,I 0,I 1,I 0,.aj [[I 1]]],[I 1,I 0,I 1,I 0,ap]],aa 0],Sq)]
def UN:∀e∈Ap,Call aaD 92 e.1 e.2.1 e.2.2.1 e.2.2.2:=by
 intro e a;simp only[Ap,ae3,aiP,or_false]at a;rcases a with rfl|rfl|rfl|rfl|rfl|rfl
 .exact aen
 .exact abJ
 .exact acY
 .exact agu
 .exact Wg
 .exact Td
def KZ:List Nat:=Fk++[92]
noncomputable abbrev yV:oS:=fun f a H=>cond (ajt f 92) (xh Ap a H) (tz.dH f a H)
noncomputable abbrev tz2:bu:=kD KZ yV
def acn:gS tz2:=zC KZ yV (by decide) (fun f b H r c g e=>by
 cases a:ajt f 92 with
 |true=>
  have d:xh Ap b H=some (r,c):=by simpa[yV,a]using e
  rw[ajs a];exact R4 d UN
 |false=>
  have d:tz.dH f b H=some (r,c):=by simpa[yV,a]using e
  rcases ahl.1 g with h|h
  .exact nL.rl f b H r c (by simpa[kD,ajF]using h) d
  .rw[aks.1 h]at a;cases a)
def Jr:List Ob:=hp [2,2,60,2,2,2,2,2,2,2,2,2,2,61,1,11,18,62,2,6,3,1,1,4,4,0,0,1,1,24,4,3,56,56,0,0,0,0,63,0,64,2,0,0,1,0,0,1,0,0,3,3,3,1,0,4,0,2,1,1,1,1,3,0,0,1,4,6,3,1,1,4,4,0,0,1,1,0,0,0,0,0,0,1,0,2,0,0,1,0,0,1,0,0,3,3,3,1,0,4,0,2,1,1,1,1,3,0,0,1,4,6,0,0,1,0,0,1,0,2,6,0,0,1,0]
def call49:Call aaD 49 [.agg [I 2,.aj []],.agg [I 2,I 8,I 1,I 8,I 9],bd 2 5 0 6] yJ (.aM [bd 38 5 0 4,bd 40 5 0 6,aa 0]) Jr:=fit acn 200 (by kernel_rfl)
def MM:List (List ab):=[[I 6,I 1,I 0,I 0,ap],[I 6,I 0,I 0,I 1,ap],[I 0,I 0,I 1,I 0,.aj [[I 1]]],[I 1,I 0,I 1,I 0,ap]]
def XK:obj Jr 38 5=some (5,MM):=by kernel_rfl
def zV:List UInt8:=[108,105,118,101,32,49,32,48,10]
def D1:List UInt8:=[108,105,118,101,32,48,32,49,10]
def NJ:List UInt8:=[111,112,101,110,101,100,32,48,32,49,32,49,10]
def Uc:List UInt8:=[103,114,97,110,116,101,100,32,48,32,49,10]
def VA:Call aaD 51 [.agg [I 6,I 1,I 0,I 0,ap]] [] (.c (Sg zV)) [ah 9 []]:=fit nL 100 (by kernel_rfl)
def Xb:Call aaD 51 [.agg [I 6,I 0,I 0,I 1,ap]] [] (.c (Sg D1)) [ah 9 []]:=fit nL 100 (by kernel_rfl)
def afg:Call aaD 51 [.agg [I 0,I 0,I 1,I 0,.aj [[I 1]]]] [] (.c (Sg NJ)) [ah 9 []]:=fit nL 100 (by kernel_rfl)
def aek:Call aaD 51 [.agg [I 1,I 0,I 1,I 0,ap]] [] (.c (Sg Uc)) [ah 9 []]:=fit nL 100 (by kernel_rfl)
end Go.Nx
namespace Go.Proofs.BuQ
open Go Go.Proofs Go.RowKit
def Hi:(aaD.info? 137).map (·.size)=some 2:=by kernel_rfl
def KW:liesAt aaD aaD.depth 137 (2 / aaD.cellsOf 137) 0 137 1=true:=by kernel_rfl
def QR:(aaD.info? 5).map (fun i=>(i.zero,i.size,i.bytes))=some (some (.int .u8 0),1,1):=by kernel_rfl
set_option maxRecDepth 8000 in
def aeO:Builder.Extra aaD Tryz.Qn:={
 sizeBuilder:=Hi
 liesBuilder:=KW
 t5:=al7
 a5:=Tryz.isAgg5
 z5:=Tryz.sizeOf5
 v5:=amp
 infoByte:=QR
 cellsByte:=by kernel_rfl
 sizeByte:=by kernel_rfl
 neB5:=Nat.ne_of_beq_eq_false (by kernel_rfl)}
def string(B b:Nat)(l:List UInt8)(w:World)(h:alF 137 5 B b (alj l) w)(a:B<=w.heap.size):Calls aaD 52 #[.pointer (some ⟨b,0,none⟩)] w fun e c=>e= .returned (.string ⟨l.toArray⟩)/\Below B w c:=
 Any.Builder_String_any Tryz.aaT aeO B b l w h a
set_option maxHeartbeats 1000000 in
set_option maxRecDepth 100000 in
def afn(b:Nat)(w:World)(d:w.cell? ⟨b,0,none⟩=some (.pointer (some ⟨b,0,none⟩))):Calls aaD 93 #[.pointer (some ⟨b,0,none⟩)] w fun e a=>e= .returned (.tuple #[])/\a=w:=by
 have⟨j,c,_⟩:=abr.1 Hi;go_enter Tryz.func93,Tryz.ntmps93
 go_wp2
 rw[Lib.run_neq_ptr_same w _ akT c];go_wp2
 go_end0
 exact⟨rfl,rfl⟩
set_option maxHeartbeats 1000000 in
set_option maxRecDepth 100000 in
def W9(b:Nat)(w:World)(g:w.cell? ⟨b,0,none⟩=some (.pointer none))(a:w.shape? b=some (137,2))(h:w.frozen? ⟨b,0,none⟩=false):Calls aaD 93 #[.pointer (some ⟨b,0,none⟩)] w fun e d=>e= .returned (.tuple #[])/\d=w.setCell ⟨b,0,none⟩ (.pointer (some ⟨b,0,none⟩)):=by
 have⟨j,c,f⟩:=abr.1 Hi;go_enter Tryz.func93,Tryz.ntmps93
 go_wp2
 rw[Lib.run_to_unsafe w ⟨b,0,none⟩ akT Tryz.underlying285 c (by rw[f];decide) a (Nat.zero_lt_succ 1)];simp only[ai7];rw[akr];go_wp2
 rw[run_callFunc_extern Tryz.func154 (by kernel_rfl) (by kernel_rfl) (by kernel_rfl) (e:=al5) (by kernel_rfl)];rw[Lib.run_noEscape];simp only[ai7];rw[akr];go_wp2
 rw[Lib.run_from_unsafe w ⟨b,0,none⟩ Tryz.underlying285 akT c a KW];simp only[ai7];rw[akr];go_wp2
 go_end0
 exact⟨rfl,rfl⟩
def check(B b:Nat)(c:List Value)(w:World)(h:alF 137 5 B b c w):Calls aaD 93 #[.pointer (some ⟨b,0,none⟩)] w fun e a=>e= .returned (.tuple #[])/\(aj7 137 5 B b (.pointer (some ⟨b,0,none⟩)) c a/\Below B w a):=by
 rcases h with h|h
 .refine (W9 b w h.cell0 h.shape h.frozen0).mono ?_;rintro e a ⟨rfl,rfl⟩;exact⟨rfl,h.used _,(Below.refl B w).setCell (p:=⟨b,0,none⟩) h.1 _⟩
 .refine (afn b w h.cell0).mono ?_;rintro e a ⟨rfl,rfl⟩;exact⟨rfl,h,Below.refl B _⟩
set_option maxHeartbeats 2000000 in
set_option maxRecDepth 100000 in
def write(B b:Nat)(a:List Value)(s:ByteArray)(w:World)(h:alF 137 5 B b a w)(H:a.length+s.size<=140737488355328)(I:B<=w.heap.size):
  Calls aaD 50 #[.pointer (some ⟨b,0,none⟩),.string s] w fun e l=>e= .returned (.tuple #[.int .i64 s.size,.nilIface])/\(aj7 137 5 B b (.pointer (some ⟨b,0,none⟩)) (a++Lib.strCells s) l/\Below B w l):=by
 have⟨u,x,y,z,A⟩:=info_parts QR
 go_enter Tryz.func50,Tryz.ntmps50
 go_wp2_with fail
 refine(check B b a _ h).mono ?_
 rintro e w1⟨rfl,C,f⟩
 have⟨m,v,c,n,D⟩:=C
 have J:w1.cell? ⟨b,0,none⟩=some (.pointer (some ⟨b,0,none⟩)):=by rw[alc c];rfl
 have c1:w1.cell? ⟨b,1,none⟩=some v:=by rw[alc c];rfl
 go_wp2_with (at_builtin;refine Lib.wpList_append_own_string _ rfl _ _ 135 9 rfl B 5 u Tryz.underlying135 ala x y z A _ _ _ rfl n s rfl ?c3 ?c4 ?c5 ?_)
 case c3=>unfold maxLen;omega
 case c4=>omega
 case c5=>have:=f.size;omega
 intro E w2 o q _
 have F:b<w1.heap.size:=by
  rcases aj2 b w1.heap.size with i|i
  .exact i
  .simp[ajz i]at c
 have d:w2.heap[b]?=some (.cells #[.pointer (some ⟨b,0,none⟩),v] 137 (0,0)):=by
  rw[q.block b F (fun e=>D e.symm)]
  exact c
 have d0:w2.cell? ⟨b,0,none⟩=some (.pointer (some ⟨b,0,none⟩)):=by rw[alc d];rfl
 have d1:w2.cell? ⟨b,1,none⟩=some v:=by rw[alc d];rfl
 have f1:w2.frozen? ⟨b,1,none⟩=false:=Lib.frozen_of_heap d 1
 obtain⟨r,t,cap,rfl⟩:∃r t cap,E= .slice r t cap:=by
  rcases o.2 with⟨j,_⟩|⟨g,cap,K,j,_⟩
  .exact ⟨_,_,_,j⟩
  .exact ⟨_,_,_,j⟩
 go_wp2
 go_ret2
 refine⟨rfl,?_,?_⟩
 .exact Lib.BuilderAt.put (T:=137) (e:=5) m d (bs':=a++Lib.strCells s) (by simpa[Lib.strCells_length]using o) (by decide)
 .exact (f.grown q (by have:=f.size;omega) (fun k G=>(n.lt k G).1)).setCell (p:=⟨b,1,none⟩) m _
end Go.Proofs.BuQ
namespace Go.Nx
open Go Go.Proofs Tryz
section
def agv{b:az}(h:aZ b []){w:World}(i:ai5 b.w.heap.size b.w w):Calls aaD 48 #[.string ⟨ua.toArray⟩] w fun e c=>∃y a,e= .returned (.tuple #[y,.int .i64 0,.int .i64 0])/\a.w=c/\(b.to w).bare.cL a/\aZ a yJ/\aB a (.sl 2 5 0 6) y:=by
 refine(call48.2 _ (xv (uV h i)) #[.string ⟨ua.toArray⟩] ?_).mono ?_
 .simp only[bU,aL,aB];exact⟨_,_,rfl,⟨rfl,rfl⟩,rfl⟩
 .rintro e c⟨y,a,rfl,rfl,j,k,d⟩;simp only[aL,bU,aB]at d;obtain⟨f,rfl,g,m,n,l,o,p,rfl,⟨rfl,_⟩,q,r,rfl,⟨rfl,_⟩,rfl⟩:=d;obtain rfl:f= #[g,.int .i64 0,.int .i64 0]:=by cases f;simp_all
  refine⟨g,a,rfl,rfl,j,k,?_⟩;simp only[aB];exact l
def Told(w:World)(b o:Nat)(y:Value):Prop:=
 w.cell? ⟨b,o,none⟩=some (.int .i64 6)/\w.cell? ⟨b,o+1,none⟩=some (.int .i64 1)/\w.cell? ⟨b,o+2,none⟩=some (.int .i64 0)/\w.cell? ⟨b,o+3,none⟩=some (.int .i64 0)/\w.cell? ⟨b,o+4,none⟩=some (.slice none 0 0)/\
 w.cell? ⟨b,o+5,none⟩=some (.int .i64 6)/\w.cell? ⟨b,o+6,none⟩=some (.int .i64 0)/\w.cell? ⟨b,o+7,none⟩=some (.int .i64 0)/\w.cell? ⟨b,o+8,none⟩=some (.int .i64 1)/\w.cell? ⟨b,o+9,none⟩=some (.slice none 0 0)/\
 w.cell? ⟨b,o+10,none⟩=some (.int .i64 0)/\w.cell? ⟨b,o+11,none⟩=some (.int .i64 0)/\w.cell? ⟨b,o+12,none⟩=some (.int .i64 1)/\w.cell? ⟨b,o+13,none⟩=some (.int .i64 0)/\w.cell? ⟨b,o+14,none⟩=some y/\
 w.cell? ⟨b,o+15,none⟩=some (.int .i64 1)/\w.cell? ⟨b,o+16,none⟩=some (.int .i64 0)/\w.cell? ⟨b,o+17,none⟩=some (.int .i64 1)/\w.cell? ⟨b,o+18,none⟩=some (.int .i64 0)/\w.cell? ⟨b,o+19,none⟩=some (.slice none 0 0)
def YV{c:az}(s:aZ c yJ){y g:Value}(t:aB c (.sl 2 5 0 6) y)(u:aB c (.aj []) g):Calls aaD 49 #[.agg #[.int .i64 2,g],.agg #[.int .i64 2,.int .i64 8,.int .i64 1,.int .i64 8,.int .i64 9],y] c.w fun e h=>∃b o cap z d a,e= .returned (.tuple #[.slice (some ⟨b,o,none⟩) 4 cap,z,.int .i64 0])/\a.w=h/\c.cL a/\aZ a Jr/\Told h b o d/\aB a.bare (.aj [[I 1]]) d:=by
 refine(call49.2 _ s #[.agg #[.int .i64 2,g],.agg #[.int .i64 2,.int .i64 8,.int .i64 1,.int .i64 8,.int .i64 9],y] ?_).mono ?_
 .simp only[bU,aL,aX];refine⟨_,_,rfl,⟨_,rfl,_,_,rfl,?_,_,_,rfl,u,rfl⟩,_,_,rfl,⟨_,rfl,_,_,rfl,?_,_,_,rfl,?_,_,_,rfl,?_,_,_,rfl,?_,_,_,rfl,?_,rfl⟩,_,_,rfl,t,rfl⟩<;>simp[aB,aiq]
 .rintro e h⟨r,a,rfl,rfl,v,k,l⟩;simp only[aL,bU]at l;obtain⟨m,rfl,x,V,W,n,A,X,rfl,_,Y,Z,rfl,p,rfl⟩:=l;simp only[aB]at p n;obtain⟨rfl,_⟩:=p;obtain rfl:m= #[x,A,.int .i64 0]:=by cases m;simp_all
  obtain⟨aa,ab,ad,cap,B,_,rfl,C⟩:=n;have⟨ae,q,k2,f⟩:=k.obj XK;rw[B]at q;cases q;rcases C rfl with⟨i,_⟩|⟨b,a',i,rfl,rfl,af,D⟩
  .simp only[i]at f;cases f
  .simp only[i]at f;have⟨E,_,_,_,_,cells,ag,m6,m7,j⟩:=f;obtain rfl:=D (by omega);rw[E]at j;simp only[MM,bF,cS,aB,and_true,true_and,ahP,aiK]at j;obtain⟨⟨⟨_,F,rfl,_⟩,⟨_,G,rfl,_⟩,⟨_,H,rfl,_⟩,⟨_,J,rfl,_⟩,⟨_,K,rfl,_⟩⟩,⟨⟨_,o8,rfl,_⟩,⟨_,L,rfl,_⟩,⟨_,M,rfl,_⟩,⟨_,N,rfl,_⟩,⟨_,O,rfl,_⟩⟩,⟨⟨_,P,rfl,_⟩,⟨_,Q,rfl,_⟩,⟨_,R,rfl,_⟩,⟨_,S,rfl,_⟩,⟨d,T,U⟩⟩,⟨⟨_,wT,rfl,_⟩,⟨_,xm,rfl,_⟩,⟨_,Av,rfl,_⟩,⟨_,xD,rfl,_⟩,⟨_,nZ,rfl,_⟩⟩⟩:=j;rw[akS,aiw];refine⟨b,_,_,_,d,a,rfl,rfl,v,k,⟨F,G,H,J,K,o8,L,M,N,O,P,Q,R,S,T,wT,xm,Av,xD,nZ⟩,?_⟩;simp only[bF,cS,aB,and_true,true_and,ahP,aiK];exact U
def eZ{a:az}{i:List Ob}(d:aZ a i){w:World}(j:ai5 a.w.heap.size a.w w){l:List ab}{s:List UInt8}{k:List Ob}(hc:Call aaD 51 [.agg l] [] (.c (Sg s)) k){b:Array Value}(m:aX a.bare l b.toList):Calls aaD 51 #[.agg b] w fun e f=>e= .returned (.string ⟨s.toArray⟩)/\ai5 w.heap.size w f:=by
 have g:ai5 a.bare.w.heap.size a.bare.w w:=j;refine(Im hc (Γ:=a.bare.to w) (uV (xv d) g) (args':= #[.agg b]) ?_).mono ?_
 .simp only[bU,aL];exact⟨_,_,rfl,⟨_,rfl,kx (yA (xv d) g) _ _ m⟩,rfl⟩
 .rintro e f⟨y,o,rfl,rfl,n,p,h⟩;simp only[aL,aB]at h;obtain⟨rfl,_⟩:=h;exact⟨rfl,n⟩
def gu{w c:World}(d:ai5 w.heap.size w c){a:Addr}{v:Value}(h:w.cell? a=some v):c.cell? a=some v:=by
 have e:a.block<w.heap.size:=by
  rcases aj2 a.block w.heap.size with b|b
  .exact b
  .simp[World.cell?,ajz b]at h
 rw[d.cell e];exact h
def sw{T e:TypeId}{B b:Nat}{p:Value}{d:List Value}{w f:World}(h:aj7 T e B b p d w)(i:ai5 w.heap.size w f):aj7 T e B b p d f:=by
 have k:=h.lt;have⟨l,v,m,⟨n,a⟩,o⟩:=h;refine⟨l,v,by rw[i.block _ k];exact m,⟨n,?_⟩,o⟩;rcases a with a|⟨g,cap,q,r,s,j,t⟩
 .exact .inl a
 .have u:g<w.heap.size:=by
   rcases aj2 g w.heap.size with c|c
   .exact c
   .simp[ajz c]at j
  exact .inr ⟨g,cap,q,r,s,by rw[i.block _ u];exact j,t⟩
set_option maxRecDepth 100000 in
def XD{b:az}(X:aZ b [])(n:Value)(Y:∀Z,aB Z (.aj []) n):Calls aaD 25 #[.agg #[.int .i64 2,n],.agg #[.int .i64 2,.int .i64 8,.int .i64 1,.int .i64 8,.int .i64 9],.string ⟨ua.toArray⟩] b.w fun e w'=>e= .returned (.tuple #[.string ⟨xV.toArray⟩,.int .i64 0,.int .i64 0])/\ai5 b.w.heap.size b.w w':=by
 go_enter func25,ntmps25
 go_wp2_with fail
 have t:ai5 b.w.heap.size b.w ((b.w.alloc (Obj.cells #[ajl ads 2,n] 24)).alloc (Obj.cells #[ajl ads 2,ajl ads 8,ajl ads 1,ajl ads 8,ajl ads 9] 26)):=((ajZ _ _).alloc (adt _) _).alloc (by simp) _;refine(agv X t).mono ?_;rintro e w1 ⟨aS,i,rfl,rfl,F,aa,hy⟩;have j:=Eu F;have d0:i.w.cell? ⟨b.w.heap.size,0,none⟩=some (.int .i64 2):=gu j (by simp[go_sem,az.to]);have d1:i.w.cell? ⟨b.w.heap.size,1,none⟩=some n:=gu j (by simp[go_sem,az.to]);have e0:i.w.cell? ⟨b.w.heap.size+1,0,none⟩=some (.int .i64 2):=gu j (by simp[go_sem,az.to]);have e1:i.w.cell? ⟨b.w.heap.size+1,1,none⟩=some (.int .i64 8):=gu j (by simp[go_sem,az.to]);have e2:i.w.cell? ⟨b.w.heap.size+1,2,none⟩=some (.int .i64 1):=gu j (by simp[go_sem,az.to]);have e3:i.w.cell? ⟨b.w.heap.size+1,3,none⟩=some (.int .i64 8):=gu j (by simp[go_sem,az.to]);have e4:i.w.cell? ⟨b.w.heap.size+1,4,none⟩=some (.int .i64 9):=gu j (by simp[go_sem,az.to]);go_wp2_with fail
 refine(YV aa hy (Y _)).mono ?_;rintro e w2 ⟨aT,aU,cap,aV,y3,a,rfl,rfl,ab,o,ht,k⟩;have G:ai5 b.w.heap.size b.w a.w:=t.trans ((Eu (F.trans ab)).mono t.size);go_wp2_with fail
 have u:aj7 137 5 a.w.heap.size a.w.heap.size (.pointer none) [] (a.w.alloc (.cells #[.pointer none,.slice none 0 0] 137)):=⟨adt _,.slice none 0 0,heap_alloc_new _ _,⟨rfl,.inl ⟨rfl,rfl⟩⟩,by simp[Value.ownBlock]⟩;have c:ai5 a.w.heap.size a.w (a.w.alloc (.cells #[.pointer none,.slice none 0 0] 137)):=(ajZ _ _).alloc (adt _) _;generalize(a.w.alloc (.cells #[.pointer none,.slice none 0 0] 137))=W0 at u c|-;have⟨ad,ae,af,ag,ah,o8,lq,ai,ak,al,am,an,ao,ap,aq,wT,xm,Av,xD,nZ⟩:=ht
 obtain⟨l,m,rfl⟩:∃l m,y3= .slice (some l) 1 m:=by
  simp only[aB]at k;rcases k with⟨_,h⟩|⟨l,m,_,h,_⟩
  .cases h
  .exact ⟨l,m,h⟩
 refine wp_loop_rounds 5 ?_;rw[rounds_succ];have ar:=gu c ad;have au:=gu c ae;have av:=gu c af;have aw:=gu c ag;have ax:=gu c ah;go_wp2_with fail
 have p:=c.alloc c.size (.cells #[.int .i64 6,.int .i64 1,.int .i64 0,.int .i64 0,.slice none 0 0] 43);refine(eZ o p VA ?_).mono ?_
 .simp only[aX];refine⟨_,_,rfl,?_,_,_,rfl,?_,_,_,rfl,?_,_,_,rfl,?_,_,_,rfl,?_,rfl⟩<;>first|exact k|simp[aB,aiq]
 rintro e u0⟨rfl,x⟩;have H:=sw (sw u ((ajZ _ _).alloc (adt _) _)) x;have y:=p.trans (x.mono p.size);go_wp2_with fail
 refine(BuQ.write _ _ _ _ _ (.inl H) (ajM (by kernel_rfl)) y.size).mono ?_;rintro e W1 ⟨rfl,I,J⟩;have K:aj7 137 5 a.w.heap.size a.w.heap.size (.pointer (some ⟨a.w.heap.size,0,none⟩)) (alj (zV)) W1:=I;have d:=y.trans J;clear I H u x p y J c ar au av aw ax;go_wp2_with fail
 rw[rounds_succ];have ay:=gu d o8;have aA:=gu d lq;have aC:=gu d ai;have aD:=gu d ak;have aE:=gu d al;go_wp2_with fail
 have q:=d.alloc d.size (.cells #[.int .i64 6,.int .i64 0,.int .i64 0,.int .i64 1,.slice none 0 0] 43);refine(eZ o q Xb ?_).mono ?_
 .simp only[aX];refine⟨_,_,rfl,?_,_,_,rfl,?_,_,_,rfl,?_,_,_,rfl,?_,_,_,rfl,?_,rfl⟩<;>first|exact k|simp[aB,aiq]
 rintro e u1⟨rfl,z⟩;have L:=sw (sw K ((ajZ _ _).alloc (adt _) _)) z;have A:=q.trans (z.mono q.size);go_wp2_with fail
 refine(BuQ.write _ _ _ _ _ (.inr L) (ajM (by kernel_rfl)) A.size).mono ?_;rintro e W2 ⟨rfl,M,N⟩;have O:aj7 137 5 a.w.heap.size a.w.heap.size (.pointer (some ⟨a.w.heap.size,0,none⟩)) (alj (zV++D1)) W2:=M;have f:=A.trans N;clear M L K z q A N d ay aA aC aD aE;go_wp2_with fail
 rw[rounds_succ];have aF:=gu f am;have aG:=gu f an;have aH:=gu f ao;have aI:=gu f ap;have aJ:=gu f aq;go_wp2_with fail
 have r:=f.alloc f.size (.cells #[.int .i64 0,.int .i64 0,.int .i64 1,.int .i64 0,.slice (some l) 1 m] 43);refine(eZ o r afg ?_).mono ?_
 .simp only[aX];refine⟨_,_,rfl,?_,_,_,rfl,?_,_,_,rfl,?_,_,_,rfl,?_,_,_,rfl,?_,rfl⟩<;>first|exact k|simp[aB,aiq]
 rintro e u2⟨rfl,B⟩;have P:=sw (sw O ((ajZ _ _).alloc (adt _) _)) B;have C:=r.trans (B.mono r.size);go_wp2_with fail
 refine(BuQ.write _ _ _ _ _ (.inr P) (ajM (by kernel_rfl)) C.size).mono ?_;rintro e W3 ⟨rfl,Q,R⟩;have S:aj7 137 5 a.w.heap.size a.w.heap.size (.pointer (some ⟨a.w.heap.size,0,none⟩)) (alj (zV++D1++NJ)) W3:=Q;have g:=C.trans R;clear Q P O B r C R f aF aG aH aI aJ;go_wp2_with fail
 rw[rounds_succ];have aK:=gu g wT;have aL:=gu g xm;have aM:=gu g Av;have aN:=gu g xD;have aO:=gu g nZ;go_wp2_with fail
 have s:=g.alloc g.size (.cells #[.int .i64 1,.int .i64 0,.int .i64 1,.int .i64 0,.slice none 0 0] 43);refine(eZ o s aek ?_).mono ?_
 .simp only[aX];refine⟨_,_,rfl,?_,_,_,rfl,?_,_,_,rfl,?_,_,_,rfl,?_,_,_,rfl,?_,rfl⟩<;>first|exact k|simp[aB,aiq]
 rintro e u3⟨rfl,D⟩;have T:=sw (sw S ((ajZ _ _).alloc (adt _) _)) D;have E:=s.trans (D.mono s.size);go_wp2_with fail
 refine(BuQ.write _ _ _ _ _ (.inr T) (ajM (by kernel_rfl)) E.size).mono ?_;rintro e W4 ⟨rfl,U,V⟩;have aP:aj7 137 5 a.w.heap.size a.w.heap.size (.pointer (some ⟨a.w.heap.size,0,none⟩)) (alj (xV)) W4:=U;have W:=E.trans V;clear U T S D s E V g aK aL aM aN aO;go_wp2_with fail
 rw[rounds_succ];go_wp2_with fail
 refine(BuQ.string _ _ xV _ (.inr aP) W.size).mono ?_;rintro e w9 ⟨rfl,aQ⟩;have aR:ai5 b.w.heap.size b.w w9:=G.trans ((W.trans aQ).mono G.size);go_wp2
 refine bodyPost_ret (v:= .tuple #[.string ⟨xV.toArray⟩,.int .i64 0,.int .i64 0]) ?_ rfl ?_
 .simp[results,Tryz.results25]
 .exact ⟨rfl,aR⟩
end
def Y4{f:List au}{H:List Ob}{r:au}{g:List Ob}(h:zA f H=some (r,g)):Call aaD 25 f H r g:=by
 unfold zA at h;split at h
 .split at h
  .rename_i a s A;split at h
   .rename_i B;cases h;obtain⟨i,rfl,j⟩:=xU A;obtain rfl:i=⟨ua.toArray⟩:=by have⟨⟨x⟩⟩:=i;simp at j;rw[j,B]
    refine⟨by kernel_rfl,fun C d k hc=>?_⟩;simp only[bU,aL,aX]at hc;obtain⟨y,I,J,⟨z,rfl,K,L,M,l,b,N,rfl,c,rfl⟩,O,P,rfl,⟨m,rfl,Q,R,S,n,T,w1,rfl,o,U,w2,rfl,p,V,w3,rfl,q,W,w4,rfl,t,rfl⟩,X,Y,rfl,u,rfl⟩:=hc
    have hn:∀v,aB v (.aj []) b:=by
     intro v;simp only[aB,bF,aiK]at c|-;rcases c with c|⟨a,cap,D,E,F,Z⟩
     .exact .inl c
     .exact .inr ⟨a,cap,D,E,F,.inl trivial⟩
    simp only[aB]at l n o p q t u;obtain⟨rfl,_⟩:=l;obtain⟨rfl,_⟩:=n;obtain⟨rfl,_⟩:=o;obtain⟨rfl,_⟩:=p;obtain⟨rfl,_⟩:=q;obtain⟨rfl,_⟩:=t;obtain⟨rfl,_⟩:=u;obtain rfl:z= #[.int .i64 2,b]:=by cases z;simp_all
    obtain rfl:m= #[.int .i64 2,.int .i64 8,.int .i64 1,.int .i64 8,.int .i64 9]:=by cases m;simp_all
    obtain rfl:k= #[.agg #[.int .i64 2,b],.agg #[.int .i64 2,.int .i64 8,.int .i64 1,.int .i64 8,.int .i64 9],.string ⟨ua.toArray⟩]:=by cases k;simp_all
    refine(XD d b hn).mono ?_;rintro e G ⟨rfl,w⟩;refine⟨_,C.to G,rfl,rfl,SG d w,uV d w,?_⟩;simp only[aL,bU];exact⟨_,rfl,_,_,rfl,⟨rfl,rfl⟩,_,_,rfl,⟨rfl,rfl⟩,_,_,rfl,⟨rfl,rfl⟩,rfl⟩
   .cases h
  .cases h
 .cases h
noncomputable abbrev Jl:bu:=kD [52,25] tz.dH
def ad3:gS Jl:=zC [52,25] tz.dH (by decide) (fun f d H r e b a=>by
 have c:f=52\/f=25:=by simpa using b
 rcases c with rfl|rfl
 .exact xW W4 (by decide) a
 .exact Y4 (gG W4 (h:=zA) (by kernel_rfl) a))
noncomputable def acB:List Ob:=((bB Jl (run Jl 60) 7 [] []).getD (.c ap,[])).2
def call7:Call aaD 7 [] [] (aR true) acB:=wU (n:=60) ad3 (by kernel_rfl)
def o7:Call aaD 7 [] [] (aR true) []:=⟨call7.1,fun j l a hc=>(call7.2 j l a hc).mono fun e t ⟨y,f,n,q,b,d,m⟩=>by
 have r:j.hs=[]:=ae4 l.len.symm;have s:=xv d
 refine⟨y,⟨f.w,f.F,f.X,[]⟩,n,q,⟨⟨b.le.F,b.le.mem,fun h i v k=>?_⟩,b.os,b.tape,b.output,b.size,b.frame,b.mu,b.kS⟩,⟨rfl,fun h o g=>by simp at g,fun h _ _ _ o _ _ _ _ g=>by simp at g,d.F,d.X,fun p hp=>⟨(d.G p hp).1,by
  have c:=s.G p hp
  simp only[sR,ae3,aiP,or_false]at hp
  rcases hp with rfl|rfl
  .have ⟨_,c⟩:=c
   simp only[lE,afL,aiO,bF,cS,aB]at c|-
   exact c
  .have ⟨_,c⟩:=c
   simp only[bF,cS,aB]at c|-
   exact c⟩⟩,?_⟩
 .rw[r]at k;simp at k
 .simp only[aL,aB]at m|-;exact m⟩
def afH:gS (@tz W1):=X1 o7
def hA:aS (@tz W1) (bB (@tz W1) (ev (@tz W1))) 0 7 []=some (aR true,[]):=by unfold aS;rw[iw (show(@tz W1).dG 7=true by kernel_rfl),show(@tz W1).dH 7=zF by kernel_rfl];rfl
instance iW12:W:=W1
def afM(H:List Ob)(x:Int):aO tz ay 297 [aa x] H=some (aR (decide (x<1)),H):=by
 have h:aS tz ay 0 297 [aa x]=some (aR (decide (x<1)),[]):=by refine be func297 rfl ?_;simp[f297]
 simp[h]
def YO(H:List Ob)(c:List Int)(e:Edge)(r:0<=e.a/\e.a<c.length)(s:0<=e.b/\e.b<c.length):aO tz ay 298 [.agg (dm e),.c (.aK [[.aj (c.map aC)]] 0 0)] H=some (aR (decide (bC c e.a=bC c e.b)),H):=by
 obtain⟨x,d⟩:∃x:Nat,e.a=x:=⟨e.a.toNat,by omega⟩;obtain⟨y,f⟩:∃y:Nat,e.b=y:=⟨e.b.toNat,by omega⟩;have g:x<c.length:=by omega
 have i:y<c.length:=by omega
 have o:=bi c
 have h:aS tz ay 0 298 [.agg (dm e),.c (.aK [[.aj (c.map aC)]] 0 0)]=some (aR (decide (bC c e.a=bC c e.b)),[]):=by
  refine be func298 rfl ?_;have⟨u,j⟩:=ak (bC c e.a);have⟨v,k⟩:=ak (bC c e.b);have l:(c.map aC)[x]?=some [I u]:=by rw[adn,aae g, <-j,d,pr g];rfl
  have m:(c.map aC)[y]?=some [I v]:=by rw[adn,aae i, <-k,f,pr i];rfl
  have⟨R,n⟩:=ak (c.map aC);have t:R.length=c.length:=by rw[<-n];simp
  rw[n]at l m|-;rw[j,k];simp only[dm,d,f];have p:x<R.length:=by omega
  have q:y<R.length:=by omega
  simp[-getElem?_pos,-aae,f298,l,m,p,q]
 simp only[dm]at h|-;simp[h,o,bA]
def Z6{g:Gr}{c:List Int}(h:fg g=true)(v:c.length=g.n.toNat)(o:∀i:Nat,i<g.n.toNat->1<=bC c i)(hp:∀e∈g.bw,bC c e.a≠bC c e.b):aS tz ay 0 247 [.agg (bR g),bh (c.map aC)]=some (aR true,[]):=by
 refine be func247 rfl ?_;have⟨w,y,z,_,_⟩:=(nm g).1 h;have k:=vS h;have d:=xk g (by omega);rw[if_pos h]at d;have p:c.any (fun x=>decide (x<1))=false:=by rw[ai4];intro x q;obtain⟨i,r,rfl⟩:=ajU.1 q;have:=o i (by omega);rw[pr r]at this;simp;omega
 have s:g.bw.any (fun e=>decide (bC c e.a=bC c e.b))=false:=by rw[ai4];intro e f;simpa using hp e f
 have l:=ww (g:=297) (caps:=[]) c (by unfold maxLen;omega) (fun x=>decide (x<1)) (by rw[(show tz.md 297=0 from rfl)];decide) rfl (bi _) (fun x _=>afM [] x);have j:=KU (g:=298) (caps:=[.aK [[.aj (c.map aC)]] 0 0]) g.bw (by unfold maxLen;omega) (fun e=>decide (bC c e.a=bC c e.b)) (by rw[(show tz.md 298=0 from rfl)];decide) (by simp[cw,bD,bA,bi]) (jX _) (fun e f=>YO [] c e (by have:=k.e e f;omega) (by have:=k.e e f;omega));rw[p]at l;rw[s]at j;have t:=bi c;have m:=jX g.bw;have hn:(c.length:Int)=g.n:=by omega
 simp only[bR]at d|-;have⟨E,u⟩:=ak (g.bw.map dm);rw[u]at d j m|-;simp[-aD,f247,hn];simp[f247,d,l,j,t,m,hn,eQ]
section
variable{H:List Ob}{q:ab}{l:List aI}{g:Gr}
def ml(H:List Ob)(q:ab)(l:List aI):Prop:=(l=[]/\q=ap)\/∃h v,l≠ []/\q= .sl h v 0 l.length/\H[h]?=some (.live v 8 (l.map ax))
def ml.aJ{H':List Ob}(h:ml H q l)(a:∀m∈rf q,H'[m]?=H[m]?):ml H' q l:=by
 rcases h with h|⟨h,v,b,rfl,c⟩
 .exact .inl h
 .exact .inr ⟨h,v,b,rfl,by rw[a h (by simp[rf])];exact c⟩
def ml.lt(h:ml H q l):∀m∈rf q,m<H.length:=by
 rcases h with⟨_,rfl⟩|⟨h,v,b,rfl,a⟩
 .intro m hm;simp[rf]at hm
 .intro m hm;simp[rf]at hm;subst hm;exact bf a
def tY(H:List Ob)(q:ab)(D:Nat->cP)(n:Nat):Prop:=(n=0/\q=ap)\/∃h v rows,n≠0/\q= .sl h v 0 n/\H[h]?=some (.live v 3 rows)/\rows.length=n/\∀k,k<n->∃r,rows[k]?=some [I (D k).id,I (D k).phase,r]/\ml H r (D k).af
def tY.aJ{H H':List Ob}{q:ab}{D:Nat->cP}{n:Nat}(h:tY H q D n)(a:∀m,m<H.length->H'[m]?=H[m]?):tY H' q D n:=by
 rcases h with h|⟨h,v,rows,d,rfl,b,e,f⟩
 .exact .inl h
 .refine .inr ⟨h,v,rows,d,rfl,by rw[a h (bf b)];exact b,e,fun k g=>?_⟩;have⟨r,i,c⟩:=f k g;exact⟨r,i,c.aJ fun m hm=>a m (c.lt m hm)⟩
def nE(l:List aI):ab:=if l=[]then ap else .aj (l.map ax)
def p7(d:cP):List ab:=[I d.id,I d.phase,nE d.af]
def nx(D:Nat->cP)(n:Nat):ab:=if n=0 then ap else .aj ((aiT n).map fun i=>p7 (D i))
def xB(l:List aI):bD (nE l)=true:=by
 unfold nE;split
 .rfl
 .simp[bD,bL]
def ml.view(h:ml H q l)(m:Nat):∃c,bV H (m+1) q=some (nE l,c):=by
 rcases h with⟨rfl,rfl⟩|⟨h,v,d,rfl,a⟩
 .exact ⟨[],by simp[nE]⟩
 .have b:=tX (lo:=0) (len:=(l.map ax).length) a (by simp);rw[akh,aiv,ahL]at b;have:=yg (n:=m) a b (bL l);exact⟨[8],by unfold nE;rw[if_neg d];exact this⟩
def KQ{g:ab->Option (ab×List Nat)}:∀(rows a:List (List ab)),rows.length=a.length->(∀k (h:k<rows.length) (m:k<a.length), ∃b,eS g rows[k]=some (a[k],b))->∃b,kg g rows=some (a,b)
 |[],[],_,_=>⟨[],rfl⟩
 |[],_::_,h,_=>by simp at h
 |_::_,[],h,_=>by simp at h
 |r::d,n::e,f,h=>by
  have⟨i,c⟩:=h 0 (by simp) (by simp)
  have⟨j,l⟩:=KQ d e (by simpa using f) fun k o p=>h (k+1) (by simp;omega) (by simp;omega)
  simp only[List.getElem_cons_zero]at c
  exact⟨i++j,by simp only[kg,c,l]⟩
def Wh{rows rows':List (List ab)}(f:rows.length=rows'.length)(h:∀k (h:k<rows.length) (o:k<rows'.length), ∃c,eS (bV H 6) rows[k]=some (rows'[k],c)):∃c,jg (bV H 6) rows=some (rows',c):=by
 unfold jg;split
 .rename_i g
  have:rows=rows':=by
   refine List.ext_getElem f fun k b i=>?_;have⟨c,e⟩:=h k b i
   have j:cw rows[k]=true:=by
    have m:∀(l:List (List ab)) (k:Nat) (b:k<l.length),bA l=true->cw l[k]=true:=by
     intro l;induction l with
     |nil=>intro k b;simp at b
     |cons a r n=>
      intro k b d;simp only[bA,aa2]at d;cases k with
      |zero=>exact d.1
      |succ k=>exact n k (by simpa using b) d.2
    exact m rows k b g
   rw[nB j]at e;injection e with e;injection e
  exact⟨[],by rw[this]⟩
 .exact KQ rows rows' f h
def tY.view{H:List Ob}{q:ab}{D:Nat->cP}{n:Nat}(h:tY H q D n):fw true H ([],[]) q=some (nx D n,[],[]):=by
 rcases h with⟨rfl,rfl⟩|⟨h,v,rows,f,rfl,b,c,g⟩
 .rfl
 .have ⟨d,j⟩:=Wh (H:=H) (rows:=rows) (rows':=(aiT n).map fun i=>p7 (D i)) (by simpa using c) fun k l s=>by have⟨r,a,m⟩:=g k (by omega);have⟨d,o⟩:=m.view 5;rw[aae l]at a;injection a with a;rw[a];simp only[List.getElem_map,List.getElem_range,p7];refine⟨d,?_⟩;simp only[eS];rw[o];simp
  have e:=tX (lo:=0) (len:=rows.length) b (by simp);rw[akh,aiv,c]at e;have p:obj H h v=some (3,rows):=by unfold obj;rw[b];simp
  simp only[fw,bD,p,e,j,nx,if_neg f];simp
def afD{n i:Nat}(a:qH g n)(hn:n<=64)(b:i<n):(ee g i).length<64:=by have:=(Iu a hn [] b).1;have:=(iq.1 (by unfold dv at this;simp only[aa2]at this;exact this.1.1.1:dE (iM g [] i).dr=true)).1;have:=(jA.1 this).2.2.2.1;simpa[iM,kj,pZ,dA]using this
def V0{c:List Int}(Y:fg g=true)(hl:c.length=g.n.toNat)(h1:∀i:Nat,i<g.n.toNat->1<=bC c i)(hp:∀aG∈g.bw,bC c aG.a≠bC c aG.b):
  aS tz ay 1 169 [.agg (bR g),bh (c.map aC)]=some (.aM [.c (nx (dA g c) g.n.toNat),aa 0],[]):=by
 refine be func169 rfl ?_
 simp only[f169,bX]
 have⟨g0,bc,g4,_,_⟩:=(nm g).1 Y
 have gi:=vS Y
 have Z:=xk g (by omega)
 rw[if_pos Y]at Z
 have ad:=Z6 Y hl h1 hp
 have ae:=fun i=>Tf g Y i
 have hf:=bi c
 have hE:=jX g.bw
 have⟨n,hn⟩:=ak g.n.toNat
 have aX:g.n=(n:Int):=by omega
 rw[hn]at gi hl|-
 have aq:∀ag:Nat,ag<n->(c.map aC)[ag]?=some [I (bC c ag)]:=fun ag hx=>by
  rw[adn,aae (by omega),pr (by omega)];rfl
 simp only[bR]at Z ad ae|-
 rw[aX]at Z ad ae|-
 have⟨E,aY⟩:=ak (g.bw.map dm)
 rw[aY]at Z ad ae hE|-
 have⟨R,hR⟩:=ak (c.map aC)
 have aH:R.length=n:=by rw[<-hR];simpa using hl
 rw[hR]at ad hf aq|-
 refine bp [(2,.c (.aK [[I n,.aj E]] 0 0)),(1,bh R)] (fun G=>G=[]) ?_ ?_
 .simp
 rintro A G⟨O,P,_⟩rfl
 refine bp [(2,.c (.aK [[I n,.aj E]] 0 0)),(1,bh R)] (fun G=>G=[]) ?_ ?_
 .simp[O,P,Z,hE]
 rintro A G⟨O,P,_⟩rfl
 refine bp [(2,.c (.aK [[I n,.aj E]] 0 0)),(1,bh R)] (fun G=>G=[]) ?_ ?_
 .simp[O,P,ad,hE,hf]
 rintro A G⟨O,P,_⟩rfl
 refine bp [(2,.c (.aK [[I n,.aj E]] 0 0)),(1,bh R),(7,.c ap)] (fun G=>G=[]) ?_ ?_
 .simp[O,P]
 rintro A G⟨O,P,a7,_⟩rfl
 rw[iY]
 refine Ends.sq ?_
 refine bp [(1,bh R),(2,.c (.aK [[I n,.aj E]] 0 0)),(23,aa n),(24,aa (0:Nat)),(7,.c ap)] (fun G=>G=[]) ?_ ?_
 .simp[P,O,a7]
 rintro A G e rfl
 rw[eD]
 refine im (fun p:Nat×ab=>[(1,bh R),(2,.c (.aK [[I n,.aj E]] 0 0)),(23,aa n),(24,aa p.1),(7,.c p.2)]) (fun p G=>p.1<=n/\tY G p.2 (dA g c) p.1) (fun p=>n-p.1) ?_ (0,ap) e ⟨by omega,.inl ⟨rfl,rfl⟩⟩ fun _=>rfl
 rintro⟨i,q⟩A G⟨s,t,w,o,x,_⟩⟨g2,g3⟩
 simp only at s t w o x g2 g3
 by_cases d:i<n
 case neg=>
  have hi:i=n:=by omega
  rw[hi]at g3 o
  simp[-fw,s,t,w,o,x]
  rw[g3.view]
  rfl
 rw[fK]
 refine bp [(1,bh R),(2,.c (.aK [[I n,.aj E]] 0 0)),(23,aa n),(24,aa i),(7,.c q)] (fun ar=>ar=G) ?_ ?_
 .simp[s,t,w,o,x,d]
 rintro A U e V
 obtain rfl:G=U:=V.symm
 simp at e
 have⟨s,t,w,o,x⟩:=e
 have hw:ads.wrap ((i:Int)+1)=((i+1:Nat):Int):=cr (by omega)
 have⟨b,hb⟩:=ak G.length
 have⟨f,aI⟩:=ak (ee g i)
 have au:=F2 gi d
 have aZ:=afD gi (by omega) d
 have aL:=ae i
 have a0:(dA g c i).af=f.map (iD c i):=by rw[<-aI];rfl
 rw[aI]at au aZ aL
 refine ef (fun S=>S.bH=[]/\∃q',Has S.env [(1,bh R),(2,.c (.aK [[I n,.aj E]] 0 0)),(23,aa n),(24,aa i),(7,.c q')]/\tY S.heap q' (dA g c) (i+1)) ?_ ?_
 .rw[eD]
  refine Ends.bl ?_
  rw[fK]
  refine bp [(1,bh R),(2,.c (.aK [[I n,.aj E]] 0 0)),(23,aa n),(24,aa i),(7,.c q),(8,aa i),(9,aw b)] (fun ar=>ar=G++[ah 3 [[I i,I 0,ap]]]) ?_ ?_
  .simp[s,t,w,o,x,hb]
  rintro A U e V
  have t1:U[b]?=some (ah 3 [[I i,I 0,ap]]):=by rw[V, <-hb];simp
  have low:∀m,m<b->U[m]?=G[m]?:=fun m hm=>by rw[V,aaK (by omega)]
  have ai:U.length=b+1:=by rw[V];simp;omega
  clear V
  refine ef (fun S=>S.bH=[]/\∃r,Has S.env [(1,bh R),(2,.c (.aK [[I n,.aj E]] 0 0)),(23,aa n),(24,aa i),(7,.c q),(9,aw b)]/\S.heap[b]?=some (ah 3 [[I i,I 0,r]])/\ml S.heap r (f.map (iD c i))/\(∀m,m<b->S.heap[m]?=G[m]?)) ?_ ?_
  .refine bp [(1,bh R),(2,.c (.aK [[I n,.aj E]] 0 0)),(23,aa n),(24,aa i),(7,.c q),(8,aa i),(9,aw b),(31,bd (b+1) 0 0 f.length),(32,aa f.length),(33,aa (0:Nat))] (fun G=>G=U++[ah 1 (f.map aC)]) ?_ ?_
   .simp at e
    have⟨s,t,w,o,x,b8,J⟩:=e
    simp[s,t,w,o,x,b8,J,aL,cy,hE,ai]
   rintro A G3 e al
   have aN:G3[b]?=some (ah 3 [[I i,I 0,ap]]):=by rw[al,aaK (by omega)];exact t1
   have aO:G3[b+1]?=some (ah 1 (f.map aC)):=by rw[al, <-ai];simp
   have aP:∀m,m<b->G3[m]?=G[m]?:=fun m hm=>by rw[al,aaK (by omega)];exact low m hm
   clear al t1 low ai
   rw[eD]
   refine Ends.bl (gO (fun p:Nat×ab=>[(1,bh R),(2,.c (.aK [[I n,.aj E]] 0 0)),(23,aa n),(24,aa i),(7,.c q),(8,aa i),(9,aw b),(31,bd (b+1) 0 0 f.length),(32,aa f.length),(33,aa p.1)]) (fun p G'=>p.1<=f.length/\G'[b]?=some (ah 3 [[I i,I 0,p.2]])/\G'[b+1]?=some (ah 1 (f.map aC))/\ml G' p.2 ((f.take p.1).map (iD c i))/\(∀m∈rf p.2,b+1<m)/\∀m,m<b->G'[m]?=G[m]?) [] (fun p=>f.length-p.1) _ [1,2,23,24,7,8,9,31,32,33] (fun _=>rfl) ?_ (0,ap) _ e ⟨by omega,aN,aO,.inl ⟨rfl,rfl⟩,by simp[rf],aP⟩ rfl)
   clear e aN aO aP s t w o x
   rintro⟨j,r⟩⟨A,G4,ds⟩e⟨g2,z,F,C,k4,M⟩g6
   simp only at e g2 z F C k4 M g6
   subst g6
   simp at e
   have⟨s,t,w,o,x,b8,J,av,az,aA⟩:=e
   by_cases Q:j<f.length
   case neg=>
    have hj:f.take j=f:=ach (by omega)
    rw[hj]at C
    simp[-ai6,-akH,s,t,w,o,x,b8,J,av,az,aA,Q]
    exact⟨r,z,C,M⟩
   obtain⟨y,hy⟩:∃y:Nat,f[j]=y:=⟨f[j].toNat,by have:=au _ (air Q);omega⟩
   have aB:y<n:=by have:=au _ (air Q);omega
   have m1:(f.map aC)[j]?=some [I y]:=by rw[adn,aae Q,hy];rfl
   have m2:=aq i d
   have m3:=aq y aB
   have aQ:ads.wrap ((j:Int)+1)=((j+1:Nat):Int):=cr (by omega)
   have⟨L,hL⟩:=ak ((f.take j).map (iD c i))
   have bg:L.length<=64:=by rw[<-hL];simp;omega
   have ho:(f.take (j+1)).map (iD c i)=L++[iD c i y]:=by
    rw[aiB,aae Q,hy,agA,hL];rfl
   rw[hL]at C
   have⟨u,hu⟩:=ak (bC c (i:Int))
   have⟨v,hv⟩:=ak (bC c (y:Int))
   have am:ax (iD c i y)=[I y,I 1,I 0,B (decide (u>v)),B (decide (u>v)),B (!decide (u>v)),B (decide (u>v)),B (!decide (u>v))]:=by simp only[iD,ax,hu,hv]
   rw[hu]at m2
   rw[hv]at m3
   have⟨S1,aD⟩:=ak (ax (iD c i y))
   rw[aD]at am
   have⟨NR,an⟩:=ak (f.map aC)
   have aR:NR.length=f.length:=by rw[<-an];simp
   rw[an]at F m1
   have aT:=bf F
   have bj:f.length<=NR.length:=by omega
   have iR:i<R.length:=by omega
   have yR:y<R.length:=by omega
   have gb:∀K,(G4++K)[b]?=some (ah 3 [[I i,I 0,r]]):=fun K=>by rw[aaK (bf z)];exact z
   have⟨a1,ht⟩:=ak (decide (v<u))
   have a2:decide (u>v)=a1:=ht
   rw[a2]at am
   rcases C with⟨a3,rfl⟩|⟨h,H,a4,rfl,T⟩
   .simp[-ai6,-akH,-getElem?_pos,-aae,-ac7,s,t,w,o,x,b8,J,av,az,aA,Q,m1,m2,m3,z,F,aQ,iR,yR,d,aB,aH,aR,gb,ht]
    rw[<-an]at F
    refine⟨j+1,by omega,rfl,by omega,.sl (G4.length+1) 0 0 1,ba (gb _),?_,?_,fun m hm=>?_,fun m hm=>?_⟩
    .rw[aaK aT];exact F
    .rw[ho,a3]
     refine .inr ⟨G4.length+1,0,by simp,by simp,?_⟩
     rw[aay (by omega),jd]
     simp only[aiy,afL,aiO,aD,am]
     rfl
    .simp[rf]at hm;omega
    .rw[aay (by omega),aaK (by omega)];exact M m hm
   .have W:∀K,(G4++K)[h]?=some (.live H 8 (L.map ax)):=fun K=>by rw[aaK (bf T)];exact T
    have bk:b+1<h:=k4 h (by simp[rf])
    have⟨LR,aE⟩:=ak (L.map ax)
    have a5:LR.length=L.length:=by rw[<-aE];simp
    rw[aE]at T W
    have n1:L.length+1<=maxLen:=by unfold maxLen;omega
    have n2:(L.length+1)*32<=140737488355328:=by omega
    have aU:∀K aV,((G4++K).set h aV)[b]?=some (ah 3 [[I i,I 0,.sl h H 0 L.length]]):=fun K aV=>by rw[aay (by omega)];exact gb K
    have aF:LR.take L.length=LR:=ach (by omega)
    simp[-ai6,-akH,-getElem?_pos,-aae,-ac7,s,t,w,o,x,b8,J,av,az,aA,Q,m1,m2,m3,z,F,aQ,iR,yR,d,aB,aH,aR,gb,ht,W,T,n1,n2,aF,a5,aU]
    rw[<-an]at F
    refine⟨j+1,by omega,rfl,by omega,.sl h (H+1) 0 (L.length+1),ba (aU _ _),?_,?_,fun m hm=>?_,fun m hm=>?_⟩
    .rw[aay (by omega),aaK aT];exact F
    .rw[ho]
     refine .inr ⟨h,H+1,by simp,by simp,?_⟩
     rw[aay (by omega),ba (W _),agA,aE]
     simp only[afL,aiO,aD,am]
    .simp[rf]at hm;omega
    .rw[aay (by omega),aay (by omega),aaK (by omega)];exact M m hm
  clear e t1 low ai
  rintro⟨A,N,ds⟩⟨rfl,r,e,z,C,M⟩
  simp only at e z C M
  simp at e
  have⟨s,t,w,o,x,J⟩:=e
  have lb:=bf z
  have gb:∀K,(N++K)[b]?=some (ah 3 [[I i,I 0,r]]):=fun K=>by rw[aaK lb];exact z
  have a6:∀k,k<i->∀D,ml G D (dA g c k).af->ml N D (dA g c k).af:=fun k hk D X=>X.aJ fun m hm=>M m (by have:=X.lt m hm;omega)
  have bm:∀k,(dA g c k).id=(k:Int)/\(dA g c k).phase=0:=fun k=>⟨rfl,rfl⟩
  rw[<-a0]at C
  rcases g3 with⟨rfl,rfl⟩|⟨h,H,rows,a4,rfl,T,aW,a8⟩
  .simp[-ai6,-akH,-ac7,s,t,w,o,x,J,z]
   refine .inr ⟨N.length+1,0,[[I 0,I 0,r]],by simp,rfl,by rw[jd];rfl,rfl,fun k hk=>⟨r,?_,?_⟩⟩
   .obtain rfl:k=0:=by omega
    rfl
   .obtain rfl:k=0:=by omega
    exact C.aJ fun m hm=>aaK (C.lt m hm)
  .have a9:h<b:=by rw[<-hb];exact bf T
   have ao:N[h]?=some (.live H 3 rows):=by rw[M h a9];exact T
   have W:∀K,(N++K)[h]?=some (.live H 3 rows):=fun K=>by rw[aaK (bf ao)];exact ao
   have n1:i+1<=maxLen:=by unfold maxLen;omega
   have n2:(i+1)*40<=140737488355328:=by omega
   have aF:rows.take i=rows:=ach (by omega)
   simp[-ai6,-akH,-ac7,s,t,w,o,x,J,z,ao,W,n1,n2,aF,aW]
   refine .inr ⟨h,H+1,rows++[[I i,I 0,r]],by omega,rfl,ba (W _),by simp;omega,fun k hk=>?_⟩
   have up:∀D l,ml N D l->ml ((N++[Ob.live 0 3 [[I i,I 0,r]]]).set h (Ob.live (H+1) 3 (rows++[[I i,I 0,r]]))) D l:=fun D l X=>by
    refine X.aJ fun m hm=>?_
    rw[aay,aaK (X.lt m hm)]
    rintro rfl
    rcases X with⟨_,rfl⟩|⟨h',bn,_,rfl,hx⟩
    .simp[rf]at hm
    .simp[rf]at hm
     subst hm
     rw[ao]at hx
     cases hx
   by_cases bb:k=i
   .subst bb
    exact⟨r,by rw[ad8 (by omega),aW,ajx];rfl,up _ _ C⟩
   .have ⟨D,e1,e2⟩:=a8 k (by omega)
    exact⟨D,by rw[aaK (by omega)];exact e1,up _ _ (a6 k (by omega) D e2)⟩
 clear s t w o x
 rintro⟨A,N,ds⟩⟨rfl,q',e,z⟩
 simp only at e z
 simp at e
 have⟨s,t,w,o,x⟩:=e
 simp[-ac7,s,t,w,o,x,hw]
 exact⟨i+1,by omega,q',⟨rfl,rfl⟩,by omega,z⟩
end
section
variable{g:Gr}{c:List Int}{k z n:Nat}{H:List Ob}{q:ab}{rows:List (List ab)}
def oG(D:Nat->cP)(n:Nat):List (List ab):=(aiT n).map fun i=>p7 (D i)
def Ye(D:Nat->cP)(n:Nat):da (nx D n)= .aj (oG D n):=by
 unfold nx oG;split
 .rename_i h;subst h;rfl
 .rfl
def Vr(D:Nat->cP)(n:Nat):bD (nx D n)=true:=by
 unfold nx;split
 .rfl
 .exact je _ (fun i=>by simp[p7,cw,xB,bD]) _
def QJ{b:Type}(f:b->List ab)(a:List Nat)(h:∀x,a.contains (f x).length=false/\cW a (f x)=true)(l:List b):ij a (l.map f)=true:=by
 induction l with
 |nil=>rfl
 |cons x r c=>simp only[afL,ij,(h x).1,(h x).2,c];rfl
def af0(l:List aI):fZ [1] (nE l)=true:=by
 unfold nE;split
 .rfl
 .exact QJ _ _ (fun x=>⟨rfl,rfl⟩) _
def aaB(D:Nat->cP)(n:Nat):fZ [1] (nx D n)=true:=by
 unfold nx;split
 .rfl
 .exact QJ _ _ (fun i=>⟨rfl,by simp only[p7,cW,af0,fZ];rfl⟩) _
def Ua(m:fg g=true)(hc:oZ g=some (c,k))(s:c.length=g.n.toNat)(t:∀i:Nat,i<g.n.toNat->1<=bC c i)(hp:∀e∈g.bw,bC c e.a≠bC c e.b):
  aS tz ay 1 104 [.agg (bR g)]=some (.aM [.agg [.aj (oG (dA g c) g.n.toNat),.aj []],aa 0],[]):=by
 refine be func104 rfl ?_
 have f:=W8 g m hc
 have d:=V0 m s t hp
 have h:=jX g.bw
 have⟨n,hn⟩:=ak g.n.toNat
 rw[hn]at d|-
 have t1:=Ye (dA g c) n
 have t2:=Vr (dA g c) n
 have t3:=aaB (dA g c) n
 have t4:bA (oG (dA g c) n)=true:=je _ (fun i=>by simp[p7,cw,xB,bD]) _
 have t0:nx (dA g c) n=ap\/∃r,nx (dA g c) n= .aj r:=by
  unfold nx
  split
  .exact .inl rfl
  .exact .inr ⟨_,rfl⟩
 have⟨Q,o⟩:=ak (nx (dA g c) n)
 rw[o]at t0
 have⟨T,u⟩:=ak (oG (dA g c) n)
 rw[o]at d t1 t2 t3
 rw[u]at t1 t4|-
 simp only[bR]at f d|-
 have⟨E,v⟩:=ak (g.bw.map dm)
 have⟨R,j⟩:=ak (c.map aC)
 have p:R.length=c.length:=by rw[<-j];simp
 have q:bA R=true:=by rw[<-j];exact bi c
 have tk:R.take c.length=R:=ach (by omega)
 rw[v]at f d h|-
 rw[j]at f d
 rcases t0 with rfl|⟨r,rfl⟩
 .simp only[abQ]at t1
  simp[-ai6,f104,f,d,h,q,p,tk,t1,t2,t3,t4]
 .have l:ab.aj r= .aj T:=t1
  injection l with l
  subst l
  simp only[fZ]at t3
  simp only[bD]at t2
  simp[-ai6,f104,f,d,h,q,p,tk,t2,t3,t4]
def og(d:cP):List ab:=[I d.id,I d.phase,nE d.af,I 0,ap]
def mY(D:Nat->cP)(n:Nat):List (List ab):=(aiT n).map fun i=>og (D i)
def ae7(D:Nat->cP)(n:Nat):mY D (n+1)=mY D n++[og (D n)]:=by unfold mY;rw[ajX,agA];rfl
def MR(D:Nat->cP)(n:Nat):bA (mY D n)=true:=je _ (fun i=>by simp[og,cw,xB,bD]) _
def oR(H:List Ob)(z:Nat)(q:ab)(n:Nat)(rows:List (List ab)):Prop:=(n=0/\q=ap)\/∃h v,n≠0/\q= .sl h v 0 n/\H[h]?=some (.live v z rows)/\rows.length=n
def oR.view(h:oR H z q n rows)(c:bA rows=true)(d:n=0->rows=[]):fw true H ([],[]) (da q)=some (.aj rows,[],[]):=by
 rcases h with⟨rfl,rfl⟩|⟨h,v,g,rfl,a,e⟩
 .rw[d rfl];rfl
 .have b:=tX (lo:=0) (len:=rows.length) a (by simp);rw[akh,aiv,e]at b;have f:obj H h v=some (z,rows):=by unfold obj;rw[a];simp
  show fw true H ([],[]) (.sl h v 0 n)=_;simp only[fw,bD,f,b,jg,c];simp
def oR.aJ{H':List Ob}(h:oR H z q n rows)(a:∀m∈rf q,H'[m]?=H[m]?):oR H' z q n rows:=by
 rcases h with h|⟨h,v,b,rfl,c,d⟩
 .exact .inl h
 .exact .inr ⟨h,v,b,rfl,by rw[a h (by simp[rf])];exact c,d⟩
def p65(J:fg g=true)(hc:oZ g=some (c,k))(S:c.length=g.n.toNat)(U:∀i:Nat,i<g.n.toNat->1<=bC c i)(hp:∀e∈g.bw,bC c e.a≠bC c e.b):
  aS tz ay 1 65 [.agg (bR g)]=some (.aM [.agg [.aj (mY (dA g c) g.n.toNat),.aj []],aa 0],[]):=by
 refine be func65 rfl ?_
 simp only[f65,bX]
 have l:=Ua J hc S U hp
 have an:=((nm g).1 J).2.1
 have L:=jX g.bw
 have⟨n,hn⟩:=ak g.n.toNat
 rw[hn]at l|-
 have t4:bA (oG (dA g c) n)=true:=je _ (fun i=>by simp[p7,cw,xB,bD]) _
 have t5:∀i,i<n->(oG (dA g c) n)[i]?=some (p7 (dA g c i)):=fun i x=>by
  unfold oG
  rw[adn,ajA x];rfl
 have t6:(oG (dA g c) n).length=n:=by simp[oG]
 have⟨T,V⟩:=ak (oG (dA g c) n)
 rw[V]at l t4 t5 t6
 simp only[bR]at l|-
 have⟨E,W⟩:=ak (g.bw.map dm)
 rw[W]at l L|-
 refine bp [(1,.c (.aK [[I g.n,.aj E]] 0 0)),(2,aw 0)] (fun G=>G=[ah 2 [[ap,ap]]]) ?_ ?_
 .simp
 rintro o G⟨Y,f,_⟩rfl
 refine bp [(4,aw 1),(5,aa 0),(2,aw 0)] (fun G=>G=[ah 2 [[ap,ap]],ah 2 [[.aj T,.aj []]]]) ?_ ?_
 .simp[Y,f,l,L,t4]
 rintro o G⟨p,Z,f,_⟩rfl
 refine bp [(4,aw 1),(2,aw 0)] (fun G=>G=[ah 2 [[ap,ap]],ah 2 [[.aj T,.aj []]]]) ?_ ?_
 .simp[p,Z,f]
 rintro o G⟨p,f,_⟩rfl
 refine bp [(4,aw 1),(6,aw 2),(2,aw 0)] (fun G=>G=[ah 2 [[ap,ap]],ah 2 [[.aj T,.aj []]],ah 2 [[ap,ap]]]) ?_ ?_
 .simp[p,f]
 rintro o G⟨p,a6,f,_⟩rfl
 rw[iY]
 refine Ends.sq ?_
 refine bp [(2,aw 0),(6,aw 2),(19,bh T),(20,aa n),(21,aa (0:Nat))] (fun G=>G=[ah 2 [[ap,ap]],ah 2 [[.aj T,.aj []]],ah 2 [[ap,ap]]]) ?_ ?_
 .simp[p,a6,f,t6]
 rintro o G g1 rfl
 rw[eD]
 refine im (fun i:Nat=>[(2,aw 0),(6,aw 2),(19,bh T),(20,aa n),(21,aa i)]) (fun i G=>i<=n/\G[0]?=some (ah 2 [[ap,ap]])/\∃q,G[2]?=some (ah 2 [[q,ap]])/\oR G 5 q i (mY (dA g c) i)/\∀m∈rf q,2<m) (fun i=>n-i) ?_ 0 g1 ⟨by omega,rfl,ap,rfl,.inl ⟨rfl,rfl⟩,by simp[rf]⟩ fun _=>rfl
 rintro i o G⟨y,z,A,B,t,_⟩⟨g2,u,q,r,C,M⟩
 by_cases d:i<n
 case neg=>
  have x:i=n:=by omega
  rw[x]at C t
  have hv:=oR.view (C.aJ (H':=G.set 0 (ah 2 [[q,ap]])) fun m hm=>by rw[aay (by have:=M m hm;omega)]) (MR _ _) (fun h=>by rw[h];rfl)
  have ab:(G.set 0 (ah 2 [[q,ap]]))[0]?=some (ah 2 [[q,ap]]):=ba u
  simp[-fw,y,z,A,B,t,u,r,ab]
  rw[hv]
  rfl
 have s:=t5 i d
 simp only[p7]at s
 have⟨ad,N⟩:=ak (nE (dA g c i).af)
 have ae:og (dA g c i)=[I (dA g c i).id,I (dA g c i).phase,ad,I 0,ap]:=by simp only[og,N]
 have j:=ae7 (dA g c) i
 rw[ae]at j
 rw[N]at s
 have O:ads.wrap ((i:Int)+1)=((i+1:Nat):Int):=cr (by omega)
 have⟨x1,ag⟩:=ak ((dA g c i).id)
 have⟨x2,ai⟩:=ak ((dA g c i).phase)
 rw[ag,ai]at s j
 have l3:=bf r
 have D:∀K,(G++K)[0]?=some (ah 2 [[ap,ap]]):=fun K=>by rw[aaK (bf u)];exact u
 have F:∀K,(G++K)[2]?=some (ah 2 [[q,ap]]):=fun K=>by rw[aaK l3];exact r
 rcases C with⟨rfl,rfl⟩|⟨h,v,ao,rfl,w,P⟩
 .simp[-fw,-getElem?_pos,-aae,-ac7,y,z,A,B,t,r,D,F,s,d,t6,O]
  refine⟨1,by omega,rfl,by omega,.inr ⟨G.length+2,0,by simp,rfl,?_,by simp[mY]⟩,fun m hm=>by simp[rf]at hm;omega⟩
  rw[aay (by omega),ad8 (by omega),show G.length+2-G.length=2 from by omega,j]
  rfl
 .have ⟨H,al⟩:=ak (mY (dA g c) i)
  rw[al]at w P j
  have aq:2<h:=M h (by simp[rf])
  have Q:∀K,(G++K)[h]?=some (.live v 5 H):=fun K=>by rw[aaK (bf w)];exact w
  have R:∀K X,((G++K).set h X)[2]?=some (ah 2 [[.sl h v 0 i,ap]]):=fun K X=>by rw[aay (by omega)];exact F K
  have n1:i+1<=maxLen:=by unfold maxLen;omega
  have n2:(i+1)*72<=140737488355328:=by omega
  have am:H.take i=H:=ach (by omega)
  simp[-fw,-getElem?_pos,-aae,-ac7,y,z,A,B,t,r,D,F,R,Q,w,s,d,t6,O,n1,n2,am,P]
  refine⟨i+1,by omega,rfl,by omega,by rw[aay (by omega)];exact D _,_,ba (R _ _),.inr ⟨h,v+1,by omega,rfl,?_,by rw[j];simp;omega⟩,fun m hm=>by simp[rf]at hm;omega⟩
  rw[aay (by omega),ba (Q _),j]
end
end Go.Nx
