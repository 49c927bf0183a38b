/- A part of the proof. -/
import Derived.Test.YtndifkmolciiaaaGreatDoorX00
set_option linter.all false
set_option maxRecDepth 8000
set_option maxHeartbeats 1000000
open Array renaming replicate->akW
open Go renaming method->aln
open Go.Builtin renaming firstCells->aiY,zeroCells->ais
open Go.Call renaming operands->aiG
open Go.Extern.SlicesOverlaps renaming overlaps->akA
open Go.Instr renaming sliceAt->aju,sliceBounds->ajS,slice->akK,typeAssert->alp
open Go.IntKind renaming i64->ads,u8->aja
open Go.Op renaming operands->ac8
open Go.Proofs.Lays renaming n189->amB
open Go.Proofs.Tryz renaming prog->aaD,prog->amA
open Go.Region renaming binds->ajR,ready->akq,wanted->ak0
open Go.Result renaming andThen->ai7
open Go.Shelf renaming Ren->amg
open Go.Sort renaming ahead->ajI,grow->akg
open Go.Value renaming int->ajl,oneCell'->aiq
open Go.World renaming setCell->alq,shape?->amw
open Int renaming natCast_add->ac7
open List renaming append_assoc->aio,getElem?_eq_getElem->aae,getElem?_set_self->afN,length_append->afu,length_drop->ajV,map_append->agA,map_map->ai6,range->aiT,replicate->ago,take_take->alZ,take->ajo
open Nat renaming beq->ajt,ble->ak1,strongRecOn->amt
open UInt8 renaming ofNat->alU
namespace Go.Nx
variable{n:Nat}{l:ab}{v':au}{y:Value}
theorem Ux(rows:List (List ab)):bA rows=true↔ ∀r∈rows,cw r=true:=by
 induction rows with
 |nil=>simp[bA]
 |cons r b a=>simp[bA,a]
theorem T9(a:List ab):cw a=true↔ ∀l∈a,bD l=true:=by
 induction a with
 |nil=>simp[cw]
 |cons r c b=>simp[cw,b]
theorem GP{g:ab->Option (ab×List Nat)}(e:∀l f bs,g l=some (f,bs)->bD f=true):∀d c bs,eS g d=some (c,bs)->cw c=true
 |[],c,bs,h=>by
  simp only[eS,abj,aca]at h
  obtain⟨rfl,rfl⟩:=h
  rfl
 |l::d,c,bs,h=>by
  simp only[eS]at h
  split at h
  .rename_i a x b y i j
   cases h
   simp only[cw,e _ _ _ i,GP e d b y j,ak8]
  .cases h
theorem Sk{g:ab->Option (ab×List Nat)}(f:∀l e bs,g l=some (e,bs)->bD e=true){d c:List (List ab)}{bs:List Nat}(h:jg g d=some (c,bs)):bA c=true:=by
 unfold jg at h;split at h
 .rename_i i;cases h;exact i
 .have j:∀(d c:List (List ab)) (bs:List Nat),kg g d=some (c,bs)->bA c=true:=by
   intro d;induction d with
   |nil=>intro c bs h;simp only[kg,abj,aca]at h;obtain⟨rfl,rfl⟩:=h;rfl
   |cons r d k=>
    intro c bs h;simp only[kg]at h;split at h
    .rename_i a x b y m n;cases h;simp only[bA,GP f _ _ _ m,k b y n,ak8]
    .cases h
  exact j _ _ _ h
theorem yh{H:List Ob}:∀n l b bs,bV H n l=some (b,bs)->bD b=true
 |0,l,b,bs,h=>by simp[bV]at h
 |n+1,l,b,bs,h=>by
  simp only[bV]at h
  split at h
  .rename_i c
   cases h
   exact c
  .split at h
   .split at h
    .split at h
     .rename_i a
      cases h
      simpa[bD]using Sk (yh n) a
     .cases h
    .cases h
   .split at h
    .split at h
     .rename_i a
      cases h
      simpa[bD]using Sk (yh n) a
     .cases h
    .cases h
   .split at h
    .rename_i a
     cases h
     simpa[bD]using GP (yh n) _ _ _ a
    .cases h
   .cases h
theorem Cb(h:bD l=true):dZ n l=l:=by
 cases l with
 |ptr=>simp[bD]at h
 |sl=>simp[bD]at h
 |mr=>simp[bD]at h
 |mi=>simp[bD]at h
 |_=>rfl
theorem I1{rows:List (List ab)}(h:bA rows=true):(rows.map fun r=>r.map (dZ n))=rows:=by rw[Ux]at h;refine(ajm fun r a=>?_).trans (List.map_id rows);have:=(T9 r).1 (h r a);exact(ajm fun l b=>Cb (this l b)).trans (List.map_id r)
theorem SB{H:List Ob}{p a:List Nat×List Ob}{b:ab}(h:fw true H p l=some (b,a)):a=p:=by
 unfold fw at h;split at h
 .cases h;rfl
 .split at h
  .split at h
   .rw[if_pos rfl]at h;split at h
    .cases h;rfl
    .cases h
   .cases h
  .cases h
theorem M0{H:List Ob}:∀ {c b:List ab} {p a:List Nat×List Ob},qj true H p c=some (b,a)->a=p
 |[],b,p,a,h=>by simp only[qj,abj,aca]at h;exact h.2.symm
 |l::c,b,p,a,h=>by
  simp only[qj]at h
  split at h
  .rename_i d
   split at h
   .rename_i e
    cases h
    rw[M0 e,SB d]
   .cases h
  .cases h
theorem Rp{H:List Ob}{v:au}{p b:List Nat×List Ob}(h:sM true H p v=some (v',b)):b=p:=by
 unfold sM at h;split at h
 .split at h
  .rename_i a;cases h;exact SB a
  .cases h
 .split at h
  .rename_i a;cases h;exact M0 a
  .cases h
 .cases h
theorem P0{H:List Ob}:∀ {c b:List au} {p a:List Nat×List Ob},outs true H p c=some (b,a)->a=p
 |[],b,p,a,h=>by simp only[outs,abj,aca]at h;exact h.2.symm
 |l::f,g,p,a,h=>by
  simp only[outs]at h
  split at h
  .rename_i d
   split at h
   .rename_i e
    cases h
    rw[P0 e,Rp d]
   .cases h
  .cases h
theorem Yj{H:List Ob}{v:au}{own:List Ob}(h:dF true H v=some (v',own)):own=[]:=by
 unfold dF at h;split at h
 .split at h
  .rename_i a;cases h;have:=P0 a;simp only[aca]at this;exact this.2
  .cases h
 .split at h
  .rename_i a;cases h;have:=Rp a;simp only[aca]at this;exact this.2
  .cases h
theorem Gk{Γ1 Γ2:az}{bs:List Nat}(d:Γ2.w=Γ1.w)(e:∀b z,Γ1.F b z->Γ2.F b z\/z∈bs){b c:Nat}:∀(rows:List (List ab)) (a:Nat),bA rows=true->(bs=[]\/∀r∈rows,cW bs r=true)->bF Γ1 b c a rows->bF Γ2 b c a rows
 |[],a,_,_,_=>by simp[bF]
 |r::f,a,h,hn,hc=>by
  simp only[bA,aa2]at h
  simp only[bF]at hc|-
  exact⟨hc.1,AN d e b a r h.1 (hn.imp id fun h=>h r (by simp)) hc.2.1,Gk d e f (a+c) h.2 (hn.imp id fun h=>fun q g=>h q (by simp[g])) hc.2.2⟩
def uJ(Γ:az)(H:List Ob)(b z:Nat):Prop:= ∃(h a:Nat) (rows:List (List ab)) (c:ft),H[h]?=some (.live a z rows)/\Γ.hs[h]?=some (c,a)/\c.base=some b
theorem uJ.own{Γ:az}{H:List Ob}(hok:aZ Γ H){b z:Nat}(h:uJ Γ H b z):Γ.X b/\∀z, ¬Γ.F b z:=by have⟨h,e,rows,f,a,c,d⟩:=h;exact(hok.ob h _ a).own rfl c d
def az.mV(Γ:az)(H:List Ob)(bs:List Nat):az:={w:=Γ.w,F:=fun b z=>Γ.F b z\/(z∈bs/\uJ Γ H b z),X:=fun _=>False,hs:=[]}
theorem aZ.mV{Γ:az}{H:List Ob}(hok:aZ Γ H)(bs:List Nat):aZ (Γ.mV H bs) []where
 len:=rfl
 ob h o e:=by simp at e
 apart h j v v' o k l m b c:=by simp at c
 F b z a:=by
  rcases a with a|⟨_,a⟩
  .exact hok.F b z a
  .exact hok.X b (a.own hok).1
 X b f:=f.elim
 G p hp:=by
  have⟨c,g⟩:=hok.G p hp
  refine⟨.inl c,?_⟩
  have i:bA p.2.2=true:=by
   simp only[sR,ae3,aiP,or_false]at hp
   rcases hp with rfl|rfl<;>rfl
  rcases wI (Γ1:=Γ) (Γ2:=Γ.mV H bs) (bs:=[]) rfl (fun b z h=> .inl (.inl h)) _ _ _ _ i (.inl rfl) c g with d|d
  .rw[d];simp[bF]
  .exact d.2
def Gt(Γ:az)(s:Nat×Nat):ft×Nat:=
 match Γ.hs[s.1]? with
 |some (i,_)=>(⟨i.base,i.off+s.2*i.sz,i.cap-s.2,i.sz⟩,0)
 |none=>(⟨none,0,0,0⟩,0)
def az.back(Γ Γ1:az)(H1:List Ob)(fz:Bool)(sel:List (Nat×Nat)):az:=
 {w:=Γ1.w,F:=fun b z=>Γ.F b z\/(Γ.w.heap.size<=b/\(Γ1.F b z\/(fz=true/\uJ Γ1 H1 b z))),X:=fun b=>Γ.X b\/(Γ.w.heap.size<=b/\Γ1.X b),hs:=Γ.hs++sel.map (Gt Γ1)}
section
variable{Γ Γ1:az}{H H1:List Ob}{bs:List Nat}{fz:Bool}{sel:List (Nat×Nat)}(hok:aZ Γ H)(hext:(Γ.mV H bs).cL Γ1)(hok1:aZ Γ1 H1)
include hok hext hok1
theorem C4:∀b z,Γ1.F b z->(Γ.back Γ1 H1 fz sel).F b z\/z∈bs:=fun b z a=>by
 rcases hext.mu b z a with(h|h)|h|h
 .exact .inl (.inl h)
 .exact .inr h.1
 .exact h.elim
 .exact .inl (.inr ⟨h,.inl a⟩)
theorem HB{b z:Nat}(h:uJ Γ1 H1 b z):Γ.w.heap.size<=b:=by
 rcases hext.kS b (h.own hok1).1 with h|h
 .exact h.elim
 .exact h
theorem DU{b:Nat}(h:b<Γ.w.heap.size):Γ1.w.heap[b]?=Γ.w.heap[b]?:=hext.frame b h (fun h=>h)
theorem R3:Γ.Le (Γ.back Γ1 H1 fz sel)where
 F b z h:= .inl h
 mem b z h:=DU hok hext hok1 (hok.F b z h)
 hs h i v a:=⟨i,v,by
  have c:h<Γ.hs.length:=(aa3.1 a).1
  simp only[az.back]
  rw[aaK c];exact a,adt _,fun _=>rfl⟩
theorem Ve:Γ.cL (Γ.back Γ1 H1 fz sel)where
 le:=R3 hok hext hok1
 os:=hext.os
 tape:=hext.tape
 output:=hext.output
 size:=hext.size
 frame b a _:=DU hok hext hok1 a
 mu b z c:=c.imp id fun h=> .inr h.1
 kS b d:=d.imp id fun h=>h.1
theorem IQ{f:ab}(o:uf fz H1 sel l f)(hn:bs=[]\/fZ bs f=true)(hc:aB Γ1 l y):aB (Γ.back Γ1 H1 fz sel) (dZ H.length f) y:=by
 rcases o with⟨e,rfl⟩|⟨e,p,j⟩|⟨w,h,g,m,len,k,z,x,rfl,rfl,q,r,A⟩
 .rw[Cb e];exact oI (Γ1:=Γ1) (Γ2:=Γ.back Γ1 H1 fz sel) rfl (C4 hok hext hok1) _ y e hn hc
 .rw[Cb (yh _ _ _ _ j)];exact zE (Γ1:=Γ1) (Γ2:=Γ.back Γ1 H1 fz sel) (bs:=p) rfl hok1 (C4 hok hext hok1) (fun h g z rows c b d i n _=> .inr ⟨HB hok hext hok1 ⟨h,g,rows,c,d,i,n⟩,.inr ⟨e,h,g,rows,c,d,i,n⟩⟩) 7 _ _ _ j (fun z s=>s) hn y hc
 .have ⟨c,d,B,i⟩:=hok1.obj r;simp only[aB]at hc;obtain⟨C,D,a,cap,c1,c2,rfl,c3⟩:=hc;rw[d]at c1;cases c1;have t:(Γ.back Γ1 H1 fz sel).hs[H.length+k]?=some (⟨c.base,c.off+m*c.sz,c.cap-m,c.sz⟩,0):=by simp only[az.back];rw[hok.len,ad8 (by omega),show Γ.hs.length+k-Γ.hs.length=k by omega,adn,q];simp[Gt,d]
  simp only[dZ,aB];refine⟨_,0,a,cap,t,adt _,rfl,fun _=>?_⟩;rcases c3 rfl with⟨d1,rfl,rfl,rfl,rfl⟩|⟨b,u,d1,rfl,rfl,d2,d3⟩
  .exact .inl (by simp[d1])
  .refine .inr ⟨b,u,d1,rfl,by simp,by simp;omega,fun v=>?_⟩;simp only at v|-;rw[d3 (by omega)];simp
theorem BI:∀ {d a:List ab},rO fz H1 sel d a->(bs=[]\/cW bs a=true)->∀ {c:List Value},aX Γ1 d c->aX (Γ.back Γ1 H1 fz sel) (a.map (dZ H.length)) c
 |[],a,b,hn,c,hc=>by
  have b:a=[]:=b
  subst b
  simpa[aX]using hc
 |l::d,a,b,hn,c,hc=>by
  obtain⟨k,m,rfl,e,f⟩:=b
  simp only[aX]at hc
  obtain⟨y,g,rfl,i,j⟩:=hc
  simp only[afL,aX]
  exact⟨y,g,rfl,IQ hok hext hok1 e (hn.imp id fun h=>by simp only[cW,aa2]at h;exact h.1) i,BI f (hn.imp id fun h=>by simp only[cW,aa2]at h;exact h.2) j⟩
theorem Y9{v:au}(m:KX fz H1 sel v v')(hn:bs=[]\/km bs v'=true)(hc:aL Γ1 v y):aL (Γ.back Γ1 H1 fz sel) (eR H.length v') y:=by
 rcases m with(⟨l,b,rfl,rfl,h⟩|⟨l,b,rfl,rfl,h⟩)|⟨j,g,rfl,rfl,h⟩
 .simp only[aL,eR]at hc|-;exact IQ hok hext hok1 h (hn.imp id fun h=>by simpa[km]using h) hc
 .simp only[aL,eR]at hc|-;obtain⟨d,e,a⟩:=hc;exact⟨d,e,BI hok hext hok1 h (hn.imp id fun h=>by simpa[km]using h) a⟩
 .simp only[aL,eR]at hc|-;obtain⟨d,e,a⟩:=hc;refine⟨d,e,?_⟩;have i:bs=[]\/∀v∈g,(match v with| .c l=>fZ bs l| .agg cs=>cW bs cs| .aM _=>false)=true:=hn.imp id fun h=>by simp only[km,af8]at h;exact h
  clear hn e;generalize d.toList=n at a;induction j generalizing g n with
  |nil=>have h:g=[]:=h;subst h;simpa[bU]using a
  |cons v j o=>
   obtain⟨v',p,rfl,r,s⟩:=h;simp only[bU]at a;obtain⟨u,k,rfl,f,t⟩:=a;have w:=o p s (i.imp id fun h=>fun q x=>h q (by simp[x])) k t;simp only[afL,bU];refine⟨u,k,rfl,?_,w⟩;rcases r with⟨l,b,rfl,rfl,h⟩|⟨l,b,rfl,rfl,h⟩
   .simp only[aL]at f|-;exact IQ hok hext hok1 h (i.imp id fun h=>h (.c b) (by simp)) f
   .simp only[aL]at f|-;obtain⟨z,A,B⟩:=f;exact⟨z,A,BI hok hext hok1 h (i.imp id fun h=>h (.agg b) (by simp)) B⟩
theorem agS{own:List Ob}{ad:List Nat}(S:pa H1 sel (ad,own))(ae:fz=true->own=[])(hn:bs=[]\/own.all (kW bs)=true):aZ (Γ.back Γ1 H1 fz sel) (H++own.map (dY H.length)):=by
 have aa:=R3 (fz:=fz) (sel:=sel) hok hext hok1;have af:=hok.len;have ag:own.length=sel.length:=S.len;have an:∀(h:Nat) (a:ft) (v:Nat),h<H.length->(Γ.back Γ1 H1 fz sel).hs[h]?=Γ.hs[h]?:=fun h a v y=>by simp only[az.back];rw[aaK (by omega)]
 have ab:∀(h:Nat) (o:Ob),H.length<=h->(H++own.map (dY H.length))[h]?=some o->∃s d len z c a,sel[h-H.length]?=some s/\o= .live 0 z ((c.drop s.2).take len)/\obj H1 s.1 d=some (z,c)/\s.2+len<=c.length/\bA ((c.drop s.2).take len)=true/\
   Γ1.hs[s.1]?=some (a,d)/\(Γ.back Γ1 H1 fz sel).hs[h]?=some (⟨a.base,a.off+s.2*a.sz,a.cap-s.2,a.sz⟩,0)/\(.live 0 z ((c.drop s.2).take len))∈own/\fz=false:=by
  intro h o T r
  rw[ad8 T,adn,abr]at r
  obtain⟨o0,j,rfl⟩:=r
  obtain⟨s,hs,d,len,z,c,rfl,p,A,t⟩:=S.at_ _ _ j
  have⟨a,B,gm,C⟩:=hok1.obj p
  refine⟨s,d,len,z,c,a,hs,by simp only[dY];rw[I1 t],p,A,t,B,?_,aiD j,?_⟩
  .simp only[az.back]
   rw[ad8 (by omega),show h-Γ.hs.length=h-H.length by omega,adn,hs]
   simp[Gt,B]
  .cases fz with
   |false=>rfl
   |true=>have:=ae rfl;subst this;simp at j
 refine⟨by simp[az.back,af,ag],fun h o r=>?_,fun h q v v' o D a u b j p A t N O E I=>?_,fun b z f=>?_,fun b k=>?_,hok.G.le aa⟩
 .by_cases y:h<H.length
  .rw[aaK y]at r;refine(hok.ob h o r).aJ aa (by simp only[az.back];rw[aaK (by omega)]) (fun a v b ht l P k f=>?_);have J:=hok.X b k;exact⟨DU hok hext hok1 J,fun z e=>e.elim (f z) (fun h=>by omega),.inl k⟩
  .obtain ⟨s,d,len,z,c,a,q1,rfl,K,q4,q5,L,U,q8,q9⟩:=ab h o (by omega) r;have⟨u,B,gm,C⟩:=hok1.obj K;rw[L]at B;cases B;refine⟨_,U,by simp;omega,?_⟩;cases J:a.base with
   |none=>simp only[J]at C|-;subst C;simp
   |some b=>
    simp only[J]at C|-;have⟨l,P,g,M,e5,cells,ah,e6,e7,e8⟩:=C;have ai:uJ Γ1 H1 b z:=⟨s.1,d,c,a,eG K,L,J⟩;have T:=HB hok hext hok1 ai;refine⟨l,.inr ⟨T,P⟩,fun V e=>?_,by simp;omega,e5,cells,ah,e6,?_,?_⟩
    .rcases e with e|⟨_,e|⟨e,_⟩⟩
     .have:=hok.F b V e;omega
     .exact g V e
     .rw[q9]at e;cases e
    .have hm:(a.cap-s.2)*a.sz+s.2*a.sz=a.cap*a.sz:=by
      rw[<-ail];congr 1
      omega
     omega
    .have W:bF Γ1 b a.sz (a.off+s.2*a.sz) ((c.drop s.2).take len):=lC (mv e8 s.2) len;refine Gk (Γ1:=Γ1) (Γ2:=Γ.back Γ1 H1 fz sel) rfl (C4 hok hext hok1) _ _ q5 (hn.imp id fun h aj W=>?_) W;rw[af8]at h;have:=h _ q8;simp only[kW,af8]at this;exact this aj W
 .have Q:∀(n:Nat) (i:Ob) (m:ft) (x:Nat),n<H.length->(H++own.map (dY H.length))[n]?=some i->i.there=true->(Γ.back Γ1 H1 fz sel).hs[n]?=some (m,x)->m.base=some b->H[n]?=some i/\Γ.hs[n]?=some (m,x)/\b<Γ.w.heap.size:=by intro n i m x y l P g M;rw[aaK y]at l;simp only[az.back]at g;rw[aaK (by omega)]at g;exact⟨l,g,hok.X b ((hok.ob n i l).own P g M).1⟩
  have R:∀(n:Nat) (i:Ob) (m:ft) (x:Nat), ¬n<H.length->(H++own.map (dY H.length))[n]?=some i->(Γ.back Γ1 H1 fz sel).hs[n]?=some (m,x)->m.base=some b->∃s d z c a,sel[n-H.length]?=some s/\H1[s.1]?=some (.live d z c)/\Γ1.hs[s.1]?=some (a,d)/\a.base=some b/\Γ.w.heap.size<=b:=by intro n i m x y l g M;obtain⟨s,d,len,z,c,a,q1,rfl,K,q4,q5,L,U,q8,q9⟩:=ab n i (by omega) l;rw[U]at g;cases g;exact⟨s,d,z,c,a,q1,eG K,L,M,HB hok hext hok1 ⟨s.1,d,c,a,eG K,L,M⟩⟩
  by_cases c1:h<H.length<;>by_cases c2:q<H.length
  .have ⟨Y,Z,_⟩:=Q h o a v c1 j A N E;have⟨b1,b2,_⟩:=Q q D u v' c2 p t O I;exact hok.apart h q v v' o D a u b Y b1 A t Z b2 E I
  .have ⟨_,_,a3⟩:=Q h o a v c1 j A N E;have⟨_,_,_,_,_,_,_,_,_,b5⟩:=R q D u v' c2 p O I;omega
  .have ⟨_,_,a3⟩:=Q q D u v' c2 p t O I;have⟨_,_,_,_,_,_,_,_,_,b5⟩:=R h o a v c1 j N E;omega
  .have ⟨s,d,z,c,i0,Y,Z,a3,a4,a5⟩:=R h o a v c1 j N E;have⟨s',ak,V,ao,al,b1,b2,b3,b4,b5⟩:=R q D u v' c2 p O I;have he:=hok1.apart s.1 s'.1 d ak _ _ i0 al b Z b2 rfl rfl a3 b3 a4 b4;have am:=S.nodup;have p1:(sel.map (·.1))[h-H.length]?=some s.1:=by rw[adn,Y];rfl
   have p2:(sel.map (·.1))[q-H.length]?=some s.1:=by rw[adn,b1,he];rfl
   have l1:=(aa3.1 p1).1;have:=(List.getElem?_inj l1 am).1 (p1.trans p2.symm);omega
 .rcases f with f|⟨_,f|⟨_,f⟩⟩
  .exact aiM (hok.F b z f) hext.size
  .exact hok1.F b z f
  .exact hok1.X b (f.own hok1).1
 .rcases k with k|⟨_,k⟩
  .exact aiM (hok.X b k) hext.size
  .exact hok1.X b k
end
theorem adk{P:Program}{f:FuncId}{args a:List au}{H H1 own:List Ob}{bs:List Nat}{r c:au}{fz:Bool}(j:dy H args=some (a,bs))(hc:Call P f a [] r H1)(d:dF fz H1 r=some (c,own))
  (g:bs=[]\/(km bs c=true/\own.all (kW bs)=true)):Call P f args H (eR H.length c) (H++own.map (dY H.length)):=by
 refine⟨hc.1,fun Γ hok i k=>?_⟩
 have⟨sel,A,l,m⟩:=X9 d
 have n:bU (Γ.mV H bs) a i.toList:=CW (Γ1:=Γ) (Γ2:=Γ.mV H bs) (bs0:=[]) (bs:=bs) rfl hok (fun b z h=> .inl (.inl h)) (fun h o z rows p b q s t u=> .inr ⟨u,h,o,rows,p,q,s,t⟩) _ _ _ j (fun z v=>v) rfl _ k
 refine(hc.2 (Γ.mV H bs) (hok.mV bs) i n).mono fun e B w=>?_
 obtain⟨y,Γ1,rfl,rfl,hext,hok1,x⟩:=w
 exact⟨y,Γ.back Γ1 H1 fz sel,rfl,rfl,Ve hok hext hok1,agS hok hext hok1 l (fun h=>by subst h;exact Yj d) (g.imp id fun h=>h.2),Y9 hok hext hok1 m (g.imp id fun h=>h.1) x⟩
end Go.Nx
namespace Go.Nx
variable{y:Value}{o:Ob}
def az.fG(Γ Γ1:az):az:=
 {w:=Γ1.w,F:=fun b z=>Γ.F b z\/(Γ.w.heap.size<=b/\Γ1.F b z),X:=fun b=>Γ.X b\/(Γ.w.heap.size<=b/\Γ1.X b),hs:=Γ.hs++Γ1.hs}
section
variable{Γ Γ1:az}{H H1:List Ob}(hok:aZ Γ H)(hext:(Γ.mV H []).cL Γ1)(hok1:aZ Γ1 H1)
include hok hext hok1
theorem rT:∀b z,Γ1.F b z->(Γ.fG Γ1).F b z\/z∈([]:List Nat):=fun b z a=>by
 rcases hext.mu b z a with(h|h)|h|h
 .exact .inl (.inl h)
 .exact absurd h.1 (by simp)
 .exact h.elim
 .exact .inl (.inr ⟨h,a⟩)
theorem NY{b:Nat}(h:Γ1.X b):Γ.w.heap.size<=b:=by
 rcases hext.kS b h with h|h
 .exact h.elim
 .exact h
theorem NP:Γ.Le (Γ.fG Γ1)where
 F b z h:= .inl h
 mem b z h:=hext.frame b (hok.F b z h) (fun h=>h)
 hs h i v a:=⟨i,v,by
  have c:h<Γ.hs.length:=(aa3.1 a).1
  simp only[az.fG]
  rw[aaK c];exact a,adt _,fun _=>rfl⟩
theorem Z9:Γ.cL (Γ.fG Γ1)where
 le:=NP hok hext hok1
 os:=hext.os
 tape:=hext.tape
 output:=hext.output
 size:=hext.size
 frame b a _:=hext.frame b a (fun h=>h)
 mu b z c:=c.imp id fun h=> .inr h.1
 kS b d:=d.imp id fun h=>h.1
theorem EP(h:Nat):(Γ.fG Γ1).hs[H.length+h]?=Γ1.hs[h]?:=by simp only[az.fG];rw[hok.len,ad8 (by omega),show Γ.hs.length+h-Γ.hs.length=h by omega]
theorem wL{l:ab}(hm:jy l=true)(hc:aB Γ1 l y):aB (Γ.fG Γ1) (dZ H.length l) y:=by
 have g:=EP (Γ:=Γ) (Γ1:=Γ1) (H:=H) hok hext hok1;cases l with
 |ptr h j i k=>simp only[dZ,aB]at hc|-;have⟨b,c,p,d,e⟩:=hc;exact⟨b,c,p,by rw[g];exact d,e⟩
 |sl h j n len=>simp only[dZ,aB]at hc|-;have⟨b,c,a,cap,d,e⟩:=hc;exact⟨b,c,a,cap,by rw[g];exact d,e⟩
 |mr h=>simp only[dZ,aB]at hc|-;have⟨b,c,r,d,e⟩:=hc;exact⟨b,c,r,by rw[g];exact d,e⟩
 |mi h=>simp only[dZ,aB]at hc|-;have⟨b,c,r,d,e⟩:=hc;exact⟨b,c,r,by rw[g];exact d,e⟩
 |v x=>exact oI (Γ1:=Γ1) (Γ2:=Γ.fG Γ1) rfl (rT hok hext hok1) _ y rfl (.inl rfl) hc
 |aj rows=>exact oI (Γ1:=Γ1) (Γ2:=Γ.fG Γ1) rfl (rT hok hext hok1) (.aj rows) y (by simpa[jy]using hm) (.inl rfl) hc
 |eX rows=>exact oI (Γ1:=Γ1) (Γ2:=Γ.fG Γ1) rfl (rT hok hext hok1) (.eX rows) y (by simpa[jy]using hm) (.inl rfl) hc
 |aK rows i k=>exact oI (Γ1:=Γ1) (Γ2:=Γ.fG Γ1) rfl (rT hok hext hok1) (.aK rows i k) y (by simpa[jy]using hm) (.inl rfl) hc
 |bG f m=>exact oI (Γ1:=Γ1) (Γ2:=Γ.fG Γ1) rfl (rT hok hext hok1) (.bG f m) y (by simpa[jy]using hm) (.inl rfl) hc
 |iA t l=>exact oI (Γ1:=Γ1) (Γ2:=Γ.fG Γ1) rfl (rT hok hext hok1) (.iA t l) y (by simpa[jy]using hm) (.inl rfl) hc
theorem JA:∀ {a:List ab},a.all jy=true->∀ {b:List Value},aX Γ1 a b->aX (Γ.fG Γ1) (a.map (dZ H.length)) b
 |[],_,b,hc=>by simpa[aX]using hc
 |l::a,hm,b,hc=>by
  simp only[akp,aa2]at hm
  simp only[aX]at hc
  obtain⟨y,c,rfl,d,e⟩:=hc
  simp only[afL,aX]
  exact⟨y,c,rfl,wL hok hext hok1 hm.1 d,JA hm.2 e⟩
theorem Mp(b:Nat):∀ {a:List ab} {c:Nat},a.all jy=true->cS Γ1 b c a->cS (Γ.fG Γ1) b c (a.map (dZ H.length))
 |[],_,_,_=>by simp[cS]
 |l::a,c,hm,hc=>by
  simp only[akp,aa2]at hm
  simp only[cS]at hc
  have⟨⟨y,d,e⟩,f⟩:=hc
  simp only[afL,cS]
  exact⟨⟨y,d,wL hok hext hok1 hm.1 e⟩,Mp b hm.2 f⟩
theorem Tt(b c:Nat){rows:List (List ab)}{a:Nat}(hm:rp rows=true)(hc:bF Γ1 b c a rows):bF (Γ.fG Γ1) b c a (rows.map fun r=>r.map (dZ H.length)):=by
 simp only[rp,ai3]at hm;rcases hm with hm|hm
 .rw[I1 hm];exact Gk (Γ1:=Γ1) (Γ2:=Γ.fG Γ1) rfl (rT hok hext hok1) rows a hm (.inl rfl) hc
 .induction rows generalizing a with
  |nil=>simp[bF]
  |cons r e d=>simp only[akp,aa2]at hm;simp only[bF]at hc;simp only[afL,bF];exact⟨by simp[hc.1],Mp hok hext hok1 b hm.1 hc.2.1,d hc.2.2 hm.2⟩
theorem TV{v:au}(hm:pR v=true)(hc:aL Γ1 v y):aL (Γ.fG Γ1) (eR H.length v) y:=by
 cases v with
 |c l=>simp only[aL,eR]at hc|-;exact wL hok hext hok1 hm hc
 |agg cs=>simp only[aL,eR]at hc|-;obtain⟨b,d,a⟩:=hc;exact⟨b,d,JA hok hext hok1 hm a⟩
 |aM g=>
  simp only[aL,eR]at hc|-;obtain⟨b,d,a⟩:=hc;refine⟨b,d,?_⟩;simp only[pR,af8]at hm;clear d;generalize b.toList=i at a;induction g generalizing i with
  |nil=>simpa[bU]using a
  |cons v g j=>
   simp only[bU]at a;obtain⟨u,h,rfl,e,k⟩:=a;have m:=j (fun q n=>hm q (by simp[n])) h k;simp only[afL,bU];refine⟨u,h,rfl,?_,m⟩;have f:=hm v (by simp);cases v with
   |c l=>simp only[aL]at e|-;exact wL hok hext hok1 f e
   |agg cs=>simp only[aL]at e|-;obtain⟨o,p,r⟩:=e;exact⟨o,p,JA hok hext hok1 f r⟩
   |aM _=>cases f
theorem aha{h:Nat}(hm:oz o=true)(m:oj Γ1 h o):oj (Γ.fG Γ1) (H.length+h) (dY H.length o):=by
 have n:=EP (Γ:=Γ) (Γ1:=Γ1) (H:=H) hok hext hok1 h
 have f:∀b,Γ1.X b->(∀z, ¬Γ1.F b z)->(Γ.fG Γ1).X b/\∀z, ¬(Γ.fG Γ1).F b z:=fun b f v=>by
  have w:=NY hok hext hok1 f;refine⟨.inr ⟨w,f⟩,fun z g=>?_⟩;rcases g with g|⟨_,g⟩
  .have:=hok.F b z g;omega
  .exact v z g
 cases o with
 |dead=>have⟨a,d⟩:=m;exact⟨a,by rw[n];exact d⟩
 |it s pos=>have⟨a,b,d,i,c,q,r⟩:=m;have⟨k,l⟩:=f b c q;exact⟨a,b,by rw[n];exact d,i,k,l,r⟩
 |mp Q=>have⟨a,b,d,i,c,q,x,cl,r,y,A⟩:=m;have⟨k,l⟩:=f b c q;refine⟨a,b,by rw[n];exact d,i,k,l,x,cl,r,by simpa using y,fun j p e hp B=>?_⟩;simp only[adn,abr]at hp;obtain⟨t,hp,rfl⟩:=hp;have⟨⟨C,D,E⟩,G⟩:=A j t e hp B;simp only[oz,af8]at hm;have:=hm t (aiD hp);simp only[aa2]at this;exact⟨⟨C,D,Hj (Γ1:=Γ1) (Γ2:=Γ.fG Γ1) rfl (rT hok hext hok1) _ _ this.1 (.inl rfl) E⟩,wL hok hext hok1 this.2 G⟩
 |live R z rows=>
  have⟨a,d,i,c⟩:=m;refine⟨a,by rw[n];exact d,i,?_⟩;cases u:a.base with
  |none=>simp only[u]at c|-;subst c;rfl
  |some b=>simp only[u]at c|-;have⟨I,J,K,L,M,cells,T,N,O,P⟩:=c;have⟨k,l⟩:=f b J K;exact⟨I,k,l,by simpa using L,M,cells,T,N,O,Tt hok hext hok1 b a.sz hm P⟩
theorem acG{n:Nat}(h:(dY n o).there=true):o.there=true:=by cases o<;>first|exact h|rfl
theorem aet(hm:H1.all oz=true):aZ (Γ.fG Γ1) (H++H1.map (dY H.length)):=by
 have R:=NP hok hext hok1;have V:=hok.len;have W:=hok1.len;have Y:=EP (Γ:=Γ) (Γ1:=Γ1) (H:=H) hok hext hok1;have S:∀(h:Nat) (o:Ob),H.length<=h->(H++H1.map (dY H.length))[h]?=some o->∃a,H1[h-H.length]?=some a/\o=dY H.length a:=by intro h o Z j;rw[ad8 Z,adn,abr]at j;obtain⟨a,k,rfl⟩:=j;exact⟨a,k,rfl⟩
 refine⟨by simp[az.fG,V,W],fun h o j=>?_,fun h l v m o u g p b k B x y C D q r=>?_,fun b z i=>?_,fun b e=>?_,hok.G.le R⟩
 .by_cases E:h<H.length
  .rw[aaK E]at j;refine(hok.ob h o j).aJ R (by simp only[az.fG];rw[aaK (by omega)]) (fun g v b ht s I e i=>?_);have hb:=hok.X b e;exact⟨hext.frame b hb (fun h=>h),fun z hz=>hz.elim (i z) (fun h=>by omega),.inl e⟩
  .obtain ⟨a,A,rfl⟩:=S h o (by omega) j;have:=aha hok hext hok1 (by rw[af8]at hm;exact hm a (aiD A)) (hok1.ob _ _ A);rwa [show H.length+(h-H.length)=h by omega]at this
 .have J:∀(n:Nat) (c:Ob) (d:ft) (f:Nat),n<H.length->(H++H1.map (dY H.length))[n]?=some c->c.there=true->(Γ.fG Γ1).hs[n]?=some (d,f)->d.base=some b->H[n]?=some c/\Γ.hs[n]?=some (d,f)/\b<Γ.w.heap.size:=by intro n c d f E s I t L;rw[aaK E]at s;simp only[az.fG]at t;rw[aaK (by omega)]at t;exact⟨s,t,hok.X b ((hok.ob n c s).own I t L).1⟩
  have K:∀(n:Nat) (c:Ob) (d:ft) (f:Nat), ¬n<H.length->(H++H1.map (dY H.length))[n]?=some c->c.there=true->(Γ.fG Γ1).hs[n]?=some (d,f)->d.base=some b->∃a,H1[n-H.length]?=some a/\a.there=true/\Γ1.hs[n-H.length]?=some (d,f)/\Γ.w.heap.size<=b:=by
   intro n c d f E s I t L;obtain⟨a,A,rfl⟩:=S n c (by omega) s;have T:=acG hok hext hok1 I;have U:Γ1.hs[n-H.length]?=some (d,f):=by rw[<-Y,show H.length+(n-H.length)=n by omega];exact t
   exact⟨a,A,T,U,NY hok hext hok1 ((hok1.ob _ _ A).own T U L).1⟩
  by_cases c1:h<H.length<;>by_cases c2:l<H.length
  .have ⟨M,N,_⟩:=J h o g v c1 k x C q;have⟨O,P,_⟩:=J l u p m c2 B y D r;exact hok.apart h l v m o u g p b M O x y N P q r
  .have ⟨_,_,Q⟩:=J h o g v c1 k x C q;have⟨_,_,_,_,b5⟩:=K l u p m c2 B y D r;omega
  .have ⟨_,_,Q⟩:=J l u p m c2 B y D r;have⟨_,_,_,_,b5⟩:=K h o g v c1 k x C q;omega
  .have ⟨a,M,N,Q,a4⟩:=K h o g v c1 k x C q;have⟨aa,O,P,b3,b4⟩:=K l u p m c2 B y D r;have:=hok1.apart _ _ v m a aa g p b M O N P Q b3 q r;omega
 .rcases i with i|⟨_,i⟩
  .exact aiM (hok.F b z i) hext.size
  .exact hok1.F b z i
 .rcases e with e|⟨_,e⟩
  .exact aiM (hok.X b e) hext.size
  .exact hok1.X b e
end
theorem TW{P:Program}{f:FuncId}{args a:List au}{H H1:List Ob}{r:au}(d:dy H args=some (a,[]))(hc:Call P f a [] r H1)(g:pR r=true)(hm:H1.all oz=true):
  Call P f args H (eR H.length r) (H++H1.map (dY H.length)):=by
 refine⟨hc.1,fun Γ hok c i=>?_⟩
 have j:bU (Γ.mV H []) a c.toList:=CW (Γ1:=Γ) (Γ2:=Γ.mV H []) (bs0:=[]) (bs:=[]) rfl hok (fun b z h=> .inl (.inl h)) (fun h o z rows p b q s t k=>by simp at k) _ _ _ d (fun z l=>l) rfl _ i
 refine(hc.2 (Γ.mV H []) (hok.mV []) c j).mono fun e u m=>?_
 obtain⟨y,Γ1,rfl,rfl,hext,hok1,n⟩:=m
 exact⟨y,Γ.fG Γ1,rfl,rfl,Z9 hok hext hok1,aet hok hext hok1 hm,TV hok hext hok1 g n⟩
theorem HN{C:bu}{b:cY}(c:mh C.P b):mh C.P (aO C b):=by
 intro f args H r k h;unfold aO at h;split at h
 .exact c _ _ _ _ _ h
 .split at h
  .rename_i l m d;split at h
   .rename_i n own hp;unfold aS at hp;split at hp
    .rename_i o H1 e;have hc:=c _ _ _ _ _ e;split at h
     .rename_i a;cases h;split at hp
      .rename_i hm;cases hp;rw[show(C.md f==2)=true by simpa using hm]at a;simp only[eo,aa2,akI]at a;have⟨⟨g,i⟩,j⟩:=a;subst g;exact TW d hc i j
      .rename_i hm;rw[show(C.md f==2)=false by simpa using hm]at a;simp only[eo,ai3,aa2,akI]at a;exact adk d hc hp a
     .cases h
    .cases hp
   .cases h
  .cases h
end Go.Nx
namespace Go.Nx
section
variable{C:bu}{P:Program}{ce:cY}{e e2:Env}{H:List Ob}
def Ak{a:Array Operand}(h:∀p∈a,aY e p=aY e2 p):a.toList.map (aY e)=a.toList.map (aY e2):=ajm fun p hp=>h p (by simpa using hp)
def R0{a:Array (Nat×Operand)}(h:∀p∈a.map (·.2),aY e p=aY e2 p):(a.toList.map fun(i,x)=>(i,aY e x))=a.toList.map fun(i,x)=>(i,aY e2 x):=by refine ajm fun p hp=>?_;have:=h p.2 (by simp;exact⟨p.1,by simpa using hp⟩);have⟨i,x⟩:=p;simpa using this
def wu{o:Option Operand}(h:∀p∈o.toArray,aY e p=aY e2 p):ow e o=ow e2 o:=by
 cases o with
 |none=>rfl
 |some p=>simp only[ow];rw[h p (by simp)]
def LH{k:Op}(h:∀p∈k.operands,aY e p=aY e2 p):bc P e H k=bc P e2 H k:=by
 cases k with
 |move y=>simp only[bc];rw[h y (by simp[ac8])]
 |assign y=>simp only[bc];rw[h y (by simp[ac8])]
 |pick a b c=>simp only[bc];rw[h a (by simp[ac8]),h b (by simp[ac8]),h c (by simp[ac8])]
 |alloc t=>rfl
 |box t y=>simp only[bc];rw[h y (by simp[ac8])]
 |build t u=>simp only[bc];rw[R0 (fun p hp=>h p (by simpa[ac8]using hp))]
 |buildSlice t n u=>simp only[bc];rw[R0 (fun p hp=>h p (by simpa[ac8]using hp))]
 |makeSlice t l c=>simp only[bc];rw[h l (by simp[ac8]),h c (by simp[ac8])]
 |load t y=>simp only[bc];rw[h y (by simp[ac8])]
 |store t y v=>simp only[bc];rw[h y (by simp[ac8]),h v (by simp[ac8])]
 |nilCheck y=>simp only[bc];rw[h y (by simp[ac8])]
 |binOp k t y z r=>simp only[bc];rw[h y (by simp[ac8]),h z (by simp[ac8])]
 |unOp k t y=>simp only[bc];rw[h y (by simp[ac8])]
 |convert s d y=>simp only[bc];rw[h y (by simp[ac8])]
 |makeFunc f first D=>
  cases f with
  |func f=>simp only[bc];rw[Ak (fun p hp=>h p (by simp[ac8];right;exact hp))]
  |_=>rfl
 |slice t y w A B=>
  cases B with
  |some m=>rfl
  |none=>simp only[bc];rw[h y (by simp[ac8]),wu (o:=w) (fun p hp=>h p (by simp[ac8]at hp|-;simp[hp])),wu (o:=A) (fun p hp=>h p (by simp[ac8]at hp|-;simp[hp]))]
 |fieldAddr s y f=>simp only[bc];rw[h y (by simp[ac8])]
 |field s y f=>simp only[bc];rw[h y (by simp[ac8])]
 |indexAddr t y i=>simp only[bc];rw[h y (by simp[ac8]),h i (by simp[ac8])]
 |index t y i=>simp only[bc];rw[h y (by simp[ac8]),h i (by simp[ac8])]
 |extract y i=>simp only[bc];rw[h y (by simp[ac8])]
 |call c=>
  have⟨C,args,E⟩:=c;cases C with
  |builtin b=>
   have j:∀p∈args.toList,aY e p=aY e2 p:=fun p hp=>h p (by simp[ac8,aiG];simpa using hp);cases b with
   |len=>
    simp only[bc];split
    .rename_i x t g q;rw[j x (by rw[g];simp)]
    .rfl
   |append=>
    simp only[bc];split
    .rename_i s x t r g q;rw[j x (by rw[g];simp),j s (by rw[g];simp)]
    .rfl
   |cap=>
    simp only[bc];split
    .rename_i x t g q;rw[j x (by rw[g];simp)]
    .rfl
   |copy=>
    simp only[bc];split
    .rename_i s x t r g q;rw[j x (by rw[g];simp),j s (by rw[g];simp)]
    .rfl
   |clear=>
    simp only[bc];split
    .rename_i x t g q;rw[j x (by rw[g];simp)]
    .rfl
   |min=>simp only[bc];rw[Ak (fun p hp=>j p (by simpa using hp))]
   |max=>simp only[bc];rw[Ak (fun p hp=>j p (by simpa using hp))]
   |_=>rfl
  |_=>rfl
 |_=>rfl
def Ya{a:Op}(h:∀p∈a.operands,aY e p=aY e2 p):eE P e H a=eE P e2 H a:=by
 cases a with
 |binOp a t y z n=>simp only[eE];rw[h y (by simp[ac8]),h z (by simp[ac8])]
 |unOp a t y=>cases a<;>simp only[eE];rw[h y (by simp[ac8])]
 |slice t y d f g=>
  cases g with
  |some m=>rfl
  |none=>simp only[eE];rw[h y (by simp[ac8]),wu (o:=d) (fun p hp=>h p (by simp[ac8]at hp|-;simp[hp])),wu (o:=f) (fun p hp=>h p (by simp[ac8]at hp|-;simp[hp]))]
 |indexAddr t y i=>simp only[eE];rw[h y (by simp[ac8]),h i (by simp[ac8])]
 |index t y i=>simp only[eE];rw[h y (by simp[ac8]),h i (by simp[ac8])]
 |makeInterface t y=>simp only[eE];rw[h y (by simp[ac8])]
 |call c=>
  have⟨j,args,q⟩:=c;cases j with
  |builtin b=>
   have k:∀p∈args.toList,aY e p=aY e2 p:=fun p hp=>h p (by simp[ac8,aiG];simpa using hp);cases b with
   |len=>
    simp only[eE];split
    .rename_i x t l r;rw[k x (by rw[l];simp)]
    .rfl
   |_=>rfl
  |_=>rfl
 |_=>rfl
def VT{g:Op}(h:∀p∈g.operands,aY e p=aY e2 p):cA P e H g=cA P e2 H g:=by
 cases g with
 |slice t y l n q=>
  cases q with
  |some m=>rfl
  |none=>simp only[cA];rw[h y (by simp[ac8]),wu (o:=l) (fun p hp=>h p (by simp[ac8]at hp|-;simp[hp])),wu (o:=n) (fun p hp=>h p (by simp[ac8]at hp|-;simp[hp]))]
 |convert s d y=>simp only[cA];rw[h y (by simp[ac8])]
 |lookup t m k c=>
  cases c with
  |true=>rfl
  |false=>simp only[cA];rw[h m (by simp[ac8]),h k (by simp[ac8])]
 |makeMap t r=>cases r<;>rfl
 |mapUpdate t m k v=>simp only[cA];rw[h m (by simp[ac8]),h k (by simp[ac8]),h v (by simp[ac8])]
 |range t y=>simp only[cA];rw[h y (by simp[ac8])]
 |next i s=>
  cases s with
  |false=>rfl
  |true=>simp only[cA];rw[h i (by simp[ac8])]
 |typeAssert y a b c=>
  cases c with
  |false=>rfl
  |true=>simp only[cA];rw[h y (by simp[ac8])]
 |call c=>
  have⟨u,args,A⟩:=c;cases u with
  |builtin b=>
   have j:∀p∈args.toList,aY e p=aY e2 p:=fun p hp=>h p (by simp[ac8,aiG];simpa using hp);cases b with
   |append=>
    simp only[cA];split
    .rename_i s x t w f z;rw[j x (by rw[f];simp),j s (by rw[f];simp)]
    .rfl
   |copy=>
    simp only[cA];split
    .rename_i d x t w f z;rw[j x (by rw[f];simp),j d (by rw[f];simp)]
    .rfl
   |_=>rfl
  |_=>rfl
 |_=>rfl
def N6{f:Operand}{args:Array Operand}{a:Array TypeId}(h:∀p∈(Op.call {callee:= .value f,args:=args,argTypes:=a}).operands,aY e p=aY e2 p):aY e f=aY e2 f/\args.toList.map (aY e)=args.toList.map (aY e2):=
 ⟨h f (by simp[ac8,aiG]),Ak fun p hp=>h p (by simp[ac8,aiG];right;exact hp)⟩
def agK{a:Op}(h:∀p∈a.operands,aY e p=aY e2 p):eU C ce a e H=eU C ce a e2 H:=by
 unfold eU;split
 .rename_i f args d;have⟨b,c⟩:=N6 h;rw[b,c]
 .rfl
 .rw[LH h,Ya h,VT h]
end
end Go.Nx
namespace Go.Nx
variable{p x:ab}{P:Program}{op:BinOp}{t:TypeId}
def fS(W:List Nat)(H H':List Ob):Prop:= ∀h o,h∉W->H[h]?=some o->o.there=true->H'[h]?=some o
def quiet(P:Program):Op->Bool
 | .move _| .assign _| .pick _ _ _| .build _ _| .load _ _| .nilCheck _| .binOp _ _ _ _ _| .unOp _ _ _| .makeFunc _ _ _| .slice _ _ _ _ _| .fieldAddr _ _ _| .field _ _ _
 | .indexAddr _ _ _| .index _ _ _| .extract _ _| .lookup _ _ _ _| .typeAssert _ _ _ _| .makeInterface _ _=>true
 | .convert _ d _=>!rQ P d
 | .call {callee:= .builtin .len,.. }| .call {callee:= .builtin .cap,.. }| .call {callee:= .builtin .min,.. }| .call {callee:= .builtin .max,.. }=>true
 |_=>false
section
variable{W:List Nat}{H H':List Ob}(hA:fS W H H')
include hA
theorem nw{h a:Nat}{r:Nat×List (List ab)}(b:h∉W)(c:obj H h a=some r):obj H' h a=some r:=by have⟨z,rows⟩:=r;have:=hA h _ b (eG c) rfl;unfold obj;rw[this];simp
theorem T5{n:Nat}{x:List ab}(hp:∀h∈iK p,h∉W)(a:qz H n p=some x):qz H' n p=some x:=by
 cases p with
 |ptr h c i k=>
  simp only[qz]at a|-;split at a
  .rename_i z rows b;rw[nw hA (hp h (by simp[iK])) b];exact a
  .cases a
 |_=>exact a
theorem abW(hp:∀h∈iK p,h∉W)(a:re H p=some x):re H' p=some x:=by
 cases p with
 |ptr h c i k=>
  simp only[re]at a|-;split at a
  .rename_i z rows b;rw[nw hA (hp h (by simp[iK])) b];exact a
  .cases a
 |_=>exact a
theorem OO{x:Bool}(hp:∀h∈iK p,h∉W)(b:qT H p=some x):qT H' p=some x:=by
 cases p with
 |sl h e f len=>
  simp only[qT]at b|-;split at b
  .rename_i r d;rw[nw hA (hp h (by simp[iK])) d];exact b
  .cases b
 |v x=>cases x with
  |slice a n c=>cases a<;>cases n<;>cases c<;>exact b
  |_=>exact b
 |_=>exact b
theorem BU{x:List (List ab)}(hp:∀h∈iK p,h∉W)(b:view H p=some x):view H' p=some x:=by
 cases p with
 |sl h e f len=>
  simp only[view]at b|-;split at b
  .rename_i z rows d;rw[nw hA (hp h (by simp[iK])) d];exact b
  .cases b
 |v x=>cases x with
  |slice a n c=>cases a<;>cases n<;>cases c<;>exact b
  |_=>exact b
 |_=>exact b
theorem Tm{u v:au}(e:∀h∈lT u,h∉W)(c:n9 P H op t u v=some x):n9 P H' op t u v=some x:=by
 unfold n9 at c|-;split at c
 .exact c
 .exact c
 .exact c
 .rename_i a b g i;split at c
  .rename_i f;rw[if_pos f];split at c
   .split at c
    .simp only[abr]at c|-;obtain⟨y,d,rfl⟩:=c;exact⟨y,OO hA e d,rfl⟩
    .simp only[abr]at c|-;obtain⟨y,d,rfl⟩:=c;exact⟨y,OO hA e d,rfl⟩
    .cases c
   .cases c
  .cases c
 .cases c
theorem adV{y:ab}{b c:Option Int}(hp:∀h∈iK x,h∉W)(a:qS P H t x b c=some y):qS P H' t x b c=some y:=by
 unfold qS at a|-;split at a
 .split at a
  .rename_i d;rw[if_pos d];split at a
   .exact a
   .exact a
   .rename_i e g i j k;split at a
    .rename_i z rows f;rw[nw hA (hp e (by simp[iK])) f];exact a
    .cases a
   .exact a
   .cases a
  .cases a
 .cases a
theorem ad4{y:ab}{i:Int}(hp:∀h∈iK x,h∉W)(a:sS P H t x i=some y):sS P H' t x i=some y:=by
 unfold sS at a|-;split at a
 .rename_i h f p len;split at a
  .rename_i e d j z rows b c;rw[nw hA (hp h (by simp[iK])) c,b];exact a
  .cases a
 .rename_i h f r k;split at a
  .rename_i n d g o l c;rw[nw hA (hp h (by simp[iK])) c,l];exact a
  .cases a
 .split at a
  .rename_i e d j rows b m;rw[BU hA hp m,b];exact a
  .cases a
theorem ZC{y:Operand}{u v:Option au}{x:au}(b:∀w,u=some w->∀h∈lT w,h∉W)(a:gT P H op t y u v=some x):gT P H' op t y u v=some x:=by
 unfold gT at a|-;split at a
 .exact a
 .exact a
 .exact a
 .split at a
  .rename_i hp;rw[if_pos hp];split at a
   .rename_i c;rw[nw hA (b _ rfl _ (by simp[lT,iK])) c];exact a
   .cases a
  .cases a
 .exact a
 .exact a
 .cases a
end
end Go.Nx
namespace Go.Nx
variable{P:Program}{e:Env}{op:Op}{x:au}{H1:List Ob}{r:au×List Ob}{C:bu}{ce:cY}
section
variable{W:List Nat}{H H':List Ob}(hA:fS W H H')
include hA
theorem OL(w:quiet P op=true)(A:∀p∈op.operands.toList, ∀v,aY e p=some v->∀h∈lT v,h∉W)(h:bc P e H op=some (x,H1)):bc P e H' op=some (x,H'):=by
 cases op with
 |move y=>simp only[bc,abr,aca]at h|-;obtain⟨v,o,rfl,rfl⟩:=h;exact⟨v,o,rfl,trivial⟩
 |assign y=>simp only[bc,abr,aca]at h|-;obtain⟨v,o,rfl,rfl⟩:=h;exact⟨v,o,rfl,trivial⟩
 |pick c p q=>
  simp only[bc]at h|-;split at h
  .rename_i o r a;simp only[abj,aca]at h;simp[h.1]
  .cases h
 |build t D=>
  simp only[bc]at h|-;split at h
  .simp only[abr,aca]at h|-;obtain⟨v,o,rfl,rfl⟩:=h;exact⟨v,o,rfl,trivial⟩
  .cases h
 |load t y=>
  have j:=A y (by simp[ac8]);simp only[bc]at h|-;split at h
  .rename_i n p o r;replace j:=j _ r;simp only[abr,aca]at h|-;obtain⟨v,a,rfl,rfl⟩:=h;exact⟨v,T5 hA j a,rfl,trivial⟩
  .rename_i n p o r;replace j:=j _ r;simp only[abr,aca]at h|-;obtain⟨v,a,rfl,rfl⟩:=h;exact⟨v,abW hA j a,rfl,trivial⟩
  .cases h
 |nilCheck y=>
  have j:=A y (by simp[ac8]);simp only[bc]at h|-;split at h
  .rename_i B E i k o;replace j:=j _ o;simp only[abr,aca]at h|-;obtain⟨v,a,rfl,rfl⟩:=h;exact⟨v,nw hA (j B (by simp[lT,iK])) a,rfl,trivial⟩
  .simp only[abj,aca]at h|-;exact⟨h.1,trivial⟩
  .simp only[abj,aca]at h|-;exact⟨h.1,trivial⟩
  .cases h
 |binOp op t y z L=>
  have j:=A y (by simp[ac8]);have C:=A z (by simp[ac8]);simp only[bc]at h|-;split at h
  .rename_i u v o r;replace j:=j _ o;replace C:=C _ r;simp only[abr,aca]at h|-;obtain⟨l,a,rfl,rfl⟩:=h;exact⟨l,Tm hA j a,rfl,trivial⟩
  .cases h
 |unOp op t y=>
  simp only[bc]at h|-;split at h
  .rename_i o;simp only[abj,aca]at h;simp[h.1]
  .rename_i o;simp only[abj,aca]at h;simp[h.1]
  .cases h
 |convert s d y=>
  simp only[bc]at h|-;split at h
  .rename_i o r a;simp only[abj,aca]at h;simp[h.1]
  .cases h
 |makeFunc f first M=>
  cases f with
  |func f=>
   simp only[bc]at h|-;split at h
   .rename_i o;rw[if_pos o];simp only[abr,aca]at h|-;obtain⟨v,a,rfl,rfl⟩:=h;exact⟨v,a,rfl,trivial⟩
   .cases h
  |_=>simp[bc]at h
 |slice t y N O F=>
  cases F with
  |some m=>simp[bc]at h
  |none=>
   have j:=A y (by simp[ac8]);simp only[bc]at h|-;split at h
   .rename_i l Q R o r a;replace j:=j _ o;simp only[abr,aca]at h|-;obtain⟨v,G,rfl,rfl⟩:=h;exact⟨v,adV hA j G,rfl,trivial⟩
   .cases h
 |fieldAddr s y f=>
  have j:=A y (by simp[ac8]);simp only[bc]at h|-;split at h
  .rename_i I n g B E i k o r;replace j:=j _ r;split at h
   .cases h
   .rename_i hn;rw[if_neg hn];simp only[abr,aca]at h|-;obtain⟨v,a,rfl,rfl⟩:=h;exact⟨v,nw hA (j B (by simp[lT,iK])) a,rfl,trivial⟩
  .rename_i I n g rows i k o r;split at h
   .cases h
   .rename_i hn;rw[if_neg hn];simp only[abj,aca]at h;simp[h.1]
  .cases h
 |field s y f=>
  simp only[bc]at h|-;split at h
  .simp only[abr,aca]at h|-;obtain⟨v,a,rfl,rfl⟩:=h;exact⟨v,a,rfl,trivial⟩
  .cases h
 |indexAddr t y i=>
  have j:=A y (by simp[ac8]);simp only[bc]at h|-;split at h
  .rename_i l k n o r;replace j:=j _ o;simp only[abr,aca]at h|-;obtain⟨v,a,rfl,rfl⟩:=h;exact⟨v,ad4 hA j a,rfl,trivial⟩
  .cases h
 |index t y i=>
  simp only[bc]at h|-;split at h
  .split at h
   .rename_i J;rw[if_pos J];simp only[abr,aca]at h|-;obtain⟨v,a,rfl,rfl⟩:=h;exact⟨v,a,rfl,trivial⟩
   .cases h
  .cases h
 |extract y i=>
  simp only[bc]at h|-;split at h
  .simp only[abr,aca]at h|-;obtain⟨v,a,rfl,rfl⟩:=h;exact⟨v,a,rfl,trivial⟩
  .cases h
 |call c=>
  have⟨K,args,S⟩:=c;cases K with
  |builtin b=>
   cases b with
   |len=>
    simp only[bc]at h|-;split at h
    .split at h
     .simp only[abr,aca]at h|-;obtain⟨v,a,rfl,rfl⟩:=h;exact⟨v,a,rfl,trivial⟩
     .cases h
    .cases h
   |append=>simp[quiet]at w
   |cap=>
    simp only[bc]at h|-;split at h
    .split at h
     .simp only[abj,aca]at h|-;exact⟨h.1,trivial⟩
     .cases h
    .cases h
   |copy=>simp[quiet]at w
   |clear=>simp[quiet]at w
   |min=>simp only[bc,abr,aca]at h|-;obtain⟨v,a,rfl,rfl⟩:=h;exact⟨v,a,rfl,trivial⟩
   |max=>simp only[bc,abr,aca]at h|-;obtain⟨v,a,rfl,rfl⟩:=h;exact⟨v,a,rfl,trivial⟩
   |_=>simp[bc]at h
  |_=>simp[bc]at h
 |alloc t=>simp[quiet]at w
 |box t y=>simp[quiet]at w
 |buildSlice t n D=>simp[quiet]at w
 |makeSlice t l c=>simp[quiet]at w
 |store t y v=>simp[quiet]at w
 |_=>simp[bc]at h
theorem Zh(a:∀p∈op.operands.toList, ∀v,aY e p=some v->∀h∈lT v,h∉W)(h:eE P e H op=some x):eE P e H' op=some x:=by
 cases op with
 |binOp op t y z i=>exact ZC hA (fun w d=>a y (by simp[ac8]) w d) h
 |unOp op t y=>cases op<;>exact h
 |slice t y j k f=>cases f<;>exact h
 |call c=>
  have⟨g,args,l⟩:=c;cases g with
  |builtin b=>cases b<;>exact h
  |_=>exact h
 |_=>exact h
theorem M8(i:quiet P op=true)(j:∀p∈op.operands.toList, ∀v,aY e p=some v->∀h∈lT v,h∉W)(h:cA P e H op=some (x,H1)):cA P e H' op=some (x,H'):=by
 cases op with
 |slice t y K L u=>
  cases u with
  |some m=>simp[cA]at h
  |none=>
   have n:=j y (by simp[ac8]);simp only[cA,abr,aca]at h|-;obtain⟨r,f,rfl,rfl⟩:=h;refine⟨r,?_,rfl,trivial⟩;unfold sliceB at f|-;split at f
   case h_2=>cases f
   rename_i el M N w O Q len l m R g S T;split at f
   case h_2=>cases f
   rename_i z rows A;simp only[nw hA (n _ g w (by simp[lT,iK])) A];exact f
 |convert s d y=>
  simp only[quiet,afj]at i;have n:=j y (by simp[ac8]);simp only[cA]at h|-;unfold nF at h|-;split at h
  .rw[i]at h;simp at h
  .rename_i l U g;split at h
   .rename_i B;rw[if_pos B];split at h
    .rename_i rows C;rw[BU hA (n _ g) C];split at h
     .simp only[abj,aca]at h;rename_i V D;simp only[D];simp[h.1]
     .cases h
    .cases h
   .cases h
  .cases h
 |lookup t m k c=>
  cases c with
  |true=>simp[cA]at h
  |false=>
   have hm:=j m (by simp[ac8]);simp only[cA]at h|-;unfold nX at h|-;split at h
   .rename_i q k g X;split at h
    .rename_i Y a b E F o;have G:=hA q _ (hm _ g q (by simp[lT,iK])) F rfl;simp only[E,G,o];split at h
     .rename_i I;rw[if_pos I];simp only[abj,aca]at h;simp[h.1]
     .cases h
    .cases h
   .cases h
 |typeAssert y a b c=>
  cases c with
  |false=>simp[cA]at h
  |true=>simp only[cA,abr,aca]at h|-;obtain⟨v,o,rfl,rfl⟩:=h;exact⟨v,o,rfl,trivial⟩
 |call c=>
  have⟨J,args,Z⟩:=c;cases J with
  |builtin b=>cases b<;>first|(simp[quiet]at i;done)|(simp[cA]at h;done)
  |_=>simp[cA]at h
 |_=>first|(simp[quiet]at i;done)|(simp[cA]at h;done)
end
theorem OR{H H':List Ob}(h:eE P e H op=some x)(hn:bc P e H op=none):bc P e H' op=none:=by
 cases op with
 |binOp op t y z l=>
  simp only[eE]at h;simp only[bc]at hn|-;unfold gT at h;split at h
  .rename_i a d;rw[a,d];simp[n9,pS]
  .rename_i a d;rw[a,d]at hn|-;simpa[n9]using hn
  .rename_i a d;rw[a,d];simp[n9,pS]
  .rename_i a d;rw[a,d];simp[n9,pS]
  .rename_i a d;rw[a,d];simp[n9,pS]
  .rename_i a d;rw[a,d];simp[n9,pS]
  .cases h
 |unOp op t y=>
  simp only[bc]at hn|-;split at hn
  .cases hn
  .cases hn
  .rfl
 |slice t y n o g=>
  cases g with
  |some m=>rfl
  |none=>
   simp only[eE]at h;simp only[bc];unfold pG at h;split at h
   .rename_i a d f;rw[a,d,f];simp[qS,pL]
   .cases h
 |indexAddr t y i=>
  simp only[eE]at h;simp only[bc]at hn|-;unfold sH at h;split at h
  .rename_i a d;rw[a,d]at hn|-;simp[sS,view]
  .cases h
 |index t y i=>
  simp only[eE]at h;simp only[bc]at hn|-;unfold nz at h;split at h
  .rename_i a d;rw[a,d];simp
  .cases h
 |call c=>
  have⟨j,args,p⟩:=c;cases j with
  |builtin b=>
   cases b with
   |len=>
    simp only[bc]at hn|-;split
    .rename_i a d;rw[a,d]at hn;simp only at hn;split
     .rename_i f k;rw[f,k]at hn;simpa using hn
     .rfl
    .rfl
   |_=>simp[eE]at h
  |_=>simp[eE]at h
 |makeInterface t y=>rfl
 |_=>simp[eE]at h
theorem Yc{H H':List Ob}(g:quiet P op=true)(h:cA P e H op=some r)(hn:bc P e H op=none):bc P e H' op=none:=by
 cases op with
 |slice t y x z i=>
  cases i with
  |some m=>simp[cA]at h
  |none=>
   simp only[cA,abr]at h;obtain⟨r,f,rfl⟩:=h;unfold sliceB at f;split at f
   case h_2=>cases f
   rename_i el A B j n o len l m p q u v;split at f
   case h_2=>cases f
   split at f
   case isFalse=>cases f
   rename_i hc;simp only[bc,q,u,v];have:qS P H' t (.sl j n o len) (some l) (some m)=none:=by unfold qS;simp only[p,pL,aiU];rw[if_neg (by omega)]
   simp[this]
 |convert s d y=>
  simp only[bc]at hn|-;split at hn
  .cases hn
  .rfl
 |call c=>
  have⟨w,args,C⟩:=c;cases w with
  |builtin b=>cases b<;>first|(simp[quiet]at g;done)|(simp[cA]at h;done)
  |_=>simp[cA]at h
 |lookup t m k c=>rfl
 |typeAssert y a b c=>rfl
 |_=>first|(simp[quiet]at g;done)|(simp[cA]at h;done)
theorem Ta{H H':List Ob}(g:quiet P op=true)(h:cA P e H op=some r):eE P e H' op=none:=by
 cases op with
 |slice t y o p i=>
  cases i with
  |some m=>simp[cA]at h
  |none=>
   simp only[cA,abr]at h;obtain⟨r,f,rfl⟩:=h;unfold sliceB at f;split at f
   case h_2=>cases f
   rename_i el q u v w x len l m z j A B;simp[eE,pG,j]
 |call c=>
  have⟨n,args,C⟩:=c;cases n with
  |builtin b=>cases b<;>first|(simp[quiet]at g;done)|(simp[cA]at h;done)
  |_=>simp[cA]at h
 |convert s d y=>rfl
 |lookup t m k c=>rfl
 |typeAssert y a b c=>rfl
 |_=>first|(simp[quiet]at g;done)|(simp[cA]at h;done)
def plain:Op->Bool
 | .call {callee:= .value _,.. }=>false
 | .move (.global _)=>false
 |_=>true
theorem pt(h:plain op=true)(e:Env)(H:List Ob):eU C ce op e H=match bc C.P e H op with
  |some r=>some r
  |none=>match eE C.P e H op with
   |some x=>some (x,H)
   |none=>cA C.P e H op:=by
 unfold eU
 split
 .simp[plain]at h
 .simp[plain]at h
 .rfl
theorem uG{W:List Nat}{H H':List Ob}(hA:fS W H H')(b:quiet C.P op=true)(c:∀p∈op.operands.toList, ∀v,aY e p=some v->∀h∈lT v,h∉W)
  (h:eU C ce op e H=some (x,H1)):H1=H/\eU C ce op e H'=some (x,H'):=by
 have self:fS [] H H:=fun _ _ _ h _=>h
 have f:∀p∈op.operands.toList, ∀v,aY e p=some v->∀h∈lT v,h∉ ([]:List Nat):=fun _ _ _ _ _ _=>by simp
 cases hp:plain op with
 |false=>
  unfold plain at hp
  split at hp
  .simp[quiet]at b
  .simp only[eU,abr,aca]at h|-
   obtain⟨l,a,rfl,rfl⟩:=h
   exact⟨rfl,l,a,rfl,trivial⟩
  .cases hp
 |true=>
  rw[pt hp]at h|-
  split at h
  .rename_i r d
   cases h
   have a:=OL self b f d
   rw[d]at a
   simp only[abj,aca,true_and]at a
   rw[OL hA b c d]
   exact⟨a,rfl⟩
  .rename_i hn
   split at h
   .rename_i y g
    cases h
    rw[OR g hn,Zh hA c g]
    exact⟨rfl,rfl⟩
   .have a:=M8 self b f h
    rw[h]at a
    simp only[abj,aca,true_and]at a
    rw[Yc b h hn,Ta b h,M8 hA b c h]
    exact⟨a,rfl⟩
end Go.Nx
namespace Go.Nx
variable{P:Program}{op:Op}{e:Env}{x:au}{H:List Ob}
def blind(P:Program):Op->Bool
 | .move _| .assign _| .pick _ _ _| .build _ _| .unOp _ _ _| .makeFunc _ _ _| .field _ _ _| .index _ _ _| .extract _ _| .makeInterface _ _=>true
 | .convert s d _=>!rQ P d&&!rQ P s
 | .call {callee:= .builtin .len,.. }| .call {callee:= .builtin .cap,.. }| .call {callee:= .builtin .min,.. }| .call {callee:= .builtin .max,.. }=>true
 |_=>false
def Yt(h:blind P op=true):quiet P op=true:=by
 unfold blind at h;split at h<;>first|rfl|skip
 .simp only[aa2,afj]at h;simp[quiet,h.1]
 .cases h
def UQ{l:List Ob}(j:List Ob)(k:blind P op=true)(h:bc P e H op=some (x,l)):bc P e j op=some (x,j):=by
 cases op with
 |move y=>simp only[bc,abr,aca]at h|-;obtain⟨v,g,rfl,rfl⟩:=h;exact⟨v,g,rfl,trivial⟩
 |assign y=>simp only[bc,abr,aca]at h|-;obtain⟨v,g,rfl,rfl⟩:=h;exact⟨v,g,rfl,trivial⟩
 |pick c p q=>
  simp only[bc]at h|-;split at h
  .simp only[abj,aca]at h|-;exact⟨h.1,trivial⟩
  .cases h
 |build t o=>
  simp only[bc]at h|-;split at h
  .simp only[abr,aca]at h|-;obtain⟨v,g,rfl,rfl⟩:=h;exact⟨v,g,rfl,trivial⟩
  .cases h
 |unOp op t y=>
  simp only[bc]at h|-;split at h
  .simp only[abj,aca]at h|-;exact⟨h.1,trivial⟩
  .simp only[abj,aca]at h|-;exact⟨h.1,trivial⟩
  .cases h
 |convert s d y=>
  simp only[bc]at h|-;split at h
  .simp only[abj,aca]at h|-;exact⟨h.1,trivial⟩
  .cases h
 |makeFunc f first r=>
  cases f with
  |func f=>
   simp only[bc]at h|-;split at h
   .rename_i g;rw[if_pos g];simp only[abr,aca]at h|-;obtain⟨v,a,rfl,rfl⟩:=h;exact⟨v,a,rfl,trivial⟩
   .cases h
  |_=>simp[bc]at h
 |field s y f=>
  simp only[bc]at h|-;split at h
  .simp only[abr,aca]at h|-;obtain⟨v,a,rfl,rfl⟩:=h;exact⟨v,a,rfl,trivial⟩
  .cases h
 |index t y i=>
  simp only[bc]at h|-;split at h
  .split at h
   .rename_i m;rw[if_pos m];simp only[abr,aca]at h|-;obtain⟨v,a,rfl,rfl⟩:=h;exact⟨v,a,rfl,trivial⟩
   .cases h
  .cases h
 |extract y i=>
  simp only[bc]at h|-;split at h
  .simp only[abr,aca]at h|-;obtain⟨v,a,rfl,rfl⟩:=h;exact⟨v,a,rfl,trivial⟩
  .cases h
 |call c=>
  have⟨n,args,u⟩:=c;cases n with
  |builtin b=>
   cases b with
   |len=>
    simp only[bc]at h|-;split at h
    .split at h
     .simp only[abr,aca]at h|-;obtain⟨v,a,rfl,rfl⟩:=h;exact⟨v,a,rfl,trivial⟩
     .cases h
    .cases h
   |cap=>
    simp only[bc]at h|-;split at h
    .split at h
     .simp only[abj,aca]at h|-;exact⟨h.1,trivial⟩
     .cases h
    .cases h
   |min=>simp only[bc,abr,aca]at h|-;obtain⟨v,a,rfl,rfl⟩:=h;exact⟨v,a,rfl,trivial⟩
   |max=>simp only[bc,abr,aca]at h|-;obtain⟨v,a,rfl,rfl⟩:=h;exact⟨v,a,rfl,trivial⟩
   |_=>first|(simp[blind]at k;done)|(simp[bc]at h;done)
  |_=>simp[bc]at h
 |_=>first|(simp[blind]at k;done)|(simp[bc]at h;done)
def agF{C:bu}{i:cY}{j:List Ob}(H':List Ob)(a:blind C.P op=true)(h:eU C i op e H=some (x,j)):j=H/\eU C i op e H'=some (x,H'):=by
 refine⟨(uG (W:=[]) (H':=H) (fun _ _ _ h _=>h) (Yt a) (fun _ _ _ _ _ _=>by simp) h).1,?_⟩;cases hp:plain op with
 |false=>
  unfold plain at hp;split at hp
  .simp[blind]at a
  .simp only[eU,abr,aca]at h|-;obtain⟨l,k,rfl,rfl⟩:=h;exact⟨l,k,rfl,trivial⟩
  .cases hp
 |true=>
  rw[pt hp]at h|-;split at h
  .rename_i r m;cases h;rw[UQ H' a m]
  .rename_i hn;split at h
   .rename_i y f;cases h;rw[OR f hn]
    have:eE C.P e H' op=some x:=by
     cases op with
     |unOp op t y=>cases op<;>exact f
     |call c=>
      have⟨g,args,n⟩:=c;cases g with
      |builtin b=>cases b<;>exact f
      |_=>exact f
     |_=>first|exact f|(simp[blind]at a;done)
    rw[this]
   .exfalso
    cases op with
    |convert s d y=>
     simp only[blind,aa2,afj]at a;simp only[cA]at h;unfold nF at h;split at h
     .rw[a.1]at h;simp at h
     .rw[a.2]at h;simp at h
     .cases h
    |call c=>
     have⟨g,args,n⟩:=c;cases g with
     |builtin b=>cases b<;>first|(simp[blind]at a;done)|(simp[cA]at h;done)
     |_=>simp[cA]at h
    |_=>first|(simp[blind]at a;done)|(simp[cA]at h;done)
def xM(own:List Ob):fS [] H (H++own):=fun h o _ a _=>by have:=(aa3.1 a).1;rw[aaK this];exact a
def yT(n:Nat)(o:Ob):fS [n] H (H.set n o):=fun h c a b _=>by rw[aay (fun e=>a (by simp[e]))];exact b
def XJ{n:Nat}(o:Ob)(c:H[n]?=some .dead):fS [] H (H.set n o):=fun h f _ a d=>by
 by_cases b:h=n
 .subst b;rw[c]at a;cases a;cases d
 .rw[aay (fun e=>b e.symm)];exact a
def grow:Op->Bool
 | .alloc _| .box _ _| .buildSlice _ _ _| .makeSlice _ _ _=>true
 |_=>false
def abl{r:au×List Ob}(d:grow op=true)(h:bc P e H op=some r):
  ∃l z rows,bc P e [] op=some (.c l,[.live 0 z rows])/\r=(.c (dZ H.length l),H++[.live 0 z rows])/\((∃i k,l= .ptr 0 0 i k)\/∃len,l= .sl 0 0 0 len):=by
 cases op with
 |alloc t=>
  simp only[bc]at h|-
  split at h
  .cases h
   exact⟨_,_,_,rfl,rfl,.inl ⟨_,_,rfl⟩⟩
  .cases h
 |box t y=>
  simp only[bc]at h|-
  split at h
  .split at h
   .cases h
    rename_i b f
    exact⟨_,_,_,by simp,rfl,.inl ⟨_,_,rfl⟩⟩
   .cases h
  .cases h
 |buildSlice t n g=>
  simp only[bc]at h|-
  split at h
  .split at h
   .rename_i a
    rw[if_pos a]
    simp only[abr]at h
    obtain⟨rows,b,rfl⟩:=h
    exact⟨_,_,_,by rw[b];rfl,rfl,.inr ⟨_,rfl⟩⟩
   .cases h
  .cases h
 |makeSlice t l c=>
  simp only[bc]at h|-
  split at h
  .split at h
   .rename_i a
    rw[if_pos a]
    cases h
    exact⟨_,_,_,rfl,rfl,.inr ⟨_,rfl⟩⟩
   .cases h
  .cases h
 |_=>simp[grow]at d
def UR{l:ab}{z:Nat}{rows:List (List ab)}(H:List Ob)(f:grow op=true)(h:bc P e [] op=some (.c l,[.live 0 z rows])):bc P e H op=some (.c (dZ H.length l),H++[.live 0 z rows]):=by
 cases op with
 |alloc t=>
  simp only[bc]at h|-;split at h
  .simp only[abj,aca,au.c.injEq,aiy,aiu,and_true]at h;obtain⟨rfl,a⟩:=h;rw[a];rfl
  .cases h
 |box t y=>
  simp only[bc]at h|-;split at h
  .split at h
   .rename_i a;simp only[abj,aca,au.c.injEq,aiy,aiu,and_true]at h;obtain⟨rfl,b⟩:=h;rw[b];rfl
   .cases h
  .cases h
 |buildSlice t n j=>
  simp only[bc]at h|-;split at h
  .split at h
   .rename_i d;rw[if_pos d];simp only[abr,aca,au.c.injEq,aiy,aiu,and_true]at h|-;obtain⟨g,i,rfl,b⟩:=h;exact⟨g,i,rfl,by rw[b]⟩
   .cases h
  .cases h
 |makeSlice t k c=>
  simp only[bc]at h|-;split at h
  .split at h
   .rename_i d;rw[if_pos d];simp only[abj,aca,au.c.injEq,aiy,aiu,and_true]at h;obtain⟨rfl,a⟩:=h;rw[a];rfl
   .cases h
  .cases h
 |_=>simp[grow]at f
end Go.Nx
namespace Go.Nx
variable{C:bu}{op:Op}{e:Env}{H1:List Ob}{x:au}{ce:cY}{P:Program}{y:ab}{t:TypeId}
section
variable{H H':List Ob}{g g':ab->Option (ab×List Nat)}(hg:∀l r,g l=some r->g' l=some r)
include hg
theorem zR:∀(a:List ab) (r),eS g a=some r->eS g' a=some r
 |[],r,h=>h
 |l::a,r,h=>by
  simp only[eS]at h|-
  split at h
  .rename_i b c
   rw[hg _ _ b,zR a _ c]
   exact h
  .cases h
theorem Rm:∀(a:List (List ab)) (r),kg g a=some r->kg g' a=some r
 |[],r,h=>h
 |l::a,r,h=>by
  simp only[kg]at h|-
  split at h
  .rename_i b c
   rw[zR hg _ _ b,Rm a _ c]
   exact h
  .cases h
theorem QW{rows:List (List ab)}{r}(h:jg g rows=some r):jg g' rows=some r:=by
 unfold jg at h|-;split at h
 .rename_i a;rw[if_pos a];exact h
 .rename_i a;rw[if_neg a];exact Rm hg _ _ h
end
section
variable{H H':List Ob}(hA:fS [] H H')
include hA
theorem KJ:∀(n:Nat) (l:ab) (r),bV H n l=some r->bV H' n l=some r
 |0,l,r,h=>by simp[bV]at h
 |n+1,l,r,h=>by
  simp only[bV]at h|-
  split at h
  .rename_i b
   rw[if_pos b]
   exact h
  .rename_i b
   rw[if_neg b]
   have c:=KJ n
   split at h
   .rename_i f g i len _
    split at h
    .rename_i z j rows d e
     rw[nw hA (by simp) d,BU hA (by simp) e]
     simp only
     split at h
     .rename_i k m a
      rw[QW c a]
      exact h
     .cases h
    .cases h
   .split at h
    .rename_i d
     rw[nw hA (by simp) d]
     simp only
     split at h
     .rename_i a
      rw[QW c a]
      exact h
     .cases h
    .cases h
   .split at h
    .rename_i a
     rw[zR c _ _ a]
     exact h
    .cases h
   .cases h
theorem aew{v:au}{r}(h:df H v=some r):df H' v=some r:=by
 cases v with
 |c l=>
  simp only[df]at h|-;split at h
  .rename_i a;rw[KJ hA _ _ _ a];exact h
  .cases h
 |agg cs=>
  simp only[df]at h|-;split at h
  .rename_i a;rw[zR (KJ hA 6) _ _ a];exact h
  .cases h
 |aM b=>exact h
theorem Sm:∀(a:List au) (r),dy H a=some r->dy H' a=some r
 |[],r,h=>h
 |v::a,r,h=>by
  simp only[dy]at h|-
  split at h
  .rename_i b c
   rw[aew hA b,Sm a _ c]
   exact h
  .cases h
end
theorem QX{b:cY}{H:List Ob}(a:qB C e op=true)(h:eU C (aO C b) op e H=some (x,H1)):
  ∃own,H1=H++own/\∀H',fS [] H H'->H'.length=H.length->eU C (aO C b) op e H'=some (x,H'++own):=by
 unfold qB at a
 split at a
 .rename_i f args q
  split at a
  .rename_i g i j k l
   simp only[eU,k,l]at h|-
   unfold aO at h|-
   simp only[aa2,bne_iff_ne,ne_eq,afj]at a
   have d:¬(C.md g=3\/(j++i.map au.c).any (eQ C)=true):=by
    rintro(hc|hc)
    .exact a.1 hc
    .rw[a.2]at hc;cases hc
   rw[if_neg d]at h
   split at h
   .rename_i s t m
    split at h
    .rename_i r own n
     split at h
     .rename_i o
      simp only[abj,aca]at h
      obtain⟨rfl,rfl⟩:=h
      refine⟨_,rfl,fun H' hA p=>?_⟩
      rw[if_neg d,Sm hA _ _ m]
      simp only[n,p]
      rw[if_pos o]
     .cases h
    .cases h
   .cases h
  .cases a
 .cases a
theorem XP{H:List Ob}{r:au×List Ob}(hg:grow op=true)(h:eU C ce op e H=some r):bc C.P e H op=some r:=by
 have hp:plain op=true:=by unfold grow at hg;split at hg<;>first|rfl|cases hg
 rw[pt hp]at h;split at h
 .rename_i a;rw[a,h]
 .exfalso
  cases op with
  |alloc t=>simp[eE,cA]at h
  |box t y=>simp[eE,cA]at h
  |buildSlice t n b=>simp[eE,cA]at h
  |makeSlice t l c=>simp[eE,cA]at h
  |_=>simp[grow]at hg
theorem Q4{H:List Ob}(hg:grow op=true)(h:eU C ce op e H=some (x,H1)):
  ∃own,H1=H++own/\∀H',fS [] H H'->H'.length=H.length->eU C ce op e H'=some (x,H'++own):=by
 have a:=XP hg h
 have⟨l,z,rows,b,c,_⟩:=abl hg a
 cases c
 refine⟨_,rfl,fun H' _ d=>?_⟩
 have hp:plain op=true:=by
  unfold grow at hg
  split at hg<;>first|rfl|cases hg
 rw[pt hp,UR H' hg b,d]
theorem fS.refl{W:List Nat}(H:List Ob):fS W H H:=fun _ _ _ h _=>h
theorem fS.mono{W a:List Nat}{H H':List Ob}(h:fS W H H')(b:∀n∈W,n∈a):fS a H H':=fun n o hn c d=>h n o (fun hc=>hn (b n hc)) c d
theorem afi{H:List Ob}{a b bytes:Nat}{z:List ab}{s:ab}(h:rZ P H a b bytes z s y=some (x,H1)):fS [] H H1:=by
 unfold rZ at h;split at h
 .split at h
  .cases h;exact xM _
  .cases h
 .cases h
theorem Wc{H:List Ob}{a:TypeId}{s:ab}(h:xa P H t a s y=some (x,H1)):fS (iK s) H H1:=by
 unfold xa at h;split at h
 .split at h
  .split at h
   .split at h
    .cases h;exact(xM _).mono (by simp)
    .cases h
   .split at h
    .split at h
     .cases h;exact yT _ _
     .cases h
    .cases h
   .cases h
  .cases h
 .exact (afi h).mono (by simp)
 .cases h
theorem Um{H:List Ob}{b:TypeId}{s:ab}(h:pw P H t b s y=some (x,H1)):fS (iK s) H H1:=by
 unfold pw at h;split at h
 .rename_i r a;simp only[abj]at h;subst h;unfold Iv at a;split at a
  .split at a
   .split at a
    .cases a;exact yT _ _
    .cases a
   .cases a
  .cases a
 .exact Wc h
theorem YI{H:List Ob}{s:ab}{a:List (List ab)}(h:vo P H t s a=some (x,H1)):fS (iK s) H H1:=by
 unfold vo at h;split at h
 .split at h
  .split at h
   .split at h
    .cases h;exact(xM _).mono (by simp)
    .cases h
   .split at h
    .split at h
     .cases h;exact yT _ _
     .cases h
    .cases h
   .cases h
  .cases h
 .cases h
theorem Zq{H:List Ob}{o:List Nat}(j:vD e op=some o)(h:eU C ce op e H=some (x,H1)):fS o H H1:=by
 unfold vD at j;split at j
 case h_2=>cases j
 rename_i p hp;split at j
 case h_3=>cases j
 case h_2=>
  rename_i d;exfalso
  unfold yq at hp;split at hp
  .cases hp;rw[pt rfl]at h;simp only[bc,eE,cA,d]at h;split at h
   .rename_i r a;split at a
    .rename_i f _;cases f
    .cases a
   .cases h
  .rename_i args q;rw[pt rfl]at h;simp only[bc,eE,cA]at h;split at h
   .rename_i r a;split at a
    .rename_i s y t m b f;rw[b]at hp;cases hp;rw[d]at a;split at a
     .rename_i c _;cases c
     .cases a
    .cases a
   .split at h
    .rename_i s y t m b f;rw[b]at hp;cases hp;rw[d]at h;split at h
     .rename_i c _;cases c
     .cases h
    .cases h
  .cases hp
 rename_i l d;cases j;unfold yq at hp;split at hp
 .cases hp;rw[pt rfl]at h;simp only[bc,eE,cA,d]at h;split at h
  .rename_i r a;cases h;split at a
   .rename_i g n z A i k B b f c;cases f;split at a
    .split at a
     .split at a
      .split at a
       .cases a;exact yT _ _
       .cases a
      .cases a
     .cases a
    .cases a
   .cases a
  .cases h
 .rename_i args q;rw[pt rfl]at h;simp only[bc,eE,cA]at h;split at h
  .rename_i r a;cases h;split at a
   .rename_i s y t m b f;rw[b]at hp;cases hp;rw[d]at a;split at a
    .rename_i u v c w;cases c;exact Um a
    .cases a
   .cases a
  .split at h
   .rename_i s y t m b f;rw[b]at hp;cases hp;rw[d]at h;split at h
    .rename_i u v c w;cases c;split at h
     .exact YI h
     .cases h
    .cases h
   .cases h
 .cases hp
end Go.Nx
namespace Go.Nx
variable{e e2:Env}{op:Op}{H:List Ob}{o:Oper}{p:Nat×Oper}{x y:au}
def tmpsOf(op:Op):List Nat:=op.operands.toList.filterMap fun| .tmp t=>some t|_=>none
def PF(h:∀t∈tmpsOf op,e.get t=e2.get t):∀p∈op.operands,aY e p=aY e2 p:=by
 intro p hp;cases p with
 |tmp t=>refine h t ?_;unfold tmpsOf;rw[List.mem_filterMap];exact⟨.tmp t,by simpa using hp,rfl⟩
 |_=>rfl
def wZ(op:Op):List Nat:=
 match yq op with
 |some (.tmp t)=>[t]
 |_=>[]
def uz(all:List Oper)(o:Oper):List Nat:=
 tmpsOf o.op++(match o.guard with|some (j,_)=>((all[j]?).bind (·.dst)).toList|none=>[])
def ae0(h:∀p∈op.operands,aY e p=aY e2 p):vH e op=vH e2 op:=by unfold vH;refine congrArg List.flatten (ajm fun p hp=>?_);rw[h p (by simpa using hp)]
def VQ(h:∀t∈wZ op,e.get t=e2.get t):vD e op=vD e2 op:=by
 unfold vD wZ at*;split
 .rename_i p hp;rw[hp]at h
  have:aY e p=aY e2 p:=by
   cases p with
   |tmp t=>exact h t (by simp)
   |_=>rfl
  rw[this]
 .rfl
def Uj{C:bu}(h:∀p∈op.operands,aY e p=aY e2 p):qB C e op=qB C e2 op:=by
 cases op with
 |call c=>
  have⟨a,args,g⟩:=c;cases a with
  |value f=>simp only[qB];have⟨b,d⟩:=N6 h;rw[b,d]
  |_=>rfl
 |_=>rfl
section
variable{C:bu}{ce:cY}{r:RI}{all:List Oper}{n0:Nat}
def aa7{g:Option (Nat×Bool)}(h:∀j w,g=some (j,w)->∀t,(all[j]?).bind (·.dst)=some t->e.get t=e2.get t):nJ all e g=nJ all e2 g:=by
 unfold nJ;split
 .rfl
 .rename_i j w;split
  .rename_i t a;rw[h j w rfl t a]
  .rfl
def LS{a i:Op}(b:∀t∈tmpsOf a,e.get t=e2.get t)(c:∀t∈wZ i,e.get t=e2.get t):qP e a i=qP e2 a i:=by unfold qP;rw[ae0 (PF b),VQ c]
def agP{i:Nat}(a:∀p∈op.operands,aY e p=aY e2 p):jD C ce r n0 i op e H=jD C ce r n0 i op e2 H:=by unfold jD;rw[Uj a,agK a];unfold gV;rw[LH a]
def JY{i:Nat}(h:∀t∈uz all o,e.get t=e2.get t):fy C ce r all n0 i o e H=fy C ce r all n0 i o e2 H:=by have b:∀p∈o.op.operands,aY e p=aY e2 p:=PF fun t a=>h t (by simp[uz,a]);unfold fy;rw[aa7 (e2:=e2) (fun j w c t a=>h t (by simp[uz,c,a])),agP b]
def oJ(e e2:Env):Prop:= ∀t,e.get t=e2.get t
def oJ.put(h:oJ e e2)(d:Option Nat)(x:au):oJ (dW e d x) (dW e2 d x):=fun t=>by rw[Env.ot,Env.ot,h t]
def RG:∀(d:List (Nat×Oper)) (e e2:Env) (H:List Ob) (b:Env) (c:List Ob),oJ e e2->gB C ce r all n0 d e H=some (b,c)->∃f,gB C ce r all n0 d e2 H=some (f,c)/\oJ b f
 |[],e,e2,H,b,c,h,a=>by
  simp only[gB,abj,aca]at a|-
  obtain⟨rfl,rfl⟩:=a
  exact⟨e2,⟨rfl,rfl⟩,h⟩
 |p::g,e,e2,H,b,c,h,a=>by
  simp only[gB]at a|-
  rw[JY (e2:=e) (fun t _=>(h t).symm)]
  split at a
  .exact RG g _ _ _ _ _ (h.put _ _) a
  .cases a
def ur(C:bu)(r:RI)(all:List Oper)(p q:Nat×Oper):Bool:=
 (match p.2.dst with|some d=>!(uz all q.2).contains d&&q.2.dst !=some d|none=>true)&&
 (match q.2.dst with|some d=>!(uz all p.2).contains d|none=>true)&&
 (r.fl !=some p.1)&&
 (if r.fl=some q.1 then quiet C.P p.2.op||grow p.2.op||r.gc.contains p.1
  else quiet C.P p.2.op&&(blind C.P p.2.op||quiet C.P q.2.op||grow q.2.op||r.gc.contains q.1||r.rs.contains (p.1,q.1)))
def C1{q:Nat×Oper}(h:ur C r all p q=true):(∀d,p.2.dst=some d->d∉uz all q.2/\q.2.dst≠some d)/\(∀d,q.2.dst=some d->d∉uz all p.2)/\r.fl≠some p.1/\
  (r.fl=some q.1->quiet C.P p.2.op=true\/grow p.2.op=true\/r.gc.contains p.1=true)/\
  (r.fl≠some q.1->quiet C.P p.2.op=true/\(blind C.P p.2.op=true\/quiet C.P q.2.op=true\/grow q.2.op=true\/r.gc.contains q.1=true\/(p.1,q.1)∈r.rs)):=by
 unfold ur at h
 simp only[aa2]at h
 have⟨⟨⟨e,f⟩,g⟩,a⟩:=h
 refine⟨fun d b=>?_,fun d b=>?_,by simpa using g,fun c=>?_,fun c=>?_⟩
 .rw[b]at e
  simpa using e
 .rw[b]at f
  simpa using f
 .rw[if_pos c]at a
  simpa[or_assoc]using a
 .rw[if_neg c]at a
  simpa[or_assoc]using a
end
section
variable{C:bu}{eb:cY}{r:RI}{all:List Oper}{n0:Nat}
def Gq{b:List Ob}(g:r.fl≠some p.1)(i:quiet C.P p.2.op=true\/grow p.2.op=true\/r.gc.contains p.1=true)(hp:fy C (aO C eb) r all n0 p.1 p.2 e H=some (x,b)):
  ∃own,b=H++own/\∀a,fS [] H a->a.length=H.length->fy C (aO C eb) r all n0 p.1 p.2 e a=some (x,a++own):=by
 unfold fy at hp|-
 split at hp
 .rename_i c hc
  split at hp
  .rename_i d
   subst d
   unfold jD at hp|-
   rw[if_neg g]at hp
   split at hp
   .rename_i f
    have j:∃own,b=H++own/\∀a,fS [] H a->a.length=H.length->eU C (aO C eb) p.2.op e a=some (x,a++own):=by
     rcases i with h|k|l
     .refine ⟨[],by simpa using(uG (fS.refl (W:=[]) H) h (fun _ _ _ _ _ _=>by simp) hp).1,fun a hA _=>?_⟩
      rw[aeo]
      exact(uG hA h (fun _ _ _ _ _ _=>by simp) hp).2
     .exact Q4 k hp
     .have:qB C e p.2.op=true:=by
       rw[l]at f
       simpa using f
      exact QX this hp
    have⟨own,m,n⟩:=j
    refine⟨own,m,fun a hA o=>?_⟩
    simp only[if_true]
    rw[if_neg g,if_pos f]
    exact n a hA o
   .cases hp
  .rename_i d
   cases hp
   refine⟨[],by simp,fun a _ _=>?_⟩
   simp only[if_neg d,aeo]
 .cases hp
def acO{i:Nat}{f own:List Ob}(g:r.fl=some i)(hn:n0<H.length)(h:fy C (aO C eb) r all n0 i o e (H++own)=some (y,f)):
  ∃a,fy C (aO C eb) r all n0 i o e H=some (y,a)/\f=a++own/\fS [] H a/\a.length=H.length:=by
 unfold fy at h|-
 split at h
 .rename_i c hc
  split at h
  .rename_i b
   subst b
   unfold jD at h|-
   rw[if_pos g]at h
   simp only[if_true]
   rw[if_pos g]
   unfold gV at h|-
   split at h
   .rename_i z rows d j
    rw[aaK hn]at d
    rw[d,j]
    simp only
    split at h
    .rename_i k
     rw[if_pos k]
     simp only[abj,aca]at h
     obtain⟨rfl,rfl⟩:=h
     exact⟨H.set n0 (.live 1 z rows),rfl,ajT _ _ hn,XJ _ d,by simp⟩
    .cases h
   .cases h
  .rename_i b
   cases h
   exact⟨H,by rw[if_neg b],rfl,fS.refl H,rfl⟩
 .cases h
def VK{q:Nat×Oper}{d f:List Ob}(hn:r.fl≠none->n0<H.length)(E:(p.1,q.1)∈r.rs->qP e p.2.op q.2.op=true)(F:ur C r all p q=true)(hp:fy C (aO C eb) r all n0 p.1 p.2 e H=some (x,d))(a:fy C (aO C eb) r all n0 q.1 q.2 (dW e p.2.dst x) d=some (y,f)):
  ∃i,fy C (aO C eb) r all n0 q.1 q.2 e H=some (y,i)/\fy C (aO C eb) r all n0 p.1 p.2 (dW e q.2.dst y) i=some (x,f)/\H.length<=d.length:=by
 have⟨G,I,n,J,K⟩:=C1 F
 rw[JY (e2:=e) (fun t u=>by
  rw[Env.ot,if_neg (fun w=>(G t w).1 u)])]at a
 have L:∀H,fy C (aO C eb) r all n0 p.1 p.2 (dW e q.2.dst y) H=fy C (aO C eb) r all n0 p.1 p.2 e H:=fun H=>JY (fun t u=>by
  rw[Env.ot,if_neg (fun w=>I t w u)])
 simp only[L]
 by_cases j:r.fl=some q.1
 .obtain ⟨own,rfl,s⟩:=Gq n (J j) hp
  obtain⟨i,M,rfl,N,O⟩:=acO j (hn (by simp[j])) a
  exact⟨i,M,s i N O,by simp⟩
 .have ⟨z,P⟩:=K j
  have⟨own,ab,s⟩:=Gq n (.inl z) hp
  have Q:d=H:=by
   unfold fy at hp
   split at hp
   .split at hp
    .unfold jD at hp
     rw[if_neg n]at hp
     split at hp
     .exact (uG (fS.refl (W:=[]) H) z (fun _ _ _ _ _ _=>by simp) hp).1
     .cases hp
    .cases hp;rfl
   .cases hp
  subst Q
  refine⟨f,a,?_,adt _⟩
  unfold fy at hp|-
  split at hp
  .rename_i c hc
   split at hp
   .rename_i A
    subst A
    simp only[if_true]
    unfold jD at hp|-
    rw[if_neg n]at hp|-
    split at hp
    .rename_i R
     rw[if_pos R]
     have sub:∀W,fS W d f->(∀b∈p.2.op.operands.toList, ∀v,aY e b=some v->∀h∈lT v,h∉W)->eU C (aO C eb) p.2.op e f=some (x,f):=fun W hA g=>(uG hA z g hp).2
     unfold fy at a
     split at a
     .split at a
      .unfold jD at a
       rw[if_neg j]at a
       split at a
       .rename_i B
        rcases P with S|T|U|V|X
        .exact (agF f S hp).2
        .have:f=d:=(uG (fS.refl (W:=[]) d) T (fun _ _ _ _ _ _=>by simp) a).1
         subst this
         exact hp
        .obtain ⟨Y,rfl,_⟩:=Q4 U a
         exact sub [] (xM _) (fun _ _ _ _ _ _=>by simp)
        .have:qB C e q.2.op=true:=by
          rw[V]at B
          simpa using B
         obtain⟨Y,rfl,_⟩:=QX this a
         exact sub [] (xM _) (fun _ _ _ _ _ _=>by simp)
        .have k:=E X
         have D:∀b∈p.2.op.operands.toList, ∀v,aY e b=some v->∀h∈lT v,h∈vH e p.2.op:=by
          intro b l v m h g
          unfold vH
          rw[amd]
          exact⟨b,l,by rw[m];exact g⟩
         unfold qP at k
         split at k
         .rename_i Z
          refine sub (aiT d.length) (fun h o s ho _=>?_) (fun b l v m h g=>?_)
          .have:=(aa3.1 ho).1
           simp at s
           omega
          .have:=D b l v m h g
           rw[Z]at this
           cases this
         .rename_i ts aa _
          refine sub ts (Zq aa a) (fun b l v m h g=>?_)
          have:=D b l v m h g
          rw[af8]at k
          simpa using k h this
         .cases k
       .cases a
      .cases a
       exact hp
     .cases a
    .cases hp
   .rename_i A
    cases hp
    simp only[if_neg A]
  .cases hp
def CS:∀(c:List (Nat×Oper)) (e a:Env) (H b:List Ob),gB C (aO C eb) r all n0 c e H=some (a,b)->∀t,(∀p∈c,p.2.dst≠some t)->a.get t=e.get t
 |[],e,a,H,b,h,t,_=>by
  simp only[gB,abj,aca]at h
  rw[h.1]
 |p::f,e,a,H,b,h,t,d=>by
  simp only[gB]at h
  split at h
  .rw[CS f _ _ _ _ h t (fun q g=>d q (by simp[g])),Env.ot,if_neg (d p (by simp))]
  .cases h
def DV(p q:Nat×Oper)(X:List (Nat×Oper)):Prop:= ∀x∈X, ∀d,x.2.dst=some d->d∉tmpsOf p.2.op/\d∉wZ q.2.op
def Lv{q:Nat×Oper}{B:List (Nat×Oper)}:∀(A:List (Nat×Oper)) (e:Env) (H:List Ob) (b:Env) (c:List Ob),(r.fl≠none->n0<H.length)->(∀g p d,A=g++p::d->ur C r all p q=true/\((p.1,q.1)∈r.rs->qP b p.2.op q.2.op=true/\DV p q (p::d++q::B)))->
  gB C (aO C eb) r all n0 (A++q::B) e H=some (b,c)->∃m,gB C (aO C eb) r all n0 (q::A++B) e H=some (m,c)/\oJ b m
 |[],e,H,b,c,_,_,h=>⟨b,h,fun _=>rfl⟩
 |p::A,e,H,b,c,hn,hA,h=>by
  have⟨i,v⟩:=hA [] p A rfl
  have w:(p.1,q.1)∈r.rs->qP e p.2.op q.2.op=true:=fun hm=>by
   have⟨c1,c2⟩:=v hm
   rw[LS (e2:=b) (fun t j=>(CS _ _ _ _ _ h t fun x k l=>(c2 x k t l).1 j).symm) (fun t j=>(CS _ _ _ _ _ h t fun x k l=>(c2 x k t l).2 j).symm)]
   exact c1
  simp only[ai1,gB]at h|-
  split at h
  .rename_i x z hp
   have O:H.length<=z.length:=by
    have⟨n,D,o,s,u⟩:=C1 i
    have:quiet C.P p.2.op=true\/grow p.2.op=true\/r.gc.contains p.1=true:=by
     by_cases f:r.fl=some q.1
     .exact s f
     .exact .inl (u f).1
    obtain⟨own,rfl,_⟩:=Gq o this hp
    simp
   have⟨Q,a,E⟩:=Lv A _ _ _ _ (fun f=>by have:=hn f;omega) (fun g F d G=>hA (p::g) F d (by rw[G];rfl)) h
   simp only[ai1,gB]at a
   split at a
   .rename_i y R I
    have⟨S,J,K,_⟩:=VK hn w i hp I
    rw[J]
    simp only
    rw[K]
    simp only
    have⟨n,D,o,s,u⟩:=C1 i
    have L:oJ (dW (dW e p.2.dst x) q.2.dst y) (dW (dW e q.2.dst y) p.2.dst x):=by
     intro t
     simp only[Env.ot]
     by_cases a:p.2.dst=some t
     .have:=(n t a).2
      simp[a,this]
     .simp[a]
    have⟨e2,M,N⟩:=RG _ _ _ _ _ _ L a
    exact⟨e2,M,fun t=>(E t).trans (N t)⟩
   .cases a
  .cases h
end
end Go.Nx
namespace Go.Nx
def az.jl(Γ:az)(n0:Nat)(cells:Array Value)(T:TypeId)(a:ft):az:=
 {w:=Γ.w.alloc (.cells cells T),F:=Γ.F,X:=fun b=>Γ.X b\/b=Γ.w.heap.size,hs:=Γ.hs.set n0 (a,1)}
section
variable{Γ:az}{H:List Ob}(hok:aZ Γ H){n0:Nat}(hd:H[n0]?=some .dead)
include hok hd
theorem N5(cells:Array Value)(T:TypeId)(c:ft):Γ.Le (Γ.jl n0 cells T c)where
 F _ _ h:=h
 mem b z e:=lV Γ.w _ b (hok.F b z e)
 hs h i v a:=by
  have⟨j,f⟩:=hok.ob n0 _ hd
  have g:h<Γ.hs.length:=(aa3.1 a).1
  by_cases d:n0=h
  .subst d
   rw[f]at a
   cases a
   exact⟨c,1,by simp[az.jl,g],by omega,by omega⟩
  .exact ⟨i,v,by simp only[az.jl];rw[aay d];exact a,adt _,fun _=>rfl⟩
theorem NI(cells:Array Value)(T:TypeId)(c:ft):Γ.cL (Γ.jl n0 cells T c)where
 le:=N5 hok hd cells T c
 os:=rfl
 tape:=rfl
 output:=rfl
 size:=by simp[az.jl]
 frame b a _:=lV Γ.w _ b a
 mu b z a:= .inl a
 kS b a:=by
  rcases a with a|a
  .exact .inl a
  .exact .inr (by omega)
theorem PE(cells:Array Value)(T:TypeId)(cap a:Nat)(rows:List (List ab))(I:cap<=maxLen)(J:rows.length<=cap)(K:0<a)
  (L:cap*a<=cells.size) (M:∀r∈rows,r.length=a) (q:List Value) (A:aX Γ rows.flatten q) (N:∀(k:Nat) (y:Value),q[k]?=some y->cells[k]?=some y):
  aZ (Γ.jl n0 cells T ⟨some Γ.w.heap.size,0,cap,a⟩) (H.set n0 (.live 1 a rows)):=by
 have B:=N5 hok hd cells T ⟨some Γ.w.heap.size,0,cap,a⟩
 have s:n0<H.length:=(aa3.1 hd).1
 have C:(Γ.jl n0 cells T ⟨some Γ.w.heap.size,0,cap,a⟩).w.heap[Γ.w.heap.size]?=some (.cells cells T (0,0)):=heap_alloc_new Γ.w _
 have O:bF (Γ.jl n0 cells T ⟨some Γ.w.heap.size,0,cap,a⟩) Γ.w.heap.size a 0 rows:=by
  have P:=kx B _ _ A
  clear A
  have Q:∀(f:List (List ab)) (d:Nat) (i:List Value),(∀r∈f,r.length=a)->aX (Γ.jl n0 cells T ⟨some Γ.w.heap.size,0,cap,a⟩) f.flatten i->(∀(k:Nat) (y:Value),i[k]?=some y->cells[d+k]?=some y)->
    bF (Γ.jl n0 cells T ⟨some Γ.w.heap.size,0,cap,a⟩) Γ.w.heap.size a d f:=by
   intro f
   induction f with
   |nil=>intro d i _ _ _;simp[bF]
   |cons r f R=>
    intro d i t D hc
    simp only[bF]
    have S:=t r (by simp)
    have E:=tw D r.length
    have G:=sW D r.length
    simp only[aiC,alt,amF]at E G
    refine⟨S,nN fun k l g=>?_,R (d+a) _ (fun x c=>t x (by simp[c])) G fun k y g=>?_⟩
    .have ⟨y,j,U⟩:=kX E g
     refine⟨y,?_,U⟩
     rw[cell_of C]
     rw[ajG]at j
     split at j
     .exact hc k y j
     .cases j
    .rw[aiX]at g
     have:=hc _ y g
     rwa [show d+a+k=d+(r.length+k)by omega]
  exact Q rows 0 q M P (fun k y g=>by simpa using N k y g)
 have t:=hok.len
 refine hok.put B n0 (by simp[az.jl,hok.len]) (fun n hn=>⟨aay (fun e=>hn e.symm),by simp only[az.jl];exact aay (fun e=>hn e.symm)⟩) (fun o u=>?_) (fun o V v b u _ m p=>?_) (fun b p _=>lV Γ.w _ b p)
  (fun b z h=> .inl h) (fun b c=> .inl c) (fun b z h=>?_) (fun b c=>?_)
 .rw[afN s]at u
  cases u
  refine⟨⟨some Γ.w.heap.size,0,cap,a⟩,by simp only[az.jl];exact afN (hok.len▸s),I,?_⟩
  refine⟨rfl,.inr rfl,fun z h=>?_,J,K,cells,T,.fresh C,by simpa using L,O⟩
  have:=hok.F _ _ h
  omega
 .simp only[az.jl]at m
  rw[afN (hok.len▸s)]at m
  simp at m
  rw[<-m.1]at p
  cases p
  exact .inl (adt _)
 .have:=hok.F _ _ h
  simp[az.jl];omega
 .rcases c with c|c
  .have:=hok.X _ c
   simp[az.jl];omega
  .simp[az.jl];omega
end
theorem aZ.ux{Γ:az}{H:List Ob}(hok:aZ Γ H):∃c,c.w=Γ.w/\Γ.cL c/\aZ c (H++[.dead]):=by
 have f:Γ.Le {Γ with hs:=Γ.hs++[(⟨none,0,0,0⟩,0)]}:=⟨fun _ _ h=>h,fun _ _ _=>rfl,fun h i v g=>⟨i,v,by
  have j:h<Γ.hs.length:=(aa3.1 g).1
  simp only
  rw[aaK j];exact g,adt _,fun _=>rfl⟩⟩
 refine⟨{Γ with hs:=Γ.hs++[(⟨none,0,0,0⟩,0)]},rfl,⟨f,rfl,rfl,rfl,adt _,fun _ _ _=>rfl,fun _ _ h=> .inl h,fun _ h=> .inl h⟩,?_⟩;have m:=hok.len
 refine hok.put f H.length (by simp[hok.len]) (fun n hn=>⟨od _ _ _ hn,by simp only;exact od _ _ _ (by omega)⟩) (fun o a=>?_) (fun o p v b a k hs l=>?_) (fun b l _=>rfl)
  (fun b z d=> .inl d) (fun b e=>e) (fun b z d=>hok.F b z d) (fun b e=>hok.X b e)
 .simp at a;subst a;exact⟨⟨none,0,0,0⟩,by simp[hok.len]⟩
 .simp at a;subst a;cases k
def vA:Op->Bool
 | .alloc _| .buildSlice _ _ _=>true
 |_=>false
theorem Y6{P:Program}{e:Env}{H l:List Ob}{c:Op}{n0:Nat}{x:au}(v:vA c=true)(h:gV P c e H n0=some (x,l)):kO P e H c x l:=by
 unfold gV at h;split at h
 .rename_i T z rows hd b;split at h
  .rename_i U;simp only[abj,aca]at h;obtain⟨rfl,rfl⟩:=h;refine kO.sU fun Γ a A m hok B=>?_;have⟨V,c,W,pos,X,guard⟩:=A;simp only at m;subst m;have o:n0<Γ.hs.length:=hok.len▸ (aa3.1 hd).1;cases c with
   |alloc t=>
    simp only[bc]at b;split at b
    case h_2=>cases b
    rename_i y d C;simp only[abj,aca,aiy,aiu,and_true,Ob.live.injEq,true_and]at b;obtain⟨rfl,rfl,rfl⟩:=b;have⟨i,f,D,E,Y,F⟩:=xR C;have hc:=oW (Γ:=Γ) F;have G:=fM hc;simp only[ai8,ahP]at G
    refine⟨.pointer (some ⟨Γ.w.heap.size,0,none⟩),Γ.jl n0 f.cells t ⟨some Γ.w.heap.size,0,1,d.length+1⟩,.inl (by simp[execOp,Instr.alloc,zeroValue,typeInfo,D,E,newVar,newRow];rfl),NI hok hd _ _ _,
     PE hok hd f.cells t 1 (d.length+1) [y::d] (by simp[maxLen]) (by simp) (by omega) (by omega) (by simp) f.cells.toList (by simpa using hc) (fun k y g=>by simpa using g),?_⟩
    simp only[iT,aL,aB];exact⟨⟨some Γ.w.heap.size,0,1,d.length+1⟩,1,_,by simp[az.jl,o],adt _,rfl,fun _=>⟨Γ.w.heap.size,rfl,by simp⟩⟩
   |buildSlice t n q=>
    simp only[bc]at b;split at b
    case h_2=>cases b
    rename_i r j bytes Z I;split at b
    case isFalse=>cases b
    rename_i J;simp only[abr,aca,aiy,aiu,and_true,Ob.live.injEq,true_and]at b;obtain⟨K,L,rfl,rfl,rfl⟩:=b;obtain⟨s,M,N,u⟩:=J;have O:=Hd (Γ:=Γ) (e:=e) (a:=a) q.toList (fun p hp=>B p (by simpa[ac8]using hp));obtain⟨cells,Q,R,S,g4,g5⟩:=M4 (P:=P) (vs:=q.map fun(i,x)=>(i,a.eval x)) I s M N u (by simpa using O) L;refine⟨.slice (some ⟨Γ.w.heap.size,0,none⟩) n n,Γ.jl n0 cells r ⟨some Γ.w.heap.size,0,n,j⟩,.inl (by simp[execOp,Q];rfl),NI hok hd _ _ _,PE hok hd cells r n j K u (by omega) s (by omega) S cells.toList R (fun k y g=>by simpa using g),?_⟩;simp only[iT,aL,aB];exact⟨⟨some Γ.w.heap.size,0,n,j⟩,1,_,n,by simp[az.jl,o],adt _,rfl,fun _=> .inr ⟨Γ.w.heap.size,_,rfl,rfl,by simp,by simp,fun _=>by simp⟩⟩
   |_=>simp[vA]at v
  .cases h
 .cases h
end Go.Nx
namespace Go.Nx
variable{ops:Array Oper}{C:bu}{r:RI}{n0 n:Nat}{Γ0:az}{ds:List (FuncId×List au)}{a:Act}{w:World}{Q:Exit->Act->World->Prop}{ms:List Nat}{eb:cY}{H':List Ob}
def vN(b:List Nat)(o:Oper):Nat:=o.after.toList.foldl (fun s a=>if ajR .any a then s|||(2 ^ a.on|||b.getD a.on 0)else s) 0
def qQ:List Oper->List Nat->List Nat
 |[],a=>a
 |o::b,a=>qQ b (a++[vN a o])
def qI(ms:List Nat)(j k:Nat):Bool:=(ms.getD k 0).testBit j
def Oj:∀(ops:List Oper) (a:List Nat), ∃l,qQ ops a=a++l/\l.length=ops.length/\∀(k:Nat) (o:Oper),ops[k]?=some o->l[k]?=some (vN (a++l.take k) o)
 |[],a=>⟨[],by simp[qQ],rfl,by simp⟩
 |o::c,a=>by
  have⟨l,d,e,f⟩:=Oj c (a++[vN a o])
  refine⟨vN a o::l,by simp[qQ,d],by simp[e],fun k p b=>?_⟩
  cases k with
  |zero=>simp at b;subst b;simp
  |succ k=>
   have:=f k p (by simpa using b)
   simpa using this
def Y1(c:List Nat)(o:Oper)(j:Nat)(h:(vN c o).testBit j=true):∃b∈o.after.toList,ajR .any b=true/\(b.on=j\/(c.getD b.on 0).testBit j=true):=by
 unfold vN at h
 have e:∀(l:List Edge) (s:Nat),(l.foldl (fun s b=>if ajR .any b then s|||(2 ^ b.on|||c.getD b.on 0)else s) s).testBit j=true->
   s.testBit j=true\/∃b∈l,ajR .any b=true/\(b.on=j\/(c.getD b.on 0).testBit j=true):=by
  intro l
  induction l with
  |nil=>intro s h;exact .inl h
  |cons b l f=>
   intro s h
   simp only[aiW]at h
   rcases f _ h with a|⟨g,a,i,k⟩
   .split at a
    .rename_i d
     rw[Nat.testBit_or,Nat.testBit_or]at a
     simp only[ai3]at a
     rcases a with a|a|a
     .exact .inl a
     .right
      refine⟨b,by simp,d,.inl ?_⟩
      simpa[Nat.testBit_two_pow]using a
     .exact .inr ⟨b,by simp,d,.inr a⟩
    .exact .inl a
   .exact .inr ⟨g,by simp[a],i,k⟩
 rcases e _ 0 h with a|a
 .simp at a
 .exact a
def Z3{ops:List Oper}{listed:Nat->Prop}(q:∀(k:Nat) (o:Oper),ops[k]?=some o->∀a∈o.after.toList,ajR .any a=true->a.on<k)
  (r:∀(k:Nat) (o:Oper),ops[k]?=some o->listed k->∀a∈o.after.toList,ajR .any a=true->listed a.on):
  ∀(k:Nat) (o:Oper),ops[k]?=some o->(∀a∈o.after.toList,ajR .any a=true->listed a.on)->∀j,qI (qQ ops []) j k=true->listed j:=by
 have⟨l,d,t,i⟩:=Oj ops []
 simp only[aiy]at d i
 intro k
 induction k using amt with
 |_ k s=>
  intro o e m j f
  have u:k<ops.length:=(aa3.1 e).1
  have hm:=i k o e
  unfold qI at f
  rw[d,ae9,hm,aiU]at f
  have⟨a,g,h,b⟩:=Y1 _ o j f
  rcases b with rfl|b
  .exact m a g h
  .have n:=q k o e a g h
   obtain⟨c,p⟩:∃c,ops[a.on]?=some c:=⟨ops[a.on]'(by omega),aae (by omega)⟩
   refine s a.on n c p (r a.on c p (m a g h)) j ?_
   unfold qI
   rw[d]
   rw[ae9,aj1 n]at b
   rw[ae9]
   exact b
def aec{l:List Nat}{p q:Nat->Bool}(h:∀x,q x=true->p x=true){y:Nat}(a:y∈l)(hp:p y=true)(b:q y=false):l.countP q<l.countP p:=by
 induction l with
 |nil=>cases a
 |cons x l c=>
  rw[List.countP_cons,List.countP_cons];have f:l.countP q<=l.countP p:=List.countP_mono_left fun x _ d=>h x d;rcases ae3.1 a with rfl|a
  .rw[hp,b];simp;omega
  .have:=c a
   have:(if q x=true then 1 else 0)<=(if p x=true then 1 else 0):=by
    cases e:q x with
    |false=>simp
    |true=>rw[h x e];simp
   omega
def J4{a:Array Bool}{k:Nat}(b:k<a.size):a.getD k true=a.getD k false:=by simp[Array.getD,b]
def ahh{q:cY}(F:mh C.P q)(G:oU n ops.toList=true){i:Nat}{o:Oper}(I:r.fl=some i->vA o.op=true)(s:ops[i]?=some o){e:Env}{H b:List Ob}{x:au}
  (h:fy C q r ops.toList n0 i o e H=some (x,b)) (J:Sat n Γ0 ⟨e,H,ds⟩ a w) {K:Act->World->Prop}
  (u:∀v z,Sat n Γ0 ⟨dW e o.dst x,b,ds⟩ v z->(n0<H.length->n0<b.length)->K v z):wpOp C.P ops Q i K a w:=by
 obtain⟨d,f,rfl,A,k,g,B⟩:=J
 unfold wpOp
 simp only[s]
 have D:=Bm G (o:=o) (by rw[Array.mem_toList_iff];exact Array.mem_of_getElem? s)
 unfold fy at h
 split at h
 .rename_i c L
  rw[yU g L]
  split at h
  .rename_i l
   subst l
   rw[if_pos rfl]
   left
   have M:kO C.P e H o.op x b:=by
    unfold jD at h
    split at h
    .rename_i N
     exact Y6 (I N) h
    .split at h
     .exact Bj F h
     .cases h
   refine M f a o rfl k (fun p _=>uU g p) _ _ (fun y O j E R=>u _ _ ⟨by rw[vQ];exact d,O,rfl,A.trans j,E,(g.mono j.le).put (fun t m=>by rw[d];exact D t m) R,by rw[put_defers];exact B.mono j.le⟩ (fun hn=>?_))
   rw[k.len]at hn
   have⟨T,U,S,_⟩:=j.le.hs n0 (f.hs[n0]).1 (f.hs[n0]).2 (by rw[aae hn])
   rw[E.len]
   exact(aa3.1 S).1
  .rename_i l
   have:c=false:=by simpa using l
   subst this
   simp only[abj,aca]at h
   obtain⟨rfl,rfl⟩:=h
   rw[if_neg (by simp)]
   exact u _ _ ⟨by rw[vQ];exact d,f,rfl,A,k,g.put (fun t m=>by rw[d];exact D t m) L9,by rw[put_defers];exact B⟩ (fun h=>h)
 .cases h
def yN(l:List Oper):Bool:=(aiT l.length).all fun k=>match l[k]? with|some o=>o.after.toList.all (fun a=>!Region.binds .any a||decide (a.on<k))|none=>true
def adu{l:List Oper}(h:yN l=true):∀(k:Nat) (o:Oper),l[k]?=some o->∀a∈o.after.toList,ajR .any a=true->a.on<k:=by intro k o b a c d;unfold yN at h;rw[af8]at h;have:=h k (by simpa using(aa3.1 b).1);rw[b]at this;simp only[af8]at this;have:=this a c;rw[d]at this;simpa using this
def tP(ms:List Nat)(p q:Nat×Oper)(X:List (Nat×Oper)):Bool:=
 X.all fun x=>match x.2.dst with
  |some d=>!(tmpsOf p.2.op).contains d&&(!(wZ q.2.op).contains d||qI ms x.1 q.1)
  |none=>true
def WJ{p q:Nat×Oper}{X Y:List (Nat×Oper)}(h:tP ms p q X=true)(a:∀x∈Y,x∈X/\qI ms x.1 q.1=false):DV p q Y:=by intro x b d c;have⟨e,f⟩:=a x b;unfold tP at h;rw[af8]at h;have:=h x e;rw[c,f]at this;simpa using this
def XH{p q:Nat×Oper}{X Y:List (Nat×Oper)}(h:tP ms p q X=true)(a:∀x∈Y,x∈X):tP ms p q Y=true:=by unfold tP at*;rw[af8]at*;exact fun x b=>h x (a x b)
def tZ(C:bu)(r:RI)(all:List Oper)(ms:List Nat):List (Nat×Oper)->Bool
 |[]=>true
 |p::a=>(a.all fun q=>qI ms p.1 q.1||(ur C r all p q&&(!r.rs.contains (p.1,q.1)||tP ms p q (p::a))))&&tZ C r all ms a
def Ng{C:bu}{r:RI}{all:List Oper}{ms:List Nat}{q:Nat×Oper}{B:List (Nat×Oper)}:∀(A:List (Nat×Oper)),tZ C r all ms (A++q::B)=true->
  (∀c p e,A=c++p::e->qI ms p.1 q.1=true\/(ur C r all p q=true/\((p.1,q.1)∈r.rs->tP ms p q (p::e++q::B)=true)))/\tZ C r all ms (A++B)=true
 |[],h=>by
  simp only[aiy,tZ,aa2]at h
  exact⟨fun c p e d=>by simp at d,h.2⟩
 |p::A,h=>by
  simp only[ai1,tZ,aa2,af8]at h|-
  have⟨j,k⟩:=Ng A h.2
  refine⟨fun c l e d=>?_,fun m g=>?_,k⟩
  .cases c with
   |nil=>
    simp only[aiy,aiu]at d
    obtain⟨rfl,rfl⟩:=d
    have:=h.1 q (by simp)
    simp only[ai3,aa2]at this
    rcases this with h|⟨f,b⟩
    .exact .inl h
    .refine .inr ⟨f,fun hm=>?_⟩
     rcases b with b|b
     .have hc:r.rs.contains (p.1,q.1)=true:=by simpa using hm
      rw[hc]at b
      cases b
     .exact b
   |cons a c=>
    simp only[ai1,aiu]at d
    exact j c l e d.2
  .have:=h.1 m (by simp at g|-;rcases g with h|h<;>simp[h])
   simp only[ai3,aa2]at this|-
   rcases this with h|⟨f,b⟩
   .exact .inl h
   .refine .inr ⟨f,b.imp id fun b=>XH b fun x i=>?_⟩
    simp at i|-
    rcases i with h|h|h<;>simp[h]
def acv(ap:mh C.P (aO C eb))(hd:oU n ops.toList=true)(aq:∀i o,ops.toList[i]?=some o->r.fl=some i->vA o.op=true)(ar:yN ops.toList=true){M:Env}(X:qA ops.toList r.rs M=true)(hQ:∀ad a w,oJ M ad->Sat n Γ0 ⟨ad,H',ds⟩ a w->Q .normal a w):
  ∀(N:Nat) (listed:Array Bool) (c:List (Nat×Oper)) (e d:Env) (H:List Ob),listed.size=ops.toList.length->(aiT ops.toList.length).countP (fun k=>!listed.getD k false)<=N->
   (∀(k:Nat) (o:Oper),ops.toList[k]?=some o->listed.getD k false=true->∀g∈o.after.toList,ajR .any g=true->listed.getD g.on false=true)->
   (∀p∈c,ops.toList[p.1]?=some p.2)->(∀k,k<ops.toList.length->(listed.getD k false=false↔k∈c.map (·.1)))->(c.map (·.1)).Nodup->tZ C r ops.toList (qQ ops.toList []) c=true->
   gB C (aO C eb) r ops.toList n0 c e H=some (d,H')->oJ M d->(r.fl≠none->n0<H.length)->∀a w,Sat n Γ0 ⟨e,H,ds⟩ a w->wpAny C.P .any ops Q N listed a w:=by
 have ae:=adu ar
 have au:∀(listed:Array Bool),listed.size=ops.toList.length->akq .any ops listed=[]->∀k,k<ops.toList.length->listed.getD k false=true:=by
  intro listed v j k
  induction k using amt with
  |_ k Y=>
   intro m
   cases s:listed.getD k false with
   |true=>rfl
   |false=>
    exfalso
    have F:ops.toList[k]?=some (ops.toList[k]'(by omega)):=aae (by omega)
    have af:k∈akq .any ops listed:=by
     rw[mem_ready]
     refine⟨by rw[J4 (by omega)];exact s,ops.toList[k]'(by omega),by rw[<-akG];exact F,fun g G I=>?_⟩
     have:=ae k _ F g (by simpa using G) I
     exact Y g.on this (by omega)
    rw[j]at af
    cases af
 have ag:∀(listed:Array Bool) (c:List (Nat×Oper)) (e d:Env) (H:List Ob) a w,listed.size=ops.toList.length->(∀p∈c,ops.toList[p.1]?=some p.2)->(∀k,k<ops.toList.length->(listed.getD k false=false↔k∈c.map (·.1)))->
   gB C (aO C eb) r ops.toList n0 c e H=some (d,H')->oJ M d->akq .any ops listed=[]->Sat n Γ0 ⟨e,H,ds⟩ a w->Q .normal a w:=by
  intro listed c e d H a w v u z m D j J
  cases c with
  |nil=>
   simp only[gB,abj,aca]at m
   obtain⟨rfl,rfl⟩:=m
   exact hQ _ a w D J
  |cons p ps=>
   exfalso
   have E:=u p (by simp)
   have h2:=(aa3.1 E).1
   have h3:=(z p.1 h2).2 (by simp)
   rw[au listed v j p.1 h2]at h3
   cases h3
 intro N
 induction N with
 |zero=>
  intro listed c e d H v ah Z u z O ai m D hn a w J
  have j:akq .any ops listed=[]:=by
   cases j:akq .any ops listed with
   |nil=>rfl
   |cons k r=>
    exfalso
    have hm:k∈akq .any ops listed:=by rw[j];simp
    have⟨E,o,F,_⟩:=mem_ready.1 hm
    have m:k<ops.toList.length:=by simpa using(ajy.1 F).1
    rw[J4 (by omega)]at E
    have h0:=List.countP_eq_zero.1 (Nat.le_zero.1 ah) k (by simpa using m)
    rw[E]at h0
    simp at h0
  exact⟨j,ag listed c e d H a w v u z m D j J⟩
 |succ N Y=>
  intro listed c e d H v ah Z u z O ai m D hn a w J
  refine⟨fun j=>ag listed c e d H a w v u z m D j J,fun i hi=>?_⟩
  have⟨E,o,F,aj⟩:=mem_ready.1 hi
  have K:ops.toList[i]?=some o:=by simpa using F
  have aa:i<ops.toList.length:=(aa3.1 K).1
  rw[J4 (by omega)]at E
  have L:∀k,(listed.setIfInBounds i true).getD k false=true↔ (listed.getD k false=true\/k=i):=by
   intro k
   by_cases R:k=i
   .subst R
    simp[aiL,v]
    simpa using aa
   .rw[aiL,akB (fun e=>R e.symm), <-aiL]
    simp[R]
  have ak:=(z i aa).1 E
  rw[aiE]at ak
  have⟨q,hq,ab⟩:=ak
  have U:=u q hq
  rw[ab,K]at U
  obtain⟨A,B,rfl⟩:=List.append_of_mem hq
  have⟨b,o'⟩:=q
  simp only at ab U
  subst ab
  simp only[abj]at U
  subst U
  have⟨m1,m2⟩:=Ng A ai
  have al:∀p∈A++(b,o)::B,qI (qQ ops.toList []) p.1 b=false:=by
   intro p hp
   cases av:qI (qQ ops.toList []) p.1 b with
   |false=>rfl
   |true=>
    exfalso
    have aw:=u p hp
    have:=Z3 (listed:=fun k=>listed.getD k false=true) ae Z b o K (fun g G I=>aj g (by simpa using G) I) p.1 av
    have h4:=(z p.1 (aa3.1 aw).1).2 (aiE.2 ⟨p,hp,rfl⟩)
    rw[h4]at this
    cases this
  have ax:∀A1 p S,A=A1++p::S->ur C r ops.toList p (b,o)=true/\((p.1,b)∈r.rs->qP d p.2.op o.op=true/\DV p (b,o) (p::S++(b,o)::B)):=by
   intro A1 p S am
   have an:∀x∈p::S++(b,o)::B,x∈A++(b,o)::B:=by
    intro x f
    rw[am]
    simp at f|-
    rcases f with h|h|h|h<;>simp[h]
   have ao:=an p (by simp)
   have⟨s1,s2⟩:=(m1 A1 p S am).resolve_left fun h=>by rw[al p ao]at h;cases h
   refine⟨s1,fun hm=>⟨?_,WJ (s2 hm) fun x f=>⟨f,al x (an x f)⟩⟩⟩
   unfold qA at X
   rw[af8]at X
   have:=X _ hm
   rw[u p ao]at this
   simp only[K]at this
   rw[<-LS (e:=M) (fun t _=>D t) (fun t _=>D t)]
   exact this
  have⟨e2,V,k2⟩:=Lv A e H d H' hn ax m
  simp only[ai1,gB]at V
  split at V
  .rename_i x H2 f
   refine ahh ap hd (fun hf=>aq b o K hf) F f J (fun a' w' ay az=>?_)
   refine Y _ (A++B) _ e2 H2 (by simp[v]) ?_ ?_ (fun p hp=>u p (by simp at hp|-;rcases hp with h|h<;>simp[h])) ?_ ?_ m2 V (fun t=>(D t).trans (k2 t)) (fun hf=>az (hn hf)) a' w' ay
   .have aC:=aec (l:=aiT ops.toList.length) (p:=fun k=>!listed.getD k false) (q:=fun k=>!(listed.setIfInBounds b true).getD k false) (y:=b) (fun x f=>by
     cases s:listed.getD x false with
     |false=>rfl
     |true=>rw[(L x).2 (.inl s)]at f;cases f) (by simpa using aa) (by rw[E];rfl) (by rw[(L b).2 (.inr rfl)];rfl)
    omega
   .intro k p hp W g G I
    rw[L]at W|-
    rcases W with W|rfl
    .exact .inl (Z k p hp W g G I)
    .rw[K]at hp
     cases hp
     exact .inl (aj g (by simpa using G) I)
   .intro k aA
    have aB:k∈(A++B).map (·.1)->k≠b:=by
     rintro hm rfl
     rw[agA,afL,ak4]at O
     have⟨_,n2,n3⟩:=O
     rw[agA,ahl]at hm
     rcases hm with hm|hm
     .exact n3 _ hm _ (by simp) rfl
     .exact (akM.1 n2).1 hm
    have h5:=z k aA
    cases s:(listed.setIfInBounds b true).getD k false with
    |true=>
     refine⟨fun h=>(by cases h),fun hm=>?_⟩
     exfalso
     have T:=(L k).1 s
     rcases T with T|T
     .have:=h5.2 (by simp only[agA,afL,ahl,ae3]at hm|-;rcases hm with h|h<;>simp[h])
      rw[T]at this
      cases this
     .exact aB hm T
    |false=>
     refine⟨fun _=>?_,fun _=>rfl⟩
     have R:k≠b:=fun h=>by
      rw[(L k).2 (.inr h)]at s
      cases s
     have:listed.getD k false=false:=by
      cases h7:listed.getD k false with
      |false=>rfl
      |true=>rw[(L k).2 (.inl h7)]at s;cases s
     have:=h5.1 this
     simp only[agA,afL,ahl,ae3]at this|-
     rcases this with h|h|h
     .exact .inl h
     .exact absurd h R
     .exact .inr h
   .rw[agA,afL,ak4]at O
    have⟨n1,n2,n3⟩:=O
    rw[agA,ak4]
    exact⟨n1,(akM.1 n2).2,fun x f y hy=>n3 x f y (by simp at hy|-;right;exact hy)⟩
  .cases V
def vr(C:bu)(r:RI)(all:List Oper):Bool:=
 yN all&&decide (qR r all.length).Nodup&&((aiT all.length).all fun k=>(qR r all.length).contains k)&&tZ C r all (qQ all []) (tag all (qR r all.length))&&
 (match r.fl with|some k=>(match all[k]? with|some o=>vA o.op|none=>true)|none=>true)
def Sat.drew{n:Nat}{Γ0:az}{S:St}{a:Act}{w:World}(h:Sat n Γ0 S a w):Sat n Γ0 S a {w with drawn:=w.drawn+1}:=by obtain⟨s,b,rfl,c,d,e,f⟩:=h;exact⟨s,b.drew,rfl,c.trans (tm b),sQ d,e.mono (pP b),f.mono (pP b)⟩
def Sat.ux{n:Nat}{Γ0:az}{e:Env}{H:List Ob}{ds:List (FuncId×List au)}{a:Act}{w:World}(h:Sat n Γ0 ⟨e,H,ds⟩ a w):Sat n Γ0 ⟨e,H++[.dead],ds⟩ a w:=by obtain⟨s,l,rfl,c,d,f,g⟩:=h;have⟨i,j,b,k⟩:=d.ux;exact⟨s,i,j,c.trans b,k,f.mono b.le,g.mono b.le⟩
def AW{all:List Oper}:∀(a:List Nat),(∀p∈tag all a,all[p.1]?=some p.2)/\(∀k,k<all.length->(k∈(tag all a).map (·.1)↔k∈a))/\(a.Nodup->((tag all a).map (·.1)).Nodup)
 |[]=>by simp[tag]
 |k::a=>by
  obtain⟨e,d,f⟩:=AW a
  unfold tag at*
  rw[alD]
  cases b:all[k]? with
  |none=>
   simp only[Option.map_none]
   refine⟨e,fun j c=>(d j c).trans ⟨fun h=>by simp[h],fun h=>?_⟩,fun hn=>f (akM.1 hn).2⟩
   rcases ae3.1 h with rfl|h
   .rw[aae c]at b;cases b
   .exact h
  |some o=>
   simp only[ajJ]
   refine⟨fun p hp=>?_,fun j c=>?_,fun hn=>?_⟩
   .rcases ae3.1 hp with rfl|hp
    .exact b
    .exact e p hp
   .rw[afL,ae3,ae3,d j c]
   .rw[afL,akM]
    have⟨g,i⟩:=akM.1 hn
    exact⟨fun hm=>g ((d k (aa3.1 b).1).1 hm),f i⟩
def abk(hm:C.P.follows .mixedOrders=true)(u:mh C.P (aO C eb))(v:oU n ops.toList=true)(d:vr C r ops.toList=true){e c:Env}{H:List Ob}
  (h:jn C (aO C eb) r ops.toList e H=some (c,H')) (x:qA ops.toList r.rs c=true) (y:∀g a w,oJ c g->Sat n Γ0 ⟨g,H',ds⟩ a w->Q .normal a w) (id:Nat) (j:Sat n Γ0 ⟨e,H,ds⟩ a w):
  (Code.region id ops true).wp C.P Q a w:=by
 unfold vr at d
 simp only[aa2,decide_eq_true_eq]at d
 have⟨⟨⟨⟨z,A⟩,m⟩,B⟩,q⟩:=d
 have⟨t1,t2,t3⟩:=AW (all:=ops.toList) (qR r ops.toList.length)
 refine wp_region_any hm ?_
 have D:∀i o,ops.toList[i]?=some o->r.fl=some i->vA o.op=true:=fun i o E f=>by
  rw[f]at q
  simpa[E]using q
 have s:∀k,(akW ops.size false).getD k false=false:=fun k=>by
  simp[aiL,Array.getElem?_replicate]
  split<;>rfl
 unfold jn at h
 refine acv u v D z x y ops.size (akW ops.size false) _ e c _ (by simp) ?_ (fun k o _ b=>?_) t1 (fun k b=>?_) (t3 A) B h (fun _=>rfl) (fun f=>?_) a _ ?_
 .have:=List.countP_le_length (p:=fun k=>!(akW ops.size false).getD k false) (l:=aiT ops.toList.length)
  rw[List.length_range]at this
  simpa using this
 .rw[s]at b;cases b
 .rw[s,t2 k b]
  rw[af8]at m
  have:=m k (by simpa using b)
  exact⟨fun _=>by simpa using this,fun _=>rfl⟩
 .cases t:r.fl with
  |none=>exact absurd t f
  |some k=>simp
 .cases t:r.fl with
  |none=>exact j.drew
  |some k=>exact j.ux.drew
end Go.Nx
namespace Go.Nx
theorem N9{C:bu}{l:cY}{r:RI}{all:List Oper}{m:Nat}:∀(c:List (Nat×Oper)) (e b:Env) (H d:List Ob),gB C l r all m c e H=some (b,d)->
  (∀t,(∀p∈c,p.2.dst≠some t)->b.get t=e.get t)/\(∀t,(∃p∈c,p.2.dst=some t)->b.get t≠none)
 |[],e,b,H,d,h=>by
  simp only[gB,abj,aca]at h
  obtain⟨rfl,rfl⟩:=h
  exact⟨fun _ _=>rfl,fun t ⟨o,n,_⟩=>by simp at n⟩
 |p::g,e,b,H,d,h=>by
  simp only[gB]at h
  split at h
  .rename_i x v w
   have⟨i,s⟩:=N9 g _ _ _ _ h
   refine⟨fun t j=>?_,fun t ⟨q,a,k⟩=>?_⟩
   .rw[i t (fun q a=>j q (by simp[a])),Env.ot,if_neg (j p (by simp))]
   .by_cases f:∃q∈g,q.2.dst=some t
    .exact s t f
    .rcases ae3.1 a with rfl|a
     .rw[i t (fun q a u=>f ⟨q,a,u⟩),Env.ot,if_pos k]
      simp
     .exact absurd ⟨q,a,k⟩ f
  .cases h
theorem aeP{C:bu}{f:cY}{r:RI}{all:List Oper}(a:vr C r all=true){e b:Env}{H g:List Ob}(h:jn C f r all e H=some (b,g)):
  (∀t,(∀o∈all,o.dst≠some t)->b.get t=e.get t)/\(∀t,(∃o∈all,o.dst=some t)->b.get t≠none):=by
 unfold vr at a
 simp only[aa2,decide_eq_true_eq]at a
 have⟨⟨⟨⟨_,_⟩,d⟩,_⟩,_⟩:=a
 have⟨t1,t2,_⟩:=AW (all:=all) (qR r all.length)
 unfold jn at h
 have⟨i,j⟩:=N9 _ _ _ _ _ h
 refine⟨fun t l=>i t fun p hp=>l p.2 (aiD (t1 p hp)),fun t ⟨o,m,n⟩=>j t ?_⟩
 have⟨k,c,q⟩:=alB m
 rw[af8]at d
 have hm:=(t2 k c).2 (by simpa using d k (by simpa using c))
 rw[aiE]at hm
 have⟨p,hp,s⟩:=hm
 have:=t1 p hp
 rw[s,aae c,q]at this
 cases this
 exact⟨p,hp,n⟩
def codeOk(C:bu)(f d e:Nat):Code->Bool
 | .region id g h=>oU e g.toList&&HX C f d id g.toList&&(!h||vr C (C.ri f id) g.toList)
 | .seq a b=>codeOk C f d e a&&codeOk C f d e b
 | .cond _ a b=>codeOk C f d e a&&codeOk C f d e b
 | .block _ c=>codeOk C f d e c
 | .loop c=>codeOk C f d e c
 | .scope c=>codeOk C f d e c
 |_=>true
theorem abE{P:Program}{w:World}{o:Oper}{f:Operand}{args:Array Operand}{e:Array TypeId}(g:o.op= .defer {callee:= .value f,args:=args,argTypes:=e}){a:Operand->Value}{c:FuncId}{b:Array Value}
  (h:a f= .func (.func c) #[] b):∃d:Deferred,(execOp a o).run P w= .ok (.defer d) w/\d.target= .fn (.func c) b/\d.args=args.map a:=by
 refine⟨_,by simp[execOp,g,resolve,h,Deferred.ofValue];rfl,rfl,by simp⟩
theorem iZ.sub{C:bu}{f a:Nat}{e b:Env}(h:iZ C f a e)(c:xz b e):iZ C f a b:=fun t x d=>h t x (c t x d)
theorem uN(a:List Nat)(e:Env):xz (eL a e) e:=fun t x h=>(As a e t x h).2
section
variable{C:bu}{eb:cY}(hm:C.P.follows .mixedOrders=true)(hce:mh C.P (aO C eb))
include hm hce
theorem adO{f s u id:Nat}{b:Array Oper}{v:Bool}{S x:St}{I:Exit}(hc:codeOk C f s u (.region id b v)=true)(y:iZ C f s S.env)(h:ln C (aO C eb) f id b.toList v S=some (I,x)):
  (∀Γ0,bP C.P u Γ0 (.region id b v) S I x)/\iZ C f s x.env:=by
 simp only[codeOk,aa2]at hc
 have⟨⟨z,A⟩,O⟩:=hc
 have⟨R,H0,B⟩:=S
 unfold ln at h
 split at h
 .
  rename_i ai
  split at h
  .rename_i e H g
   split at h
   .rename_i d j
    simp only[abj,aca]at h
    obtain⟨rfl,rfl⟩:=h
    have⟨k,l⟩:=CJ _ _ _ _ _ g
    unfold rj at j
    split at j
    .rename_i op J args T U pos after q
     have D:b.toList≠ []:=by
      intro hn
      rw[hn]at q
      simp at q
     have E:=List.dropLast_concat_getLast D
     rw[List.getLast?_eq_some_getLast D]at q
     have K:=ajC q
     have i:=I3 (C:=C) (id:=id) A y (e':=e) (fun t V=>k t fun o c=>V o (List.dropLast_subset _ c)) (fun t ⟨o,c,F⟩=>l t (by
      rw[<-E,ahl]at c
      rcases c with c|c
      .exact ⟨o,c,F⟩
      .rw[K]at c
       simp at c
       rw[c]at F
       cases F))
     refine⟨fun Γ0 a w m=>?_,i.2⟩
     refine wp_region ?_
     have W:b.size=b.toList.dropLast.length+1:=by
      have X:=congrArg List.length E
      simp only[afu,ahP,aiK,ai8]at X
      omega
     rw[akf,W,List.range'_concat]
     simp only[aiQ,Nat.one_mul]
     refine sZ hce z (Γ0:=Γ0) (ds:=B) b.toList.dropLast 0 ⟨_,by simpa using E.symm⟩ _ _ _ _ g _ (fun n r p=>?_) a w m
     rw[wpOps_cons]
     obtain⟨Y,L,rfl,Z,aa,G,ab⟩:=p
     have ad:b[b.toList.dropLast.length]?=some (b.toList.getLast D):=by
      rw[<-akG]
      rw[List.getLast_eq_getElem,List.length_dropLast]
      exact aae _
     unfold wpOp
     simp only[ad]
     split at j
     .rename_i aj ak vs hf hv
      cases j
      rw[K]
      simp only[ak0,if_true]
      left
      have M:=uU G J _ hf
      simp only[aL,aB]at M
      have⟨ys,q1,q2⟩:=M
      have q3:=Hu args.toList vs (fun ae _=>uU G ae) hv
      have⟨d,r1,r2,r3⟩:=abE (P:=C.P) (w:=L.w) (o:={dst:=none,op:=Op.defer {callee:=Callee.value J,args:=args,argTypes:=T},type:=U,pos:=pos,after:=after,guard:=none}) rfl q1
      unfold Oper.wp
      rw[r1,Oper.upon_defer]
      simp only[wpOps]
      refine⟨trivial,Y,L,rfl,Z,aa,mJ.sub G i.1,d,n.defers,rfl,⟨ys,r2,?_⟩,ab⟩
      rw[r3]
      simpa using J1 q3 (AT q2)
     .cases j
    .cases j
   .cases h
  .cases h
 .split at h
  .
   unfold ov at h
   split at h
   .rename_i e H g
    simp only[if_true,abj,aca]at h
    obtain⟨rfl,rfl⟩:=h
    have⟨k,l⟩:=CJ _ _ _ _ _ g
    have i:=I3 (C:=C) (id:=id) A y (e':=e) k l
    refine⟨fun Γ0 a w m=>?_,i.2⟩
    refine wp_region ?_
    have:=sZ hce z (Γ0:=Γ0) (ds:=B) (Q:=fun e' n r=>e'= .normal/\Sat u Γ0 ⟨pQ (ng C f id) e R,H,B⟩ n r) b.toList 0 ⟨[],by simp⟩ _ _ _ _ g [] (fun n r p=>by
     simp only[wpOps]
     exact⟨trivial,p.sub i.1⟩) a w m
    simpa[akf]using this
   .cases h
  .
   unfold ov at h
   split at h
   .rename_i e H g
    split at h
    case isFalse=>cases h
    rename_i af
    simp only[abj,aca]at h
    obtain⟨rfl,rfl⟩:=h
    have N:vr C (C.ri f id) b.toList=true:=by simpa using O
    have⟨k,l⟩:=aeP N g
    have i:=I3 (C:=C) (id:=id) A y (e':=e) k l
    refine⟨fun Γ0 a w m=>?_,i.2⟩
    exact abk hm hce z N g af (fun al n r ag p=>⟨rfl,p.sub fun t ah hx=>by rw[<-ag t];exact i.1 t ah hx⟩) id m
   .cases h
end
end Go.Nx
namespace Go.Nx
variable{n f:Nat}{S:St}{C:bu}{c:Code}{ex:Exit}
def Sat.uW{b:az}{c:List Nat}{a:Act}{w:World}(h:Sat n b S a w):Sat n b ⟨eL c S.env,S.heap,S.bH⟩ a w:=by have⟨e,H,d⟩:=S;exact h.sub (uN c e)
structure gS(C:bu):Prop extends Good1 C where
 follows:C.P.follows .mixedOrders=true
 code:∀f fn c,C.dG f=false->C.P.funcs[f]?=some fn->fn.body=some c->codeOk C f (fn.params.size+fn.nfree) fn.ntmps c=true
def VF:run C (n+1) f (.loop c) S=p9 (run C n) f c (iI S.env) (run C n f (.loop c)) ⟨eL (iI S.env) S.env,S.heap,S.bH⟩:=rfl
def uD(c a:Code):Prop:=a=c\/∃l r,c= .seq (.label l) r/\a= .seq .skip r
def yQ(C:bu)(n:Nat):Prop:= ∀f e d c S ex b,codeOk C f e d c=true->iZ C f e S.env->run C n f c S=some (ex,b)->
 (∀g,bP C.P d g c S ex b/\(∀a,c= .loop a->ni C.P d g a S ex b)/\∀a,c= .scope a->∀h,uD a h->my C.P d g a h S ex b)/\iZ C f e b.env
def KP{a:Code}(h:uD c a):run C n f a S=run C n f c S:=by
 rcases h with rfl|⟨l,r,rfl,rfl⟩
 .rfl
 .cases n with
  |zero=>rfl
  |succ n=>cases n<;>rfl
def NT{a b:Nat}{d:Code}(h:uD c d):codeOk C f a b d=codeOk C f a b c:=by
 rcases h with rfl|⟨l,r,rfl,rfl⟩
 .rfl
 .rfl
def WC(b:gS C)(h:yQ C n):mh C.P (aO C (bB C (run C n))):=by refine HN fun f args H r m a=>MI b.toGood1 (fun f d c S ex e g i j k a l=>?_) a;exact((h f _ _ c S ex e (b.code f d c j g i) k a).1 l).1
def agD(h:yQ C n){c g:Nat}{a b:Code}{d:St}(hc:codeOk C f c g (.seq a b)=true)(l:iZ C f c S.env)(i:sq (run C n f a S) (run C n f b)=some (ex,d)):
  (∀e,bP C.P g e (.seq a b) S ex d)/\iZ C f c d.env:=by
 simp only[codeOk,aa2]at hc
 unfold sq at i
 split at i
 .rename_i m o
  have⟨j,k⟩:=h f c g a S _ m hc.1 l o
  have⟨p,q⟩:=h f c g b m _ d hc.2 k i
  exact⟨fun e=>bP.DM (j e).1 (p e).1,q⟩
 .rename_i r
  have⟨j,k⟩:=h f c g a S _ d hc.1 l i
  exact⟨fun e=>bP.uT (j e).1 (fun s=>by subst s;exact r d i),k⟩
def Xh(h:yQ C n){i k:Nat}(hc:codeOk C f i k c=true){m:St}(y:iZ C f i S.env)
  (d:v8 (run C n) f c (iI S.env) (run C n f (.scope c)) ⟨eL (iI S.env) S.env,S.heap,S.bH⟩=some (ex,m)):(∀e b,uD c b->my C.P k e c b S ex m)/\iZ C f i m.env:=by
 have q:iZ C f i (eL (iI S.env) S.env):=y.sub (uN _ _)
 unfold v8 at d
 split at d
 .rename_i l s z
  have g:∀b,uD c b->(∀e,bP C.P k e b S (.goto l) s)/\iZ C f i s.env:=fun b j=>by
   obtain⟨t,x⟩:=h f i k b _ _ s (by rw[NT j];exact hc) q (by rw[KP j];exact z)
   exact⟨fun e=>bP.pre (fun a w o=>o.uW) (t e).1,x⟩
  split at d
  .rename_i p
   cases d
   exact⟨fun e b j=>my.out ((g b j).1 e) (fun u v=>by cases v;exact p),(g c (.inl rfl)).2⟩
  .rename_i A p
   split at d
   .rename_i u r
    split at d
    .rename_i B
     subst B
     have D:A= .seq .skip r:=by
      simp[findLabel]at p
      exact p.symm
     subst D
     have⟨E,F⟩:=h f i k (.scope (.seq (.label l) r)) _ ex m hc ((g _ (.inl rfl)).2.sub (uN _ _)) d
     exact⟨fun e b j=>my.more ((g b j).1 e) p (fun a w o=>o.uW) ((E e).2.2 _ rfl _ (.inr ⟨l,r,rfl,rfl⟩)),F⟩
    .cases d
   .cases d
 .rename_i G
  refine⟨fun e b j=>?_,(h f i k c _ _ m hc q d).2⟩
  obtain⟨t,x⟩:=h f i k b _ _ m (by rw[NT j];exact hc) q (by rw[KP j];exact d)
  exact my.out (bP.pre (fun a w o=>o.uW) (t e).1) (fun u v=>by subst v;exact absurd d (G u m))
def GK{C:bu}(z:gS C):∀n,yQ C n
 |0=>fun f r j c S ex k _ _ d=>by simp[run]at d
 |n+1=>by
  have u:=GK z n
  intro f r j c S ex k hc q d
  have s:∀ {X:Prop},(∀g,bP C.P j g c S ex k)/\X->(∀i,c≠ .loop i/\c≠ .scope i)->
    (∀g,bP C.P j g c S ex k/\(∀i,c= .loop i->ni C.P j g i S ex k)/\∀i,c= .scope i->∀x,uD i x->my C.P j g i x S ex k)/\X:=
   fun h F=>⟨fun g=>⟨h.1 g,fun i e=>absurd e (F i).1,fun i e=>absurd e (F i).2⟩,h.2⟩
  cases c with
  |skip=>
   simp only[run,fF,abj,aca]at d
   obtain⟨rfl,rfl⟩:=d
   exact s ⟨fun g=>bP.skip,q⟩ (fun i=>⟨fun e=>(by cases e),fun e=>(by cases e)⟩)
  |label l=>
   simp only[run,fF,abj,aca]at d
   obtain⟨rfl,rfl⟩:=d
   exact s ⟨fun g=>bP.label,q⟩ (fun i=>⟨fun e=>(by cases e),fun e=>(by cases e)⟩)
  |exit id=>
   simp only[run,fF,abj,aca]at d
   obtain⟨rfl,rfl⟩:=d
   exact s ⟨fun g=>bP.exit,q⟩ (fun i=>⟨fun e=>(by cases e),fun e=>(by cases e)⟩)
  |goto l=>
   simp only[run,fF,abj,aca]at d
   obtain⟨rfl,rfl⟩:=d
   exact s ⟨fun g=>bP.goto,q⟩ (fun i=>⟨fun e=>(by cases e),fun e=>(by cases e)⟩)
  |ret=>
   simp only[run,fF,abj,aca]at d
   obtain⟨rfl,rfl⟩:=d
   exact s ⟨fun g=>bP.ret,q⟩ (fun i=>⟨fun e=>(by cases e),fun e=>(by cases e)⟩)
  |region id M N=>
   simp only[run,fF]at d
   exact s (adO z.follows (WC z u) hc q d) (fun i=>⟨fun e=>(by cases e),fun e=>(by cases e)⟩)
  |seq a b=>
   simp only[run,fF]at d
   exact s (agD u hc q d) (fun i=>⟨fun e=>(by cases e),fun e=>(by cases e)⟩)
  |cond p a b=>
   cases p with
   |tmp t=>
    simp only[run,fF]at d
    simp only[codeOk,aa2]at hc
    unfold wM at d
    split at d
    .rename_i v G
     cases v with
     |true=>
      simp only[if_true]at d
      have⟨m,o⟩:=u f r j a S ex k hc.1 q d
      exact s ⟨fun g=>bP.cond G (fun _=>(m g).1) (fun h=>by cases h),o⟩ (fun i=>⟨fun e=>(by cases e),fun e=>(by cases e)⟩)
     |false=>
      simp only[aeb,if_false]at d
      have⟨m,o⟩:=u f r j b S ex k hc.2 q d
      exact s ⟨fun g=>bP.cond G (fun h=>by cases h) (fun _=>(m g).1),o⟩ (fun i=>⟨fun e=>(by cases e),fun e=>(by cases e)⟩)
    .cases d
   |_=>simp[run,fF]at d
  |block id b=>
   simp only[run,fF]at d
   simp only[codeOk]at hc
   unfold bl at d
   split at d
   .rename_i O A B
    have⟨m,o⟩:=u f r j b S _ A hc q B
    split at d
    .rename_i D
     cases d
     subst D
     exact s ⟨fun g=>bP.ag1 (m g).1,o⟩ (fun i=>⟨fun e=>(by cases e),fun e=>(by cases e)⟩)
    .rename_i D
     cases d
     exact s ⟨fun g=>bP.Ss (m g).1 (fun e=>D (by cases e;rfl)),o⟩ (fun i=>⟨fun e=>(by cases e),fun e=>(by cases e)⟩)
   .rename_i E
    have⟨m,o⟩:=u f r j b S _ k hc q d
    exact s ⟨fun g=>bP.Ss (m g).1 (fun e=>by subst e;exact E _ _ d),o⟩ (fun i=>⟨fun e=>(by cases e),fun e=>(by cases e)⟩)
  |loop b=>
   rw[VF]at d
   have H:codeOk C f r j b=true:=hc
   unfold p9 at d
   have I:iZ C f r (eL (iI S.env) S.env):=q.sub (uN _ _)
   have fin:((∀g,ni C.P j g b S ex k)/\iZ C f r k.env)->
     (∀g,bP C.P j g (.loop b) S ex k/\(∀i,Code.loop b= .loop i->ni C.P j g i S ex k)/\∀i,Code.loop b= .scope i->∀x,uD i x->my C.P j g i x S ex k)/\iZ C f r k.env:=fun h=>
    ⟨fun g=>⟨(h.1 g).Cz,fun i e=>by cases e;exact h.1 g,fun i e=>by cases e⟩,h.2⟩
   split at d
   .rename_i A B
    have⟨m,o⟩:=u f r j b _ _ A H I B
    have⟨J,K⟩:=u f r j (.loop b) _ ex k hc (o.sub (uN _ _)) d
    exact fin ⟨fun g=>ni.more (bP.pre (fun a w y=>y.uW) (m g).1) (fun a w y=>y.uW) ((J g).2.1 b rfl),K⟩
   .rename_i E
    have⟨m,o⟩:=u f r j b _ _ k H I d
    exact fin ⟨fun g=>ni.out (bP.pre (fun a w y=>y.uW) (m g).1) (fun e=>by subst e;exact E _ d),o⟩
  |scope b=>
   simp only[run,fF]at d
   have⟨m,o⟩:=Xh u (c:=b) hc q d
   exact⟨fun g=>⟨(m g b (.inl rfl)).Cz,fun i e=>(by cases e),fun i e x L=>by cases e;exact m g x L⟩,o⟩
  |rangeFunc _ _ _ _=>simp[run,fF]at d
  |refuse _=>simp[run,fF]at d
def wU(a:gS C){args:List au}{H b:List Ob}{r:au}(h:bB C (run C n) f args H=some (r,b)):Call C.P f args H r b:=
 MI a.toGood1 (fun f d c S ex e g i j k l m=>((GK a n f _ _ c S ex e (a.code f d c j g i) k l).1 m).1) h
end Go.Nx
namespace Go.Nx
variable{r:RI}{f:FuncId}{c:Code}{S:St}
abbrev Ask:=FuncId×Code×St×(Exit×St)
def xu(a:jh)(K:List Ask):Prop:= ∀p∈K,a p.1 p.2.1 p.2.2.1=some p.2.2.2
def Fn{R:Type}(G:jh->Option R):Prop:= ∀a r,G a=some r->∃K,xu a K/\∀b,xu b K->G b=some r
section
variable{R R':Type}
def Fn.const(x:Option R):Fn (fun _=>x):=fun a r h=>⟨[],fun p hp=>by simp at hp,fun _ _=>h⟩
def Fn.ask(f:FuncId)(c:Code)(S:St):Fn (fun a=>a f c S):=fun a r h=>⟨[(f,c,S,r)],fun p hp=>by simp only[aks]at hp;subst hp;exact h,fun d b=>b (f,c,S,r) (by simp)⟩
def Fn.bind{G:jh->Option R}{F:R->jh->Option R'}(d:Fn G)(e:∀x,Fn (F x)):Fn (fun a=>(G a).bind fun x=>F x a):=by
 intro a r h;simp only[aku]at h;have⟨x,f,g⟩:=h;have⟨i,j,k⟩:=d a x f;have⟨l,m,n⟩:=e x a r g;refine⟨i++l,fun p hp=>?_,fun b c=>?_⟩
 .rcases ahl.1 hp with hp|hp
  .exact j p hp
  .exact m p hp
 .simp only[aku];exact⟨x,k b fun p hp=>c p (by simp[hp]),n b fun p hp=>c p (by simp[hp])⟩
def Fn.of_eq{G a:jh->Option R}(h:Fn G)(c:∀b,a b=G b):Fn a:=by have:a=G:=funext c;rw[this];exact h
end
section
variable{C:bu}
def abu(f:FuncId)(args:List au)(H:List Ob):Fn (fun a=>me C a f args H):=by
 by_cases b:C.dG f=true
 .exact (Fn.const (C.dH f args H)).of_eq fun a=>by simp[me,b]
 .cases g:C.P.funcs[f]? with
  |none=>exact(Fn.const none).of_eq fun a=>by simp[me,b,g]
  |some d=>
   cases h:d.body with
   |none=>exact(Fn.const none).of_eq fun a=>by simp[me,b,g,h]
   |some c=>
    by_cases j:args.length<=d.ntmps/\args.length<=d.params.size+d.nfree
    .refine ((Fn.ask f c ⟨fN 0 args,H,[]⟩).bind (F:=fun(x:Exit×St) _=>match some x with
      |some (.normal,⟨e,i,[]⟩)|some (.ret,⟨e,i,[]⟩)=>(ic C.P e i d.results.toList).map (·,i)
      |_=>none) fun x=>Fn.const _).of_eq fun a=>?_
     simp only[me,b,g,h,aeb,if_false,if_pos j];cases a f c ⟨fN 0 args,H,[]⟩with
     |none=>rfl
     |some x=>rfl
    .exact (Fn.const none).of_eq fun a=>by simp[me,b,g,h,if_neg j]
def GN{C:bu}:∀(b:List (FuncId×List au)) (H:List Ob),Fn (fun a=>ja C a b H)
 |[],H=>(Fn.const (some H)).of_eq fun a=>rfl
 |(g,c)::b,H=>by
  by_cases hn:C.kL g=true
  .exact (GN (C:=C) b H).of_eq fun a=>by simp[ja,hn]
  .by_cases d:C.dG g=true
   .exact (Fn.const none).of_eq fun a=>by simp[ja,hn,d]
   .refine ((abu (C:=C) g c H).bind (F:=fun(x:au×List Ob) a=>ja C a b x.2) fun x=>GN (C:=C) b x.2).of_eq fun a=>?_
    simp only[ja,hn,d,aeb,if_false]
    cases me C a g c H with
    |none=>rfl
    |some x=>rfl
def D9(f:FuncId)(args:List au)(H:List Ob):Fn (fun a=>bB C a f args H):=by
 by_cases e:C.dG f=true
 .exact (Fn.const (C.dH f args H)).of_eq fun a=>by simp[bB,e]
 .cases g:C.P.funcs[f]? with
  |none=>exact(Fn.const none).of_eq fun a=>by simp[bB,e,g]
  |some d=>
   cases h:d.body with
   |none=>exact(Fn.const none).of_eq fun a=>by simp[bB,e,g,h]
   |some c=>
    by_cases j:args.length<=d.ntmps/\args.length<=d.params.size+d.nfree
    .have k:∀S:St,Fn (fun a=>(ja C a S.bH S.heap).bind fun b=>(ic C.P S.env b d.results.toList).map (·,b)):=fun S=>
      (GN S.bH S.heap).bind (F:=fun(b:List Ob) _=>(ic C.P S.env b d.results.toList).map (·,b)) fun b=>Fn.const _
     refine((Fn.ask f c ⟨fN 0 args,H,[]⟩).bind (F:=fun(x:Exit×St) a=>match x with
      |(.normal,S)|(.ret,S)=>(ja C a S.bH S.heap).bind fun b=>(ic C.P S.env b d.results.toList).map (·,b)
      |_=>none) fun x=>?_).of_eq fun a=>?_
     .have ⟨i,S⟩:=x;cases i with
      |normal=>exact k S
      |ret=>exact k S
      |_=>exact Fn.const none
     .simp only[bB,e,g,h,aeb,if_false,if_pos j];cases a f c ⟨fN 0 args,H,[]⟩with
      |none=>rfl
      |some x=>
       have⟨i,S⟩:=x;cases i with
       |normal=>simp only[alb];cases ja C a S.bH S.heap<;>rfl
       |ret=>simp only[alb];cases ja C a S.bH S.heap<;>rfl
       |_=>rfl
    .exact (Fn.const none).of_eq fun a=>by simp[bB,e,g,h,if_neg j]
abbrev cE(C:bu)(a:jh):cY:=aO C (bB C a)
def UH(f:FuncId)(args:List au)(H:List Ob):Fn (fun a=>cE C a f args H):=by
 by_cases b:C.md f=3\/args.any (eQ C)=true
 .exact (D9 f args H).of_eq fun a=>by simp only[cE,aO];rw[if_pos b]
 .cases c:dy H args with
  |none=>exact(Fn.const none).of_eq fun a=>by simp only[cE,aO,c];rw[if_neg b]
  |some p=>
   have⟨d,e⟩:=p
   refine((D9 (C:=C) f d []).bind (F:=fun(x:au×List Ob) _=>match(if C.md f=2 then some (x.1,x.2)else dF (C.md f==1) x.2 x.1)with
    |some (r,own)=>if eo (C.md f==2) e r own=true then some (eR H.length r,H++own.map (dY H.length))else none
    |none=>none) fun x=>Fn.const _).of_eq fun a=>?_
   simp only[cE,aO,c,aS];rw[if_neg b];cases bB C a f d []with
   |none=>rfl
   |some x=>rfl
def Kc(o:Op)(e:Env)(H:List Ob):Fn (fun a=>eU C (cE C a) o e H):=by
 cases hp:plain o with
 |true=>exact(Fn.const _).of_eq fun a=>pt hp e H
 |false=>
  unfold plain at hp;split at hp
  .rename_i f args j;cases b:aY e f with
   |none=>exact(Fn.const none).of_eq fun a=>by simp[eU,b]
   |some v=>
    cases d:pz (args.toList.map (aY e))with
    |none=>refine(Fn.const none).of_eq fun a=>?_;simp[eU,b,d]
    |some h=>
     cases v with
     |c l=>
      cases l with
      |bG g i=>exact(UH (C:=C) g (h++i.map .c) H).of_eq fun a=>by simp[eU,b,d]
      |_=>exact(Fn.const none).of_eq fun a=>by simp[eU,b,d]
     |_=>exact(Fn.const none).of_eq fun a=>by simp[eU,b,d]
  .rename_i g;exact(Fn.const ((um g).map fun l=>(.c l,H))).of_eq fun a=>rfl
  .cases hp
def aaI(a:Nat->Bool)(o:Op)(e:Env)(H:List Ob):Fn (fun b=>mz a C (cE C b) o e H):=by
 unfold mz;split
 .split
  .exact Fn.const _
  .exact Kc _ e H
 .exact Fn.const _
 .exact Kc _ e H
def z7{bz:Nat->Bool}{all:List Oper}:∀(l:List Oper) (e:Env) (H:List Ob),Fn (fun a=>fH bz C (cE C a) all l e H)
 |[],e,H=>(Fn.const (some (e,H))).of_eq fun a=>rfl
 |o::b,e,H=>by
  cases d:nJ all e o.guard with
  |none=>exact(Fn.const none).of_eq fun a=>by simp[fH,d]
  |some c=>
   cases c with
   |true=>
    refine((aaI (C:=C) bz o.op e H).bind (F:=fun(x:au×List Ob) a=>fH bz C (cE C a) all b (dW e o.dst x.1) x.2) fun x=>z7 b _ _).of_eq fun a=>?_
    simp only[fH,d,if_true]
    cases mz bz C (cE C a) o.op e H with
    |none=>rfl
    |some x=>rfl
   |false=>
    have f:Fn (fun a=>fH bz C (cE C a) all b (dW e o.dst unit) H):=z7 b _ _
    exact f.of_eq fun a=>by simp[fH,d]
def VU{all:List Oper}{n0 i:Nat}(o:Oper)(e:Env)(H:List Ob):Fn (fun a=>fy C (cE C a) r all n0 i o e H):=by
 cases b:nJ all e o.guard with
 |none=>exact(Fn.const none).of_eq fun a=>by simp[fy,b]
 |some c=>
  cases c with
  |true=>
   by_cases d:r.fl=some i
   .exact (Fn.const (gV C.P o.op e H n0)).of_eq fun a=>by simp[fy,b,jD,d]
   .by_cases hc:(!r.gc.contains i||qB C e o.op)=true
    .exact (Kc (C:=C) o.op e H).of_eq fun a=>by simp only[fy,b,jD,if_true,if_neg d,if_pos hc]
    .exact (Fn.const none).of_eq fun a=>by simp only[fy,b,jD,if_true,if_neg d,if_neg hc]
  |false=>exact(Fn.const (some (unit,H))).of_eq fun a=>by simp[fy,b]
def Od{r:RI}{all:List Oper}{n0:Nat}:∀(c:List (Nat×Oper)) (e:Env) (H:List Ob),Fn (fun a=>gB C (cE C a) r all n0 c e H)
 |[],e,H=>(Fn.const (some (e,H))).of_eq fun a=>rfl
 |p::b,e,H=>by
  refine((VU (C:=C) (r:=r) (all:=all) (n0:=n0) (i:=p.1) p.2 e H).bind (F:=fun(x:au×List Ob) a=>gB C (cE C a) r all n0 b (dW e p.2.dst x.1) x.2) fun x=>Od b _ _).of_eq fun a=>?_
  simp only[gB]
  cases fy C (cE C a) r all n0 p.1 p.2 e H with
  |none=>rfl
  |some x=>rfl
def aam{all:List Oper}(e:Env)(H:List Ob):Fn (fun a=>jn C (cE C a) r all e H):=Od _ _ _
def afO(f id:Nat)(all:List Oper)(c:Bool)(S:St):Fn (fun a=>ln C (cE C a) f id all c S):=by
 by_cases b:ub all=true
 .cases c with
  |true=>exact(Fn.const none).of_eq fun a=>by simp[ln,b]
  |false=>
   refine((z7 (C:=C) (bz:=C.bz f) (all:=all) all.dropLast S.env S.heap).bind (F:=fun(x:Env×List Ob) _=>match rj C all x.1 with
    |some d=>some (Exit.normal,⟨pQ (ng C f id) x.1 S.env,x.2,d::S.bH⟩)
    |none=>none) fun x=>Fn.const _).of_eq fun a=>?_
   simp only[ln,b,if_true];cases fH (C.bz f) C (cE C a) all all.dropLast S.env S.heap with
   |none=>rfl
   |some x=>rfl
 .cases c with
  |false=>
   refine((z7 (C:=C) (bz:=C.bz f) (all:=all) all S.env S.heap).bind (F:=fun(x:Env×List Ob) _=>ov (ng C f id) S (fun _=>true) (some x)) fun x=>Fn.const _).of_eq fun a=>?_;simp only[ln,b];cases fH (C.bz f) C (cE C a) all all S.env S.heap with
   |none=>rfl
   |some x=>rfl
  |true=>
   refine((aam (C:=C) (r:=C.ri f id) (all:=all) S.env S.heap).bind (F:=fun(x:Env×List Ob) _=>ov (ng C f id) S (fun e=>qA all (C.ri f id).rs e) (some x)) fun x=>Fn.const _).of_eq fun a=>?_;simp only[ln,b];cases jn C (cE C a) (C.ri f id) all S.env S.heap with
   |none=>rfl
   |some x=>rfl
def Dc(f:FuncId)(c:Code)(S:St):Fn (fun d=>fF C d f c S):=by
 cases c with
 |skip=>exact(Fn.const _).of_eq fun d=>rfl
 |label l=>exact(Fn.const _).of_eq fun d=>rfl
 |region id h i=>exact afO f id h.toList i S
 |seq a b=>
  refine((Fn.ask f a S).bind (F:=fun(x:Exit×St) d=>match x with
   |(.normal,e)=>d f b e
   |r=>some r) fun x=>?_).of_eq fun d=>?_
  .have ⟨g,e⟩:=x;cases g with
   |normal=>exact Fn.ask f b e
   |_=>exact Fn.const _
  .simp only[fF,sq];cases d f a S with
   |none=>rfl
   |some x=>have⟨g,e⟩:=x;cases g<;>rfl
 |cond p a b=>
  cases p with
  |tmp t=>
   have:∀v,Fn (fun d=>wM v (d f a S) (d f b S)):=by
    intro v;cases v with
    |none=>exact Fn.const none
    |some v=>
     cases v with
     |c l=>
      cases l with
      |v w=>
       cases w with
       |bool j=>
        cases j with
        |true=>exact(Fn.ask f a S).of_eq fun d=>rfl
        |false=>exact(Fn.ask f b S).of_eq fun d=>rfl
       |_=>exact(Fn.const none).of_eq fun d=>rfl
      |_=>exact(Fn.const none).of_eq fun d=>rfl
     |_=>exact(Fn.const none).of_eq fun d=>rfl
   exact this (S.env.get t)
  |_=>exact(Fn.const none).of_eq fun d=>rfl
 |block id b=>refine((Fn.ask f b S).bind (F:=fun(x:Exit×St) _=>bl id (some x)) fun x=>Fn.const _).of_eq fun d=>?_;simp only[fF];cases d f b S<;>rfl
 |loop b=>
  refine((Fn.ask f b ⟨eL (iI S.env) S.env,S.heap,S.bH⟩).bind (F:=fun(x:Exit×St) d=>match x with
   |(.normal,e)=>d f (.loop b) ⟨eL (iI S.env) e.env,e.heap,e.bH⟩
   |r=>some r) fun x=>?_).of_eq fun d=>?_
  .have ⟨g,e⟩:=x;cases g with
   |normal=>exact Fn.ask _ _ _
   |_=>exact Fn.const _
  .simp only[fF,p9];cases d f b ⟨eL (iI S.env) S.env,S.heap,S.bH⟩with
   |none=>rfl
   |some x=>have⟨g,e⟩:=x;cases g<;>rfl
 |exit id=>exact(Fn.const _).of_eq fun d=>rfl
 |goto l=>exact(Fn.const _).of_eq fun d=>rfl
 |ret=>exact(Fn.const _).of_eq fun d=>rfl
 |scope b=>
  refine((Fn.ask f b ⟨eL (iI S.env) S.env,S.heap,S.bH⟩).bind (F:=fun(x:Exit×St) d=>match x with
   |(.goto l,e)=>match findLabel b l with
    |none=>some (.goto l,e)
    |some _=>match b with
     | .seq (.label k) _=>if l=k then d f (.scope b) ⟨eL (iI S.env) e.env,e.heap,e.bH⟩else none
     |_=>none
   |r=>some r) fun x=>?_).of_eq fun d=>?_
  .have ⟨g,e⟩:=x;cases g with
   |goto l=>
    simp only;cases findLabel b l with
    |none=>exact Fn.const _
    |some m=>
     simp only;split
     .split
      .exact Fn.ask _ _ _
      .exact Fn.const _
     .exact Fn.const _
   |_=>exact Fn.const _
  .simp only[fF,v8];cases d f b ⟨eL (iI S.env) S.env,S.heap,S.bH⟩with
   |none=>rfl
   |some x=>have⟨g,e⟩:=x;cases g<;>rfl
 |rangeFunc _ _ _ _=>exact(Fn.const none).of_eq fun d=>rfl
 |refuse _=>exact(Fn.const none).of_eq fun d=>rfl
def Sl:∀(n:Nat) (f:FuncId) (c:Code) (S:St) (r),run C n f c S=some r->run C (n+1) f c S=some r
 |0,f,c,S,r,h=>by simp[run]at h
 |n+1,f,c,S,r,h=>by
  have⟨K,a,b⟩:=Dc f c S (run C n) r h
  exact b (run C (n+1)) fun p hp=>Sl n _ _ _ _ (a p hp)
def AK{n m:Nat}(h:n<=m){r}(a:run C n f c S=some r):run C m f c S=some r:=by
 induction h with
 |refl=>exact a
 |step _ b=>exact Sl _ _ _ _ _ b
open Classical in
noncomputable def ev(C:bu):jh:=fun f c S=>if h:∃r n,run C n f c S=some r then some h.choose else none
def qY{r}:ev C f c S=some r↔ ∃n,run C n f c S=some r:=by
 unfold ev;split
 .rename_i h;have⟨n,hn⟩:=h.choose_spec;constructor
  .intro a;simp only[abj]at a;exact⟨n,by rw[hn,a]⟩
  .rintro⟨m,hm⟩;have d:=AK (Nat.le_max_left n m) hn;have b:=AK (Nat.le_max_right n m) hm;rw[d]at b;exact b
 .rename_i h;exact⟨fun a=>(by cases a),fun⟨n,hn⟩=>absurd ⟨r,n,hn⟩ h⟩
def xu.run{K:List Ask}(h:xu (ev C) K):∃n,xu (run C n) K:=by
 induction K with
 |nil=>exact⟨0,fun p hp=>by simp at hp⟩
 |cons p K b=>
  have⟨n,hn⟩:=b fun q a=>h q (by simp[a]);have⟨m,hm⟩:=qY.1 (h p (by simp));refine⟨max n m,fun q a=>?_⟩;rcases ae3.1 a with rfl|a
  .exact AK (Nat.le_max_right n m) hm
  .exact AK (Nat.le_max_left n m) (hn q a)
def oK(f:FuncId)(c:Code)(S:St):ev C f c S=fF C (ev C) f c S:=by
 have d:∀r,ev C f c S=some r->fF C (ev C) f c S=some r:=by
  intro r h;have⟨n,hn⟩:=qY.1 h;cases n with
  |zero=>simp[run]at hn
  |succ n=>have⟨K,a,b⟩:=Dc f c S (run C n) r hn;exact b (ev C) fun p hp=>qY.2 ⟨n,a p hp⟩
 have e:∀r,fF C (ev C) f c S=some r->ev C f c S=some r:=by intro r h;have⟨K,a,b⟩:=Dc f c S (ev C) r h;have⟨n,hn⟩:=a.run;exact qY.2 ⟨n+1,b (run C n) hn⟩
 cases h:fF C (ev C) f c S with
 |some r=>exact e r h
 |none=>
  cases g:ev C f c S with
  |none=>rfl
  |some r=>rw[d r g]at h;cases h
def ah9(f S):ev C f .skip S=some (.normal,S):=oK _ _ _
def ahr(f l S):ev C f (.label l) S=some (.normal,S):=oK _ _ _
def ahM(f id a b S):ev C f (.region id a b) S=ln C (cE C (ev C)) f id a.toList b S:=oK _ _ _
def iY(f a b S):ev C f (.seq a b) S=sq (ev C f a S) (ev C f b):=oK _ _ _
def afF(f t a b S):ev C f (.cond (.tmp t) a b) S=wM (S.env.get t) (ev C f a S) (ev C f b S):=oK _ _ _
def eD(f id c S):ev C f (.block id c) S=bl id (ev C f c S):=oK _ _ _
def ahn(f id S):ev C f (.exit id) S=some (.exit id,S):=oK _ _ _
def ahm(f l S):ev C f (.goto l) S=some (.goto l,S):=oK _ _ _
def ahu(f S):ev C f .ret S=some (.ret,S):=oK _ _ _
def UC(f c S):ev C f (.loop c) S=p9 (ev C) f c (iI S.env) (ev C f (.loop c)) ⟨eL (iI S.env) S.env,S.heap,S.bH⟩:=oK _ _ _
def T4(f c S):ev C f (.scope c) S=v8 (ev C) f c (iI S.env) (ev C f (.scope c)) ⟨eL (iI S.env) S.env,S.heap,S.bH⟩:=oK _ _ _
def JK(d:gS C){args:List au}{H c:List Ob}{r:au}(h:bB C (ev C) f args H=some (r,c)):Call C.P f args H r c:=by have⟨K,a,b⟩:=D9 f args H (ev C) _ h;have⟨n,hn⟩:=a.run;exact wU d (b (run C n) hn)
end
end Go.Nx
namespace Go.Nx
variable{Γ:az}{rows:List (List ab)}{C:bu}{ce:cY}{ops:Array Oper}{A:List Oper}{o:Oper}{bz:Nat->Bool}{ds:List (FuncId×List au)}{k:IntKind}{m:Int}
def vM(Γ0:az)(h b c:Nat):Prop:= ∃a,Γ0.hs[h]?=some (a,b)/\a.cap=c
def Ou{H:List Ob}(g:aZ Γ H){h e z:Nat}(i:obj H h e=some (z,rows)):∃c,vM Γ h e c/\c<=maxLen/\rows.length<=c:=by
 have⟨d,j,k,a⟩:=g.obj i;refine⟨d.cap,⟨d,j,rfl⟩,k,?_⟩;cases f:d.base with
 |none=>simp only[f]at a;subst a;simp
 |some b=>simp only[f]at a;exact a.2.2.2.1
def vM.at{Γ0 Γ:az}{H:List Ob}{h a c z:Nat}{rows:List (List ab)}(hc:vM Γ0 h a c)(f:Γ0.cL Γ)(g:aZ Γ H)(i:obj H h a=some (z,rows)):∃b,Γ.hs[h]?=some (b,a)/\b.cap=c:=by have⟨b,j,k⟩:=hc;have⟨l,n,d,o,m⟩:=f.le.hs h b a j;have⟨p,e,_⟩:=g.obj i;rw[d]at e;cases e;exact⟨l,d,by rw[m rfl,k]⟩
def jJ(P:Program)(Γ0:az)(e:Env)(H:List Ob)(b:Op)(x:au)(c:List Ob):Prop:=
 ∀(Γ:az) (a:Act) (o:Oper),Γ0.cL Γ->o.op=b->aZ Γ H->(∀p∈b.operands,Good Γ e a p)->ui Γ ((execOp a.eval o).run P Γ.w) x c
def bP.Gg(q:mh C.P ce){n id:Nat}(g:oU n ops.toList=true){Γ0:az}{B:List Oper}(c:ops.toList=A++o::B)(F:o.guard=none){e f i:Env}{H r j k:List Ob}{x:au}
  (hA:fH bz C ce ops.toList A e H=some (f,r)) (G:jJ C.P Γ0 f r o.op x j) (I:fH bz C ce ops.toList B (dW f o.dst x) j=some (i,k)):bP C.P n Γ0 (.region id ops false) ⟨e,H,ds⟩ .normal ⟨i,k,ds⟩:=by
 intro a w J
 refine wp_region ?_
 have hm:o∈ops.toList:=by rw[c];simp
 have K:ops.size=A.length+(1+B.length):=by
  have:=congrArg List.length c
  simp at this
  omega
 have L:aiT ops.size=List.range' 0 A.length++(A.length::(List.range' (A.length+1) B.length++[])):=by
  rw[akf,K, <-List.range'_append_1,aiQ,alm 1,amc,aeo]
 rw[L]
 refine sZ q g A 0 ⟨o::B,by simpa using c⟩ _ _ _ _ hA _ (fun s w1 M=>?_) a w J
 rw[wpOps_cons]
 obtain⟨u,Γ,rfl,v,N,l,O⟩:=M
 have R:ops[A.length]?=some o:=by rw[<-akG,c];simp
 unfold wpOp
 simp only[R]
 rw[yU l (b:=true) (by simp[nJ,F]),if_pos rfl]
 left
 have⟨y,z,d,m,S,T⟩:=G Γ s o v rfl N (fun p _=>uU l p)
 have U:Sat n Γ0 ⟨dW f o.dst x,j,ds⟩ (s.put o.dst y) z.w:=⟨by rw[vQ];exact u,z,rfl,v.trans m,S,(l.mono m.le).put (fun t V=>by rw[u];exact Bm g hm t V) T,by rw[put_defers];exact O.mono m.le⟩
 have fin:=sZ q g B (A.length+1) ⟨[],by rw[c, <-aj8];simp⟩ _ _ _ _ I [] (Q:=fun W D E=>W= .normal/\Sat n Γ0 ⟨i,k,ds⟩ D E) (fun D E h=>by simp only[wpOps];exact⟨trivial,h⟩) _ _ U
 unfold Oper.wp
 rcases d with d|⟨d,X⟩
 .rw[d,akr];exact fin
 .rw[d,Oper.upon_skip, <-X];exact fin
section
variable{P:Program}{Γ0:az}{e:Env}{H:List Ob}
def jJ.cap{y:Operand}{g el h d len c z:Nat}{rows:List (List ab)}(r:P.underlying g=some (.slice el))(s:aY e y=some (.c (.sl h d 0 len)))(i:obj H h d=some (z,rows))(t:0<rows.length)(hc:vM Γ0 h d c):
  jJ P Γ0 e H (.call {callee:= .builtin .cap,args:= #[y],argTypes:= #[g]}) (.c (I c)) H:=fun Γ a o u j f v=>by
 have⟨C,D,E,pos,F,guard⟩:=o
 simp only at j
 subst j
 have k:=v y (by simp[ac8,aiG]) _ s
 simp only[aL,aB]at k
 have⟨w,l,x⟩:=hc.at u f i
 have⟨G,J,K,cap,m,_,A,B⟩:=k
 rw[l]at m
 cases m
 have⟨L,n,_,p⟩:=f.obj i
 rw[l]at n
 cases n
 rcases B rfl with⟨q,_⟩|⟨b,M,q,rfl,rfl,N,O⟩
 .simp only[q]at p
  subst p
  simp at t
 .refine .val f (y:= .int .i64 ((w.cap-0:Nat):Int)) ?_ (by simp[aL,aB,aiq, <-x])
  simp[execOp,resolve,invoke,builtin,A,Builtin.cap_,run_underlying r,goInt]
def jJ.upto{y q:Operand}{l el E h f len c z:Nat}{r:Nat×List ab}(F:se P l=some (el,E,r))(G:aY e y=some (.c (.sl h f 0 len)))(I:aY e q=some (.c (.v (.int k m))))(s:obj H h f=some (z,rows))(J:0<rows.length)(hc:vM Γ0 h f c)(V:0<=m/\m<=(c:Int)):
  jJ P Γ0 e H (.slice l y none (some q) none) (.c (.sl h f 0 m.toNat)) H:=fun Γ a o K t n u=>by
 have⟨W,X,Y,pos,Z,guard⟩:=o
 simp only at t
 subst t
 have x:=u y (by simp[ac8]) _ G
 have A:=u q (by simp[ac8]) _ I
 simp only[aL,aB]at x A
 have⟨d,p,k2⟩:=hc.at K n s
 have⟨aa,ad,a',cap,B,_,L,M⟩:=x
 rw[p]at B
 cases B
 have⟨ae,C,_,g⟩:=n.obj s
 rw[p]at C
 cases C
 have⟨bytes,zz⟩:=r
 obtain⟨N,i,zv,O,rfl,_,_,_,_⟩:=jI F
 have Q:(sizeOf el).run P Γ.w= .ok i.size Γ.w:=by simp[sizeOf,typeInfo,O]
 rcases M rfl with⟨j,_⟩|⟨b,af,j,rfl,rfl,ag,D⟩
 .simp only[j]at g
  subst g
  simp at J
 .simp only[j]at g
  have ah:=g.2.2.2.1
  have R:0<d.cap:=by omega
  obtain rfl:=D R
  have S:=mm (P:=P) (w:=Γ.w) k m d.cap .sliceAcap (by omega) (by omega)
  have T:(aju l (.slice (some ⟨b,d.off+0*d.sz,none⟩) len (d.cap-0)) none (some (.int k m)) none).run P Γ.w= .ok (.slice (some ⟨b,d.off+0*d.sz,none⟩) m.toNat (d.cap-0)) Γ.w:=by
   have U:¬(d.cap=0):=by omega
   simp[aju,run_underlying N,akK,ajS,Q,S,U,jH]
  refine .val n (y:= .slice (some ⟨b,d.off+0*d.sz,none⟩) m.toNat (d.cap-0)) (by simp only[execOp,L,A.1,ajJ,Option.map_none,aiN,T];rfl) ?_
  simp only[aL,aB]
  exact⟨d,f,some _,d.cap-0,p,adt _,rfl,fun _=> .inr ⟨b,_,j,rfl,rfl,by omega,D⟩⟩
def adP{P:Program}{t:TypeId}(h:ik P t=some k):P.underlying t=some (.int k):=by
 unfold ik at h;split at h
 .rename_i a;cases h;exact a
 .cases h
def jJ.Ll{y q:Operand}{x z el p F i c h A:Nat}{t:List ab}{I J:IntKind}(ht:se P x=some (el,p,F,t))(af:ik P z=some J)(hy:aY e y=some (.c (.sl h A 0 i)))(hq:aY e q=some (.c (.v (.int I m))))(K:obj H h A=some (p,rows))(hi:i<=rows.length)(hc:vM Γ0 h A c)(h0:0<m)(hg:(c:Int)<i+m)(h1:(i:Int)+m<=10000000)(aA:F<=10000)
  (hf:∀r∈rows.take i,r.length=p) (ag:t.length=p) (L:0<p):
  jJ P Γ0 e H (.call {callee:= .builtin .append,args:= #[y,q],argTypes:= #[x,z]}) (.c (.sl H.length 0 0 (i+m.toNat))) (H++[.live 0 p (rows.take i++ago m.toNat t)]):=fun Γ a o ah M u N=>by
 have⟨aC,op,ty,pos,aD,guard⟩:=o
 simp only at M
 subst M
 have O:=N y (by simp[ac8,aiG]) _ hy
 have Q:=N q (by simp[ac8,aiG]) _ hq
 simp only[aL,aB]at O Q
 have⟨R,S,k2⟩:=hc.at ah u K
 have⟨aE,aF,T,cap,j1,_,j2,j3⟩:=O
 rw[S]at j1
 cases j1
 have⟨aG,U,q3,V⟩:=u.obj K
 rw[S]at U
 cases U
 obtain⟨ai,f,l,aj,rfl,aH,hz,ak,al⟩:=jI ht
 have hu:=adP af
 obtain⟨d,rfl⟩:∃d:Nat,m=(d:Int):=⟨m.toNat,by omega⟩
 have am:((d:Int)).toNat=d:=by simp
 rw[am]
 have an:∃g,aX Γ (rows.take i).flatten g/\g.length=i*f.size/\cap<i+d/\(aiY f.size i (.slice T i cap)).run P Γ.w.drew= .ok g.toArray Γ.w.drew:=by
  have W:cap<i+d:=by
   rcases j3 rfl with⟨_,_,rfl,_,_⟩|⟨b,X,B,rfl,rfl,ao,Y⟩
   .omega
   .omega
  rcases j3 rfl with⟨B,rfl,rfl,_,rfl⟩|⟨b,X,B,rfl,rfl,ao,Y⟩
  .exact ⟨[],by simp[aX],by simp,W,by simp[aiY]⟩
  .simp only[B]at V
   have⟨Z,hX,hF,aI,aJ,cells,aK,hh,aM,ap⟩:=V
   have⟨C,D,s,E⟩:=tj (lC ap i)
   have hl:(rows.take i).length=i:=by simp;omega
   rw[hl]at s
   refine⟨C,D,by rw[s,Z],W,?_⟩
   by_cases aq:i=0
   .subst aq
    have:C=[]:=ae4 (by rw[s];simp)
    subst this
    simpa using run_firstCells_some (P:=P) (w:=Γ.w.drew) f.size 0 X 0 (R.cap-0) [] (by simp) (by simp)
   .have ar:0<R.cap:=by omega
    obtain rfl:=Y ar
    exact run_firstCells_some (P:=P) (w:=Γ.w.drew) f.size i _ i _ C (by rw[s,Z]) (fun j v hj=>by
     rw[jH]
     have:=E j v hj
     simpa using this)
 have⟨g,D,s,aa,E⟩:=an
 have au:(i+d)*f.bytes<=140737488355328:=aiZ (amE (show i+d<=10000000 by omega) (show f.bytes<=10000 by omega)) (by decide)
 have av:d*f.bytes<=281474976710656:=aiZ (amE (show d<=10000000 by omega) (show f.bytes<=10000 by omega)) (by decide)
 have n:=Lib.run_append_grow_zeros (P:=P) Γ.w x z ty el f l I J ai hu aj hz T i cap g E d (by omega) L aa (by omega) av (growslice_fits (need:=i+d) (old:=cap) aa au)
 generalize hG:grownCap Γ.w (i+d) cap el=G at n
 have ad:i+d<=G:=by rw[<-hG];exact grownCap_ge Γ.w (i+d) cap el
 have aw:G<=maxLen:=by rw[<-hG];exact grownCap_le_maxLen Γ.w (i+d) cap el (by unfold maxLen;omega)
 have ae:=sQ u
 have ax:=(tm Γ).trans (tQ ae (g.toArray++ais l.cells d++ais l.cells (G-(i+d))) el ⟨some Γ.w.heap.size,0,G,f.size⟩)
 have ay:(rows.take i++ago d t).length=i+d:=by simp;omega
 refine⟨.slice (some ⟨Γ.w.heap.size,0,none⟩) (i+d) G,Γ.drew.alloc (g.toArray++ais l.cells d++ais l.cells (G-(i+d))) el ⟨some Γ.w.heap.size,0,G,f.size⟩,.inl ?_,ax,rK ae _ el G f.size (rows.take i++ago d t) aw (by rw[ay];exact ad) L ?_ ?_ (g++(ais l.cells d).toList) ?_ ?_,?_⟩
 .simp only[execOp,resolve,invoke,builtin,aiN,akR,aiA,List.map_toArray,afL,aiO,j2,Q.1,n]
  rfl
 .simp only[aj0,ajq,size_zeroCells,ak,s, <-ail]
  exact aj3 (by congr 1;omega)
 .intro r n
  rcases ahl.1 n with n|n
  .exact hf r n
  .rw[ak5 n];exact ag
 .rw[alC,DQ]
  exact rH (kx (pP Γ) _ _ D) (Bu (oW al) _)
 .intro k v hk
  rw[akQ (by
   have:=(aa3.1 hk).1
   simp at this|-
   omega)]
  have e:g.toArray++ais l.cells d=(g++(ais l.cells d).toList).toArray:=by simp
  rw[e,List.getElem?_toArray]
  exact hk
 .simp only[aL,aB]
  refine⟨_,0,some ⟨Γ.w.heap.size,0,none⟩,G,by simp[az.alloc,az.drew,u.len];rfl,adt _,rfl,fun _=> .inr ⟨Γ.w.heap.size,_,rfl,rfl,by simp,by simpa using ad,fun _=>by simp⟩⟩
def jJ.apart{g y q:Operand}{f:FuncId}{i tr V W el X h p r len k s t u z Y:Nat}{C:Nat×List ab}{rows D:List (List ab)}(Z:se P i=some (el,X,C))(hf:aY e g=some (.c (.bG f [])))(hx:∀(args:Array Value) (w:World),(callFunc f args).run P w=((akA #[i,i] #[tr] args).run P w).andThen fun v w'=> .ok (.value v) w')(hy:aY e y=some (.c (.sl h p r len)))(hq:aY e q=some (.c (.sl k s t u)))(E:obj H h p=some (z,rows))(F:obj H k s=some (Y,D))(aa:h≠k)(aq:z≠1)(hr:0<rows.length)(ar:0<D.length)(hl:0<len)(au:0<u):
  jJ P Γ0 e H (.call {callee:= .value g,args:= #[y,q],argTypes:= #[V,W]}) (.c (B false)) H:=fun Γ a o av G l x=>by
 have⟨aw,op,ty,pos,ax,guard⟩:=o
 simp only at G
 subst G
 have m:=x g (by simp[ac8,aiG]) _ hf
 have I:=x y (by simp[ac8,aiG]) _ hy
 have J:=x q (by simp[ac8,aiG]) _ hq
 simp only[aL,aB,aX]at m I J
 have⟨ys,m,ad⟩:=m
 have ae:ys= #[]:=by simpa using ad
 subst ae
 have⟨n,K,ay,L⟩:=l.obj E
 have⟨d,M,az,N⟩:=l.obj F
 have⟨af,ag,a',cap,j1,_,j2,j3⟩:=I
 rw[K]at j1
 cases j1
 have⟨af,ag,a2,aA,O,_,Q,i3⟩:=J
 rw[M]at O
 cases O
 rcases j3 rfl with⟨_,_,_,_,rfl⟩|⟨b,b',R,rfl,rfl,aC,ha⟩
 .omega
 rcases i3 rfl with⟨_,_,_,_,rfl⟩|⟨c,c',S,rfl,rfl,aD,ah⟩
 .omega
 obtain rfl:=ha (by omega)
 obtain rfl:=ah (by omega)
 have ai:b≠c:=by
  intro he
  subst he
  exact aa (l.apart h k p s _ _ n d b (eG E) (eG F) rfl rfl K M R S)
 simp only[R]at L
 simp only[S]at N
 have⟨aE,hX,hF,aF,aG,cells,aj,⟨fz,T,aH⟩,aI,aJ⟩:=L
 have⟨aK,aM,aN,aO,ak,al,T2,⟨aP,am,aQ⟩,aR,aS⟩:=N
 have⟨bytes,zl⟩:=C
 obtain⟨an,ii,zz,ao,rfl,aT,hz,aU,aV⟩:=jI Z
 have aW:0<d.cap*d.sz:=Nat.mul_pos (by omega) ak
 have U:∀j,Γ.w.frozen? ⟨b,j,none⟩=false:=fun j=>by
  simp[World.frozen?,T]
  omega
 have ap:=Lib.run_overlaps_apart (P:=P) Γ.w i tr el an ii.size (fun w=>by simp[sizeOf,typeInfo,ao]) ⟨b,n.off+r*n.sz,none⟩ ⟨c,d.off+t*d.sz,none⟩ len (n.cap-r) u (d.cap-t) ai aj T2 cells.size al.size (by simp[amw,T]) (by simp[amw,am]) (by omega) (U _) (U _)
 refine .val l (y:= .bool false) ?_ (by simp[aL,aB,aiq])
 have A:=hx #[a.eval y,a.eval q] Γ.w
 rw[j2,Q,ap]at A
 simp only[execOp,resolve,invoke,aiN,List.map_toArray,afL,aiO,m,j2,Q]
 simp at A
 simp[Deferred.ofValue,A]
end
def Lz{H:List Ob}(g:aZ Γ H){c f d z0 l len:Nat}{aa:List (List ab)}(ad:obj H c d=some (z0,aa))(B:obj H f 0=some (l,rows))(ae:c≠f):
  ∃q,q.w=Γ.w/\Γ.cL q/\aZ q ((H.set c (.live (d+1) l rows)).set f .dead)/\∀y,aB Γ (.sl f 0 0 len) y->aB q (.sl c (d+1) 0 len) y:=by
 have⟨aj,Q,k2,k3⟩:=g.obj ad
 have⟨j,m,m2,r⟩:=g.obj B
 have R:c<Γ.hs.length:=(aa3.1 Q).1
 have af:c<H.length:=by rw[g.len];exact R
 have ag:f<H.length:=by rw[g.len];exact(aa3.1 m).1
 have s:∀n,n≠c->(Γ.hs.set c (j,d+1))[n]?=Γ.hs[n]?:=fun n hn=>by
  rw[aay (fun h=>hn h.symm)]
 have t:(Γ.hs.set c (j,d+1))[c]?=some (j,d+1):=by simp[R]
 have u:Γ.Le {Γ with hs:=Γ.hs.set c (j,d+1)}:=⟨fun _ _ h=>h,fun _ _ _=>rfl,fun n i v hn=>by
  by_cases S:n=c
  .subst S
   rw[Q]at hn
   cases hn
   exact⟨j,d+1,t,by omega,fun h=>by omega⟩
  .exact ⟨i,v,by simp only;rw[s n S];exact hn,adt _,fun _=>rfl⟩⟩
 have T:∀n o,((H.set c (.live (d+1) l rows)).set f .dead)[n]?=some o->(n=f/\o= .dead)\/(n=c/\o= .live (d+1) l rows)\/(n≠c/\n≠f/\H[n]?=some o):=by
  intro n o hn
  by_cases C:f=n
  .subst C
   have e:((H.set c (.live (d+1) l rows)).set f .dead)[f]?=some .dead:=by simp[ag]
   rw[e]at hn
   exact .inl ⟨rfl,(ajC hn).symm⟩
  .rw[aay C]at hn
   by_cases D:c=n
   .subst D
    have e:(H.set c (.live (d+1) l rows))[c]?=some (.live (d+1) l rows):=by simp[af]
    rw[e]at hn
    exact .inr (.inl ⟨rfl,(ajC hn).symm⟩)
   .rw[aay D]at hn
    exact .inr (.inr ⟨fun h=>D h.symm,fun h=>C h.symm,hn⟩)
 refine⟨{Γ with hs:=Γ.hs.set c (j,d+1)},rfl,⟨u,rfl,rfl,rfl,adt _,fun _ _ _=>rfl,fun _ _ h=> .inl h,fun _ h=> .inl h⟩,⟨by simp[g.len],fun n o hn=>?_,fun n U v V o o' E I b e1 W t1 t2 e3 Y J K=>?_,g.F,g.X,g.G.le u⟩,fun y Z=>?_⟩
 .rcases T n o hn with⟨rfl,rfl⟩|⟨rfl,rfl⟩|⟨x,q2,L⟩
  .exact ⟨j,by simp only;rw[s n (fun h=>ae h.symm)];exact m⟩
  .refine ⟨j,t,m2,?_⟩
   cases hb:j.base with
   |none=>simp only[hb]at r;exact r
   |some b=>
    simp only[hb]at r
    have⟨c1,c2,c3,c4,c5,cells,ah,c6,c7,c8⟩:=r
    exact⟨c1,c2,c3,c4,c5,cells,ah,c6,c7,mN fun k ai hk=>by
     have:=jP c8 hk
     exact⟨this.1,uE u b _ ai (fun _ _ _=>rfl) this.2⟩⟩
  .exact (g.ob n o L).aJ u (by simp only;rw[s n x]) (fun _ _ _ _ _ _ hx hf=>⟨rfl,hf,hx⟩)
 .have M:∀n o i v,((H.set c (.live (d+1) l rows)).set f .dead)[n]?=some o->o.there=true->(Γ.hs.set c (j,d+1))[n]?=some (i,v)->(n=c/\i=j)\/(n≠c/\n≠f/\H[n]?=some o/\Γ.hs[n]?=some (i,v)):=by
   intro n o i v hn ht z
   rcases T n _ hn with⟨_,rfl⟩|⟨rfl,rfl⟩|⟨x,q2,L⟩
   .cases ht
   .rw[t]at z
    cases z
    exact .inl ⟨rfl,rfl⟩
   .rw[s n x]at z
    exact .inr ⟨x,q2,L,z⟩
  rcases M _ _ _ _ e1 t1 e3 with⟨a1,N⟩|⟨a1,N,a3,a4⟩
  .rcases M _ _ _ _ W t2 Y with⟨A,p⟩|⟨A,p,O,P⟩
   .rw[a1,A]
   .exfalso
    subst N
    exact p (g.apart U f V 0 _ _ I E b O (eG B) t2 rfl P m K J)
  .rcases M _ _ _ _ W t2 Y with⟨A,p⟩|⟨A,p,O,P⟩
   .exfalso
    subst p
    exact N (g.apart n f v 0 _ _ E I b a3 (eG B) t1 rfl a4 m J K)
   .exact g.apart n U v V o o' E I b a3 O t1 t2 a4 P J K
 .simp only[aB]at Z|-
  have⟨ak,al,a,cap,g1,g2,g3,g4⟩:=Z
  rw[m]at g1
  cases g1
  exact⟨j,d+1,a,cap,t,adt _,g3,fun _=>g4 rfl⟩
def bP.Wb(k:mh C.P ce){n id:Nat}(l:oU n ops.toList=true){Γ0:az}(c:ops.toList=A++[o])(m:o.guard=none){e d:Env}{H f:List Ob}
  (hA:fH bz C ce ops.toList A e H=some (d,f)) (q:∀(Γ:az) (a:Act),Γ0.cL Γ->aZ Γ f->(∀p∈o.op.operands,Good Γ d a p)->∃y,(execOp a.eval o).run C.P Γ.w= .ok (.value y) Γ.w) (r:∀t,o.dst=some t->d.get t=none):bP C.P n Γ0 (.region id ops false) ⟨e,H,ds⟩ .normal ⟨d,f,ds⟩:=by
 intro a w s
 refine wp_region ?_
 have hm:o∈ops.toList:=by rw[c];simp
 have u:ops.size=A.length+1:=by
  have:=congrArg List.length c
  simpa using this
 have v:aiT ops.size=List.range' 0 A.length++[A.length]:=by
  rw[akf,u,List.range'_concat]
  simp
 rw[v]
 refine sZ k l A 0 ⟨[o],by simpa using c⟩ _ _ _ _ hA _ (fun z w1 B=>?_) a w s
 rw[wpOps_cons]
 obtain⟨D,Γ,rfl,i,j,g,E⟩:=B
 have F:ops[A.length]?=some o:=by rw[<-akG,c];simp
 unfold wpOp
 simp only[F]
 rw[yU g (b:=true) (by simp[nJ,m]),if_pos rfl]
 left
 have⟨y,G⟩:=q Γ z i j (fun p _=>uU g p)
 unfold Oper.wp
 rw[G,akr]
 simp only[wpOps]
 refine⟨trivial,by rw[vQ];exact D,Γ,rfl,i,j,fun t x h=>?_,by rw[put_defers];exact E⟩
 have⟨I,J,K⟩:=g t x h
 exact⟨I,by rw[Oh (fun L=>by rw[r t L]at h;cases h)];exact J,K⟩
def bE(P:Program)(n:Nat)(Γ0:az)(c:Code)(S:St)(Q:Exit->St->Prop):Prop:= ∃a b,bP P n Γ0 c S a b/\Q a b
section
variable{P:Program}{n:Nat}{Γ0:az}{a b c:Code}{S:St}{Q:Exit->St->Prop}
def bE.mono{b:Exit->St->Prop}(h:bE P n Γ0 c S Q)(d:∀a S,Q a S->b a S):bE P n Γ0 c S b:=by have⟨a,e,f,g⟩:=h;exact⟨a,e,f,d _ _ g⟩
def bE.seq(h:bE P n Γ0 a S fun c d=>c= .normal/\bE P n Γ0 b d Q):bE P n Γ0 (.seq a b) S Q:=by obtain⟨c,d,e,rfl,f,g,i,j⟩:=h;exact⟨f,g,e.DM i,j⟩
def bE.sq(h:bE P n Γ0 a S fun c d=>(c= .normal/\bE P n Γ0 b d Q)\/(c≠ .normal/\Q c d)):bE P n Γ0 (.seq a b) S Q:=by
 obtain⟨c,d,f,⟨rfl,g,i,e,j⟩|⟨k,e⟩⟩:=h
 .exact ⟨g,i,f.DM e,j⟩
 .exact ⟨c,d,f.uT k,e⟩
def bE.uT(h:bE P n Γ0 a S fun c d=>c≠ .normal/\Q c d):bE P n Γ0 (.seq a b) S Q:=by have⟨c,d,e,f,g⟩:=h;exact⟨c,d,e.uT f,g⟩
def bE.cond{t:Nat}{v:Bool}(i:S.env.get t=some (.c (.v (.bool v))))(j:v=true->bE P n Γ0 a S Q)(k:v=false->bE P n Γ0 b S Q):bE P n Γ0 (.cond (.tmp t) a b) S Q:=by
 cases v with
 |true=>have⟨d,e,f,g⟩:=j rfl;exact⟨d,e,bP.cond i (fun _=>f) (fun h=>by cases h),g⟩
 |false=>have⟨d,e,f,g⟩:=k rfl;exact⟨d,e,bP.cond i (fun h=>by cases h) (fun _=>f),g⟩
def bE.aJ{e:Env}{H:List Ob}(b:List Nat)(h:bE P n Γ0 c ⟨eL b e,H,ds⟩ Q):bE P n Γ0 c ⟨e,H,ds⟩ Q:=by have⟨d,f,g,i⟩:=h;exact⟨d,f,g.pre fun a w j=>j.sub (uN _ _),i⟩
def bE.at{a:Exit}{b:St}(d:bP P n Γ0 c S a b)(e:Q a b):bE P n Γ0 c S Q:=⟨a,b,d,e⟩
def bE.skip(h:Q .normal S):bE P n Γ0 .skip S Q:=⟨_,_,bP.skip,h⟩
def bE.ret(h:Q .ret S):bE P n Γ0 .ret S Q:=⟨_,_,bP.ret,h⟩
end
def bE.Gg{C:bu}{ce:cY}(g:mh C.P ce){n id:Nat}{ops:Array Oper}{Γ0:az}{A B:List Oper}{o:Oper}{bz:Nat->Bool}{e a b:Env}{H c d f:List Ob}{x:au}{ds:List (FuncId×List au)}{Q:Exit->St->Prop}(h:ops.toList=A++o::B)(i:oU n ops.toList=true)(j:o.guard=none)
  (hA:fH bz C ce ops.toList A e H=some (a,c)) (k:jJ C.P Γ0 a c o.op x d) (l:fH bz C ce ops.toList B (dW a o.dst x) d=some (b,f)) (m:Q .normal ⟨b,f,ds⟩):bE C.P n Γ0 (.region id ops false) ⟨e,H,ds⟩ Q:=⟨_,_,bP.Gg g i h j hA k l,m⟩
def bE.Uk(e:gS C){f d n:Nat}{c:Code}{S:St}{Γ0:az}{Q:Exit->St->Prop}(hc:codeOk C f d n c=true)(g:iZ C f d S.env)(h:∃a b,ev C f c S=some (a,b)/\Q a b):bE C.P n Γ0 c S Q:=by have⟨a,b,i,j⟩:=h;have⟨m,hm⟩:=qY.1 i;exact⟨a,b,((GK e m f d n c S a b hc g hm).1 Γ0).1,j⟩
def Ga{P:Program}{f:FuncId}{b:Func}{c:Code}(o:enters P f=true)(p:P.funcs[f]?=some b)(q:b.body=some c){args:List au}{H:List Ob}(s:args.length<=b.ntmps){r:au}{g:List Ob}
  (h:∀Γ,aZ Γ H->bE P b.ntmps Γ c ⟨fN 0 args,H,[]⟩ fun i S=>(i= .normal\/i= .ret)/\S.bH=[]/\∃x,ic P S.env S.heap b.results.toList=some x/\∀a y,aZ a S.heap->aL a x y->∃d,d.w=a.w/\a.cL d/\aZ d g/\aL d r y):Call P f args H r g:=by
 refine⟨o,fun Γ k M hc=>?_⟩
 have⟨i,S,t,hex,u,x,z,A⟩:=h Γ k
 refine calls_of_wp_defers p q (wp_mono (t _ _ (Gs k hc s)) fun N j l B=>?_)
 obtain⟨rfl,O,a,rfl,C,m,D,n⟩:=B
 rw[u]at n
 have E:j.defers=[]:=n
 have⟨v,F,G⟩:=DS m D z
 have⟨d,I,J,K,L⟩:=A a v m G
 have fin:Leaves P b j.tmps (fun e l=>∃y a,e= .returned y/\a.w=l/\Γ.cL a/\aZ a g/\aL a r y) j.defers .returning a.w:=by
  rw[E]
  exact⟨v,F,v,d,rfl,I,C.trans J,K,L⟩
 rcases hex with rfl|rfl
 .exact fin
 .exact fin
def SD{H:List Ob}(c:aZ Γ H){h v z:Nat}(j:obj H h v=some (z,rows)):
  ∃d,d.w=Γ.w/\Γ.cL d/\aZ d (H.set h (.live (v+1) z rows))/\∀len y,aB Γ (.sl h v 0 len) y->aB d (.sl h (v+1) 0 len) y:=by
 have⟨inf,f,x,g⟩:=c.obj j
 have l:=AF (Γ:=Γ) (inf:=inf) (ver:=v+1) f (by omega)
 have A:h<H.length:=(aa3.1 (eG j)).1
 have B:h<Γ.hs.length:=(aa3.1 f).1
 have m:(Γ.bump h inf (v+1)).hs[h]?=some (inf,v+1):=by simp[az.bump,B]
 refine⟨Γ.bump h inf (v+1),rfl,⟨l,rfl,rfl,rfl,adt _,fun _ _ _=>rfl,fun _ _ h=> .inl h,fun _ h=> .inl h⟩,?_,fun len y q=>?_⟩
 .refine c.put l h (by simp[az.bump,c.len]) (fun n hn=>⟨aay (fun e=>hn e.symm),by simp only[az.bump];exact aay (fun e=>hn e.symm)⟩) (fun o p=>?_) (fun o i N b p _ s C=>?_)
   (fun _ _ _=>rfl) (fun _ _ D=> .inl D) (fun _ E=>E) c.F c.X
  .rw[afN A]at p
   cases p
   refine⟨inf,m,x,?_⟩
   cases t:inf.base with
   |none=>simp only[t]at g;exact g
   |some b=>
    simp only[t]at g
    have⟨c1,c2,c3,c4,c5,cells,T,G,I,J⟩:=g
    exact⟨c1,c2,c3,c4,c5,cells,T,G,I,mN fun k r K=>by
     have:=jP J K
     exact⟨this.1,uE l b _ r (fun _ _ _=>rfl) this.2⟩⟩
  .rw[m]at s
   cases s
   exact .inr ⟨_,inf,v,eG j,rfl,f,C⟩
 .simp only[aB]at q|-
  have⟨O,P,a,cap,u,Q,L,M⟩:=q
  rw[f]at u
  cases u
  exact⟨inf,v+1,a,cap,m,adt _,L,fun _=>M rfl⟩
end Go.Nx
namespace Go.Nx
def kA(x:Int):List Int->List Int
 |[]=>[x]
 |y::r=>if x<=y then x::y::r else y::kA x r
def gA:List Int->List Int
 |[]=>[]
 |x::r=>kA x (gA r)
def du:List Int->List Int
 |[]=>[]
 |x::r=>match du r with
  |[]=>[x]
  |y::t=>if x=y then y::t else x::y::t
def cD(l:List Int):List Int:=du (gA l)
def gH(a b:List Int):List Int:=(cD a).filter fun x=>!decide (x∈b)
def ke(a b:List Int):List Int:=(cD a).filter fun x=>decide (x∈b)
def ld(a b:List Int):Bool:=(gH a b).isEmpty
def gN(a b:List Int):List Int:=cD (a++b)
def ei:List Int->Bool
 |[]=>true
 |x::r=>(match r with
  |[]=>true
  |y::_=>decide (x<y))&&ei r
structure Edge where
 a:Int
 b:Int
deriving DecidableEq,Inhabited
structure Gr where
 n:Int
 bw:List Edge
deriving DecidableEq,Inhabited
def nR(x y:Edge):Bool:=decide (x.a<y.a)||(decide (x.a=y.a)&&decide (x.b<y.b))
def vt:List Edge->Bool
 |[]=>true
 |x::r=>(match r with
  |[]=>true
  |y::_=>nR x y)&&vt r
def fg(g:Gr):Bool:=!decide (g.n<0)&&!decide (64<g.n)&&!decide (400<g.bw.length)&&!(g.bw.any fun e=>decide (e.a<0)||decide (e.a>=e.b)||decide (e.b>=g.n))&&vt g.bw
def eN(a:Int):List Edge->List Int
 |[]=>[]
 |e::r=>if a=e.a then e.b::eN a r else if a=e.b then e.a::eN a r else eN a r
def ee(g:Gr)(a:Int):List Int:=if fg g then cD (eN a g.bw)else []
def bC(c:List Int)(b:Int):Int:=c.getD b.toNat 0
def mW(l:List Int):Nat->Int->Int
 |0,k=>k
 |n+1,k=>if k∈l then mW l n (k+1)else k
def ku(g:Gr)(c:List Int)(a:Nat):Int:=
 let d:=ee g a
 if bC c a≠0\/(d.any fun b=>decide (bC c b=0)&&decide (b>(a:Int)))=true then bC c a else mW (d.map (bC c)) (d.length+1) 1
def iV(g:Gr)(c:List Int):List Int:=(aiT g.n.toNat).map (ku g c)
def sO(g:Gr):Nat->List Int->Nat->Option (List Int×Nat)
 |0,_,_=>none
 |m+1,c,n=>if(0:Int)∈c then sO g m (iV g c) (n+1)else some (c,n)
def oZ(g:Gr):Option (List Int×Nat):=sO g (g.n.toNat+1) (ago g.n.toNat 0) 0
structure bY where
 id:Int
 need:List Int
 state:Int
 cH:Int
deriving DecidableEq,Inhabited
structure ci where
 last:Int
 aA:List bY
deriving DecidableEq,Inhabited
abbrev ci.zero:ci:=⟨0,[]⟩
def nC(l:List Int):Bool:=decide (64<l.length)||l.any fun p=>decide (p<0)
def dx(bl a:Int)(first:Bool)(s:bY):Bool:=
 !(decide (s.id<=a)||decide (s.id>bl)||nC s.need||!ei s.need||decide (s.cH<0))&&((decide (s.state=1)&&first)||(decide (s.state=0)&&decide (s.cH=0)))
def dR(bl:Int):Int->Bool->List bY->Bool
 |_,_,[]=>true
 |last,first,s::r=>dx bl last first s&&dR bl s.id false r
def cM(b:ci):Bool:=!decide (b.last<0)&&!decide (8<b.aA.length)&&dR b.last 0 true b.aA
def io(b:ci)(id:Int)(need:List Int):ci×Int:=
 if cM b=false then(.zero,170)
 else if id<=b.last then(.zero,171)
 else if nC (cD need)=true then(.zero,172)
 else if b.aA.length=8 then(.zero,173)
 else(⟨id,b.aA++[⟨id,cD need,0,0⟩]⟩,0)
def kB(b:ci):ci×Int×Int:=
 if cM b=false then(.zero,0,170)else match b.aA with
 |[]=>(.zero,0,175)
 |s::r=>if s.state=1 then(.zero,0,175)else(⟨b.last,{s with state:=1}::r⟩,s.id,0)
def ey(id:Int):List bY->List bY
 |[]=>[]
 |s::r=>if s.id=id then r else s::ey id r
def de(b:ci)(id a:Int):ci×Int:=
 if cM b=false then(.zero,170)else match b.aA.find? (fun s=>decide (s.id=id))with
 |none=>(.zero,174)
 |some s=>if s.state=a then(⟨b.last,ey id b.aA⟩,0)else(.zero,175)
def dQ(b:ci)(a:Int):ci×Int×Int:=
 if cM b=false then(.zero,0,170)else match b.aA with
 |[]=>(b,0,0)
 |s::r=>if s.state=1 then
   (if max s.cH (min s.cH (4611686018427387904-1)+1)<a then(⟨b.last,{s with cH:=max s.cH (min s.cH (4611686018427387904-1)+1)}::r⟩,0,0)else(⟨b.last,r⟩,s.id,0))
  else(b,0,0)
def cg(a:Int)(s:bY):Bool:=decide (s.state=0)&&decide (a∈s.need)
def iS(b:ci)(a:Int):ci×List Int×Int:=
 if cM b=false then(.zero,[],170)else(⟨b.last,b.aA.filter fun s=>!cg a s⟩,(b.aA.filter (cg a)).map (·.id),0)
structure aI where
 peer:Int
 aP:Int
 state:Int
 fork:Bool
 cJ:Bool
 token:Bool
 dd:Bool
 ask:Bool
deriving DecidableEq,Inhabited
structure cU where
 kind:Int
 aP:Int
 num:Int
deriving DecidableEq,Inhabited
structure cB where
 src:Int
 dst:Int
 fP:cU
deriving DecidableEq,Inhabited
structure cP where
 id:Int
 phase:Int
 af:List aI
deriving DecidableEq,Inhabited
abbrev cP.zero:cP:=⟨0,0,[]⟩
def cR(id a:Int)(x:aI):Bool:=decide (x.peer>a)&&!decide (x.peer=id)&&!decide (x.aP<0)&&!decide (x.aP>65535)&&!decide (x.state<0)&&!decide (x.state>3)&&!(x.cJ&&!x.fork)
def dU(id:Int):Int->List aI->Bool
 |_,[]=>true
 |last,x::r=>cR id last x&&dU id x.peer r
def eA(d:cP):Bool:=!decide (d.id<0)&&!decide (d.phase<0)&&!decide (d.phase>2)&&!decide (64<=d.af.length)&&dU d.id (-1) d.af
def jR(a b:Int)(x:aI):Bool:=decide (x.peer=a)&&decide (x.aP=b)
def setAt{a:Type}(p:a->Bool)(f:a->a):List a->List a
 |[]=>[]
 |x::r=>if p x then f x::r else x::setAt p f r
def jV(d:cP)(a:Int)(m:cU):cP×Int:=
 if eA d=false then(.zero,130)else match d.af.find? (jR a m.aP)with
 |none=>(.zero,131)
 |some x=>if m.kind=1/\m.num=0 then(if x.fork then(.zero,132)else(⟨d.id,d.phase,setAt (jR a m.aP) (fun x=>{x with fork:=true}) d.af⟩,0))
  else if m.kind=2/\m.num=0 then(if x.token then(.zero,132)else(⟨d.id,d.phase,setAt (jR a m.aP) (fun x=>{x with token:=true}) d.af⟩,0))
  else(.zero,133)
def fu(id:Int)(x:aI)(k:Int):cB:=⟨id,x.peer,⟨k,x.aP,0⟩⟩
def cI(id phase:Int)(x:aI):aI×List cB:=
 let a:=x.fork&&x.cJ&&x.token&&!decide (phase=2)
 let y:aI:=if a then{x with fork:=false,cJ:=false}else x
 let b:=decide (phase=1)&&y.token&&!y.fork
 (if b then{y with token:=false}else y,(if a then [fu id x 1]else [])++(if b then [fu id x 2]else []))
def fA(d:cP):cP×List cB×Int:=
 if eA d=false then(.zero,[],130)else
 let l:=d.af.map fun x=>(cI d.id d.phase x).1
 let out:=d.af.flatMap fun x=>(cI d.id d.phase x).2
 if d.phase=1/\(l.all fun x=>x.fork)=true then(⟨d.id,2,l.map fun x=>{x with cJ:=true}⟩,out,0)else(⟨d.id,d.phase,l⟩,out,0)
structure Dr where
 ai:cP
 aQ:Int
 need:List Int
deriving DecidableEq,Inhabited
abbrev Dr.zero:Dr:=⟨.zero,0,[]⟩
def cK(l:List aI)(p:Int):Bool:=l.any fun x=>decide (x.peer=p)
def dE(d:Dr):Bool:=eA d.ai&&!decide (d.aQ<0)&&!decide (d.aQ>2)&&ei d.need&&!(decide (d.aQ=0)&&!d.need.isEmpty)&&!(d.need.any fun p=>!cK d.ai.af p)
def lu(d:Dr):Dr×Int:=if dE d=false then(.zero,150)else if d.aQ=0 then(.zero,152)else(⟨d.ai,0,[]⟩,0)
def gW(d:Dr)(a:Int)(m:cU):Dr×Int:=
 if dE d=false then(.zero,150)else match d.ai.af.find? (jR a m.aP)with
 |some x=>if m.num=0/\m.kind=3 then(if x.dd then(.zero,132)else(⟨⟨d.ai.id,d.ai.phase,setAt (jR a m.aP) (fun x=>{x with dd:=true}) d.ai.af⟩,d.aQ,d.need⟩,0))
  else if m.num=0/\m.kind=4 then(if x.ask then(.zero,132)else(⟨⟨d.ai.id,d.ai.phase,setAt (jR a m.aP) (fun x=>{x with ask:=true}) d.ai.af⟩,d.aQ,d.need⟩,0))
  else(if(jV d.ai a m).2=0 then(⟨(jV d.ai a m).1,d.aQ,d.need⟩,0)else(.zero,(jV d.ai a m).2))
 |none=>(if(jV d.ai a m).2=0 then(⟨(jV d.ai a m).1,d.aQ,d.need⟩,0)else(.zero,(jV d.ai a m).2))
def bM(id c:Int)(need:List Int)(x:aI):aI×List cB:=
 let d:=decide (x.peer∈need)
 let keeps:=d&&(decide (c=2)||(decide (c=1)&&x.fork))
 let a:=x.dd&&x.ask&&!keeps
 let y:aI:=if a then{x with dd:=false}else x
 let b:=decide (c=1)&&d&&y.ask&&!y.dd
 (if b then{y with ask:=false}else y,(if a then [fu id x 3]else [])++(if b then [fu id x 4]else []))
def qX(d:Dr):Dr×List cB:=
 let l:=d.ai.af.map fun x=>(bM d.ai.id d.aQ d.need x).1
 let out:=d.ai.af.flatMap fun x=>(bM d.ai.id d.aQ d.need x).2
 (⟨⟨d.ai.id,d.ai.phase,l⟩,if d.aQ=1/\(l.all fun x=>!decide (x.peer∈d.need)||x.dd)=true then 2 else d.aQ,d.need⟩,out)
def gM(x:aI):Bool:=decide (x.state=1)
def eF(d:Dr):Int:=
 if d.aQ=1/\d.ai.phase=0 then 1 else if d.ai.phase=2/\d.aQ≠1/\(d.ai.af.any gM)=false then 0 else d.ai.phase
def cv(d:Dr):Dr×List cB:=
 let f:=fA ⟨d.ai.id,eF d,d.ai.af⟩
 let b:=qX ⟨f.1,d.aQ,d.need⟩
 (b.1,f.2.1++b.2)
def p5:Nat->Dr->List cB->Dr×List cB
 |0,d,out=>(d,out)
 |n+1,d,out=>if(cv d).1=d then((cv d).1,out++(cv d).2)else p5 n (cv d).1 (out++(cv d).2)
def cj(b:Bool):Nat:=if b then 1 else 0
def eh(x:aI):Nat:=cj x.fork+cj x.token+cj x.dd+cj x.ask
def bT{a:Type}(f:a->Nat):List a->Nat
 |[]=>0
 |x::r=>f x+bT f r
def nQ(a phase:Int):Nat:=if a=1 then 4+(2-phase.toNat)else if phase=1 then 2 else if phase=2 then 1 else 0
def rU(d:Dr):Nat:=bT eh d.ai.af+nQ d.aQ d.ai.phase
def kY(d:Dr):Dr×List cB×Int:=if dE d=false then(.zero,[],150)else((p5 (rU d+1) d []).1,(p5 (rU d+1) d []).2,0)
structure cu where
 peer:Int
 aP:Int
deriving DecidableEq,Inhabited
structure Nd where
 dr:Dr
 book:ci
 known:List cu
 told:List Int
 asked:List cu
deriving DecidableEq,Inhabited
abbrev Nd.zero:Nd:=⟨.zero,.zero,[],[],[]⟩
abbrev Nd.id(n:Nd):Int:=n.dr.ai.id
abbrev Nd.phase(n:Nd):Int:=n.dr.ai.phase
abbrev Nd.af(n:Nd):List aI:=n.dr.ai.af
def Nd.eK(n:Nd)(l:List aI):Nd:=⟨⟨⟨n.dr.ai.id,n.dr.ai.phase,l⟩,n.dr.aQ,n.dr.need⟩,n.book,n.known,n.told,n.asked⟩
structure Ev where
 kind:Int
 node:Int
 id:Int
 peer:Int
 need:List Int
deriving DecidableEq,Inhabited
def oC(x:aI):Bool:=decide (x.state=0)
def jY(n:Nd):List Int:=(n.af.filter oC).map (·.peer)
def vw(n:Nd):List Int:=(n.af.filter gM).map (·.peer)
def qk(n:Nd):List Int:=(n.af.filter fun x=>decide (x.state=3)).map (·.peer)
def gR:List cu->Int->Int
 |[],_=>0
 |k::r,p=>if k.peer=p then k.aP else gR r p
def jx(n:Nd)(k:cu):Bool:=!cK n.af k.peer&&!decide (k.peer<0)&&decide (k.peer<n.id)&&decide (k.aP>gR n.known k.peer)&&decide (k.aP<=65535)
def kP:List cu->List cu->Bool
 |_,[]=>true
 |ahead,k::r=>!(ahead.any fun x=>decide (x.peer=k.peer))&&kP (ahead++[k]) r
def nq:Int->List cu->Bool
 |_,[]=>true
 |last,k::r=>decide (k.peer>last)&&decide (k.peer<64)&&decide (k.aP>=1)&&decide (k.aP<=65535)&&nq k.peer r
def lO(n:Nd)(x:aI):Bool:=decide (x.peer>=64)||decide (x.aP<1)||!decide (gR n.known x.peer=x.aP)||((decide (x.state=1)||decide (x.state=3))&&decide (x.peer<n.id))
def rM(n:Nd):Bool:=decide (n.id<64)&&nq (-1) n.known&&!(n.af.any (lO n))&&ei n.told&&ld n.told (vw n)
def pj(n:Nd):Bool:=(!(n.asked.any fun k=>!jx n k)&&kP [] n.asked)&&rM n
def tL(n:Nd):Bool:=
 match n.book.aA with
 |[]=>!decide (n.dr.aQ=2)&&decide (n.dr.aQ=0)&&(ke n.dr.need (qk n)).isEmpty
 |s::_=>(decide (n.dr.aQ=2)==decide (s.state=1))&&(decide (n.dr.aQ=0)||decide (s.need=n.dr.need))&&(ke n.dr.need (qk n)).isEmpty&&!(n.book.aA.any fun s=>decide (s.state=0)&&!ld s.need (jY n))
def dv(n:Nd):Bool:=dE n.dr&&cM n.book&&pj n&&tL n
structure Wk where
 n:Nd
 out:List cB
 seen:List Ev
 e:Int
deriving DecidableEq,Inhabited
def Wk.put(w:Wk)(n:Nd):Wk:=⟨n,w.out,w.seen,w.e⟩
def Wk.send(w:Wk)(x:aI)(k:Int):Wk:=⟨w.n,w.out++[fu w.n.id x k],w.seen,w.e⟩
def Wk.dM(w:Wk)(k id:Int):Wk:=⟨w.n,w.out,w.seen++[⟨k,w.n.id,id,0,[]⟩],w.e⟩
def Wk.ek(w:Wk)(k a:Int):Wk:=⟨w.n,w.out,w.seen++[⟨k,w.n.id,0,a,[]⟩],w.e⟩
def Wk.need(w:Wk)(a:Bool)(e:Int):Wk:=if w.e=0/\a=false then⟨w.n,w.out,w.seen,e⟩else w
def Wk.di(w:Wk):Wk:=if(lu w.n.dr).2=0 then w.put {w.n with dr:=(lu w.n.dr).1}else w
def fV(a b:Int):List cu->List cu
 |[]=>[⟨a,b⟩]
 |k::r=>if k.peer=a then⟨a,b⟩::r else if k.peer>a then⟨a,b⟩::k::r else k::fV a b r
def fR(x:aI):List aI->List aI
 |[]=>[x]
 |y::r=>if y.peer>=x.peer then x::y::r else y::fR x r
def Wk.nW(w:Wk)(x:aI):Wk:=w.put ⟨⟨⟨w.n.id,w.n.phase,fR x w.n.af⟩,w.n.dr.aQ,w.n.dr.need⟩,w.n.book,fV x.peer x.aP w.n.known,w.n.told,w.n.asked⟩
def nP(p:Int)(l:List aI):List aI:=l.filter fun x=>!decide (x.peer=p)
def cQ(p:Int)(x:aI):Bool:=decide (x.peer=p)
def Wk.na(w:Wk)(k:Int)(a:List Int):Wk:=⟨w.n,w.out,w.seen++a.map fun id=>⟨k,w.n.id,id,0,[]⟩,w.e⟩
def Wk.shut(w:Wk)(a:Int):Wk:=
 let w1:=(w.put (w.n.eK (setAt (cQ a) (fun x=>{x with state:=2}) w.n.af))).ek 7 a
 let g:=iS w1.n.book a
 let w2:=match w1.n.book.aA with
  |[]=>w1
  |s::_=>if w1.n.dr.aQ=1/\s.id∈g.2.1 then w1.di else w1
 (w2.put {w2.n with book:=g.1}).na 5 g.2.1
def jo(id:Int):List aI->List Int->List cB->List Int×List cB
 |[],a,out=>(a,out)
 |x::r,a,out=>if gM x=true/\x.peer∉a then jo id r (gN a [x.peer]) (out++[fu id x 5])else jo id r a out
def Wk.tell(w:Wk):Wk:=
 let t:=jo w.n.id w.n.af w.n.told w.out
 ⟨{w.n with told:=t.1},t.2,w.seen,w.e⟩
def dC(id a:Int)(need:List Int)(x:aI):List aI×List cB:=
 if x.state≠2\/(a=2/\x.peer∈need)then([x],[])else if x.peer>id then([{x with state:=3}],[fu id x 7])else([],[fu id x 8])
def Wk.kR(w:Wk):Wk:=⟨w.n.eK (w.n.af.flatMap fun x=>(dC w.n.id w.n.dr.aQ w.n.dr.need x).1),w.out++w.n.af.flatMap fun x=>(dC w.n.id w.n.dr.aQ w.n.dr.need x).2,w.seen,w.e⟩
def Wk.iz(w:Wk)(k:cu):Wk:=((w.nW ⟨k.peer,k.aP,0,false,false,true,false,true⟩).send ⟨k.peer,k.aP,0,false,false,true,false,true⟩ 6).ek 6 k.peer
def Wk.answer(w:Wk):Wk:=
 let v:=w.n.asked.foldl Wk.iz w
 v.put {v.n with asked:=[]}
def waits(n:Nd):Option bY:=match n.book.aA with
 |[]=>none
 |s::_=>if s.state=0 then some s else none
def untold(n:Nd)(x:aI):Bool:=gM x&&!decide (x.peer∈n.told)
def Nd.dg(n:Nd)(d:Dr):Nd:=⟨d,n.book,n.known,n.told,n.asked⟩
def dB(w:Wk):Wk:=if w.n.phase≠2 then w.answer else w
def dq(w:Wk):Wk:=match waits w.n with
 |some s=>if w.n.dr.aQ=0 then w.put (w.n.dg ⟨w.n.dr.ai,1,s.need⟩)else w
 |none=>w
def dI(w:Wk):Wk:=if w.n.phase=0/\w.n.af.any (untold w.n)=true then w.put (w.n.dg ⟨⟨w.n.id,1,w.n.af⟩,w.n.dr.aQ,w.n.dr.need⟩)else w
def fI(w:Wk):Wk:=⟨w.n.dg (kY w.n.dr).1,w.out++(kY w.n.dr).2.1,w.seen,w.e⟩
def fe(w:Wk):Wk:=match waits w.n with
 |some s=>if w.n.dr.aQ=2 then(w.put {w.n with book:=(kB w.n.book).1}).dM 1 s.id else w
 |none=>w
def iX(w:Wk):Wk:=if w.n.phase=2 then w.tell else w
def Wk.iv(w:Wk):Wk:=(iX (fe (fI (dI (dq (dB w)))))).kR
abbrev KT:=List (List Nat)
def Kw:=[[3,4,6],[19],[6],[7],[8],[25],[8],[],[10],[6]]
def VY:=[[0],[1],[2],[3,4,5],[0]]
def De:=[[2,4],[5],[13],[5],[23],[4],[4]]
def Kq:=[[4,5,8,9,10],[11,12],[33],[8,9,10],[13],[14],[39],[14],[15],[],[59],[8,9,10],[16,17],[71],[17],[18,19],[13],[20],[111],[8,9,10],[8,9,10]]
def Kt:=[[11],[12],[16],[12],[34],[11],[40],[54],[11],[],[11]]
def DC:=[[2,3,4,5],[6,7],[14],[4,5],[4,5]]
def Jk:=[[1,2]]
def Dh:=[[5,6,7],[27],[6,7],[8,9,10,11],[43],[],[6,7],[],[6,7]]
def Dm:=[[1,2],[18],[2],[3],[23],[3],[4],[62],[2],[2]]
def Jz:=[[5,6],[7,8],[10],[6]]
def Ee:=[[6],[11],[6],[6]]
def JO:=[[6],[7],[8],[12],[8],[7],[6]]
def El:=[[3,4,5],[9],[10],[4,5],[20],[4,5],[28],[6,7],[4,5],[41],[4,5],[53],[4,5],[63],[4,5],[4,5]]
def CV:=[[8],[9],[16],[9],[10],[28],[10],[11],[1],[8]]
def Ei:=[[11],[],[11]]
def HZ:=[[1,2,3],[4,5],[17],[3],[6],[21,22,23],[24],[8],[9,10],[33],[3],[],[23],[3]]
def Dn:=[[4],[4]]
def Kr:=[[2,3,4,5,6,7],[8],[9],[10],[26],[],[29],[29],[29],[29],[38],[],[42],[],[],[65],[],[73],[],[107],[],[5,6,7]]
def HL:=[[13,14,15],[16],[5],[6],[32],[7,8],[9],[10],[53],[],[],[15]]
def Ju:=[[4],[],[19,20,21],[22],[7],[30],[8],[],[21]]
def Br:=[[2,3,4],[4]]
def IH:=[[4,5],[14],[4,5],[],[6],[20,21,22],[23],[8],[9,10],[6],[22],[4,5]]
def JE:=[[8,9],[11],[25],[8,9],[12,13],[],[14,15],[43],[8,9],[8,9]]
def Gz:=[[2],[4],[2],[2]]
def Dp:=[[2],[4],[2],[2]]
def JI:=[[2],[4],[2],[2]]
def JU:=[[2],[4],[2],[2]]
def IR:=[[2],[4],[2],[2]]
def Bf:=[[8,9],[16],[8,9],[10,11],[8,9]]
def IP:=[[2,3],[4,5],[6],[14],[3],[3]]
def JN:=[[3,4],[5],[9],[5],[17],[4],[4]]
def Bg:=[[6],[6]]
def Cw:=[[2],[4],[2],[2]]
def Gj:=[[6],[7],[17],[],[6]]
def B4:=[[6],[7],[11],[7],[9],[23],[6],[6]]
def FI:=[[1,2]]
def Ha:=[[4,5],[13],[4,5],[16,17,18],[19],[7],[8,9],[],[18],[4,5]]
def FQ:=[[8],[15],[8],[9,10],[8]]
def GF:=[[8],[15],[8],[9,10],[8]]
def Ib:=[[10],[17],[10],[11,12],[10]]
def KE:=[[1,2,3],[4,5],[15],[3],[6],[19,20,21],[22],[8],[],[21],[3]]
def HU:=[[1,2,3],[4],[11,12,13],[14],[6],[],[13],[30],[3],[3]]
def EI:=[[1,2],[],[],[],[39,40],[41],[3],[],[40]]
def BH:=[[1,2],[22],[2],[2]]
def Ed:=[[3,4],[4]]
def Ii:=[[2,4],[8,9,10],[11],[6],[17],[4],[10],[4]]
def Bl:=[[3],[12],[13],[4,5],[44],[],[],[72],[85],[],[],[92],[6],[113],[],[131],[],[134],[8,9,10],[155]]
def Ij:=[[6],[15],[],[6]]
def DT:=[[3],[4]]
def Cx:=[[1,2],[2]]
def HM:=[[],[],[4,5],[7,8],[60],[],[],[68,69,70],[71],[10],[],[70]]
def C6:=[[2,3,4,5],[11],[3,4,5],[6],[],[29],[3,4,5]]
def CQ:=[[4],[5],[11,12],[13],[6],[17],[5],[12],[4]]
def D6:=[[6,7],[8],[22],[],[53],[6,7],[6,7]]
def JQ:=[[3,4],[5],[4]]
def FV:=[[1,2,3],[7],[2,3],[4],[2,3]]
def Gy:=[[6],[10],[6],[6]]
def Jf:=[[4],[7,8],[9],[5],[16],[4],[8],[4]]
def I4:=[[4],[13],[4],[5],[20,21,22],[23],[7],[8,9],[43],[5],[22],[4]]
def DR:=[[6,7],[16],[6,7],[8,9],[30],[6,7],[10,11],[37],[6,7],[12,9],[49],[],[6,7]]
def GO:=[[8,9],[10],[25],[],[],[11,12],[49],[8,9],[13,14,15,12],[66],[8,9],[],[8,9]]
def BZ:=[[6,7],[11],[6,7],[6,7]]
def EZ:=[[2,3],[4],[12],[3],[22],[3],[31],[3],[40],[3],[5,6],[57],[3],[7],[80],[3],[3]]
def afK:=[[4],[9],[4],[11],[],[5],[6],[23],[],[7],[35],[],[4]]
def EH:=[[6]]
def CK:=[[2],[4],[2],[2]]
def DL:=[[6],[12],[6],[8],[6]]
def BK:=[[6],[6]]
def ID:=[[8],[8]]
def Dv:=[[1,2,3],[4,6],[15],[3],[7,6],[3]]
def E0:=[[1,2],[3],[5],[5],[5],[2],[16],[16],[16],[2],[2]]
def J3:=[[1,2],[15],[2],[3],[17,18,19],[20],[5,4],[6],[31],[31],[31],[31],[31],[2],[51],[2],[3],[19],[2]]
def F3:=[[1,2],[3],[4],[5],[17],[2],[2]]
def CC:=[[1,2],[3,4],[5],[42],[2],[6],[2]]
def A7:=[[4],[7,8],[9],[5],[16],[4],[8],[4]]
def Kv:=[[2,3],[3]]
def Bd:=[[3,6,7],[8],[9],[14],[17],[9],[22],[9],[25],[9],[31],[7],[],[],[],[7]]
def Bc:=[[4],[4]]
def BX:=[[1,2],[2]]
def Ef:=[[2],[3],[],[2]]
def IN:=[[4,6],[11],[],[6]]
def D3:=[[2,4,5],[5]]
def JS:KT:=[]
def EC:=[[2,3],[14]]
def Iz:=[[1,2,3],[8],[3],[3]]
def GY:=[[2,4,5],[5]]
def Kf:=[[2,4,5,6],[7],[13],[5,6],[],[29],[5,6],[8],[],[53],[5,6],[9],[],[5,6]]
def GC:=[[6,7],[8],[9,10],[17],[11],[31],[9],[10],[6,7]]
def Ig:=[[2,4],[4]]
def EM:=[[6],[],[7],[16],[6],[8],[22],[6],[31],[9],[],[],[6],[0],[68],[],[],[6],[],[],[6]]
def B3:=[[6,7],[19]]
def DP:KT:=[]
def Hm:=[[2,3,4,5,6],[7],[12],[5,6],[8],[],[],[5,6]]
def AV:=[[4],[4]]
def HS:=[[1],[15],[],[2,3],[40],[],[4],[73],[],[5,6],[],[],[118],[],[],[144]]
def Jm:=[[2,3,4],[4]]
def FJ:=[[12],[13],[19],[20],[14],[],[19],[12]]
def AZ:=[[1,2],[20],[2],[23],[24],[2],[26],[2],[2]]
def E6:=[[2],[3],[4],[5],[7],[7],[7],[7],[7],[7],[7],[7],[3],[3],[2]]
def Ie:=[[4],[4]]
def Co:=[[4],[5],[4],[9],[4],[],[4]]
def Ky:=[[1,2],[3],[4],[20],[],[],[],[70],[],[],[2]]
def EV:=[[1,2,3],[7],[2,3],[4],[4],[4],[4],[2,3]]
def En:=[[8],[9],[8]]
def AU:=[[8,9],[10],[16],[8,9],[8,9]]
def FR:=[[3,4,5],[18],[4,5],[6],[36],[],[43],[4,5],[],[53],[4,5],[],[4,5]]
def A9:=[[2,3],[15],[3],[4],[31],[],[3]]
def BE:=[[3,5,6,7,8,9],[10],[],[11],[12],[30],[],[33],[33],[33],[33],[62],[],[67],[13],[86],[],[99],[110],[],[],[],[135],[148],[],[152],[157],[],[],[7,8,9]]
def Cy:=[[4],[4]]
def C2:=[[8,9],[10],[16],[8,9],[8,9]]
def HT:=[[6],[7],[16,17,18],[19],[9],[7],[18],[6]]
def Jn:=[[2,3],[4],[20],[2,3],[2,3]]
def AR:=[[1,2],[4],[5],[5],[2],[2]]
def agI:KT:=[]
def Ue:KT:=[]
def Un:KT:=[]
def Xk:=[[6,8],[19],[],[8],[9,10],[35],[8],[36],[],[8],[38,39],[11],[0],[43],[8],[45,46],[12],[48,49,50],[51],[14],[55],[60],[8],[50],[8]]
def JV:=[[6],[],[22]]
def CT:=[[8],[9,10],[8]]
def JH:=[[10],[11,12],[32],[10],[13],[14],[],[15],[16],[],[65,66],[67],[],[66],[71,72,73],[74],[18],[],[73],[10]]
def J2:=[[1,2,3,4],[5],[11],[2,3,4],[6,7],[17],[6],[7],[2,3,4]]
def Es:=[[2,4,5],[6],[16],[4,5],[21],[4,5],[7],[23,24],[25],[8],[9],[31,32,33],[34],[11],[12],[],[33],[7],[24],[4,5]]
def BQ:=[[2,3],[3]]
def C0:=[[4],[4]]
def Bh:=[[2,3],[3]]
def KA:=[[1,2],[3],[4],[30],[2],[2]]
def Dt:=[[2],[5,6],[7],[3],[22],[2],[6],[2]]
def Kb:=[[2],[2]]
def Jv:=[[2,3],[4],[3]]
def HD:=[[2,3],[4],[],[3]]
def B7:=[[4],[4]]
def IT:=[[2,3],[3]]
def Fx:=[[2,3,4],[5],[4]]
def Gm:=[[2],[5,6,7],[8],[4,3],[16],[2],[7],[2]]
def Ct:=[[3,6],[6]]
def FZ:=[[4],[10],[4],[12,13],[14],[5],[24],[4],[13],[4]]
def Is:=[[1,2],[2]]
def A3:=[[3,4],[4]]
def J6:=[[2,4],[5],[11,12,13],[14],[7],[19],[5],[13],[4]]
def Eb:=[[4],[4]]
def IB:=[[2,3],[3]]
def CX:=[[1,2],[],[10,11],[12],[3],[],[11]]
def II:=[[3,4],[4]]
def adq:=[[2]]
def IC:=[[2],[8],[2],[3],[13],[3],[25],[4],[5],[32],[5],[44],[],[3],[],[2],[2]]
def D4:=[[3,6,7],[8,9],[22],[9],[24],[7],[],[],[7]]
def DF:=[[1,2,3],[4],[8],[3],[13],[3],[],[],[3]]
def Iy:=[[6],[],[16],[6],[7],[0],[],[6]]
def ab2:KT:=[]
def Ti:KT:=[]
def Gd:=[[6,7],[8],[9,10],[17],[11],[31],[9],[10],[6,7]]
def DY:=[[2,4],[4]]
def Eh:=[[6],[],[7],[16],[6],[8],[22],[6],[31],[9],[],[],[6],[0],[68],[],[],[6],[],[],[6]]
def D7:=[[4],[5],[12],[4],[6],[19],[6],[7],[29],[],[5],[],[4]]
def CD:=[[3,4],[5],[15],[],[4]]
def AY:=[[4],[4]]
def E1:=[[4],[7,8],[9],[5],[16],[4],[8],[4]]
def ET:=[[9,10,11],[12],[3],[4],[],[],[],[11]]
def Be:=[[2,3],[3]]
def Jo:=[[1,2],[2]]
def HC:=[[1,2,3,4],[5],[11],[3,4],[6],[7],[],[30],[3,4]]
def B5:=[[1,2,3,4],[5],[9],[3,4],[23],[3,4],[],[],[3,4]]
def Jh:=[[10,11,12],[13],[3],[28],[],[],[12]]
def Ke:=[[10,11,12],[13],[3,2],[39],[49],[],[],[],[],[12]]
def Jb:=[[2,3,4],[4]]
def FF:=[[2,3,4],[4]]
def C8:=[[4],[10],[4],[12,13],[14],[5],[24],[4],[13],[4]]
def GU:=[[4],[4]]
def Fv:=[[10],[10]]
def Bt:KT:=[]
def HJ:=[[6],[7],[11],[7],[0],[6]]
def FK:=[[2],[2]]
def GX:=[[2],[2]]
def Dk:=[[6],[7],[39],[6],[46],[],[6]]
def Ix:=[[4],[7],[4],[],[],[4]]
def HR:=[[4,5],[6,7],[16],[4,5],[8],[25],[8],[],[],[4,5]]
def GV:KT:=[]
def BM:=[[5],[5]]
def Fa:=[[5],[6,7],[22]]
def Fe:=[[4],[4]]
def JJ:=[[3]]
def I6:=[[4],[7,8],[9],[5],[16],[4],[8],[4]]
def HW:=[[4,5],[6],[16],[4,5],[4,5]]
def afS:KT:=[]
def acu:KT:=[]
def VW:KT:=[]
def BA:=[[2],[3],[8,9],[10],[4],[3],[9],[2]]
def CF:=[[2,3],[4,5],[11],[],[],[2,3]]
def Gv:=[[1,2],[3],[25],[2],[28,29],[30],[4],[48],[2],[29],[2]]
def Fw:=[[2,3,4,5],[6],[13],[4,5],[23],[4,5],[7],[27,28],[29],[8],[9],[43],[],[49],[],[28],[4,5]]
def C9:=[[2,3,4],[18],[4],[4]]
def Jw:=[[2,4],[10],[4],[5],[12,13,14],[15],[7],[18],[19],[5],[28],[5],[14],[4]]
def D0:=[[3,4],[5],[],[4]]
def Jy:=[[2],[2]]
def DO:=[[4],[7,8],[9],[5],[16],[4],[8],[4]]
def Dz:=[[2,3],[3]]
def Jp:=[[2,3],[3]]
def EO:=[[3,4],[4]]
def Km:=[[3],[3]]
def FA:=[[4],[7,8],[9],[5],[16],[4],[8],[4]]
def Ho:=[[3],[3]]
def acZ:=[[8],[9],[10],[23],[],[29],[],[35],[],[3],[11,12],[50],[],[11],[12],[68],[72],[87],[13],[1],[14,15],[9],[16,17],[18],[113],[8],[],[1],[8],[],[2]]
def acK:=[[2],[2],[2]]
def IX:=[[2,4,5],[6],[11],[4,5],[7],[17],[4,5],[4,5]]
def IA:=[[2,3,4],[4]]
def I5:=[[1,2]]
def agH:KT:=[]
def Yv:KT:=[]
def Xx:KT:=[]
def Jt:=[[4]]
def FO:=[[2],[6],[],[27],[],[3,4]]
def Cu:=[[4],[4]]
def FD:=[[2,3,4],[4]]
def Ks:=[[6],[14],[6],[15,16,17],[18],[8,7],[9],[30],[6],[17],[6]]
def FC:=[[2,3,4],[4]]
def BG:=[[6],[6]]
def Hc:=[[4],[5],[10,11],[12],[6],[5],[5],[5],[11],[4]]
def Ki:=[[2],[2]]
def JZ:=[[2],[2]]
def D5:=[[4],[4]]
def GR:=[[3,4,5,6,7],[8],[16],[7],[],[9],[42],[10,11],[52],[7],[],[7],[12],[66],[12],[75],[7],[],[7]]
def GQ:=[[4],[5],[12],[4],[6],[19],[6],[7],[29],[],[5],[],[4]]
def E3:=[[2,3],[3]]
def Ep:=[[2,3],[3]]
def EW:=[[4],[4]]
def Cr:=[[2,3,4],[4]]
def CL:=[[2],[2]]
def AS:=[[4],[4]]
def KG:=[[5],[5]]
def If:=[[2],[2]]
def Ew:=[[2,3],[3]]
def Fb:=[[4],[5],[12],[4],[6],[19],[6],[7],[29],[],[5],[],[4]]
def Fq:=[[3],[3]]
def WY:=[[6],[12],[6],[7],[30],[7]]
def aaq:=[[6],[7],[8],[9],[19],[9],[],[10],[30],[10]]
def acR:=[[6],[15],[7],[8],[9],[33],[9],[10],[43],[10]]
def VN:=[[6,7],[8],[9],[10],[11],[12],[32],[34],[10],[11],[12],[11],[49],[6,7],[51],[6,7],[54],[6,7]]
def XW:=[[6],[7],[13],[],[6],[7]]
def adG:=[[6],[7],[8],[14],[8],[32],[7],[37],[6],[41],[6],[],[61],[9],[65],[9],[78],[],[98],[10],[103],[10],[116],[],[6]]
def TL:=[[4],[4]]
def aai:=[[8],[],[9,10],[43],[9],[59],[10],[64],[],[9],[10],[8]]
def aer:=[[8,9],[],[10,11],[43],[10],[60],[11],[65],[],[8,9],[],[10],[11],[112],[10],[129],[11],[134],[],[10],[11],[],[8,9]]
def aaV:=[[2],[4],[0],[2],[8],[0],[2],[2]]
def VD:=[[2],[4],[0],[2],[8],[0],[2],[14],[0],[2],[2]]
def E2:=[[2,3],[3]]
def TB:=[[2,3],[9],[2,3]]
def aeG:KT:=[]
def Ji:=[[1,2],[2]]
def GM:=[[1,2,3,4],[5],[15],[3,4],[],[6],[7],[24,25],[26],[8],[9],[10],[53],[],[],[77],[],[],[7],[25],[96],[],[100,101],[102],[11],[],[101],[3,4]]
def KD:=[[2],[13,14],[15],[3],[4],[5],[6],[71],[],[],[101],[],[],[2],[14],[130]]
def HE:=[[4],[4]]
def DH:=[[4],[10],[4],[12,13],[14],[5],[24],[4],[13],[4]]
def Hw:=[[3,4],[4]]
def C5:=[[3,4,5,6,7],[8],[15],[7],[9],[23],[7],[],[10],[11],[7],[34],[11],[50],[11],[66],[7],[7]]
def HQ:=[[4],[7,8],[9],[5],[16],[4],[8],[4]]
def Bx:=[[2],[3],[6,7,8],[9],[5],[14],[2],[8],[2]]
def Cd:=[[4],[5],[6],[11],[12],[4],[4],[13],[4],[16],[4],[19],[4],[4]]
def ahe:=[[8],[9],[16],[36],[9],[52],[],[8]]
def ag7:=[[2],[2]]
def aad:=[[2],[],[],[],[2]]
def YZ:=[[6],[6]]
def Uf:=[[10],[1,2],[2,3],[1,2],[10]]
def HY:=[[2],[2]]
def VE:=[[2,3],[9],[2,3]]
def Gw:KT:=[]
def Gh:=[[4]]
def Hl:=[[2],[3],[9,10,11],[12],[5],[3],[20],[],[11],[6],[25,26,27],[28],[8],[6],[27],[2]]
def FP:=[[3,4],[4]]
def abS:=[[8,9],[18],[],[8,9],[8,9]]
def IM:=[[4],[6],[],[1],[16],[0],[4]]
def cC:RI:=⟨[],none,[],[]⟩
def Tn:List (Nat×KT):=[(3,Kw),(7,VY),(8,De),(9,Kq),(10,Kt),(16,DC),(17,Jk),(18,Dh),(26,Dm),(27,Jz),(28,Ee),(29,JO),(30,El),(31,CV),(32,Ei),(33,HZ),(34,Dn),(35,Kr),(36,HL),(37,Ju),(40,Br),(41,IH),(42,JE),(43,Gz),(44,Dp),(45,JI),(46,JU),(47,IR),(53,Bf),(54,IP),(55,JN),(56,Bg),(57,Cw),(58,Gj),(59,B4),(60,FI),(61,Ha),(62,FQ),(63,GF),(64,Ib),(65,KE),(66,HU),(67,EI),(68,BH),(69,Ed),(70,Ii),(71,Bl),(72,Ij),(73,DT),(74,Cx),(75,HM),(76,C6),(77,CQ),(78,D6),(79,JQ),(80,FV),(81,Gy),(82,Jf),(83,I4),(84,DR),(85,GO),(96,BZ),(97,EZ),(98,afK),(99,EH),(100,CK),(101,DL),(102,BK),(103,ID),(104,Dv),(105,E0),(106,J3),(107,F3),(108,CC),(109,A7),(110,Kv),(111,Bd),(112,Bc),(113,BX),(114,Ef),(115,IN),(116,D3),(117,JS),(118,EC),(119,Iz),(120,GY),(121,Kf),(122,GC),(123,Ig),(124,EM),(125,B3),(126,DP),(127,Hm),(128,AV),(129,HS),(130,Jm),(131,FJ),(132,AZ),(133,E6),(134,Ie),(135,Co),(136,Ky),(137,EV),(138,En),(139,AU),(140,FR),(141,A9),(142,BE),(152,Cy),(157,C2),(158,HT),(159,Jn),(160,AR),(161,agI),(162,Ue),(163,Un),(164,Xk),(165,JV),(166,CT),(167,JH),(168,J2),(169,Es),(170,BQ),(171,C0),(172,Bh),(173,KA),(174,Dt),(175,Kb),(176,Jv),(177,HD),(178,B7),(179,IT),(180,Fx),(181,Gm),(182,Ct),(183,FZ),(184,Is),(185,A3),(186,J6),(187,Eb),(188,IB),(189,CX),(190,II),(191,adq),(192,IC),(193,D4),(194,DF),(195,Iy),(196,ab2),(197,Ti),(198,Gd),(199,DY),(200,Eh),(201,D7),(202,CD),(203,AY),(204,E1),(205,ET),(206,Be),(207,Jo),(208,HC),(209,B5),(210,Jh),(211,Ke),(212,Jb),(213,FF),(214,C8),(215,GU),(216,Fv),(217,Bt),(218,HJ),(219,FK),(220,GX),(221,Dk),(222,Ix),(223,HR),(224,GV),(225,BM),(226,Fa),(227,Fe),(228,JJ),(235,I6),(239,HW),(240,afS),(241,acu),(242,VW),(243,BA),(244,CF),(245,Gv),(246,Fw),(247,C9),(248,Jw),(249,D0),(250,Jy),(251,DO),(252,Dz),(253,Jp),(254,EO),(255,Km),(256,FA),(257,Ho),(258,acZ),(259,acK),(260,IX),(261,IA),(262,I5),(263,agH),(264,Yv),(265,Xx),(266,Jt),(267,FO),(268,Cu),(269,FD),(270,Ks),(271,FC),(272,BG),(273,Hc),(274,Ki),(275,JZ),(276,D5),(277,GR),(278,GQ),(279,E3),(291,Ep),(292,EW),(293,Cr),(294,CL),(295,AS),(296,KG),(297,If),(298,Ew),(299,Fb),(300,Fq),(301,WY),(302,aaq),(303,acR),(304,VN),(305,XW),(306,adG),(307,TL),(308,aai),(309,aer),(310,aaV),(311,VD),(312,E2),(313,TB),(314,aeG),(315,Ji),(316,GM),(317,KD),(318,HE),(319,DH),(320,Hw),(321,C5),(332,HQ),(333,Bx),(334,Cd),(335,ahe),(336,ag7),(337,aad),(338,YZ),(339,Uf),(340,HY),(341,VE),(342,Gw),(343,Gh),(344,Hl),(345,FP),(354,abS),(355,IM)]
def UB:RI:=⟨[0,2,1,3,4,5,6,7,8],none,[],[1]⟩
def Tq:RI:=⟨[],some 12,[],[8]⟩
def acy:RI:=⟨[0,1,2,3,5,6,4,7,8,9,10,11,12,13,14,15,16,17,18,19],none,[],[4]⟩
def C7:RI:=⟨[0,2,1,3,4,5,6,7,8],none,[],[1]⟩
def CZ:RI:=⟨[0,1,3,4,2,5,6,7],none,[(0,5),(1,5)],[]⟩
def Ku:RI:=⟨[],some 14,[],[8]⟩
def aax:RI:=⟨[0,1,2,3,4,5,6,7,9,10,11,12,13,8,14,15,16,17,18,19,20,21,22,23],none,[],[8]⟩
def Z7:RI:=⟨[0,1,2,3,4,5,6,8,9,10,11,13,14,15,16,7,12,17,18,19,20,21,22,23,24,25,26],none,[],[7,12]⟩
def acQ:RI:=⟨[],none,[],[15]⟩
def Cj:RI:=⟨[],none,[],[4]⟩
def Ex:RI:=⟨[0,2,1,3,4,5,6],none,[],[1]⟩
def B2:RI:=⟨[],none,[(1,2)],[]⟩
def DN:RI:=⟨[0,1,2,3,4,5,6,7,8,9,10,11,13,14,15,12,16,17,18],none,[(0,16),(1,16),(2,16),(3,16),(4,16),(5,16),(6,16),(7,16),(8,16),(9,16),(10,16),(11,16)],[]⟩
def BN:RI:=⟨[0,1,2,3,5,6,7,4,9,10,11,8,12,13,14,15],none,[],[4,8]⟩
def B0:RI:=⟨[0,1,3,4,6,7,2,9,5,8,10,11,12,13,14],none,[],[2,5,8]⟩
def CB:RI:=⟨[],none,[],[11]⟩
def EN:RI:=⟨[],some 13,[],[9]⟩
def Ff:RI:=⟨[],none,[],[13]⟩
def Fu:RI:=⟨[],none,[],[16]⟩
def Bq:RI:=⟨[],some 12,[],[7]⟩
def Dl:RI:=⟨[],none,[],[9]⟩
def Ej:RI:=⟨[],none,[(2,5),(3,5),(4,5)],[]⟩
def FL:RI:=⟨[],none,[(5,12),(6,12),(7,12),(9,12),(10,12),(11,12)],[]⟩
def Jc:RI:=⟨[],none,[],[25]⟩
def Bo:RI:=⟨[0,1,2,3,4,5,6,7,8,11,12,9,10,13,14],none,[(11,10),(12,10)],[]⟩
def Dq:RI:=⟨[],some 15,[],[9]⟩
def Bv:RI:=⟨[0,1,2,3,6,8,10,11,4,5,7,9,12,13,14],some 13,[],[4,7,9]⟩
def F0:RI:=⟨[],none,[],[5]⟩
def F8:RI:=⟨[],none,[(1,2)],[]⟩
def Ih:RI:=⟨[],none,[(1,9)],[4]⟩
def Ck:RI:=⟨[],none,[(0,6)],[]⟩
def C3:RI:=⟨[],none,[],[6]⟩
def Kz:RI:=⟨[0,1,2,3,4,5,6,8,9,7,10,11],none,[],[7]⟩
def JC:RI:=⟨[0,1,2,4,5,3,6,7],none,[(4,3),(5,3)],[]⟩
def Db:RI:=⟨[0,1,2,3,4,6,7,5,8,9],none,[(6,5),(7,5)],[]⟩
def Hp:RI:=⟨[],none,[],[4,5]⟩
def Js:RI:=⟨[0,2,1,3,4,5,6,7],some 6,[],[1,3]⟩
def Et:RI:=⟨[0,1,2,3,4,5,6,8,7,9,10,11,12,13],some 9,[(0,10)],[3,7,11]⟩
def BY:RI:=⟨[],none,[(0,8)],[]⟩
def Fs:RI:=⟨[],none,[],[2,7]⟩
def Gi:RI:=⟨[],none,[],[7]⟩
def FU:RI:=⟨[],none,[],[2]⟩
def IV:RI:=⟨[],none,[],[2]⟩
def T1:RI:=⟨[],none,[(1,3),(2,3)],[]⟩
def UT:RI:=⟨[0,1,2,3,4,5,6,7,8,9,10,11,13,12,14,15],none,[],[]⟩
def FE:RI:=⟨[],none,[],[9,10]⟩
def A0:RI:=⟨[0,1,2,3,4,5,6,7,8,9,10,11,13,14,12,15,16,17,18,19,20,21,22,23,24,25,26,27,28,29],none,[],[12]⟩
def DI:RI:=⟨[],none,[],[22]⟩
def HH:RI:=⟨[],none,[],[30]⟩
def Dy:RI:=⟨[],none,[],[7]⟩
def He:RI:=⟨[],none,[],[9]⟩
def Kl:RI:=⟨[0,1,2,3,5,6,4,7,8,9,10,11],none,[],[4,7]⟩
def FN:RI:=⟨[],none,[(5,8),(6,8),(7,8)],[]⟩
def KH:RI:=⟨[],none,[(1,6),(2,6),(3,6),(4,6),(5,6)],[]⟩
def FX:RI:=⟨[],none,[],[9]⟩
def GW:RI:=⟨[0,1,2,3,4,5,6,7,8,10,9,11,12],none,[],[9]⟩
def IY:RI:=⟨[0,1,2,3,4,5,7,8,9,10,11,12,13,6,14,15,16,17,18],none,[],[6,14]⟩
def HF:RI:=⟨[],some 11,[],[7]⟩
def A8:RI:=⟨[],none,[],[6]⟩
def JM:RI:=⟨[],none,[],[7]⟩
def CO:RI:=⟨[0,1,2,4,5,3,7,8,6,9,10,11],none,[],[3,6]⟩
def agG:RI:=⟨[],none,[(5,12)],[]⟩
def T6:RI:=⟨[],none,[(5,12)],[]⟩
def acT:RI:=⟨[],none,[(5,12)],[]⟩
def TP:RI:=⟨[],none,[(5,12)],[]⟩
def VJ:RI:=⟨[],none,[(5,12)],[]⟩
def aaN:RI:=⟨[],none,[(5,12)],[]⟩
def Ww:RI:=⟨[],none,[(5,12)],[]⟩
def aeE:RI:=⟨[0,1,2,3,4,5,6,7,9,10,11,12,13,8,14,15],none,[],[8]⟩
def F1:RI:=⟨[0,1,2,3,5,6,7,8,4,9,10,11,12],none,[],[4]⟩
def WG:RI:=⟨[],none,[(4,15)],[]⟩
def agN:RI:=⟨[],none,[(5,17)],[]⟩
def Ug:RI:=⟨[],none,[(5,17)],[]⟩
def UF:RI:=⟨[],none,[(4,15)],[]⟩
def Tb:RI:=⟨[],none,[(4,15)],[]⟩
def acj:RI:=⟨[],none,[(4,15)],[]⟩
def Jq:RI:=⟨[],none,[(1,4)],[]⟩
def Dd:RI:=⟨[],none,[(1,2)],[]⟩
def Xm:RI:=⟨[],none,[(7,21)],[]⟩
def Zn:RI:=⟨[0,1,3,2,4,5,6],none,[],[2]⟩
def Yw:RI:=⟨[0,1,3,2,4,5,6],none,[],[2]⟩
def riT:List (Nat×List (Nat×RI)):=[(6,[(3,UB),(13,Tq),(24,acy)]),(9,[(1,C7)]),(17,[(1,CZ)]),(18,[(3,Ku)]),(21,[(6,aax),(7,Z7),(12,acQ)]),(30,[(3,Cj)]),(35,[(1,Ex)]),(54,[(4,B2)]),(60,[(1,DN)]),(67,[(1,BN),(2,B0),(7,CB)]),(71,[(3,EN),(4,Ff),(6,Fu),(18,Bq)]),(75,[(0,Dl)]),(76,[(2,Ej),(6,FL)]),(78,[(3,Jc)]),(84,[(11,Bo)]),(85,[(8,Dq)]),(97,[(13,Bv)]),(108,[(6,F0)]),(127,[(7,F8)]),(129,[(5,Ih),(11,Ck),(13,C3)]),(131,[(5,Kz)]),(137,[(5,JC),(6,Db),(7,Hp)]),(142,[(1,Js),(15,Et),(16,BY),(18,Fs),(20,Gi),(23,FU),(26,IV)]),(147,[(2,T1)]),(151,[(7,UT)]),(159,[(2,FE)]),(176,[(2,A0)]),(180,[(2,DI)]),(182,[(1,HH)]),(188,[(1,Dy)]),(189,[(5,He)]),(193,[(7,Kl)]),(208,[(8,FN)]),(209,[(8,KH)]),(221,[(5,FX)]),(222,[(3,GW)]),(223,[(7,IY)]),(226,[(1,HF)]),(239,[(4,A8)]),(243,[(5,JM)]),(262,[(1,CO)]),(288,[(7,agG),(8,T6),(9,acT),(10,TP),(17,VJ),(18,aaN),(23,Ww)]),(290,[(0,aeE)]),(293,[(1,F1)]),(301,[(6,WG)]),(302,[(10,agN)]),(303,[(10,Ug)]),(306,[(11,UF),(17,Tb),(23,acj)]),(316,[(13,Jq),(27,Dd)]),(335,[(6,Xm)]),(347,[(1,Zn)]),(348,[(1,Yw)])]
end Go.Nx
namespace Go.Nx
open Go Go.Proofs Tryz
def assoc{a:Type}:List (Nat×a)->Nat->Option a
 |[],_=>none
 |(k,v)::r,n=>if ajt n k then some v else assoc r n
def bn(f id:Nat):RI:=((assoc riT f).bind fun l=>assoc l id).getD ⟨[],none,[],[]⟩
def xE(C:bu)(f:Nat):Bool:=
 match C.P.funcs[f]? with
 |some a=>match a.body with
  |some c=>codeOk C f (a.params.size+a.nfree) a.ntmps c&&enters C.P f
  |none=>false
 |none=>false
end Go.Nx
namespace Go.Nx
def aC(n:Int):List ab:=[I n]
def rowsOf:ab->Option (List (List ab))
 | .aj rows=>some rows
 | .eX rows=>some rows
 | .v (.slice none 0 0)=>some []
 |_=>none
def fO(z:Nat)(a:List au)(H:List Ob):Option (au×List Ob):=
 match a,H with
 |[.c l],[]=>match rowsOf l with
  |some rows=>if(rows.all fun r=>ajt r.length z)&&bA rows&&ak1 rows.length 1000000 then some (.c (.sl 0 0 0 rows.length),[.live 0 z rows])else none
  |none=>none
 |_,_=>none
def oV:List (List ab)->Option (List Int)
 |[]=>some []
 |[.v (.int .i64 n)]::r=>match oV r with
  |some l=>some (n::l)
  |none=>none
 |_=>none
def Di(H:List Ob)(l:ab):Option (au×List Ob):=
 match l with
 | .v (.slice none 0 0)=>some (.aM [],H)
 | .sl h a 0 len=>match obj H h a with
  |some (1,rows)=>match oV rows with
   |some l=>if ajt len l.length&&ak1 len 1000000 then some (.aM [],H.set h (.live a 1 ((gA l).map aC)))else none
   |none=>none
  |_=>none
 |_=>none
def tq(a:List au)(H:List Ob):Option (au×List Ob):=
 match a with
 |[.c l]=>Di H l
 |_=>none
def lS(z:Nat)(d:List au)(H:List Ob):Option (au×List Ob):=
 match d with
 |[.c (.sl h a 0 len),.c (.v (.int .i64 i)),.c (.sl b e 0 1)]=>match obj H h a,obj H b e with
  |some (f,rows),some (g,[x])=>if ajt f z&&ajt g z&&ak1 len rows.length&&!Nat.beq h b&&((rows.take len).all fun r=>ajt r.length z)&&ajt x.length z&&decide (0<=i)&&decide (i<=len)&&ak1 len 1000000 then
    (if len=rows.length then some (.c (.sl h (a+1) 0 (len+1)),H.set h (.live (a+1) z (rows.take i.toNat++x::rows.drop i.toNat))++[.dead])
    else some (.c (.sl h a 0 (len+1)),H.set h (.live a z (rows.take i.toNat++x::((rows.take len).drop i.toNat++rows.drop (len+1))))))else none
  |_,_=>none
 |_=>none
def sV(z:Nat)(b:List ab)(d:List au)(H:List Ob):Option (au×List Ob):=
 match d with
 |[.c (.sl h a 0 len),.c (.v (.int .i64 i)),.c (.v (.int .i64 j))]=>match obj H h a with
  |some (e,rows)=>if ajt e z&&ajt len rows.length&&decide (0<=i)&&decide (i<j)&&decide (j<=len)&&ak1 len 1000000 then
    some (.c (.sl h a 0 (len-(j-i).toNat)),H.set h (.live a z (rows.take i.toNat++rows.drop j.toNat++ago (j-i).toNat b)))else none
  |none=>none
 |_=>none
def vz(d:List au)(H:List Ob):Option (au×List Ob):=
 match d with
 |[.c (.v .nilIface),.c (.iA 214 (.ptr _ _ _ _))]=>some (.c (B false),H)
 |[.c (.iA 288 (.ptr e f 0 0)),.c (.iA 214 (.ptr a b 0 0))]=>match obj H e f,obj H a b with
  |some (_,[[_,.iA 40 (.v (.int .i64 n))]]),some (1,[[_]])=>some (.c (B true),H.set a (.live b 1 [[I n]]))
  |_,_=>none
 |_=>none
def aG(l:List Int):ab:= .aj (l.map aC)
def jp:au->Option (List Int)
 | .c l=>match rowsOf l with
  |some rows=>oV rows
  |none=>none
 |_=>none
def cy(l:List Int):au×List Ob:=(.c (.sl 0 0 0 l.length),[.live 0 1 (l.map aC)])
def ny(b:List au)(H:List Ob):Option (au×List Ob):=
 match b,H with
 |[a],[]=>match jp a with
  |some l=>if ak1 l.length 1000000 then some (cy (cD l))else none
  |none=>none
 |_,_=>none
def ka(f:List Int->List Int->List Int)(c:List au)(H:List Ob):Option (au×List Ob):=
 match c,H with
 |[a,b],[]=>match jp a,jp b with
  |some l,some m=>if ak1 l.length 100000&&ak1 m.length 100000 then some (cy (f l m))else none
  |_,_=>none
 |_,_=>none
def rW:List (List ab)->Option (List Edge)
 |[]=>some []
 |[.v (.int .i64 a),.v (.int .i64 b)]::r=>match rW r with
  |some l=>some (⟨a,b⟩::l)
  |none=>none
 |_=>none
def uQ(b:List au)(H:List Ob):Option (au×List Ob):=
 match b,H with
 |[.agg [.v (.int .i64 n),l]],[]=>match rowsOf l with
  |some rows=>match rW rows with
   |some a=>if fg ⟨n,a⟩then match oZ ⟨n,a⟩with
     |some (c,k)=>some (.aM [.c (.sl 0 0 0 c.length),.c (I k),.c (I 0)],[.live 0 1 (c.map aC)])
     |none=>none
    else none
   |none=>none
  |none=>none
 |_,_=>none
def qC(d:List au)(H:List Ob):Option (au×List Ob):=
 match d,H with
 |[.agg [.v (.int .i64 n),l],.c (.v (.int .i64 a))],[]=>match rowsOf l with
  |some rows=>match rW rows with
   |some b=>if fg ⟨n,b⟩then some (cy (ee ⟨n,b⟩ a))else none
   |none=>none
  |none=>none
 |_,_=>none
def Aa(c:UInt8):List UInt8->Nat
 |[]=>0
 |x::r=>(if x=c then 1 else 0)+Aa c r
def strOf:ab->Option (List UInt8)
 | .v (.string s)=>some s.data.toList
 |_=>none
def Ag(d:List au)(H:List Ob):Option (au×List Ob):=
 match d,H with
 |[.c a,.c b],[]=>match strOf a,strOf b with
  |some s,some [c]=>some (.c (I (Aa c s)),[])
  |_,_=>none
 |_,_=>none
def zY(c:UInt8):Nat->List UInt8->Int
 |_,[]=> -1
 |i,x::r=>if x=c then i else zY c (i+1) r
def Aq(b:List au)(H:List Ob):Option (au×List Ob):=
 match b,H with
 |[.c a,.c (.v (.int .u8 c))],[]=>match strOf a with
  |some s=>if 0<=c/\c<256 then some (.c (I (zY (alU c.toNat) 0 s)),[])else none
  |none=>none
 |_,_=>none
def Ai(b:List au)(H:List Ob):Option (au×List Ob):=
 match b with
 |[.c (.ptr _ _ 0 0),.c a]=>match strOf a with
  |some [49]=>some (.c (.sl H.length 0 0 1),H++[.live 0 1 [[I 1]]])
  |_=>none
 |_=>none
def ua:List UInt8:=[97,100,100,32,48,32,49,10,103,111,32,48,10,99,111,109,101,32,48,32,49,32,48,10,103,111,32,49,10,99,111,109,101,32,49,32,48,32,48,10,111,112,101,110,32,48,32,49,32,49,10]
def xV:List UInt8:=[108,105,118,101,32,49,32,48,10,108,105,118,101,32,48,32,49,10,111,112,101,110,101,100,32,48,32,49,32,49,10,103,114,97,110,116,101,100,32,48,32,49,10]
def zA(b:List au)(H:List Ob):Option (au×List Ob):=
 match b,H with
 |[.agg [.v (.int .i64 2),.aj []],.agg [.v (.int .i64 2),.v (.int .i64 8),.v (.int .i64 1),.v (.int .i64 8),.v (.int .i64 9)],.c a],[]=>match strOf a with
  |some s=>if s=ua then some (.aM [.c (Sg xV),.c (I 0),.c (I 0)],[])else none
  |none=>none
 |_,_=>none
def zF(a:List au)(H:List Ob):Option (au×List Ob):=
 match a,H with
 |[],[]=>some (.c (B true),[])
 |_,_=>none
def T7:List (Nat×(List au->List Ob->Option (au×List Ob))):=
 [(43,fO 10),(44,fO 8),(45,fO 1),(46,fO 2),(47,fO 4),(57,fO 3),(191,tq),(124,lS 8),(200,lS 2),(195,sV 4 [I 0,ap,I 0,I 0]),(98,vz),
  (114,ny),(190,ka gH),(185,ka ke),(318,ka gN),(168,uQ),(248,qC),(7,zF),(86,Ag),(280,Aq),(234,Ai),(25,zA)]
end Go.Nx
namespace Go.Nx
open Go
def HK:Nat:=1264396883597349643675246583543606874995329338989990994377726580468722157087732268611866276532594635175694692485111176149818882840659960881268650247517123188938902733986016389531581346297874456041218408972288
def Eg:Nat:=379672790082921119712906776979184871370484932343926488934287201486297106635656743823769039183087020596539439697941720564378198352557091156814780262404635417678114841743493490447110386377373464070559817647619787178132897658544937281401615788079390673091296869480678244615547160337842932630871163578025233802442240
class W where
 k:Nat
def tI(k:Nat):List Nat:=
 match k with
 |0=>[]
 |1=>[43,44,45,46,47,57,98,114,190,185,318,168,248,7]
 |2=>[114]
 |3=>[114,248,45]
 |_=>[43,44,45,46,47,57,98,114,190,185,318,168,248,86,280,234,25]
def qE:List Nat:=[52,124,191,195,200]
def Ac:List Nat:=[43,44,45,46,47,57,191,124,200,195,98,114,190,185,318,168,248,7,52,86,280,234,25]
def mkC(P:Program)(k:Nat):bu where
 P:=P
 md:=fun f=>cond (f==45||f==114) (cond (k==1||k==4) 1 0) (HK>>>(2*f) % 4)
 kt:=assoc Tn
 ri:=bn
 dG:=fun f=>Ac.contains f&&(qE.contains f||(tI k).contains f)
 dH:=fun f a H=>match assoc T7 f with
  |some h=>h a H
  |none=>none
 kL:=fun f=>ajt f 147&&ajt k 4
 bz:=fun f k=>decide (k<3/\Eg>>>(3*f+k) % 2=1)
abbrev W1:W:=⟨1⟩
abbrev W0:W:=⟨0⟩
abbrev W2:W:=⟨2⟩
abbrev W3:W:=⟨3⟩
abbrev W4:W:=⟨4⟩
noncomputable def tz[w:W]:bu:=mkC amA w.k
end Go.Nx
namespace Go.Nx
open Go Go.Proofs Tryz
def Bi[W]:tz.dG 124=true:=by kernel_rfl
def Fj[W]:tz.dG 191=true:=by kernel_rfl
def NE[W]:tz.dG 195=true:=by kernel_rfl
def NW[W]:tz.dG 200=true:=by kernel_rfl
def tzP[W]:tz.P=aaD:=rfl
def tzR[W]:tz.ri=bn:=rfl
section
attribute [local instance] W1
def YL:tz.dG 44=true:=by kernel_rfl
def X5:tz.md 45=1:=by kernel_rfl
def XV:tz.dG 45=true:=by kernel_rfl
def VB:tz.dG 46=true:=by kernel_rfl
def abX:tz.dG 47=true:=by kernel_rfl
def aga:tz.dG 57=true:=by kernel_rfl
def EJ:tz.dG 98=true:=by kernel_rfl
def UX:tz.md 114=1:=by kernel_rfl
def adU:tz.dG 114=true:=by kernel_rfl
def af9:tz.dG 168=true:=by kernel_rfl
def Uw:tz.dG 185=true:=by kernel_rfl
def aeJ:tz.dG 190=true:=by kernel_rfl
def Ql:tz.dG 248=true:=by kernel_rfl
def Wt:tz.dG 318=true:=by kernel_rfl
end
def ab7:tk aaD 3=some (false,1)/\tk aaD 4=some (false,1)/\tk aaD 5=some (false,1)/\tk aaD 9=some (false,1)/\tk aaD 20=some (false,1)/\tk aaD 22=some (false,1)/\tk aaD 24=some (true,2)/\tk aaD 26=some (true,5)/\tk aaD 27=some (false,1)/\tk aaD 30=some (false,1)/\tk aaD 31=some (false,1)/\tk aaD 34=some (false,1)/\tk aaD 36=some (true,5)/\tk aaD 38=some (true,10)/\tk aaD 39=some (false,1)/\tk aaD 40=some (false,1)/\tk aaD 41=some (false,1)/\tk aaD 43=some (true,5)/\tk aaD 44=some (false,1)/\tk aaD 48=some (false,1):=by and_intros<;>kernel_rfl
def SR:tk aaD 49=some (false,1)/\tk aaD 51=some (true,2)/\tk aaD 53=some (false,1)/\tk aaD 55=some (true,8)/\tk aaD 58=some (false,1)/\tk aaD 59=some (false,1)/\tk aaD 61=some (true,3)/\tk aaD 62=some (false,1)/\tk aaD 64=some (true,5)/\tk aaD 65=some (false,1)/\tk aaD 67=some (true,2)/\tk aaD 68=some (false,1)/\tk aaD 70=some (true,10)/\tk aaD 87=some (false,1)/\tk aaD 89=some (false,1)/\tk aaD 94=some (false,1)/\tk aaD 96=some (true,3)/\tk aaD 98=some (true,5)/\tk aaD 101=some (false,1)/\tk aaD 102=some (false,1):=by and_intros<;>kernel_rfl
def Ur:tk aaD 104=some (true,8)/\tk aaD 105=some (false,1)/\tk aaD 112=some (true,2)/\tk aaD 123=some (true,2)/\tk aaD 125=some (false,1)/\tk aaD 127=some (true,4)/\tk aaD 135=some (false,1)/\tk aaD 139=some (false,1)/\tk aaD 146=some (false,1)/\tk aaD 147=some (false,1)/\tk aaD 149=some (true,5)/\tk aaD 154=some (true,3)/\tk aaD 158=some (true,2)/\tk aaD 159=some (false,1)/\tk aaD 166=some (false,1)/\tk aaD 168=some (true,2)/\tk aaD 173=some (false,1)/\tk aaD 177=some (true,13)/\tk aaD 183=some (false,1)/\tk aaD 186=some (false,1):=by and_intros<;>kernel_rfl
def TJ:tk aaD 192=some (false,1)/\tk aaD 214=some (false,1)/\tk aaD 216=some (true,2)/\tk aaD 219=some (false,1)/\tk aaD 221=some (true,2)/\tk aaD 240=some (false,1)/\tk aaD 248=some (false,1)/\tk aaD 250=some (false,1)/\tk aaD 251=some (true,2)/\tk aaD 252=some (false,1)/\tk aaD 253=some (true,2)/\tk aaD 254=some (false,1)/\tk aaD 256=some (true,5)/\tk aaD 258=some (false,1)/\tk aaD 281=some (false,1)/\tk aaD 288=some (false,1)/\tk aaD 290=some (true,2)/\tk aaD 296=some (true,3)/\tk aaD 299=some (false,1)/\tk aaD 301=some (false,1):=by and_intros<;>kernel_rfl
def adm:tk aaD 313=some (false,1)/\tk aaD 321=some (false,1)/\tk aaD 332=some (false,1)/\tk aaD 345=some (true,11)/\tk aaD 349=some (false,1)/\tk aaD 351=some (false,1)/\tk aaD 371=some (false,1)/\tk aaD 374=some (false,1)/\tk aaD 376=some (false,1)/\tk aaD 377=some (false,1)/\tk aaD 396=some (false,1)/\tk aaD 398=some (true,6)/\tk aaD 401=some (false,1)/\tk aaD 402=some (false,1)/\tk aaD 404=some (true,3)/\tk aaD 408=some (true,2)/\tk aaD 412=some (true,3)/\tk aaD 421=some (false,1)/\tk aaD 425=some (false,1)/\tk aaD 435=some (true,16):=by and_intros<;>kernel_rfl
def ac4:tk aaD 450=some (false,1)/\tk aaD 456=some (false,1)/\tk aaD 469=some (false,1):=by and_intros<;>kernel_rfl
def af4:zc aaD 3=some [I 0]/\zc aaD 4=some [B false]/\zc aaD 5=some [.v (.int .u8 0)]/\zc aaD 9=some [.v (.string ⟨#[]⟩)]/\zc aaD 20=some [.v .nilIface]/\zc aaD 22=some [ap]/\zc aaD 24=some [I 0,ap]/\zc aaD 26=some [I 0,I 0,I 0,I 0,I 0]/\zc aaD 27=some [ap]/\zc aaD 30=some [ap]/\zc aaD 31=some [.v (.pointer none)]/\zc aaD 34=some [I 0]/\zc aaD 36=some [I 0,I 0,I 0,I 0,ap]/\zc aaD 38=some [I 0,I 0,I 0,I 0,I 0,I 0,I 0,I 0,I 0,ap]/\zc aaD 39=some [ap]/\zc aaD 40=some [I 0]/\zc aaD 41=some [I 0]/\zc aaD 43=some [I 0,I 0,I 0,I 0,ap]/\zc aaD 44=some [.v .nilFunc]/\zc aaD 48=some [ap]:=by and_intros<;>kernel_rfl
def ab6:zc aaD 49=some [ap]/\zc aaD 51=some [ap,ap]/\zc aaD 53=some [I 0]/\zc aaD 55=some [I 0,I 0,I 0,B false,B false,B false,B false,B false]/\zc aaD 58=some [I 0]/\zc aaD 59=some [ap]/\zc aaD 61=some [I 0,I 0,ap]/\zc aaD 62=some [I 0]/\zc aaD 64=some [I 0,I 0,ap,I 0,ap]/\zc aaD 65=some [ap]/\zc aaD 67=some [I 0,ap]/\zc aaD 68=some [ap]/\zc aaD 70=some [I 0,I 0,ap,I 0,ap,I 0,ap,ap,ap,ap]/\zc aaD 87=some [ap]/\zc aaD 89=some [ap]/\zc aaD 94=some [I 0]/\zc aaD 96=some [I 0,I 0,I 0]/\zc aaD 98=some [I 0,I 0,I 0,I 0,I 0]/\zc aaD 101=some [.v (.map none)]/\zc aaD 102=some [.v (.map none)]:=by and_intros<;>kernel_rfl
def Z1:zc aaD 104=some [I 0,I 0,I 0,I 0,I 0,ap,.v (.map none),.v (.map none)]/\zc aaD 105=some [.v .nilFunc]/\zc aaD 112=some [I 0,I 0]/\zc aaD 123=some [I 0,I 0]/\zc aaD 125=some [I 0]/\zc aaD 127=some [I 0,ap,I 0,I 0]/\zc aaD 135=some [ap]/\zc aaD 139=some [.v .nilIface]/\zc aaD 146=some [I 0]/\zc aaD 147=some [.v (.int .u64 0)]/\zc aaD 149=some [I 0,I 0,.v (.int .u64 0),.v (.int .u64 0),.v (.string ⟨#[]⟩)]/\zc aaD 154=some [I 0,I 0,.v (.string ⟨#[]⟩)]/\zc aaD 158=some [ap,I 0]/\zc aaD 159=some [.v (.pointer none)]/\zc aaD 166=some [ap]/\zc aaD 168=some [ap,ap]/\zc aaD 173=some [.v (.pointer none)]/\zc aaD 177=some [I 0,I 0,ap,I 0,ap,I 0,ap,ap,ap,ap,ap,ap,I 0]/\zc aaD 183=some [.v .nilFunc]/\zc aaD 186=some [.v (.pointer none)]:=by and_intros<;>kernel_rfl
def WZ:zc aaD 192=some [.v .nilFunc]/\zc aaD 214=some [.v (.pointer none)]/\zc aaD 216=some [I 0,I 0]/\zc aaD 219=some [ap]/\zc aaD 221=some [ap,ap]/\zc aaD 240=some [.v .nilFunc]/\zc aaD 248=some [.v (.int .u64 0)]/\zc aaD 250=some [.v (.pointer none)]/\zc aaD 251=some [.v (.pointer none),.v (.pointer none)]/\zc aaD 252=some [ap]/\zc aaD 253=some [ap,ap]/\zc aaD 254=some [.v (.pointer none)]/\zc aaD 256=some [.v (.pointer none),.v (.pointer none),ap,ap,.v (.pointer none)]/\zc aaD 258=some [ap]/\zc aaD 281=some [.v (.pointer none)]/\zc aaD 288=some [.v (.pointer none)]/\zc aaD 290=some [I 0,.v .nilIface]/\zc aaD 296=some [.v (.pointer none),.v (.pointer none),.v (.int .u64 0)]/\zc aaD 299=some [.v .nilIface]/\zc aaD 301=some [.v (.int .u8 0)]:=by and_intros<;>kernel_rfl
def agd:zc aaD 313=some [.v .nilFunc]/\zc aaD 321=some [.v .nilFunc]/\zc aaD 332=some [.v .nilFunc]/\zc aaD 345=some [I 0,I 0,I 0,I 0,ap,.v (.int .u64 0),I 0,I 0,.v (.int .u64 0),B false,I 0]/\zc aaD 349=some [.v (.int .u32 0)]/\zc aaD 351=some [.v (.pointer none)]/\zc aaD 371=some [.v .nilIface]/\zc aaD 374=some [.v .nilIface]/\zc aaD 376=some [.v .nilIface]/\zc aaD 377=some [ap]/\zc aaD 396=some [.v (.pointer none)]/\zc aaD 398=some [I 0,I 0,ap,I 0,ap,ap]/\zc aaD 401=some [.v .nilFunc]/\zc aaD 402=some [.v (.map none)]/\zc aaD 404=some [I 0,I 0,.v (.map none)]/\zc aaD 408=some [I 0,I 0]/\zc aaD 412=some [ap,I 0,I 0]/\zc aaD 421=some [.v .nilFunc]/\zc aaD 425=some [I 0]/\zc aaD 435=some [.v (.int .u32 0),.v (.int .u32 0),.v (.int .u32 0),.v (.int .u32 0),.v (.int .u32 0),.v (.int .u32 0),.v (.int .u32 0),.v (.int .u32 0),.v (.int .u32 0),.v (.int .u32 0),.v (.int .u32 0),.v (.int .u32 0),.v (.int .u32 0),.v (.int .u32 0),.v (.int .u32 0),.v (.int .u32 0)]:=by and_intros<;>kernel_rfl
def WL:zc aaD 450=some [.v (.int .u64 0)]/\zc aaD 456=some [.v (.pointer none)]/\zc aaD 469=some [ap]:=by and_intros<;>kernel_rfl
def Fc:ik aaD 3=some .i64/\ik aaD 5=some .u8/\ik aaD 34=some .i64/\ik aaD 40=some .i64/\ik aaD 41=some .i64/\ik aaD 53=some .i64/\ik aaD 58=some .i64/\ik aaD 62=some .i64/\ik aaD 94=some .i64/\ik aaD 125=some .i64/\ik aaD 146=some .i64/\ik aaD 147=some .u64/\ik aaD 248=some .u64/\ik aaD 301=some .u8/\ik aaD 349=some .u32/\ik aaD 425=some .i64/\ik aaD 450=some .u64:=by and_intros<;>kernel_rfl
def pK:se aaD 22=some (112,2,16,[I 0,I 0])/\se aaD 27=some (38,10,96,[I 0,I 0,I 0,I 0,I 0,I 0,I 0,I 0,I 0,ap])/\se aaD 30=some (3,1,8,[I 0])/\se aaD 39=some (43,5,56,[I 0,I 0,I 0,I 0,ap])/\se aaD 48=some (70,10,176,[I 0,I 0,ap,I 0,ap,I 0,ap,ap,ap,ap])/\se aaD 49=some (98,5,40,[I 0,I 0,I 0,I 0,I 0])/\se aaD 59=some (55,8,32,[I 0,I 0,I 0,B false,B false,B false,B false,B false])/\se aaD 65=some (127,4,48,[I 0,ap,I 0,I 0])/\se aaD 68=some (123,2,16,[I 0,I 0])/\se aaD 87=some (154,3,32,[I 0,I 0,.v (.string ⟨#[]⟩)])/\se aaD 89=some (96,3,24,[I 0,I 0,I 0])/\se aaD 135=some (5,1,1,[.v (.int .u8 0)])/\se aaD 166=some (64,5,72,[I 0,I 0,ap,I 0,ap])/\se aaD 219=some (61,3,40,[I 0,I 0,ap])/\se aaD 252=some (9,1,16,[.v (.string ⟨#[]⟩)])/\se aaD 258=some (149,5,48,[I 0,I 0,.v (.int .u64 0),.v (.int .u64 0),.v (.string ⟨#[]⟩)])/\se aaD 377=some (139,1,16,[.v .nilIface])/\se aaD 469=some (30,1,24,[ap]):=by and_intros<;>kernel_rfl
def ZJ:cm aaD 24=some ([I 0,ap],[(0,1),(1,1)])/\cm aaD 26=some ([I 0,I 0,I 0,I 0,I 0],[(0,1),(1,1),(2,1),(3,1),(4,1)])/\cm aaD 36=some ([I 0,I 0,I 0,I 0,ap],[(0,1),(1,1),(2,1),(3,1),(4,1)])/\cm aaD 38=some ([I 0,I 0,I 0,I 0,I 0,I 0,I 0,I 0,I 0,ap],[(0,1),(1,1),(2,1),(3,1),(4,1),(5,5)])/\cm aaD 43=some ([I 0,I 0,I 0,I 0,ap],[(0,1),(1,1),(2,1),(3,1),(4,1)])/\cm aaD 51=some ([ap,ap],[(0,1),(1,1)])/\cm aaD 55=some ([I 0,I 0,I 0,B false,B false,B false,B false,B false],[(0,1),(1,1),(2,1),(3,1),(4,1),(5,1),(6,1),(7,1)])/\cm aaD 61=some ([I 0,I 0,ap],[(0,1),(1,1),(2,1)])/\cm aaD 64=some ([I 0,I 0,ap,I 0,ap],[(0,3),(3,1),(4,1)])/\cm aaD 67=some ([I 0,ap],[(0,1),(1,1)])/\cm aaD 70=some ([I 0,I 0,ap,I 0,ap,I 0,ap,ap,ap,ap],[(0,5),(5,2),(7,1),(8,1),(9,1)])/\cm aaD 96=some ([I 0,I 0,I 0],[(0,1),(1,1),(2,1)])/\cm aaD 98=some ([I 0,I 0,I 0,I 0,I 0],[(0,1),(1,1),(2,3)])/\cm aaD 104=some ([I 0,I 0,I 0,I 0,I 0,ap,.v (.map none),.v (.map none)],[(0,5),(5,1),(6,1),(7,1)])/\cm aaD 112=some ([I 0,I 0],[(0,1),(1,1)])/\cm aaD 123=some ([I 0,I 0],[(0,1),(1,1)])/\cm aaD 127=some ([I 0,ap,I 0,I 0],[(0,1),(1,1),(2,1),(3,1)])/\cm aaD 149=some ([I 0,I 0,.v (.int .u64 0),.v (.int .u64 0),.v (.string ⟨#[]⟩)],[(0,1),(1,1),(2,1),(3,1),(4,1)])/\cm aaD 154=some ([I 0,I 0,.v (.string ⟨#[]⟩)],[(0,1),(1,1),(2,1)])/\cm aaD 158=some ([ap,I 0],[(0,1),(1,1)]):=by and_intros<;>kernel_rfl
def aau:cm aaD 168=some ([ap,ap],[(0,1),(1,1)])/\cm aaD 177=some ([I 0,I 0,ap,I 0,ap,I 0,ap,ap,ap,ap,ap,ap,I 0],[(0,10),(10,1),(11,1),(12,1)])/\cm aaD 216=some ([I 0,I 0],[(0,1),(1,1)])/\cm aaD 221=some ([ap,ap],[(0,1),(1,1)])/\cm aaD 251=some ([.v (.pointer none),.v (.pointer none)],[(0,1),(1,1)])/\cm aaD 253=some ([ap,ap],[(0,1),(1,1)])/\cm aaD 256=some ([.v (.pointer none),.v (.pointer none),ap,ap,.v (.pointer none)],[(0,2),(2,2),(4,1)])/\cm aaD 290=some ([I 0,.v .nilIface],[(0,1),(1,1)])/\cm aaD 296=some ([.v (.pointer none),.v (.pointer none),.v (.int .u64 0)],[(0,1),(1,1),(2,1)])/\cm aaD 345=some ([I 0,I 0,I 0,I 0,ap,.v (.int .u64 0),I 0,I 0,.v (.int .u64 0),B false,I 0],[(0,1),(1,1),(2,1),(3,1),(4,1),(5,1),(6,1),(7,1),(8,1),(9,1),(10,1)])/\cm aaD 398=some ([I 0,I 0,ap,I 0,ap,ap],[(0,5),(5,1)])/\cm aaD 404=some ([I 0,I 0,.v (.map none)],[(0,1),(1,1),(2,1)])/\cm aaD 408=some ([I 0,I 0],[(0,1),(1,1)])/\cm aaD 412=some ([ap,I 0,I 0],[(0,1),(1,1),(2,1)])/\cm aaD 435=some ([.v (.int .u32 0),.v (.int .u32 0),.v (.int .u32 0),.v (.int .u32 0),.v (.int .u32 0),.v (.int .u32 0),.v (.int .u32 0),.v (.int .u32 0),.v (.int .u32 0),.v (.int .u32 0),.v (.int .u32 0),.v (.int .u32 0),.v (.int .u32 0),.v (.int .u32 0),.v (.int .u32 0),.v (.int .u32 0)],[(0,1),(1,1),(2,1),(3,1),(4,1),(5,1),(6,1),(7,1),(8,1),(9,1),(10,1),(11,1),(12,1),(13,1),(14,1),(15,1)]):=by and_intros<;>kernel_rfl
def UI:fo aaD 24 0=some (0,1,false)/\fo aaD 24 1=some (1,1,false)/\fo aaD 26 0=some (0,1,false)/\fo aaD 26 1=some (1,1,false)/\fo aaD 26 2=some (2,1,false)/\fo aaD 26 3=some (3,1,false)/\fo aaD 26 4=some (4,1,false)/\fo aaD 36 0=some (0,1,false)/\fo aaD 36 1=some (1,1,false)/\fo aaD 36 2=some (2,1,false)/\fo aaD 36 3=some (3,1,false)/\fo aaD 36 4=some (4,1,false)/\fo aaD 38 0=some (0,1,false)/\fo aaD 38 1=some (1,1,false)/\fo aaD 38 2=some (2,1,false)/\fo aaD 38 3=some (3,1,false)/\fo aaD 38 4=some (4,1,false)/\fo aaD 38 5=some (5,5,true)/\fo aaD 43 0=some (0,1,false)/\fo aaD 43 1=some (1,1,false):=by and_intros<;>kernel_rfl
def afk:fo aaD 43 2=some (2,1,false)/\fo aaD 43 3=some (3,1,false)/\fo aaD 43 4=some (4,1,false)/\fo aaD 51 0=some (0,1,false)/\fo aaD 51 1=some (1,1,false)/\fo aaD 55 0=some (0,1,false)/\fo aaD 55 1=some (1,1,false)/\fo aaD 55 2=some (2,1,false)/\fo aaD 55 3=some (3,1,false)/\fo aaD 55 4=some (4,1,false)/\fo aaD 55 5=some (5,1,false)/\fo aaD 55 6=some (6,1,false)/\fo aaD 55 7=some (7,1,false)/\fo aaD 61 0=some (0,1,false)/\fo aaD 61 1=some (1,1,false)/\fo aaD 61 2=some (2,1,false)/\fo aaD 64 0=some (0,3,true)/\fo aaD 64 1=some (3,1,false)/\fo aaD 64 2=some (4,1,false)/\fo aaD 67 0=some (0,1,false):=by and_intros<;>kernel_rfl
def YC:fo aaD 67 1=some (1,1,false)/\fo aaD 70 0=some (0,5,true)/\fo aaD 70 1=some (5,2,true)/\fo aaD 70 2=some (7,1,false)/\fo aaD 70 3=some (8,1,false)/\fo aaD 70 4=some (9,1,false)/\fo aaD 96 0=some (0,1,false)/\fo aaD 96 1=some (1,1,false)/\fo aaD 96 2=some (2,1,false)/\fo aaD 98 0=some (0,1,false)/\fo aaD 98 1=some (1,1,false)/\fo aaD 98 2=some (2,3,true)/\fo aaD 104 0=some (0,5,true)/\fo aaD 104 1=some (5,1,false)/\fo aaD 104 2=some (6,1,false)/\fo aaD 104 3=some (7,1,false)/\fo aaD 112 0=some (0,1,false)/\fo aaD 112 1=some (1,1,false)/\fo aaD 123 0=some (0,1,false)/\fo aaD 123 1=some (1,1,false):=by and_intros<;>kernel_rfl
def YJ:fo aaD 127 0=some (0,1,false)/\fo aaD 127 1=some (1,1,false)/\fo aaD 127 2=some (2,1,false)/\fo aaD 127 3=some (3,1,false)/\fo aaD 149 0=some (0,1,false)/\fo aaD 149 1=some (1,1,false)/\fo aaD 149 2=some (2,1,false)/\fo aaD 149 3=some (3,1,false)/\fo aaD 149 4=some (4,1,false)/\fo aaD 154 0=some (0,1,false)/\fo aaD 154 1=some (1,1,false)/\fo aaD 154 2=some (2,1,false)/\fo aaD 158 0=some (0,1,false)/\fo aaD 158 1=some (1,1,false)/\fo aaD 168 0=some (0,1,false)/\fo aaD 168 1=some (1,1,false)/\fo aaD 177 0=some (0,10,true)/\fo aaD 177 1=some (10,1,false)/\fo aaD 177 2=some (11,1,false)/\fo aaD 177 3=some (12,1,false):=by and_intros<;>kernel_rfl
def XO:fo aaD 216 0=some (0,1,false)/\fo aaD 216 1=some (1,1,false)/\fo aaD 221 0=some (0,1,false)/\fo aaD 221 1=some (1,1,false)/\fo aaD 256 0=some (0,2,true)/\fo aaD 256 1=some (2,2,true)/\fo aaD 256 2=some (4,1,false)/\fo aaD 290 0=some (0,1,false)/\fo aaD 290 1=some (1,1,false)/\fo aaD 296 0=some (0,1,false)/\fo aaD 296 1=some (1,1,false)/\fo aaD 296 2=some (2,1,false)/\fo aaD 345 0=some (0,1,false)/\fo aaD 345 1=some (1,1,false)/\fo aaD 345 2=some (2,1,false)/\fo aaD 345 3=some (3,1,false)/\fo aaD 345 4=some (4,1,false)/\fo aaD 345 5=some (5,1,false)/\fo aaD 345 6=some (6,1,false)/\fo aaD 345 7=some (7,1,false):=by and_intros<;>kernel_rfl
def Yd:fo aaD 345 8=some (8,1,false)/\fo aaD 345 9=some (9,1,false)/\fo aaD 345 10=some (10,1,false)/\fo aaD 398 0=some (0,5,true)/\fo aaD 398 1=some (5,1,false)/\fo aaD 404 0=some (0,1,false)/\fo aaD 404 1=some (1,1,false)/\fo aaD 404 2=some (2,1,false)/\fo aaD 408 0=some (0,1,false)/\fo aaD 408 1=some (1,1,false)/\fo aaD 412 0=some (0,1,false)/\fo aaD 412 1=some (1,1,false)/\fo aaD 412 2=some (2,1,false):=by and_intros<;>kernel_rfl
def ab5:eqs aaD 26=some [.int,.int,.int,.int,.int]/\eqs aaD 55=some [.int,.int,.int,.bool,.bool,.bool,.bool,.bool]/\eqs aaD 96=some [.int,.int,.int]/\eqs aaD 98=some [.int,.int,.int,.int,.int]/\eqs aaD 112=some [.int,.int]/\eqs aaD 123=some [.int,.int]/\eqs aaD 149=some [.int,.int,.int,.int,.str]/\eqs aaD 154=some [.int,.int,.str]/\eqs aaD 216=some [.int,.int]/\eqs aaD 408=some [.int,.int]:=by and_intros<;>kernel_rfl
def ace:ar aaD 251=some (2,1,false)/\ar aaD 253=some (2,1,false)/\ar aaD 435=some (16,1,false):=by and_intros<;>kernel_rfl
def ac5[W]:tz.kt 3=some Kw/\tz.kt 8=some De/\tz.kt 9=some Kq/\tz.kt 10=some Kt/\tz.kt 16=some DC/\tz.kt 17=some Jk/\tz.kt 18=some Dh:=by and_intros<;>kernel_rfl
def X0[W]:tz.kt 26=some Dm/\tz.kt 27=some Jz/\tz.kt 28=some Ee/\tz.kt 29=some JO/\tz.kt 30=some El/\tz.kt 31=some CV/\tz.kt 32=some Ei/\tz.kt 33=some HZ/\tz.kt 34=some Dn/\tz.kt 35=some Kr/\tz.kt 36=some HL/\tz.kt 37=some Ju/\tz.kt 40=some Br/\tz.kt 41=some IH/\tz.kt 42=some JE/\tz.kt 43=some Gz:=by and_intros<;>kernel_rfl
def abK[W]:tz.kt 44=some Dp/\tz.kt 45=some JI/\tz.kt 46=some JU/\tz.kt 47=some IR/\tz.kt 53=some Bf/\tz.kt 54=some IP/\tz.kt 55=some JN/\tz.kt 56=some Bg/\tz.kt 57=some Cw/\tz.kt 58=some Gj/\tz.kt 59=some B4/\tz.kt 60=some FI/\tz.kt 61=some Ha/\tz.kt 62=some FQ/\tz.kt 63=some GF/\tz.kt 64=some Ib/\tz.kt 65=some KE/\tz.kt 66=some HU/\tz.kt 67=some EI/\tz.kt 68=some BH:=by and_intros<;>kernel_rfl
def ac1[W]:tz.kt 69=some Ed/\tz.kt 70=some Ii/\tz.kt 71=some Bl/\tz.kt 72=some Ij/\tz.kt 73=some DT/\tz.kt 74=some Cx/\tz.kt 75=some HM/\tz.kt 76=some C6/\tz.kt 77=some CQ/\tz.kt 78=some D6/\tz.kt 79=some JQ/\tz.kt 80=some FV/\tz.kt 81=some Gy/\tz.kt 82=some Jf/\tz.kt 83=some I4/\tz.kt 84=some DR/\tz.kt 85=some GO/\tz.kt 96=some BZ/\tz.kt 97=some EZ:=by and_intros<;>kernel_rfl
def aej[W]:tz.kt 99=some EH/\tz.kt 100=some CK/\tz.kt 101=some DL/\tz.kt 102=some BK/\tz.kt 103=some ID/\tz.kt 104=some Dv/\tz.kt 105=some E0/\tz.kt 106=some J3/\tz.kt 107=some F3/\tz.kt 108=some CC/\tz.kt 109=some A7/\tz.kt 110=some Kv/\tz.kt 111=some Bd/\tz.kt 112=some Bc/\tz.kt 113=some BX/\tz.kt 114=some Ef/\tz.kt 115=some IN/\tz.kt 116=some D3/\tz.kt 117=some JS/\tz.kt 118=some EC:=by and_intros<;>kernel_rfl
def Tk[W]:tz.kt 119=some Iz/\tz.kt 120=some GY/\tz.kt 121=some Kf/\tz.kt 122=some GC/\tz.kt 123=some Ig/\tz.kt 124=some EM/\tz.kt 125=some B3/\tz.kt 126=some DP/\tz.kt 127=some Hm/\tz.kt 128=some AV/\tz.kt 129=some HS/\tz.kt 130=some Jm/\tz.kt 131=some FJ/\tz.kt 132=some AZ/\tz.kt 133=some E6/\tz.kt 134=some Ie/\tz.kt 135=some Co/\tz.kt 136=some Ky/\tz.kt 137=some EV/\tz.kt 138=some En:=by and_intros<;>kernel_rfl
def XB[W]:tz.kt 139=some AU/\tz.kt 140=some FR/\tz.kt 141=some A9/\tz.kt 142=some BE/\tz.kt 152=some Cy/\tz.kt 157=some C2/\tz.kt 158=some HT/\tz.kt 159=some Jn/\tz.kt 160=some AR/\tz.kt 165=some JV/\tz.kt 166=some CT/\tz.kt 167=some JH/\tz.kt 168=some J2/\tz.kt 169=some Es/\tz.kt 170=some BQ/\tz.kt 171=some C0:=by and_intros<;>kernel_rfl
def WA[W]:tz.kt 172=some Bh/\tz.kt 173=some KA/\tz.kt 174=some Dt/\tz.kt 175=some Kb/\tz.kt 176=some Jv/\tz.kt 177=some HD/\tz.kt 178=some B7/\tz.kt 179=some IT/\tz.kt 180=some Fx/\tz.kt 181=some Gm/\tz.kt 182=some Ct/\tz.kt 183=some FZ/\tz.kt 184=some Is/\tz.kt 185=some A3/\tz.kt 186=some J6/\tz.kt 187=some Eb/\tz.kt 188=some IB/\tz.kt 189=some CX/\tz.kt 190=some II:=by and_intros<;>kernel_rfl
def Yn[W]:tz.kt 192=some IC/\tz.kt 193=some D4/\tz.kt 194=some DF/\tz.kt 195=some Iy/\tz.kt 198=some Gd/\tz.kt 199=some DY/\tz.kt 200=some Eh/\tz.kt 201=some D7/\tz.kt 202=some CD/\tz.kt 203=some AY/\tz.kt 204=some E1/\tz.kt 205=some ET/\tz.kt 206=some Be/\tz.kt 207=some Jo/\tz.kt 208=some HC/\tz.kt 209=some B5/\tz.kt 210=some Jh/\tz.kt 211=some Ke:=by and_intros<;>kernel_rfl
def adB[W]:tz.kt 212=some Jb/\tz.kt 213=some FF/\tz.kt 214=some C8/\tz.kt 215=some GU/\tz.kt 216=some Fv/\tz.kt 217=some Bt/\tz.kt 218=some HJ/\tz.kt 219=some FK/\tz.kt 220=some GX/\tz.kt 221=some Dk/\tz.kt 222=some Ix/\tz.kt 223=some HR/\tz.kt 224=some GV/\tz.kt 225=some BM/\tz.kt 226=some Fa/\tz.kt 227=some Fe/\tz.kt 228=some JJ/\tz.kt 235=some I6/\tz.kt 239=some HW:=by and_intros<;>kernel_rfl
def adL[W]:tz.kt 243=some BA/\tz.kt 244=some CF/\tz.kt 245=some Gv/\tz.kt 246=some Fw/\tz.kt 247=some C9/\tz.kt 248=some Jw/\tz.kt 249=some D0/\tz.kt 250=some Jy/\tz.kt 251=some DO/\tz.kt 252=some Dz/\tz.kt 253=some Jp/\tz.kt 254=some EO/\tz.kt 255=some Km/\tz.kt 256=some FA/\tz.kt 257=some Ho/\tz.kt 260=some IX:=by and_intros<;>kernel_rfl
def afh[W]:tz.kt 261=some IA/\tz.kt 262=some I5/\tz.kt 266=some Jt/\tz.kt 267=some FO/\tz.kt 268=some Cu/\tz.kt 269=some FD/\tz.kt 270=some Ks/\tz.kt 271=some FC/\tz.kt 272=some BG/\tz.kt 273=some Hc/\tz.kt 274=some Ki/\tz.kt 275=some JZ/\tz.kt 276=some D5/\tz.kt 277=some GR/\tz.kt 278=some GQ/\tz.kt 279=some E3/\tz.kt 291=some Ep:=by and_intros<;>kernel_rfl
def Va[W]:tz.kt 292=some EW/\tz.kt 293=some Cr/\tz.kt 294=some CL/\tz.kt 295=some AS/\tz.kt 296=some KG/\tz.kt 297=some If/\tz.kt 298=some Ew/\tz.kt 299=some Fb/\tz.kt 300=some Fq:=by and_intros<;>kernel_rfl
def Ut[W]:tz.kt 312=some E2/\tz.kt 315=some Ji/\tz.kt 316=some GM/\tz.kt 317=some KD/\tz.kt 318=some HE/\tz.kt 319=some DH/\tz.kt 320=some Hw/\tz.kt 321=some C5/\tz.kt 332=some HQ/\tz.kt 333=some Bx/\tz.kt 334=some Cd/\tz.kt 340=some HY:=by and_intros<;>kernel_rfl
def aeN[W]:tz.kt 342=some Gw/\tz.kt 343=some Gh/\tz.kt 344=some Hl/\tz.kt 345=some FP/\tz.kt 355=some IM:=by and_intros<;>kernel_rfl
def Xc:bn 9 1=C7/\bn 10 4=cC/\bn 10 7=cC/\bn 10 9=cC/\bn 17 1=CZ/\bn 18 3=Ku/\bn 26 7=cC:=by and_intros<;>kernel_rfl
def adD:bn 30 3=Cj/\bn 35 1=Ex/\bn 36 4=cC/\bn 36 7=cC/\bn 37 1=cC/\bn 37 7=cC/\bn 54 4=B2/\bn 55 4=cC/\bn 58 2=cC/\bn 58 3=cC/\bn 58 4=cC/\bn 60 1=DN/\bn 67 1=BN/\bn 67 2=B0/\bn 67 7=CB/\bn 71 3=EN/\bn 71 4=Ff/\bn 71 6=Fu/\bn 71 8=cC/\bn 71 13=cC:=by and_intros<;>kernel_rfl
def Vd:bn 71 18=Bq/\bn 73 1=cC/\bn 73 2=cC/\bn 75 0=Dl/\bn 76 2=Ej/\bn 76 5=cC/\bn 76 6=FL/\bn 78 2=cC/\bn 78 3=Jc/\bn 78 5=cC/\bn 78 6=cC/\bn 84 9=cC/\bn 84 11=Bo/\bn 85 8=Dq/\bn 97 13=Bv/\bn 108 6=F0/\bn 117 0=cC/\bn 121 8=cC/\bn 124 11=cC/\bn 124 15=cC:=by and_intros<;>kernel_rfl
def U9:bn 126 0=cC/\bn 127 7=F8/\bn 129 5=Ih/\bn 129 11=Ck/\bn 129 13=C3/\bn 131 5=Kz/\bn 135 3=cC/\bn 136 3=cC/\bn 136 4=cC/\bn 136 6=cC/\bn 137 5=JC/\bn 137 6=Db/\bn 137 7=Hp/\bn 140 1=cC/\bn 140 3=cC/\bn 140 9=cC/\bn 141 3=cC/\bn 141 5=cC/\bn 142 1=Js/\bn 142 11=cC:=by and_intros<;>kernel_rfl
def ZR:bn 142 15=Et/\bn 142 16=BY/\bn 142 18=Fs/\bn 142 19=cC/\bn 142 20=Gi/\bn 142 23=FU/\bn 142 26=IV/\bn 159 2=FE/\bn 165 2=cC/\bn 167 6=cC/\bn 169 14=cC/\bn 174 4=cC/\bn 176 2=A0/\bn 180 2=DI/\bn 182 1=HH/\bn 183 6=cC/\bn 188 1=Dy/\bn 189 5=He/\bn 192 6=cC/\bn 192 11=cC:=by and_intros<;>kernel_rfl
def afe:bn 193 7=Kl/\bn 195 5=cC/\bn 200 11=cC/\bn 200 15=cC/\bn 206 1=cC/\bn 208 7=cC/\bn 208 8=FN/\bn 209 8=KH/\bn 210 3=cC/\bn 210 5=cC/\bn 211 3=cC/\bn 211 4=cC/\bn 214 6=cC/\bn 217 0=cC/\bn 221 4=cC/\bn 221 5=FX/\bn 221 6=cC/\bn 222 3=GW/\bn 223 7=IY/\bn 225 1=cC:=by and_intros<;>kernel_rfl
def adE:bn 226 1=HF/\bn 239 4=A8/\bn 243 5=JM/\bn 245 7=cC/\bn 262 1=CO/\bn 266 1=cC/\bn 275 1=cC/\bn 276 1=cC/\bn 293 1=F1/\bn 296 1=cC/\bn 298 1=cC:=by and_intros<;>kernel_rfl
def aeQ:bn 316 13=Jq/\bn 316 27=Dd/\bn 317 5=cC:=by and_intros<;>kernel_rfl
def abY:bn 319 6=cC/\bn 342 0=cC/\bn 343 1=cC:=by and_intros<;>kernel_rfl
def adb[W](f:Nat)(h:(f==45||f==114)=false):tz.md f=HK>>>(2*f) % 4:=by change cond (f==45||f==114) _ _=_;rw[h];rfl
def aaZ[W](f k:Nat):tz.bz f k=decide (k<3/\Eg>>>(3*f+k) % 2=1):=rfl
def orM:Nat:=533996758982170189491433496068876145770039848070095095399691339535521584536653886847313059512448
def Xn[W]{f:Nat}(h:orM>>>f % 2=0):tz.dG f=false:=by
 change (Ac.contains f&&_)=false;cases hc:Ac.contains f with
 |false=>rfl
 |true=>simp only[Ac,List.contains_eq_mem,ae3,aiP,or_false,decide_eq_true_eq]at hc;rcases hc with rfl|rfl|rfl|rfl|rfl|rfl|rfl|rfl|rfl|rfl|rfl|rfl|rfl|rfl|rfl|rfl|rfl|rfl|rfl|rfl|rfl|rfl|rfl<;>cases h
attribute [simp] cC ab7 SR Ur TJ adm ac4 af4 ab6 Z1 WZ agd WL Fc pK ZJ aau UI afk YC YJ XO Yd ab5 ace ac5 X0 abK ac1 aej Tk XB WA Yn adB adL afh Va Ut aeN Xc adD Vd U9 ZR afe adE aeQ abY Kw De Kq Kt DC Jk Dh Dm Jz Ee JO El CV Ei HZ Dn Kr HL Ju Br IH JE Gz Dp JI JU IR Bf IP JN Bg Cw Gj B4 FI Ha FQ GF Ib KE HU EI BH Ed Ii Bl Ij DT Cx HM C6 CQ D6 JQ FV Gy Jf I4 DR GO BZ EZ EH CK DL BK ID Dv E0 J3 F3 CC A7 Kv Bd Bc BX Ef IN D3 JS EC Iz GY Kf GC Ig EM B3 DP Hm AV HS Jm FJ AZ E6 Ie Co Ky EV En AU FR A9 BE Cy C2 HT Jn AR JV CT JH J2 Es BQ C0 Bh KA Dt Kb Jv HD B7 IT Fx Gm Ct FZ Is A3 J6 Eb IB CX II IC D4 DF Iy Gd DY Eh D7 CD AY E1 ET Be Jo HC B5 Jh Ke Jb FF C8 GU Fv Bt HJ FK GX Dk Ix HR GV BM Fa Fe JJ I6 HW BA CF Gv Fw C9 Jw D0 Jy DO Dz Jp EO Km FA Ho IX IA I5 Jt FO Cu FD Ks FC BG Hc Ki JZ D5 GR GQ E3 Ep EW Cr CL AS KG If Ew Fb Fq E2 Ji GM KD HE DH Hw C5 HQ Bx Cd HY Gw Gh Hl FP IM F0 F8 Ck C3 Ih Kz JC Db Hp Js Et BY Fs Gi FU IV FE A0 CZ DI HH Dy He Ku Kl FN KH FX GW IY HF A8 JM CO F1 Cj Jq Dd Ex B2 DN BN B0 CB Bq EN Ff Fu Dl Ej FL Jc Bo Dq Bv C7 Bi Fj NE NW X5 EJ UX af9 Ql aaZ Xn adb HK Eg orM
end Go.Nx
namespace Go.Nx
open Go Go.Proofs Tryz
variable{fn:Func}{n:Nat}{H G0:List Ob}{rc:jh}{Q:Exit->St->Prop}{e e0:Env}{β α:Type}{r:au}{ce:cY}
section
variable{C:bu}{f:FuncId}{c:Code}{ks:List Nat}
def ahC(S:St)(k):sq (some (.normal,S)) k=k S:=rfl
def ahK(S:St)(k):sq (some (.ret,S)) k=some (.ret,S):=rfl
def ahF(i)(S:St)(k):sq (some (.exit i,S)) k=some (.exit i,S):=rfl
def ahy(c:Prop)[Decidable c](a b:Option (Exit×St))(k):sq (if c then a else b) k=if c then sq a k else sq b k:=by split<;>rfl
def aib(i)(S:St):bl i (some (.normal,S))=some (.normal,S):=rfl
def ahJ(i)(S:St):bl i (some (.ret,S))=some (.ret,S):=rfl
def aho(i j)(S:St):bl i (some (.exit j,S))=if j=i then some (.normal,S)else some (.exit j,S):=rfl
def ah8(i)(c:Prop)[Decidable c](a b):bl i (if c then a else b)=if c then bl i a else bl i b:=by split<;>rfl
def Kd(k)(S:St)(ok)(e H):ov k S ok (some (e,H))=if ok e=true then some (.normal,⟨pQ k e S.env,H,S.bH⟩)else none:=rfl
def ahz(k)(S:St)(ok)(c:Prop)[Decidable c](a b):ov k S ok (if c then a else b)=if c then ov k S ok a else ov k S ok b:=by split<;>rfl
end
def nV(C:bu)(f:FuncId)(fn:Func)(n:Nat):Option Code:=cond (!C.dG f&&(ak1 n fn.ntmps&&ak1 n (fn.params.size+fn.nfree))) fn.body none
def RQ{C:bu}{f:FuncId}{c:Code}(h:nV C f fn n=some c):C.dG f=false/\fn.body=some c/\n<=fn.ntmps/\n<=fn.params.size+fn.nfree:=by unfold nV at h;cases d:C.dG f<;>cases a:ak1 n fn.ntmps<;>cases b:ak1 n (fn.params.size+fn.nfree)<;>simp[d,a,b]at h|-;exact⟨h,ajM a,ajM b⟩
def GG{C:bu}{f:FuncId}{c:Code}{args:List au}{r}(d:C.P.funcs[f]?=some fn)(a:nV C f fn args.length=some c)
  (h:(match ev C f c ⟨fN 0 args,H,[]⟩with
    |some (.normal,S)|some (.ret,S)=>match ja C (ev C) S.bH S.heap with
     |some b=>(ic C.P S.env b fn.results.toList).map (·,b)
     |none=>none
    |_=>none)=r):bB C (ev C) f args H=r:=by
 have⟨e,a,g⟩:=RQ a
 unfold bB
 rw[e,d]
 simp only[aeb,if_false,a]
 rw[if_pos g]
 exact h
def agQ{f c ks k S a}(h:rc f c S=some (.normal,a)):p9 rc f c ks k S=k ⟨eL ks a.env,a.heap,a.bH⟩:=by unfold p9;rw[h]
def acE{f c ks k S a b}(h:rc f c S=some (a,b))(d:a≠ .normal):p9 rc f c ks k S=some (a,b):=by unfold p9;rw[h];cases a<;>first|rfl|exact absurd rfl d
def je{α:Type}(g:α->List ab)(h:∀x,cw (g x)=true):∀l:List α,bA (l.map g)=true
 |[]=>rfl
 |a::l=>by simp[bA,h a,je g h l]
def bi(l:List Int):bA (l.map aC)=true:=je _ (fun _=>rfl) l
def qy{v z:Nat}{rows:List (List ab)}(h:bA rows=true):dY n (.live v z rows)= .live v z rows:=by show Ob.live v z _=_;rw[I1 h]
def ahw{v z:Nat}:dY n (.live v z [])= .live v z []:=rfl
def u5{α:Type}(g:α->List ab)(b:List Nat)(h:∀x,(!b.contains (g x).length&&cW b (g x))=true):∀l:List α,ij b (l.map g)=true
 |[]=>rfl
 |a::l=>by simp[ij,u5 g b h l];simpa using h a
def cr{k:Nat}(h:k<9223372036854775807):ads.wrap ((k:Int)+1)=((k+1:Nat):Int):=by rw[wrap_i64 (by omega) (by omega)];rfl
def fC{n:Int}(a: -9000000000000000000<=n)(b:n<=9000000000000000000):ads.wrap n=n:=wrap_i64 (by omega) (by omega)
def Ends(r:Option (Exit×St))(Q:Exit->St->Prop):Prop:=
 match r with
 |some (a,S)=>Q a S
 |none=>False
def abQ:da ap= .aj []:=rfl
def Vv(k:IntKind)(a:Int):da (.v (.int k a))= .v (.int k a):=rfl
def ahE(a:Bool):da (.v (.bool a))= .v (.bool a):=rfl
def adg(r:List (List ab)):da (.aj r)= .aj r:=rfl
def ah0(r:List (List ab)):da (.eX r)= .eX r:=rfl
def ahY(a b c d:Nat):da (.sl a b c d)= .sl a b c d:=rfl
def ah7(a b c d:Nat):da (.ptr a b c d)= .ptr a b c d:=rfl
def ahV(r:List (List ab))(a b:Nat):da (.aK r a b)= .aK r a b:=rfl
def aie(f:FuncId)(l:List ab):da (.bG f l)= .bG f l:=rfl
def Ends.some{a S}:Ends (some (a,S)) Q=Q a S:=rfl
def Ends.mono{r}{a:Exit->St->Prop}(h:Ends r Q)(c:∀b S,Q b S->a b S):Ends r a:=by
 unfold Ends at*;split at h
 .exact c _ _ h
 .exact h.elim
def Ends.sq{r}{k:St->Option (Exit×St)}{Q:Exit->St->Prop}(h:Ends r fun ex S=>match ex with| .normal=>Ends (k S) Q|ex=>Q ex S):Ends (sq r k) Q:=by
 unfold Ends at h;split at h
 .rename_i ex S;cases ex<;>first|exact h|(simp only[Go.Nx.sq];exact h)
 .exact h.elim
def Ends.bl{i:Nat}{r}{Q:Exit->St->Prop}(h:Ends r fun ex S=>match ex with| .exit j=>if j=i then Q .normal S else Q (.exit j) S|ex=>Q ex S):Ends (bl i r) Q:=by
 unfold Ends at h;split at h
 .rename_i ex S;cases ex with
  |exit j=>
   simp only[Go.Nx.bl];simp only at h;split
   .rename_i a;rw[if_pos a]at h;exact h
   .rename_i a;rw[if_neg a]at h;exact h
  |_=>exact h
 .exact h.elim
def Has(e:Env):Env->Prop
 |[]=>True
 |p::l=>e.get p.1=some p.2/\Has e l
def Lq{e:Env}:∀ {l:Env},Has e l↔ ∀p∈l,e.get p.1=some p.2
 |[]=>by simp[Has]
 |p::l=>by simp[Has,Lq (l:=l)]
def ahk(e:Env):Has e []=True:=rfl
def ahp(e:Env)(t:Nat)(x:au)(l:Env):Has e ((t,x)::l)=(e.get t=some x/\Has e l):=rfl
def FW:∀(e:Env) (a:List Nat) (t:Nat),t∈uX e a↔t∈a\/e.get t≠none
 |[],a,t=>by simp[uX,Env.get]
 |(s,x)::r,a,t=>by
  unfold uX
  split
  .rename_i h
   rw[FW r a t]
   simp only[Env.get]
   by_cases b:s=t
   .subst b
    simp at h
    simp[h]
   .simp[b]
  .rename_i h
   rw[FW r (a++[s]) t]
   simp only[Env.get,ahl,aks]
   by_cases b:s=t
   .subst b;simp
   .simp[b,ain b]
def agy{ks:List Nat}{t:Nat}{x:au}(a:t∈ks)(h:e.get t=some x):(eL ks e).get t=some x:=Hv ks e t x a h
def Has.pick{b l a:Env}(h:Has e l)(c:Has b a)(d:a.map (·.1)=l.map (·.1)):Has (eL (iI e) b) a:=by
 rw[Lq]at h c|-;intro p hp;refine agy ?_ (c p hp);have:p.1∈l.map (·.1):=by rw[<-d];exact akm hp
 have⟨q,f,g⟩:=aiE.1 this;refine(FW e [] p.1).2 (.inr ?_);rw[<-g,h q f];simp
section
variable{C:bu}{f:FuncId}{c:Code}
def gO(d:β->Env)(j:β->List Ob->Prop)(k:List (FuncId×List au))(l:β->Nat)(Q:Exit->St->Prop)(K:List Nat)(p:∀b,(d b).map (·.1)=K)
  (step:∀b S,Has S.env (d b)->j b S.heap->S.bH=k->Ends (ev C f c S) fun ex e=>match ex with| .normal=>∃a,l a<l b/\Has e.env (d a)/\j a e.heap/\e.bH=k|ex=>Q ex e):
  ∀b S,Has S.env (d b)->j b S.heap->S.bH=k->Ends (ev C f (.loop c) S) Q:=by
 have r:∀n b S,l b<n->Has S.env (d b)->j b S.heap->S.bH=k->Ends (ev C f (.loop c) S) Q:=by
  intro n
  induction n with
  |zero=>intro b S h;omega
  |succ n s=>
   intro b S hn g m o
   rw[UC]
   have i:=step b ⟨eL (iI S.env) S.env,S.heap,S.bH⟩ (g.pick g rfl) m o
   unfold Ends at i
   split at i
   .rename_i ex e q
    cases ex with
    |normal=>
     have⟨a,w,t,u,v⟩:=i
     rw[agQ q]
     exact s a _ (by omega) (g.pick t ((p a).trans (p b).symm)) u v
    |_=>rw[acE q (by simp)];exact i
   .exact i.elim
 exact fun b S g m o=>r (l b+1) b S (by omega) g m o
def im{i:Nat}(a:β->Env)(d:β->List Ob->Prop)(h:β->Nat)
  (step:∀b e G,Has e (a b)->d b G->Ends (ev C f c ⟨e,G,[]⟩) fun ex g=>match ex with| .normal=>∃k,h k<h b/\Has g.env (a k)/\d k g.heap/\g.bH=[]|ex=>(fun ex S=>match ex with| .exit j=>if j=i then Q .normal S else Q (.exit j) S|ex=>Q ex S) ex g)
  (b) (l:Has e0 (a b)) (m:d b G0) (n:∀x,(a x).map (·.1)=(a b).map (·.1)):Ends (bl i (ev C f (.loop c) ⟨e0,G0,[]⟩)) Q:=
 Ends.bl (gO a d [] h _ _ n (fun b S o p q=>by have⟨e,G,r⟩:=S;obtain rfl:r=[]:=q;exact step b e G o p) b _ l m rfl)
def ia{i:Nat}{k:St->Option (Exit×St)}(a:β->Env)(d:β->List Ob->Prop)(l:β->Nat)
  (step:∀b e G,Has e (a b)->d b G->Ends (ev C f c ⟨e,G,[]⟩) fun ex g=>match ex with| .normal=>∃m,l m<l b/\Has g.env (a m)/\d m g.heap/\g.bH=[]|ex=>(fun ex S=>match ex with| .exit j=>if j=i then Ends (k S) Q else Q (.exit j) S| .normal=>Ends (k S) Q|ex=>Q ex S) ex g)
  (b) (n:Has e0 (a b)) (o:d b G0) (p:∀x,(a x).map (·.1)=(a b).map (·.1)):Ends (sq (bl i (ev C f (.loop c) ⟨e0,G0,[]⟩)) k) Q:=
 Ends.sq (im a d l (fun b e G q r=>(step b e G q r).mono fun ex S h=>by cases ex<;>exact h) b n o p)
def JT{args:List au}(Q:au->List Ob->Prop)(d:C.P.funcs[f]?=some fn)(e:nV C f fn args.length=some c)
  (h:Ends (ev C f c ⟨fN 0 args,H,[]⟩) fun a S=>(a= .normal\/a= .ret)/\S.bH=[]/\∃r,ic C.P S.env S.heap fn.results.toList=some r/\Q r S.heap):∃r b,bB C (ev C) f args H=some (r,b)/\Q r b:=by
 unfold Ends at h
 split at h
 .rename_i a S g
  have⟨i,j,r,k,l⟩:=h
  refine⟨r,S.heap,GG d e ?_,l⟩
  rw[g]
  rcases i with rfl|rfl<;>simp[j,ja,k]
 .exact h.elim
def fnR{args:List au}{g:List Ob}(j:C.P.funcs[f]?=some fn)(k:nV C f fn args.length=some c)
  (h:Ends (ev C f c ⟨fN 0 args,H,[]⟩) fun i S=>(i= .normal\/i= .ret)/\S.bH=[]/\ic C.P S.env S.heap fn.results.toList=some r/\S.heap=g):bB C (ev C) f args H=some (r,g):=by
 have⟨o,p,l,m,n⟩:=JT (fun x y=>x=r/\y=g) j k (h.mono fun i S ⟨a,b,d,e⟩=>⟨a,b,r,d,rfl,e⟩)
 subst m n
 exact l
end
def tJ:Nat->List Oper->List (Nat×Oper)
 |_,[]=>[]
 |k,o::a=>(k,o)::tJ (k+1) a
def OY(all:List Oper):tag all (aiT all.length)=tJ 0 all:=by
 have b:∀(a pre:List Oper),all=pre++a->tag all (List.range' pre.length a.length)=tJ pre.length a:=by
  intro a;induction a with
  |nil=>intro pre h;rfl
  |cons o a c=>
   intro pre h;have d:all[pre.length]?=some o:=by rw[h];simp
   have:=c (pre++[o]) (by rw[h];simp);simp only[afu,ajN]at this;simp only[ahP,amc,tag,alD,d,ajJ,tJ];rw[<-this];rfl
 have:=b all [] rfl;rw[akf];exact this
def Tg{C:bu}{a b}{all:List Oper}:jn C ce ⟨[],none,a,b⟩ all e H=gB C ce ⟨[],none,a,b⟩ all H.length (tJ 0 all) e H:=by unfold jn qR;simp only;rw[OY]
def aaj{C:bu}{k:Nat}{ks a b}{all:List Oper}:jn C ce ⟨k::ks,none,a,b⟩ all e H=gB C ce ⟨k::ks,none,a,b⟩ all H.length (tag all (k::ks)) e H:=rfl
def TS{C:bu}{f:FuncId}{c:Code}{m:Nat}{args:List au}{own:List Ob}(d:C.P.funcs[f]?=some fn)(e:nV C f fn args.length=some c)
  (h:Ends (ev C f c ⟨fN 0 args,[],[]⟩) fun b S=>(b= .normal\/b= .ret)/\S.bH=[]/\∃x,ic C.P S.env S.heap fn.results.toList=some x/\(if m=2 then some (x,S.heap)else dF (m==1) S.heap x)=some (r,own)):aS C (bB C (ev C)) m f args=some (r,own):=by
 have⟨x,a,g,i⟩:=JT (H:=[]) (fun x a=>(if m=2 then some (x,a)else dF (m==1) a x)=some (r,own)) d e h
 unfold aS
 rw[g]
 exact i
def ahX(f:α->β)(l:List α):(l.map f).take l.length=l.map f:=ach (by simp)
def aea(a b:Int):(a==b)=decide (a=b):=by rw[ajY];simp
def ah1(a b:Int):(a !=b)=!decide (a=b):=by rw[bne,aea]
def ahD(k:Nat):((k:Int)<0)=False:=by simp
def ahx(n:Nat):(n+1<=n)=False:=by simp
def aik(n:Nat):((n:Int)+1=0)=False:=by simp;omega
def aic(f:α->β)(l:List α)(x:β):(l.map f++[x]).take (l.length+1)=l.map f++[x]:=ach (by simp)
def ml1:1<=maxLen:=by decide
def ml2:2<=maxLen:=by decide
def ml3:3<=maxLen:=by decide
def ml5:5<=maxLen:=by decide
def ah3{l:List α}:decide ((l.length:Int)=0)=l.isEmpty:=by cases l<;>simp;omega
def pq(H l:List α):(H++l)[H.length]?=l[0]?:=by rw[ad8 (adt _),ajx]
def jd(H l:List α)(k:Nat):(H++l)[H.length+k]?=l[k]?:=by rw[ad8 (by omega),akv]
def ahs(H l:List α)(x:α):(H++l).set H.length x=H++l.set 0 x:=by rw[ai9 (h:=adt _),ajx]
def aih(H l:List α)(k:Nat)(x:α):(H++l).set (H.length+k) x=H++l.set k x:=by rw[ai9 (h:=by omega),akv]
def ah4(a b:Env)(t:Nat):Env.get (a++b) t=match a.get t with|some x=>some x|none=>b.get t:=get_append a b t
end Go.Nx
namespace Go.Nx
def ax(x:aI):List ab:=[I x.peer,I x.aP,I x.state,B x.fork,B x.cJ,B x.token,B x.dd,B x.ask]
def aW(x:cu):List ab:=[I x.peer,I x.aP]
def aN(x:bY):List ab:=[I x.id,aG x.need,I x.state,I x.cH]
def dm(x:Edge):List ab:=[I x.a,I x.b]
def br(x:cU):List ab:=[I x.kind,I x.aP,I x.num]
def dX(x:cB):List ab:=[I x.src,I x.dst,I x.fP.kind,I x.fP.aP,I x.fP.num]
def Qz(x:Ev):List ab:=[I x.kind,I x.node,I x.id,I x.peer,aG x.need]
def dS(d:cP):List ab:=[I d.id,I d.phase,.aj (d.af.map ax)]
def cV(d:Dr):List ab:=[I d.ai.id,I d.ai.phase,.aj (d.ai.af.map ax),I d.aQ,aG d.need]
def bQ(b:ci):List ab:=[I b.last,.aj (b.aA.map aN)]
def aT(n:Nd):List ab:=[I n.dr.ai.id,I n.dr.ai.phase,.aj (n.dr.ai.af.map ax),I n.dr.aQ,aG n.dr.need,I n.book.last,.aj (n.book.aA.map aN),.aj (n.known.map aW),aG n.told,.aj (n.asked.map aW)]
def CU(l:List Int):bD (aG l)=true:=bi l
def bL(l:List aI):bA (l.map ax)=true:=je _ (fun x=>by simp[ax,cw,bD]) l
def bS(l:List cu):bA (l.map aW)=true:=je _ (fun x=>by simp[aW,cw,bD]) l
def bW(l:List bY):bA (l.map aN)=true:=je _ (fun x=>by simp[aN,cw,bD,CU]) l
def jX(l:List Edge):bA (l.map dm)=true:=je _ (fun x=>by simp[dm,cw,bD]) l
def ada(l:List cU):bA (l.map br)=true:=je _ (fun x=>by simp[br,cw,bD]) l
def Pt(l:List cB):bA (l.map dX)=true:=je _ (fun x=>by simp[dX,cw,bD]) l
def ahT(l:List Ev):bA (l.map Qz)=true:=je _ (fun x=>by simp[Qz,cw,bD,CU]) l
def xQ(l:List Nd):bA (l.map aT)=true:=je _ (fun x=>by simp[aT,cw,bD,CU,bL,bW,bS]) l
end Go.Nx
namespace Go.Nx
open Go
variable{o:Op}{f:FuncId}{S:St}{c:Code}{k:Nat}{x:au}{H':List Ob}{g:Option Nat×Bool}{P:Program}{eb:cY}{fn:Func}{Q:Exit->St->Prop}
structure pT where
 dst:Option Nat
 op:Op
 g:Option (Option Nat×Bool)
def iy(all:List Oper)(o:Oper):pT:=⟨o.dst,o.op,match o.guard with|some (j,w)=>some ((all[j]?).bind (·.dst),w)|none=>none⟩
def qh(e:Env):Option (Option Nat×Bool)->Option Bool
 |none=>some true
 |some (some t,w)=>match e.get t with
  |some (.c (.v (.bool b)))=>some (b==w)
  |some (.aM [])=>some false
  |_=>none
 |some (none,_)=>none
def NK{all:List Oper}{e:Env}{o:Oper}:nJ all e o.guard=qh e (iy all o).g:=by
 unfold iy;cases o.guard with
 |none=>rfl
 |some p=>have⟨j,w⟩:=p;simp only[nJ];cases(all[j]?).bind (·.dst)<;>rfl
def jM(bz:Nat->Bool)(C:bu)(ce:cY):List pT->Env->List Ob->Option (Env×List Ob)
 |[],e,H=>some (e,H)
 |o::os,e,H=>match qh e o.g with
  |some c=>if c=true then(match mz bz C ce o.op e H with
    |some (x,H')=>jM bz C ce os (dW e o.dst x) H'
    |none=>none)else jM bz C ce os (dW e o.dst unit) H
  |none=>none
def tM{bz:Nat->Bool}{C:bu}{ce:cY}{all:List Oper}:∀(l:List Oper) (e:Env) (H:List Ob),fH bz C ce all l e H=jM bz C ce (l.map (iy all)) e H
 |[],e,H=>rfl
 |o::os,e,H=>by
  simp only[fH,afL,jM]
  rw[NK]
  cases qh e (iy all o).g with
  |none=>rfl
  |some c=>
   simp only
   cases c with
   |true=>
    simp only[if_true]
    show(match mz bz C ce o.op e H with|some (x,H')=>fH bz C ce all os (dW e o.dst x) H'|none=>none)=_
    cases h:mz bz C ce o.op e H with
    |none=>simp[iy,h]
    |some r=>simp[iy,h,tM os]
   |false=>simp[iy,tM os]
def vX(C:bu)(ce:cY)(r:RI)(n0 i:Nat)(o:pT)(e:Env)(H:List Ob):Option (au×List Ob):=
 match qh e o.g with
 |some c=>if c=true then jD C ce r n0 i o.op e H else some (unit,H)
 |none=>none
def kZ(C:bu)(ce:cY)(r:RI)(n0:Nat):List (Nat×pT)->Env->List Ob->Option (Env×List Ob)
 |[],e,H=>some (e,H)
 |p::ps,e,H=>match vX C ce r n0 p.1 p.2 e H with
  |some (x,H')=>kZ C ce r n0 ps (dW e p.2.dst x) H'
  |none=>none
def ul{C:bu}{ce:cY}{r:RI}{all:List Oper}{n0:Nat}:∀(l:List (Nat×Oper)) (e:Env) (H:List Ob),gB C ce r all n0 l e H=kZ C ce r n0 (l.map fun p=>(p.1,iy all p.2)) e H
 |[],e,H=>rfl
 |p::ps,e,H=>by
  have:fy C ce r all n0 p.1 p.2 e H=vX C ce r n0 p.1 (iy all p.2) e H:=by
   simp only[fy,vX]
   rw[NK]
   rfl
  simp only[gB,afL,kZ]
  rw[this]
  cases vX C ce r n0 p.1 (iy all p.2) e H with
  |none=>rfl
  |some x=>exact ul ps _ _
def so (o:Oper):Oper:=⟨o.dst,o.op,0, "", #[],o.guard⟩
def bX:Code->Code
 | .region id d e=> .region id ⟨d.toList.map so⟩ e
 | .seq a b=> .seq (bX a) (bX b)
 | .cond p a b=> .cond p (bX a) (bX b)
 | .block id c=> .block id (bX c)
 | .loop c=> .loop (bX c)
 |c=>c
def RU{all:List Oper}{o:Oper}:iy (all.map so) (so o)=iy all o:=by
 have⟨d,op,a,pos,b,g⟩:=o;cases g with
 |none=>rfl
 |some p=>have⟨j,w⟩:=p;simp only[iy,so,adn];cases all[j]?<;>rfl
def adA{all:List Oper}(a:List Nat):tag (all.map so) a=(tag all a).map fun p=>(p.1,so p.2):=by
 induction a with
 |nil=>rfl
 |cons k a b=>
  simp only[tag,alD,adn]at b|-;cases all[k]? with
  |none=>simpa using b
  |some o=>simp only[ajJ,afL,b]
def aaO{all:List Oper}:ub (all.map so)=ub all:=by
 unfold ub;rw[List.getLast?_map];cases all.getLast? with
 |none=>rfl
 |some o=>have⟨d,op,a,pos,b,g⟩:=o;cases op<;>rfl
def Vu{C:bu}{all:List Oper}{e:Env}:rj C (all.map so) e=rj C all e:=by
 unfold rj;rw[List.getLast?_map];cases all.getLast? with
 |none=>rfl
 |some o=>
  have⟨d,op,b,pos,f,g⟩:=o;simp only[ajJ,so];cases op with
  |defer c=>have⟨a,args,h⟩:=c;cases a<;>cases d<;>cases g<;>rfl
  |_=>cases d<;>cases g<;>rfl
def aeS{all:List Oper}{a:List (Nat×Nat)}{e:Env}:qA (all.map so) a e=qA all a e:=by
 unfold qA;congr 1
 funext p
 simp only[adn];cases all[p.1]?<;>cases all[p.2]?<;>rfl
def Up{C:bu}{ce:cY}{f id:Nat}{all:List Oper}{a:Bool}:ln C ce f id (all.map so) a S=ln C ce f id all a S:=by
 have b:∀(l:List Oper) e H,fH (C.bz f) C ce (all.map so) (l.map so) e H=fH (C.bz f) C ce all l e H:=fun l e H=>by
  rw[tM,tM,ai6];congr 1
  exact ajm fun o _=>RU
 have d:∀r e H,jn C ce r (all.map so) e H=jn C ce r all e H:=fun r e H=>by
  unfold jn;rw[ul,ul,adA,ai6,ahL];congr 1
  exact ajm fun p _=>by simp[RU]
 unfold ln;rw[aaO,b all,d];have c:=b all.dropLast;rw[List.map_dropLast]at c;rw[c];simp only[Vu,aeS]
def Xv{C:bu}{e:jh}(d:∀f c S,e f (bX c) S=e f c S)(f:FuncId)(c:Code)(S:St):fF C e f (bX c) S=fF C e f c S:=by
 cases c with
 |region id g h=>exact Up
 |seq a b=>
  simp only[bX,fF];rw[d];congr 1
  funext S
  exact d f b S
 |cond p a b=>cases p<;>simp only[bX,fF];rw[d,d]
 |block id b=>simp only[bX,fF];rw[d]
 |loop b=>
  simp only[bX,fF,p9];rw[d];congr 1
  funext S
  exact d f (.loop b) _
 |_=>rfl
def D2{C:bu}:∀(n:Nat) (f:FuncId) (c:Code) (S:St),run C n f (bX c) S=run C n f c S
 |0,f,c,S=>rfl
 |n+1,f,c,S=>Xv (D2 n) f c S
def tU{C:bu}:ev C f (bX c) S=ev C f c S:=by
 cases h:ev C f c S with
 |some r=>have⟨n,hn⟩:=qY.1 h;exact qY.2 ⟨n,by rw[D2];exact hn⟩
 |none=>
  cases a:ev C f (bX c) S with
  |none=>rfl
  |some r=>have⟨n,hn⟩:=qY.1 a;rw[D2]at hn;rw[qY.2 ⟨n,hn⟩]at h;cases h
def ahO{C:bu}{ce:cY}{f id:Nat}{all:List Oper}:ln C ce f id all false S=if ub all=true then(match jM (C.bz f) C ce (all.dropLast.map (iy all)) S.env S.heap with
  |some (e,H)=>(match rj C all e with
   |some d=>some (.normal,⟨pQ (ng C f id) e S.env,H,d::S.bH⟩)
   |none=>none)
  |none=>none)else ov (ng C f id) S (fun _=>true) (jM (C.bz f) C ce (all.map (iy all)) S.env S.heap):=by
 unfold ln
 rw[tM,tM]
 split
 .cases jM (C.bz f) C ce (all.dropLast.map (iy all)) S.env S.heap<;>rfl
 .rfl
def aht{C:bu}{ce:cY}{f id:Nat}{all:List Oper}:ln C ce f id all true S=if ub all=true then none else ov (ng C f id) S (fun e=>qA all (C.ri f id).rs e) (jn C ce (C.ri f id) all S.env S.heap):=by
 unfold ln;split
 .rfl
 .rfl
def ahB{C:bu}{ce:cY}{a b}{all:List Oper}{e:Env}{H:List Ob}:jn C ce ⟨[],none,a,b⟩ all e H=kZ C ce ⟨[],none,a,b⟩ H.length ((tJ 0 all).map fun p=>(p.1,iy all p.2)) e H:=by rw[Tg,ul]
def ahH{C:bu}{ce:cY}{a b c}{all:List Oper}{e:Env}{H:List Ob}:jn C ce ⟨k::a,none,b,c⟩ all e H=kZ C ce ⟨k::a,none,b,c⟩ H.length ((tag all (k::a)).map fun p=>(p.1,iy all p.2)) e H:=by rw[aaj,ul]
def Ao(bz:Nat->Bool)(C:bu)(ce:cY)(os:List pT)(d:Option Nat)(e:Env):Option (au×List Ob)->Option (Env×List Ob)
 |some (x,H')=>jM bz C ce os (dW e d x) H'
 |none=>none
def xI(bz:Nat->Bool)(C:bu)(ce:cY)(os:List pT)(d:Option Nat)(op:Op)(e:Env)(H:List Ob):Option Bool->Option (Env×List Ob)
 |some true=>Ao bz C ce os d e (mz bz C ce op e H)
 |some false=>jM bz C ce os (dW e d unit) H
 |none=>none
section
variable{bz:Nat->Bool}{C:bu}{ce:cY}{os:List pT}{d:Option Nat}{op:Op}{e:Env}{H:List Ob}
def ahN:Ao bz C ce os d e (some (x,H'))=jM bz C ce os (dW e d x) H':=rfl
def aif:xI bz C ce os d op e H (some true)=Ao bz C ce os d e (mz bz C ce op e H):=rfl
def ahj:xI bz C ce os d op e H (some false)=jM bz C ce os (dW e d unit) H:=rfl
def ahU:jM bz C ce (⟨d,op,none⟩::os) e H=Ao bz C ce os d e (mz bz C ce op e H):=by simp only[jM,qh,if_true];cases mz bz C ce op e H<;>rfl
def ahI:jM bz C ce (⟨d,op,some g⟩::os) e H=xI bz C ce os d op e H (qh e (some g)):=by
 simp only[jM];cases h:qh e (some g)with
 |none=>rfl
 |some c=>
  cases c with
  |true=>simp only[if_true,xI];cases mz bz C ce op e H<;>rfl
  |false=>simp[xI]
def aia:jM bz C ce [] e H=some (e,H):=rfl
variable{r:RI}{n0 i:Nat}{ps:List (Nat×pT)}
def zG(C:bu)(ce:cY)(r:RI)(n0:Nat)(ps:List (Nat×pT))(d:Option Nat)(e:Env):Option (au×List Ob)->Option (Env×List Ob)
 |some (x,H')=>kZ C ce r n0 ps (dW e d x) H'
 |none=>none
def xG(C:bu)(ce:cY)(r:RI)(n0 i:Nat)(ps:List (Nat×pT))(d:Option Nat)(op:Op)(e:Env)(H:List Ob):Option Bool->Option (Env×List Ob)
 |some true=>zG C ce r n0 ps d e (jD C ce r n0 i op e H)
 |some false=>kZ C ce r n0 ps (dW e d unit) H
 |none=>none
def EE:zG C ce r n0 ps d e (some (x,H'))=kZ C ce r n0 ps (dW e d x) H':=rfl
def ahv:xG C ce r n0 i ps d op e H (some true)=zG C ce r n0 ps d e (jD C ce r n0 i op e H):=rfl
def aii:xG C ce r n0 i ps d op e H (some false)=kZ C ce r n0 ps (dW e d unit) H:=rfl
def ah5:kZ C ce r n0 ((i,⟨d,op,none⟩)::ps) e H=zG C ce r n0 ps d e (jD C ce r n0 i op e H):=by simp only[kZ,vX,qh,if_true];cases jD C ce r n0 i op e H<;>rfl
def ahS:kZ C ce r n0 ((i,⟨d,op,some g⟩)::ps) e H=xG C ce r n0 i ps d op e H (qh e (some g)):=by
 simp only[kZ,vX];cases h:qh e (some g)with
 |none=>rfl
 |some c=>
  cases c with
  |true=>simp only[if_true,xG];cases jD C ce r n0 i op e H<;>rfl
  |false=>simp[xG]
def Gl:kZ C ce r n0 [] e H=some (e,H):=rfl
end
def wC(P:Program)(e:Env)(H:List Ob)(o:Op):Option au->Option (au×List Ob)
 |some x=>some (x,H)
 |none=>cA P e H o
def xr(P:Program)(e:Env)(H:List Ob)(o:Op):Option (au×List Ob)->Option (au×List Ob)
 |some r=>some r
 |none=>wC P e H o (eE P e H o)
def Kg(ce:cY)(H:List Ob):Option au->Option (List au)->Option (au×List Ob)
 |some (.c (.bG g a)),some b=>ce g (b++a.map .c) H
 |_,_=>none
def ahG{C:bu}{ce:cY}{e:Env}{H:List Ob}:eU C ce o e H=(match o with
  | .call {callee:= .value f,args,.. }=>Kg ce H (aY e f) (pz (args.toList.map (aY e)))
  | .move (.global g)=>(um g).map fun l=>(.c l,H)
  |o=>xr C.P e H o (bc C.P e H o)):=by
 have a:∀o,plain o=true->eU C ce o e H=xr C.P e H o (bc C.P e H o):=fun o h=>by
  rw[pt h]
  unfold xr
  cases bc C.P e H o with
  |some r=>rfl
  |none=>
   simp only
   unfold wC
   cases eE C.P e H o<;>rfl
 cases o with
 |call c=>
  have⟨callee,args,b⟩:=c
  cases callee with
  |value f=>unfold Kg;rfl
  |_=>exact a _ rfl
 |move p=>
  cases p with
  |global g=>rfl
  |_=>exact a _ rfl
 |_=>exact a _ rfl
def ahA{e:Env}{H:List Ob}{r}:xr P e H o (some r)=some r:=rfl
def ahZ{e:Env}{H:List Ob}:xr P e H o none=wC P e H o (eE P e H o):=rfl
def ahR{e:Env}{H:List Ob}{x}:wC P e H o (some x)=some (x,H):=rfl
def ah6{e:Env}{H:List Ob}:wC P e H o none=cA P e H o:=rfl
def aid{ce:cY}{H:List Ob}{g a b}:Kg ce H (some (.c (.bG g a))) (some b)=ce g (b++a.map .c) H:=rfl
noncomputable def KK(C:bu)(f:FuncId)(a b:Code)(S:St)(v:Option au):Option (Exit×St):=wM v (ev C f a S) (ev C f b S)
def Xq{C:bu}{f t a b S}:ev C f (.cond (.tmp t) a b) S=KK C f a b S (S.env.get t):=afF f t a b S
def V3{C:bu}{f a b S c}:KK C f a b S (some (.c (.v (.bool c))))=if c=true then ev C f a S else ev C f b S:=rfl
def B6(a:Bool)(H:List Ob)(b:List Nat):Option (au×List Ob)->Option (au×List Ob)
 |some (r,own)=>if eo a b r own=true then some (eR H.length r,H++own.map (dY H.length))else none
 |none=>none
def IF(C:bu)(eb:cY)(f:FuncId)(H:List Ob):Option (List au×List Nat)->Option (au×List Ob)
 |some (a,b)=>B6 (C.md f==2) H b (aS C eb (C.md f) f a)
 |none=>none
def aD{C:bu}{args:List au}{H:List Ob}:aO C eb f args H=if C.md f=3\/args.any (eQ C)=true then eb f args H else IF C eb f H (dy H args):=by
 unfold aO;split
 .rfl
 .cases dy H args with
  |none=>rfl
  |some p=>have⟨a,b⟩:=p;simp only[IF];cases aS C eb (C.md f) f a<;>rfl
def lJ{C:bu}{H:List Ob}{a b}:IF C eb f H (some (a,b))=B6 (C.md f==2) H b (aS C eb (C.md f) f a):=rfl
def jQ{a:Bool}{H:List Ob}{b:List Nat}{r own}:B6 a H b (some (r,own))=if eo a b r own=true then some (eR H.length r,H++own.map (dY H.length))else none:=rfl
def ahq(all:List Oper)(d op a pos b):iy all ⟨d,op,a,pos,b,none⟩=⟨d,op,none⟩:=rfl
def aij(all:List Oper)(d op a pos b j w):iy all ⟨d,op,a,pos,b,some (j,w)⟩=⟨d,op,some ((all[j]?).bind (·.dst),w)⟩:=rfl
def be{C:bu}{m:Nat}{args:List au}{own:List Ob}{r:au}(b:C.P.funcs[f]?=some fn)(d:nV C f fn args.length=some c)
  (h:Ends (ev C f (bX c) ⟨fN 0 args,[],[]⟩) fun a S=>(a= .normal\/a= .ret)/\S.bH=[]/\∃x,ic C.P S.env S.heap fn.results.toList=some x/\(if m=2 then some (x,S.heap)else dF (m==1) S.heap x)=some (r,own)):aS C (bB C (ev C)) m f args=some (r,own):=
 TS b d (by rw[tU]at h;exact h)
def cG{C:bu}{args:List au}{H:List Ob}(Q:au->List Ob->Prop)(b:C.P.funcs[f]?=some fn)(d:nV C f fn args.length=some c)
  (h:Ends (ev C f (bX c) ⟨fN 0 args,H,[]⟩) fun a S=>(a= .normal\/a= .ret)/\S.bH=[]/\∃r,ic C.P S.env S.heap fn.results.toList=some r/\Q r S.heap):∃r H',bB C (ev C) f args H=some (r,H')/\Q r H':=
 JT Q b d (by rw[tU]at h;exact h)
def gv{C:bu}{args:List au}{H:List Ob}{a:au}{R:List Ob->Prop}(d:C.P.funcs[f]?=some fn)(e:nV C f fn args.length=some c)
  (h:Ends (ev C f (bX c) ⟨fN 0 args,H,[]⟩) fun b S=>(b= .normal\/b= .ret)/\S.bH=[]/\∃r,ic C.P S.env S.heap fn.results.toList=some r/\r=a/\R S.heap):∃H',bB C (ev C) f args H=some (a,H')/\R H':=by
 obtain⟨r,H',g,rfl,i⟩:=cG (fun r H'=>r=a/\R H') d e h
 exact⟨H',g,i⟩
def te{C:bu}{args:List au}{H:List Ob}{r:au}(b:C.P.funcs[f]?=some fn)(d:nV C f fn args.length=some c)
  (h:Ends (ev C f (bX c) ⟨fN 0 args,H,[]⟩) fun a S=>(a= .normal\/a= .ret)/\S.bH=[]/\ic C.P S.env S.heap fn.results.toList=some r/\S.heap=H'):bB C (ev C) f args H=some (r,H'):=
 fnR b d (by rw[tU]at h;exact h)
def ef{C:bu}{f:Nat}{a b:Code}(P:St->Prop)(e:Ends (ev C f a S) fun d c=>d= .normal/\P c)(g:∀c,P c->Ends (ev C f b c) Q):Ends (ev C f (.seq a b) S) Q:=by rw[iY];refine Ends.sq (e.mono fun d c h=>?_);obtain⟨rfl,h⟩:=h;exact g c h
def bp{C:bu}{f:Nat}{a b:Code}(L:Env)(J:List Ob->Prop)(d:Ends (ev C f a S) fun g c=>g= .normal/\Has c.env L/\c.bH=[]/\J c.heap)(h:∀e G,Has e L->J G->Ends (ev C f b ⟨e,G,[]⟩) Q):Ends (ev C f (.seq a b) S) Q:=
 ef (fun S=>Has S.env L/\S.bH=[]/\J S.heap) d fun⟨e,G,i⟩ ⟨j,k,l⟩=>by
  obtain rfl:i=[]:=k
  exact h e G j l
@[simp] noncomputable abbrev ay [W]:cY:=bB tz (ev tz)
def dz[W]{args:List au}{H:List Ob}(h:tz.md f=3):aO tz ay f args H=bB tz (ev tz) f args H:=by unfold aO;rw[if_pos (.inl h)]
def jb{a:Type}{l:List a}{x:a}(b:k<l.length)(c:l[k]=x):l.set k x=l:=by subst c;exact List.set_getElem_self b
def yI:∀l:List Int,(du l).length<=l.length
 |[]=>by simp[du]
 |x::r=>by
  have a:=yI r
  unfold du
  split
  .simp
  .rename_i y t h
   rw[h]at a
   split<;>simp at* <;>omega
end Go.Nx
namespace Go.Nx
attribute [simp] iY ahM Xq V3 eD ah9 ahn ahu ahr ahm ahC ahK ahF ahy aib ahJ aho ah8 Kd ahz ahO aht ub ng pQ ahU ahI aia ahN aif ahj ah5 ahS Gl EE ahv aii ahA ahZ ahR ah6 aid lJ jQ mz ahG ahB ahH tJ jD tag ahq aij qh bX so qB qA qP vH lT iK vD yq ac8 aiG bc Env.get aY dW n9 GS sS view qz re xf obj au.cells kN tzP tzR pL iI uX eL qd eE gT gj DG cA aD cE eQ dy df bV eS jg bD cw bA dF sM outs fw qj eo km fZ cW ij kW eR dZ qy ahw bi bL bS bW jX ada Pt ahT aG aC ja ic vG Ca abQ Vv ahE adg ah0 ahY ah7 ahV aie Du fN pz ow QA qS yz BP wP zb foldI ahk ahp pq jd ahs aih Ends.some aea ah1 ak9 List.getElem?_cons_succ List.getElem?_nil ahD ahx aik aic ml1 ml2 ml3 ml5 ah3 ah4 ahX xa Iv pw vj ue
end Go.Nx
namespace Go.Nx
open Go Go.Proofs Tryz
instance iW1:W:=W0
section
variable{f n a:Nat}{e:Env}{c:Code}{Γ0 Γ:az}{Q:Exit->St->Prop}{H:List Ob}{x:List ab}{rows:List (List ab)}{o:Oper}{K:Env->List Ob->Prop}
noncomputable def gU:bu:={P:=aaD,md:=fun _=>0,kt:=fun _=>none,ri:=bn,dG:=fun f=>!(ajt f 124||ajt f 195||ajt f 200),dH:=fun _ _ _=>none,kL:=fun _=>false,bz:=fun _ _=>false}
def ib(f):gU.kt f=none:=rfl
def fh(f):gU.bz f=fun _=>false:=rfl
def uj:gU.ri=bn:=rfl
def fa:gU.P=aaD:=rfl
def kI{a:Nat}:iZ gU f a e:=fun _ _ _=>rfl
def Li(P:Program):Bool:=(aiT P.funcs.size).all fun f=>match P.funcs[f]? with
 |some a=>a.body.isNone||enters P f
 |none=>true
def aef:Li aaD=true:=by kernel_rfl
def vV(f:FuncId)(b:Func)(c:Code)(h:aaD.funcs[f]?=some b)(d:b.body=some c):enters aaD f=true:=by have a:=aef;unfold Li at a;rw[af8]at a;have e:f<aaD.funcs.size:=(ajy.1 h).1;have:=a f (alu.2 e);rw[h]at this;simpa[d]using this
def agm:xE gU 124=true:=by kernel_rfl
def ael:xE gU 195=true:=by kernel_rfl
def abw:xE gU 200=true:=by kernel_rfl
def BF{C:bu}(h:xE C f=true){a:Func}(b:C.P.funcs[f]?=some a)(d:a.body=some c):codeOk C f (a.params.size+a.nfree) a.ntmps c=true:=by unfold xE at h;rw[b]at h;simp only[d,aa2]at h;exact h.1
def Nq:gS gU:={
 enters:=vV
 rl:=fun f j H r l _ h=>by cases h
 kL:=fun g j h=>by cases h
 follows:=by kernel_rfl
 code:=fun f m c i a b=>by
  have k:f=124\/f=195\/f=200:=by
   simp[gU]at i
   rcases Bool.eq_false_or_eq_true (ajt f 124)with d|d
   .exact .inl (ajs d)
   rcases Bool.eq_false_or_eq_true (ajt f 195)with e|e
   .exact .inr (.inl (ajs e))
   exact .inr (.inr (ajs (by simpa using i d e)))
  rcases k with rfl|rfl|rfl
  .exact BF agm a b
  .exact BF ael a b
  .exact BF abw a b}
def Sy:mh aaD (cE gU (ev gU)):=HN fun f args H r a h=>JK Nq h
def bE.ev{np:Nat}{S:St}(hc:codeOk gU f np n c=true)(h:Ends (ev gU f (bX c) S) Q):bE aaD n Γ0 c S Q:=by
 rw[tU]at h;unfold Ends at h;split at h
 .rename_i a b d;exact bE.Uk Nq hc kI ⟨a,b,d,h⟩
 .exact h.elim
def adW{P:Program}{a:Act}(I:aZ Γ H){x d f g:Operand}{t el:TypeId}{J:Nat}{j:Nat×List ab}{h k:Nat}{l m:Int}{q r s:IntKind}(K:se P t=some (el,J,j))(L:aY e x=some (bd h k 0 n))(M:aY e d=some (.c (.v (.int q l))))(N:aY e f=some (.c (.v (.int r m))))(O:aY e g=some (.c (.v (.int s n))))
  {z:Nat} (Q:obj H h k=some (z,rows)) (Y:0<=l) (hm:l<=m) (hn:m<=n) (u:o.op= .slice t x (some d) (some f) (some g)) (b:∀p∈o.op.operands,Good Γ e a p):∃y,(execOp a.eval o).run P Γ.w= .ok (.value y) Γ.w:=by
 have⟨Z,op,ty,pos,aa,guard⟩:=o
 simp only at u
 subst u
 have A:=b x (by simp[ac8]) _ L
 have B:=b d (by simp[ac8]) _ M
 have C:=b f (by simp[ac8]) _ N
 have D:=b g (by simp[ac8]) _ O
 simp only[aL,aB]at A B C D
 have⟨ad,j1,j2,j3⟩:=I.obj Q
 have⟨ae,af,E,cap,F,_,R,S⟩:=A
 rw[j1]at F
 cases F
 have⟨bytes,zz⟩:=j
 obtain⟨T,i,zv,U,rfl,_,_,_,_⟩:=jI K
 have V:(sizeOf el).run P Γ.w= .ok i.size Γ.w:=by simp[sizeOf,typeInfo,U]
 have ag:n<=cap:=by
  rcases S rfl with⟨_,_,rfl,_,h0⟩|⟨ah,b',_,_,hc,ai,_⟩<;>omega
 have G:=mm (P:=P) (w:=Γ.w) s (n:Int) cap .slice3Acap (by omega) (by omega)
 have W:=mm (P:=P) (w:=Γ.w) r m n .slice3B (by omega) (by omega)
 have X:=mm (P:=P) (w:=Γ.w) q l m.toNat .slice3C (by omega) (by omega)
 simp only[aim]at G
 refine⟨.slice (if n=l.toNat then E else E.map (·.add (l.toNat*i.size))) (m.toNat-l.toNat) (n-l.toNat),?_⟩
 simp[execOp,R,B.1,C.1,D.1,aju,run_underlying T,akK,ajS,V,G,W,X]
def Ft(e:aZ Γ H){h f z:Nat}(g:obj H h f=some (z,rows)):∀r∈rows,r.length=z:=by
 have⟨i,n,o,a⟩:=e.obj g;intro r c;cases d:i.base with
 |none=>simp only[d]at a;subst a;cases c
 |some b=>simp only[d]at a;have⟨c1,c2,c3,c4,c5,cells,T,p,q,j⟩:=a;have⟨k,l,m⟩:=alB c;rw[<-c1];exact(jP j (by rw[aae l,m])).1
def zn{a:Type}{l:List a}{x:a}(h:l[n]?=some x):n<l.length:=(aa3.1 h).1
def Cf(P S new:List (List ab))(h:P.length=a):dt (P++S) a new=P++new++S.drop new.length:=by subst h;unfold dt;rw[alt,List.drop_append,aji (by omega),akv,aiy]
def NU{Z:List (List ab)}(c:a<=rows.length)(b:Z.length=rows.length+1-a):dt (dt (rows.take a++Z) a [x]) (a+1) (rows.drop a)=rows.take a++x::rows.drop a:=by
 have t0:(rows.take a).length=a:=by simp;omega
 rw[Cf _ _ _ t0,Cf (rows.take a++[x]) _ _ (by rw[afu,t0];rfl),aj8];have e:∀k,Z.length<=k->Z.drop k=[]:=fun k=>aji;rw[e _ (by rw[ajV,b];simp;omega)];simp
def MA(d:a<n)(hn:n<=rows.length):dt (dt rows (a+1) ((rows.drop a).take (n-a))) a [x]=rows.take a++x::((rows.take n).drop a++rows.drop (n+1)):=by
 have t0:(rows.take a).length=a:=by simp;omega
 have e:rows=rows.take (a+1)++rows.drop (a+1):=(ajE _ _).symm
 have b:dt rows (a+1) ((rows.drop a).take (n-a))=rows.take (a+1)++(rows.drop a).take (n-a)++rows.drop (n+1):=by
  unfold dt;congr 2
  simp;omega
 have c:rows.take (a+1)=rows.take a++[rows[a]'(by omega)]:=by rw[aiB,aae (by omega)];rfl
 rw[b,c,aio,aio,Cf _ _ _ t0];simp[alv]
def vY(r:Option (Env×List Ob))(K:Env->List Ob->Prop):Prop:=
 match r with
 |some (e,H)=>K e H
 |none=>False
def oq:vY (some (e,H)) K=K e H:=rfl
def vY.spec{r:Option (Env×List Ob)}(h:vY r K):∃e H,r=some (e,H)/\K e H:=by
 unfold vY at h;split at h
 .exact ⟨_,_,rfl,h⟩
 .exact h.elim
def rD{id:Nat}{a:Array Oper}(f k:Nat){d:List (FuncId×List au)}(q:oU n a.toList=true)(g:a.toList[k]?=some o)(r:o.guard=none)
  (h:vY (jM (gU.bz f) gU (cE gU (ev gU)) ((a.toList.take k).map (iy a.toList)) e H) fun b i=>∃x c,jJ aaD Γ0 b i o.op x c/\vY (jM (gU.bz f) gU (cE gU (ev gU)) ((a.toList.drop (k+1)).map (iy a.toList)) (dW b o.dst x) c) fun j l=>Q .normal ⟨j,l,d⟩):bE aaD n Γ0 (.region id a false) ⟨e,H,d⟩ Q:=by
 have⟨b,i,m,x,c,s,t⟩:=h.spec
 have⟨j,l,p,u⟩:=t.spec
 rw[<-tM]at m p
 have v:=(aa3.1 g).1
 have w:=(aa3.1 g).2
 exact bE.Gg (C:=gU) Sy (by rw[<-w, <-afv v,ajE]) q r m s p u
def abc:enters aaD 195=true:=by kernel_rfl
def SA{p:List au}{r:au}{q:List Ob}(h:sV 4 [I 0,ap,I 0,I 0] p H=some (r,q)):Call aaD 195 p H r q:=by
 unfold sV at h;split at h
 case h_2=>cases h
 rename_i s t len i j;split at h
 case h_2=>cases h
 rename_i z1 rows e;split at h
 case isFalse=>cases h
 rename_i hc;cases h;simp only[aa2,ake,aky,decide_eq_true_eq]at hc;obtain⟨⟨⟨⟨⟨rfl,rfl⟩,c1⟩,c2⟩,c3⟩,c4⟩:=hc;obtain⟨a,rfl⟩:∃a:Nat,i=(a:Int):=⟨i.toNat,by omega⟩;obtain⟨b,rfl⟩:∃b:Nat,j=(b:Int):=⟨j.toNat,by omega⟩;have u:=eG e;have⟨n,hn⟩:=ak rows.length;rw[hn]at c3 c4|-;refine Ga abc func195 rfl (by simp[f195]) fun Γ B=>?_;refine bE.seq (bE.ev (f:=195) (np:=3) (by kernel_rfl) ?_);simp only[bX];simp[ib,fh,fa];refine bE.seq ⟨.normal,_,bP.Wb (C:=gU) Sy (bz:=gU.bz 195) ?_ (A:=[_,_,_,_,_]) rfl rfl rfl (fun g a' aa F G=>adW F pK.2.2.2.2.2.2.2.1 rfl rfl rfl rfl e c1 (by omega) c3 rfl G) (fun ad J=>?_),rfl,?_⟩
 .decide
 .cases J;rfl
 refine bE.ev (f:=195) (np:=3) (by kernel_rfl) ?_;simp only[bX];have K:((a:Int)=b)=False:=eq_false (by omega);have L:a<=n:=by omega
 have M:b<=n:=by omega
 have v:(rows.drop b).take (n-b)=rows.drop b:=ach (by simp;omega);have c:(rows.drop b).length=n-b:=by simp;omega
 have N:a+(n-b)<=n:=by omega
 have w:∀r∈rows.drop b,r.length=4:=fun r O=>Ft B e r (ajw O);have P:0<n-b\/0<n:= .inr (by omega);have⟨D,x⟩:=ak (rows.drop b);rw[x]at v c w;have y:(dt rows a D).length=n:=by simp[dt,hn,c];omega
 have⟨E,m⟩:=ak (dt rows a D);have Q:(H.set s (Ob.live t 4 E))[s]?=some (.live t 4 E):=afN (aa3.1 u).1;have z:n-(a+(n-b))=b-a:=by omega
 rw[m]at y;have⟨k,d⟩:=ak (a+(n-b));have R:(n<=k)=False:=eq_false (by omega);have S:k<=n:=by omega
 have T:k<n:=by omega
 have U:k+(b-a)<=n:=by omega
 have V:n-(b-a)=k:=by omega
 have W:dt E k (ago (b-a) [I 0,ap,I 0,I 0])=rows.take a++(D++ago (b-a) [I 0,ap,I 0,I 0]):=by
  have o:(rows.take a).length=a:=by simp;omega
  rw[<-m];unfold dt;rw[aj6 (by rw[afu,o,c,d];exact adt _),ach (by rw[afu,o,c,d];exact adt _),aji (l:=ajo a rows++D++_) (by rw[afu,afu,o,c,ajV,akF,hn];omega)];simp
 rw[d]at N z;have X:(∀r:List ab,r∈D->r.length=4)=True:=eq_true w;simp[-ajV,-afN,-ac7,d,R,S,T,U,V,W,sliceB,pG,ib,fh,fa,uj,K,u,hn,L,M,x,v,c,X,P,m,y,z,Q,L6,rJ];exact fun g ae Y Z=>⟨g,rfl,.refl g,Y,Z⟩
end
section
variable [W]
def kJ(C:bu)(a n:Nat):Bool:=(List.range' a n).all fun f=>ajt f 52||match C.P.funcs[f]? with
 |some b=>match b.body with
  |some c=>codeOk C f (b.params.size+b.nfree) b.ntmps c
  |none=>true
 |none=>true
def adh:kJ tz 0 60=true:=by kernel_rfl
def abz:kJ tz 60 60=true:=by kernel_rfl
def aeF:kJ tz 120 60=true:=by kernel_rfl
def VV:kJ tz 180 60=true:=by kernel_rfl
def Zm:kJ tz 240 60=true:=by kernel_rfl
def XU:kJ tz 300 60=true:=by kernel_rfl
def V4:kJ tz 360 60=true:=by kernel_rfl
def Sw:aaD.funcs.size=417:=by kernel_rfl
def mL{C:bu}{a n f:Nat}(h:kJ C a n=true)(d:a<=f)(e:f<a+n)(g:f≠52){b:Func}{c:Code}(i:C.P.funcs[f]?=some b)(j:b.body=some c):codeOk C f (b.params.size+b.nfree) b.ntmps c=true:=by unfold kJ at h;rw[af8]at h;have:=h f (List.mem_range'_1.2 ⟨d,e⟩);rw[i]at this;simp only[j,ai3,ake]at this;exact this.resolve_left g
def acU(f:Nat)(g:Func)(c:Code)(d:f≠52)(b:tz.P.funcs[f]?=some g)(e:g.body=some c):codeOk tz f (g.params.size+g.nfree) g.ntmps c=true:=by
 have h:f<417:=by have:=(ajy.1 b).1;rw[tzP,Sw]at this;exact this
 by_cases i:f<60
 .exact mL (a:=0) (n:=60) adh (by omega) (by omega) d b e
 by_cases j:f<120
 .exact mL (a:=60) (n:=60) abz (by omega) (by omega) d b e
 by_cases k:f<180
 .exact mL (a:=120) (n:=60) aeF (by omega) (by omega) d b e
 by_cases l:f<240
 .exact mL (a:=180) (n:=60) VV (by omega) (by omega) d b e
 by_cases m:f<300
 .exact mL (a:=240) (n:=60) Zm (by omega) (by omega) d b e
 by_cases o:f<360
 .exact mL (a:=300) (n:=60) XU (by omega) (by omega) d b e
 .exact mL (a:=360) (n:=60) V4 (by omega) (by omega) d b e
def aeK:tz.dG 52=true:=by kernel_rfl
def yP(f:FuncId)(a:Func)(c:Code)(b:tz.dG f=false)(d:tz.P.funcs[f]?=some a)(g:a.body=some c):codeOk tz f (a.params.size+a.nfree) a.ntmps c=true:=
 acU f a c (fun e=>by subst e;rw[aeK]at b;cases b) d g
def yb:aaD.follows .mixedOrders=true:=by kernel_rfl
end
end Go.Nx
namespace Go.Proofs
open Go.Shelf
def Tryz.ZG:amg:=⟨fun|189=>191|125=>259|257=>258|128=>310|129=>311|294=>301|295=>302|296=>303|297=>304|298=>305|299=>306|216=>307|300=>308|301=>309|328=>335|329=>336|330=>337|331=>338|332=>339|215=>340|343=>354|n=>n,fun|28=>30|3=>3|46=>248|0=>0|51=>349|53=>147|4=>4|183=>426|182=>425|131=>238|5=>5|9=>9|218=>450|222=>281|228=>466|229=>467|n=>n,fun|n=>n⟩
def Tryz.JF:amB aaD Tryz.ZG:={
 mixed:=by kernel_rfl
 f125:=Tryz.func259.trans (congrArg some (by kernel_rfl))
 f128:=Tryz.func310.trans (congrArg some (by kernel_rfl))
 f129:=Tryz.func311.trans (congrArg some (by kernel_rfl))
 f189:=Tryz.func191.trans (congrArg some (by kernel_rfl))
 f215:=Tryz.func340.trans (congrArg some (by kernel_rfl))
 f216:=Tryz.func307.trans (congrArg some (by kernel_rfl))
 f257:=Tryz.func258.trans (congrArg some (by kernel_rfl))
 f294:=Tryz.func301.trans (congrArg some (by kernel_rfl))
 f295:=Tryz.func302.trans (congrArg some (by kernel_rfl))
 f296:=Tryz.func303.trans (congrArg some (by kernel_rfl))
 f297:=Tryz.func304.trans (congrArg some (by kernel_rfl))
 f298:=Tryz.func305.trans (congrArg some (by kernel_rfl))
 f299:=Tryz.func306.trans (congrArg some (by kernel_rfl))
 f300:=Tryz.func308.trans (congrArg some (by kernel_rfl))
 f301:=Tryz.func309.trans (congrArg some (by kernel_rfl))
 f328:=Tryz.func335.trans (congrArg some (by kernel_rfl))
 f329:=Tryz.func336.trans (congrArg some (by kernel_rfl))
 f330:=Tryz.func337.trans (congrArg some (by kernel_rfl))
 f331:=Tryz.func338.trans (congrArg some (by kernel_rfl))
 f332:=Tryz.func339.trans (congrArg some (by kernel_rfl))
 f343:=Tryz.func354.trans (congrArg some (by kernel_rfl))
 t0:=ama
 a0:=Tryz.isAgg0
 z0:=Tryz.sizeOf0
 v0:=amr
 t3:=al9
 a3:=Tryz.isAgg3
 z3:=Tryz.sizeOf3
 v3:=amq
 t4:=al8
 a4:=Tryz.isAgg4
 z4:=Tryz.sizeOf4
 v4:=Tryz.zeroValue4
 t5:=al7
 a5:=Tryz.isAgg5
 z5:=Tryz.sizeOf5
 v5:=amp
 t9:=ala
 a9:=Tryz.isAgg9
 z9:=Tryz.sizeOf9
 v9:=amo
 t28:=Tryz.underlying30
 a28:=Tryz.isAgg30
 z28:=Tryz.sizeOf30
 v28:=Tryz.zeroValue30
 t46:=Tryz.underlying248
 a46:=Tryz.isAgg248
 z46:=Tryz.sizeOf248
 v46:=Tryz.zeroValue248
 t51:=alM
 a51:=Tryz.isAgg349
 z51:=Tryz.sizeOf349
 v51:=Tryz.zeroValue349
 t53:=Tryz.underlying147
 a53:=Tryz.isAgg147
 z53:=Tryz.sizeOf147
 v53:=Tryz.zeroValue147
 t131:=Tryz.underlying238
 a131:=Tryz.isAgg238
 z131:=Tryz.sizeOf238
 v131:=Tryz.zeroValue238
 t182:=Tryz.underlying425
 a182:=Tryz.isAgg425
 z182:=Tryz.sizeOf425
 v182:=Tryz.zeroValue425
 t183:=Tryz.underlying426
 a183:=Tryz.isAgg426
 z183:=Tryz.sizeOf426
 v183:=Tryz.zeroValue426
 t218:=Tryz.underlying450
 a218:=Tryz.isAgg450
 z218:=Tryz.sizeOf450
 v218:=Tryz.zeroValue450
 t222:=Tryz.underlying281
 a222:=Tryz.isAgg281
 z222:=Tryz.sizeOf281
 v222:=Tryz.zeroValue281
 t228:=Tryz.underlying466
 a228:=Tryz.isAgg466
 z228:=Tryz.sizeOf466
 v228:=Tryz.zeroValue466
 t229:=Tryz.underlying467
 a229:=Tryz.isAgg467
 z229:=Tryz.sizeOf467
 v229:=Tryz.zeroValue467}
end Go.Proofs
namespace Go.Nx
open Go Go.Proofs Go.Sort
def ab8{a:az}{b c:Nat}{x:Int}:cS a b c (aC x)↔a.w.cell? ⟨b,c,none⟩=some (.int .i64 x):=by
 simp only[aC,cS,aB,and_true];constructor
 .rintro⟨y,d,e,_⟩;rw[d,e]
 .intro h;exact⟨_,h,rfl,rfl⟩
def IK{c:az}{b:Nat}:∀ {off:Nat} {xs:List Int},bF c b 1 off (xs.map aC)↔ ∀j x,xs[j]?=some x->c.w.cell? ⟨b,off+j,none⟩=some (.int .i64 x)
 |off,[]=>by simp[bF]
 |off,x::xs=>by
  simp only[afL,bF,ab8,IK (off:=off+1) (xs:=xs)]
  constructor
  .rintro⟨_,d,e⟩j y a
   cases j with
   |zero=>simp at a;subst a;simpa using d
   |succ j=>
    have:=e j y (by simpa using a)
    rwa [show off+(j+1)=off+1+j by omega]
  .intro h
   refine⟨rfl,by simpa using h 0 x rfl,fun j y a=>?_⟩
   have:=h (j+1) y (by simpa using a)
   rwa [show off+(j+1)=off+1+j by omega]at this
def Vm{a:az}{H:List Ob}(l:aZ a H){h i:Nat}{A f:List Int}(B:H[h]?=some (.live i 1 (A.map aC))){d:ft}{b:Nat}(o:a.hs[h]?=some (d,i))(p:d.base=some b)(W:f.length=A.length)(n:Nat)(g:Array Obj):
  ∃Γ',Γ'.w=akg (putRow (ajl .i64) (ajI a.w n) b d.off f.toArray) g/\a.cL Γ'/\aZ Γ' (H.set h (.live i 1 (f.map aC))):=by
 have⟨Y,C,M,D⟩:=l.ob h _ B
 rw[o]at C
 cases C
 simp only[p]at D
 have⟨q,r,N,O,P,cells,T,⟨s,Q,R⟩,E,Z⟩:=D
 have G:=l.X b r
 have S:(putRow (ajl .i64) (ajI a.w n) b d.off f.toArray).heap[b]?=some (.cells (putCells (ajl .i64) d.off f.toArray cells) T s):=by
  simp[putRow,mapBlock,ajI,ajO,Q,onCells]
 have t:(putRow (ajl .i64) (ajI a.w n) b d.off f.toArray).heap.size=a.w.heap.size:=by simp[putRow,mapBlock,ajI]
 have u:∀c,c<a.w.heap.size->c≠b->(akg (putRow (ajl .i64) (ajI a.w n) b d.off f.toArray) g).heap[c]?=a.w.heap[c]?:=by
  intro c hc v
  rw[heap_grow_old _ _ (by rw[t];exact hc)]
  have:b≠c:=fun e=>v e.symm
  simp[putRow,mapBlock,ajI,ajO,this]
 have I:(akg (putRow (ajl .i64) (ajI a.w n) b d.off f.toArray) g).heap[b]?=some (.cells (putCells (ajl .i64) d.off f.toArray cells) T s):=by
  rw[heap_grow_old _ _ (by rw[t];exact G),S]
 have J:a.Le (a.bJ (akg (putRow (ajl .i64) (ajI a.w n) b d.off f.toArray) g) h d i b):=
  p6 o (.inr ⟨rfl,rfl⟩) (fun c z m=>u c (l.F c z m) (fun e=>N z (e▸m)))
 have y:a.w.heap.size<=(akg (putRow (ajl .i64) (ajI a.w n) b d.off f.toArray) g).heap.size:=by
  simp only[akg,aj0,t]
  omega
 have K:(putCells (ajl .i64) d.off f.toArray cells).size=cells.size:=by simp[putCells]
 refine⟨a.bJ (akg (putRow (ajl .i64) (ajI a.w n) b d.off f.toArray) g) h d i b,rfl,⟨J,rfl,rfl,rfl,y,fun c hc k=>u c hc (fun e=>k (e▸r)),fun c z m=> .inl m,fun c k=>?_⟩,?_⟩
 .rcases k with k|k
  .exact .inl k
  .exact .inl (k▸r)
 .simp only[ahL]at O
  refine qc (Γ':=a.bJ (akg (putRow (ajl .i64) (ajI a.w n) b d.off f.toArray) g) h d i b) l B o J rfl rfl (fun c=>ak7) y p (fun c hc v=>u c hc v) (.inl p) (aiM G y)
   M (by simp;omega) P q _ T ⟨s,I,by rw[K];exact R⟩ (by rw[K];exact E) ?_
  rw[q,IK]
  intro j x L
  have U:j<f.length:=(aa3.1 L).1
  rw[show(a.bJ (akg (putRow (ajl .i64) (ajI a.w n) b d.off f.toArray) g) h d i b).w=akg (putRow (ajl .i64) (ajI a.w n) b d.off f.toArray) g from rfl,cell_of I]
  rw[q]at E
  have hc:d.off+j<cells.size:=by omega
  have V:f[j]=x:=(aa3.1 L).2
  simp[putCells,hc,U,V]
def CM(x:Int):∀l,(kA x l).Perm (x::l)
 |[]=> .refl _
 |y::a=>by
  unfold kA
  split
  .exact .refl _
  .exact ((CM x a).cons y).trans (.swap x y a)
def JD:∀l,(gA l).Perm l
 |[]=> .refl _
 |x::a=>(CM x _).trans ((JD a).cons x)
def OT(x:Int):∀ {l:List Int},l.Pairwise (· <= ·)->(kA x l).Pairwise (· <= ·)
 |[],_=>by simp[kA]
 |y::c,h=>by
  rw[af7]at h
  unfold kA
  split
  .rename_i b
   rw[af7,af7]
   exact⟨fun z a=>by
    rcases ae3.1 a with rfl|a
    .exact b
    .exact Int.le_trans b (h.1 z a),h⟩
  .rename_i b
   rw[af7]
   refine⟨fun z a=>?_,OT x h.2⟩
   rcases ae3.1 ((CM x c).mem_iff.1 a)with rfl|a
   .omega
   .exact h.1 z a
def OG:∀l,(gA l).Pairwise (· <= ·)
 |[]=> .nil
 |x::a=>OT x (OG a)
def WB(l:List Int):(l.mergeSort fun x y=>decide (x<=y))=gA l:=by refine List.Perm.eq_of_pairwise (le:=(· <= ·)) (fun a b _ _ d e=>Int.le_antisymm d e) ?_ (OG l) ((List.mergeSort_perm l _).trans (JD l).symm);have:=List.pairwise_mergeSort (le:=fun x y:Int=>decide (x<=y)) (fun a b c d e=>by simp at*;omega) (fun a b=>by simp;omega) l;simpa using this
def Nz:∀ {rows:List (List ab)} {l:List Int},oV rows=some l->rows=l.map aC
 |[],l,h=>by simp[oV]at h;subst h;rfl
 |r::c,l,h=>by
  unfold oV at h
  split at h
  .rename_i a;cases a
  .rename_i n d a
   cases a
   split at h
   .rename_i e b
    cases h
    rw[Nz b]
    rfl
   .cases h
  .cases h
def X3:enters aaD 191=true:=by kernel_rfl
def Rt{p:List au}{H:List Ob}{r:au}{q:List Ob}(h:tq p H=some (r,q)):Call aaD 191 p H r q:=by
 unfold tq at h;split at h
 case h_2=>cases h
 rename_i l;refine⟨X3,fun c d s hc=>?_⟩;simp only[bU,aL]at hc;obtain⟨y,aa,e1,i,rfl⟩:=hc;obtain rfl:s= #[y]:=by cases s;simp_all
 unfold Di at h;split at h
 .cases h;simp only[aB]at i;obtain⟨rfl,_⟩:=i;refine(alK Tryz.JF none 0 c.w).mono fun e t ⟨f,g⟩=>?_;subst f g;exact⟨_,c,rfl,rfl,.refl c,d,⟨#[],rfl,rfl⟩⟩
 .rename_i o F len;split at h
  case h_2=>cases h
  rename_i rows G;split at h
  case h_2=>cases h
  rename_i l I;split at h
  case isFalse=>cases h
  rename_i u;cases h;simp only[aa2,ake,aky]at u;obtain⟨rfl,ab⟩:=u;have J:=Nz I;subst J;have k:=eG G;simp only[aB]at i;obtain⟨v,ad,a,cap,x,h2,rfl,K⟩:=i;have⟨i2,z,ae,L⟩:=d.ob o _ k;rw[x]at z;cases z;rcases akU l.length with A|A
  .have M:l=[]:=ae4 A;subst M;refine(alK Tryz.JF a cap c.w).mono fun e t ⟨f,g⟩=>?_;subst f g;refine⟨_,c,rfl,rfl,.refl c,?_,⟨#[],rfl,rfl⟩⟩
   have:H.set o (.live F 1 ((gA []).map aC))=H:=by
    apply ajr;intro j;by_cases m:j=o
    .subst m;rw[afN (aa3.1 k).1,k];rfl
    .rw[aay (fun e=>m e.symm)]
   rw[this];exact d
  .rcases K rfl with⟨_,_,_,_,c5⟩|⟨b,a',c1,c2,c3,c4,c5⟩
   .omega
   .have N:=c5 (by omega);subst N c2;simp only[akS,aiw];have B:=L;simp only[c1]at B;have⟨O,P,af,Q,b5,cells,ag,R,S,C⟩:=B;rw[O]at C S;have T:=IK.1 C;simp only[ahL]at Q
    have U:Holds (ajl .i64) c.w b v.off l.toArray:=fun j m=>by
     have D:j<l.length:=by simpa using m
     refine⟨?_,R.free (by omega)⟩;have:=T j l[j] (by simp[D]);rw[this];simp[D]
    have E:=Go.Proofs.Any.slices_Sort_int Tryz.JF b v.off cap l c.w U (d.X b P) (by omega);rw[WB]at E;refine E.mono fun e t ⟨f,n,V,g⟩=>?_;have⟨W,Y,Z,k3⟩:=Vm d k x c1 (JD l).length_eq n V;exact⟨_,W,f,by rw[Y,g],Z,k3,⟨#[],rfl,rfl⟩⟩
 .cases h
end Go.Nx
namespace Go.Nx
open Go Go.Proofs Tryz
def afP:enters aaD 124=true:=by kernel_rfl
def Tc(args:Array Value)(w:World):(callFunc 196 args).run aaD w=((akA #[59,59] #[4] args).run aaD w).andThen fun v a=> .ok (.value v) a:=run_callFunc_extern func196 (by kernel_rfl) (by kernel_rfl) (by kernel_rfl) (by kernel_rfl) args w
def Qx{vs:List au}{H:List Ob}{r:au}{M:List Ob}(h:lS 8 vs H=some (r,M)):Call aaD 124 vs H r M:=by
 unfold lS at h;split at h
 case h_2=>cases h
 rename_i g p n i O aa;split at h
 case h_2=>cases h
 rename_i z1 rows z2 x m ad;split at h
 case isFalse=>cases h
 rename_i hc;simp only[aa2,ake,aky,decide_eq_true_eq,afj,af8]at hc;obtain⟨⟨⟨⟨⟨⟨⟨⟨rfl,rfl⟩,c1⟩,c2⟩,c3⟩,c4⟩,c5⟩,c6⟩,c7⟩:=hc;have ae:g≠O:=fun ai=>by rw[ai,Nat.beq_refl]at c2;cases c2
 obtain⟨a,rfl⟩:∃a:Nat,i=(a:Int):=⟨i.toNat,by omega⟩;have P:a<=n:=by omega
 have e:=eG m;have q:=eG ad;have w1:ads.wrap ((n:Int)+1)=((n+1:Nat):Int):=cr (by omega);have w2:ads.wrap ((a:Int)+1)=((a+1:Nat):Int):=cr (by omega);have s:(x.length=8)=True:=eq_true c4;refine Ga afP func124 rfl (by simp[f124]) fun Γ af=>?_;have Q:∀r∈rows,r.length=8:=Ft af m;have aj:((a:Nat):Int).toNat=a:=by omega
 rw[aj]at h;refine bE.seq (bE.ev (f:=124) (np:=3) (by kernel_rfl) ?_);simp only[bX];simp[ib,fh,fa];refine bE.seq (bE.ev (f:=124) (np:=3) (by kernel_rfl) ?_);simp only[bX];simp[ib,fh,fa,e,P];refine bE.seq (bE.ev (f:=124) (np:=3) (by kernel_rfl) ?_);simp only[bX];simp[ib,fh,fa];refine bE.seq (bE.ev (f:=124) (np:=3) (by kernel_rfl) ?_);simp only[bX];simp[ib,fh,fa];refine bE.seq (bE.ev (f:=124) (np:=3) (by kernel_rfl) ?_);simp only[bX];simp[ib,fh,fa];by_cases al:a=n
 .subst al;refine bE.uT (bE.ev (f:=124) (np:=3) (by kernel_rfl) ?_);simp only[bX];by_cases d2:a=rows.length
  .rw[if_pos d2]at h;injection h with h;injection h with b d;have e0:rows.take a++x::rows.drop a=rows++[x]:=by rw[d2,aiv,amf]
   rw[e0]at d;have j:(a+1<=rows.length)=False:=eq_false (by omega);have t:a+1<=maxLen:=by unfold maxLen;omega
   have o:(a+1)*32<=140737488355328:=by omega
   have u:rows.take a=rows:=by rw[d2,aiv]
   simp[ib,fh,fa,e,q,s,j,t,o,u,c1];intro k y R w;have⟨A,j1,j2,j3⟩:=R.ux;rw[<-b, <-d];exact⟨A,j1,j2,j3,jZ j2.le _ _ w⟩
  .rw[if_neg d2]at h;injection h with h;injection h with b d;have j:a+1<=rows.length:=by omega
   have S:(rows.take a).drop a=[]:=by simp
   rw[S]at d;have e2:dt rows a [x]=rows.take a++x::rows.drop (a+1):=by simp[dt]
   simp[ib,fh,fa,e,q,s,j,e2];intro k y R w;rw[<-b, <-d];exact⟨k,rfl,.refl k,R,w⟩
 have am:a<n:=by omega
 have dn:((a:Int)=n)=False:=eq_false (by omega);refine bE.seq (bE.ev (f:=124) (np:=3) (by kernel_rfl) ?_);simp only[bX];simp[ib,fh,fa,dn];have⟨c,T,aq,ar⟩:=Ou af m;have U:0<rows.length:=by omega
 refine bE.aJ [0,1,2,7,8] ?_;simp;refine bE.sq (bE.seq ?_);apply rD 124 4
 .decide
 .rfl
 .rfl
 simp[-ac7,oq,fh,fa,w1];refine⟨_,_,jJ.cap (jI pK.2.2.2.2.2.2.1).1 rfl m U T,?_⟩;simp[-ac7,oq];refine bE.aJ [0,1,2,7,8,31] ?_;simp[-ac7];refine bE.cond (v:=decide (c<n+1)) rfl (fun ag=>?_) (fun ah=>?_)
 .have ag:c<n+1:=of_decide_eq_true ag;have hn:n=rows.length:=by omega
  rw[if_pos hn]at h;injection h with h;injection h with b d;have j:n<=rows.length:=by omega
  have t:a<=rows.length:=by omega
  refine bE.seq ?_;apply rD 124 8
  .decide
  .rfl
  .rfl
  have w3:ads.wrap (((n+1:Nat):Int)-(a:Int))=((n+1-a:Nat):Int):=by rw[wrap_i64]<;>omega
  simp[-ac7,oq,fh,fa,w1,w3,e,P];refine⟨_,_,jJ.Ll pK.2.2.2.2.2.2.1 Fc.1 rfl rfl m t T (by omega) (by omega) (by omega) (by decide) (fun r b=>Q r (ajd b)) rfl (by decide),?_⟩;have V:((n+1-a:Nat):Int).toNat=n+1-a:=by omega
  rw[V];have S:a+(n+1-a)=n+1:=by omega
  rw[S];have⟨Y,l⟩:=ak (rows.take a++ago (n+1-a) [I 0,I 0,I 0,B false,B false,B false,B false,B false]);have z:Y.length=n+1:=by rw[<-l];simp;omega
  rw[l];refine bE.aJ [0,1,2,7,9] ?_;have b0:=zn e;have b2:=zn q;have⟨N,C⟩:=ak H.length;rw[C]at b0 b2|-;have q0:∀K,(H++[K])[g]?=some (.live p 8 rows):=fun K=>by rw[aaK (by omega)];exact e
  have w:∀K,(H++[K])[O]?=some (.live aa 8 [x]):=fun K=>by rw[aaK (by omega)];exact q
  have qN:∀K,(H++[K])[N]?=some K:=fun K=>by rw[<-C];simp
  have sN:∀K L,(H++[K]).set N L=H++[L]:=fun K L=>by rw[<-C];simp
  have o:a<=n+1:=by omega
  have u:a+(n+1-a)<=n+1:=by omega
  have D:([x]:List (List ab)).take (n+1-a)=[x]:=ach (by simp;omega);simp[-ac7];have⟨Y2,W⟩:=ak (dt Y a [x]);have an:Y2.length=n+1:=by rw[<-W];simp[dt,z];omega
  have E:(rows.drop a).take (n-a)=rows.drop a:=ach (by simp;omega);have k7:(rows.drop a).take (n+1-(a+1))=rows.drop a:=ach (by simp;omega);have X:a+1<=n+1:=by omega
  have k9:a+1+(n+1-(a+1))<=n+1:=by omega
  have F:a+(n-a)<=rows.length:=by omega
  have Z:a+1+(n-a)<=n+1:=by omega
  have kd:(∀r:List ab,r∈rows.drop a->r.length=8)=True:=eq_true fun r b=>Q r (ajw b);have fin:dt Y2 (a+1) (rows.drop a)=rows.take a++x::rows.drop a:=by rw[<-W, <-l];exact NU t (by rw[akF];omega)
  refine bE.ev (f:=124) (np:=3) (by kernel_rfl) ?_;simp only[bX];simp[-ac7,ib,fh,fa,uj,w2,q0,w,qN,sN,z,W,an,s,j,t,o,D,E,X,Z,kd,fin,P,copyV];intro k y g1 G;have o1:obj (H++[Ob.live 0 8 (rows.take a++x::rows.drop a)]) g p=some (8,rows):=by unfold obj;rw[q0];simp
  have o2:obj (H++[Ob.live 0 8 (rows.take a++x::rows.drop a)]) N 0=some (8,rows.take a++x::rows.drop a):=by unfold obj;rw[qN];simp
  have⟨A,j1,j2,j3,j4⟩:=Lz (len:=n+1) g1 o1 o2 (by omega);have eH:((H++[Ob.live 0 8 (rows.take a++x::rows.drop a)]).set g (.live (p+1) 8 (rows.take a++x::rows.drop a))).set N .dead=M:=by rw[<-d,ajT _ _ (by omega),ai9 _ _ (by simp;omega)];simp[C]
  rw[eH]at j3;rw[<-b];exact⟨A,j1,j2,j3,j4 y G⟩
 .have ah:¬(c<n+1):=of_decide_eq_false ah;refine bE.skip (.inl ⟨rfl,?_⟩);refine bE.aJ [0,1,2,7,8] ?_;simp[-ac7];refine bE.seq ?_;apply rD 124 4
  .decide
  .rfl
  .rfl
  simp[-ac7,oq,fh,fa,w1];refine⟨_,_,jJ.upto pK.2.2.2.2.2.2.1 rfl rfl m U T ⟨by omega,by omega⟩,?_⟩;simp[-ac7];refine bE.aJ [0,1,2,7,8] ?_;simp[-ac7];refine bE.sq (bE.seq ?_);apply rD 124 6
  .decide
  .rfl
  .rfl
  have j:a+1<=n+1:=by omega
  have o:a<=n+1:=by omega
  have V:((n+1:Nat):Int).toNat=n+1:=by omega
  simp[-ac7,oq,fh,fa,w2,e,j,V];refine⟨_,_,jJ.apart pK.2.2.2.2.2.2.1 rfl Tc rfl rfl ad m ae.symm (by decide) (by simp) U (by decide) (by omega),?_⟩;simp[-ac7,oq];refine bE.aJ [0,1,2,7,8,68] ?_;simp[-ac7];have⟨Y,l⟩:=ak (dt rows (a+1) ((rows.drop a).take (n-a)));have tl:((rows.drop a).take (n-a)).length=n-a:=by simp;omega
  have z:n+1<=Y.length:=by rw[<-l];simp[dt];omega
  have fin:dt Y a [x]=rows.take a++x::((rows.take n).drop a++rows.drop (n+1)):=by rw[<-l];exact MA am c1
  have g0:∀K,(H.set g K)[g]?=some K:=fun K=>afN (aa3.1 e).1;have G:∀K,(H.set g K)[O]?=some (.live aa 8 [x]):=fun K=>by rw[aay ae];exact q
  have u:a+(n+1-a)=n+1:=by omega
  have D:([x]:List (List ab)).take (n+1-a)=[x]:=ach (by simp;omega);have E:min (n-a) (n+1-a)=n-a:=by omega
  have k7:a+(n-a)<=rows.length:=by omega
  have X:a+1<=rows.length:=by omega
  have k9:0<n-a:=by omega
  have kd:(∀r:List ab,r∈(rows.drop a).take (n+1-a)->r.length=8)=True:=eq_true fun r b=>Q r (ajw (ajd b));refine bE.ev (f:=124) (np:=3) (by kernel_rfl) ?_;simp only[bX];by_cases d3:n=rows.length
  .rw[if_pos d3]at h;injection h with h;injection h with b d;have F:(n+1<=rows.length)=False:=eq_false (by omega);simp[-afN,-ac7,ib,fh,fa,uj,w2,e,j,o,u,D,E,k7,X,k9,F,s,copyV,td,l,z,fin,g0,G];intro k y J p2;have e8:(rows.take n).drop a++rows.drop (n+1)=rows.drop a:=by rw[d3,aiv,aji (i:=rows.length+1) (by omega),aeo]
   rw[e8]at J;have⟨A,j1,j2,j3,j4⟩:=SD J (show obj (H.set g (Ob.live p 8 (rows.take a++x::rows.drop a))) g p=some (8,rows.take a++x::rows.drop a)by unfold obj;rw[g0];simp);have⟨ao,i1,i2,i3⟩:=j3.ux;rw[ajB]at i3;rw[<-b, <-d];exact⟨ao,i1.trans j1,j2.trans i2,i3,jZ i2.le _ _ (j4 _ y p2)⟩
  .rw[if_neg d3]at h;injection h with h;injection h with b d;have F:n+1<=rows.length:=by omega
   have Z:((rows.drop a).take (n+1-a)).take (n-a)=(rows.drop a).take (n-a):=by rw[alZ,E]
   have ap:a+1+(n-a)<=rows.length:=by omega
   simp[-afN,-alZ,-ac7,ib,fh,fa,uj,w2,e,j,o,u,D,F,Z,ap,kd,s,copyV,l,z,fin,g0,G];intro k y J p2;rw[<-b, <-d];exact⟨k,rfl,.refl k,J,p2⟩
def aaW:enters aaD 200=true:=by kernel_rfl
def Uo(args:Array Value)(w:World):(callFunc 264 args).run aaD w=((akA #[68,68] #[4] args).run aaD w).andThen fun v a=> .ok (.value v) a:=run_callFunc_extern func264 (by kernel_rfl) (by kernel_rfl) (by kernel_rfl) (by kernel_rfl) args w
def NH{vs:List au}{H:List Ob}{r:au}{J:List Ob}(h:lS 2 vs H=some (r,J)):Call aaD 200 vs H r J:=by
 unfold lS at h;split at h
 case h_2=>cases h
 rename_i g p n i M aa;split at h
 case h_2=>cases h
 rename_i z1 rows z2 x m ad;split at h
 case isFalse=>cases h
 rename_i hc;simp only[aa2,ake,aky,decide_eq_true_eq,afj,af8]at hc;obtain⟨⟨⟨⟨⟨⟨⟨⟨rfl,rfl⟩,c1⟩,c2⟩,c3⟩,c4⟩,c5⟩,c6⟩,c7⟩:=hc;have ae:g≠M:=fun ai=>by rw[ai,Nat.beq_refl]at c2;cases c2
 obtain⟨a,rfl⟩:∃a:Nat,i=(a:Int):=⟨i.toNat,by omega⟩;have O:a<=n:=by omega
 have e:=eG m;have q:=eG ad;have w1:ads.wrap ((n:Int)+1)=((n+1:Nat):Int):=cr (by omega);have w2:ads.wrap ((a:Int)+1)=((a+1:Nat):Int):=cr (by omega);have s:(x.length=2)=True:=eq_true c4;refine Ga aaW func200 rfl (by simp[f200]) fun Γ af=>?_;have P:∀r∈rows,r.length=2:=Ft af m;have aj:((a:Nat):Int).toNat=a:=by omega
 rw[aj]at h;refine bE.seq (bE.ev (f:=200) (np:=3) (by kernel_rfl) ?_);simp only[bX];simp[ib,fh,fa];refine bE.seq (bE.ev (f:=200) (np:=3) (by kernel_rfl) ?_);simp only[bX];simp[ib,fh,fa,e,O];refine bE.seq (bE.ev (f:=200) (np:=3) (by kernel_rfl) ?_);simp only[bX];simp[ib,fh,fa];refine bE.seq (bE.ev (f:=200) (np:=3) (by kernel_rfl) ?_);simp only[bX];simp[ib,fh,fa];refine bE.seq (bE.ev (f:=200) (np:=3) (by kernel_rfl) ?_);simp only[bX];simp[ib,fh,fa];by_cases al:a=n
 .subst al;refine bE.uT (bE.ev (f:=200) (np:=3) (by kernel_rfl) ?_);simp only[bX];by_cases d2:a=rows.length
  .rw[if_pos d2]at h;injection h with h;injection h with b d;have e0:rows.take a++x::rows.drop a=rows++[x]:=by rw[d2,aiv,amf]
   rw[e0]at d;have j:(a+1<=rows.length)=False:=eq_false (by omega);have t:a+1<=maxLen:=by unfold maxLen;omega
   have o:(a+1)*16<=140737488355328:=by omega
   have u:rows.take a=rows:=by rw[d2,aiv]
   simp[ib,fh,fa,e,q,s,j,t,o,u,c1];intro k y Q w;have⟨A,j1,j2,j3⟩:=Q.ux;rw[<-b, <-d];exact⟨A,j1,j2,j3,jZ j2.le _ _ w⟩
  .rw[if_neg d2]at h;injection h with h;injection h with b d;have j:a+1<=rows.length:=by omega
   have R:(rows.take a).drop a=[]:=by simp
   rw[R]at d;have e2:dt rows a [x]=rows.take a++x::rows.drop (a+1):=by simp[dt]
   simp[ib,fh,fa,e,q,s,j,e2];intro k y Q w;rw[<-b, <-d];exact⟨k,rfl,.refl k,Q,w⟩
 have am:a<n:=by omega
 have dn:((a:Int)=n)=False:=eq_false (by omega);refine bE.seq (bE.ev (f:=200) (np:=3) (by kernel_rfl) ?_);simp only[bX];simp[ib,fh,fa,dn];have⟨c,S,aq,ar⟩:=Ou af m;have T:0<rows.length:=by omega
 refine bE.aJ [0,1,2,7,8] ?_;simp;refine bE.sq (bE.seq ?_);apply rD 200 4
 .decide
 .rfl
 .rfl
 simp[-ac7,oq,fh,fa,w1];refine⟨_,_,jJ.cap (jI pK.2.2.2.2.2.2.2.2.1).1 rfl m T S,?_⟩;simp[-ac7,oq];refine bE.aJ [0,1,2,7,8,31] ?_;simp[-ac7];refine bE.cond (v:=decide (c<n+1)) rfl (fun ag=>?_) (fun ah=>?_)
 .have ag:c<n+1:=of_decide_eq_true ag;have hn:n=rows.length:=by omega
  rw[if_pos hn]at h;injection h with h;injection h with b d;have j:n<=rows.length:=by omega
  have t:a<=rows.length:=by omega
  refine bE.seq ?_;apply rD 200 8
  .decide
  .rfl
  .rfl
  have w3:ads.wrap (((n+1:Nat):Int)-(a:Int))=((n+1-a:Nat):Int):=by rw[wrap_i64]<;>omega
  simp[-ac7,oq,fh,fa,w1,w3,e,O];refine⟨_,_,jJ.Ll pK.2.2.2.2.2.2.2.2.1 Fc.1 rfl rfl m t S (by omega) (by omega) (by omega) (by decide) (fun r b=>P r (ajd b)) rfl (by decide),?_⟩;have U:((n+1-a:Nat):Int).toNat=n+1-a:=by omega
  rw[U];have R:a+(n+1-a)=n+1:=by omega
  rw[R];have⟨Y,l⟩:=ak (rows.take a++ago (n+1-a) [I 0,I 0]);have z:Y.length=n+1:=by rw[<-l];simp;omega
  rw[l];refine bE.aJ [0,1,2,7,9] ?_;have b0:=zn e;have b2:=zn q;have⟨N,B⟩:=ak H.length;rw[B]at b0 b2|-;have q0:∀K,(H++[K])[g]?=some (.live p 2 rows):=fun K=>by rw[aaK (by omega)];exact e
  have w:∀K,(H++[K])[M]?=some (.live aa 2 [x]):=fun K=>by rw[aaK (by omega)];exact q
  have qN:∀K,(H++[K])[N]?=some K:=fun K=>by rw[<-B];simp
  have sN:∀K L,(H++[K]).set N L=H++[L]:=fun K L=>by rw[<-B];simp
  have o:a<=n+1:=by omega
  have u:a+(n+1-a)<=n+1:=by omega
  have C:([x]:List (List ab)).take (n+1-a)=[x]:=ach (by simp;omega);simp[-ac7];have⟨Y2,V⟩:=ak (dt Y a [x]);have an:Y2.length=n+1:=by rw[<-V];simp[dt,z];omega
  have D:(rows.drop a).take (n-a)=rows.drop a:=ach (by simp;omega);have k7:(rows.drop a).take (n+1-(a+1))=rows.drop a:=ach (by simp;omega);have W:a+1<=n+1:=by omega
  have k9:a+1+(n+1-(a+1))<=n+1:=by omega
  have E:a+(n-a)<=rows.length:=by omega
  have X:a+1+(n-a)<=n+1:=by omega
  have Z:(∀r:List ab,r∈rows.drop a->r.length=2)=True:=eq_true fun r b=>P r (ajw b);have fin:dt Y2 (a+1) (rows.drop a)=rows.take a++x::rows.drop a:=by rw[<-V, <-l];exact NU t (by rw[akF];omega)
  refine bE.ev (f:=200) (np:=3) (by kernel_rfl) ?_;simp only[bX];simp[-ac7,ib,fh,fa,uj,w2,q0,w,qN,sN,z,V,an,s,j,t,o,C,D,W,X,Z,fin,O,copyV];intro k y g1 F;have o1:obj (H++[Ob.live 0 2 (rows.take a++x::rows.drop a)]) g p=some (2,rows):=by unfold obj;rw[q0];simp
  have o2:obj (H++[Ob.live 0 2 (rows.take a++x::rows.drop a)]) N 0=some (2,rows.take a++x::rows.drop a):=by unfold obj;rw[qN];simp
  have⟨A,j1,j2,j3,j4⟩:=Lz (len:=n+1) g1 o1 o2 (by omega);have eH:((H++[Ob.live 0 2 (rows.take a++x::rows.drop a)]).set g (.live (p+1) 2 (rows.take a++x::rows.drop a))).set N .dead=J:=by rw[<-d,ajT _ _ (by omega),ai9 _ _ (by simp;omega)];simp[B]
  rw[eH]at j3;rw[<-b];exact⟨A,j1,j2,j3,j4 y F⟩
 .have ah:¬(c<n+1):=of_decide_eq_false ah;refine bE.skip (.inl ⟨rfl,?_⟩);refine bE.aJ [0,1,2,7,8] ?_;simp[-ac7];refine bE.seq ?_;apply rD 200 4
  .decide
  .rfl
  .rfl
  simp[-ac7,oq,fh,fa,w1];refine⟨_,_,jJ.upto pK.2.2.2.2.2.2.2.2.1 rfl rfl m T S ⟨by omega,by omega⟩,?_⟩;simp[-ac7];refine bE.aJ [0,1,2,7,8] ?_;simp[-ac7];refine bE.sq (bE.seq ?_);apply rD 200 6
  .decide
  .rfl
  .rfl
  have j:a+1<=n+1:=by omega
  have o:a<=n+1:=by omega
  have U:((n+1:Nat):Int).toNat=n+1:=by omega
  simp[-ac7,oq,fh,fa,w2,e,j,U];refine⟨_,_,jJ.apart pK.2.2.2.2.2.2.2.2.1 rfl Uo rfl rfl ad m ae.symm (by decide) (by simp) T (by decide) (by omega),?_⟩;simp[-ac7,oq];refine bE.aJ [0,1,2,7,8,68] ?_;simp[-ac7];have⟨Y,l⟩:=ak (dt rows (a+1) ((rows.drop a).take (n-a)));have tl:((rows.drop a).take (n-a)).length=n-a:=by simp;omega
  have z:n+1<=Y.length:=by rw[<-l];simp[dt];omega
  have fin:dt Y a [x]=rows.take a++x::((rows.take n).drop a++rows.drop (n+1)):=by rw[<-l];exact MA am c1
  have g0:∀K,(H.set g K)[g]?=some K:=fun K=>afN (aa3.1 e).1;have F:∀K,(H.set g K)[M]?=some (.live aa 2 [x]):=fun K=>by rw[aay ae];exact q
  have u:a+(n+1-a)=n+1:=by omega
  have C:([x]:List (List ab)).take (n+1-a)=[x]:=ach (by simp;omega);have D:min (n-a) (n+1-a)=n-a:=by omega
  have k7:a+(n-a)<=rows.length:=by omega
  have W:a+1<=rows.length:=by omega
  have k9:0<n-a:=by omega
  have Z:(∀r:List ab,r∈(rows.drop a).take (n+1-a)->r.length=2)=True:=eq_true fun r b=>P r (ajw (ajd b));refine bE.ev (f:=200) (np:=3) (by kernel_rfl) ?_;simp only[bX];by_cases d3:n=rows.length
  .rw[if_pos d3]at h;injection h with h;injection h with b d;have E:(n+1<=rows.length)=False:=eq_false (by omega);simp[-afN,-ac7,ib,fh,fa,uj,w2,e,j,o,u,C,D,k7,W,k9,E,s,copyV,td,l,z,fin,g0,F];intro k y G p2;have e8:(rows.take n).drop a++rows.drop (n+1)=rows.drop a:=by rw[d3,aiv,aji (i:=rows.length+1) (by omega),aeo]
   rw[e8]at G;have⟨A,j1,j2,j3,j4⟩:=SD G (show obj (H.set g (Ob.live p 2 (rows.take a++x::rows.drop a))) g p=some (2,rows.take a++x::rows.drop a)by unfold obj;rw[g0];simp);have⟨ao,i1,i2,i3⟩:=j3.ux;rw[ajB]at i3;rw[<-b, <-d];exact⟨ao,i1.trans j1,j2.trans i2,i3,jZ i2.le _ _ (j4 _ y p2)⟩
  .rw[if_neg d3]at h;injection h with h;injection h with b d;have E:n+1<=rows.length:=by omega
   have X:((rows.drop a).take (n+1-a)).take (n-a)=(rows.drop a).take (n-a):=by rw[alZ,D]
   have ap:a+1+(n-a)<=rows.length:=by omega
   simp[-afN,-alZ,-ac7,ib,fh,fa,uj,w2,e,j,o,u,C,E,X,ap,Z,s,copyV,l,z,fin,g0,F];intro k y G p2;rw[<-b, <-d];exact⟨k,rfl,.refl k,G,p2⟩
end Go.Nx
namespace Go.Proofs.AsQ
open Go.RowKit Go.Extern.Stop Go.Stop Go.Extern Go.Proofs
def W6(t:Value)(w:World):Calls aaD 98 #[.nilIface,t] w fun e a=>e= .returned (.bool false)/\a=w:=by
 go_enter Tryz.func98,Tryz.ntmps98
 go_wp2
 go_ret
 exact⟨rfl,rfl⟩
def ae8(t:Addr)(w:World):(ReflectliteValue.unpack (.iface 214 (.pointer (some t)))).run aaD w
  = .ok (.agg #[.pointer (some ⟨10,214,none⟩),.pointer (some ⟨w.heap.size,0,none⟩),.int .u64 150]) (w.alloc (.cells #[.pointer (some t)] 214)):=by kernel_rfl
def XQ (a:Addr) (w:World):(ReflectliteValue.methodAny (ReflectliteValue.valueError "reflectlite.Value.Type" 0) (fun t _ _ _=>ReflectliteType.toType t) #[.agg #[.pointer (some ⟨10,214,none⟩),.pointer (some a),.int .u64 150]]).run aaD w
  = .ok (.iface 366 (.agg #[.pointer (some ⟨10,214,none⟩)])) w:=by kernel_rfl
def agl(w:World):((ReflectliteType.abiMethod fun t=>(fun a:Nat=>ajl aja (a:Int))<$>Rtype.kind t) #[.pointer (some ⟨10,214,none⟩)]).run aaD w= .ok (.int .u8 22) w:=by kernel_rfl
def abC(w:World):((ReflectliteType.abiMethod fun t=>(fun a:Nat=>ajl aja (a:Int))<$>Rtype.kind t) #[.pointer (some ⟨10,40,none⟩)]).run aaD w= .ok (.int .u8 2) w:=by kernel_rfl
def Ny(z:Sem Value)(f:TypeId->Addr->Nat->Nat->Sem Value)(v:Value):
  ReflectliteValue.method z f #[v]=(do match<-ReflectliteValue.parts v with|none=>z|some (t,a,b)=>f t a b (b % 32)):=rfl
def Qv(a:Addr)(w:World):(ReflectliteValue.parts (.agg #[.pointer (some ⟨10,214,none⟩),.pointer (some a),.int .u64 150])).run aaD w= .ok (some (214,a,150)) w:=by kernel_rfl
def Zt(a p:Addr)(W:World)(b:W.cell? a=some (.pointer (some p))):
  (ReflectliteValue.method (ReflectliteValue.valueError "reflectlite.Value.IsNil" 0) ReflectliteValue.isNil #[.agg #[.pointer (some ⟨10,214,none⟩),.pointer (some a),.int .u64 150]]).run aaD W= .ok (.bool false) W:=by
 rw[Ny]
 simp only[aiN,Qv,ai7]
 simp[ReflectliteValue.isNil,loadVar,isAgg,underlying,Tryz.underlying214,b,ai7]
def aac (h:Value) (w:World):(aln 614 366 (.agg #[h]) "Kind").run aaD w= .ok (377,h) w:=by kernel_rfl
def Vn (h:Value) (w:World):(aln 614 366 (.agg #[h]) "Elem").run aaD w= .ok (392,.agg #[h]) w:=by kernel_rfl
def af6 (h:Value) (w:World):(aln 614 366 (.agg #[h]) "Implements").run aaD w= .ok (393,.agg #[h]) w:=by kernel_rfl
def UW (h:Value) (w:World):(aln 614 366 (.agg #[h]) "AssignableTo").run aaD w= .ok (390,.agg #[h]) w:=by kernel_rfl
def acH (h:Value) (w:World):(aln 614 288 h "Unwrap").run aaD w= .ok (384,h) w:=by kernel_rfl
def Zy(w:World):(ReflectliteType.method ReflectliteType.elem #[.agg #[.pointer (some ⟨10,214,none⟩)]]).run aaD w= .ok (.iface 366 (.agg #[.pointer (some ⟨10,40,none⟩)])) w:=by kernel_rfl
def ag0 (w:World):(ReflectliteType.relation "Implements" ReflectliteType.implements_ #[.agg #[.pointer (some ⟨10,40,none⟩)],.iface 366 (.agg #[.pointer (some ⟨10,139,none⟩)])]).run aaD w= .ok (.bool true) w:=by kernel_rfl
def aeq(v:Value)(w:World):(ReflectliteType.typeOf #[.iface 288 v]).run aaD w= .ok (.iface 366 (.agg #[.pointer (some ⟨10,288,none⟩)])) w:=by kernel_rfl
def aem(v:Value)(w:World):(ReflectliteType.typeOf #[.iface 40 v]).run aaD w= .ok (.iface 366 (.agg #[.pointer (some ⟨10,40,none⟩)])) w:=by kernel_rfl
def VP (w:World):(ReflectliteType.relation "AssignableTo" ReflectliteType.assignableTo #[.agg #[.pointer (some ⟨10,288,none⟩)],.iface 366 (.agg #[.pointer (some ⟨10,40,none⟩)])]).run aaD w= .ok (.bool false) w:=by kernel_rfl
def Tv (w:World):(ReflectliteType.relation "AssignableTo" ReflectliteType.assignableTo #[.agg #[.pointer (some ⟨10,40,none⟩)],.iface 366 (.agg #[.pointer (some ⟨10,40,none⟩)])]).run aaD w= .ok (.bool true) w:=by kernel_rfl
def ae5(n:Int)(w:World):(ReflectliteValue.unpack (.iface 40 (.int .i64 n))).run aaD w
  = .ok (.agg #[.pointer (some ⟨10,40,none⟩),.pointer (some ⟨w.heap.size,0,none⟩),.int .u64 130]) (w.alloc (.cells #[.int .i64 n] 40)):=by kernel_rfl
def afX(w:World):(Rtype.elem? 214).run aaD w= .ok (some 40) w:=by kernel_rfl
def Xz(p:Addr)(w:World):(ReflectliteValue.mk 40 p ReflectliteValue.flagAddr).run aaD w= .ok (.agg #[.pointer (some ⟨10,40,none⟩),.pointer (some p),.int .u64 386]) w:=by kernel_rfl
def agp(a p:Addr)(W:World)(b:W.cell? a=some (.pointer (some p))):
  (ReflectliteValue.method (ReflectliteValue.valueError "reflectlite.Value.Elem" 0) ReflectliteValue.elem #[.agg #[.pointer (some ⟨10,214,none⟩),.pointer (some a),.int .u64 150]]).run aaD W
   = .ok (.agg #[.pointer (some ⟨10,40,none⟩),.pointer (some p),.int .u64 386]) W:=by
 rw[Ny]
 simp only[aiN,Qv,ai7]
 simp[ReflectliteValue.elem,loadVar,isAgg,underlying,Tryz.underlying214,b,ai7,afX,Xz]
def rls(v x:Value):ReflectliteValue.set #[v,x]=(do
  let(some (c,a,d),some (src,b,_)):=(<-ReflectliteValue.parts v, <-ReflectliteValue.parts x)
   |unsupported (.noEntry "extern/(internal/reflectlite.Value).Set.zeroValue")
  if d / ReflectliteValue.flagAddr % 2==0 then unsupported (.noEntry "extern/(internal/reflectlite.Value).Set.unaddressable")
  let val<-loadVar src b
  if<-Rtype.directlyAssignable c src then storeVar c a val
  else if<-Rtype.implements c src then
   if(<-Rtype.kind src)==20 then
    match val with
    | .nilIface=>unsupported (.noEntry "extern/reflectlite: a nil value of one interface type handed on as a value of another")
    |_=>storeVar c a val
   else storeVar c a (.iface src val)
  else panicString ("reflectlite.Set: value of type " ++(<-Rtype.spelt src)++ " is not assignable to type " ++(<-Rtype.spelt c))
  pure (.tuple #[])):=rfl
def Z4(a:Addr)(w:World):(ReflectliteValue.parts (.agg #[.pointer (some ⟨10,40,none⟩),.pointer (some a),.int .u64 386])).run aaD w= .ok (some (40,a,386)) w:=by kernel_rfl
def XM(a:Addr)(w:World):(ReflectliteValue.parts (.agg #[.pointer (some ⟨10,40,none⟩),.pointer (some a),.int .u64 130])).run aaD w= .ok (some (40,a,130)) w:=by kernel_rfl
def aaC(w:World):(Rtype.directlyAssignable 40 40).run aaD w= .ok true w:=by kernel_rfl
def jO(a b:Addr)(n:Int)(c:Value)(W:World)(d:W.cell? b=some (.int .i64 n))(e:W.cell? a=some c)(f:W.frozen? a=false):
  (ReflectliteValue.set #[.agg #[.pointer (some ⟨10,40,none⟩),.pointer (some a),.int .u64 386],.agg #[.pointer (some ⟨10,40,none⟩),.pointer (some b),.int .u64 130]]).run aaD W
   = .ok (.tuple #[]) (W.setCell a (.int .i64 n)):=by
 rw[rls]
 simp only[aiN,Z4,XM,ai7]
 simp[ReflectliteValue.flagAddr,loadVar,isAgg,underlying,Tryz.underlying40,d,ai7,aaC,storeVar,Value.cells,storeCells,Addr.add]
 rw[run_store aaD W a _ _ (by rfl)]
 simp[e,f]
def Xa(v:Value)(a:TypeId)(w:World):(alp (.iface 288 v) a 371 true).run aaD w= .ok (.tuple #[.nilIface,.bool false]) w:=run_typeAssert_lacksB Tryz.underlying371 (by kernel_rfl) (by kernel_rfl) v a w
def Tj(v:Value)(a:TypeId)(w:World):(alp (.iface 288 v) a 374 true).run aaD w= .ok (.tuple #[.iface 288 v,.bool true]) w:=run_typeAssert_hasB Tryz.underlying374 (by kernel_rfl) v a w
end Go.Proofs.AsQ
namespace Go.Proofs.AsQ
open Go.RowKit Go.Extern.Stop Go.Stop Go.Extern Go.Proofs
def We(a fo:Nat)(v:Value)(w:World)(c:w.cell? ⟨a,fo+1,none⟩=some v):Calls aaD 384 #[.pointer (some ⟨a,fo,none⟩)] w fun e b=>e= .returned v/\b=w:=by
 go_enter Tryz.func384,Tryz.ntmps384
 go_wp2
 go_ret
 exact⟨rfl,rfl⟩
set_option maxHeartbeats 4000000 in
set_option maxRecDepth 100000 in
def abT(a fo:Nat)(t:Addr)(n:Int)(b:Value)(w:World)(c:w.cell? ⟨0,0,none⟩=some (.iface 366 (.agg #[.pointer (some ⟨10,139,none⟩)])))(d:w.cell? ⟨a,fo+1,none⟩=some (.iface 40 (.int .i64 n)))(e:w.cell? t=some b)(g:w.frozen? t=false):
  Calls aaD 98 #[.iface 288 (.pointer (some ⟨a,fo,none⟩)),.iface 214 (.pointer (some t))] w fun ev i=>ev= .returned (.bool true)/\i=((((w.alloc (.cells #[.pointer (some t)] 214)).alloc (.cells #[.pointer (some ⟨10,214,none⟩),.pointer (some ⟨w.heap.size,0,none⟩),.int .u64 150] 296)).alloc (.cells #[.pointer (some ⟨10,214,none⟩),.pointer (some ⟨w.heap.size,0,none⟩),.int .u64 150] 296)).alloc (.cells #[.int .i64 n] 40)).setCell t (.int .i64 n):=by
 have o:=@run_callFunc_extern aaD 161 _ (fun args=>ReflectliteValue.unpack (args.getD 0 (.tuple #[]))) Tryz.func161 (by kernel_rfl) (by kernel_rfl) (by kernel_rfl) (by kernel_rfl)
 have p:=@run_callFunc_extern aaD 162 _ (ReflectliteValue.methodAny (ReflectliteValue.valueError "reflectlite.Value.Type" 0) (fun t _ _ _=>ReflectliteType.toType t)) Tryz.func162 (by kernel_rfl) (by kernel_rfl) (by kernel_rfl) (by kernel_rfl)
 have q:=@run_callFunc_extern aaD 163 _ (ReflectliteValue.method (ReflectliteValue.valueError "reflectlite.Value.IsNil" 0) ReflectliteValue.isNil) Tryz.func163 (by kernel_rfl) (by kernel_rfl) (by kernel_rfl) (by kernel_rfl)
 have r:=@run_callFunc_extern aaD 377 _ (ReflectliteType.abiMethod fun t=>do pure (.int .u8 (<-Rtype.kind t))) Tryz.func377 (by kernel_rfl) (by kernel_rfl) (by kernel_rfl) (by kernel_rfl)
 have s:=@run_callFunc_extern aaD 392 _ (ReflectliteType.method ReflectliteType.elem) Tryz.func392 (by kernel_rfl) (by kernel_rfl) (by kernel_rfl) (by kernel_rfl)
 have u:=@run_callFunc_extern aaD 393 _ (ReflectliteType.relation "Implements" ReflectliteType.implements_) Tryz.func393 (by kernel_rfl) (by kernel_rfl) (by kernel_rfl) (by kernel_rfl)
 have v:=@run_callFunc_extern aaD 240 _ ReflectliteType.typeOf Tryz.func240 (by kernel_rfl) (by kernel_rfl) (by kernel_rfl) (by kernel_rfl)
 have x:=@run_callFunc_extern aaD 390 _ (ReflectliteType.relation "AssignableTo" ReflectliteType.assignableTo) Tryz.func390 (by kernel_rfl) (by kernel_rfl) (by kernel_rfl) (by kernel_rfl)
 have y:=@run_callFunc_extern aaD 241 _ (ReflectliteValue.method (ReflectliteValue.valueError "reflectlite.Value.Elem" 0) ReflectliteValue.elem) Tryz.func241 (by kernel_rfl) (by kernel_rfl) (by kernel_rfl) (by kernel_rfl)
 have z:=@run_callFunc_extern aaD 242 _ ReflectliteValue.set Tryz.func242 (by kernel_rfl) (by kernel_rfl) (by kernel_rfl) (by kernel_rfl)
 have A:=aeq
 have B:=aem
 have C:=UW
 have D:=VP
 have E:=Tv
 have F:=ae5 n
 have G:=ae8
 have f7:=XQ
 have H:=aac
 have I:=Vn
 have J:=af6
 have K:=acH
 have L:=agl
 have M:=Xa
 have N:=Tj
 have O:=abC
 have P:=Zy
 have Q:=ag0
 have R:=Zt ⟨w.heap.size,0,none⟩ t ((w.alloc (.cells #[.pointer (some t)] 214)).alloc (.cells #[.pointer (some ⟨10,214,none⟩),.pointer (some ⟨w.heap.size,0,none⟩),.int .u64 150] 296)) (by simp)
 have j:0<w.heap.size:=by
  rcases akU w.heap.size with k|h
  .simp[World.cell?,k]at c
  .exact h
 have S:((w.alloc (.cells #[.pointer (some t)] 214)).alloc (.cells #[.pointer (some ⟨10,214,none⟩),.pointer (some ⟨w.heap.size,0,none⟩),.int .u64 150] 296)).cell? ⟨0,0,none⟩=some (.iface 366 (.agg #[.pointer (some ⟨10,139,none⟩)])):=by
  rw[ai0 _ _ ⟨0,0,none⟩ (by simp),ai0 _ _ ⟨0,0,none⟩ j];exact c
 have f:t.block<w.heap.size:=by
  rcases aj2 t.block w.heap.size with h|h
  .exact h
  .simp[World.cell?,ajz h]at e
 have l:a<w.heap.size:=by
  rcases aj2 a w.heap.size with h|h
  .exact h
  .simp[World.cell?,ajz h]at d
 have m:(((w.alloc (.cells #[.pointer (some t)] 214)).alloc (.cells #[.pointer (some ⟨10,214,none⟩),.pointer (some ⟨w.heap.size,0,none⟩),.int .u64 150] 296)).alloc (.cells #[.pointer (some ⟨10,214,none⟩),.pointer (some ⟨w.heap.size,0,none⟩),.int .u64 150] 296)).cell? ⟨a,fo+1,none⟩=some (.iface 40 (.int .i64 n)):=by
  rw[ai0 _ _ ⟨a,fo+1,none⟩ (by simp;omega),ai0 _ _ ⟨a,fo+1,none⟩ (by simp;omega),ai0 _ _ ⟨a,fo+1,none⟩ l];exact d
 have T:=We a fo _ (((w.alloc (.cells #[.pointer (some t)] 214)).alloc (.cells #[.pointer (some ⟨10,214,none⟩),.pointer (some ⟨w.heap.size,0,none⟩),.int .u64 150] 296)).alloc (.cells #[.pointer (some ⟨10,214,none⟩),.pointer (some ⟨w.heap.size,0,none⟩),.int .u64 150] 296)) m
 have el:=agp ⟨w.heap.size,0,none⟩ t (((w.alloc (.cells #[.pointer (some t)] 214)).alloc (.cells #[.pointer (some ⟨10,214,none⟩),.pointer (some ⟨w.heap.size,0,none⟩),.int .u64 150] 296)).alloc (.cells #[.pointer (some ⟨10,214,none⟩),.pointer (some ⟨w.heap.size,0,none⟩),.int .u64 150] 296)) (by rw[ai0 _ _ ⟨w.heap.size,0,none⟩ (by simp;omega),ai0 _ _ ⟨w.heap.size,0,none⟩ (by simp),alr _ _ _ _ (by simp)];rfl)
 have U:=jO t ⟨w.heap.size+1+1+1,0,none⟩ n b ((((w.alloc (.cells #[.pointer (some t)] 214)).alloc (.cells #[.pointer (some ⟨10,214,none⟩),.pointer (some ⟨w.heap.size,0,none⟩),.int .u64 150] 296)).alloc (.cells #[.pointer (some ⟨10,214,none⟩),.pointer (some ⟨w.heap.size,0,none⟩),.int .u64 150] 296)).alloc (.cells #[.int .i64 n] 40))
  (by rw[alr _ _ _ _ (by simp)];rfl)
  (by rw[ai0 _ _ t (by simp;omega),ai0 _ _ t (by simp;omega),ai0 _ _ t (by simp;omega),ai0 _ _ t f];exact e)
  (by rw[akt _ _ t (by simp;omega),akt _ _ t (by simp;omega),akt _ _ t (by simp;omega),akt _ _ t (Nat.ne_of_lt f)];exact g)
 go_enter Tryz.func98,Tryz.ntmps98
 go_wp2
 refine wp_loop_rounds 2 ?_
 rw[rounds_succ]
 go_wp2
 rw[rounds_succ]
 go_wp2
 go_ret
 exact⟨rfl,rfl⟩
end Go.Proofs.AsQ
namespace Go.Nx
open Go Go.Proofs Tryz
def Mu:enters aaD 98=true:=by kernel_rfl
def TX{a:az}{H:List Ob}(i:aZ a H){h f:Nat}{x:ab}{n:Int}(s:H[h]?=some (.live f 1 [[x]])){d:ft}{b:Nat}(l:a.hs[h]?=some (d,f))(m:d.base=some b){w:World}(o:a.w.heap.size<=w.heap.size)(A:w.os=a.w.os)(B:w.tape=a.w.tape)(C:w.output=a.w.output)
  (p:∀c,c<a.w.heap.size->c≠b->w.heap[c]?=a.w.heap[c]?) (D:∀cells T j,a.w.heap[b]?=some (.cells cells T j)->w.heap[b]?=some (.cells (cells.setIfInBounds d.off (.int .i64 n)) T j)):
  ∃Γ',Γ'.w=w/\a.cL Γ'/\aZ Γ' (H.set h (.live f 1 [[I n]])):=by
 have⟨Q,t,E,u⟩:=i.ob h _ s
 rw[l]at t
 cases t
 simp only[m]at u
 have⟨v,q,G,r,J,cells,T,⟨j,K,L⟩,M,R⟩:=u
 have N:=i.X b q
 have hc:=D _ _ _ K
 have y:a.Le (a.bJ w h d f b):=p6 l (.inr ⟨rfl,rfl⟩) (fun c z k=>p c (i.F c z k) (fun e=>G z (e▸k)))
 refine⟨a.bJ w h d f b,rfl,⟨y,A,B,C,o,fun c hc g=>p c hc (fun e=>g (e▸q)),fun c z k=> .inl k,fun c g=>?_⟩,?_⟩
 .rcases g with g|g
  .exact .inl g
  .exact .inl (g▸q)
 .have O:d.off<cells.size:=by
   simp only[ahP,aiK]at r
   have:1*d.sz<=d.cap*d.sz:=aiH _ r
   omega
  refine qc (Γ':=a.bJ w h d f b) i s l y rfl rfl (fun c=>ak7) o m (fun c hc P=>p c hc P) (.inl m) (aiM N o)
   E r J v _ T ⟨j,hc,by simpa using L⟩ (by simpa using M) ?_
  rw[v]
  simp only[bF,cS,aB,and_true]
  refine⟨rfl,.int .i64 n,?_,rfl,rfl⟩
  rw[show(a.bJ w h d f b).w=w from rfl,cell_of hc]
  simp[O]
def Z8{s:List au}{H:List Ob}{r:au}{t:List Ob}(h:vz s H=some (r,t)):Call aaD 98 s H r t:=by
 unfold vz at h;split at h
 .cases h;refine⟨Mu,fun a f g hc=>?_⟩;simp only[bU,aL]at hc;obtain⟨y,P,Q,i,m,R,o,p,rfl⟩:=hc;subst o;simp only[aB]at i;obtain⟨rfl,_⟩:=i;obtain rfl:g= #[.nilIface,m]:=by cases g;simp_all
  exact(AsQ.W6 m a.w).mono fun e u ⟨k,d⟩=>⟨_,a,k,d.symm,.refl a,f,rfl,rfl⟩
 .rename_i hf vf k ve;split at h
  .rename_i z1 x1 n x2 S x;cases h;refine⟨Mu,fun a f g hc=>?_⟩;simp only[bU,aL]at hc;obtain⟨y,P,Q,i,m,R,o,p,rfl⟩:=hc;subst o;simp only[aB]at i p;obtain⟨ag,rfl,U,v1,q,V,i2,rfl,W⟩:=i;obtain⟨p2,rfl,j,v2,Y,j1,j2,rfl,j4⟩:=p;obtain rfl:g= #[.iface 288 (.pointer q),.iface 214 (.pointer Y)]:=by cases g;simp_all
   have⟨ah,z,k2,A⟩:=f.obj S;rw[V]at z;cases z;have⟨k',B,l2,C⟩:=f.obj x;rw[j1]at B;cases B;obtain⟨b,Z,rfl⟩:=W rfl;obtain⟨l,D,rfl⟩:=j4 rfl;simp only[Z]at A;simp only[D]at C;have⟨m1,m2,m3,m4,m5,cells,T,m6,m7,E⟩:=A;have⟨n1,n2,n3,F,n5,aa,T2,n6,n7,I⟩:=C;simp only[bF,cS,aB,and_true]at E I;obtain⟨_,⟨y1,c1,_⟩,y3,c2,z3,rfl,rfl,_⟩:=E;have⟨_,y5,c5,_⟩:=I;have⟨hF,J⟩:=f.G (0,1,[[.v (.iface 366 (.agg #[.pointer (some ⟨10,139,none⟩)]))]]) (by simp[sR]);simp only[bF,cS,aB,and_true]at J;obtain⟨_,y6,c6,rfl,_⟩:=J;have ab:j.off<aa.size:=by simp only[ahP,aiK]at F;have:1*j.sz<=j.cap*j.sz:=aiH _ F;omega
   simp only[akS,aiw];refine(AsQ.abT b U.off ⟨l,j.off,none⟩ n y5 a.w c6 c2 c5 (n6.free ab)).mono fun e u ⟨k,d⟩=>?_;have ad:=f.X l n2;have K:∀(L M N O:Obj) c,c<a.w.heap.size->((((a.w.alloc L).alloc M).alloc N).alloc O).heap[c]?=a.w.heap[c]?:=fun L M N O c hc=>by rw[heap_alloc_old _ _ (by simp;omega),heap_alloc_old _ _ (by simp;omega),heap_alloc_old _ _ (by simp;omega),heap_alloc_old _ _ hc]
   have⟨ae,g1,g2,g3⟩:=TX (n:=n) (w:=u) f (eG x) j1 D (by rw[d];simp[alq];omega) (by rw[d];rfl) (by rw[d];rfl) (by rw[d];rfl)
    (fun c hc af=>by
     have:l≠c:=fun e=>af e.symm
     rw[d]
     simp only[alq,ajO,this,if_false]
     exact K _ _ _ _ c hc)
    (fun cells T fz hc=>by
     rw[d]
     simp only[alq,ajO,if_true]
     rw[K _ _ _ _ l ad,hc]
     rfl)
   exact⟨_,ae,k,g1,g2,g3,rfl,rfl⟩
  .cases h
 .cases h
end Go.Nx
namespace Go.Nx
open Go Go.Proofs Tryz
def AH{f:FuncId}{h:List au->List Ob->Option (au×List Ob)}(e:tz.dH f=h){a:List au}{H:List Ob}{r:au}{b:List Ob}(c:tz.dH f a H=some (r,b)):h a H=some (r,b):=by rw[<-e];exact c
def nM:gS tz:={
 enters:=vV
 rl:=fun f b H r i c a=>by
  have d:f=52\/f=124\/f=191\/f=195\/f=200:=by
   have e:(qE.contains f||(tI 0).contains f)=true:=(Bool.and_eq_true_iff.1 c).2
   simpa[qE,tI]using e
  rcases d with rfl|rfl|rfl|rfl|rfl
  .exact absurd a (by simp[show tz.dH 52=fun _ _=>none by kernel_rfl])
  .exact Qx (AH (h:=lS 8) (by kernel_rfl) a)
  .exact Rt (AH (h:=tq) (by kernel_rfl) a)
  .exact SA (AH (h:=sV 4 [I 0,ap,I 0,I 0]) (by kernel_rfl) a)
  .exact NH (AH (h:=lS 2) (by kernel_rfl) a)
 kL:=fun g b h=>by
  have:(ajt g 147&&ajt 0 4)=true:=h
  simp at this
 follows:=yb
 code:=yP}
section
variable [W]
def dw{a:Type}(p:a->Bool):Nat->List a->Int
 |_,[]=> -1
 |k,x::r=>if p x then k else dw p (k+1) r
def Ay{a:Type}(p:a->Bool):∀(l:List a) (k:Nat),decide (0<=dw p k l)=l.any p
 |[],k=>rfl
 |x::r,k=>by
  unfold dw
  cases h:p x with
  |true=>simp[h]
  |false=>simp[h,Ay p r (k+1)]
def acL(l:List Int)(x:Int):(l.any fun y=>decide (y=x))=decide (x∈l):=by rw[ajY];simp
def qG{b:Type}{p:b->Bool}:∀ {l:List b} (k:Nat),l.find? p=none->dw p k l= -1
 |[],k,_=>rfl
 |x::r,k,h=>by
  rw[akc]at h
  cases a:p x with
  |true=>rw[a]at h;cases h
  |false=>rw[a]at h;simp only[dw,a];exact qG (k+1) h
def wW{b:Type}{p:b->Bool}{s:b}:∀ {l:List b} (k:Nat),l.find? p=some s->∃j:Nat,dw p k l=((k+j:Nat):Int)/\∃e:j<l.length,l[j]=s
 |[],k,h=>by simp at h
 |x::r,k,h=>by
  rw[akc]at h
  cases a:p x with
  |true=>rw[a]at h;cases h;exact⟨0,by simp[dw,a],by simp,rfl⟩
  |false=>
   rw[a]at h
   have⟨j,c,f,d⟩:=wW (k+1) h
   refine⟨j+1,?_,by simp;omega,by simpa using d⟩
   simp only[dw,a]
   rw[show k+(j+1)=k+1+j by omega]
   exact c
def ag4(l:List Int)(x:Int)(hm:l.length<=maxLen):aS tz ay 0 204 [.c (aG l),aa x]=some (aa (dw (fun y=>decide (y=x)) 0 l),[]):=by
 refine be func204 rfl ?_;simp[f204,underlying30,aG];refine ia (fun k:Nat=>[(7,aa l.length),(8,aa k),(0,.c (aG l)),(1,aa x)]) (fun k H=>H=[]/\k<=l.length/\dw (fun y=>decide (y=x)) 0 l=dw (fun y=>decide (y=x)) k (l.drop k)) (fun k=>l.length-k) ?_ 0 (by simp[aG]) (by simp) fun _=>rfl;rintro k e H ⟨f,g,h,i,_⟩ ⟨j,p,a⟩;subst j;by_cases b:k<l.length
 .have m:l.drop k=l[k]::l.drop (k+1):=afv b;have n:ads.wrap ((k:Int)+1)=((k+1:Nat):Int):=cr (by unfold maxLen at hm;omega);rw[m]at a;by_cases d:l[k]=x
  .simp[f,g,h,i,aG,b,d];simp[a,dw,d]
  .have o:¬x=l[k]:=fun e=>d e.symm;simp[f,g,h,i,aG,b,o,n];exact⟨k+1,by omega,by simp,by omega,by simpa[dw,d]using a⟩
 .simp[f,g,aG,b];rw[a,aip (by omega)];rfl
def Cv(l:List Int)(x:Int)(hm:l.length<=maxLen):aS tz ay 0 128 [.c (aG l),aa x]=some (aR (decide (x∈l)),[]):=by refine be func128 rfl ?_;have:=ag4 l x hm;simp[aG]at this;simp[f128,this,Ay];rw[acL]
def qv(l:List Int)(x:Int)(hm:l.length<=maxLen):aS tz ay 0 203 [.c (aG l),aa x]=some (aR (decide (x∈l)),[]):=by refine be func203 rfl ?_;have:=Cv l x hm;simp[aG]at this;simp[f203,this]
end
end Go.Nx
