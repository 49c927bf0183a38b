/- A part of the proof. -/
import Derived.Test.YtndifkmolciiaaaGreatDoorX00
set_option linter.all false
set_option maxRecDepth 8000
set_option maxHeartbeats 1000000
open Array renaming replicate->ak1
open Functor renaming map->alO
open Go renaming method->alt
open Go.Builtin renaming firstCells->ai4,zeroCells->aiy
open Go.Call renaming operands->aiM
open Go.Extern.SlicesOverlaps renaming overlaps->akj
open Go.Instr renaming sliceAt->ajy,sliceBounds->ajX,slice->akO,typeAssert->alv
open Go.IntKind renaming i64->adW,u8->ajf
open Go.Op renaming operands->acH
open Go.Oper renaming upon_value->aky
open Go.Proofs.Lays renaming n189->amG
open Go.Proofs.Tryz renaming prog->aaG,prog->amF
open Go.Region renaming binds->ajW,ready->akx,wanted->ak5
open Go.Result renaming andThen_ok->aiG,andThen->ajd
open Go.Sem renaming run_bind->aiT
open Go.Shelf renaming Ren->aml
open Go.Sort renaming ahead->ajM,grow->akm,heap_grow_old->anp,mapBlock->anu
open Go.Value renaming int->ajo,oneCell'->aiw
open Go.World renaming setCell->alx,shape?->amB
open Int renaming natCast_add->ad0
open List renaming drop_eq_getElem_cons->agO,drop_of_length_le->ajD,getElem?_append_right->aea,getElem?_set_self->ahr,length_append->agc,length_drop->aj0,map_append->aid,map_congr_left->ajp,map_map->ajc,map_set->aiC,pairwise_cons->ahg,range->aiZ,replicate->ahv,set_append_right->ajw,take_add_one->aiH,take_of_length_le->acu,take->ajr
open Nat renaming add_mul->air,beq_eq->akv,beq->ajx,ble->ak6,strongRecOn->amy
open Option renaming map_eq_some_iff->ab4
open Option.some renaming injEq->ab1
open UInt8 renaming ofNat->al1
namespace Go.Nx
variable{P:Program}{e:Env}{op:Op}{x:aw}{H1:List Ob}{r:aw×List Ob}{C:bu}{ce:cV}
section
variable{W:List Nat}{H H':List Ob}(hA:fM W H H')
include hA
theorem Rp(j:quiet P op=true)(r:∀p∈op.operands.toList, ∀v,aX e p=some v->∀h∈lS v,h∉W)(h:bc P e H op=some (x,H1)):bc P e H' op=some (x,H'):=by
 cases op with
 |move y=>simp only[bc,ab4,aca]at h|-;grind
 |assign y=>simp only[bc,ab4,aca]at h|-;grind
 |pick c p q=>
  simp only[bc]at h|-;split at h
  .grind
  .cases h
 |build t A=>
  simp only[bc]at h|-;split at h
  .grind [(ab4)]
  .cases h
 |load t y=>
  have a:=r y (by simp[acH]);simp only[bc]at h|-;split at h
  .rename_i n p o u;replace a:=a _ u;simp only[ab4,aca]at h|-;obtain⟨v,w,rfl,rfl⟩:=h;exact⟨v,acX hA a w,rfl,trivial⟩
  .rename_i n p o u;replace a:=a _ u;simp only[ab4,aca]at h|-;obtain⟨v,w,rfl,rfl⟩:=h;exact⟨v,Xj hA a w,rfl,trivial⟩
  .cases h
 |nilCheck y=>
  have a:=r y (by simp[acH]);simp only[bc]at h|-;split at h
  .rename_i B C i k o;replace a:=a _ o;grind [(ab4),(mN),lS,iG]
  .grind
  .grind
  .cases h
 |binOp op t y z G=>
  have a:=r y (by simp[acH]);have I:=r z (by simp[acH]);simp only[bc]at h|-;split at h
  .grind [(ab4),(ace)]
  .cases h
 |unOp op t y=>
  simp only[bc]at h|-;split at h
  .grind
  .grind
  .cases h
 |convert s d y=>
  simp only[bc]at h|-;split at h
  .grind
  .cases h
 |makeFunc f first J=>
  cases f with
  |func f=>simp only[bc]at h|-;grind [(ab4)]
  |_=>simp[bc]at h
 |slice t y K L D=>
  cases D with
  |some m=>simp[bc]at h
  |none=>
   have a:=r y (by simp[acH]);simp only[bc]at h|-;split at h
   .rename_i l M N o u w;replace a:=a _ o;simp only[ab4,aca]at h|-;obtain⟨v,E,rfl,rfl⟩:=h;exact⟨v,aez hA a E,rfl,trivial⟩
   .cases h
 |fieldAddr s y f=>
  have a:=r y (by simp[acH]);simp only[bc]at h|-;split at h
  .rename_i O n g B C i k o u;replace a:=a _ u;grind [(ab4),(mN),lS,iG]
  .grind
  .cases h
 |field s y f=>
  simp only[bc]at h|-;split at h
  .grind [(ab4)]
  .cases h
 |indexAddr t y i=>
  have a:=r y (by simp[acH]);simp only[bc]at h|-;split at h
  .rename_i l k n o u;replace a:=a _ o;simp only[ab4,aca]at h|-;obtain⟨v,w,rfl,rfl⟩:=h;exact⟨v,YZ hA a w,rfl,trivial⟩
  .cases h
 |index t y i=>
  simp only[bc]at h|-;split at h
  .grind [(ab4)]
  .cases h
 |extract y i=>
  simp only[bc]at h|-;split at h
  .grind [(ab4)]
  .cases h
 |call c=>
  have⟨F,args,Q⟩:=c;cases F with
  |builtin b=>
   cases b with
   |len=>
    simp only[bc]at h|-;split at h
    .split at h
     .grind [(ab4)]
     .cases h
    .cases h
   |append=>simp[quiet]at j
   |cap=>
    simp only[bc]at h|-;split at h
    .grind
    .cases h
   |copy=>simp[quiet]at j
   |clear=>simp[quiet]at j
   |min=>simp only[bc,ab4,aca]at h|-;grind
   |max=>simp only[bc,ab4,aca]at h|-;grind
   |_=>simp[bc]at h
  |_=>simp[bc]at h
 |alloc t=>simp[quiet]at j
 |box t y=>simp[quiet]at j
 |buildSlice t n A=>simp[quiet]at j
 |makeSlice t l c=>simp[quiet]at j
 |store t y v=>simp[quiet]at j
 |_=>simp[bc]at h
theorem agF(a:∀p∈op.operands.toList, ∀v,aX e p=some v->∀h∈lS v,h∉W)(h:r8 P e H op=some x):r8 P e H' op=some x:=by
 cases op with
 |binOp op t y z i=>exact abt hA (fun w d=>a y (by simp[acH]) w d) h
 |unOp op t y=>cases op<;>exact h
 |slice t y j k f=>cases f<;>exact h
 |call c=>
  have⟨g,args,l⟩:=c;cases g with
  |builtin b=>cases b<;>exact h
  |_=>exact h
 |_=>exact h
theorem PA(i:quiet P op=true)(j:∀p∈op.operands.toList, ∀v,aX e p=some v->∀h∈lS v,h∉W)(h:cA P e H op=some (x,H1)):cA P e H' op=some (x,H'):=by
 cases op with
 |slice t y E F q=>
  cases q with
  |some m=>simp[cA]at h
  |none=>
   have n:=j y (by simp[acH]);simp only[cA,ab4,aca]at h|-;obtain⟨r,f,rfl,rfl⟩:=h;refine⟨r,?_,rfl,trivial⟩;unfold sliceB at f|-;split at f
   case h_2=>cases f
   rename_i el G I u J K L l m M g N O;split at f
   case h_2=>cases f
   rename_i z rows w;simp only[mN hA (n _ g u (by simp[lS,iG])) w];exact f
 |convert s d y=>
  simp only[quiet,afa]at i;have n:=j y (by simp[acH]);simp only[cA]at h|-;unfold nH at h|-;split at h
  .grind
  .rename_i l Q g;split at h
   .rename_i A;rw[if_pos A];split at h
    .rename_i rows B;rw[HS hA (n _ g) B];split at h
     .grind
     .cases h
    .cases h
   .cases h
  .cases h
 |lookup t m k c=>
  cases c with
  |true=>simp[cA]at h
  |false=>
   have hm:=j m (by simp[acH]);simp only[cA]at h|-;unfold nK at h|-;split at h
   .rename_i o k g R;split at h
    .rename_i S a b T C U;have V:=hA o _ (hm _ g o (by simp[lS,iG])) C rfl;grind
    .cases h
   .cases h
 |typeAssert y a b c=>
  cases c with
  |false=>simp[cA]at h
  |true=>grind [cA,(ab4)]
 |call c=>
  have⟨D,args,X⟩:=c;cases D with
  |builtin b=>cases b<;>first|(simp[quiet]at i;done)|grind [cA]
  |_=>simp[cA]at h
 |_=>first|(simp[quiet]at i;done)|(simp[cA]at h;done)
end
theorem QY{H H':List Ob}(h:r8 P e H op=some x)(hn:bc P e H op=none):bc P e H' op=none:=by
 cases op with
 |binOp op t y z j=>
  simp only[r8]at h;simp only[bc]at hn|-;unfold gV at h;split at h
  .grind [oA,pG]
  .rename_i a d;rw[a,d]at hn|-;simpa[oA]using hn
  .rename_i a d;rw[a,d];rfl
  .rename_i a d;rw[a,d];rfl
  .rename_i a d;rw[a,d];rfl
  .rename_i a d;rw[a,d];rfl
  .cases h
 |unOp op t y=>simp only[bc]at hn|-;grind
 |slice t y k l f=>
  cases f with
  |some m=>rfl
  |none=>simp only[r8]at h;simp only[bc];unfold am6 at h;grind [qF]
 |indexAddr t y i=>simp only[r8]at h;simp only[bc]at hn|-;unfold sc at h;grind [sO,view]
 |index t y i=>simp only[r8]at h;simp only[bc]at hn|-;grind [nB]
 |call c=>
  have⟨g,args,n⟩:=c;cases g with
  |builtin b=>
   cases b with
   |len=>
    simp only[bc]at hn|-;split
    .rename_i a d;rw[a,d]at hn;simp only at hn;split
     .simp_all
     .rfl
    .rfl
   |_=>simp[r8]at h
  |_=>rfl
 |makeInterface t y=>rfl
 |_=>simp[r8]at h
theorem aaP{H H':List Ob}(g:quiet P op=true)(h:cA P e H op=some r)(hn:bc P e H op=none):bc P e H' op=none:=by
 cases op with
 |slice t y q u i=>
  cases i with
  |some m=>rfl
  |none=>
   simp only[cA,ab4]at h;obtain⟨r,f,rfl⟩:=h;unfold sliceB at f;split at f
   case h_2=>cases f
   rename_i el v w x z A B l m C j n o;split at f
   case h_2=>cases f
   split at f
   case isFalse=>cases f
   rename_i hc;simp only[bc,j,n,o];grind [qF,qd]
 |convert s d y=>simp only[bc]at hn|-;grind
 |call c=>
  have⟨p,args,D⟩:=c;cases p with
  |builtin b=>cases b<;>first|(simp[quiet]at g;done)|grind [cA]
  |_=>rfl
 |lookup t m k c=>rfl
 |typeAssert y a b c=>rfl
 |_=>first|(simp[quiet]at g;done)|(simp[cA]at h;done)
theorem U6{H H':List Ob}(f:quiet P op=true)(h:cA P e H op=some r):r8 P e H' op=none:=by
 cases op with
 |slice t y l n g=>
  cases g with
  |some m=>rfl
  |none=>simp only[cA,ab4]at h;obtain⟨r,i,rfl⟩:=h;unfold sliceB at i;grind [r8,am6]
 |call c=>
  have⟨j,args,o⟩:=c;cases j with
  |builtin b=>cases b<;>first|(simp[quiet]at f;done)|grind [cA]
  |_=>rfl
 |convert s d y=>rfl
 |lookup t m k c=>rfl
 |typeAssert y a b c=>rfl
 |_=>first|(simp[quiet]at f;done)|(simp[cA]at h;done)
def plain:Op->Bool
 | .call {callee:= .value _,.. }=>false
 | .move (.global _)=>false
 |_=>true
theorem pK(h:plain op=true)(e:Env)(H:List Ob):eV C ce op e H=match bc C.P e H op with
  |some r=>some r
  |none=>match r8 C.P e H op with
   |some x=>some (x,H)
   |none=>cA C.P e H op:=by
 unfold eV
 grind [plain]
theorem vW{W:List Nat}{H H':List Ob}(hA:fM W H H')(a:quiet C.P op=true)(f:∀p∈op.operands.toList, ∀v,aX e p=some v->∀h∈lS v,h∉W)
  (h:eV C ce op e H=some (x,H1)):H1=H/\eV C ce op e H'=some (x,H'):=by
 have self:fM [] H H:=fun _ _ _ h _=>h
 have b:∀p∈op.operands.toList, ∀v,aX e p=some v->∀h∈lS v,h∉ ([]:List Nat):=fun _ _ _ _ _ _=>by simp
 cases hp:plain op with
 |false=>
  unfold plain at hp
  grind [quiet,eV,(ab4)]
 |true=>
  rw[pK hp]at h|-
  split at h
  .rename_i r c
   cases h
   have d:=Rp self a b c
   grind [(Rp)]
  .rename_i hn
   split at h
   .grind [(QY),(agF)]
   .have d:=PA self a b h
    grind [(aaP),(U6),(PA)]
end Go.Nx
namespace Go.Nx
variable{P:Program}{op:Op}{e:Env}{x:aw}{H:List Ob}
def blind(P:Program):Op->Bool
 | .move _| .assign _| .pick _ _ _| .build _ _| .unOp _ _ _| .makeFunc _ _ _| .field _ _ _| .index _ _ _| .extract _ _| .makeInterface _ _=>true
 | .convert s d _=>!rT P d&&!rT P s
 | .call {callee:= .builtin .len,.. }| .call {callee:= .builtin .cap,.. }| .call {callee:= .builtin .min,.. }| .call {callee:= .builtin .max,.. }=>true
 |_=>false
theorem TT(h:blind P op=true):quiet P op=true:=by unfold blind at h;grind [quiet]
theorem afc{j:List Ob}(a:List Ob)(g:blind P op=true)(h:bc P e H op=some (x,j)):bc P e a op=some (x,a):=by
 cases op with
 |move y=>simp only[bc,ab4,aca]at h|-;grind
 |assign y=>simp only[bc,ab4,aca]at h|-;grind
 |pick c p q=>
  simp only[bc]at h|-;split at h
  .grind
  .cases h
 |build t l=>
  simp only[bc]at h|-;split at h
  .grind [(ab4)]
  .cases h
 |unOp op t y=>
  simp only[bc]at h|-;split at h
  .grind
  .grind
  .cases h
 |convert s d y=>
  simp only[bc]at h|-;split at h
  .grind
  .cases h
 |makeFunc f first m=>
  cases f with
  |func f=>simp only[bc]at h|-;grind [(ab4)]
  |_=>simp[bc]at h
 |field s y f=>
  simp only[bc]at h|-;split at h
  .grind [(ab4)]
  .cases h
 |index t y i=>
  simp only[bc]at h|-;split at h
  .grind [(ab4)]
  .cases h
 |extract y i=>
  simp only[bc]at h|-;split at h
  .grind [(ab4)]
  .cases h
 |call c=>
  have⟨k,args,n⟩:=c;cases k with
  |builtin b=>
   cases b with
   |len=>
    simp only[bc]at h|-;split at h
    .split at h
     .grind [(ab4)]
     .cases h
    .cases h
   |cap=>
    simp only[bc]at h|-;split at h
    .grind
    .cases h
   |min=>simp only[bc,ab4,aca]at h|-;grind
   |max=>simp only[bc,ab4,aca]at h|-;grind
   |_=>first|(simp[blind]at g;done)|(simp[bc]at h;done)
  |_=>simp[bc]at h
 |_=>first|(simp[blind]at g;done)|(simp[bc]at h;done)
theorem aeu{C:bu}{i:cV}{j:List Ob}(H':List Ob)(f:blind C.P op=true)(h:eV C i op e H=some (x,j)):j=H/\eV C i op e H'=some (x,H'):=by
 refine⟨(vW (W:=[]) (H':=H) (fun _ _ _ h _=>h) (TT f) (fun _ _ _ _ _ _=>by simp) h).1,?_⟩;cases hp:plain op with
 |false=>unfold plain at hp;grind [blind,eV,(ab4)]
 |true=>
  rw[pK hp]at h|-;split at h
  .grind [(afc)]
  .rename_i hn;split at h
   .rename_i y a;cases h;rw[QY a hn]
    have:r8 C.P e H' op=some x:=by
     cases op with
     |unOp op t y=>cases op<;>exact a
     |call c=>
      have⟨g,args,k⟩:=c;cases g with
      |builtin b=>cases b<;>exact a
      |_=>exact a
     |_=>first|exact a|grind [blind]
    rw[this]
   .exfalso
    cases op with
    |convert s d y=>simp only[blind,abR,afa]at f;simp only[cA]at h;unfold nH at h;grind
    |call c=>
     have⟨g,args,k⟩:=c;cases g with
     |builtin b=>cases b<;>first|(simp[blind]at f;done)|grind [cA]
     |_=>simp[cA]at h
    |_=>first|(simp[blind]at f;done)|(simp[cA]at h;done)
theorem xM(own:List Ob):fM [] H (H++own):=fun h o _ a _=>by grind
theorem yH(n:Nat)(o:Ob):fM [n] H (H.set n o):=fun h a b c _=>by grind
theorem aaC{n:Nat}(o:Ob)(b:H[n]?=some .dead):fM [] H (H.set n o):=fun h e _ a c=>by
 by_cases d:h=n
 .subst d;rw[b]at a;cases a;cases c
 grind
def grow:Op->Bool
 | .alloc _| .box _ _| .buildSlice _ _ _| .makeSlice _ _ _=>true
 |_=>false
def Uv{r:aw×List Ob}(d:grow op=true)(h:bc P e H op=some r):
  ∃l z rows,bc P e [] op=some (.c l,[.live 0 z rows])/\r=(.c (dZ H.length l),H++[.live 0 z rows])/\((∃i k,l= .ptr 0 0 i k)\/∃f,l= .sl 0 0 0 f):=by
 cases op with
 |alloc t=>
  simp only[bc]at h|-
  split at h
  .cases h
   exact⟨_,_,_,rfl,rfl,.inl ⟨_,_,rfl⟩⟩
  .cases h
 |box t y=>
  simp only[bc]at h|-
  split at h
  .split at h
   .cases h
    rename_i b g
    exact⟨_,_,_,by simp,rfl,.inl ⟨_,_,rfl⟩⟩
   .cases h
  .cases h
 |buildSlice t n j=>
  simp only[bc]at h|-
  split at h
  .split at h
   .rename_i a
    rw[if_pos a]
    simp only[ab4]at h
    obtain⟨rows,b,rfl⟩:=h
    exact⟨_,_,_,by rw[b];rfl,rfl,.inr ⟨_,rfl⟩⟩
   .cases h
  .cases h
 |makeSlice t l c=>
  simp only[bc]at h|-
  split at h
  .split at h
   .rename_i a
    rw[if_pos a]
    cases h
    exact⟨_,_,_,rfl,rfl,.inr ⟨_,rfl⟩⟩
   .cases h
  .cases h
 |_=>simp[grow]at d
theorem Tm{l:ab}{z:Nat}{rows:List (List ab)}(H:List Ob)(f:grow op=true)(h:bc P e [] op=some (.c l,[.live 0 z rows])):bc P e H op=some (.c (dZ H.length l),H++[.live 0 z rows]):=by
 cases op with
 |alloc t=>
  simp only[bc]at h|-;split at h
  .simp only[ab1,aca,aw.c.injEq,aiD,aiA,and_true]at h;obtain⟨rfl,a⟩:=h;rw[a];rfl
  .cases h
 |box t y=>
  simp only[bc]at h|-;split at h
  .split at h
   .rename_i a;simp only[ab1,aca,aw.c.injEq,aiD,aiA,and_true]at h;obtain⟨rfl,b⟩:=h;rw[b];rfl
   .cases h
  .cases h
 |buildSlice t n j=>
  simp only[bc]at h|-;split at h
  .split at h
   .rename_i d;rw[if_pos d];simp only[ab4,aca,aw.c.injEq,aiD,aiA,and_true]at h|-;obtain⟨g,i,rfl,b⟩:=h;exact⟨g,i,rfl,by rw[b]⟩
   .cases h
  .cases h
 |makeSlice t k c=>
  simp only[bc]at h|-;split at h
  .split at h
   .rename_i d;rw[if_pos d];simp only[ab1,aca,aw.c.injEq,aiD,aiA,and_true]at h;obtain⟨rfl,a⟩:=h;rw[a];rfl
   .cases h
  .cases h
 |_=>simp[grow]at f
end Go.Nx
namespace Go.Nx
variable{C:bu}{op:Op}{e:Env}{H1:List Ob}{x:aw}{ce:cV}{P:Program}{y:ab}{t:TypeId}
section
variable{H H':List Ob}{g g':ab->Option (ab×List Nat)}(hg:∀l r,g l=some r->g' l=some r)
include hg
theorem yU:∀(a:List ab) (r),eX g a=some r->eX g' a=some r
 |[],r,h=>h
 |l::a,r,h=>by
  simp only[eX]at h|-
  split at h
  .rename_i b c
   rw[hg _ _ b,yU a _ c]
   exact h
  .cases h
theorem P4:∀(a:List (List ab)) (r),jR g a=some r->jR g' a=some r
 |[],r,h=>h
 |l::a,r,h=>by
  simp only[jR]at h|-
  split at h
  .rename_i b c
   rw[yU hg _ _ b,P4 a _ c]
   exact h
  .cases h
theorem NT{rows:List (List ab)}{r}(h:jb g rows=some r):jb g' rows=some r:=by grind [jb,(P4)]
end
section
variable{H H':List Ob}(hA:fM [] H H')
include hA
theorem BQ:∀(n:Nat) (l:ab) (r),bU H n l=some r->bU H' n l=some r
 |0,l,r,h=>by simp[bU]at h
 |n+1,l,r,h=>by
  simp only[bU]at h|-
  split at h
  .grind
  .rename_i a
   rw[if_neg a]
   have b:=BQ n
   split at h
   .grind [(mN),(HS),(NT)]
   .grind [(mN),(NT)]
   .grind [(yU)]
   .cases h
theorem af3{v:aw}{r}(h:df H v=some r):df H' v=some r:=by
 cases v with
 |c l=>grind [df,(BQ)]
 |agg cs=>grind [df,(yU),(BQ)]
 |aM a=>exact h
theorem PE:∀(a:List aw) (r),r7 H a=some r->r7 H' a=some r
 |[],r,h=>h
 |v::a,r,h=>by
  simp only[r7]at h|-
  split at h
  .rename_i b c
   rw[af3 hA b,PE a _ c]
   exact h
  .cases h
end
theorem KY{b:cV}{H:List Ob}(a:re C e op=true)(h:eV C (aO C b) op e H=some (x,H1)):
  ∃own,H1=H++own/\∀H',fM [] H H'->H'.length=H.length->eV C (aO C b) op e H'=some (x,H'++own):=by
 unfold re at a
 split at a
 .rename_i f args q
  split at a
  .rename_i g i j k l
   simp only[eV,k,l]at h|-
   unfold aO at h|-
   simp only[abR,bne_iff_ne,ne_eq,afa]at a
   have d:¬(C.md g=3\/(j++i.map aw.c).any (eO C)=true):=by grind
   rw[if_neg d]at h
   split at h
   .rename_i s t m
    split at h
    .rename_i r own n
     split at h
     .rename_i o
      simp only[ab1,aca]at h
      obtain⟨rfl,rfl⟩:=h
      refine⟨_,rfl,fun H' hA p=>?_⟩
      rw[if_neg d,PE hA _ _ m]
      simp only[n,p]
      rw[if_pos o]
     .cases h
    .cases h
   .cases h
  .cases a
 .cases a
theorem ady{H:List Ob}{r:aw×List Ob}(hg:grow op=true)(h:eV C ce op e H=some r):bc C.P e H op=some r:=by
 have hp:plain op=true:=by unfold grow at hg;split at hg<;>first|rfl|cases hg
 rw[pK hp]at h;split at h
 .grind
 .exfalso
  cases op with
  |alloc t=>simp[r8,cA]at h
  |box t y=>simp[r8,cA]at h
  |buildSlice t n a=>simp[r8,cA]at h
  |makeSlice t l c=>simp[r8,cA]at h
  |_=>simp[grow]at hg
theorem Oy{H:List Ob}(hg:grow op=true)(h:eV C ce op e H=some (x,H1)):
  ∃own,H1=H++own/\∀H',fM [] H H'->H'.length=H.length->eV C ce op e H'=some (x,H'++own):=by
 have a:=ady hg h
 have⟨l,z,rows,c,b,_⟩:=Uv hg a
 cases b
 refine⟨_,rfl,fun H' _ d=>?_⟩
 have hp:plain op=true:=by
  unfold grow at hg
  split at hg<;>first|rfl|cases hg
 grind [(pK),(Tm)]
theorem fM.refl{W:List Nat}(H:List Ob):fM W H H:=fun _ _ _ h _=>h
theorem fM.mono{W a:List Nat}{H H':List Ob}(h:fM W H H')(b:∀n∈W,n∈a):fM a H H':=fun n o hn c d=>h n o (fun hc=>hn (b n hc)) c d
theorem TL{H:List Ob}{a b bytes:Nat}{z:List ab}{s:ab}(h:ank P H a b bytes z s y=some (x,H1)):fM [] H H1:=by unfold ank at h;grind [(xM)]
theorem S6{H:List Ob}{a:TypeId}{s:ab}(h:xk P H t a s y=some (x,H1)):fM (iG s) H H1:=by
 unfold xk at h;split at h
 .split at h
  .split at h
   .split at h
    .cases h;exact(xM _).mono (by simp)
    .cases h
   .split at h
    .split at h
     .cases h;exact yH _ _
     .cases h
    .cases h
   .cases h
  .cases h
 .exact (TL h).mono (by simp)
 .cases h
theorem V0{H:List Ob}{b:TypeId}{s:ab}(h:pj P H t b s y=some (x,H1)):fM (iG s) H H1:=by
 unfold pj at h;split at h
 .rename_i r a;simp only[ab1]at h;subst h;unfold Hm at a;split at a
  .split at a
   .split at a
    .cases a;exact yH _ _
    .cases a
   .cases a
  .cases a
 .exact S6 h
theorem afC{H:List Ob}{s:ab}{a:List (List ab)}(h:uP P H t s a=some (x,H1)):fM (iG s) H H1:=by
 unfold uP at h;split at h
 .split at h
  .split at h
   .split at h
    .cases h;exact(xM _).mono (by simp)
    .cases h
   .split at h
    .split at h
     .cases h;exact yH _ _
     .cases h
    .cases h
   .cases h
  .cases h
 .cases h
theorem V8{H:List Ob}{d:List Nat}(b:vM e op=some d)(h:eV C ce op e H=some (x,H1)):fM d H H1:=by
 unfold vM at b;split at b
 case h_2=>cases b
 rename_i p hp;split at b
 case h_3=>cases b
 case h_2=>
  rename_i c;exfalso
  unfold zE at hp;split at hp
  .cases hp;rw[pK rfl]at h;simp only[bc,r8,cA,c]at h;grind
  .rename_i args f;rw[pK rfl]at h;simp only[bc,r8,cA]at h;grind
  .cases hp
 rename_i l c;cases b;unfold zE at hp;split at hp
 .cases hp;rw[pK rfl]at h;simp only[bc,r8,cA,c]at h;split at h
  .rename_i r a;cases h;split at a
   .rename_i g n m o i k q s j t;cases j;split at a
    .split at a
     .split at a
      .split at a
       .cases a;exact yH _ _
       .cases a
      .cases a
     .cases a
    .cases a
   .cases a
  .cases h
 .rename_i args f;rw[pK rfl]at h;simp only[bc,r8,cA]at h;grind [(V0),(afC)]
 .cases hp
end Go.Nx
namespace Go.Nx
variable{e e2:Env}{op:Op}{H:List Ob}{o:Oper}{p:Nat×Oper}{x y:aw}
def tmpsOf(op:Op):List Nat:=op.operands.toList.filterMap fun| .tmp t=>some t|_=>none
theorem OJ(h:∀t∈tmpsOf op,e.get t=e2.get t):∀p∈op.operands,aX e p=aX e2 p:=by
 intro p hp;cases p with
 |tmp t=>refine h t ?_;unfold tmpsOf;rw[List.mem_filterMap];exact⟨.tmp t,by grind,rfl⟩
 |_=>rfl
def xf(op:Op):List Nat:=
 match zE op with
 |some (.tmp t)=>[t]
 |_=>[]
def uu(all:List Oper)(o:Oper):List Nat:=
 tmpsOf o.op++(match o.guard with|some (j,_)=>((all[j]?).bind (·.dst)).toList|none=>[])
theorem Vo(h:∀p∈op.operands,aX e p=aX e2 p):uG e op=uG e2 op:=by grind [uG,(ajp)]
def afD(h:∀t∈xf op,e.get t=e2.get t):vM e op=vM e2 op:=by
 unfold vM xf at*;split
 .rename_i p hp;rw[hp]at h
  have:aX e p=aX e2 p:=by
   cases p with
   |tmp t=>exact h t (by simp)
   |_=>rfl
  rw[this]
 .rfl
theorem Z9{C:bu}(h:∀p∈op.operands,aX e p=aX e2 p):re C e op=re C e2 op:=by
 cases op with
 |call c=>
  have⟨a,args,g⟩:=c;cases a with
  |value f=>simp only[re];have⟨b,d⟩:=O1 h;rw[b,d]
  |_=>rfl
 |_=>rfl
section
variable{C:bu}{ce:cV}{r:RI}{all:List Oper}{n0:Nat}
theorem aqG{g:Option (Nat×Bool)}(h:∀j w,g=some (j,w)->∀t,(all[j]?).bind (·.dst)=some t->e.get t=e2.get t):nI all e g=nI all e2 g:=by unfold nI;grind
def L5{a i:Op}(b:∀t∈tmpsOf a,e.get t=e2.get t)(c:∀t∈xf i,e.get t=e2.get t):qp e a i=qp e2 a i:=by unfold qp;rw[Vo (OJ b),afD c]
theorem ac3{i:Nat}(a:∀p∈op.operands,aX e p=aX e2 p):jH C ce r n0 i op e H=jH C ce r n0 i op e2 H:=by grind [jH,(Z9),(abf),gO,(apl)]
theorem Ju{i:Nat}(h:∀t∈uu all o,e.get t=e2.get t):fA C ce r all n0 i o e H=fA C ce r all n0 i o e2 H:=by grind [(OJ),uu,fA,(aqG),(ac3)]
def pb(e e2:Env):Prop:= ∀t,e.get t=e2.get t
theorem pb.put(h:pb e e2)(d:Option Nat)(x:aw):pb (ee e d x) (ee e2 d x):=fun t=>by rw[Env.nO,Env.nO,h t]
theorem KO:∀(d:List (Nat×Oper)) (e e2:Env) (H:List Ob) (b:Env) (c:List Ob),pb e e2->fZ C ce r all n0 d e H=some (b,c)->∃f,fZ C ce r all n0 d e2 H=some (f,c)/\pb b f
 |[],e,e2,H,b,c,h,a=>by
  grind [fZ]
 |p::g,e,e2,H,b,c,h,a=>by
  simp only[fZ]at a|-
  rw[Ju (e2:=e) (fun t _=>(h t).symm)]
  split at a
  .exact KO g _ _ _ _ _ (h.put _ _) a
  .cases a
def uy(C:bu)(r:RI)(all:List Oper)(p q:Nat×Oper):Bool:=
 (match p.2.dst with|some d=>!(uu all q.2).contains d&&q.2.dst !=some d|none=>true)&&
 (match q.2.dst with|some d=>!(uu all p.2).contains d|none=>true)&&
 (r.fl !=some p.1)&&
 (if r.fl=some q.1 then quiet C.P p.2.op||grow p.2.op||r.gc.contains p.1
  else quiet C.P p.2.op&&(blind C.P p.2.op||quiet C.P q.2.op||grow q.2.op||r.gc.contains q.1||r.rs.contains (p.1,q.1)))
theorem Dq{q:Nat×Oper}(h:uy C r all p q=true):(∀d,p.2.dst=some d->d∉uu all q.2/\q.2.dst≠some d)/\(∀d,q.2.dst=some d->d∉uu all p.2)/\r.fl≠some p.1/\
  (r.fl=some q.1->quiet C.P p.2.op=true\/grow p.2.op=true\/r.gc.contains p.1=true)/\
  (r.fl≠some q.1->quiet C.P p.2.op=true/\(blind C.P p.2.op=true\/quiet C.P q.2.op=true\/grow q.2.op=true\/r.gc.contains q.1=true\/(p.1,q.1)∈r.rs)):=by
 grind [uy]
end
section
variable{C:bu}{eb:cV}{r:RI}{all:List Oper}{n0:Nat}
theorem Ey{b:List Ob}(f:r.fl≠some p.1)(h:quiet C.P p.2.op=true\/grow p.2.op=true\/r.gc.contains p.1=true)(hp:fA C (aO C eb) r all n0 p.1 p.2 e H=some (x,b)):
  ∃own,b=H++own/\∀a,fM [] H a->a.length=H.length->fA C (aO C eb) r all n0 p.1 p.2 e a=some (x,a++own):=by
 unfold fA at hp|-
 split at hp
 .rename_i c hc
  split at hp
  .rename_i d
   subst d
   unfold jH at hp|-
   rw[if_neg f]at hp
   split at hp
   .rename_i i
    have j:∃own,b=H++own/\∀a,fM [] H a->a.length=H.length->eV C (aO C eb) p.2.op e a=some (x,a++own):=by
     rcases h with g|k|o
     .refine ⟨[],by simpa using(vW (fM.refl (W:=[]) H) g (fun _ _ _ _ _ _=>by simp) hp).1,fun a hA _=>?_⟩
      rw[aeU]
      exact(vW hA g (fun _ _ _ _ _ _=>by simp) hp).2
     .exact Oy k hp
     .have:re C e p.2.op=true:=by grind
      exact KY this hp
    have⟨own,l,m⟩:=j
    refine⟨own,l,fun a hA n=>?_⟩
    simp only[if_true]
    rw[if_neg f,if_pos i]
    exact m a hA n
   .cases hp
  .rename_i d
   cases hp
   refine⟨[],by simp,fun a _ _=>?_⟩
   simp only[if_neg d,aeU]
 .cases hp
theorem agK{i:Nat}{d own:List Ob}(f:r.fl=some i)(hn:n0<H.length)(h:fA C (aO C eb) r all n0 i o e (H++own)=some (y,d)):
  ∃a,fA C (aO C eb) r all n0 i o e H=some (y,a)/\d=a++own/\fM [] H a/\a.length=H.length:=by
 unfold fA at h|-
 split at h
 .rename_i c hc
  split at h
  .rename_i b
   subst b
   unfold jH at h|-
   rw[if_pos f]at h
   simp only[if_true]
   rw[if_pos f]
   unfold gO at h|-
   split at h
   .grind [(aaC)]
   .cases h
  .rename_i b
   cases h
   exact⟨H,by rw[if_neg b],rfl,fM.refl H,rfl⟩
 .cases h
theorem af7{q:Nat×Oper}{b d:List Ob}(hn:r.fl≠none->n0<H.length)(u:(p.1,q.1)∈r.rs->qp e p.2.op q.2.op=true)(w:uy C r all p q=true)(hp:fA C (aO C eb) r all n0 p.1 p.2 e H=some (x,b))(a:fA C (aO C eb) r all n0 q.1 q.2 (ee e p.2.dst x) b=some (y,d)):
  ∃m,fA C (aO C eb) r all n0 q.1 q.2 e H=some (y,m)/\fA C (aO C eb) r all n0 p.1 p.2 (ee e q.2.dst y) m=some (x,d)/\H.length<=b.length:=by
 have⟨R,S,g,T,z⟩:=Dq w
 rw[Ju (e2:=e) (fun t A=>by
  grind [(Env.nO)])]at a
 have B:∀H,fA C (aO C eb) r all n0 p.1 p.2 (ee e q.2.dst y) H=fA C (aO C eb) r all n0 p.1 p.2 e H:=fun H=>Ju (fun t A=>by
  grind [(Env.nO)])
 simp only[B]
 by_cases n:r.fl=some q.1
 .grind [(Ey),(agK)]
 .have ⟨i,D⟩:=z n
  have⟨own,U,s⟩:=Ey g (.inl i) hp
  have E:b=H:=by
   unfold fA at hp
   split at hp
   .split at hp
    .unfold jH at hp
     rw[if_neg g]at hp
     split at hp
     .exact (vW (fM.refl (W:=[]) H) i (fun _ _ _ _ _ _=>by simp) hp).1
     .cases hp
    grind
   .cases hp
  subst E
  refine⟨d,a,?_,ad3 _⟩
  unfold fA at hp|-
  split at hp
  .rename_i c hc
   split at hp
   .rename_i j
    subst j
    simp only[if_true]
    unfold jH at hp|-
    rw[if_neg g]at hp|-
    split at hp
    .rename_i F
     rw[if_pos F]
     have sub:∀W,fM W b d->(∀f∈p.2.op.operands.toList, ∀v,aX e f=some v->∀h∈lS v,h∉W)->eV C (aO C eb) p.2.op e d=some (x,d):=fun W hA k=>(vW hA i k hp).2
     unfold fA at a
     split at a
     .split at a
      .unfold jH at a
       rw[if_neg n]at a
       split at a
       .rename_i V
        rcases D with G|I|J|X|K
        .exact (aeu d G hp).2
        .have:d=b:=(vW (fM.refl (W:=[]) b) I (fun _ _ _ _ _ _=>by simp) a).1
         subst this
         exact hp
        .obtain ⟨L,rfl,_⟩:=Oy J a
         exact sub [] (xM _) (fun _ _ _ _ _ _=>by simp)
        .have:re C e q.2.op=true:=by grind
         obtain⟨L,rfl,_⟩:=KY this a
         exact sub [] (xM _) (fun _ _ _ _ _ _=>by simp)
        .have l:=u K
         have Y:∀f∈p.2.op.operands.toList, ∀v,aX e f=some v->∀h∈lS v,h∈uG e p.2.op:=by grind [uG]
         unfold qp at l
         split at l
         .rename_i Z
          refine sub (aiZ b.length) (fun h o s M _=>?_) (fun f N v O h k=>?_)
          .have:=(abW.1 M).1
           simp at s
           omega
          grind
         .rename_i P Q _
          refine sub P (V8 Q a) (fun f N v O h k=>?_)
          grind
         .cases l
       .cases a
      .cases a
       exact hp
     .cases a
    .cases hp
   .rename_i j
    cases hp
    simp only[if_neg j]
  .cases hp
theorem IS:∀(c:List (Nat×Oper)) (e a:Env) (H b:List Ob),fZ C (aO C eb) r all n0 c e H=some (a,b)->∀t,(∀p∈c,p.2.dst≠some t)->a.get t=e.get t
 |[],e,a,H,b,h,t,_=>by
  grind [fZ]
 |p::f,e,a,H,b,h,t,d=>by
  simp only[fZ]at h
  split at h
  .rw[IS f _ _ _ _ h t (fun q g=>d q (by simp[g])),Env.nO,if_neg (d p (by simp))]
  .cases h
def I9(p q:Nat×Oper)(X:List (Nat×Oper)):Prop:= ∀x∈X, ∀d,x.2.dst=some d->d∉tmpsOf p.2.op/\d∉xf q.2.op
def RM{q:Nat×Oper}{B:List (Nat×Oper)}:∀(A:List (Nat×Oper)) (e:Env) (H:List Ob) (b:Env) (c:List Ob),(r.fl≠none->n0<H.length)->(∀g p d,A=g++p::d->uy C r all p q=true/\((p.1,q.1)∈r.rs->qp b p.2.op q.2.op=true/\I9 p q (p::d++q::B)))->
  fZ C (aO C eb) r all n0 (A++q::B) e H=some (b,c)->∃m,fZ C (aO C eb) r all n0 (q::A++B) e H=some (m,c)/\pb b m
 |[],e,H,b,c,_,_,h=>⟨b,h,fun _=>rfl⟩
 |p::A,e,H,b,c,hn,hA,h=>by
  have⟨i,v⟩:=hA [] p A rfl
  have w:(p.1,q.1)∈r.rs->qp e p.2.op q.2.op=true:=fun hm=>by
   have⟨c1,c2⟩:=v hm
   rw[L5 (e2:=b) (fun t j=>(IS _ _ _ _ _ h t fun x k l=>(c2 x k t l).1 j).symm) (fun t j=>(IS _ _ _ _ _ h t fun x k l=>(c2 x k t l).2 j).symm)]
   exact c1
  simp only[ai7,fZ]at h|-
  split at h
  .rename_i x z hp
   have O:H.length<=z.length:=by
    have⟨n,D,o,s,u⟩:=Dq i
    have:quiet C.P p.2.op=true\/grow p.2.op=true\/r.gc.contains p.1=true:=by
     by_cases f:r.fl=some q.1
     .exact s f
     .exact .inl (u f).1
    obtain⟨own,rfl,_⟩:=Ey o this hp
    simp
   have⟨Q,a,E⟩:=RM A _ _ _ _ (fun f=>by have:=hn f;omega) (fun g F d G=>hA (p::g) F d (by rw[G];rfl)) h
   simp only[ai7,fZ]at a
   split at a
   .rename_i y R I
    have⟨S,J,K,_⟩:=af7 hn w i hp I
    rw[J]
    simp only
    rw[K]
    simp only
    have⟨n,D,o,s,u⟩:=Dq i
    have L:pb (ee (ee e p.2.dst x) q.2.dst y) (ee (ee e q.2.dst y) p.2.dst x):=by
     intro t
     simp only[Env.nO]
     by_cases a:p.2.dst=some t
     .have:=(n t a).2
      simp[a,this]
     .simp[a]
    have⟨e2,M,N⟩:=KO _ _ _ _ _ _ L a
    exact⟨e2,M,fun t=>(E t).trans (N t)⟩
   .cases a
  .cases h
end
end Go.Nx
namespace Go.Nx
def az.iZ(Γ:az)(n0:Nat)(cells:Array Value)(T:TypeId)(a:fm):az:=
 {w:=Γ.w.alloc (.cells cells T),F:=Γ.F,X:=fun b=>Γ.X b\/b=Γ.w.heap.size,hs:=Γ.hs.set n0 (a,1)}
section
variable{Γ:az}{H:List Ob}(hok:aZ Γ H){n0:Nat}(hd:H[n0]?=some .dead)
include hok hd
theorem Q5(cells:Array Value)(T:TypeId)(a:fm):Γ.Le (Γ.iZ n0 cells T a)where
 F _ _ h:=h
 mem b z c:=lV Γ.w _ b (hok.F b z c)
 hs h i v d:=by
  have⟨e,f⟩:=hok.ob n0 _ hd
  grind [az.iZ]
theorem Ro(cells:Array Value)(T:TypeId)(c:fm):Γ.cL (Γ.iZ n0 cells T c)where
 le:=Q5 hok hd cells T c
 os:=rfl
 tape:=rfl
 output:=rfl
 size:=by simp[az.iZ]
 frame b a _:=lV Γ.w _ b a
 mF b z a:= .inl a
 lj b a:=by
  rcases a with a|a
  .exact .inl a
  omega
theorem ML(cells:Array Value)(T:TypeId)(cap a:Nat)(rows:List (List ab))(x:cap<=maxLen)(A:rows.length<=cap)(B:0<a)
  (J:cap*a<=cells.size) (C:∀r∈rows,r.length=a) (i:List Value) (p:aY Γ rows.flatten i) (K:∀(k:Nat) (y:Value),i[k]?=some y->cells[k]?=some y):
  aZ (Γ.iZ n0 cells T ⟨some Γ.w.heap.size,0,cap,a⟩) (H.set n0 (.live 1 a rows)):=by
 have q:=Q5 hok hd cells T ⟨some Γ.w.heap.size,0,cap,a⟩
 have s:n0<H.length:=(abW.1 hd).1
 have D:(Γ.iZ n0 cells T ⟨some Γ.w.heap.size,0,cap,a⟩).w.heap[Γ.w.heap.size]?=some (.cells cells T (0,0)):=heap_alloc_new Γ.w _
 have E:bE (Γ.iZ n0 cells T ⟨some Γ.w.heap.size,0,cap,a⟩) Γ.w.heap.size a 0 rows:=by
  have G:=G9 q _ _ p
  clear p
  have I:∀(c:List (List ab)) (j:Nat) (l:List Value),(∀r∈c,r.length=a)->aY (Γ.iZ n0 cells T ⟨some Γ.w.heap.size,0,cap,a⟩) c.flatten l->(∀(k:Nat) (y:Value),l[k]?=some y->cells[j+k]?=some y)->
    bE (Γ.iZ n0 cells T ⟨some Γ.w.heap.size,0,cap,a⟩) Γ.w.heap.size a j c:=by
   intro c
   induction c with
   |nil=>grind [bE]
   |cons r c L=>
    intro j l t u hc
    simp only[bE]
    have M:=t r (by simp)
    have N:=sQ u r.length
    have O:=tx u r.length
    grind [(nS),(kX),(cell_of)]
  exact I rows 0 i C G (fun k y P=>by grind)
 have t:=hok.len
 refine hok.put q n0 (by simp[az.iZ,hok.len]) (fun n hn=>⟨aat (fun e=>hn e.symm),by grind [az.iZ]⟩) (fun o m=>?_) (fun o Q v b m _ g h=>?_) (fun b h _=>lV Γ.w _ b h)
  (fun b z f=> .inl f) (fun b d=> .inl d) (fun b z f=>?_) (fun b d=>?_)
 .rw[ahr s]at m
  cases m
  refine⟨⟨some Γ.w.heap.size,0,cap,a⟩,by grind [az.iZ],x,?_⟩
  refine⟨rfl,.inr rfl,fun z f=>?_,A,B,cells,T,.fresh D,by grind,E⟩
  have:=hok.F _ _ f
  omega
 .simp only[az.iZ]at g
  rw[ahr (hok.len▸s)]at g
  simp at g
  rw[<-g.1]at h
  cases h
  exact .inl (ad3 _)
 .have:=hok.F _ _ f
  grind
 .rcases d with d|d
  .have:=hok.X _ d
   simp[az.iZ];omega
  grind
end
theorem aZ.wZ{Γ:az}{H:List Ob}(hok:aZ Γ H):∃a,a.w=Γ.w/\Γ.cL a/\aZ a (H++[.dead]):=by
 have f:Γ.Le {Γ with hs:=Γ.hs++[(⟨none,0,0,0⟩,0)]}:=⟨fun _ _ h=>h,fun _ _ _=>rfl,fun h i v g=>⟨i,v,by
  have j:h<Γ.hs.length:=(abW.1 g).1
  simp only
  rw[abE j];exact g,ad3 _,fun _=>rfl⟩⟩
 refine⟨{Γ with hs:=Γ.hs++[(⟨none,0,0,0⟩,0)]},rfl,⟨f,rfl,rfl,rfl,ad3 _,fun _ _ _=>rfl,fun _ _ h=> .inl h,fun _ h=> .inl h⟩,?_⟩;have l:=hok.len
 refine hok.put f H.length (by simp[hok.len]) (fun n hn=>⟨ot _ _ _ hn,by simp only;exact ot _ _ _ (by omega)⟩) (fun o c=>?_) (fun o m v b c p hs k=>?_) (fun b k _=>rfl)
  (fun b z d=> .inl d) (fun b e=>e) (fun b z d=>hok.F b z d) (fun b e=>hok.X b e)
 .simp at c;subst c;exact⟨⟨none,0,0,0⟩,by simp[hok.len]⟩
 grind
def uX:Op->Bool
 | .alloc _| .buildSlice _ _ _=>true
 |_=>false
theorem Vf{P:Program}{e:Env}{H j:List Ob}{c:Op}{n0:Nat}{x:aw}(u:uX c=true)(h:gO P c e H n0=some (x,j)):lq P e H c x j:=by
 unfold gO at h;split at h
 .rename_i S z rows hd b;split at h
  .rename_i T;simp only[ab1,aca]at h;obtain⟨rfl,rfl⟩:=h;refine lq.tJ fun Γ a v l hok A=>?_;have⟨U,c,V,pos,W,guard⟩:=v;simp only at l;subst l;have X:n0<Γ.hs.length:=hok.len▸ (abW.1 hd).1;cases c with
   |alloc t=>
    simp only[bc]at b;split at b
    case h_2=>cases b
    rename_i y d B;simp only[ab1,aca,aiD,aiA,and_true,Ob.live.injEq,true_and]at b;obtain⟨rfl,rfl,rfl⟩:=b;have⟨i,f,C,D,Y,E⟩:=xu B;have hc:=oJ (Γ:=Γ) E;have F:=fI hc;simp only[aje,aip]at F
    refine⟨.pointer (some ⟨Γ.w.heap.size,0,none⟩),Γ.iZ n0 f.cells t ⟨some Γ.w.heap.size,0,1,d.length+1⟩,.inl (by simp[execOp,Instr.alloc,zeroValue,typeInfo,C,D,newVar,newRow];rfl),Ro hok hd _ _ _,
     ML hok hd f.cells t 1 (d.length+1) [y::d] (by simp[maxLen]) (by simp) (by omega) (by omega) (by simp) f.cells.toList (by simpa using hc) (fun k y g=>by simpa using g),?_⟩
    grind [iQ,aL,aB,az.iZ]
   |buildSlice t n m=>
    simp only[bc]at b;split at b
    case h_2=>cases b
    rename_i o q bytes Z G;split at b
    case isFalse=>cases b
    rename_i I;simp only[ab4,aca,aiD,aiA,and_true,Ob.live.injEq,true_and]at b;obtain⟨J,K,rfl,rfl,rfl⟩:=b;obtain⟨r,L,M,s⟩:=I;have N:=Ix (Γ:=Γ) (e:=e) (a:=a) m.toList (fun p hp=>A p (by simpa[acH]using hp));obtain⟨cells,O,Q,R,g4,g5⟩:=Ml (P:=P) (vs:=m.map fun(i,x)=>(i,a.eval x)) G r L M s (by simpa using N) K;refine⟨.slice (some ⟨Γ.w.heap.size,0,none⟩) n n,Γ.iZ n0 cells o ⟨some Γ.w.heap.size,0,n,q⟩,.inl (by simp[execOp,O];rfl),Ro hok hd _ _ _,ML hok hd cells o n q J s (by omega) r (by omega) R cells.toList Q (fun k y g=>by simpa using g),?_⟩;grind [iQ,aL,aB,az.iZ]
   |_=>simp[uX]at u
  .cases h
 .cases h
end Go.Nx
namespace Go.Nx
variable{ops:Array Oper}{C:bu}{r:RI}{n0 n:Nat}{Γ0:az}{ds:List (FuncId×List aw)}{a:Act}{w:World}{Q:Exit->Act->World->Prop}{ms:List Nat}{eb:cV}{H':List Ob}
def vO(b:List Nat)(o:Oper):Nat:=o.after.toList.foldl (fun s a=>if ajW .any a then s|||(2 ^ a.on|||b.getD a.on 0)else s) 0
def qB:List Oper->List Nat->List Nat
 |[],a=>a
 |o::b,a=>qB b (a++[vO a o])
def qC(ms:List Nat)(j k:Nat):Bool:=(ms.getD k 0).testBit j
theorem Ra:∀(ops:List Oper) (a:List Nat), ∃l,qB ops a=a++l/\l.length=ops.length/\∀(k:Nat) (o:Oper),ops[k]?=some o->l[k]?=some (vO (a++l.take k) o)
 |[],a=>⟨[],by simp[qB],rfl,by simp⟩
 |o::b,a=>by
  have⟨l,c,d,e⟩:=Ra b (a++[vO a o])
  refine⟨vO a o::l,by simp[qB,c],by simp[d],fun k p f=>?_⟩
  cases k with
  |zero=>grind
  |succ k=>
   grind
theorem Y0(c:List Nat)(o:Oper)(j:Nat)(h:(vO c o).testBit j=true):∃a∈o.after.toList,ajW .any a=true/\(a.on=j\/(c.getD a.on 0).testBit j=true):=by
 unfold vO at h
 have k:∀(l:List Edge) (s:Nat),(l.foldl (fun s a=>if ajW .any a then s|||(2 ^ a.on|||c.getD a.on 0)else s) s).testBit j=true->
   s.testBit j=true\/∃a∈l,ajW .any a=true/\(a.on=j\/(c.getD a.on 0).testBit j=true):=by
  intro l
  induction l with
  |nil=>intro s h;exact .inl h
  |cons a l e=>
   intro s h
   simp only[ai2]at h
   rcases e _ h with b|⟨f,b,g,i⟩
   .split at b
    .rename_i d
     rw[Nat.testBit_or,Nat.testBit_or]at b
     simp only[ai9]at b
     rcases b with b|b|b
     .exact .inl b
     .right
      refine⟨a,by simp,d,.inl ?_⟩
      simpa[Nat.testBit_two_pow]using b
     .exact .inr ⟨a,by simp,d,.inr b⟩
    .exact .inl b
   .exact .inr ⟨f,by simp[b],g,i⟩
 grind
theorem aem{ops:List Oper}{listed:Nat->Prop}(n:∀(k:Nat) (o:Oper),ops[k]?=some o->∀a∈o.after.toList,ajW .any a=true->a.on<k)
  (p:∀(k:Nat) (o:Oper),ops[k]?=some o->listed k->∀a∈o.after.toList,ajW .any a=true->listed a.on):
  ∀(k:Nat) (o:Oper),ops[k]?=some o->(∀a∈o.after.toList,ajW .any a=true->listed a.on)->∀j,qC (qB ops []) j k=true->listed j:=by
 have⟨l,e,t,f⟩:=Ra ops []
 simp only[aiD]at e f
 intro k
 induction k using amy with
 |_ k q=>
  intro o c r j d
  have u:k<ops.length:=(abW.1 c).1
  have hm:=f k o c
  unfold qC at d
  rw[e,ae5,hm,ai0]at d
  have⟨a,g,h,i⟩:=Y0 _ o j d
  rcases i with rfl|i
  .grind
  .have s:=n k o c a g h
   obtain⟨b,m⟩:∃b,ops[a.on]?=some b:=⟨ops[a.on]'(by omega),abM (by omega)⟩
   refine q a.on s b m (p a.on b m (r a g h)) j ?_
   grind [qC]
theorem agw{l:List Nat}{p q:Nat->Bool}(h:∀x,q x=true->p x=true){y:Nat}(a:y∈l)(hp:p y=true)(c:q y=false):l.countP q<l.countP p:=by
 induction l with
 |nil=>cases a
 |cons x l d=>rw[List.countP_cons,List.countP_cons];have e:l.countP q<=l.countP p:=List.countP_mono_left fun x _ b=>h x b;grind
theorem FE{a:Array Bool}{k:Nat}(b:k<a.size):a.getD k true=a.getD k false:=by grind
theorem U9{l:cV}(B:my C.P l)(D:oZ n ops.toList=true){i:Nat}{o:Oper}(E:r.fl=some i->uX o.op=true)(F:ops[i]?=some o){e:Env}{H b:List Ob}{x:aw}
  (h:fA C l r ops.toList n0 i o e H=some (x,b)) (G:Sat n Γ0 ⟨e,H,ds⟩ a w) {K:Act->World->Prop}
  (m:∀q s,Sat n Γ0 ⟨ee e o.dst x,b,ds⟩ q s->(n0<H.length->n0<b.length)->K q s):wpOp C.P ops Q i K a w:=by
 obtain⟨j,d,rfl,u,k,f,v⟩:=G
 unfold wpOp
 simp only[F]
 have I:=F3 D (o:=o) (by grind)
 unfold fA at h
 split at h
 .rename_i c J
  rw[yn f J]
  split at h
  .rename_i z
   subst z
   rw[if_pos rfl]
   left
   have L:lq C.P e H o.op x b:=by
    unfold jH at h
    split at h
    .rename_i M
     exact Vf (E M) h
    .split at h
     .exact AQ B h
     .cases h
   refine L d a o rfl k (fun p _=>uD f p) _ _ (fun y N g O R=>m _ _ ⟨by rw[vB];exact j,N,rfl,u.trans g,O,(f.mono g.le).put (fun t A=>by rw[j];exact I t A) R,by rw[put_defers];exact v.mono g.le⟩ (fun hn=>?_))
   rw[k.len]at hn
   have⟨S,T,U,_⟩:=g.le.hs n0 (d.hs[n0]).1 (d.hs[n0]).2 (by rw[abM hn])
   grind [(aZ.len)]
  .rename_i z
   have:c=false:=by grind
   subst this
   simp only[ab1,aca]at h
   obtain⟨rfl,rfl⟩:=h
   rw[if_neg (by simp)]
   exact m _ _ ⟨by rw[vB];exact j,d,rfl,u,k,f.put (fun t A=>by grind) NX,by rw[put_defers];exact v⟩ (fun h=>h)
 .cases h
def yY(l:List Oper):Bool:=(aiZ l.length).all fun k=>match l[k]? with|some o=>o.after.toList.all (fun a=>!Region.binds .any a||decide (a.on<k))|none=>true
theorem aaY{l:List Oper}(h:yY l=true):∀(k:Nat) (o:Oper),l[k]?=some o->∀a∈o.after.toList,ajW .any a=true->a.on<k:=by grind [yY]
def tX(ms:List Nat)(p q:Nat×Oper)(X:List (Nat×Oper)):Bool:=
 X.all fun x=>match x.2.dst with
  |some d=>!(tmpsOf p.2.op).contains d&&(!(xf q.2.op).contains d||qC ms x.1 q.1)
  |none=>true
theorem afu{p q:Nat×Oper}{X Y:List (Nat×Oper)}(h:tX ms p q X=true)(a:∀x∈Y,x∈X/\qC ms x.1 q.1=false):I9 p q Y:=by intro x b d c;grind [tX]
theorem afv{p q:Nat×Oper}{X Y:List (Nat×Oper)}(h:tX ms p q X=true)(a:∀x∈Y,x∈X):tX ms p q Y=true:=by grind [tX]
def uk(C:bu)(r:RI)(all:List Oper)(ms:List Nat):List (Nat×Oper)->Bool
 |[]=>true
 |p::a=>(a.all fun q=>qC ms p.1 q.1||(uy C r all p q&&(!r.rs.contains (p.1,q.1)||tX ms p q (p::a))))&&uk C r all ms a
theorem PU{C:bu}{r:RI}{all:List Oper}{ms:List Nat}{q:Nat×Oper}{B:List (Nat×Oper)}:∀(A:List (Nat×Oper)),uk C r all ms (A++q::B)=true->
  (∀c p d,A=c++p::d->qC ms p.1 q.1=true\/(uy C r all p q=true/\((p.1,q.1)∈r.rs->tX ms p q (p::d++q::B)=true)))/\uk C r all ms (A++B)=true
 |[],h=>by
  grind [uk]
 |p::A,h=>by
  simp only[ai7,uk,abR,ahI]at h|-
  have⟨f,g⟩:=PU A h.2
  refine⟨fun c i d e=>?_,fun k l=>?_,g⟩
  .cases c with
   |nil=>
    simp only[aiD,aiA]at e
    obtain⟨rfl,rfl⟩:=e
    have:=h.1 q (by simp)
    simp only[ai9,abR]at this
    rcases this with h|⟨j,b⟩
    .exact .inl h
    .refine .inr ⟨j,fun hm=>?_⟩
     rcases b with b|b
     .have hc:r.rs.contains (p.1,q.1)=true:=by simpa using hm
      rw[hc]at b
      cases b
     .exact b
   |cons a c=>
    simp only[ai7,aiA]at e
    exact f c i d e.2
  grind [(afv)]
theorem acb(ak:my C.P (aO C eb))(hd:oZ n ops.toList=true)(al:∀i o,ops.toList[i]?=some o->r.fl=some i->uX o.op=true)(am:yY ops.toList=true){J:Env}(V:qU ops.toList r.rs J=true)(hQ:∀ab a w,pb J ab->Sat n Γ0 ⟨ab,H',ds⟩ a w->Q .normal a w):
  ∀(K:Nat) (listed:Array Bool) (c:List (Nat×Oper)) (e d:Env) (H:List Ob),listed.size=ops.toList.length->(aiZ ops.toList.length).countP (fun k=>!listed.getD k false)<=K->
   (∀(k:Nat) (o:Oper),ops.toList[k]?=some o->listed.getD k false=true->∀f∈o.after.toList,ajW .any f=true->listed.getD f.on false=true)->
   (∀p∈c,ops.toList[p.1]?=some p.2)->(∀k,k<ops.toList.length->(listed.getD k false=false↔k∈c.map (·.1)))->(c.map (·.1)).Nodup->uk C r ops.toList (qB ops.toList []) c=true->
   fZ C (aO C eb) r ops.toList n0 c e H=some (d,H')->pb J d->(r.fl≠none->n0<H.length)->∀a w,Sat n Γ0 ⟨e,H,ds⟩ a w->wpAny C.P .any ops Q K listed a w:=by
 have ad:=aaY am
 have az:∀(listed:Array Bool),listed.size=ops.toList.length->akx .any ops listed=[]->∀k,k<ops.toList.length->listed.getD k false=true:=by
  intro listed v j k
  induction k using amy with
  |_ k W=>
   intro z
   cases g:listed.getD k false with
   |true=>rfl
   |false=>
    exfalso
    have O:ops.toList[k]?=some (ops.toList[k]'(by omega)):=abM (by omega)
    have aA:k∈akx .any ops listed:=by
     rw[mem_ready]
     refine⟨by rw[FE (by omega)];exact g,ops.toList[k]'(by omega),by rw[<-akK];exact O,fun f D E=>?_⟩
     have:=ad k _ O f (by simpa using D) E
     exact W f.on this (by omega)
    grind
 have ae:∀(listed:Array Bool) (c:List (Nat×Oper)) (e d:Env) (H:List Ob) a w,listed.size=ops.toList.length->(∀p∈c,ops.toList[p.1]?=some p.2)->(∀k,k<ops.toList.length->(listed.getD k false=false↔k∈c.map (·.1)))->
   fZ C (aO C eb) r ops.toList n0 c e H=some (d,H')->pb J d->akx .any ops listed=[]->Sat n Γ0 ⟨e,H,ds⟩ a w->Q .normal a w:=by
  intro listed c e d H a w v m F z s j L
  cases c with
  |nil=>
   grind [fZ]
  |cons p ps=>
   grind
 intro K
 induction K with
 |zero=>
  intro listed c e d H v an X m F Y af z s hn a w L
  have j:akx .any ops listed=[]:=by
   cases j:akx .any ops listed with
   |nil=>rfl
   |cons k r=>
    exfalso
    have hm:k∈akx .any ops listed:=by rw[j];simp
    grind [(mem_ready),(List.countP_eq_zero)]
  exact⟨j,ae listed c e d H a w v m F z s j L⟩
 |succ K W=>
  intro listed c e d H v an X m F Y af z s hn a w L
  refine⟨fun j=>ae listed c e d H a w v m F z s j L,fun i hi=>?_⟩
  have⟨Z,o,O,ag⟩:=mem_ready.1 hi
  have G:ops.toList[i]?=some o:=by grind
  have ah:i<ops.toList.length:=(abW.1 G).1
  rw[FE (by omega)]at Z
  have I:∀k,(listed.setIfInBounds i true).getD k false=true↔ (listed.getD k false=true\/k=i):=by
   intro k
   by_cases R:k=i
   .simp_all
   .rw[aiR,akG (fun e=>R e.symm), <-aiR]
    simp[R]
  have ai:=(F i ah).1 Z
  rw[aiK]at ai
  have⟨q,hq,aa⟩:=ai
  have S:=m q hq
  rw[aa,G]at S
  obtain⟨A,B,rfl⟩:=List.append_of_mem hq
  have⟨b,o'⟩:=q
  simp only at aa S
  subst aa
  simp only[ab1]at S
  subst S
  have⟨m1,m2⟩:=PU A af
  have ao:∀p∈A++(b,o)::B,qC (qB ops.toList []) p.1 b=false:=by
   intro p hp
   cases ap:qC (qB ops.toList []) p.1 b with
   |false=>rfl
   |true=>
    exfalso
    have aB:=m p hp
    have:=aem (listed:=fun k=>listed.getD k false=true) ad X b o G (fun f D E=>ag f (by simpa using D) E) p.1 ap
    grind
  have aq:∀A1 p M,A=A1++p::M->uy C r ops.toList p (b,o)=true/\((p.1,b)∈r.rs->qp d p.2.op o.op=true/\I9 p (b,o) (p::M++(b,o)::B)):=by
   intro A1 p M ar
   have aj:∀x∈p::M++(b,o)::B,x∈A++(b,o)::B:=by grind
   have au:=aj p (by simp)
   have⟨s1,s2⟩:=(m1 A1 p M ar).resolve_left fun h=>by grind
   refine⟨s1,fun hm=>⟨?_,afu (s2 hm) fun x u=>⟨u,ao x (aj x u)⟩⟩⟩
   unfold qU at V
   rw[ahI]at V
   have:=V _ hm
   rw[m p au]at this
   simp only[G]at this
   rw[<-L5 (e:=J) (fun t _=>s t) (fun t _=>s t)]
   exact this
  have⟨e2,T,k2⟩:=RM A e H d H' hn aq z
  simp only[ai7,fZ]at T
  split at T
  .rename_i x H2 u
   refine U9 ak hd (fun hf=>al b o G hf) O u L (fun a' w' av aw=>?_)
   refine W _ (A++B) _ e2 H2 (by simp[v]) ?_ ?_ (fun p hp=>m p (by simp at hp|-;rcases hp with h|h<;>simp[h])) ?_ ?_ m2 T (fun t=>(s t).trans (k2 t)) (fun hf=>aw (hn hf)) a' w' av
   .have aC:=agw (l:=aiZ ops.toList.length) (p:=fun k=>!listed.getD k false) (q:=fun k=>!(listed.setIfInBounds b true).getD k false) (y:=b) (fun x u=>by
     cases g:listed.getD x false with
     |false=>rfl
     |true=>rw[(I x).2 (.inl g)]at u;cases u) (by simpa using ah) (by rw[Z];rfl) (by rw[(I b).2 (.inr rfl)];rfl)
    omega
   .intro k p hp U f D E
    rw[I]at U|-
    rcases U with U|rfl
    .exact .inl (X k p hp U f D E)
    .rw[G]at hp
     cases hp
     exact .inl (ag f (by simpa using D) E)
   .intro k ax
    have ay:k∈(A++B).map (·.1)->k≠b:=by
     rintro hm rfl
     rw[aid,ag9,ak9]at Y
     have⟨_,n2,n3⟩:=Y
     rw[aid,ain]at hm
     rcases hm with hm|hm
     .exact n3 _ hm _ (by simp) rfl
     .exact (akR.1 n2).1 hm
    have h5:=F k ax
    cases g:(listed.setIfInBounds b true).getD k false with
    |true=>
     refine⟨fun h=>(by cases h),fun hm=>?_⟩
     exfalso
     have N:=(I k).1 g
     rcases N with N|N
     .have:=h5.2 (by simp only[aid,ag9,ain,aeM]at hm|-;rcases hm with h|h<;>simp[h])
      rw[N]at this
      cases this
     .exact ay hm N
    |false=>
     refine⟨fun _=>?_,fun _=>rfl⟩
     have R:k≠b:=fun h=>by
      rw[(I k).2 (.inr h)]at g
      cases g
     have:listed.getD k false=false:=by
      cases h7:listed.getD k false with
      |false=>rfl
      |true=>rw[(I k).2 (.inl h7)]at g;cases g
     have:=h5.1 this
     simp only[aid,ag9,ain,aeM]at this|-
     rcases this with h|h|h
     .exact .inl h
     .exact absurd h R
     .exact .inr h
   grind
  .cases T
def wg(C:bu)(r:RI)(all:List Oper):Bool:=
 yY all&&decide (qz r all.length).Nodup&&((aiZ all.length).all fun k=>(qz r all.length).contains k)&&uk C r all (qB all []) (tag all (qz r all.length))&&
 (match r.fl with|some k=>(match all[k]? with|some o=>uX o.op|none=>true)|none=>true)
theorem Sat.drew{n:Nat}{Γ0:az}{S:St}{a:Act}{w:World}(h:Sat n Γ0 S a w):Sat n Γ0 S a {w with drawn:=w.drawn+1}:=by obtain⟨s,b,rfl,c,d,e,f⟩:=h;exact⟨s,b.drew,rfl,c.trans (tc b),sR d,e.mono (pg b),f.mono (pg b)⟩
theorem Sat.wZ{n:Nat}{Γ0:az}{e:Env}{H:List Ob}{ds:List (FuncId×List aw)}{a:Act}{w:World}(h:Sat n Γ0 ⟨e,H,ds⟩ a w):Sat n Γ0 ⟨e,H++[.dead],ds⟩ a w:=by obtain⟨s,l,rfl,c,d,f,g⟩:=h;have⟨i,j,b,k⟩:=d.wZ;exact⟨s,i,j,c.trans b,k,f.mono b.le,g.mono b.le⟩
theorem Kn{all:List Oper}:∀(a:List Nat),(∀p∈tag all a,all[p.1]?=some p.2)/\(∀k,k<all.length->(k∈(tag all a).map (·.1)↔k∈a))/\(a.Nodup->((tag all a).map (·.1)).Nodup)
 |[]=>by simp[tag]
 |k::a=>by
  obtain⟨b,c,d⟩:=Kn a
  unfold tag at*
  rw[alJ]
  cases f:all[k]? with
  |none=>
   simp only[Option.map_none]
   refine⟨b,fun j e=>(c j e).trans ⟨fun h=>by simp[h],fun h=>?_⟩,fun hn=>d (akR.1 hn).2⟩
   grind
  |some o=>
   grind
theorem abb(hm:C.P.follows .mixedOrders=true)(s:my C.P (aO C eb))(t:oZ n ops.toList=true)(d:wg C r ops.toList=true){e c:Env}{H:List Ob}
  (h:jy C (aO C eb) r ops.toList e H=some (c,H')) (u:qU ops.toList r.rs c=true) (v:∀g a w,pb c g->Sat n Γ0 ⟨g,H',ds⟩ a w->Q .normal a w) (id:Nat) (E:Sat n Γ0 ⟨e,H,ds⟩ a w):
  (Code.region id ops true).wp C.P Q a w:=by
 unfold wg at d
 simp only[abR,decide_eq_true_eq]at d
 have⟨⟨⟨⟨x,y⟩,j⟩,z⟩,m⟩:=d
 have⟨t1,t2,t3⟩:=Kn (all:=ops.toList) (qz r ops.toList.length)
 refine wp_region_any hm ?_
 have A:∀i o,ops.toList[i]?=some o->r.fl=some i->uX o.op=true:=fun i o B f=>by
  rw[f]at m
  simpa[B]using m
 have q:∀k,(ak1 ops.size false).getD k false=false:=fun k=>by
  simp[aiR,Array.getElem?_replicate]
  split<;>rfl
 unfold jy at h
 refine acb s t A x u v ops.size (ak1 ops.size false) _ e c _ (by simp) ?_ (fun k o _ b=>?_) t1 (fun k b=>?_) (t3 y) z h (fun _=>rfl) (fun f=>?_) a _ ?_
 .have:=List.countP_le_length (p:=fun k=>!(ak1 ops.size false).getD k false) (l:=aiZ ops.toList.length)
  rw[List.length_range]at this
  simpa using this
 .rw[q]at b;cases b
 .rw[q,t2 k b]
  rw[ahI]at j
  have:=j k (by simpa using b)
  exact⟨fun _=>by simpa using this,fun _=>rfl⟩
 .cases D:r.fl with
  |none=>exact absurd D f
  |some k=>simp
 grind [(Sat.drew),(Sat.wZ)]
end Go.Nx
namespace Go.Nx
theorem NC{C:bu}{d:cV}{r:RI}{all:List Oper}{f:Nat}:∀(b:List (Nat×Oper)) (e a:Env) (H c:List Ob),fZ C d r all f b e H=some (a,c)->
  (∀t,(∀p∈b,p.2.dst≠some t)->a.get t=e.get t)/\(∀t,(∃p∈b,p.2.dst=some t)->a.get t≠none)
 |[],e,a,H,c,h=>by
  grind [fZ]
 |p::g,e,a,H,c,h=>by
  simp only[fZ]at h
  split at h
  .rename_i x i j
   have⟨k,l⟩:=NC g _ _ _ _ h
   grind [(Env.nO)]
  .cases h
theorem ab0{C:bu}{f:cV}{r:RI}{all:List Oper}(a:wg C r all=true){e b:Env}{H g:List Ob}(h:jy C f r all e H=some (b,g)):
  (∀t,(∀o∈all,o.dst≠some t)->b.get t=e.get t)/\(∀t,(∃o∈all,o.dst=some t)->b.get t≠none):=by
 unfold wg at a
 simp only[abR,decide_eq_true_eq]at a
 have⟨⟨⟨⟨_,_⟩,c⟩,_⟩,_⟩:=a
 have⟨t1,t2,_⟩:=Kn (all:=all) (qz r all.length)
 unfold jy at h
 have⟨i,j⟩:=NC _ _ _ _ _ h
 refine⟨fun t l=>i t fun p hp=>l p.2 (aiJ (t1 p hp)),fun t ⟨o,m,n⟩=>j t ?_⟩
 have⟨k,d,q⟩:=alH m
 rw[ahI]at c
 have hm:=(t2 k d).2 (by simpa using c k (by simpa using d))
 grind
def codeOk(C:bu)(f d e:Nat):Code->Bool
 | .region id g h=>oZ e g.toList&&GP C f d id g.toList&&(!h||wg C (C.ri f id) g.toList)
 | .seq a b=>codeOk C f d e a&&codeOk C f d e b
 | .cond _ a b=>codeOk C f d e a&&codeOk C f d e b
 | .block _ c=>codeOk C f d e c
 | .loop c=>codeOk C f d e c
 | .scope c=>codeOk C f d e c
 |_=>true
theorem aas{P:Program}{w:World}{o:Oper}{f:Operand}{args:Array Operand}{e:Array TypeId}(g:o.op= .defer {callee:= .value f,args:=args,argTypes:=e}){a:Operand->Value}{c:FuncId}{b:Array Value}
  (h:a f= .func (.func c) #[] b):∃d:Deferred,(execOp a o).run P w= .ok (.defer d) w/\d.target= .fn (.func c) b/\d.args=args.map a:=by
 refine⟨_,by simp[execOp,g,resolve,h,Deferred.ofValue];rfl,rfl,by simp⟩
theorem iT.sub{C:bu}{f a:Nat}{e b:Env}(h:iT C f a e)(c:xD b e):iT C f a b:=fun t x d=>h t x (c t x d)
theorem uU(a:List Nat)(e:Env):xD (eI a e) e:=fun t x h=>(yb a e t x h).2
section
variable{C:bu}{eb:cV}(hm:C.P.follows .mixedOrders=true)(hce:my C.P (aO C eb))
include hm hce
theorem Uc{f q r id:Nat}{b:Array Oper}{s:Bool}{S u:St}{D:Exit}(hc:codeOk C f q r (.region id b s)=true)(v:iT C f q S.env)(h:lE C (aO C eb) f id b.toList s S=some (D,u)):
  (∀Γ0,bP C.P r Γ0 (.region id b s) S D u)/\iT C f q u.env:=by
 simp only[codeOk,abR]at hc
 have⟨⟨x,y⟩,af⟩:=hc
 have⟨L,H0,z⟩:=S
 unfold lE at h
 split at h
 .
  rename_i ag
  split at h
  .rename_i e H c
   split at h
   .rename_i d i
    simp only[ab1,aca]at h
    obtain⟨rfl,rfl⟩:=h
    have⟨j,k⟩:=Fb _ _ _ _ _ c
    unfold qx at i
    split at i
    .rename_i op E args M N pos after F
     have A:b.toList≠ []:=by grind
     have O:=List.dropLast_concat_getLast A
     rw[List.getLast?_eq_some_getLast A]at F
     have R:=ajG F
     have g:=CL (C:=C) (id:=id) y v (e':=e) (fun t T=>j t fun o G=>T o (List.dropLast_subset _ G)) (fun t ⟨o,G,ah⟩=>k t (by
      grind))
     refine⟨fun Γ0 a w l=>?_,g.2⟩
     refine wp_region ?_
     have U:b.size=b.toList.dropLast.length+1:=by grind
     rw[akl,U,List.range'_concat]
     simp only[aiW,Nat.one_mul]
     refine uq hce x (Γ0:=Γ0) (ds:=z) b.toList.dropLast 0 ⟨_,by simpa using O.symm⟩ _ _ _ _ c _ (fun m p n=>?_) a w l
     rw[wpOps_cons]
     obtain⟨V,I,rfl,W,X,B,Y⟩:=n
     have Z:b[b.toList.dropLast.length]?=some (b.toList.getLast A):=by grind
     unfold wpOp
     simp only[Z]
     split at i
     .rename_i ai aj vs hf hv
      cases i
      rw[R]
      simp only[ak5,if_true]
      left
      have J:=uD B E _ hf
      simp only[aL,aB]at J
      have⟨ys,q1,q2⟩:=J
      have q3:=C0 args.toList vs (fun aa _=>uD B aa) hv
      have⟨d,r1,r2,r3⟩:=aas (P:=C.P) (w:=I.w) (o:={dst:=none,op:=Op.defer {callee:=Callee.value E,args:=args,argTypes:=M},type:=N,pos:=pos,after:=after,guard:=none}) rfl q1
      unfold Oper.wp
      rw[r1,Oper.upon_defer]
      simp only[wpOps]
      refine⟨trivial,V,I,rfl,W,X,mm.sub B g.1,d,m.defers,rfl,⟨ys,r2,?_⟩,Y⟩
      rw[r3]
      simpa using CX q3 (BT q2)
     .cases i
    .cases i
   .cases h
  .cases h
 .split at h
  .
   unfold ox at h
   split at h
   .rename_i e H c
    simp only[if_true,ab1,aca]at h
    obtain⟨rfl,rfl⟩:=h
    have⟨j,k⟩:=Fb _ _ _ _ _ c
    have g:=CL (C:=C) (id:=id) y v (e':=e) j k
    refine⟨fun Γ0 a w l=>?_,g.2⟩
    refine wp_region ?_
    have:=uq hce x (Γ0:=Γ0) (ds:=z) (Q:=fun e' m p=>e'= .normal/\Sat r Γ0 ⟨pI (nu C f id) e L,H,z⟩ m p) b.toList 0 ⟨[],by simp⟩ _ _ _ _ c [] (fun m p n=>by
     simp only[wpOps]
     exact⟨trivial,n.sub g.1⟩) a w l
    simpa[akl]using this
   .cases h
  .
   unfold ox at h
   split at h
   .rename_i e H c
    split at h
    case isFalse=>cases h
    rename_i ab
    simp only[ab1,aca]at h
    obtain⟨rfl,rfl⟩:=h
    have K:wg C (C.ri f id) b.toList=true:=by grind
    have⟨j,k⟩:=ab0 K c
    have g:=CL (C:=C) (id:=id) y v (e':=e) j k
    refine⟨fun Γ0 a w l=>?_,g.2⟩
    exact abb hm hce x K c ab (fun ak m p ad n=>⟨rfl,n.sub fun t ae hx=>by rw[<-ad t];exact g.1 t ae hx⟩) id l
   .cases h
end
end Go.Nx
namespace Go.Nx
variable{n f:Nat}{S:St}{C:bu}{c:Code}{ex:Exit}
def Sat.vc{b:az}{c:List Nat}{a:Act}{w:World}(h:Sat n b S a w):Sat n b ⟨eI c S.env,S.heap,S.bG⟩ a w:=by have⟨e,H,d⟩:=S;exact h.sub (uU c e)
structure gU(C:bu):Prop extends Good1 C where
 follows:C.P.follows .mixedOrders=true
 code:∀f fn c,C.dH f=false->C.P.funcs[f]?=some fn->fn.body=some c->codeOk C f (fn.params.size+fn.nfree) fn.ntmps c=true
def TN:run C (n+1) f (.loop c) S=am8 (run C n) f c (iJ S.env) (run C n f (.loop c)) ⟨eI (iJ S.env) S.env,S.heap,S.bG⟩:=rfl
def sV(c a:Code):Prop:=a=c\/∃l r,c= .seq (.label l) r/\a= .seq .skip r
def zT(C:bu)(n:Nat):Prop:= ∀f e d c S ex b,codeOk C f e d c=true->iT C f e S.env->run C n f c S=some (ex,b)->
 (∀g,bP C.P d g c S ex b/\(∀a,c= .loop a->nj C.P d g a S ex b)/\∀a,c= .scope a->∀h,sV a h->mv C.P d g a h S ex b)/\iT C f e b.env
def Lb{a:Code}(h:sV c a):run C n f a S=run C n f c S:=by
 rcases h with rfl|⟨l,r,rfl,rfl⟩
 .rfl
 .cases n with
  |zero=>rfl
  |succ n=>cases n<;>rfl
theorem Om{a b:Nat}{d:Code}(h:sV c d):codeOk C f a b d=codeOk C f a b c:=by
 rcases h with rfl|⟨l,r,rfl,rfl⟩
 .rfl
 .rfl
def Tn(b:gU C)(h:zT C n):my C.P (aO C (bB C (run C n))):=by refine Fe fun f args H r m a=>Ns b.toGood1 (fun f d c S ex e g i j k a l=>?_) a;exact((h f _ _ c S ex e (b.code f d c j g i) k a).1 l).1
theorem Wg(h:zT C n){c e:Nat}{a b:Code}{g:St}(hc:codeOk C f c e (.seq a b)=true)(l:iT C f c S.env)(i:sq (run C n f a S) (run C n f b)=some (ex,g)):
  (∀d,bP C.P e d (.seq a b) S ex g)/\iT C f c g.env:=by
 simp only[codeOk,abR]at hc
 unfold sq at i
 split at i
 .rename_i m o
  have⟨j,k⟩:=h f c e a S _ m hc.1 l o
  have⟨p,q⟩:=h f c e b m _ g hc.2 k i
  exact⟨fun d=>bP.GO (j d).1 (p d).1,q⟩
 .rename_i r
  have⟨j,k⟩:=h f c e a S _ g hc.1 l i
  exact⟨fun d=>bP.wX (j d).1 (fun s=>by simp_all),k⟩
theorem Vd(h:zT C n){i j:Nat}(hc:codeOk C f i j c=true){m:St}(x:iT C f i S.env)
  (e:uM (run C n) f c (iJ S.env) (run C n f (.scope c)) ⟨eI (iJ S.env) S.env,S.heap,S.bG⟩=some (ex,m)):(∀d b,sV c b->mv C.P j d c b S ex m)/\iT C f i m.env:=by
 have p:iT C f i (eI (iJ S.env) S.env):=x.sub (uU _ _)
 unfold uM at e
 split at e
 .rename_i l q y
  have g:∀b,sV c b->(∀d,bP C.P j d b S (.goto l) q)/\iT C f i q.env:=fun b k=>by
   obtain⟨s,t⟩:=h f i j b _ _ q (by grind [(Om)]) p (by rw[Lb k];exact y)
   exact⟨fun d=>bP.pre (fun a w o=>o.vc) (s d).1,t⟩
  split at e
  .rename_i u
   cases e
   exact⟨fun d b k=>mv.out ((g b k).1 d) (fun v z=>by grind),(g c (.inl rfl)).2⟩
  .rename_i A u
   split at e
   .rename_i v r
    split at e
    .rename_i B
     subst B
     have D:A= .seq .skip r:=by grind [findLabel]
     subst D
     have⟨E,F⟩:=h f i j (.scope (.seq (.label l) r)) _ ex m hc ((g _ (.inl rfl)).2.sub (uU _ _)) e
     exact⟨fun d b k=>mv.more ((g b k).1 d) u (fun a w o=>o.vc) ((E d).2.2 _ rfl _ (.inr ⟨l,r,rfl,rfl⟩)),F⟩
    .cases e
   .cases e
 .rename_i G
  refine⟨fun d b k=>?_,(h f i j c _ _ m hc p e).2⟩
  obtain⟨s,t⟩:=h f i j b _ _ m (by grind [(Om)]) p (by rw[Lb k];exact e)
  exact mv.out (bP.pre (fun a w o=>o.vc) (s d).1) (fun v z=>by simp_all)
theorem Fs{C:bu}(y:gU C):∀n,zT C n
 |0=>fun f m j c S ex k _ _ d=>by simp[run]at d
 |n+1=>by
  have r:=Fs y n
  intro f m j c S ex k hc s d
  have B:∀ {X:Prop},(∀i,bP C.P j i c S ex k)/\X->(∀g,c≠ .loop g/\c≠ .scope g)->
    (∀i,bP C.P j i c S ex k/\(∀g,c= .loop g->nj C.P j i g S ex k)/\∀g,c= .scope g->∀u,sV g u->mv C.P j i g u S ex k)/\X:=
   fun h D=>⟨fun i=>⟨h.1 i,fun g e=>absurd e (D g).1,fun g e=>absurd e (D g).2⟩,h.2⟩
  cases c with
  |skip=>
   simp only[run,fG,ab1,aca]at d
   grind [(bP.skip)]
  |label l=>
   simp only[run,fG,ab1,aca]at d
   grind [(bP.label)]
  |exit id=>
   simp only[run,fG,ab1,aca]at d
   grind [(bP.exit)]
  |goto l=>
   simp only[run,fG,ab1,aca]at d
   grind [(bP.goto)]
  |ret=>
   simp only[run,fG,ab1,aca]at d
   grind [(bP.ret)]
  |region id J K=>
   simp only[run,fG]at d
   exact B (Uc y.follows (Tn y r) hc s d) (fun g=>⟨fun e=>(by cases e),fun e=>(by cases e)⟩)
  |seq a b=>
   simp only[run,fG]at d
   grind [(Wg)]
  |cond p a b=>
   cases p with
   |tmp t=>
    simp only[run,fG]at d
    simp only[codeOk,abR]at hc
    unfold wy at d
    split at d
    .rename_i v L
     cases v with
     |true=>
      simp only[if_true]at d
      have⟨o,q⟩:=r f m j a S ex k hc.1 s d
      grind [(bP.cond)]
     |false=>
      simp only[aes,if_false]at d
      have⟨o,q⟩:=r f m j b S ex k hc.2 s d
      grind [(bP.cond)]
    .cases d
   |_=>simp[run,fG]at d
  |block id b=>
   simp only[run,fG]at d
   simp only[codeOk]at hc
   unfold bl at d
   split at d
   .rename_i M z A
    have⟨o,q⟩:=r f m j b S _ z hc s A
    grind [(bP.T4),(bP.Qm)]
   .rename_i G
    have⟨o,q⟩:=r f m j b S _ k hc s d
    exact B ⟨fun i=>bP.Qm (o i).1 (fun e=>by simp_all),q⟩ (fun g=>⟨fun e=>(by cases e),fun e=>(by cases e)⟩)
  |loop b=>
   rw[TN]at d
   have E:codeOk C f m j b=true:=hc
   unfold am8 at d
   have F:iT C f m (eI (iJ S.env) S.env):=s.sub (uU _ _)
   have fin:((∀i,nj C.P j i b S ex k)/\iT C f m k.env)->
     (∀i,bP C.P j i (.loop b) S ex k/\(∀g,Code.loop b= .loop g->nj C.P j i g S ex k)/\∀g,Code.loop b= .scope g->∀u,sV g u->mv C.P j i g u S ex k)/\iT C f m k.env:=fun h=>
    ⟨fun i=>⟨(h.1 i).JY,fun g e=>by grind,fun g e=>by cases e⟩,h.2⟩
   split at d
   .rename_i z A
    have⟨o,q⟩:=r f m j b _ _ z E F A
    have⟨H,I⟩:=r f m j (.loop b) _ ex k hc (q.sub (uU _ _)) d
    exact fin ⟨fun i=>nj.more (bP.pre (fun a w x=>x.vc) (o i).1) (fun a w x=>x.vc) ((H i).2.1 b rfl),I⟩
   .rename_i G
    have⟨o,q⟩:=r f m j b _ _ k E F d
    exact fin ⟨fun i=>nj.out (bP.pre (fun a w x=>x.vc) (o i).1) (fun e=>by simp_all),q⟩
  |scope b=>
   simp only[run,fG]at d
   have⟨o,q⟩:=Vd r (c:=b) hc s d
   exact⟨fun i=>⟨(o i b (.inl rfl)).JY,fun g e=>(by cases e),fun g e u N=>by grind⟩,q⟩
  |rangeFunc _ _ _ _=>simp[run,fG]at d
  |refuse _=>simp[run,fG]at d
theorem xH(a:gU C){args:List aw}{H b:List Ob}{r:aw}(h:bB C (run C n) f args H=some (r,b)):Call C.P f args H r b:=
 Ns a.toGood1 (fun f d c S ex e g i j k l m=>((Fs a n f _ _ c S ex e (a.code f d c j g i) k l).1 m).1) h
end Go.Nx
namespace Go.Nx
variable{r:RI}{f:FuncId}{c:Code}{S:St}
abbrev Ask:=FuncId×Code×St×(Exit×St)
def xA(a:ji)(K:List Ask):Prop:= ∀p∈K,a p.1 p.2.1 p.2.2.1=some p.2.2.2
def Fn{R:Type}(G:ji->Option R):Prop:= ∀a r,G a=some r->∃K,xA a K/\∀b,xA b K->G b=some r
section
variable{R R':Type}
def Fn.const(x:Option R):Fn (fun _=>x):=fun a r h=>⟨[],fun p hp=>by simp at hp,fun _ _=>h⟩
theorem Fn.ask(f:FuncId)(c:Code)(S:St):Fn (fun a=>a f c S):=fun a r h=>⟨[(f,c,S,r)],fun p hp=>by grind,fun d b=>b (f,c,S,r) (by simp)⟩
def Fn.bind{G:ji->Option R}{F:R->ji->Option R'}(d:Fn G)(e:∀x,Fn (F x)):Fn (fun a=>(G a).bind fun x=>F x a):=by
 intro a r h;simp only[akB]at h;have⟨x,f,g⟩:=h;have⟨i,j,k⟩:=d a x f;have⟨l,m,n⟩:=e x a r g;refine⟨i++l,fun p hp=>?_,fun b c=>?_⟩
 .rcases ain.1 hp with hp|hp
  .exact j p hp
  .exact m p hp
 .simp only[akB];exact⟨x,k b fun p hp=>c p (by simp[hp]),n b fun p hp=>c p (by simp[hp])⟩
theorem Fn.of_eq{G a:ji->Option R}(h:Fn G)(c:∀b,a b=G b):Fn a:=by have:a=G:=funext c;grind
end
section
variable{C:bu}
def af6(f:FuncId)(args:List aw)(H:List Ob):Fn (fun a=>lW C a f args H):=by
 by_cases b:C.dH f=true
 .exact (Fn.const (C.dF f args H)).of_eq fun a=>by simp[lW,b]
 .cases g:C.P.funcs[f]? with
  |none=>exact(Fn.const none).of_eq fun a=>by simp[lW,b,g]
  |some d=>
   cases h:d.body with
   |none=>exact(Fn.const none).of_eq fun a=>by simp[lW,b,g,h]
   |some c=>
    by_cases j:args.length<=d.ntmps/\args.length<=d.params.size+d.nfree
    .refine ((Fn.ask f c ⟨fP 0 args,H,[]⟩).bind (F:=fun(x:Exit×St) _=>match some x with
      |some (.normal,⟨e,i,[]⟩)|some (.ret,⟨e,i,[]⟩)=>(gY C.P e i d.results.toList).map (·,i)
      |_=>none) fun x=>Fn.const _).of_eq fun a=>?_
     simp only[lW,b,g,h,aes,if_false,if_pos j];cases a f c ⟨fP 0 args,H,[]⟩with
     |none=>rfl
     |some x=>rfl
    .exact (Fn.const none).of_eq fun a=>by simp[lW,b,g,h,if_neg j]
def HW{C:bu}:∀(b:List (FuncId×List aw)) (H:List Ob),Fn (fun a=>iX C a b H)
 |[],H=>(Fn.const (some H)).of_eq fun a=>rfl
 |(g,c)::b,H=>by
  by_cases hn:C.kR g=true
  .exact (HW (C:=C) b H).of_eq fun a=>by simp[iX,hn]
  .by_cases d:C.dH g=true
   .exact (Fn.const none).of_eq fun a=>by simp[iX,hn,d]
   .refine ((af6 (C:=C) g c H).bind (F:=fun(x:aw×List Ob) a=>iX C a b x.2) fun x=>HW (C:=C) b x.2).of_eq fun a=>?_
    simp only[iX,hn,d,aes,if_false]
    cases lW C a g c H with
    |none=>rfl
    |some x=>rfl
theorem Eo(f:FuncId)(args:List aw)(H:List Ob):Fn (fun a=>bB C a f args H):=by
 by_cases e:C.dH f=true
 .exact (Fn.const (C.dF f args H)).of_eq fun a=>by simp[bB,e]
 .cases g:C.P.funcs[f]? with
  |none=>exact(Fn.const none).of_eq fun a=>by simp[bB,e,g]
  |some d=>
   cases h:d.body with
   |none=>exact(Fn.const none).of_eq fun a=>by simp[bB,e,g,h]
   |some c=>
    by_cases i:args.length<=d.ntmps/\args.length<=d.params.size+d.nfree
    .have j:∀S:St,Fn (fun a=>(iX C a S.bG S.heap).bind fun b=>(gY C.P S.env b d.results.toList).map (·,b)):=fun S=>
      (HW S.bG S.heap).bind (F:=fun(b:List Ob) _=>(gY C.P S.env b d.results.toList).map (·,b)) fun b=>Fn.const _
     refine((Fn.ask f c ⟨fP 0 args,H,[]⟩).bind (F:=fun(x:Exit×St) a=>match x with
      |(.normal,S)|(.ret,S)=>(iX C a S.bG S.heap).bind fun b=>(gY C.P S.env b d.results.toList).map (·,b)
      |_=>none) fun x=>?_).of_eq fun a=>?_
     .have ⟨k,S⟩:=x;cases k with
      |normal=>exact j S
      |ret=>exact j S
      |_=>exact Fn.const none
     .simp only[bB,e,g,h,aes,if_false,if_pos i];cases a f c ⟨fP 0 args,H,[]⟩with
      |none=>rfl
      |some x=>grind
    .exact (Fn.const none).of_eq fun a=>by simp[bB,e,g,h,if_neg i]
abbrev cE(C:bu)(a:ji):cV:=aO C (bB C a)
theorem Wl(f:FuncId)(args:List aw)(H:List Ob):Fn (fun a=>cE C a f args H):=by
 by_cases b:C.md f=3\/args.any (eO C)=true
 .exact (Eo f args H).of_eq fun a=>by simp only[cE,aO];rw[if_pos b]
 .cases d:r7 H args with
  |none=>exact(Fn.const none).of_eq fun a=>by grind [aO]
  |some p=>
   have⟨c,e⟩:=p
   refine((Eo (C:=C) f c []).bind (F:=fun(x:aw×List Ob) _=>match(if C.md f=2 then some (x.1,x.2)else dI (C.md f==1) x.2 x.1)with
    |some (r,own)=>if ei (C.md f==2) e r own=true then some (eN H.length r,H++own.map (dX H.length))else none
    |none=>none) fun x=>Fn.const _).of_eq fun a=>?_
   simp only[cE,aO,d,aS];rw[if_neg b];cases bB C a f c []with
   |none=>rfl
   |some x=>rfl
def Is(o:Op)(e:Env)(H:List Ob):Fn (fun a=>eV C (cE C a) o e H):=by
 cases hp:plain o with
 |true=>exact(Fn.const _).of_eq fun a=>pK hp e H
 |false=>
  unfold plain at hp;split at hp
  .rename_i f args j;cases b:aX e f with
   |none=>exact(Fn.const none).of_eq fun a=>by simp[eV,b]
   |some v=>
    cases d:pT (args.toList.map (aX e))with
    |none=>refine(Fn.const none).of_eq fun a=>?_;simp[eV,b,d]
    |some h=>
     cases v with
     |c l=>
      cases l with
      |bF g i=>exact(Wl (C:=C) g (h++i.map .c) H).of_eq fun a=>by simp[eV,b,d]
      |_=>exact(Fn.const none).of_eq fun a=>by simp[eV,b,d]
     |_=>exact(Fn.const none).of_eq fun a=>by simp[eV,b,d]
  .rename_i g;exact(Fn.const ((tj g).map fun l=>(.c l,H))).of_eq fun a=>rfl
  .cases hp
def acw(a:Nat->Bool)(o:Op)(e:Env)(H:List Ob):Fn (fun b=>mh a C (cE C b) o e H):=by
 unfold mh;split
 .split
  .exact Fn.const _
  .exact Is _ e H
 .exact Fn.const _
 .exact Is _ e H
theorem Aw{bz:Nat->Bool}{all:List Oper}:∀(l:List Oper) (e:Env) (H:List Ob),Fn (fun a=>fH bz C (cE C a) all l e H)
 |[],e,H=>(Fn.const (some (e,H))).of_eq fun a=>rfl
 |o::b,e,H=>by
  cases d:nI all e o.guard with
  |none=>exact(Fn.const none).of_eq fun a=>by simp[fH,d]
  |some c=>
   cases c with
   |true=>
    refine((acw (C:=C) bz o.op e H).bind (F:=fun(x:aw×List Ob) a=>fH bz C (cE C a) all b (ee e o.dst x.1) x.2) fun x=>Aw b _ _).of_eq fun a=>?_
    grind [fH]
   |false=>
    have f:Fn (fun a=>fH bz C (cE C a) all b (ee e o.dst unit) H):=Aw b _ _
    grind [fH]
theorem acU{all:List Oper}{n0 i:Nat}(o:Oper)(e:Env)(H:List Ob):Fn (fun a=>fA C (cE C a) r all n0 i o e H):=by
 cases b:nI all e o.guard with
 |none=>exact(Fn.const none).of_eq fun a=>by simp[fA,b]
 |some c=>
  cases c with
  |true=>
   by_cases d:r.fl=some i
   .exact (Fn.const (gO C.P o.op e H n0)).of_eq fun a=>by simp[fA,b,jH,d]
   .by_cases hc:(!r.gc.contains i||re C e o.op)=true
    .exact (Is (C:=C) o.op e H).of_eq fun a=>by grind [fA,jH]
    .exact (Fn.const none).of_eq fun a=>by grind [fA,jH]
  |false=>exact(Fn.const (some (unit,H))).of_eq fun a=>by simp[fA,b]
theorem MK{r:RI}{all:List Oper}{n0:Nat}:∀(c:List (Nat×Oper)) (e:Env) (H:List Ob),Fn (fun a=>fZ C (cE C a) r all n0 c e H)
 |[],e,H=>(Fn.const (some (e,H))).of_eq fun a=>rfl
 |p::b,e,H=>by
  refine((acU (C:=C) (r:=r) (all:=all) (n0:=n0) (i:=p.1) p.2 e H).bind (F:=fun(x:aw×List Ob) a=>fZ C (cE C a) r all n0 b (ee e p.2.dst x.1) x.2) fun x=>MK b _ _).of_eq fun a=>?_
  grind [fZ]
def SL{all:List Oper}(e:Env)(H:List Ob):Fn (fun a=>jy C (cE C a) r all e H):=MK _ _ _
def aaR(f id:Nat)(all:List Oper)(c:Bool)(S:St):Fn (fun a=>lE C (cE C a) f id all c S):=by
 by_cases b:ui all=true
 .cases c with
  |true=>exact(Fn.const none).of_eq fun a=>by simp[lE,b]
  |false=>
   refine((Aw (C:=C) (bz:=C.bz f) (all:=all) all.dropLast S.env S.heap).bind (F:=fun(x:Env×List Ob) _=>match qx C all x.1 with
    |some d=>some (Exit.normal,⟨pI (nu C f id) x.1 S.env,x.2,d::S.bG⟩)
    |none=>none) fun x=>Fn.const _).of_eq fun a=>?_
   simp only[lE,b,if_true];cases fH (C.bz f) C (cE C a) all all.dropLast S.env S.heap with
   |none=>rfl
   |some x=>rfl
 .cases c with
  |false=>
   refine((Aw (C:=C) (bz:=C.bz f) (all:=all) all S.env S.heap).bind (F:=fun(x:Env×List Ob) _=>ox (nu C f id) S (fun _=>true) (some x)) fun x=>Fn.const _).of_eq fun a=>?_;simp only[lE,b];cases fH (C.bz f) C (cE C a) all all S.env S.heap with
   |none=>rfl
   |some x=>rfl
  |true=>
   refine((SL (C:=C) (r:=C.ri f id) (all:=all) S.env S.heap).bind (F:=fun(x:Env×List Ob) _=>ox (nu C f id) S (fun e=>qU all (C.ri f id).rs e) (some x)) fun x=>Fn.const _).of_eq fun a=>?_;simp only[lE,b];cases jy C (cE C a) (C.ri f id) all S.env S.heap with
   |none=>rfl
   |some x=>rfl
theorem EU(f:FuncId)(c:Code)(S:St):Fn (fun d=>fG C d f c S):=by
 cases c with
 |skip=>exact(Fn.const _).of_eq fun d=>rfl
 |label l=>exact(Fn.const _).of_eq fun d=>rfl
 |region id h i=>exact aaR f id h.toList i S
 |seq a b=>
  refine((Fn.ask f a S).bind (F:=fun(x:Exit×St) d=>match x with
   |(.normal,e)=>d f b e
   |r=>some r) fun x=>?_).of_eq fun d=>?_
  .have ⟨g,e⟩:=x;cases g with
   |normal=>exact Fn.ask f b e
   |_=>exact Fn.const _
  .simp only[fG,sq];cases d f a S with
   |none=>rfl
   |some x=>grind
 |cond p a b=>
  cases p with
  |tmp t=>
   have:∀v,Fn (fun d=>wy v (d f a S) (d f b S)):=by
    intro v;cases v with
    |none=>exact Fn.const none
    |some v=>
     cases v with
     |c l=>
      cases l with
      |v w=>
       cases w with
       |bool j=>
        cases j with
        |true=>exact(Fn.ask f a S).of_eq fun d=>rfl
        |false=>exact(Fn.ask f b S).of_eq fun d=>rfl
       |_=>exact(Fn.const none).of_eq fun d=>rfl
      |_=>exact(Fn.const none).of_eq fun d=>rfl
     |_=>exact(Fn.const none).of_eq fun d=>rfl
   exact this (S.env.get t)
  |_=>exact(Fn.const none).of_eq fun d=>rfl
 |block id b=>refine((Fn.ask f b S).bind (F:=fun(x:Exit×St) _=>bl id (some x)) fun x=>Fn.const _).of_eq fun d=>?_;simp only[fG];cases d f b S<;>rfl
 |loop b=>
  refine((Fn.ask f b ⟨eI (iJ S.env) S.env,S.heap,S.bG⟩).bind (F:=fun(x:Exit×St) d=>match x with
   |(.normal,e)=>d f (.loop b) ⟨eI (iJ S.env) e.env,e.heap,e.bG⟩
   |r=>some r) fun x=>?_).of_eq fun d=>?_
  .have ⟨g,e⟩:=x;cases g with
   |normal=>exact Fn.ask _ _ _
   |_=>exact Fn.const _
  .simp only[fG,am8];cases d f b ⟨eI (iJ S.env) S.env,S.heap,S.bG⟩with
   |none=>rfl
   |some x=>grind
 |exit id=>exact(Fn.const _).of_eq fun d=>rfl
 |goto l=>exact(Fn.const _).of_eq fun d=>rfl
 |ret=>exact(Fn.const _).of_eq fun d=>rfl
 |scope b=>
  refine((Fn.ask f b ⟨eI (iJ S.env) S.env,S.heap,S.bG⟩).bind (F:=fun(x:Exit×St) d=>match x with
   |(.goto l,e)=>match findLabel b l with
    |none=>some (.goto l,e)
    |some _=>match b with
     | .seq (.label k) _=>if l=k then d f (.scope b) ⟨eI (iJ S.env) e.env,e.heap,e.bG⟩else none
     |_=>none
   |r=>some r) fun x=>?_).of_eq fun d=>?_
  .have ⟨g,e⟩:=x;cases g with
   |goto l=>
    simp only;cases findLabel b l with
    |none=>exact Fn.const _
    |some m=>
     simp only;split
     .split
      .exact Fn.ask _ _ _
      .exact Fn.const _
     .exact Fn.const _
   |_=>exact Fn.const _
  .simp only[fG,uM];cases d f b ⟨eI (iJ S.env) S.env,S.heap,S.bG⟩with
   |none=>rfl
   |some x=>grind
 |rangeFunc _ _ _ _=>exact(Fn.const none).of_eq fun d=>rfl
 |refuse _=>exact(Fn.const none).of_eq fun d=>rfl
theorem NV:∀(n:Nat) (f:FuncId) (c:Code) (S:St) (r),run C n f c S=some r->run C (n+1) f c S=some r
 |0,f,c,S,r,h=>by simp[run]at h
 |n+1,f,c,S,r,h=>by
  have⟨K,a,b⟩:=EU f c S (run C n) r h
  exact b (run C (n+1)) fun p hp=>NV n _ _ _ _ (a p hp)
theorem zX{n m:Nat}(h:n<=m){r}(a:run C n f c S=some r):run C m f c S=some r:=by
 induction h with
 |refl=>exact a
 |step _ b=>grind [(NV)]
open Classical in
noncomputable def ev(C:bu):ji:=fun f c S=>if h:∃r n,run C n f c S=some r then some h.choose else none
theorem qQ{r}:ev C f c S=some r↔ ∃n,run C n f c S=some r:=by
 unfold ev;split
 .rename_i h;have⟨n,hn⟩:=h.choose_spec;constructor
  .intro a;simp only[ab1]at a;exact⟨n,by rw[hn,a]⟩
  .rintro⟨m,hm⟩;have d:=zX (Nat.le_max_left n m) hn;have b:=zX (Nat.le_max_right n m) hm;rw[d]at b;exact b
 grind
theorem xA.run{K:List Ask}(h:xA (ev C) K):∃n,xA (run C n) K:=by
 induction K with
 |nil=>exact⟨0,fun p hp=>by simp at hp⟩
 |cons p K b=>
  have⟨n,hn⟩:=b fun q a=>h q (by simp[a]);have⟨m,hm⟩:=qQ.1 (h p (by simp));refine⟨max n m,fun q a=>?_⟩;rcases aeM.1 a with rfl|a
  .exact zX (Nat.le_max_right n m) hm
  .exact zX (Nat.le_max_left n m) (hn q a)
theorem oN(f:FuncId)(c:Code)(S:St):ev C f c S=fG C (ev C) f c S:=by
 have e:∀r,ev C f c S=some r->fG C (ev C) f c S=some r:=by
  intro r h;have⟨n,hn⟩:=qQ.1 h;cases n with
  |zero=>simp[run]at hn
  |succ n=>have⟨K,a,b⟩:=EU f c S (run C n) r hn;exact b (ev C) fun p hp=>qQ.2 ⟨n,a p hp⟩
 have d:∀r,fG C (ev C) f c S=some r->ev C f c S=some r:=by intro r h;have⟨K,a,b⟩:=EU f c S (ev C) r h;have⟨n,hn⟩:=a.run;exact qQ.2 ⟨n+1,b (run C n) hn⟩
 cases h:fG C (ev C) f c S with
 |some r=>exact d r h
 |none=>
  cases g:ev C f c S with
  |none=>rfl
  |some r=>grind
def ahF(f S):ev C f .skip S=some (.normal,S):=oN _ _ _
def aii(f l S):ev C f (.label l) S=some (.normal,S):=oN _ _ _
def ah6(f id a b S):ev C f (.region id a b) S=lE C (cE C (ev C)) f id a.toList b S:=oN _ _ _
def iM(f a b S):ev C f (.seq a b) S=sq (ev C f a S) (ev C f b):=oN _ _ _
def afk(f t a b S):ev C f (.cond (.tmp t) a b) S=wy (S.env.get t) (ev C f a S) (ev C f b S):=oN _ _ _
def eC(f id c S):ev C f (.block id c) S=bl id (ev C f c S):=oN _ _ _
def ah7(f id S):ev C f (.exit id) S=some (.exit id,S):=oN _ _ _
def ail(f l S):ev C f (.goto l) S=some (.goto l,S):=oN _ _ _
def ahs(f S):ev C f .ret S=some (.ret,S):=oN _ _ _
def aev(f c S):ev C f (.loop c) S=am8 (ev C) f c (iJ S.env) (ev C f (.loop c)) ⟨eI (iJ S.env) S.env,S.heap,S.bG⟩:=oN _ _ _
def Yk(f c S):ev C f (.scope c) S=uM (ev C) f c (iJ S.env) (ev C f (.scope c)) ⟨eI (iJ S.env) S.env,S.heap,S.bG⟩:=oN _ _ _
theorem He(d:gU C){args:List aw}{H c:List Ob}{r:aw}(h:bB C (ev C) f args H=some (r,c)):Call C.P f args H r c:=by have⟨K,a,b⟩:=Eo f args H (ev C) _ h;grind [(xA.run),(xH)]
end
end Go.Nx
namespace Go.Nx
variable{Γ:az}{rows:List (List ab)}{C:bu}{ce:cV}{ops:Array Oper}{A:List Oper}{o:Oper}{bz:Nat->Bool}{ds:List (FuncId×List aw)}{k:IntKind}{m:Int}
def wh(Γ0:az)(h b c:Nat):Prop:= ∃a,Γ0.hs[h]?=some (a,b)/\a.cap=c
theorem afd{H:List Ob}(d:aZ Γ H){h a z:Nat}(e:obj H h a=some (z,rows)):∃c,wh Γ h a c/\c<=maxLen/\rows.length<=c:=by have⟨b,f,g,i⟩:=d.obj e;refine⟨b.cap,⟨b,f,rfl⟩,g,?_⟩;grind
theorem wh.at{Γ0 Γ:az}{H:List Ob}{h a c z:Nat}{rows:List (List ab)}(hc:wh Γ0 h a c)(d:Γ0.cL Γ)(e:aZ Γ H)(f:obj H h a=some (z,rows)):∃b,Γ.hs[h]?=some (b,a)/\b.cap=c:=by have⟨b,g,i⟩:=hc;have⟨j,k,l,m,n⟩:=d.le.hs h b a g;have⟨o,p,_⟩:=e.obj f;grind
def jF(P:Program)(Γ0:az)(e:Env)(H:List Ob)(b:Op)(x:aw)(c:List Ob):Prop:=
 ∀(Γ:az) (a:Act) (o:Oper),Γ0.cL Γ->o.op=b->aZ Γ H->(∀p∈b.operands,Good Γ e a p)->uf Γ ((execOp a.eval o).run P Γ.w) x c
theorem bP.Fv(m:my C.P ce){n id:Nat}(f:oZ n ops.toList=true){Γ0:az}{B:List Oper}(c:ops.toList=A++o::B)(E:o.guard=none){e d g:Env}{H q i j:List Ob}{x:aw}
  (hA:fH bz C ce ops.toList A e H=some (d,q)) (F:jF C.P Γ0 d q o.op x i) (G:fH bz C ce ops.toList B (ee d o.dst x) i=some (g,j)):bP C.P n Γ0 (.region id ops false) ⟨e,H,ds⟩ .normal ⟨g,j,ds⟩:=by
 intro a w I
 refine wp_region ?_
 have hm:o∈ops.toList:=by rw[c];simp
 have J:ops.size=A.length+(1+B.length):=by
  have:=congrArg List.length c
  simp at this
  omega
 have K:aiZ ops.size=List.range' 0 A.length++(A.length::(List.range' (A.length+1) B.length++[])):=by
  rw[akl,J, <-List.range'_append_1,aiW,alr 1,ami,aeU]
 rw[K]
 refine uq m f A 0 ⟨o::B,by simpa using c⟩ _ _ _ _ hA _ (fun r w1 L=>?_) a w I
 rw[wpOps_cons]
 obtain⟨s,Γ,rfl,u,M,k,N⟩:=L
 have O:ops[A.length]?=some o:=by rw[<-akK,c];simp
 unfold wpOp
 simp only[O]
 rw[yn k (b:=true) (by simp[nI,E]),if_pos rfl]
 left
 have⟨y,v,W,l,R,S⟩:=F Γ r o u rfl M (fun p _=>uD k p)
 have T:Sat n Γ0 ⟨ee d o.dst x,i,ds⟩ (r.put o.dst y) v.w:=⟨by rw[vB];exact s,v,rfl,u.trans l,R,(k.mono l.le).put (fun t U=>by rw[s];exact F3 f hm t U) S,by rw[put_defers];exact N.mono l.le⟩
 have fin:=uq m f B (A.length+1) ⟨[],by rw[c, <-akd];simp⟩ _ _ _ _ G [] (Q:=fun V z D=>V= .normal/\Sat n Γ0 ⟨g,j,ds⟩ z D) (fun z D h=>by simp only[wpOps];exact⟨trivial,h⟩) _ _ T
 grind [Oper.wp,(aky),(Oper.upon_skip)]
section
variable{P:Program}{Γ0:az}{e:Env}{H:List Ob}
theorem jF.cap{y:Operand}{g el h d p c z:Nat}{rows:List (List ab)}(q:P.underlying g=some (.slice el))(r:aX e y=some (.c (.sl h d 0 p)))(i:obj H h d=some (z,rows))(B:0<rows.length)(hc:wh Γ0 h d c):
  jF P Γ0 e H (.call {callee:= .builtin .cap,args:= #[y],argTypes:= #[g]}) (.c (I c)) H:=fun Γ a o s j f t=>by
 have⟨C,D,E,pos,F,guard⟩:=o
 simp only at j
 subst j
 have k:=t y (by simp[acH,aiM]) _ r
 simp only[aL,aB]at k
 have⟨u,l,v⟩:=hc.at s f i
 have⟨G,J,K,cap,m,_,w,x⟩:=k
 rw[l]at m
 cases m
 have⟨L,n,_,M⟩:=f.obj i
 rw[l]at n
 cases n
 rcases x rfl with⟨A,_⟩|⟨b,N,A,rfl,rfl,O,Q⟩
 .grind
 .refine .val f (y:= .int .i64 ((u.cap-0:Nat):Int)) ?_ (by simp[aL,aB,aiw, <-v])
  simp[execOp,resolve,invoke,builtin,w,Builtin.cap_,run_underlying q,goInt]
theorem jF.upto{y q:Operand}{g el E h f l c z:Nat}{n:Nat×List ab}(F:se P g=some (el,E,n))(G:aX e y=some (.c (.sl h f 0 l)))(I:aX e q=some (.c (.v (.int k m))))(p:obj H h f=some (z,rows))(V:0<rows.length)(hc:wh Γ0 h f c)(W:0<=m/\m<=(c:Int)):
  jF P Γ0 e H (.slice g y none (some q) none) (.c (.sl h f 0 m.toNat)) H:=fun Γ a o J r j s=>by
 have⟨X,Y,Z,pos,aa,guard⟩:=o
 simp only at r
 subst r
 have t:=s y (by simp[acH]) _ G
 have u:=s q (by simp[acH]) _ I
 simp only[aL,aB]at t u
 have⟨d,x,k2⟩:=hc.at J j p
 have⟨ad,ae,a',cap,A,_,K,L⟩:=t
 rw[x]at A
 cases A
 have⟨af,B,_,C⟩:=j.obj p
 rw[x]at B
 cases B
 have⟨bytes,zz⟩:=n
 obtain⟨M,i,zv,N,rfl,_,_,_,_⟩:=jz F
 have O:(sizeOf el).run P Γ.w= .ok i.size Γ.w:=by simp[sizeOf,typeInfo,N]
 rcases L rfl with⟨D,_⟩|⟨b,ag,D,rfl,rfl,ah,Q⟩
 .grind
 .simp only[D]at C
  have ai:=C.2.2.2.1
  have R:0<d.cap:=by omega
  obtain rfl:=Q R
  have S:=amR (P:=P) (w:=Γ.w) k m d.cap .sliceAcap (by omega) (by omega)
  have T:(ajy g (.slice (some ⟨b,d.off+0*d.sz,none⟩) l (d.cap-0)) none (some (.int k m)) none).run P Γ.w= .ok (.slice (some ⟨b,d.off+0*d.sz,none⟩) m.toNat (d.cap-0)) Γ.w:=by
   have U:¬(d.cap=0):=by omega
   simp[ajy,run_underlying M,akO,ajX,O,S,U,jG]
  refine .val j (y:= .slice (some ⟨b,d.off+0*d.sz,none⟩) m.toNat (d.cap-0)) (by simp only[execOp,K,u.1,ajO,Option.map_none,aiT,T];rfl) ?_
  grind [aL,aB]
theorem SV{P:Program}{t:TypeId}(h:ik P t=some k):P.underlying t=some (.int k):=by grind [ik]
theorem jF.NS{y q:Operand}{t u el n E i c h x:Nat}{s:List ab}{F I:IntKind}(ht:se P t=some (el,n,E,s))(ad:ik P u=some I)(hy:aX e y=some (.c (.sl h x 0 i)))(hq:aX e q=some (.c (.v (.int F m))))(J:obj H h x=some (n,rows))(hi:i<=rows.length)(hc:wh Γ0 h x c)(h0:0<m)(hg:(c:Int)<i+m)(h1:(i:Int)+m<=10000000)(aA:E<=10000)
  (hf:∀r∈rows.take i,r.length=n) (ae:s.length=n) (K:0<n):
  jF P Γ0 e H (.call {callee:= .builtin .append,args:= #[y,q],argTypes:= #[t,u]}) (.c (.sl H.length 0 0 (i+m.toNat))) (H++[.live 0 n (rows.take i++ahv m.toNat s)]):=fun Γ a o af L z M=>by
 have⟨aC,op,ty,pos,aD,guard⟩:=o
 simp only at L
 subst L
 have N:=M y (by simp[acH,aiM]) _ hy
 have O:=M q (by simp[acH,aiM]) _ hq
 simp only[aL,aB]at N O
 have⟨Q,R,k2⟩:=hc.at af z J
 have⟨aE,aF,S,cap,j1,_,j2,j3⟩:=N
 rw[R]at j1
 cases j1
 have⟨aG,T,q3,U⟩:=z.obj J
 rw[R]at T
 cases T
 obtain⟨ag,f,j,ah,rfl,aH,hz,ai,aj⟩:=jz ht
 have hu:=SV ad
 obtain⟨d,rfl⟩:∃d:Nat,m=(d:Int):=⟨m.toNat,by omega⟩
 have ak:((d:Int)).toNat=d:=by simp
 rw[ak]
 have al:∃g,aY Γ (rows.take i).flatten g/\g.length=i*f.size/\cap<i+d/\(ai4 f.size i (.slice S i cap)).run P Γ.w.drew= .ok g.toArray Γ.w.drew:=by
  have V:cap<i+d:=by
   rcases j3 rfl with⟨_,_,rfl,_,_⟩|⟨b,W,A,rfl,rfl,am,X⟩
   .omega
   .omega
  rcases j3 rfl with⟨A,rfl,rfl,_,rfl⟩|⟨b,W,A,rfl,rfl,am,X⟩
  .exact ⟨[],by simp[aY],by simp,V,by simp[ai4]⟩
  .simp only[A]at U
   have⟨Y,hX,hF,aI,aJ,cells,aK,hh,aM,an⟩:=U
   have⟨B,C,p,D⟩:=tH (kJ an i)
   have hl:(rows.take i).length=i:=by simp;omega
   rw[hl]at p
   refine⟨B,C,by rw[p,Y],V,?_⟩
   by_cases ao:i=0
   .subst ao
    have:B=[]:=ae4 (by rw[p];simp)
    subst this
    simpa using run_firstCells_some (P:=P) (w:=Γ.w.drew) f.size 0 W 0 (Q.cap-0) [] (by simp) (by simp)
   .have ap:0<Q.cap:=by omega
    obtain rfl:=X ap
    exact run_firstCells_some (P:=P) (w:=Γ.w.drew) f.size i _ i _ B (by rw[p,Y]) (fun aq v hj=>by
     rw[jG]
     have:=D aq v hj
     simpa using this)
 have⟨g,C,p,Z,D⟩:=al
 have ar:(i+d)*f.bytes<=140737488355328:=ai5 (amJ (show i+d<=10000000 by omega) (show f.bytes<=10000 by omega)) (by decide)
 have au:d*f.bytes<=281474976710656:=ai5 (amJ (show d<=10000000 by omega) (show f.bytes<=10000 by omega)) (by decide)
 have l:=Lib.run_append_grow_zeros (P:=P) Γ.w t u ty el f j F I ag hu ah hz S i cap g D d (by omega) K Z (by omega) au (growslice_fits (need:=i+d) (old:=cap) Z ar)
 generalize hG:grownCap Γ.w (i+d) cap el=G at l
 have av:i+d<=G:=by rw[<-hG];exact grownCap_ge Γ.w (i+d) cap el
 have aw:G<=maxLen:=by rw[<-hG];exact grownCap_le_maxLen Γ.w (i+d) cap el (by unfold maxLen;omega)
 have aa:=sR z
 have ax:=(tc Γ).trans (sL aa (g.toArray++aiy j.cells d++aiy j.cells (G-(i+d))) el ⟨some Γ.w.heap.size,0,G,f.size⟩)
 have ay:(rows.take i++ahv d s).length=i+d:=by simp;omega
 refine⟨.slice (some ⟨Γ.w.heap.size,0,none⟩) (i+d) G,Γ.drew.alloc (g.toArray++aiy j.cells d++aiy j.cells (G-(i+d))) el ⟨some Γ.w.heap.size,0,G,f.size⟩,.inl ?_,ax,rF aa _ el G f.size (rows.take i++ahv d s) aw (by rw[ay];exact av) K ?_ ?_ (g++(aiy j.cells d).toList) ?_ ?_,?_⟩
 .simp only[execOp,resolve,invoke,builtin,aiT,akW,aiG,List.map_toArray,ag9,aiU,j2,O.1,l]
  rfl
 .simp only[aj5,ajt,size_zeroCells,ai,p, <-air]
  exact aj8 (by congr 1;omega)
 .intro r l
  rcases ain.1 l with l|l
  .exact hf r l
  .rw[ala l];exact ae
 .rw[alI,Hz]
  exact su (G9 (pg Γ) _ _ C) (Kq (oJ aj) _)
 .intro k v hk
  rw[akV (by
   have:=(abW.1 hk).1
   simp at this|-
   omega)]
  have e:g.toArray++aiy j.cells d=(g++(aiy j.cells d).toList).toArray:=by simp
  rw[e,List.getElem?_toArray]
  exact hk
 grind [aL,aB,az.alloc,(aZ.len)]
theorem jF.apart{g y q:Operand}{f:FuncId}{i tr V W el X h p r s k t u x z Y:Nat}{D:Nat×List ab}{rows E:List (List ab)}(Z:se P i=some (el,X,D))(hf:aX e g=some (.c (.bF f [])))(hx:∀(args:Array Value) (w:World),(callFunc f args).run P w=((akj #[i,i] #[tr] args).run P w).andThen fun v w'=> .ok (.value v) w')(hy:aX e y=some (.c (.sl h p r s)))(hq:aX e q=some (.c (.sl k t u x)))(F:obj H h p=some (z,rows))(G:obj H k t=some (Y,E))(aa:h≠k)(ap:z≠1)(hr:0<rows.length)(aq:0<E.length)(hl:0<s)(ar:0<x):
  jF P Γ0 e H (.call {callee:= .value g,args:= #[y,q],argTypes:= #[V,W]}) (.c (B false)) H:=fun Γ a o au I l A=>by
 have⟨av,op,ty,pos,aw,guard⟩:=o
 simp only at I
 subst I
 have m:=A g (by simp[acH,aiM]) _ hf
 have J:=A y (by simp[acH,aiM]) _ hy
 have K:=A q (by simp[acH,aiM]) _ hq
 simp only[aL,aB,aY]at m J K
 have⟨ys,m,ax⟩:=m
 have ad:ys= #[]:=by grind
 subst ad
 have⟨n,L,ay,M⟩:=l.obj F
 have⟨d,N,az,O⟩:=l.obj G
 have⟨ae,af,a',cap,j1,_,j2,j3⟩:=J
 rw[L]at j1
 cases j1
 have⟨ae,af,a2,aA,Q,_,R,i3⟩:=K
 rw[N]at Q
 cases Q
 rcases j3 rfl with⟨_,_,_,_,rfl⟩|⟨b,b',S,rfl,rfl,aC,ha⟩
 .omega
 rcases i3 rfl with⟨_,_,_,_,rfl⟩|⟨c,c',T,rfl,rfl,aD,ag⟩
 .omega
 obtain rfl:=ha (by omega)
 obtain rfl:=ag (by omega)
 have ah:b≠c:=by
  intro he
  subst he
  exact aa (l.apart h k p t _ _ n d b (eP F) (eP G) rfl rfl L N S T)
 simp only[S]at M
 simp only[T]at O
 have⟨aE,hX,hF,aF,aG,cells,ai,⟨fz,hh,aH⟩,aI,aJ⟩:=M
 have⟨aK,aM,aN,aO,aj,ak,T2,⟨aP,al,aQ⟩,aR,aS⟩:=O
 have⟨bytes,zl⟩:=D
 obtain⟨am,ii,zz,an,rfl,aT,hz,aU,aV⟩:=jz Z
 have aW:0<d.cap*d.sz:=Nat.mul_pos (by omega) aj
 have U:∀j,Γ.w.frozen? ⟨b,j,none⟩=false:=fun j=>by
  grind [World.frozen?]
 have ao:=Lib.run_overlaps_apart (P:=P) Γ.w i tr el am ii.size (fun w=>by simp[sizeOf,typeInfo,an]) ⟨b,n.off+r*n.sz,none⟩ ⟨c,d.off+u*d.sz,none⟩ s (n.cap-r) x (d.cap-u) ah ai T2 cells.size ak.size (by simp[amB,hh]) (by simp[amB,al]) (by omega) (U _) (U _)
 refine .val l (y:= .bool false) ?_ (by simp[aL,aB,aiw])
 have C:=hx #[a.eval y,a.eval q] Γ.w
 rw[j2,R,ao]at C
 simp only[execOp,resolve,invoke,aiT,List.map_toArray,ag9,aiU,m,j2,R]
 simp at C
 simp[Deferred.ofValue,C]
end
theorem ab8{H:List Ob}(f:aZ Γ H){a d c z0 j len:Nat}{aa:List (List ab)}(ad:obj H a c=some (z0,aa))(z:obj H d 0=some (j,rows))(ae:a≠d):
  ∃m,m.w=Γ.w/\Γ.cL m/\aZ m ((H.set a (.live (c+1) j rows)).set d .dead)/\∀y,aB Γ (.sl d 0 0 len) y->aB m (.sl a (c+1) 0 len) y:=by
 have⟨aj,P,k2,k3⟩:=f.obj ad
 have⟨g,p,m2,q⟩:=f.obj z
 have Q:a<Γ.hs.length:=(abW.1 P).1
 have af:a<H.length:=by rw[f.len];exact Q
 have ag:d<H.length:=by rw[f.len];exact(abW.1 p).1
 have r:∀n,n≠a->(Γ.hs.set a (g,c+1))[n]?=Γ.hs[n]?:=fun n hn=>by
  rw[aat (fun h=>hn h.symm)]
 have A:(Γ.hs.set a (g,c+1))[a]?=some (g,c+1):=by simp[Q]
 have s:Γ.Le {Γ with hs:=Γ.hs.set a (g,c+1)}:=⟨fun _ _ h=>h,fun _ _ _=>rfl,fun n i v hn=>by
  by_cases R:n=a
  .subst R
   rw[P]at hn
   cases hn
   exact⟨g,c+1,A,by omega,fun h=>by omega⟩
  .exact ⟨i,v,by simp only;rw[r n R];exact hn,ad3 _,fun _=>rfl⟩⟩
 have S:∀n o,((H.set a (.live (c+1) j rows)).set d .dead)[n]?=some o->(n=d/\o= .dead)\/(n=a/\o= .live (c+1) j rows)\/(n≠a/\n≠d/\H[n]?=some o):=by
  intro n o hn
  by_cases B:d=n
  .subst B
   have e:((H.set a (.live (c+1) j rows)).set d .dead)[d]?=some .dead:=by simp[ag]
   rw[e]at hn
   exact .inl ⟨rfl,(ajG hn).symm⟩
  .rw[aat B]at hn
   by_cases C:a=n
   .subst C
    have e:(H.set a (.live (c+1) j rows))[a]?=some (.live (c+1) j rows):=by simp[af]
    rw[e]at hn
    exact .inr (.inl ⟨rfl,(ajG hn).symm⟩)
   .rw[aat C]at hn
    exact .inr (.inr ⟨fun h=>C h.symm,fun h=>B h.symm,hn⟩)
 refine⟨{Γ with hs:=Γ.hs.set a (g,c+1)},rfl,⟨s,rfl,rfl,rfl,ad3 _,fun _ _ _=>rfl,fun _ _ h=> .inl h,fun _ h=> .inl h⟩,⟨by simp[f.len],fun n o hn=>?_,fun n T v U o o' D E b e1 V t1 t2 e3 W I J=>?_,f.F,f.X,f.G.le s⟩,fun y hy=>?_⟩
 .rcases S n o hn with⟨rfl,rfl⟩|⟨rfl,rfl⟩|⟨t,Y,K⟩
  .exact ⟨g,by simp only;rw[r n (fun h=>ae h.symm)];exact p⟩
  .refine ⟨g,A,m2,?_⟩
   cases Z:g.base with
   |none=>simp only[Z]at q;exact q
   |some b=>
    simp only[Z]at q
    have⟨c1,c2,c3,c4,c5,cells,ah,c6,c7,c8⟩:=q
    exact⟨c1,c2,c3,c4,c5,cells,ah,c6,c7,mY fun k ai hk=>by
     have:=jL c8 hk
     exact⟨this.1,tq s b _ ai (fun _ _ _=>rfl) this.2⟩⟩
  .exact (f.ob n o K).aK s (by simp only;rw[r n t]) (fun _ _ _ _ _ _ hx hf=>⟨rfl,hf,hx⟩)
 .have L:∀n o i v,((H.set a (.live (c+1) j rows)).set d .dead)[n]?=some o->o.there=true->(Γ.hs.set a (g,c+1))[n]?=some (i,v)->(n=a/\i=g)\/(n≠a/\n≠d/\H[n]?=some o/\Γ.hs[n]?=some (i,v)):=by
   intro n o i v hn ht u
   rcases S n _ hn with⟨_,rfl⟩|⟨rfl,rfl⟩|⟨t,Y,K⟩
   .cases ht
   .rw[A]at u
    cases u
    exact .inl ⟨rfl,rfl⟩
   .rw[r n t]at u
    exact .inr ⟨t,Y,K,u⟩
  rcases L _ _ _ _ e1 t1 e3 with⟨a1,M⟩|⟨a1,M,a3,a4⟩
  .rcases L _ _ _ _ V t2 W with⟨x,l⟩|⟨x,l,N,O⟩
   .rw[a1,x]
   .exfalso
    subst M
    exact l (f.apart T d U 0 _ _ E D b N (eP z) t2 rfl O p J I)
  .rcases L _ _ _ _ V t2 W with⟨x,l⟩|⟨x,l,N,O⟩
   .exfalso
    subst l
    exact M (f.apart n d v 0 _ _ D E b a3 (eP z) t1 rfl a4 p I J)
   .exact f.apart n T v U o o' D E b a3 N t1 t2 a4 O I J
 grind [aB]
theorem bP.adr(j:my C.P ce){n id:Nat}(k:oZ n ops.toList=true){Γ0:az}(c:ops.toList=A++[o])(l:o.guard=none){e d:Env}{H f:List Ob}
  (hA:fH bz C ce ops.toList A e H=some (d,f)) (m:∀(Γ:az) (a:Act),Γ0.cL Γ->aZ Γ f->(∀p∈o.op.operands,Good Γ d a p)->∃y,(execOp a.eval o).run C.P Γ.w= .ok (.value y) Γ.w) (G:∀t,o.dst=some t->d.get t=none):bP C.P n Γ0 (.region id ops false) ⟨e,H,ds⟩ .normal ⟨d,f,ds⟩:=by
 intro a w q
 refine wp_region ?_
 have hm:o∈ops.toList:=by rw[c];simp
 have r:ops.size=A.length+1:=by
  have:=congrArg List.length c
  simpa using this
 have s:aiZ ops.size=List.range' 0 A.length++[A.length]:=by
  rw[akl,r,List.range'_concat]
  simp
 rw[s]
 refine uq j k A 0 ⟨[o],by simpa using c⟩ _ _ _ _ hA _ (fun u w1 v=>?_) a w q
 rw[wpOps_cons]
 obtain⟨z,Γ,rfl,h,i,g,B⟩:=v
 have D:ops[A.length]?=some o:=by rw[<-akK,c];simp
 unfold wpOp
 simp only[D]
 rw[yn g (b:=true) (by simp[nI,l]),if_pos rfl]
 left
 have⟨y,E⟩:=m Γ u h i (fun p _=>uD g p)
 unfold Oper.wp
 rw[E,aky]
 simp only[wpOps]
 refine⟨trivial,by rw[vB];exact z,Γ,rfl,h,i,fun t x F=>?_,by rw[put_defers];exact B⟩
 have⟨I,J,K⟩:=g t x F
 grind [(OM)]
def cu(P:Program)(n:Nat)(Γ0:az)(c:Code)(S:St)(Q:Exit->St->Prop):Prop:= ∃a b,bP P n Γ0 c S a b/\Q a b
section
variable{P:Program}{n:Nat}{Γ0:az}{a b c:Code}{S:St}{Q:Exit->St->Prop}
def cu.seq(h:cu P n Γ0 a S fun c d=>c= .normal/\cu P n Γ0 b d Q):cu P n Γ0 (.seq a b) S Q:=by obtain⟨c,d,e,rfl,f,g,i,j⟩:=h;exact⟨f,g,e.GO i,j⟩
def cu.sq(h:cu P n Γ0 a S fun c d=>(c= .normal/\cu P n Γ0 b d Q)\/(c≠ .normal/\Q c d)):cu P n Γ0 (.seq a b) S Q:=by
 obtain⟨c,d,f,⟨rfl,g,i,e,j⟩|⟨k,e⟩⟩:=h
 .exact ⟨g,i,f.GO e,j⟩
 .exact ⟨c,d,f.wX k,e⟩
def cu.wX(h:cu P n Γ0 a S fun c d=>c≠ .normal/\Q c d):cu P n Γ0 (.seq a b) S Q:=by have⟨c,d,e,f,g⟩:=h;exact⟨c,d,e.wX f,g⟩
theorem cu.cond{t:Nat}{v:Bool}(i:S.env.get t=some (.c (.v (.bool v))))(j:v=true->cu P n Γ0 a S Q)(k:v=false->cu P n Γ0 b S Q):cu P n Γ0 (.cond (.tmp t) a b) S Q:=by
 cases v with
 |true=>have⟨d,e,f,g⟩:=j rfl;exact⟨d,e,bP.cond i (fun _=>f) (fun h=>by cases h),g⟩
 |false=>have⟨d,e,f,g⟩:=k rfl;exact⟨d,e,bP.cond i (fun h=>by cases h) (fun _=>f),g⟩
theorem cu.aK{e:Env}{H:List Ob}(b:List Nat)(h:cu P n Γ0 c ⟨eI b e,H,ds⟩ Q):cu P n Γ0 c ⟨e,H,ds⟩ Q:=by have⟨d,f,g,i⟩:=h;exact⟨d,f,g.pre fun a w j=>j.sub (uU _ _),i⟩
theorem cu.skip(h:Q .normal S):cu P n Γ0 .skip S Q:=⟨_,_,bP.skip,h⟩
end
def cu.Fv{C:bu}{ce:cV}(g:my C.P ce){n id:Nat}{ops:Array Oper}{Γ0:az}{A B:List Oper}{o:Oper}{bz:Nat->Bool}{e a b:Env}{H c d f:List Ob}{x:aw}{ds:List (FuncId×List aw)}{Q:Exit->St->Prop}(h:ops.toList=A++o::B)(i:oZ n ops.toList=true)(j:o.guard=none)
  (hA:fH bz C ce ops.toList A e H=some (a,c)) (k:jF C.P Γ0 a c o.op x d) (l:fH bz C ce ops.toList B (ee a o.dst x) d=some (b,f)) (m:Q .normal ⟨b,f,ds⟩):cu C.P n Γ0 (.region id ops false) ⟨e,H,ds⟩ Q:=⟨_,_,bP.Fv g i h j hA k l,m⟩
def cu.Zs(e:gU C){f d n:Nat}{c:Code}{S:St}{Γ0:az}{Q:Exit->St->Prop}(hc:codeOk C f d n c=true)(g:iT C f d S.env)(h:∃a b,ev C f c S=some (a,b)/\Q a b):cu C.P n Γ0 c S Q:=by have⟨a,b,i,j⟩:=h;have⟨m,hm⟩:=qQ.1 i;exact⟨a,b,((Fs e m f d n c S a b hc g hm).1 Γ0).1,j⟩
def NK{P:Program}{f:FuncId}{b:Func}{c:Code}(o:enters P f=true)(p:P.funcs[f]?=some b)(q:b.body=some c){args:List aw}{H:List Ob}(s:args.length<=b.ntmps){r:aw}{g:List Ob}
  (h:∀Γ,aZ Γ H->cu P b.ntmps Γ c ⟨fP 0 args,H,[]⟩ fun i S=>(i= .normal\/i= .ret)/\S.bG=[]/\∃x,gY P S.env S.heap b.results.toList=some x/\∀a y,aZ a S.heap->aL a x y->∃d,d.w=a.w/\a.cL d/\aZ d g/\aL d r y):Call P f args H r g:=by
 refine⟨o,fun Γ k M hc=>?_⟩
 have⟨i,S,t,hex,u,x,z,A⟩:=h Γ k
 refine calls_of_wp_defers p q (wp_mono (t _ _ (KB k hc s)) fun N j l B=>?_)
 obtain⟨rfl,O,a,rfl,C,m,D,n⟩:=B
 rw[u]at n
 have E:j.defers=[]:=n
 have⟨v,F,G⟩:=Hy m D z
 have⟨d,I,J,K,L⟩:=A a v m G
 have fin:Leaves P b j.tmps (fun e l=>∃y a,e= .returned y/\a.w=l/\Γ.cL a/\aZ a g/\aL a r y) j.defers .returning a.w:=by
  rw[E]
  exact⟨v,F,v,d,rfl,I,C.trans J,K,L⟩
 rcases hex with rfl|rfl
 .exact fin
 .exact fin
theorem aay{H:List Ob}(a:aZ Γ H){h v z:Nat}(f:obj H h v=some (z,rows)):
  ∃c,c.w=Γ.w/\Γ.cL c/\aZ c (H.set h (.live (v+1) z rows))/\∀g y,aB Γ (.sl h v 0 g) y->aB c (.sl h (v+1) 0 g) y:=by
 have⟨inf,j,t,d⟩:=a.obj f
 have l:=zy (Γ:=Γ) (inf:=inf) (ver:=v+1) j (by omega)
 have u:h<H.length:=(abW.1 (eP f)).1
 have x:h<Γ.hs.length:=(abW.1 j).1
 have p:(Γ.bump h inf (v+1)).hs[h]?=some (inf,v+1):=by simp[az.bump,x]
 refine⟨Γ.bump h inf (v+1),rfl,⟨l,rfl,rfl,rfl,ad3 _,fun _ _ _=>rfl,fun _ _ h=> .inl h,fun _ h=> .inl h⟩,?_,fun g y J=>?_⟩
 .refine a.put l h (by simp[az.bump,a.len]) (fun n hn=>⟨aat (fun e=>hn e.symm),by simp only[az.bump];exact aat (fun e=>hn e.symm)⟩) (fun o m=>?_) (fun o i K b m _ q A=>?_)
   (fun _ _ _=>rfl) (fun _ _ B=> .inl B) (fun _ C=>C) a.F a.X
  .rw[ahr u]at m
   cases m
   refine⟨inf,p,t,?_⟩
   cases s:inf.base with
   |none=>simp only[s]at d;exact d
   |some b=>
    simp only[s]at d
    have⟨c1,c2,c3,c4,c5,cells,T,D,E,G⟩:=d
    exact⟨c1,c2,c3,c4,c5,cells,T,D,E,mY fun k r I=>by
     have:=jL G I
     exact⟨this.1,tq l b _ r (fun _ _ _=>rfl) this.2⟩⟩
  .rw[p]at q
   cases q
   exact .inr ⟨_,inf,v,eP f,rfl,j,A⟩
 grind [aB]
end Go.Nx
namespace Go.Nx
def kB(x:Int):List Int->List Int
 |[]=>[x]
 |y::r=>if x<=y then x::y::r else y::kB x r
def gv:List Int->List Int
 |[]=>[]
 |x::r=>kB x (gv r)
def dt:List Int->List Int
 |[]=>[]
 |x::r=>match dt r with
  |[]=>[x]
  |y::t=>if x=y then y::t else x::y::t
def cD(l:List Int):List Int:=dt (gv l)
def gJ(a b:List Int):List Int:=(cD a).filter fun x=>!decide (x∈b)
def jZ(a b:List Int):List Int:=(cD a).filter fun x=>decide (x∈b)
def kZ(a b:List Int):Bool:=(gJ a b).isEmpty
def gD(a b:List Int):List Int:=cD (a++b)
def ek:List Int->Bool
 |[]=>true
 |x::r=>(match r with
  |[]=>true
  |y::_=>decide (x<y))&&ek r
structure Edge where
 a:Int
 b:Int
deriving DecidableEq,Inhabited
structure Gr where
 n:Int
 bw:List Edge
deriving DecidableEq,Inhabited
def nX(x y:Edge):Bool:=decide (x.a<y.a)||(decide (x.a=y.a)&&decide (x.b<y.b))
def uY:List Edge->Bool
 |[]=>true
 |x::r=>(match r with
  |[]=>true
  |y::_=>nX x y)&&uY r
def fa(g:Gr):Bool:=!decide (g.n<0)&&!decide (64<g.n)&&!decide (400<g.bw.length)&&!(g.bw.any fun e=>decide (e.a<0)||decide (e.a>=e.b)||decide (e.b>=g.n))&&uY g.bw
def eM(a:Int):List Edge->List Int
 |[]=>[]
 |e::r=>if a=e.a then e.b::eM a r else if a=e.b then e.a::eM a r else eM a r
def ec(g:Gr)(a:Int):List Int:=if fa g then cD (eM a g.bw)else []
def bD(c:List Int)(b:Int):Int:=c.getD b.toNat 0
def mP(l:List Int):Nat->Int->Int
 |0,k=>k
 |n+1,k=>if k∈l then mP l n (k+1)else k
def ke(g:Gr)(c:List Int)(a:Nat):Int:=
 let d:=ec g a
 if bD c a≠0\/(d.any fun b=>decide (bD c b=0)&&decide (b>(a:Int)))=true then bD c a else mP (d.map (bD c)) (d.length+1) 1
def iW(g:Gr)(c:List Int):List Int:=(aiZ g.n.toNat).map (ke g c)
def ul(g:Gr):Nat->List Int->Nat->Option (List Int×Nat)
 |0,_,_=>none
 |m+1,c,n=>if(0:Int)∈c then ul g m (iW g c) (n+1)else some (c,n)
def pa(g:Gr):Option (List Int×Nat):=ul g (g.n.toNat+1) (ahv g.n.toNat 0) 0
structure bW where
 id:Int
 need:List Int
 state:Int
 cH:Int
deriving DecidableEq,Inhabited
structure cd where
 last:Int
 aA:List bW
deriving DecidableEq,Inhabited
abbrev cd.zero:cd:=⟨0,[]⟩
def nh(l:List Int):Bool:=decide (64<l.length)||l.any fun p=>decide (p<0)
def dw(bl a:Int)(first:Bool)(s:bW):Bool:=
 !(decide (s.id<=a)||decide (s.id>bl)||nh s.need||!ek s.need||decide (s.cH<0))&&((decide (s.state=1)&&first)||(decide (s.state=0)&&decide (s.cH=0)))
def dS(bl:Int):Int->Bool->List bW->Bool
 |_,_,[]=>true
 |last,first,s::r=>dw bl last first s&&dS bl s.id false r
def cN(b:cd):Bool:=!decide (b.last<0)&&!decide (8<b.aA.length)&&dS b.last 0 true b.aA
def ia(b:cd)(id:Int)(need:List Int):cd×Int:=
 if cN b=false then(.zero,170)
 else if id<=b.last then(.zero,171)
 else if nh (cD need)=true then(.zero,172)
 else if b.aA.length=8 then(.zero,173)
 else(⟨id,b.aA++[⟨id,cD need,0,0⟩]⟩,0)
def kD(b:cd):cd×Int×Int:=
 if cN b=false then(.zero,0,170)else match b.aA with
 |[]=>(.zero,0,175)
 |s::r=>if s.state=1 then(.zero,0,175)else(⟨b.last,{s with state:=1}::r⟩,s.id,0)
def ej(id:Int):List bW->List bW
 |[]=>[]
 |s::r=>if s.id=id then r else s::ej id r
def de(b:cd)(id a:Int):cd×Int:=
 if cN b=false then(.zero,170)else match b.aA.find? (fun s=>decide (s.id=id))with
 |none=>(.zero,174)
 |some s=>if s.state=a then(⟨b.last,ej id b.aA⟩,0)else(.zero,175)
def dN(b:cd)(a:Int):cd×Int×Int:=
 if cN b=false then(.zero,0,170)else match b.aA with
 |[]=>(b,0,0)
 |s::r=>if s.state=1 then
   (if max s.cH (min s.cH (4611686018427387904-1)+1)<a then(⟨b.last,{s with cH:=max s.cH (min s.cH (4611686018427387904-1)+1)}::r⟩,0,0)else(⟨b.last,r⟩,s.id,0))
  else(b,0,0)
def bZ(a:Int)(s:bW):Bool:=decide (s.state=0)&&decide (a∈s.need)
def iS(b:cd)(a:Int):cd×List Int×Int:=
 if cN b=false then(.zero,[],170)else(⟨b.last,b.aA.filter fun s=>!bZ a s⟩,(b.aA.filter (bZ a)).map (·.id),0)
structure aI where
 peer:Int
 aP:Int
 state:Int
 fork:Bool
 cK:Bool
 token:Bool
 dc:Bool
 ask:Bool
deriving DecidableEq,Inhabited
structure cY where
 kind:Int
 aP:Int
 num:Int
deriving DecidableEq,Inhabited
structure cB where
 src:Int
 dst:Int
 fN:cY
deriving DecidableEq,Inhabited
structure cQ where
 id:Int
 phase:Int
 af:List aI
deriving DecidableEq,Inhabited
abbrev cQ.zero:cQ:=⟨0,0,[]⟩
def cS(id a:Int)(x:aI):Bool:=decide (x.peer>a)&&!decide (x.peer=id)&&!decide (x.aP<0)&&!decide (x.aP>65535)&&!decide (x.state<0)&&!decide (x.state>3)&&!(x.cK&&!x.fork)
def dU(id:Int):Int->List aI->Bool
 |_,[]=>true
 |last,x::r=>cS id last x&&dU id x.peer r
def eo(d:cQ):Bool:=!decide (d.id<0)&&!decide (d.phase<0)&&!decide (d.phase>2)&&!decide (64<=d.af.length)&&dU d.id (-1) d.af
def jN(a b:Int)(x:aI):Bool:=decide (x.peer=a)&&decide (x.aP=b)
def setAt{a:Type}(p:a->Bool)(f:a->a):List a->List a
 |[]=>[]
 |x::r=>if p x then f x::r else x::setAt p f r
def jT(d:cQ)(a:Int)(m:cY):cQ×Int:=
 if eo d=false then(.zero,130)else match d.af.find? (jN a m.aP)with
 |none=>(.zero,131)
 |some x=>if m.kind=1/\m.num=0 then(if x.fork then(.zero,132)else(⟨d.id,d.phase,setAt (jN a m.aP) (fun x=>{x with fork:=true}) d.af⟩,0))
  else if m.kind=2/\m.num=0 then(if x.token then(.zero,132)else(⟨d.id,d.phase,setAt (jN a m.aP) (fun x=>{x with token:=true}) d.af⟩,0))
  else(.zero,133)
def ft(id:Int)(x:aI)(k:Int):cB:=⟨id,x.peer,⟨k,x.aP,0⟩⟩
def cI(id phase:Int)(x:aI):aI×List cB:=
 let a:=x.fork&&x.cK&&x.token&&!decide (phase=2)
 let y:aI:=if a then{x with fork:=false,cK:=false}else x
 let b:=decide (phase=1)&&y.token&&!y.fork
 (if b then{y with token:=false}else y,(if a then [ft id x 1]else [])++(if b then [ft id x 2]else []))
def fx(d:cQ):cQ×List cB×Int:=
 if eo d=false then(.zero,[],130)else
 let l:=d.af.map fun x=>(cI d.id d.phase x).1
 let out:=d.af.flatMap fun x=>(cI d.id d.phase x).2
 if d.phase=1/\(l.all fun x=>x.fork)=true then(⟨d.id,2,l.map fun x=>{x with cK:=true}⟩,out,0)else(⟨d.id,d.phase,l⟩,out,0)
structure Dr where
 ai:cQ
 aQ:Int
 need:List Int
deriving DecidableEq,Inhabited
abbrev Dr.zero:Dr:=⟨.zero,0,[]⟩
def cJ(l:List aI)(p:Int):Bool:=l.any fun x=>decide (x.peer=p)
def dC(d:Dr):Bool:=eo d.ai&&!decide (d.aQ<0)&&!decide (d.aQ>2)&&ek d.need&&!(decide (d.aQ=0)&&!d.need.isEmpty)&&!(d.need.any fun p=>!cJ d.ai.af p)
def kH(d:Dr):Dr×Int:=if dC d=false then(.zero,150)else if d.aQ=0 then(.zero,152)else(⟨d.ai,0,[]⟩,0)
def Bk(d:Dr)(a:Int)(m:cY):Dr×Int:=
 if dC d=false then(.zero,150)else match d.ai.af.find? (jN a m.aP)with
 |some x=>if m.num=0/\m.kind=3 then(if x.dc then(.zero,132)else(⟨⟨d.ai.id,d.ai.phase,setAt (jN a m.aP) (fun x=>{x with dc:=true}) d.ai.af⟩,d.aQ,d.need⟩,0))
  else if m.num=0/\m.kind=4 then(if x.ask then(.zero,132)else(⟨⟨d.ai.id,d.ai.phase,setAt (jN a m.aP) (fun x=>{x with ask:=true}) d.ai.af⟩,d.aQ,d.need⟩,0))
  else(if(jT d.ai a m).2=0 then(⟨(jT d.ai a m).1,d.aQ,d.need⟩,0)else(.zero,(jT d.ai a m).2))
 |none=>(if(jT d.ai a m).2=0 then(⟨(jT d.ai a m).1,d.aQ,d.need⟩,0)else(.zero,(jT d.ai a m).2))
def bL(id c:Int)(need:List Int)(x:aI):aI×List cB:=
 let d:=decide (x.peer∈need)
 let keeps:=d&&(decide (c=2)||(decide (c=1)&&x.fork))
 let a:=x.dc&&x.ask&&!keeps
 let y:aI:=if a then{x with dc:=false}else x
 let b:=decide (c=1)&&d&&y.ask&&!y.dc
 (if b then{y with ask:=false}else y,(if a then [ft id x 3]else [])++(if b then [ft id x 4]else []))
def rl(d:Dr):Dr×List cB:=
 let l:=d.ai.af.map fun x=>(bL d.ai.id d.aQ d.need x).1
 let out:=d.ai.af.flatMap fun x=>(bL d.ai.id d.aQ d.need x).2
 (⟨⟨d.ai.id,d.ai.phase,l⟩,if d.aQ=1/\(l.all fun x=>!decide (x.peer∈d.need)||x.dc)=true then 2 else d.aQ,d.need⟩,out)
def r9(x:aI):Bool:=decide (x.state=1)
def eG(d:Dr):Int:=
 if d.aQ=1/\d.ai.phase=0 then 1 else if d.ai.phase=2/\d.aQ≠1/\(d.ai.af.any r9)=false then 0 else d.ai.phase
def cq(d:Dr):Dr×List cB:=
 let f:=fx ⟨d.ai.id,eG d,d.ai.af⟩
 let b:=rl ⟨f.1,d.aQ,d.need⟩
 (b.1,f.2.1++b.2)
def qg:Nat->Dr->List cB->Dr×List cB
 |0,d,out=>(d,out)
 |n+1,d,out=>if(cq d).1=d then((cq d).1,out++(cq d).2)else qg n (cq d).1 (out++(cq d).2)
def ci(b:Bool):Nat:=if b then 1 else 0
def ef(x:aI):Nat:=ci x.fork+ci x.token+ci x.dc+ci x.ask
def bS{a:Type}(f:a->Nat):List a->Nat
 |[]=>0
 |x::r=>f x+bS f r
def oy(a phase:Int):Nat:=if a=1 then 4+(2-phase.toNat)else if phase=1 then 2 else if phase=2 then 1 else 0
def rz(d:Dr):Nat:=bS ef d.ai.af+oy d.aQ d.ai.phase
def lC(d:Dr):Dr×List cB×Int:=if dC d=false then(.zero,[],150)else((qg (rz d+1) d []).1,(qg (rz d+1) d []).2,0)
structure cj where
 peer:Int
 aP:Int
deriving DecidableEq,Inhabited
structure Nd where
 dr:Dr
 book:cd
 known:List cj
 told:List Int
 asked:List cj
deriving DecidableEq,Inhabited
abbrev Nd.zero:Nd:=⟨.zero,.zero,[],[],[]⟩
abbrev Nd.id(n:Nd):Int:=n.dr.ai.id
abbrev Nd.phase(n:Nd):Int:=n.dr.ai.phase
abbrev Nd.af(n:Nd):List aI:=n.dr.ai.af
def Nd.eK(n:Nd)(l:List aI):Nd:=⟨⟨⟨n.dr.ai.id,n.dr.ai.phase,l⟩,n.dr.aQ,n.dr.need⟩,n.book,n.known,n.told,n.asked⟩
structure Ev where
 kind:Int
 node:Int
 id:Int
 peer:Int
 need:List Int
deriving DecidableEq,Inhabited
def nR(x:aI):Bool:=decide (x.state=0)
def jY(n:Nd):List Int:=(n.af.filter nR).map (·.peer)
def u9(n:Nd):List Int:=(n.af.filter r9).map (·.peer)
def qV(n:Nd):List Int:=(n.af.filter fun x=>decide (x.state=3)).map (·.peer)
def gR:List cj->Int->Int
 |[],_=>0
 |k::r,p=>if k.peer=p then k.aP else gR r p
def ju(n:Nd)(k:cj):Bool:=!cJ n.af k.peer&&!decide (k.peer<0)&&decide (k.peer<n.id)&&decide (k.aP>gR n.known k.peer)&&decide (k.aP<=65535)
def kN:List cj->List cj->Bool
 |_,[]=>true
 |ahead,k::r=>!(ahead.any fun x=>decide (x.peer=k.peer))&&kN (ahead++[k]) r
def mL:Int->List cj->Bool
 |_,[]=>true
 |last,k::r=>decide (k.peer>last)&&decide (k.peer<64)&&decide (k.aP>=1)&&decide (k.aP<=65535)&&mL k.peer r
def lU(n:Nd)(x:aI):Bool:=decide (x.peer>=64)||decide (x.aP<1)||!decide (gR n.known x.peer=x.aP)||((decide (x.state=1)||decide (x.state=3))&&decide (x.peer<n.id))
def sj(n:Nd):Bool:=decide (n.id<64)&&mL (-1) n.known&&!(n.af.any (lU n))&&ek n.told&&kZ n.told (u9 n)
def pF(n:Nd):Bool:=(!(n.asked.any fun k=>!ju n k)&&kN [] n.asked)&&sj n
def sU(n:Nd):Bool:=
 match n.book.aA with
 |[]=>!decide (n.dr.aQ=2)&&decide (n.dr.aQ=0)&&(jZ n.dr.need (qV n)).isEmpty
 |s::_=>(decide (n.dr.aQ=2)==decide (s.state=1))&&(decide (n.dr.aQ=0)||decide (s.need=n.dr.need))&&(jZ n.dr.need (qV n)).isEmpty&&!(n.book.aA.any fun s=>decide (s.state=0)&&!kZ s.need (jY n))
def dm(n:Nd):Bool:=dC n.dr&&cN n.book&&pF n&&sU n
structure Wk where
 n:Nd
 out:List cB
 seen:List Ev
 e:Int
deriving DecidableEq,Inhabited
def Wk.put(w:Wk)(n:Nd):Wk:=⟨n,w.out,w.seen,w.e⟩
def Wk.send(w:Wk)(x:aI)(k:Int):Wk:=⟨w.n,w.out++[ft w.n.id x k],w.seen,w.e⟩
def Wk.dJ(w:Wk)(k id:Int):Wk:=⟨w.n,w.out,w.seen++[⟨k,w.n.id,id,0,[]⟩],w.e⟩
def Wk.ey(w:Wk)(k a:Int):Wk:=⟨w.n,w.out,w.seen++[⟨k,w.n.id,0,a,[]⟩],w.e⟩
def Wk.need(w:Wk)(a:Bool)(e:Int):Wk:=if w.e=0/\a=false then⟨w.n,w.out,w.seen,e⟩else w
def Wk.dg(w:Wk):Wk:=if(kH w.n.dr).2=0 then w.put {w.n with dr:=(kH w.n.dr).1}else w
def fS(a b:Int):List cj->List cj
 |[]=>[⟨a,b⟩]
 |k::r=>if k.peer=a then⟨a,b⟩::r else if k.peer>a then⟨a,b⟩::k::r else k::fS a b r
def fR(x:aI):List aI->List aI
 |[]=>[x]
 |y::r=>if y.peer>=x.peer then x::y::r else y::fR x r
def Wk.oq(w:Wk)(x:aI):Wk:=w.put ⟨⟨⟨w.n.id,w.n.phase,fR x w.n.af⟩,w.n.dr.aQ,w.n.dr.need⟩,w.n.book,fS x.peer x.aP w.n.known,w.n.told,w.n.asked⟩
def n9(p:Int)(l:List aI):List aI:=l.filter fun x=>!decide (x.peer=p)
def j8(p:Int)(x:aI):Bool:=decide (x.peer=p)
def Wk.mT(w:Wk)(k:Int)(a:List Int):Wk:=⟨w.n,w.out,w.seen++a.map fun id=>⟨k,w.n.id,id,0,[]⟩,w.e⟩
def Wk.shut(w:Wk)(a:Int):Wk:=
 let w1:=(w.put (w.n.eK (setAt (j8 a) (fun x=>{x with state:=2}) w.n.af))).ey 7 a
 let g:=iS w1.n.book a
 let w2:=match w1.n.book.aA with
  |[]=>w1
  |s::_=>if w1.n.dr.aQ=1/\s.id∈g.2.1 then w1.dg else w1
 (w2.put {w2.n with book:=g.1}).mT 5 g.2.1
def jq(id:Int):List aI->List Int->List cB->List Int×List cB
 |[],told,out=>(told,out)
 |x::r,told,out=>if r9 x=true/\x.peer∉told then jq id r (gD told [x.peer]) (out++[ft id x 5])else jq id r told out
def Wk.tell(w:Wk):Wk:=
 let t:=jq w.n.id w.n.af w.n.told w.out
 ⟨{w.n with told:=t.1},t.2,w.seen,w.e⟩
def dD(id a:Int)(need:List Int)(x:aI):List aI×List cB:=
 if x.state≠2\/(a=2/\x.peer∈need)then([x],[])else if x.peer>id then([{x with state:=3}],[ft id x 7])else([],[ft id x 8])
def Wk.lA(w:Wk):Wk:=⟨w.n.eK (w.n.af.flatMap fun x=>(dD w.n.id w.n.dr.aQ w.n.dr.need x).1),w.out++w.n.af.flatMap fun x=>(dD w.n.id w.n.dr.aQ w.n.dr.need x).2,w.seen,w.e⟩
def Wk.iz(w:Wk)(k:cj):Wk:=((w.oq ⟨k.peer,k.aP,0,false,false,true,false,true⟩).send ⟨k.peer,k.aP,0,false,false,true,false,true⟩ 6).ey 6 k.peer
def Wk.answer(w:Wk):Wk:=
 let v:=w.n.asked.foldl Wk.iz w
 v.put {v.n with asked:=[]}
def waits(n:Nd):Option bW:=match n.book.aA with
 |[]=>none
 |s::_=>if s.state=0 then some s else none
def untold(n:Nd)(x:aI):Bool:=r9 x&&!decide (x.peer∈n.told)
def Nd.di(n:Nd)(d:Dr):Nd:=⟨d,n.book,n.known,n.told,n.asked⟩
def dA(w:Wk):Wk:=if w.n.phase≠2 then w.answer else w
def dq(w:Wk):Wk:=match waits w.n with
 |some s=>if w.n.dr.aQ=0 then w.put (w.n.di ⟨w.n.dr.ai,1,s.need⟩)else w
 |none=>w
def dG(w:Wk):Wk:=if w.n.phase=0/\w.n.af.any (untold w.n)=true then w.put (w.n.di ⟨⟨w.n.id,1,w.n.af⟩,w.n.dr.aQ,w.n.dr.need⟩)else w
def fF(w:Wk):Wk:=⟨w.n.di (lC w.n.dr).1,w.out++(lC w.n.dr).2.1,w.seen,w.e⟩
def fe(w:Wk):Wk:=match waits w.n with
 |some s=>if w.n.dr.aQ=2 then(w.put {w.n with book:=(kD w.n.book).1}).dJ 1 s.id else w
 |none=>w
def iN(w:Wk):Wk:=if w.n.phase=2 then w.tell else w
def Wk.iw(w:Wk):Wk:=(iN (fe (fF (dG (dq (dA w)))))).lA
abbrev KT:=List (List Nat)
def Kp:=[[3,4,6],[19],[6],[7],[8],[25],[8],[],[10],[6]]
def kt7:=[[0],[1],[2],[3,4,5],[0]]
def HX:=[[2,4],[5],[13],[5],[23],[4],[4]]
def HG:=[[4,5,8,9,10],[11,12],[33],[8,9,10],[13],[14],[39],[14],[15],[],[59],[8,9,10],[16,17],[71],[17],[18,19],[13],[20],[111],[8,9,10],[8,9,10]]
def Bc:=[[11],[12],[16],[12],[34],[11],[40],[54],[11],[],[11]]
def Gg:=[[2,3,4,5],[6,7],[14],[4,5],[4,5]]
def aoH:=[[1,2]]
def E0:=[[5,6,7],[27],[6,7],[8,9,10,11],[43],[],[6,7],[],[6,7]]
def BX:=[[1,2],[18],[2],[3],[23],[3],[4],[62],[2],[2]]
def FW:=[[5,6],[7,8],[10],[6]]
def Hj:=[[6],[11],[6],[6]]
def HZ:=[[6],[7],[8],[12],[8],[7],[6]]
def AS:=[[3,4,5],[9],[10],[4,5],[20],[4,5],[28],[6,7],[4,5],[41],[4,5],[53],[4,5],[63],[4,5],[4,5]]
def BH:=[[8],[9],[16],[9],[10],[28],[10],[11],[1],[8]]
def FB:=[[11],[],[11]]
def CU:=[[1,2,3],[4,5],[17],[3],[6],[21,22,23],[24],[8],[9,10],[33],[3],[],[23],[3]]
def C3:=[[4],[4]]
def DS:=[[2,3,4,5,6,7],[8],[9],[10],[26],[],[29],[29],[29],[29],[38],[],[42],[],[],[65],[],[73],[],[107],[],[5,6,7]]
def EE:=[[13,14,15],[16],[5],[6],[32],[7,8],[9],[10],[53],[],[],[15]]
def Bl:=[[4],[],[19,20,21],[22],[7],[30],[8],[],[21]]
def Gh:=[[2,3,4],[4]]
def D9:=[[4,5],[14],[4,5],[],[6],[20,21,22],[23],[8],[9,10],[6],[22],[4,5]]
def J5:=[[8,9],[11],[25],[8,9],[12,13],[],[14,15],[43],[8,9],[8,9]]
def Bz:=[[2],[4],[2],[2]]
def I6:=[[2],[4],[2],[2]]
def JC:=[[2],[4],[2],[2]]
def Gl:=[[2],[4],[2],[2]]
def DZ:=[[2],[4],[2],[2]]
def IP:=[[8,9],[16],[8,9],[10,11],[8,9]]
def By:=[[2,3],[4,5],[6],[14],[3],[3]]
def B4:=[[3,4],[5],[9],[5],[17],[4],[4]]
def KD:=[[6],[6]]
def Ij:=[[2],[4],[2],[2]]
def Fj:=[[6],[7],[17],[],[6]]
def Cf:=[[6],[7],[11],[7],[9],[23],[6],[6]]
def BU:=[[1,2]]
def Dl:=[[4,5],[13],[4,5],[16,17,18],[19],[7],[8,9],[],[18],[4,5]]
def Df:=[[8],[15],[8],[9,10],[8]]
def Ed:=[[8],[15],[8],[9,10],[8]]
def CI:=[[10],[17],[10],[11,12],[10]]
def HJ:=[[1,2,3],[4,5],[15],[3],[6],[19,20,21],[22],[8],[],[21],[3]]
def IN:=[[1,2,3],[4],[11,12,13],[14],[6],[],[13],[30],[3],[3]]
def Du:=[[1,2],[],[],[],[39,40],[41],[3],[],[40]]
def JI:=[[1,2],[22],[2],[2]]
def IU:=[[3,4],[4]]
def FI:=[[2,4],[8,9,10],[11],[6],[17],[4],[10],[4]]
def CB:=[[3],[12],[13],[4,5],[44],[],[],[72],[85],[],[],[92],[6],[113],[],[131],[],[134],[8,9,10],[155]]
def KC:=[[6],[15],[],[6]]
def aoJ:=[[3],[4]]
def Ek:=[[1,2],[2]]
def BY:=[[],[],[4,5],[7,8],[60],[],[],[68,69,70],[71],[10],[],[70]]
def Ea:=[[2,3,4,5],[11],[3,4,5],[6],[],[29],[3,4,5]]
def Jm:=[[4],[5],[11,12],[13],[6],[17],[5],[12],[4]]
def I2:=[[6,7],[8],[22],[],[53],[6,7],[6,7]]
def JZ:=[[3,4],[5],[4]]
def Ke:=[[1,2,3],[7],[2,3],[4],[2,3]]
def Jd:=[[6],[10],[6],[6]]
def Bf:=[[4],[7,8],[9],[5],[16],[4],[8],[4]]
def Km:=[[4],[13],[4],[5],[20,21,22],[23],[7],[8,9],[43],[5],[22],[4]]
def HL:=[[6,7],[16],[6,7],[8,9],[30],[6,7],[10,11],[37],[6,7],[12,9],[49],[],[6,7]]
def C7:=[[8,9],[10],[25],[],[],[11,12],[49],[8,9],[13,14,15,12],[66],[8,9],[],[8,9]]
def HD:=[[6,7],[11],[6,7],[6,7]]
def Cr:=[[2,3],[4],[12],[3],[22],[3],[31],[3],[40],[3],[5,6],[57],[3],[7],[80],[3],[3]]
def acj:=[[4],[9],[4],[11],[],[5],[6],[23],[],[7],[35],[],[4]]
def HQ:=[[6]]
def EC:=[[2],[4],[2],[2]]
def Ff:=[[6],[12],[6],[8],[6]]
def EJ:=[[6],[6]]
def If:=[[8],[8]]
def Kt:=[[1,2,3],[4,6],[15],[3],[7,6],[3]]
def Kb:=[[1,2],[3],[5],[5],[5],[2],[16],[16],[16],[2],[2]]
def FG:=[[1,2],[15],[2],[3],[17,18,19],[20],[5,4],[6],[31],[31],[31],[31],[31],[2],[51],[2],[3],[19],[2]]
def JV:=[[1,2],[3],[4],[5],[17],[2],[2]]
def Dz:=[[1,2],[3,4],[5],[42],[2],[6],[2]]
def Fc:=[[4],[7,8],[9],[5],[16],[4],[8],[4]]
def CW:=[[2,3],[3]]
def JG:=[[3,6,7],[8],[9],[14],[17],[9],[22],[9],[25],[9],[31],[7],[],[],[],[7]]
def Ja:=[[4],[4]]
def Dv:=[[1,2],[2]]
def aoC:=[[2],[3],[],[2]]
def CJ:=[[4,6],[11],[],[6]]
def AY:=[[2,4,5],[5]]
def FN:KT:=[]
def aok:=[[2,3],[14]]
def Gy:=[[1,2,3],[8],[3],[3]]
def Ka:=[[2,4,5],[5]]
def J1:=[[2,4,5,6],[7],[13],[5,6],[],[29],[5,6],[8],[],[53],[5,6],[9],[],[5,6]]
def GC:=[[6,7],[8],[9,10],[17],[11],[31],[9],[10],[6,7]]
def B8:=[[2,4],[4]]
def Es:=[[6],[],[7],[16],[6],[8],[22],[6],[31],[9],[],[],[6],[0],[68],[],[],[6],[],[],[6]]
def JK:=[[6,7],[19]]
def Bn:KT:=[]
def Ez:=[[2,3,4,5,6],[7],[12],[5,6],[8],[],[],[5,6]]
def DM:=[[4],[4]]
def BK:=[[1],[15],[],[2,3],[40],[],[4],[73],[],[5,6],[],[],[118],[],[],[144]]
def Gj:=[[2,3,4],[4]]
def CV:=[[12],[13],[19],[20],[14],[],[19],[12]]
def IX:=[[1,2],[20],[2],[23],[24],[2],[26],[2],[2]]
def Ej:=[[2],[3],[4],[5],[7],[7],[7],[7],[7],[7],[7],[7],[3],[3],[2]]
def Ir:=[[4],[4]]
def GX:=[[4],[5],[4],[9],[4],[],[4]]
def Hx:=[[1,2],[3],[4],[20],[],[],[],[70],[],[],[2]]
def Ik:=[[1,2,3],[7],[2,3],[4],[4],[4],[4],[2,3]]
def GS:=[[8],[9],[8]]
def D4:=[[8,9],[10],[16],[8,9],[8,9]]
def CF:=[[3,4,5],[18],[4,5],[6],[36],[],[43],[4,5],[],[53],[4,5],[],[4,5]]
def Kz:=[[2,3],[15],[3],[4],[31],[],[3]]
def Cm:=[[3,5,6,7,8,9],[10],[],[11],[12],[30],[],[33],[33],[33],[33],[62],[],[67],[13],[86],[],[99],[110],[],[],[],[135],[148],[],[152],[157],[],[],[7,8,9]]
def B9:=[[4],[4]]
def DI:=[[8,9],[10],[16],[8,9],[8,9]]
def E2:=[[6],[7],[16,17,18],[19],[9],[7],[18],[6]]
def GQ:=[[2,3],[4],[20],[2,3],[2,3]]
def I1:=[[1,2],[4],[5],[5],[2],[2]]
def TI:KT:=[]
def adP:KT:=[]
def acF:KT:=[]
def Zi:=[[6,8],[19],[],[8],[9,10],[35],[8],[36],[],[8],[38,39],[11],[0],[43],[8],[45,46],[12],[48,49,50],[51],[14],[55],[60],[8],[50],[8]]
def A0:=[[6],[],[22]]
def FU:=[[8],[9,10],[8]]
def Cv:=[[10],[11,12],[32],[10],[13],[14],[],[15],[16],[],[65,66],[67],[],[66],[71,72,73],[74],[18],[],[73],[10]]
def Dd:=[[1,2,3,4],[5],[11],[2,3,4],[6,7],[17],[6],[7],[2,3,4]]
def Co:=[[2,4,5],[6],[16],[4,5],[21],[4,5],[7],[23,24],[25],[8],[9],[31,32,33],[34],[11],[12],[],[33],[7],[24],[4,5]]
def FR:=[[2,3],[3]]
def J7:=[[4],[4]]
def J2:=[[2,3],[3]]
def Gw:=[[1,2],[3],[4],[30],[2],[2]]
def aoj:=[[2],[5,6],[7],[3],[22],[2],[6],[2]]
def DK:=[[2],[2]]
def EK:=[[2,3],[4],[3]]
def II:=[[2,3],[4],[],[3]]
def GG:=[[4],[4]]
def Fz:=[[2,3],[3]]
def B1:=[[2,3,4],[5],[4]]
def EO:=[[2],[5,6,7],[8],[4,3],[16],[2],[7],[2]]
def Dx:=[[3,6],[6]]
def Hh:=[[4],[10],[4],[12,13],[14],[5],[24],[4],[13],[4]]
def E1:=[[1,2],[2]]
def F9:=[[3,4],[4]]
def BG:=[[2,4],[5],[11,12,13],[14],[7],[19],[5],[13],[4]]
def D3:=[[4],[4]]
def EL:=[[2,3],[3]]
def Hv:=[[1,2],[],[10,11],[12],[3],[],[11]]
def Fw:=[[3,4],[4]]
def Zh:=[[2]]
def Kc:=[[2],[8],[2],[3],[13],[3],[25],[4],[5],[32],[5],[44],[],[3],[],[2],[2]]
def BA:=[[3,6,7],[8,9],[22],[9],[24],[7],[],[],[7]]
def JH:=[[1,2,3],[4],[8],[3],[13],[3],[],[],[3]]
def FJ:=[[6],[],[16],[6],[7],[0],[],[6]]
def ae7:KT:=[]
def ZI:KT:=[]
def JX:=[[6,7],[8],[9,10],[17],[11],[31],[9],[10],[6,7]]
def GM:=[[2,4],[4]]
def Dm:=[[6],[],[7],[16],[6],[8],[22],[6],[31],[9],[],[],[6],[0],[68],[],[],[6],[],[],[6]]
def EP:=[[4],[5],[12],[4],[6],[19],[6],[7],[29],[],[5],[],[4]]
def aoF:=[[3,4],[5],[15],[],[4]]
def GY:=[[4],[4]]
def Ep:=[[4],[7,8],[9],[5],[16],[4],[8],[4]]
def IB:=[[9,10,11],[12],[3],[4],[],[],[],[11]]
def Cj:=[[2,3],[3]]
def DO:=[[1,2],[2]]
def Ky:=[[1,2,3,4],[5],[11],[3,4],[6],[7],[],[30],[3,4]]
def Dw:=[[1,2,3,4],[5],[9],[3,4],[23],[3,4],[],[],[3,4]]
def DG:=[[10,11,12],[13],[3],[28],[],[],[12]]
def EA:=[[10,11,12],[13],[3,2],[39],[49],[],[],[],[],[12]]
def Ex:=[[2,3,4],[4]]
def Gs:=[[2,3,4],[4]]
def Ki:=[[4],[10],[4],[12,13],[14],[5],[24],[4],[13],[4]]
def B6:=[[4],[4]]
def DC:=[[10],[10]]
def GW:KT:=[]
def Kd:=[[6],[7],[11],[7],[0],[6]]
def AU:=[[2],[2]]
def A7:=[[2],[2]]
def Cp:=[[6],[7],[39],[6],[46],[],[6]]
def IJ:=[[4],[7],[4],[],[],[4]]
def E8:=[[4,5],[6,7],[16],[4,5],[8],[25],[8],[],[],[4,5]]
def Gk:KT:=[]
def E6:=[[5],[5]]
def C5:=[[5],[6,7],[22]]
def Jh:=[[4],[4]]
def IV:=[[3]]
def Jo:=[[4],[7,8],[9],[5],[16],[4],[8],[4]]
def IA:=[[4,5],[6],[16],[4,5],[4,5]]
def acT:KT:=[]
def agr:KT:=[]
def Wr:KT:=[]
def C4:=[[2],[3],[8,9],[10],[4],[3],[9],[2]]
def Jq:=[[2,3],[4,5],[11],[],[],[2,3]]
def Cb:=[[1,2],[3],[25],[2],[28,29],[30],[4],[48],[2],[29],[2]]
def FH:=[[2,3,4,5],[6],[13],[4,5],[23],[4,5],[7],[27,28],[29],[8],[9],[43],[],[49],[],[28],[4,5]]
def D8:=[[2,3,4],[18],[4],[4]]
def El:=[[2,4],[10],[4],[5],[12,13,14],[15],[7],[18],[19],[5],[28],[5],[14],[4]]
def Bp:=[[3,4],[5],[],[4]]
def FQ:=[[2],[2]]
def Ci:=[[4],[7,8],[9],[5],[16],[4],[8],[4]]
def Gm:=[[2,3],[3]]
def Cw:=[[2,3],[3]]
def HT:=[[3,4],[4]]
def JW:=[[3],[3]]
def IR:=[[4],[7,8],[9],[5],[16],[4],[8],[4]]
def Dh:=[[3],[3]]
def XN:=[[8],[9],[10],[23],[],[29],[],[35],[],[3],[11,12],[50],[],[11],[12],[68],[72],[87],[13],[1],[14,15],[9],[16,17],[18],[113],[8],[],[1],[8],[],[2]]
def SY:=[[2],[2],[2]]
def Cg:=[[2,4,5],[6],[11],[4,5],[7],[17],[4,5],[4,5]]
def Ck:=[[2,3,4],[4]]
def Ih:=[[1,2]]
def Xg:KT:=[]
def Ur:KT:=[]
def Yz:KT:=[]
def BZ:=[[4]]
def KE:=[[2],[6],[],[27],[],[3,4]]
def Bb:=[[4],[4]]
def FF:=[[2,3,4],[4]]
def EG:=[[6],[14],[6],[15,16,17],[18],[8,7],[9],[30],[6],[17],[6]]
def Ia:=[[2,3,4],[4]]
def B5:=[[6],[6]]
def AZ:=[[4],[5],[10,11],[12],[6],[5],[5],[5],[11],[4]]
def EX:=[[2],[2]]
def E4:=[[2],[2]]
def Da:=[[4],[4]]
def Hs:=[[3,4,5,6,7],[8],[16],[7],[],[9],[42],[10,11],[52],[7],[],[7],[12],[66],[12],[75],[7],[],[7]]
def HY:=[[4],[5],[12],[4],[6],[19],[6],[7],[29],[],[5],[],[4]]
def Bm:=[[2,3],[3]]
def CD:=[[2,3],[3]]
def Hk:=[[4],[4]]
def GN:=[[2,3,4],[4]]
def Ip:=[[2],[2]]
def JA:=[[4],[4]]
def ET:=[[5],[5]]
def Fk:=[[2],[2]]
def Jn:=[[2,3],[3]]
def Iy:=[[4],[5],[12],[4],[6],[19],[6],[7],[29],[],[5],[],[4]]
def Dg:=[[3],[3]]
def afB:=[[6],[12],[6],[7],[30],[7]]
def aeZ:=[[6],[7],[8],[9],[19],[9],[],[10],[30],[10]]
def ZO:=[[6],[15],[7],[8],[9],[33],[9],[10],[43],[10]]
def Zp:=[[6,7],[8],[9],[10],[11],[12],[32],[34],[10],[11],[12],[11],[49],[6,7],[51],[6,7],[54],[6,7]]
def acI:=[[6],[7],[13],[],[6],[7]]
def Vi:=[[6],[7],[8],[14],[8],[32],[7],[37],[6],[41],[6],[],[61],[9],[65],[9],[78],[],[98],[10],[103],[10],[116],[],[6]]
def afN:=[[4],[4]]
def XU:=[[8],[],[9,10],[43],[9],[59],[10],[64],[],[9],[10],[8]]
def Yg:=[[8,9],[],[10,11],[43],[10],[60],[11],[65],[],[8,9],[],[10],[11],[112],[10],[129],[11],[134],[],[10],[11],[],[8,9]]
def Ua:=[[2],[4],[0],[2],[8],[0],[2],[2]]
def W8:=[[2],[4],[0],[2],[8],[0],[2],[14],[0],[2],[2]]
def CY:=[[2,3],[3]]
def ZN:=[[2,3],[9],[2,3]]
def TX:KT:=[]
def B3:=[[1,2],[2]]
def CT:=[[1,2,3,4],[5],[15],[3,4],[],[6],[7],[24,25],[26],[8],[9],[10],[53],[],[],[77],[],[],[7],[25],[96],[],[100,101],[102],[11],[],[101],[3,4]]
def Ji:=[[2],[13,14],[15],[3],[4],[5],[6],[71],[],[],[101],[],[],[2],[14],[130]]
def HV:=[[4],[4]]
def J0:=[[4],[10],[4],[12,13],[14],[5],[24],[4],[13],[4]]
def Be:=[[3,4],[4]]
def GR:=[[3,4,5,6,7],[8],[15],[7],[9],[23],[7],[],[10],[11],[7],[34],[11],[50],[11],[66],[7],[7]]
def CM:=[[4],[7,8],[9],[5],[16],[4],[8],[4]]
def GD:=[[2],[3],[6,7,8],[9],[5],[14],[2],[8],[2]]
def C6:=[[4],[5],[6],[11],[12],[4],[4],[13],[4],[16],[4],[19],[4],[4]]
def aeW:=[[8],[9],[16],[36],[9],[52],[],[8]]
def afL:=[[2],[2]]
def Tk:=[[2],[],[],[],[2]]
def afT:=[[6],[6]]
def acR:=[[10],[1,2],[2,3],[1,2],[10]]
def Fq:=[[2],[2]]
def afM:=[[2,3],[9],[2,3]]
def Ii:KT:=[]
def Jk:=[[4]]
def CN:=[[2],[3],[9,10,11],[12],[5],[3],[20],[],[11],[6],[25,26,27],[28],[8],[6],[27],[2]]
def I7:=[[3,4],[4]]
def UO:=[[8,9],[18],[],[8,9],[8,9]]
def IM:=[[4],[6],[],[1],[16],[0],[4]]
def j9:RI:=⟨[],none,[],[]⟩
def UW:List (Nat×KT):=[(3,Kp),(7,kt7),(8,HX),(9,HG),(10,Bc),(16,Gg),(17,aoH),(18,E0),(26,BX),(27,FW),(28,Hj),(29,HZ),(30,AS),(31,BH),(32,FB),(33,CU),(34,C3),(35,DS),(36,EE),(37,Bl),(40,Gh),(41,D9),(42,J5),(43,Bz),(44,I6),(45,JC),(46,Gl),(47,DZ),(53,IP),(54,By),(55,B4),(56,KD),(57,Ij),(58,Fj),(59,Cf),(60,BU),(61,Dl),(62,Df),(63,Ed),(64,CI),(65,HJ),(66,IN),(67,Du),(68,JI),(69,IU),(70,FI),(71,CB),(72,KC),(73,aoJ),(74,Ek),(75,BY),(76,Ea),(77,Jm),(78,I2),(79,JZ),(80,Ke),(81,Jd),(82,Bf),(83,Km),(84,HL),(85,C7),(96,HD),(97,Cr),(98,acj),(99,HQ),(100,EC),(101,Ff),(102,EJ),(103,If),(104,Kt),(105,Kb),(106,FG),(107,JV),(108,Dz),(109,Fc),(110,CW),(111,JG),(112,Ja),(113,Dv),(114,aoC),(115,CJ),(116,AY),(117,FN),(118,aok),(119,Gy),(120,Ka),(121,J1),(122,GC),(123,B8),(124,Es),(125,JK),(126,Bn),(127,Ez),(128,DM),(129,BK),(130,Gj),(131,CV),(132,IX),(133,Ej),(134,Ir),(135,GX),(136,Hx),(137,Ik),(138,GS),(139,D4),(140,CF),(141,Kz),(142,Cm),(152,B9),(157,DI),(158,E2),(159,GQ),(160,I1),(161,TI),(162,adP),(163,acF),(164,Zi),(165,A0),(166,FU),(167,Cv),(168,Dd),(169,Co),(170,FR),(171,J7),(172,J2),(173,Gw),(174,aoj),(175,DK),(176,EK),(177,II),(178,GG),(179,Fz),(180,B1),(181,EO),(182,Dx),(183,Hh),(184,E1),(185,F9),(186,BG),(187,D3),(188,EL),(189,Hv),(190,Fw),(191,Zh),(192,Kc),(193,BA),(194,JH),(195,FJ),(196,ae7),(197,ZI),(198,JX),(199,GM),(200,Dm),(201,EP),(202,aoF),(203,GY),(204,Ep),(205,IB),(206,Cj),(207,DO),(208,Ky),(209,Dw),(210,DG),(211,EA),(212,Ex),(213,Gs),(214,Ki),(215,B6),(216,DC),(217,GW),(218,Kd),(219,AU),(220,A7),(221,Cp),(222,IJ),(223,E8),(224,Gk),(225,E6),(226,C5),(227,Jh),(228,IV),(235,Jo),(239,IA),(240,acT),(241,agr),(242,Wr),(243,C4),(244,Jq),(245,Cb),(246,FH),(247,D8),(248,El),(249,Bp),(250,FQ),(251,Ci),(252,Gm),(253,Cw),(254,HT),(255,JW),(256,IR),(257,Dh),(258,XN),(259,SY),(260,Cg),(261,Ck),(262,Ih),(263,Xg),(264,Ur),(265,Yz),(266,BZ),(267,KE),(268,Bb),(269,FF),(270,EG),(271,Ia),(272,B5),(273,AZ),(274,EX),(275,E4),(276,Da),(277,Hs),(278,HY),(279,Bm),(291,CD),(292,Hk),(293,GN),(294,Ip),(295,JA),(296,ET),(297,Fk),(298,Jn),(299,Iy),(300,Dg),(301,afB),(302,aeZ),(303,ZO),(304,Zp),(305,acI),(306,Vi),(307,afN),(308,XU),(309,Yg),(310,Ua),(311,W8),(312,CY),(313,ZN),(314,TX),(315,B3),(316,CT),(317,Ji),(318,HV),(319,J0),(320,Be),(321,GR),(332,CM),(333,GD),(334,C6),(335,aeW),(336,afL),(337,Tk),(338,afT),(339,acR),(340,Fq),(341,afM),(342,Ii),(343,Jk),(344,CN),(345,I7),(354,UO),(355,IM)]
def XB:RI:=⟨[0,2,1,3,4,5,6,7,8],none,[],[1]⟩
def Z6:RI:=⟨[],some 12,[],[8]⟩
def WE:RI:=⟨[0,1,2,3,5,6,4,7,8,9,10,11,12,13,14,15,16,17,18,19],none,[],[4]⟩
def D1:RI:=⟨[0,2,1,3,4,5,6,7,8],none,[],[1]⟩
def IE:RI:=⟨[0,1,3,4,2,5,6,7],none,[(0,5),(1,5)],[]⟩
def Ic:RI:=⟨[],some 14,[],[8]⟩
def aed:RI:=⟨[0,1,2,3,4,5,6,7,9,10,11,12,13,8,14,15,16,17,18,19,20,21,22,23],none,[],[8]⟩
def acs:RI:=⟨[0,1,2,3,4,5,6,8,9,10,11,13,14,15,16,7,12,17,18,19,20,21,22,23,24,25,26],none,[],[7,12]⟩
def XQ:RI:=⟨[],none,[],[15]⟩
def A5:RI:=⟨[],none,[],[4]⟩
def HR:RI:=⟨[0,2,1,3,4,5,6],none,[],[1]⟩
def FK:RI:=⟨[],none,[(1,2)],[]⟩
def IT:RI:=⟨[0,1,2,3,4,5,6,7,8,9,10,11,13,14,15,12,16,17,18],none,[(0,16),(1,16),(2,16),(3,16),(4,16),(5,16),(6,16),(7,16),(8,16),(9,16),(10,16),(11,16)],[]⟩
def Jx:RI:=⟨[0,1,2,3,5,6,7,4,9,10,11,8,12,13,14,15],none,[],[4,8]⟩
def Bg:RI:=⟨[0,1,3,4,6,7,2,9,5,8,10,11,12,13,14],none,[],[2,5,8]⟩
def D0:RI:=⟨[],none,[],[11]⟩
def C8:RI:=⟨[],some 13,[],[9]⟩
def BD:RI:=⟨[],none,[],[13]⟩
def Jr:RI:=⟨[],none,[],[16]⟩
def Er:RI:=⟨[],some 12,[],[7]⟩
def Fy:RI:=⟨[],none,[],[9]⟩
def Iu:RI:=⟨[],none,[(2,5),(3,5),(4,5)],[]⟩
def Fp:RI:=⟨[],none,[(5,12),(6,12),(7,12),(9,12),(10,12),(11,12)],[]⟩
def aop:RI:=⟨[],none,[],[25]⟩
def Db:RI:=⟨[0,1,2,3,4,5,6,7,8,11,12,9,10,13,14],none,[(11,10),(12,10)],[]⟩
def I3:RI:=⟨[],some 15,[],[9]⟩
def Bd:RI:=⟨[0,1,2,3,6,8,10,11,4,5,7,9,12,13,14],some 13,[],[4,7,9]⟩
def Dn:RI:=⟨[],none,[],[5]⟩
def BB:RI:=⟨[],none,[(1,2)],[]⟩
def HE:RI:=⟨[],none,[(1,9)],[4]⟩
def B2:RI:=⟨[],none,[(0,6)],[]⟩
def Gq:RI:=⟨[],none,[],[6]⟩
def Cx:RI:=⟨[0,1,2,3,4,5,6,8,9,7,10,11],none,[],[7]⟩
def JQ:RI:=⟨[0,1,2,4,5,3,6,7],none,[(4,3),(5,3)],[]⟩
def Js:RI:=⟨[0,1,2,3,4,6,7,5,8,9],none,[(6,5),(7,5)],[]⟩
def I8:RI:=⟨[],none,[],[4,5]⟩
def Eb:RI:=⟨[0,2,1,3,4,5,6,7],some 6,[],[1,3]⟩
def Bh:RI:=⟨[0,1,2,3,4,5,6,8,7,9,10,11,12,13],some 9,[(0,10)],[3,7,11]⟩
def Hn:RI:=⟨[],none,[(0,8)],[]⟩
def HB:RI:=⟨[],none,[],[2,7]⟩
def BJ:RI:=⟨[],none,[],[7]⟩
def Eh:RI:=⟨[],none,[],[2]⟩
def Jj:RI:=⟨[],none,[],[2]⟩
def SP:RI:=⟨[],none,[(1,3),(2,3)],[]⟩
def aak:RI:=⟨[0,1,2,3,4,5,6,7,8,9,10,11,13,12,14,15],none,[],[]⟩
def EY:RI:=⟨[],none,[],[9,10]⟩
def HN:RI:=⟨[0,1,2,3,4,5,6,7,8,9,10,11,13,14,12,15,16,17,18,19,20,21,22,23,24,25,26,27,28,29],none,[],[12]⟩
def A8:RI:=⟨[],none,[],[22]⟩
def Ib:RI:=⟨[],none,[],[30]⟩
def Hp:RI:=⟨[],none,[],[7]⟩
def Fg:RI:=⟨[],none,[],[9]⟩
def HP:RI:=⟨[0,1,2,3,5,6,4,7,8,9,10,11],none,[],[4,7]⟩
def aov:RI:=⟨[],none,[(5,8),(6,8),(7,8)],[]⟩
def Jw:RI:=⟨[],none,[(1,6),(2,6),(3,6),(4,6),(5,6)],[]⟩
def HO:RI:=⟨[],none,[],[9]⟩
def IF:RI:=⟨[0,1,2,3,4,5,6,7,8,10,9,11,12],none,[],[9]⟩
def BI:RI:=⟨[0,1,2,3,4,5,7,8,9,10,11,12,13,6,14,15,16,17,18],none,[],[6,14]⟩
def AP:RI:=⟨[],some 11,[],[7]⟩
def Em:RI:=⟨[],none,[],[6]⟩
def BM:RI:=⟨[],none,[],[7]⟩
def Gv:RI:=⟨[0,1,2,4,5,3,7,8,6,9,10,11],none,[],[3,6]⟩
def aew:RI:=⟨[],none,[(5,12)],[]⟩
def afA:RI:=⟨[],none,[(5,12)],[]⟩
def Ti:RI:=⟨[],none,[(5,12)],[]⟩
def adJ:RI:=⟨[],none,[(5,12)],[]⟩
def Up:RI:=⟨[],none,[(5,12)],[]⟩
def agP:RI:=⟨[],none,[(5,12)],[]⟩
def TH:RI:=⟨[],none,[(5,12)],[]⟩
def adb:RI:=⟨[0,1,2,3,4,5,6,7,9,10,11,12,13,8,14,15],none,[],[8]⟩
def Ew:RI:=⟨[0,1,2,3,5,6,7,8,4,9,10,11,12],none,[],[4]⟩
def YG:RI:=⟨[],none,[(4,15)],[]⟩
def aee:RI:=⟨[],none,[(5,17)],[]⟩
def Zf:RI:=⟨[],none,[(5,17)],[]⟩
def WS:RI:=⟨[],none,[(4,15)],[]⟩
def U7:RI:=⟨[],none,[(4,15)],[]⟩
def Ta:RI:=⟨[],none,[(4,15)],[]⟩
def Hi:RI:=⟨[],none,[(1,4)],[]⟩
def CS:RI:=⟨[],none,[(1,2)],[]⟩
def aeh:RI:=⟨[],none,[(7,21)],[]⟩
def U0:RI:=⟨[0,1,3,2,4,5,6],none,[],[2]⟩
def W7:RI:=⟨[0,1,3,2,4,5,6],none,[],[2]⟩
def riT:List (Nat×List (Nat×RI)):=[(6,[(3,XB),(13,Z6),(24,WE)]),(9,[(1,D1)]),(17,[(1,IE)]),(18,[(3,Ic)]),(21,[(6,aed),(7,acs),(12,XQ)]),(30,[(3,A5)]),(35,[(1,HR)]),(54,[(4,FK)]),(60,[(1,IT)]),(67,[(1,Jx),(2,Bg),(7,D0)]),(71,[(3,C8),(4,BD),(6,Jr),(18,Er)]),(75,[(0,Fy)]),(76,[(2,Iu),(6,Fp)]),(78,[(3,aop)]),(84,[(11,Db)]),(85,[(8,I3)]),(97,[(13,Bd)]),(108,[(6,Dn)]),(127,[(7,BB)]),(129,[(5,HE),(11,B2),(13,Gq)]),(131,[(5,Cx)]),(137,[(5,JQ),(6,Js),(7,I8)]),(142,[(1,Eb),(15,Bh),(16,Hn),(18,HB),(20,BJ),(23,Eh),(26,Jj)]),(147,[(2,SP)]),(151,[(7,aak)]),(159,[(2,EY)]),(176,[(2,HN)]),(180,[(2,A8)]),(182,[(1,Ib)]),(188,[(1,Hp)]),(189,[(5,Fg)]),(193,[(7,HP)]),(208,[(8,aov)]),(209,[(8,Jw)]),(221,[(5,HO)]),(222,[(3,IF)]),(223,[(7,BI)]),(226,[(1,AP)]),(239,[(4,Em)]),(243,[(5,BM)]),(262,[(1,Gv)]),(288,[(7,aew),(8,afA),(9,Ti),(10,adJ),(17,Up),(18,agP),(23,TH)]),(290,[(0,adb)]),(293,[(1,Ew)]),(301,[(6,YG)]),(302,[(10,aee)]),(303,[(10,Zf)]),(306,[(11,WS),(17,U7),(23,Ta)]),(316,[(13,Hi),(27,CS)]),(335,[(6,aeh)]),(347,[(1,U0)]),(348,[(1,W7)])]
end Go.Nx
namespace Go.Nx
open Go Go.Proofs Tryz
def assoc{a:Type}:List (Nat×a)->Nat->Option a
 |[],_=>none
 |(k,v)::r,n=>if ajx n k then some v else assoc r n
def bn(f id:Nat):RI:=((assoc riT f).bind fun l=>assoc l id).getD ⟨[],none,[],[]⟩
def wx(C:bu)(f:Nat):Bool:=
 match C.P.funcs[f]? with
 |some a=>match a.body with
  |some c=>codeOk C f (a.params.size+a.nfree) a.ntmps c&&enters C.P f
  |none=>false
 |none=>false
end Go.Nx
namespace Go.Nx
def aC(n:Int):List ab:=[I n]
def rowsOf:ab->Option (List (List ab))
 | .aj rows=>some rows
 | .eU rows=>some rows
 | .v (.slice none 0 0)=>some []
 |_=>none
def fJ(z:Nat)(a:List aw)(H:List Ob):Option (aw×List Ob):=
 match a,H with
 |[.c l],[]=>match rowsOf l with
  |some rows=>if(rows.all fun r=>ajx r.length z)&&bA rows&&ak6 rows.length 1000000 then some (.c (.sl 0 0 0 rows.length),[.live 0 z rows])else none
  |none=>none
 |_,_=>none
def oU:List (List ab)->Option (List Int)
 |[]=>some []
 |[.v (.int .i64 n)]::r=>match oU r with
  |some l=>some (n::l)
  |none=>none
 |_=>none
def DT(H:List Ob)(l:ab):Option (aw×List Ob):=
 match l with
 | .v (.slice none 0 0)=>some (.aM [],H)
 | .sl h a 0 b=>match obj H h a with
  |some (1,rows)=>match oU rows with
   |some l=>if ajx b l.length&&ak6 b 1000000 then some (.aM [],H.set h (.live a 1 ((gv l).map aC)))else none
   |none=>none
  |_=>none
 |_=>none
def uh(a:List aw)(H:List Ob):Option (aw×List Ob):=
 match a with
 |[.c l]=>DT H l
 |_=>none
def nw(z:Nat)(e:List aw)(H:List Ob):Option (aw×List Ob):=
 match e with
 |[.c (.sl h b 0 a),.c (.v (.int .i64 i)),.c (.sl d f 0 1)]=>match obj H h b,obj H d f with
  |some (g,rows),some (j,[x])=>if ajx g z&&ajx j z&&ak6 a rows.length&&!Nat.beq h d&&((rows.take a).all fun r=>ajx r.length z)&&ajx x.length z&&decide (0<=i)&&decide (i<=a)&&ak6 a 1000000 then
    (if a=rows.length then some (.c (.sl h (b+1) 0 (a+1)),H.set h (.live (b+1) z (rows.take i.toNat++x::rows.drop i.toNat))++[.dead])
    else some (.c (.sl h b 0 (a+1)),H.set h (.live b z (rows.take i.toNat++x::((rows.take a).drop i.toNat++rows.drop (a+1))))))else none
  |_,_=>none
 |_=>none
def ue(z:Nat)(d:List ab)(e:List aw)(H:List Ob):Option (aw×List Ob):=
 match e with
 |[.c (.sl h b 0 a),.c (.v (.int .i64 i)),.c (.v (.int .i64 j))]=>match obj H h b with
  |some (f,rows)=>if ajx f z&&ajx a rows.length&&decide (0<=i)&&decide (i<j)&&decide (j<=a)&&ak6 a 1000000 then
    some (.c (.sl h b 0 (a-(j-i).toNat)),H.set h (.live b z (rows.take i.toNat++rows.drop j.toNat++ahv (j-i).toNat d)))else none
  |none=>none
 |_=>none
def vj(d:List aw)(H:List Ob):Option (aw×List Ob):=
 match d with
 |[.c (.v .nilIface),.c (.ig 214 (.ptr _ _ _ _))]=>some (.c (B false),H)
 |[.c (.ig 288 (.ptr e f 0 0)),.c (.ig 214 (.ptr a b 0 0))]=>match obj H e f,obj H a b with
  |some (_,[[_,.ig 40 (.v (.int .i64 n))]]),some (1,[[_]])=>some (.c (B true),H.set a (.live b 1 [[I n]]))
  |_,_=>none
 |_=>none
def aG(l:List Int):ab:= .aj (l.map aC)
def jl:aw->Option (List Int)
 | .c l=>match rowsOf l with
  |some rows=>oU rows
  |none=>none
 |_=>none
def cw(l:List Int):aw×List Ob:=(.c (.sl 0 0 0 l.length),[.live 0 1 (l.map aC)])
def ng(b:List aw)(H:List Ob):Option (aw×List Ob):=
 match b,H with
 |[a],[]=>match jl a with
  |some l=>if ak6 l.length 1000000 then some (cw (cD l))else none
  |none=>none
 |_,_=>none
def jX(f:List Int->List Int->List Int)(c:List aw)(H:List Ob):Option (aw×List Ob):=
 match c,H with
 |[a,b],[]=>match jl a,jl b with
  |some l,some m=>if ak6 l.length 100000&&ak6 m.length 100000 then some (cw (f l m))else none
  |_,_=>none
 |_,_=>none
def rC:List (List ab)->Option (List Edge)
 |[]=>some []
 |[.v (.int .i64 a),.v (.int .i64 b)]::r=>match rC r with
  |some l=>some (⟨a,b⟩::l)
  |none=>none
 |_=>none
def wi(b:List aw)(H:List Ob):Option (aw×List Ob):=
 match b,H with
 |[.agg [.v (.int .i64 n),l]],[]=>match rowsOf l with
  |some rows=>match rC rows with
   |some a=>if fa ⟨n,a⟩then match pa ⟨n,a⟩with
     |some (c,k)=>some (.aM [.c (.sl 0 0 0 c.length),.c (I k),.c (I 0)],[.live 0 1 (c.map aC)])
     |none=>none
    else none
   |none=>none
  |none=>none
 |_,_=>none
def rh(d:List aw)(H:List Ob):Option (aw×List Ob):=
 match d,H with
 |[.agg [.v (.int .i64 n),l],.c (.v (.int .i64 a))],[]=>match rowsOf l with
  |some rows=>match rC rows with
   |some b=>if fa ⟨n,b⟩then some (cw (ec ⟨n,b⟩ a))else none
   |none=>none
  |none=>none
 |_,_=>none
def yt(c:UInt8):List UInt8->Nat
 |[]=>0
 |x::r=>(if x=c then 1 else 0)+yt c r
def strOf:ab->Option (List UInt8)
 | .v (.string s)=>some s.data.toList
 |_=>none
def AF(d:List aw)(H:List Ob):Option (aw×List Ob):=
 match d,H with
 |[.c a,.c b],[]=>match strOf a,strOf b with
  |some s,some [c]=>some (.c (I (yt c s)),[])
  |_,_=>none
 |_,_=>none
def yM(c:UInt8):Nat->List UInt8->Int
 |_,[]=> -1
 |i,x::r=>if x=c then i else yM c (i+1) r
def AO(b:List aw)(H:List Ob):Option (aw×List Ob):=
 match b,H with
 |[.c a,.c (.v (.int .u8 c))],[]=>match strOf a with
  |some s=>if 0<=c/\c<256 then some (.c (I (yM (al1 c.toNat) 0 s)),[])else none
  |none=>none
 |_,_=>none
def zu(b:List aw)(H:List Ob):Option (aw×List Ob):=
 match b with
 |[.c (.ptr _ _ 0 0),.c a]=>match strOf a with
  |some [49]=>some (.c (.sl H.length 0 0 1),H++[.live 0 1 [[I 1]]])
  |_=>none
 |_=>none
def te:List UInt8:=[97,100,100,32,48,32,49,10,103,111,32,48,10,99,111,109,101,32,48,32,49,32,48,10,103,111,32,49,10,99,111,109,101,32,49,32,48,32,48,10,111,112,101,110,32,48,32,49,32,49,10]
def wK:List UInt8:=[108,105,118,101,32,49,32,48,10,108,105,118,101,32,48,32,49,10,111,112,101,110,101,100,32,48,32,49,32,49,10,103,114,97,110,116,101,100,32,48,32,49,10]
def zV(b:List aw)(H:List Ob):Option (aw×List Ob):=
 match b,H with
 |[.agg [.v (.int .i64 2),.aj []],.agg [.v (.int .i64 2),.v (.int .i64 8),.v (.int .i64 1),.v (.int .i64 8),.v (.int .i64 9)],.c a],[]=>match strOf a with
  |some s=>if s=te then some (.aM [.c (Sg wK),.c (I 0),.c (I 0)],[])else none
  |none=>none
 |_,_=>none
def Aj(a:List aw)(H:List Ob):Option (aw×List Ob):=
 match a,H with
 |[],[]=>some (.c (B true),[])
 |_,_=>none
def orT:List (Nat×(List aw->List Ob->Option (aw×List Ob))):=
 [(43,fJ 10),(44,fJ 8),(45,fJ 1),(46,fJ 2),(47,fJ 4),(57,fJ 3),(191,uh),(124,nw 8),(200,nw 2),(195,ue 4 [I 0,eW,I 0,I 0]),(98,vj),
  (114,ng),(190,jX gJ),(185,jX jZ),(318,jX gD),(168,wi),(248,rh),(7,Aj),(86,AF),(280,AO),(234,zu),(25,zV)]
end Go.Nx
namespace Go.Nx
open Go
def DN:Nat:=1264396883597349643675246583543606874995329338989990994377726580468722157087732268611866276532594635175694692485111176149818882840659960881268650247517123188938902733986016389531581346297874456041218408972288
def Kl:Nat:=379672790082921119712906776979184871370484932343926488934287201486297106635656743823769039183087020596539439697941720564378198352557091156814780262404635417678114841743493490447110386377373464070559817647619787178132897658544937281401615788079390673091296869480678244615547160337842932630871163578025233802442240
class W where
 k:Nat
def sT(k:Nat):List Nat:=
 match k with
 |0=>[]
 |1=>[43,44,45,46,47,57,98,114,190,185,318,168,248,7]
 |2=>[114]
 |3=>[114,248,45]
 |_=>[43,44,45,46,47,57,98,114,190,185,318,168,248,86,280,234,25]
def qj:List Nat:=[52,124,191,195,200]
def zm:List Nat:=[43,44,45,46,47,57,191,124,200,195,98,114,190,185,318,168,248,7,52,86,280,234,25]
def mkC(P:Program)(k:Nat):bu where
 P:=P
 md:=fun f=>cond (f==45||f==114) (cond (k==1||k==4) 1 0) (DN>>>(2*f) % 4)
 kt:=assoc UW
 ri:=bn
 dH:=fun f=>zm.contains f&&(qj.contains f||(sT k).contains f)
 dF:=fun f a H=>match assoc orT f with
  |some h=>h a H
  |none=>none
 kR:=fun f=>ajx f 147&&ajx k 4
 bz:=fun f k=>decide (k<3/\Kl>>>(3*f+k) % 2=1)
abbrev W1:W:=⟨1⟩
abbrev W0:W:=⟨0⟩
abbrev W2:W:=⟨2⟩
abbrev W3:W:=⟨3⟩
abbrev W4:W:=⟨4⟩
noncomputable def tz[w:W]:bu:=mkC amF w.k
end Go.Nx
namespace Go.Nx
open Go Go.Proofs Tryz
def Ce[W]:tz.dH 124=true:=by kernel_rfl
def FP[W]:tz.dH 191=true:=by kernel_rfl
def RD[W]:tz.dH 195=true:=by kernel_rfl
def N6[W]:tz.dH 200=true:=by kernel_rfl
def tzP[W]:tz.P=aaG:=rfl
def tzR[W]:tz.ri=bn:=rfl
section
attribute [local instance] W1
def aeH:tz.dH 44=true:=by kernel_rfl
def adA:tz.md 45=1:=by kernel_rfl
def Uk:tz.dH 45=true:=by kernel_rfl
def Z0:tz.dH 46=true:=by kernel_rfl
def Yw:tz.dH 47=true:=by kernel_rfl
def VO:tz.dH 57=true:=by kernel_rfl
def F2:tz.dH 98=true:=by kernel_rfl
def aa5:tz.md 114=1:=by kernel_rfl
def abY:tz.dH 168=true:=by kernel_rfl
def abD:tz.dH 185=true:=by kernel_rfl
def adD:tz.dH 190=true:=by kernel_rfl
def Px:tz.dH 248=true:=by kernel_rfl
def acS:tz.dH 318=true:=by kernel_rfl
end
def aek:tk aaG 3=some (false,1)/\tk aaG 4=some (false,1)/\tk aaG 5=some (false,1)/\tk aaG 9=some (false,1)/\tk aaG 20=some (false,1)/\tk aaG 22=some (false,1)/\tk aaG 24=some (true,2)/\tk aaG 26=some (true,5)/\tk aaG 27=some (false,1)/\tk aaG 30=some (false,1)/\tk aaG 31=some (false,1)/\tk aaG 34=some (false,1)/\tk aaG 36=some (true,5)/\tk aaG 38=some (true,10)/\tk aaG 39=some (false,1)/\tk aaG 40=some (false,1)/\tk aaG 41=some (false,1)/\tk aaG 43=some (true,5)/\tk aaG 44=some (false,1)/\tk aaG 48=some (false,1):=by and_intros<;>kernel_rfl
def X0:tk aaG 49=some (false,1)/\tk aaG 51=some (true,2)/\tk aaG 53=some (false,1)/\tk aaG 55=some (true,8)/\tk aaG 58=some (false,1)/\tk aaG 59=some (false,1)/\tk aaG 61=some (true,3)/\tk aaG 62=some (false,1)/\tk aaG 64=some (true,5)/\tk aaG 65=some (false,1)/\tk aaG 67=some (true,2)/\tk aaG 68=some (false,1)/\tk aaG 70=some (true,10)/\tk aaG 87=some (false,1)/\tk aaG 89=some (false,1)/\tk aaG 94=some (false,1)/\tk aaG 96=some (true,3)/\tk aaG 98=some (true,5)/\tk aaG 101=some (false,1)/\tk aaG 102=some (false,1):=by and_intros<;>kernel_rfl
def acB:tk aaG 104=some (true,8)/\tk aaG 105=some (false,1)/\tk aaG 112=some (true,2)/\tk aaG 123=some (true,2)/\tk aaG 125=some (false,1)/\tk aaG 127=some (true,4)/\tk aaG 135=some (false,1)/\tk aaG 139=some (false,1)/\tk aaG 146=some (false,1)/\tk aaG 147=some (false,1)/\tk aaG 149=some (true,5)/\tk aaG 154=some (true,3)/\tk aaG 158=some (true,2)/\tk aaG 159=some (false,1)/\tk aaG 166=some (false,1)/\tk aaG 168=some (true,2)/\tk aaG 173=some (false,1)/\tk aaG 177=some (true,13)/\tk aaG 183=some (false,1)/\tk aaG 186=some (false,1):=by and_intros<;>kernel_rfl
def ZW:tk aaG 192=some (false,1)/\tk aaG 214=some (false,1)/\tk aaG 216=some (true,2)/\tk aaG 219=some (false,1)/\tk aaG 221=some (true,2)/\tk aaG 240=some (false,1)/\tk aaG 248=some (false,1)/\tk aaG 250=some (false,1)/\tk aaG 251=some (true,2)/\tk aaG 252=some (false,1)/\tk aaG 253=some (true,2)/\tk aaG 254=some (false,1)/\tk aaG 256=some (true,5)/\tk aaG 258=some (false,1)/\tk aaG 281=some (false,1)/\tk aaG 288=some (false,1)/\tk aaG 290=some (true,2)/\tk aaG 296=some (true,3)/\tk aaG 299=some (false,1)/\tk aaG 301=some (false,1):=by and_intros<;>kernel_rfl
def ag1:tk aaG 313=some (false,1)/\tk aaG 321=some (false,1)/\tk aaG 332=some (false,1)/\tk aaG 345=some (true,11)/\tk aaG 349=some (false,1)/\tk aaG 351=some (false,1)/\tk aaG 371=some (false,1)/\tk aaG 374=some (false,1)/\tk aaG 376=some (false,1)/\tk aaG 377=some (false,1)/\tk aaG 396=some (false,1)/\tk aaG 398=some (true,6)/\tk aaG 401=some (false,1)/\tk aaG 402=some (false,1)/\tk aaG 404=some (true,3)/\tk aaG 408=some (true,2)/\tk aaG 412=some (true,3)/\tk aaG 421=some (false,1)/\tk aaG 425=some (false,1)/\tk aaG 435=some (true,16):=by and_intros<;>kernel_rfl
def YB:tk aaG 450=some (false,1)/\tk aaG 456=some (false,1)/\tk aaG 469=some (false,1):=by and_intros<;>kernel_rfl
def WZ:zc aaG 3=some [I 0]/\zc aaG 4=some [B false]/\zc aaG 5=some [.v (.int .u8 0)]/\zc aaG 9=some [.v (.string ⟨#[]⟩)]/\zc aaG 20=some [.v .nilIface]/\zc aaG 22=some [eW]/\zc aaG 24=some [I 0,eW]/\zc aaG 26=some [I 0,I 0,I 0,I 0,I 0]/\zc aaG 27=some [eW]/\zc aaG 30=some [eW]/\zc aaG 31=some [.v (.pointer none)]/\zc aaG 34=some [I 0]/\zc aaG 36=some [I 0,I 0,I 0,I 0,eW]/\zc aaG 38=some [I 0,I 0,I 0,I 0,I 0,I 0,I 0,I 0,I 0,eW]/\zc aaG 39=some [eW]/\zc aaG 40=some [I 0]/\zc aaG 41=some [I 0]/\zc aaG 43=some [I 0,I 0,I 0,I 0,eW]/\zc aaG 44=some [.v .nilFunc]/\zc aaG 48=some [eW]:=by and_intros<;>kernel_rfl
def Vh:zc aaG 49=some [eW]/\zc aaG 51=some [eW,eW]/\zc aaG 53=some [I 0]/\zc aaG 55=some [I 0,I 0,I 0,B false,B false,B false,B false,B false]/\zc aaG 58=some [I 0]/\zc aaG 59=some [eW]/\zc aaG 61=some [I 0,I 0,eW]/\zc aaG 62=some [I 0]/\zc aaG 64=some [I 0,I 0,eW,I 0,eW]/\zc aaG 65=some [eW]/\zc aaG 67=some [I 0,eW]/\zc aaG 68=some [eW]/\zc aaG 70=some [I 0,I 0,eW,I 0,eW,I 0,eW,eW,eW,eW]/\zc aaG 87=some [eW]/\zc aaG 89=some [eW]/\zc aaG 94=some [I 0]/\zc aaG 96=some [I 0,I 0,I 0]/\zc aaG 98=some [I 0,I 0,I 0,I 0,I 0]/\zc aaG 101=some [.v (.map none)]/\zc aaG 102=some [.v (.map none)]:=by and_intros<;>kernel_rfl
def XD:zc aaG 104=some [I 0,I 0,I 0,I 0,I 0,eW,.v (.map none),.v (.map none)]/\zc aaG 105=some [.v .nilFunc]/\zc aaG 112=some [I 0,I 0]/\zc aaG 123=some [I 0,I 0]/\zc aaG 125=some [I 0]/\zc aaG 127=some [I 0,eW,I 0,I 0]/\zc aaG 135=some [eW]/\zc aaG 139=some [.v .nilIface]/\zc aaG 146=some [I 0]/\zc aaG 147=some [.v (.int .u64 0)]/\zc aaG 149=some [I 0,I 0,.v (.int .u64 0),.v (.int .u64 0),.v (.string ⟨#[]⟩)]/\zc aaG 154=some [I 0,I 0,.v (.string ⟨#[]⟩)]/\zc aaG 158=some [eW,I 0]/\zc aaG 159=some [.v (.pointer none)]/\zc aaG 166=some [eW]/\zc aaG 168=some [eW,eW]/\zc aaG 173=some [.v (.pointer none)]/\zc aaG 177=some [I 0,I 0,eW,I 0,eW,I 0,eW,eW,eW,eW,eW,eW,I 0]/\zc aaG 183=some [.v .nilFunc]/\zc aaG 186=some [.v (.pointer none)]:=by and_intros<;>kernel_rfl
def abZ:zc aaG 192=some [.v .nilFunc]/\zc aaG 214=some [.v (.pointer none)]/\zc aaG 216=some [I 0,I 0]/\zc aaG 219=some [eW]/\zc aaG 221=some [eW,eW]/\zc aaG 240=some [.v .nilFunc]/\zc aaG 248=some [.v (.int .u64 0)]/\zc aaG 250=some [.v (.pointer none)]/\zc aaG 251=some [.v (.pointer none),.v (.pointer none)]/\zc aaG 252=some [eW]/\zc aaG 253=some [eW,eW]/\zc aaG 254=some [.v (.pointer none)]/\zc aaG 256=some [.v (.pointer none),.v (.pointer none),eW,eW,.v (.pointer none)]/\zc aaG 258=some [eW]/\zc aaG 281=some [.v (.pointer none)]/\zc aaG 288=some [.v (.pointer none)]/\zc aaG 290=some [I 0,.v .nilIface]/\zc aaG 296=some [.v (.pointer none),.v (.pointer none),.v (.int .u64 0)]/\zc aaG 299=some [.v .nilIface]/\zc aaG 301=some [.v (.int .u8 0)]:=by and_intros<;>kernel_rfl
def ahd:zc aaG 313=some [.v .nilFunc]/\zc aaG 321=some [.v .nilFunc]/\zc aaG 332=some [.v .nilFunc]/\zc aaG 345=some [I 0,I 0,I 0,I 0,eW,.v (.int .u64 0),I 0,I 0,.v (.int .u64 0),B false,I 0]/\zc aaG 349=some [.v (.int .u32 0)]/\zc aaG 351=some [.v (.pointer none)]/\zc aaG 371=some [.v .nilIface]/\zc aaG 374=some [.v .nilIface]/\zc aaG 376=some [.v .nilIface]/\zc aaG 377=some [eW]/\zc aaG 396=some [.v (.pointer none)]/\zc aaG 398=some [I 0,I 0,eW,I 0,eW,eW]/\zc aaG 401=some [.v .nilFunc]/\zc aaG 402=some [.v (.map none)]/\zc aaG 404=some [I 0,I 0,.v (.map none)]/\zc aaG 408=some [I 0,I 0]/\zc aaG 412=some [eW,I 0,I 0]/\zc aaG 421=some [.v .nilFunc]/\zc aaG 425=some [I 0]/\zc aaG 435=some [.v (.int .u32 0),.v (.int .u32 0),.v (.int .u32 0),.v (.int .u32 0),.v (.int .u32 0),.v (.int .u32 0),.v (.int .u32 0),.v (.int .u32 0),.v (.int .u32 0),.v (.int .u32 0),.v (.int .u32 0),.v (.int .u32 0),.v (.int .u32 0),.v (.int .u32 0),.v (.int .u32 0),.v (.int .u32 0)]:=by and_intros<;>kernel_rfl
def abS:zc aaG 450=some [.v (.int .u64 0)]/\zc aaG 456=some [.v (.pointer none)]/\zc aaG 469=some [eW]:=by and_intros<;>kernel_rfl
def JP:ik aaG 3=some .i64/\ik aaG 5=some .u8/\ik aaG 34=some .i64/\ik aaG 40=some .i64/\ik aaG 41=some .i64/\ik aaG 53=some .i64/\ik aaG 58=some .i64/\ik aaG 62=some .i64/\ik aaG 94=some .i64/\ik aaG 125=some .i64/\ik aaG 146=some .i64/\ik aaG 147=some .u64/\ik aaG 248=some .u64/\ik aaG 301=some .u8/\ik aaG 349=some .u32/\ik aaG 425=some .i64/\ik aaG 450=some .u64:=by and_intros<;>kernel_rfl
def p9:se aaG 22=some (112,2,16,[I 0,I 0])/\se aaG 27=some (38,10,96,[I 0,I 0,I 0,I 0,I 0,I 0,I 0,I 0,I 0,eW])/\se aaG 30=some (3,1,8,[I 0])/\se aaG 39=some (43,5,56,[I 0,I 0,I 0,I 0,eW])/\se aaG 48=some (70,10,176,[I 0,I 0,eW,I 0,eW,I 0,eW,eW,eW,eW])/\se aaG 49=some (98,5,40,[I 0,I 0,I 0,I 0,I 0])/\se aaG 59=some (55,8,32,[I 0,I 0,I 0,B false,B false,B false,B false,B false])/\se aaG 65=some (127,4,48,[I 0,eW,I 0,I 0])/\se aaG 68=some (123,2,16,[I 0,I 0])/\se aaG 87=some (154,3,32,[I 0,I 0,.v (.string ⟨#[]⟩)])/\se aaG 89=some (96,3,24,[I 0,I 0,I 0])/\se aaG 135=some (5,1,1,[.v (.int .u8 0)])/\se aaG 166=some (64,5,72,[I 0,I 0,eW,I 0,eW])/\se aaG 219=some (61,3,40,[I 0,I 0,eW])/\se aaG 252=some (9,1,16,[.v (.string ⟨#[]⟩)])/\se aaG 258=some (149,5,48,[I 0,I 0,.v (.int .u64 0),.v (.int .u64 0),.v (.string ⟨#[]⟩)])/\se aaG 377=some (139,1,16,[.v .nilIface])/\se aaG 469=some (30,1,24,[eW]):=by and_intros<;>kernel_rfl
def abk:cm aaG 24=some ([I 0,eW],[(0,1),(1,1)])/\cm aaG 26=some ([I 0,I 0,I 0,I 0,I 0],[(0,1),(1,1),(2,1),(3,1),(4,1)])/\cm aaG 36=some ([I 0,I 0,I 0,I 0,eW],[(0,1),(1,1),(2,1),(3,1),(4,1)])/\cm aaG 38=some ([I 0,I 0,I 0,I 0,I 0,I 0,I 0,I 0,I 0,eW],[(0,1),(1,1),(2,1),(3,1),(4,1),(5,5)])/\cm aaG 43=some ([I 0,I 0,I 0,I 0,eW],[(0,1),(1,1),(2,1),(3,1),(4,1)])/\cm aaG 51=some ([eW,eW],[(0,1),(1,1)])/\cm aaG 55=some ([I 0,I 0,I 0,B false,B false,B false,B false,B false],[(0,1),(1,1),(2,1),(3,1),(4,1),(5,1),(6,1),(7,1)])/\cm aaG 61=some ([I 0,I 0,eW],[(0,1),(1,1),(2,1)])/\cm aaG 64=some ([I 0,I 0,eW,I 0,eW],[(0,3),(3,1),(4,1)])/\cm aaG 67=some ([I 0,eW],[(0,1),(1,1)])/\cm aaG 70=some ([I 0,I 0,eW,I 0,eW,I 0,eW,eW,eW,eW],[(0,5),(5,2),(7,1),(8,1),(9,1)])/\cm aaG 96=some ([I 0,I 0,I 0],[(0,1),(1,1),(2,1)])/\cm aaG 98=some ([I 0,I 0,I 0,I 0,I 0],[(0,1),(1,1),(2,3)])/\cm aaG 104=some ([I 0,I 0,I 0,I 0,I 0,eW,.v (.map none),.v (.map none)],[(0,5),(5,1),(6,1),(7,1)])/\cm aaG 112=some ([I 0,I 0],[(0,1),(1,1)])/\cm aaG 123=some ([I 0,I 0],[(0,1),(1,1)])/\cm aaG 127=some ([I 0,eW,I 0,I 0],[(0,1),(1,1),(2,1),(3,1)])/\cm aaG 149=some ([I 0,I 0,.v (.int .u64 0),.v (.int .u64 0),.v (.string ⟨#[]⟩)],[(0,1),(1,1),(2,1),(3,1),(4,1)])/\cm aaG 154=some ([I 0,I 0,.v (.string ⟨#[]⟩)],[(0,1),(1,1),(2,1)])/\cm aaG 158=some ([eW,I 0],[(0,1),(1,1)]):=by and_intros<;>kernel_rfl
def ahc:cm aaG 168=some ([eW,eW],[(0,1),(1,1)])/\cm aaG 177=some ([I 0,I 0,eW,I 0,eW,I 0,eW,eW,eW,eW,eW,eW,I 0],[(0,10),(10,1),(11,1),(12,1)])/\cm aaG 216=some ([I 0,I 0],[(0,1),(1,1)])/\cm aaG 221=some ([eW,eW],[(0,1),(1,1)])/\cm aaG 251=some ([.v (.pointer none),.v (.pointer none)],[(0,1),(1,1)])/\cm aaG 253=some ([eW,eW],[(0,1),(1,1)])/\cm aaG 256=some ([.v (.pointer none),.v (.pointer none),eW,eW,.v (.pointer none)],[(0,2),(2,2),(4,1)])/\cm aaG 290=some ([I 0,.v .nilIface],[(0,1),(1,1)])/\cm aaG 296=some ([.v (.pointer none),.v (.pointer none),.v (.int .u64 0)],[(0,1),(1,1),(2,1)])/\cm aaG 345=some ([I 0,I 0,I 0,I 0,eW,.v (.int .u64 0),I 0,I 0,.v (.int .u64 0),B false,I 0],[(0,1),(1,1),(2,1),(3,1),(4,1),(5,1),(6,1),(7,1),(8,1),(9,1),(10,1)])/\cm aaG 398=some ([I 0,I 0,eW,I 0,eW,eW],[(0,5),(5,1)])/\cm aaG 404=some ([I 0,I 0,.v (.map none)],[(0,1),(1,1),(2,1)])/\cm aaG 408=some ([I 0,I 0],[(0,1),(1,1)])/\cm aaG 412=some ([eW,I 0,I 0],[(0,1),(1,1),(2,1)])/\cm aaG 435=some ([.v (.int .u32 0),.v (.int .u32 0),.v (.int .u32 0),.v (.int .u32 0),.v (.int .u32 0),.v (.int .u32 0),.v (.int .u32 0),.v (.int .u32 0),.v (.int .u32 0),.v (.int .u32 0),.v (.int .u32 0),.v (.int .u32 0),.v (.int .u32 0),.v (.int .u32 0),.v (.int .u32 0),.v (.int .u32 0)],[(0,1),(1,1),(2,1),(3,1),(4,1),(5,1),(6,1),(7,1),(8,1),(9,1),(10,1),(11,1),(12,1),(13,1),(14,1),(15,1)]):=by and_intros<;>kernel_rfl
def agD:fo aaG 24 0=some (0,1,false)/\fo aaG 24 1=some (1,1,false)/\fo aaG 26 0=some (0,1,false)/\fo aaG 26 1=some (1,1,false)/\fo aaG 26 2=some (2,1,false)/\fo aaG 26 3=some (3,1,false)/\fo aaG 26 4=some (4,1,false)/\fo aaG 36 0=some (0,1,false)/\fo aaG 36 1=some (1,1,false)/\fo aaG 36 2=some (2,1,false)/\fo aaG 36 3=some (3,1,false)/\fo aaG 36 4=some (4,1,false)/\fo aaG 38 0=some (0,1,false)/\fo aaG 38 1=some (1,1,false)/\fo aaG 38 2=some (2,1,false)/\fo aaG 38 3=some (3,1,false)/\fo aaG 38 4=some (4,1,false)/\fo aaG 38 5=some (5,5,true)/\fo aaG 43 0=some (0,1,false)/\fo aaG 43 1=some (1,1,false):=by and_intros<;>kernel_rfl
def acf:fo aaG 43 2=some (2,1,false)/\fo aaG 43 3=some (3,1,false)/\fo aaG 43 4=some (4,1,false)/\fo aaG 51 0=some (0,1,false)/\fo aaG 51 1=some (1,1,false)/\fo aaG 55 0=some (0,1,false)/\fo aaG 55 1=some (1,1,false)/\fo aaG 55 2=some (2,1,false)/\fo aaG 55 3=some (3,1,false)/\fo aaG 55 4=some (4,1,false)/\fo aaG 55 5=some (5,1,false)/\fo aaG 55 6=some (6,1,false)/\fo aaG 55 7=some (7,1,false)/\fo aaG 61 0=some (0,1,false)/\fo aaG 61 1=some (1,1,false)/\fo aaG 61 2=some (2,1,false)/\fo aaG 64 0=some (0,3,true)/\fo aaG 64 1=some (3,1,false)/\fo aaG 64 2=some (4,1,false)/\fo aaG 67 0=some (0,1,false):=by and_intros<;>kernel_rfl
def ac0:fo aaG 67 1=some (1,1,false)/\fo aaG 70 0=some (0,5,true)/\fo aaG 70 1=some (5,2,true)/\fo aaG 70 2=some (7,1,false)/\fo aaG 70 3=some (8,1,false)/\fo aaG 70 4=some (9,1,false)/\fo aaG 96 0=some (0,1,false)/\fo aaG 96 1=some (1,1,false)/\fo aaG 96 2=some (2,1,false)/\fo aaG 98 0=some (0,1,false)/\fo aaG 98 1=some (1,1,false)/\fo aaG 98 2=some (2,3,true)/\fo aaG 104 0=some (0,5,true)/\fo aaG 104 1=some (5,1,false)/\fo aaG 104 2=some (6,1,false)/\fo aaG 104 3=some (7,1,false)/\fo aaG 112 0=some (0,1,false)/\fo aaG 112 1=some (1,1,false)/\fo aaG 123 0=some (0,1,false)/\fo aaG 123 1=some (1,1,false):=by and_intros<;>kernel_rfl
def Xv:fo aaG 127 0=some (0,1,false)/\fo aaG 127 1=some (1,1,false)/\fo aaG 127 2=some (2,1,false)/\fo aaG 127 3=some (3,1,false)/\fo aaG 149 0=some (0,1,false)/\fo aaG 149 1=some (1,1,false)/\fo aaG 149 2=some (2,1,false)/\fo aaG 149 3=some (3,1,false)/\fo aaG 149 4=some (4,1,false)/\fo aaG 154 0=some (0,1,false)/\fo aaG 154 1=some (1,1,false)/\fo aaG 154 2=some (2,1,false)/\fo aaG 158 0=some (0,1,false)/\fo aaG 158 1=some (1,1,false)/\fo aaG 168 0=some (0,1,false)/\fo aaG 168 1=some (1,1,false)/\fo aaG 177 0=some (0,10,true)/\fo aaG 177 1=some (10,1,false)/\fo aaG 177 2=some (11,1,false)/\fo aaG 177 3=some (12,1,false):=by and_intros<;>kernel_rfl
def aej:fo aaG 216 0=some (0,1,false)/\fo aaG 216 1=some (1,1,false)/\fo aaG 221 0=some (0,1,false)/\fo aaG 221 1=some (1,1,false)/\fo aaG 256 0=some (0,2,true)/\fo aaG 256 1=some (2,2,true)/\fo aaG 256 2=some (4,1,false)/\fo aaG 290 0=some (0,1,false)/\fo aaG 290 1=some (1,1,false)/\fo aaG 296 0=some (0,1,false)/\fo aaG 296 1=some (1,1,false)/\fo aaG 296 2=some (2,1,false)/\fo aaG 345 0=some (0,1,false)/\fo aaG 345 1=some (1,1,false)/\fo aaG 345 2=some (2,1,false)/\fo aaG 345 3=some (3,1,false)/\fo aaG 345 4=some (4,1,false)/\fo aaG 345 5=some (5,1,false)/\fo aaG 345 6=some (6,1,false)/\fo aaG 345 7=some (7,1,false):=by and_intros<;>kernel_rfl
def aaz:fo aaG 345 8=some (8,1,false)/\fo aaG 345 9=some (9,1,false)/\fo aaG 345 10=some (10,1,false)/\fo aaG 398 0=some (0,5,true)/\fo aaG 398 1=some (5,1,false)/\fo aaG 404 0=some (0,1,false)/\fo aaG 404 1=some (1,1,false)/\fo aaG 404 2=some (2,1,false)/\fo aaG 408 0=some (0,1,false)/\fo aaG 408 1=some (1,1,false)/\fo aaG 412 0=some (0,1,false)/\fo aaG 412 1=some (1,1,false)/\fo aaG 412 2=some (2,1,false):=by and_intros<;>kernel_rfl
def agu:eqs aaG 26=some [.int,.int,.int,.int,.int]/\eqs aaG 55=some [.int,.int,.int,.bool,.bool,.bool,.bool,.bool]/\eqs aaG 96=some [.int,.int,.int]/\eqs aaG 98=some [.int,.int,.int,.int,.int]/\eqs aaG 112=some [.int,.int]/\eqs aaG 123=some [.int,.int]/\eqs aaG 149=some [.int,.int,.int,.int,.str]/\eqs aaG 154=some [.int,.int,.str]/\eqs aaG 216=some [.int,.int]/\eqs aaG 408=some [.int,.int]:=by and_intros<;>kernel_rfl
def UM:ar aaG 251=some (2,1,false)/\ar aaG 253=some (2,1,false)/\ar aaG 435=some (16,1,false):=by and_intros<;>kernel_rfl
def aac[W]:tz.kt 3=some Kp/\tz.kt 8=some HX/\tz.kt 9=some HG/\tz.kt 10=some Bc/\tz.kt 16=some Gg/\tz.kt 17=some aoH/\tz.kt 18=some E0:=by and_intros<;>kernel_rfl
def Va[W]:tz.kt 26=some BX/\tz.kt 27=some FW/\tz.kt 28=some Hj/\tz.kt 29=some HZ/\tz.kt 30=some AS/\tz.kt 31=some BH/\tz.kt 32=some FB/\tz.kt 33=some CU/\tz.kt 34=some C3/\tz.kt 35=some DS/\tz.kt 36=some EE/\tz.kt 37=some Bl/\tz.kt 40=some Gh/\tz.kt 41=some D9/\tz.kt 42=some J5/\tz.kt 43=some Bz:=by and_intros<;>kernel_rfl
def aeb[W]:tz.kt 44=some I6/\tz.kt 45=some JC/\tz.kt 46=some Gl/\tz.kt 47=some DZ/\tz.kt 53=some IP/\tz.kt 54=some By/\tz.kt 55=some B4/\tz.kt 56=some KD/\tz.kt 57=some Ij/\tz.kt 58=some Fj/\tz.kt 59=some Cf/\tz.kt 60=some BU/\tz.kt 61=some Dl/\tz.kt 62=some Df/\tz.kt 63=some Ed/\tz.kt 64=some CI/\tz.kt 65=some HJ/\tz.kt 66=some IN/\tz.kt 67=some Du/\tz.kt 68=some JI:=by and_intros<;>kernel_rfl
def TM[W]:tz.kt 69=some IU/\tz.kt 70=some FI/\tz.kt 71=some CB/\tz.kt 72=some KC/\tz.kt 73=some aoJ/\tz.kt 74=some Ek/\tz.kt 75=some BY/\tz.kt 76=some Ea/\tz.kt 77=some Jm/\tz.kt 78=some I2/\tz.kt 79=some JZ/\tz.kt 80=some Ke/\tz.kt 81=some Jd/\tz.kt 82=some Bf/\tz.kt 83=some Km/\tz.kt 84=some HL/\tz.kt 85=some C7/\tz.kt 96=some HD/\tz.kt 97=some Cr:=by and_intros<;>kernel_rfl
def ab5[W]:tz.kt 99=some HQ/\tz.kt 100=some EC/\tz.kt 101=some Ff/\tz.kt 102=some EJ/\tz.kt 103=some If/\tz.kt 104=some Kt/\tz.kt 105=some Kb/\tz.kt 106=some FG/\tz.kt 107=some JV/\tz.kt 108=some Dz/\tz.kt 109=some Fc/\tz.kt 110=some CW/\tz.kt 111=some JG/\tz.kt 112=some Ja/\tz.kt 113=some Dv/\tz.kt 114=some aoC/\tz.kt 115=some CJ/\tz.kt 116=some AY/\tz.kt 117=some FN/\tz.kt 118=some aok:=by and_intros<;>kernel_rfl
def WK[W]:tz.kt 119=some Gy/\tz.kt 120=some Ka/\tz.kt 121=some J1/\tz.kt 122=some GC/\tz.kt 123=some B8/\tz.kt 124=some Es/\tz.kt 125=some JK/\tz.kt 126=some Bn/\tz.kt 127=some Ez/\tz.kt 128=some DM/\tz.kt 129=some BK/\tz.kt 130=some Gj/\tz.kt 131=some CV/\tz.kt 132=some IX/\tz.kt 133=some Ej/\tz.kt 134=some Ir/\tz.kt 135=some GX/\tz.kt 136=some Hx/\tz.kt 137=some Ik/\tz.kt 138=some GS:=by and_intros<;>kernel_rfl
def XX[W]:tz.kt 139=some D4/\tz.kt 140=some CF/\tz.kt 141=some Kz/\tz.kt 142=some Cm/\tz.kt 152=some B9/\tz.kt 157=some DI/\tz.kt 158=some E2/\tz.kt 159=some GQ/\tz.kt 160=some I1/\tz.kt 165=some A0/\tz.kt 166=some FU/\tz.kt 167=some Cv/\tz.kt 168=some Dd/\tz.kt 169=some Co/\tz.kt 170=some FR/\tz.kt 171=some J7:=by and_intros<;>kernel_rfl
def abi[W]:tz.kt 172=some J2/\tz.kt 173=some Gw/\tz.kt 174=some aoj/\tz.kt 175=some DK/\tz.kt 176=some EK/\tz.kt 177=some II/\tz.kt 178=some GG/\tz.kt 179=some Fz/\tz.kt 180=some B1/\tz.kt 181=some EO/\tz.kt 182=some Dx/\tz.kt 183=some Hh/\tz.kt 184=some E1/\tz.kt 185=some F9/\tz.kt 186=some BG/\tz.kt 187=some D3/\tz.kt 188=some EL/\tz.kt 189=some Hv/\tz.kt 190=some Fw:=by and_intros<;>kernel_rfl
def abl[W]:tz.kt 192=some Kc/\tz.kt 193=some BA/\tz.kt 194=some JH/\tz.kt 195=some FJ/\tz.kt 198=some JX/\tz.kt 199=some GM/\tz.kt 200=some Dm/\tz.kt 201=some EP/\tz.kt 202=some aoF/\tz.kt 203=some GY/\tz.kt 204=some Ep/\tz.kt 205=some IB/\tz.kt 206=some Cj/\tz.kt 207=some DO/\tz.kt 208=some Ky/\tz.kt 209=some Dw/\tz.kt 210=some DG/\tz.kt 211=some EA:=by and_intros<;>kernel_rfl
def Xr[W]:tz.kt 212=some Ex/\tz.kt 213=some Gs/\tz.kt 214=some Ki/\tz.kt 215=some B6/\tz.kt 216=some DC/\tz.kt 217=some GW/\tz.kt 218=some Kd/\tz.kt 219=some AU/\tz.kt 220=some A7/\tz.kt 221=some Cp/\tz.kt 222=some IJ/\tz.kt 223=some E8/\tz.kt 224=some Gk/\tz.kt 225=some E6/\tz.kt 226=some C5/\tz.kt 227=some Jh/\tz.kt 228=some IV/\tz.kt 235=some Jo/\tz.kt 239=some IA:=by and_intros<;>kernel_rfl
def af9[W]:tz.kt 243=some C4/\tz.kt 244=some Jq/\tz.kt 245=some Cb/\tz.kt 246=some FH/\tz.kt 247=some D8/\tz.kt 248=some El/\tz.kt 249=some Bp/\tz.kt 250=some FQ/\tz.kt 251=some Ci/\tz.kt 252=some Gm/\tz.kt 253=some Cw/\tz.kt 254=some HT/\tz.kt 255=some JW/\tz.kt 256=some IR/\tz.kt 257=some Dh/\tz.kt 260=some Cg:=by and_intros<;>kernel_rfl
def Tp[W]:tz.kt 261=some Ck/\tz.kt 262=some Ih/\tz.kt 266=some BZ/\tz.kt 267=some KE/\tz.kt 268=some Bb/\tz.kt 269=some FF/\tz.kt 270=some EG/\tz.kt 271=some Ia/\tz.kt 272=some B5/\tz.kt 273=some AZ/\tz.kt 274=some EX/\tz.kt 275=some E4/\tz.kt 276=some Da/\tz.kt 277=some Hs/\tz.kt 278=some HY/\tz.kt 279=some Bm/\tz.kt 291=some CD:=by and_intros<;>kernel_rfl
def ac2[W]:tz.kt 292=some Hk/\tz.kt 293=some GN/\tz.kt 294=some Ip/\tz.kt 295=some JA/\tz.kt 296=some ET/\tz.kt 297=some Fk/\tz.kt 298=some Jn/\tz.kt 299=some Iy/\tz.kt 300=some Dg:=by and_intros<;>kernel_rfl
def T6[W]:tz.kt 312=some CY/\tz.kt 315=some B3/\tz.kt 316=some CT/\tz.kt 317=some Ji/\tz.kt 318=some HV/\tz.kt 319=some J0/\tz.kt 320=some Be/\tz.kt 321=some GR/\tz.kt 332=some CM/\tz.kt 333=some GD/\tz.kt 334=some C6/\tz.kt 340=some Fq:=by and_intros<;>kernel_rfl
def TU[W]:tz.kt 342=some Ii/\tz.kt 343=some Jk/\tz.kt 344=some CN/\tz.kt 345=some I7/\tz.kt 355=some IM:=by and_intros<;>kernel_rfl
def aeY:bn 9 1=D1/\bn 10 4=j9/\bn 10 7=j9/\bn 10 9=j9/\bn 17 1=IE/\bn 18 3=Ic/\bn 26 7=j9:=by and_intros<;>kernel_rfl
def afg:bn 30 3=A5/\bn 35 1=HR/\bn 36 4=j9/\bn 36 7=j9/\bn 37 1=j9/\bn 37 7=j9/\bn 54 4=FK/\bn 55 4=j9/\bn 58 2=j9/\bn 58 3=j9/\bn 58 4=j9/\bn 60 1=IT/\bn 67 1=Jx/\bn 67 2=Bg/\bn 67 7=D0/\bn 71 3=C8/\bn 71 4=BD/\bn 71 6=Jr/\bn 71 8=j9/\bn 71 13=j9:=by and_intros<;>kernel_rfl
def afH:bn 71 18=Er/\bn 73 1=j9/\bn 73 2=j9/\bn 75 0=Fy/\bn 76 2=Iu/\bn 76 5=j9/\bn 76 6=Fp/\bn 78 2=j9/\bn 78 3=aop/\bn 78 5=j9/\bn 78 6=j9/\bn 84 9=j9/\bn 84 11=Db/\bn 85 8=I3/\bn 97 13=Bd/\bn 108 6=Dn/\bn 117 0=j9/\bn 121 8=j9/\bn 124 11=j9/\bn 124 15=j9:=by and_intros<;>kernel_rfl
def acO:bn 126 0=j9/\bn 127 7=BB/\bn 129 5=HE/\bn 129 11=B2/\bn 129 13=Gq/\bn 131 5=Cx/\bn 135 3=j9/\bn 136 3=j9/\bn 136 4=j9/\bn 136 6=j9/\bn 137 5=JQ/\bn 137 6=Js/\bn 137 7=I8/\bn 140 1=j9/\bn 140 3=j9/\bn 140 9=j9/\bn 141 3=j9/\bn 141 5=j9/\bn 142 1=Eb/\bn 142 11=j9:=by and_intros<;>kernel_rfl
def ZH:bn 142 15=Bh/\bn 142 16=Hn/\bn 142 18=HB/\bn 142 19=j9/\bn 142 20=BJ/\bn 142 23=Eh/\bn 142 26=Jj/\bn 159 2=EY/\bn 165 2=j9/\bn 167 6=j9/\bn 169 14=j9/\bn 174 4=j9/\bn 176 2=HN/\bn 180 2=A8/\bn 182 1=Ib/\bn 183 6=j9/\bn 188 1=Hp/\bn 189 5=Fg/\bn 192 6=j9/\bn 192 11=j9:=by and_intros<;>kernel_rfl
def aaW:bn 193 7=HP/\bn 195 5=j9/\bn 200 11=j9/\bn 200 15=j9/\bn 206 1=j9/\bn 208 7=j9/\bn 208 8=aov/\bn 209 8=Jw/\bn 210 3=j9/\bn 210 5=j9/\bn 211 3=j9/\bn 211 4=j9/\bn 214 6=j9/\bn 217 0=j9/\bn 221 4=j9/\bn 221 5=HO/\bn 221 6=j9/\bn 222 3=IF/\bn 223 7=BI/\bn 225 1=j9:=by and_intros<;>kernel_rfl
def Wo:bn 226 1=AP/\bn 239 4=Em/\bn 243 5=BM/\bn 245 7=j9/\bn 262 1=Gv/\bn 266 1=j9/\bn 275 1=j9/\bn 276 1=j9/\bn 293 1=Ew/\bn 296 1=j9/\bn 298 1=j9:=by and_intros<;>kernel_rfl
def XF:bn 316 13=Hi/\bn 316 27=CS/\bn 317 5=j9:=by and_intros<;>kernel_rfl
def VL:bn 319 6=j9/\bn 342 0=j9/\bn 343 1=j9:=by and_intros<;>kernel_rfl
def YA[W](f:Nat)(h:(f==45||f==114)=false):tz.md f=DN>>>(2*f) % 4:=by change cond (f==45||f==114) _ _=_;rw[h];rfl
def acZ[W](f k:Nat):tz.bz f k=decide (k<3/\Kl>>>(3*f+k) % 2=1):=rfl
def orM:Nat:=533996758982170189491433496068876145770039848070095095399691339535521584536653886847313059512448
def isF[W]{f:Nat}(h:orM>>>f % 2=0):tz.dH f=false:=by
 change (zm.contains f&&_)=false;cases hc:zm.contains f with
 |false=>rfl
 |true=>simp only[zm,List.contains_eq_mem,aeM,aiV,or_false,decide_eq_true_eq]at hc;rcases hc with rfl|rfl|rfl|rfl|rfl|rfl|rfl|rfl|rfl|rfl|rfl|rfl|rfl|rfl|rfl|rfl|rfl|rfl|rfl|rfl|rfl|rfl|rfl<;>cases h
attribute [simp] j9 aek X0 acB ZW ag1 YB WZ Vh XD abZ ahd abS JP p9 abk ahc agD acf ac0 Xv aej aaz agu UM aac Va aeb TM ab5 WK XX abi abl Xr af9 Tp ac2 T6 TU aeY afg afH acO ZH aaW Wo XF VL Kp HX HG Bc Gg aoH E0 BX FW Hj HZ AS BH FB CU C3 DS EE Bl Gh D9 J5 Bz I6 JC Gl DZ IP By B4 KD Ij Fj Cf BU Dl Df Ed CI HJ IN Du JI IU FI CB KC aoJ Ek BY Ea Jm I2 JZ Ke Jd Bf Km HL C7 HD Cr HQ EC Ff EJ If Kt Kb FG JV Dz Fc CW JG Ja Dv aoC CJ AY FN aok Gy Ka J1 GC B8 Es JK Bn Ez DM BK Gj CV IX Ej Ir GX Hx Ik GS D4 CF Kz Cm B9 DI E2 GQ I1 A0 FU Cv Dd Co FR J7 J2 Gw aoj DK EK II GG Fz B1 EO Dx Hh E1 F9 BG D3 EL Hv Fw Kc BA JH FJ JX GM Dm EP aoF GY Ep IB Cj DO Ky Dw DG EA Ex Gs Ki B6 DC GW Kd AU A7 Cp IJ E8 Gk E6 C5 Jh IV Jo IA C4 Jq Cb FH D8 El Bp FQ Ci Gm Cw HT JW IR Dh Cg Ck Ih BZ KE Bb FF EG Ia B5 AZ EX E4 Da Hs HY Bm CD Hk GN Ip JA ET Fk Jn Iy Dg CY B3 CT Ji HV J0 Be GR CM GD C6 Fq Ii Jk CN I7 IM Dn BB B2 Gq HE Cx JQ Js I8 Eb Bh Hn HB BJ Eh Jj EY HN IE A8 Ib Hp Fg Ic HP aov Jw HO IF BI AP Em BM Gv Ew A5 Hi CS HR FK IT Jx Bg D0 Er C8 BD Jr Fy Iu Fp aop Db I3 Bd D1 Ce FP RD N6 adA F2 aa5 abY Px acZ isF YA DN Kl orM
end Go.Nx
namespace Go.Nx
open Go Go.Proofs Tryz
variable{fn:Func}{n:Nat}{H G0:List Ob}{rc:ji}{Q:Exit->St->Prop}{e e0:Env}{β α:Type}{r:aw}{ce:cV}
section
variable{C:bu}{f:FuncId}{c:Code}{ks:List Nat}
def ahP(S:St)(k):sq (some (.normal,S)) k=k S:=rfl
def aic(S:St)(k):sq (some (.ret,S)) k=some (.ret,S):=rfl
def ahH(i)(S:St)(k):sq (some (.exit i,S)) k=some (.exit i,S):=rfl
theorem ahO(c:Prop)[Decidable c](a b:Option (Exit×St))(k):sq (if c then a else b) k=if c then sq a k else sq b k:=by grind
def ahR(i)(S:St):bl i (some (.normal,S))=some (.normal,S):=rfl
def ahz(i)(S:St):bl i (some (.ret,S))=some (.ret,S):=rfl
def ah2(i j)(S:St):bl i (some (.exit j,S))=if j=i then some (.normal,S)else some (.exit j,S):=rfl
theorem ah8(i)(c:Prop)[Decidable c](a b):bl i (if c then a else b)=if c then bl i a else bl i b:=by grind
def FY(k)(S:St)(ok)(e H):ox k S ok (some (e,H))=if ok e=true then some (.normal,⟨pI k e S.env,H,S.bG⟩)else none:=rfl
theorem ah1(k)(S:St)(ok)(c:Prop)[Decidable c](a b):ox k S ok (if c then a else b)=if c then ox k S ok a else ox k S ok b:=by grind
end
def nV(C:bu)(f:FuncId)(fn:Func)(n:Nat):Option Code:=cond (!C.dH f&&(ak6 n fn.ntmps&&ak6 n (fn.params.size+fn.nfree))) fn.body none
def Qe{C:bu}{f:FuncId}{c:Code}(h:nV C f fn n=some c):C.dH f=false/\fn.body=some c/\n<=fn.ntmps/\n<=fn.params.size+fn.nfree:=by unfold nV at h;cases a:C.dH f<;>cases b:ak6 n fn.ntmps<;>cases d:ak6 n (fn.params.size+fn.nfree)<;>simp[a,b,d]at h|-;simp_all
def aoy{C:bu}{f:FuncId}{c:Code}{args:List aw}{r}(d:C.P.funcs[f]?=some fn)(a:nV C f fn args.length=some c)
  (h:(match ev C f c ⟨fP 0 args,H,[]⟩with
    |some (.normal,S)|some (.ret,S)=>match iX C (ev C) S.bG S.heap with
     |some b=>(gY C.P S.env b fn.results.toList).map (·,b)
     |none=>none
    |_=>none)=r):bB C (ev C) f args H=r:=by
 have⟨e,a,g⟩:=Qe a
 unfold bB
 rw[e,d]
 simp only[aes,if_false,a]
 rw[if_pos g]
 exact h
def af8{f c ks k S a}(h:rc f c S=some (.normal,a)):am8 rc f c ks k S=k ⟨eI ks a.env,a.heap,a.bG⟩:=by unfold am8;rw[h]
theorem aeI{f c ks k S a b}(h:rc f c S=some (a,b))(d:a≠ .normal):am8 rc f c ks k S=some (a,b):=by grind [am8]
theorem jg{α:Type}(g:α->List ab)(h:∀x,cy (g x)=true):∀l:List α,bA (l.map g)=true
 |[]=>rfl
 |a::l=>by simp[bA,h a,jg g h l]
theorem bi(l:List Int):bA (l.map aC)=true:=jg _ (fun _=>rfl) l
def qy{v z:Nat}{rows:List (List ab)}(h:bA rows=true):dX n (.live v z rows)= .live v z rows:=by show Ob.live v z _=_;rw[CC h]
def aho{v z:Nat}:dX n (.live v z [])= .live v z []:=rfl
theorem vz{α:Type}(g:α->List ab)(b:List Nat)(h:∀x,(!b.contains (g x).length&&cW b (g x))=true):∀l:List α,gZ b (l.map g)=true
 |[]=>rfl
 |a::l=>by simp[gZ,vz g b h l];grind
theorem cv{k:Nat}(h:k<9223372036854775807):adW.wrap ((k:Int)+1)=((k+1:Nat):Int):=by grind [(wrap_i64)]
theorem fw{n:Int}(a: -9000000000000000000<=n)(b:n<=9000000000000000000):adW.wrap n=n:=wrap_i64 (by omega) (by omega)
def Ends(r:Option (Exit×St))(Q:Exit->St->Prop):Prop:=
 match r with
 |some (a,S)=>Q a S
 |none=>False
def SR:da eW= .aj []:=rfl
def ZR(k:IntKind)(a:Int):da (.v (.int k a))= .v (.int k a):=rfl
def aik(a:Bool):da (.v (.bool a))= .v (.bool a):=rfl
def Zt(r:List (List ab)):da (.aj r)= .aj r:=rfl
def ah4(r:List (List ab)):da (.eU r)= .eU r:=rfl
def ahw(a b c d:Nat):da (.sl a b c d)= .sl a b c d:=rfl
def ahA(a b c d:Nat):da (.ptr a b c d)= .ptr a b c d:=rfl
def ahV(r:List (List ab))(a b:Nat):da (.aJ r a b)= .aJ r a b:=rfl
def ahW(f:FuncId)(l:List ab):da (.bF f l)= .bF f l:=rfl
def Ends.some{a S}:Ends (some (a,S)) Q=Q a S:=rfl
theorem Ends.mono{r}{a:Exit->St->Prop}(h:Ends r Q)(c:∀b S,Q b S->a b S):Ends r a:=by unfold Ends at*;grind
def Ends.sq{r}{k:St->Option (Exit×St)}{Q:Exit->St->Prop}(h:Ends r fun ex S=>match ex with| .normal=>Ends (k S) Q|ex=>Q ex S):Ends (sq r k) Q:=by
 unfold Ends at h;split at h
 .rename_i ex S;cases ex<;>first|exact h|(simp only[Go.Nx.sq];exact h)
 .exact h.elim
def Ends.bl{i:Nat}{r}{Q:Exit->St->Prop}(h:Ends r fun ex S=>match ex with| .exit j=>if j=i then Q .normal S else Q (.exit j) S|ex=>Q ex S):Ends (bl i r) Q:=by
 unfold Ends at h;split at h
 .rename_i ex S;cases ex with
  |exit j=>
   simp only[Go.Nx.bl];simp only at h;split
   .rename_i a;rw[if_pos a]at h;exact h
   .rename_i a;rw[if_neg a]at h;exact h
  |_=>exact h
 .exact h.elim
def Has(e:Env):Env->Prop
 |[]=>True
 |p::l=>e.get p.1=some p.2/\Has e l
def P7{e:Env}:∀ {l:Env},Has e l↔ ∀p∈l,e.get p.1=some p.2
 |[]=>by simp[Has]
 |p::l=>by simp[Has,P7 (l:=l)]
def ahm(e:Env):Has e []=True:=rfl
def ahQ(e:Env)(t:Nat)(x:aw)(l:Env):Has e ((t,x)::l)=(e.get t=some x/\Has e l):=rfl
theorem KF:∀(e:Env) (a:List Nat) (t:Nat),t∈vr e a↔t∈a\/e.get t≠none
 |[],a,t=>by simp[vr,Env.get]
 |(s,x)::r,a,t=>by
  unfold vr
  split
  .rename_i h
   rw[KF r a t]
   grind [Env.get]
  .rename_i h
   rw[KF r (a++[s]) t]
   grind [Env.get]
def agm{ks:List Nat}{t:Nat}{x:aw}(a:t∈ks)(h:e.get t=some x):(eI ks e).get t=some x:=J4 ks e t x a h
theorem Has.pick{b l a:Env}(h:Has e l)(c:Has b a)(d:a.map (·.1)=l.map (·.1)):Has (eI (iJ e) b) a:=by
 rw[P7]at h c|-;intro p hp;refine agm ?_ (c p hp);have:p.1∈l.map (·.1):=by rw[<-d];exact aks hp
 have⟨q,f,g⟩:=aiK.1 this;refine(KF e [] p.1).2 (.inr ?_);grind
section
variable{C:bu}{f:FuncId}{c:Code}
def gM(d:β->Env)(i:β->List Ob->Prop)(j:List (FuncId×List aw))(k:β->Nat)(Q:Exit->St->Prop)(K:List Nat)(o:∀b,(d b).map (·.1)=K)
  (step:∀b S,Has S.env (d b)->i b S.heap->S.bG=j->Ends (ev C f c S) fun ex e=>match ex with| .normal=>∃a,k a<k b/\Has e.env (d a)/\i a e.heap/\e.bG=j|ex=>Q ex e):
  ∀b S,Has S.env (d b)->i b S.heap->S.bG=j->Ends (ev C f (.loop c) S) Q:=by
 have q:∀n b S,k b<n->Has S.env (d b)->i b S.heap->S.bG=j->Ends (ev C f (.loop c) S) Q:=by
  intro n
  induction n with
  |zero=>omega
  |succ n r=>
   intro b S hn g l m
   rw[aev]
   have h:=step b ⟨eI (iJ S.env) S.env,S.heap,S.bG⟩ (g.pick g rfl) l m
   unfold Ends at h
   split at h
   .rename_i ex e p
    cases ex with
    |normal=>
     have⟨a,v,s,t,u⟩:=h
     rw[af8 p]
     exact r a _ (by omega) (g.pick s ((o a).trans (o b).symm)) t u
    |_=>rw[aeI p (by simp)];exact h
   .exact h.elim
 exact fun b S g l m=>q (k b+1) b S (by omega) g l m
def iv{i:Nat}(a:β->Env)(d:β->List Ob->Prop)(h:β->Nat)
  (step:∀b e G,Has e (a b)->d b G->Ends (ev C f c ⟨e,G,[]⟩) fun ex g=>match ex with| .normal=>∃k,h k<h b/\Has g.env (a k)/\d k g.heap/\g.bG=[]|ex=>(fun ex S=>match ex with| .exit j=>if j=i then Q .normal S else Q (.exit j) S|ex=>Q ex S) ex g)
  (b) (l:Has e0 (a b)) (m:d b G0) (n:∀x,(a x).map (·.1)=(a b).map (·.1)):Ends (bl i (ev C f (.loop c) ⟨e0,G0,[]⟩)) Q:=
 Ends.bl (gM a d [] h _ _ n (fun b S o p q=>by have⟨e,G,r⟩:=S;obtain rfl:r=[]:=q;exact step b e G o p) b _ l m rfl)
def iy{i:Nat}{k:St->Option (Exit×St)}(a:β->Env)(d:β->List Ob->Prop)(l:β->Nat)
  (step:∀b e G,Has e (a b)->d b G->Ends (ev C f c ⟨e,G,[]⟩) fun ex g=>match ex with| .normal=>∃m,l m<l b/\Has g.env (a m)/\d m g.heap/\g.bG=[]|ex=>(fun ex S=>match ex with| .exit j=>if j=i then Ends (k S) Q else Q (.exit j) S| .normal=>Ends (k S) Q|ex=>Q ex S) ex g)
  (b) (n:Has e0 (a b)) (o:d b G0) (p:∀x,(a x).map (·.1)=(a b).map (·.1)):Ends (sq (bl i (ev C f (.loop c) ⟨e0,G0,[]⟩)) k) Q:=
 Ends.sq (iv a d l (fun b e G q r=>(step b e G q r).mono fun ex S h=>by cases ex<;>exact h) b n o p)
def BP{args:List aw}(Q:aw->List Ob->Prop)(d:C.P.funcs[f]?=some fn)(e:nV C f fn args.length=some c)
  (h:Ends (ev C f c ⟨fP 0 args,H,[]⟩) fun a S=>(a= .normal\/a= .ret)/\S.bG=[]/\∃r,gY C.P S.env S.heap fn.results.toList=some r/\Q r S.heap):∃r b,bB C (ev C) f args H=some (r,b)/\Q r b:=by
 unfold Ends at h
 split at h
 .rename_i a S g
  have⟨i,j,r,k,l⟩:=h
  refine⟨r,S.heap,aoy d e ?_,l⟩
  rw[g]
  rcases i with rfl|rfl<;>simp[j,iX,k]
 .exact h.elim
def fnR{args:List aw}{g:List Ob}(j:C.P.funcs[f]?=some fn)(k:nV C f fn args.length=some c)
  (h:Ends (ev C f c ⟨fP 0 args,H,[]⟩) fun i S=>(i= .normal\/i= .ret)/\S.bG=[]/\gY C.P S.env S.heap fn.results.toList=some r/\S.heap=g):bB C (ev C) f args H=some (r,g):=by
 have⟨o,p,l,m,n⟩:=BP (fun x y=>x=r/\y=g) j k (h.mono fun i S ⟨a,b,d,e⟩=>⟨a,b,r,d,rfl,e⟩)
 subst m n
 exact l
end
def tw:Nat->List Oper->List (Nat×Oper)
 |_,[]=>[]
 |k,o::a=>(k,o)::tw (k+1) a
theorem LD(all:List Oper):tag all (aiZ all.length)=tw 0 all:=by
 have b:∀(a pre:List Oper),all=pre++a->tag all (List.range' pre.length a.length)=tw pre.length a:=by
  intro a;induction a with
  |nil=>intro pre h;rfl
  |cons o a c=>
   intro pre h;have d:all[pre.length]?=some o:=by rw[h];simp
   have:=c (pre++[o]) (by rw[h];simp);simp only[agc,ajS]at this;simp only[aip,ami,tag,alJ,d,ajO,tw];rw[<-this];rfl
 have:=b all [] rfl;rw[akl];exact this
theorem VD{C:bu}{a b}{all:List Oper}:jy C ce ⟨[],none,a,b⟩ all e H=fZ C ce ⟨[],none,a,b⟩ all H.length (tw 0 all) e H:=by grind [jy,qz,(LD)]
def acD{C:bu}{k:Nat}{ks a b}{all:List Oper}:jy C ce ⟨k::ks,none,a,b⟩ all e H=fZ C ce ⟨k::ks,none,a,b⟩ all H.length (tag all (k::ks)) e H:=rfl
def TQ{C:bu}{f:FuncId}{c:Code}{m:Nat}{args:List aw}{own:List Ob}(d:C.P.funcs[f]?=some fn)(e:nV C f fn args.length=some c)
  (h:Ends (ev C f c ⟨fP 0 args,[],[]⟩) fun b S=>(b= .normal\/b= .ret)/\S.bG=[]/\∃x,gY C.P S.env S.heap fn.results.toList=some x/\(if m=2 then some (x,S.heap)else dI (m==1) S.heap x)=some (r,own)):aS C (bB C (ev C)) m f args=some (r,own):=by
 have⟨x,a,g,i⟩:=BP (H:=[]) (fun x a=>(if m=2 then some (x,a)else dI (m==1) a x)=some (r,own)) d e h
 unfold aS
 rw[g]
 exact i
def ahX(f:α->β)(l:List α):(l.map f).take l.length=l.map f:=acu (by simp)
def aaU(a b:Int):(a==b)=decide (a=b):=by rfl
def ahY(a b:Int):(a !=b)=!decide (a=b):=by rw[bne,aaU]
def aht(k:Nat):((k:Int)<0)=False:=by simp
def aif(n:Nat):(n+1<=n)=False:=by simp
def aia(n:Nat):((n:Int)+1=0)=False:=by simp;omega
def ahJ(f:α->β)(l:List α)(x:β):(l.map f++[x]).take (l.length+1)=l.map f++[x]:=acu (by simp)
def ml1:1<=maxLen:=by decide
def ml2:2<=maxLen:=by decide
def XH:3<=maxLen:=by decide
def ml5:5<=maxLen:=by decide
def ah9{l:List α}:decide ((l.length:Int)=0)=l.isEmpty:=by cases l<;>simp;omega
theorem ane(H l:List α):(H++l)[H.length]?=l[0]?:=by grind
theorem jh(H l:List α)(k:Nat):(H++l)[H.length+k]?=l[k]?:=by grind
def ah5(H l:List α)(x:α):(H++l).set H.length x=H++l.set 0 x:=by simp
def ahS(H l:List α)(k:Nat)(x:α):(H++l).set (H.length+k) x=H++l.set k x:=by simp
def aij(a b:Env)(t:Nat):Env.get (a++b) t=match a.get t with|some x=>some x|none=>b.get t:=get_append a b t
end Go.Nx
namespace Go.Nx
def ax(x:aI):List ab:=[I x.peer,I x.aP,I x.state,B x.fork,B x.cK,B x.token,B x.dc,B x.ask]
def aW(x:cj):List ab:=[I x.peer,I x.aP]
def aN(x:bW):List ab:=[I x.id,aG x.need,I x.state,I x.cH]
def j7(x:Edge):List ab:=[I x.a,I x.b]
def br(x:cY):List ab:=[I x.kind,I x.aP,I x.num]
def dW(x:cB):List ab:=[I x.src,I x.dst,I x.fN.kind,I x.fN.aP,I x.fN.num]
def eEv(x:Ev):List ab:=[I x.kind,I x.node,I x.id,I x.peer,aG x.need]
def dQ(d:cQ):List ab:=[I d.id,I d.phase,.aj (d.af.map ax)]
def cU(d:Dr):List ab:=[I d.ai.id,I d.ai.phase,.aj (d.ai.af.map ax),I d.aQ,aG d.need]
def bO(b:cd):List ab:=[I b.last,.aj (b.aA.map aN)]
def aT(n:Nd):List ab:=[I n.dr.ai.id,I n.dr.ai.phase,.aj (n.dr.ai.af.map ax),I n.dr.aQ,aG n.dr.need,I n.book.last,.aj (n.book.aA.map aN),.aj (n.known.map aW),aG n.told,.aj (n.asked.map aW)]
def Gf(l:List Int):bC (aG l)=true:=bi l
theorem bK(l:List aI):bA (l.map ax)=true:=jg _ (fun x=>by rfl) l
def bR(l:List cj):bA (l.map aW)=true:=jg _ (fun x=>by rfl) l
def bV(l:List bW):bA (l.map aN)=true:=jg _ (fun x=>by simp[aN,cy,bC,Gf]) l
theorem jU(l:List Edge):bA (l.map j7)=true:=jg _ (fun x=>by rfl) l
def aeS(l:List cY):bA (l.map br)=true:=jg _ (fun x=>by rfl) l
def OD(l:List cB):bA (l.map dW)=true:=jg _ (fun x=>by rfl) l
def aih(l:List Ev):bA (l.map eEv)=true:=jg _ (fun x=>by simp[eEv,cy,bC,Gf]) l
def xd(l:List Nd):bA (l.map aT)=true:=jg _ (fun x=>by simp[aT,cy,bC,Gf,bK,bV,bR]) l
end Go.Nx
namespace Go.Nx
open Go
variable{o:Op}{f:FuncId}{S:St}{c:Code}{k:Nat}{x:aw}{H':List Ob}{g:Option Nat×Bool}{P:Program}{eb:cV}{fn:Func}{Q:Exit->St->Prop}
structure pw where
 dst:Option Nat
 op:Op
 g:Option (Option Nat×Bool)
def im(all:List Oper)(o:Oper):pw:=⟨o.dst,o.op,match o.guard with|some (j,w)=>some ((all[j]?).bind (·.dst),w)|none=>none⟩
def pk(e:Env):Option (Option Nat×Bool)->Option Bool
 |none=>some true
 |some (some t,w)=>match e.get t with
  |some (.c (.v (.bool b)))=>some (b==w)
  |some (.aM [])=>some false
  |_=>none
 |some (none,_)=>none
def Q9{all:List Oper}{e:Env}{o:Oper}:nI all e o.guard=pk e (im all o).g:=by
 unfold im;cases o.guard with
 |none=>rfl
 |some p=>have⟨j,w⟩:=p;simp only[nI];cases(all[j]?).bind (·.dst)<;>rfl
def jQ(bz:Nat->Bool)(C:bu)(ce:cV):List pw->Env->List Ob->Option (Env×List Ob)
 |[],e,H=>some (e,H)
 |o::os,e,H=>match pk e o.g with
  |some c=>if c=true then(match mh bz C ce o.op e H with
    |some (x,H')=>jQ bz C ce os (ee e o.dst x) H'
    |none=>none)else jQ bz C ce os (ee e o.dst unit) H
  |none=>none
def tu{bz:Nat->Bool}{C:bu}{ce:cV}{all:List Oper}:∀(l:List Oper) (e:Env) (H:List Ob),fH bz C ce all l e H=jQ bz C ce (l.map (im all)) e H
 |[],e,H=>rfl
 |o::os,e,H=>by
  simp only[fH,ag9,jQ]
  rw[Q9]
  cases pk e (im all o).g with
  |none=>rfl
  |some c=>
   simp only
   cases c with
   |true=>
    simp only[if_true]
    show(match mh bz C ce o.op e H with|some (x,H')=>fH bz C ce all os (ee e o.dst x) H'|none=>none)=_
    cases h:mh bz C ce o.op e H with
    |none=>simp[im,h]
    |some r=>simp[im,h,tu os]
   |false=>simp[im,tu os]
def vN(C:bu)(ce:cV)(r:RI)(n0 i:Nat)(o:pw)(e:Env)(H:List Ob):Option (aw×List Ob):=
 match pk e o.g with
 |some c=>if c=true then jH C ce r n0 i o.op e H else some (unit,H)
 |none=>none
def kQ(C:bu)(ce:cV)(r:RI)(n0:Nat):List (Nat×pw)->Env->List Ob->Option (Env×List Ob)
 |[],e,H=>some (e,H)
 |p::ps,e,H=>match vN C ce r n0 p.1 p.2 e H with
  |some (x,H')=>kQ C ce r n0 ps (ee e p.2.dst x) H'
  |none=>none
def tv{C:bu}{ce:cV}{r:RI}{all:List Oper}{n0:Nat}:∀(l:List (Nat×Oper)) (e:Env) (H:List Ob),fZ C ce r all n0 l e H=kQ C ce r n0 (l.map fun p=>(p.1,im all p.2)) e H
 |[],e,H=>rfl
 |p::ps,e,H=>by
  have:fA C ce r all n0 p.1 p.2 e H=vN C ce r n0 p.1 (im all p.2) e H:=by
   simp only[fA,vN]
   rw[Q9]
   rfl
  simp only[fZ,ag9,kQ]
  rw[this]
  cases vN C ce r n0 p.1 (im all p.2) e H with
  |none=>rfl
  |some x=>exact tv ps _ _
def so (o:Oper):Oper:=⟨o.dst,o.op,0, "", #[],o.guard⟩
def cr:Code->Code
 | .region id d e=> .region id ⟨d.toList.map so⟩ e
 | .seq a b=> .seq (cr a) (cr b)
 | .cond p a b=> .cond p (cr a) (cr b)
 | .block id c=> .block id (cr c)
 | .loop c=> .loop (cr c)
 |c=>c
theorem Lh{all:List Oper}{o:Oper}:im (all.map so) (so o)=im all o:=by grind [im,so]
def ada{all:List Oper}(a:List Nat):tag (all.map so) a=(tag all a).map fun p=>(p.1,so p.2):=by
 induction a with
 |nil=>rfl
 |cons k a b=>
  simp only[tag,alJ,adf]at b|-;cases all[k]? with
  |none=>simpa using b
  |some o=>simp only[ajO,ag9,b]
def Vu{all:List Oper}:ui (all.map so)=ui all:=by
 unfold ui;rw[List.getLast?_map];cases all.getLast? with
 |none=>rfl
 |some o=>have⟨d,op,a,pos,b,g⟩:=o;cases op<;>rfl
def abm{C:bu}{all:List Oper}{e:Env}:qx C (all.map so) e=qx C all e:=by
 unfold qx;rw[List.getLast?_map];cases all.getLast? with
 |none=>rfl
 |some o=>
  have⟨d,op,b,pos,f,g⟩:=o;simp only[ajO,so];cases op with
  |defer c=>have⟨a,args,h⟩:=c;cases a<;>cases d<;>cases g<;>rfl
  |_=>cases d<;>cases g<;>rfl
def WL{all:List Oper}{a:List (Nat×Nat)}{e:Env}:qU (all.map so) a e=qU all a e:=by
 unfold qU;congr 1
 funext p
 simp only[adf];cases all[p.1]?<;>cases all[p.2]?<;>rfl
def Z1{C:bu}{ce:cV}{f id:Nat}{all:List Oper}{a:Bool}:lE C ce f id (all.map so) a S=lE C ce f id all a S:=by
 have b:∀(l:List Oper) e H,fH (C.bz f) C ce (all.map so) (l.map so) e H=fH (C.bz f) C ce all l e H:=fun l e H=>by
  rw[tu,tu,ajc];congr 1
  exact ajp fun o _=>Lh
 have d:∀r e H,jy C ce r (all.map so) e H=jy C ce r all e H:=fun r e H=>by
  unfold jy;rw[tv,tv,ada,ajc,aio];congr 1
  exact ajp fun p _=>by simp[Lh]
 unfold lE;rw[Vu,b all,d];have c:=b all.dropLast;rw[List.map_dropLast]at c;rw[c];simp only[abm,WL]
def aeO{C:bu}{e:ji}(d:∀f c S,e f (cr c) S=e f c S)(f:FuncId)(c:Code)(S:St):fG C e f (cr c) S=fG C e f c S:=by
 cases c with
 |region id g h=>exact Z1
 |seq a b=>
  simp only[cr,fG];rw[d];congr 1
  funext S
  exact d f b S
 |cond p a b=>cases p<;>simp only[cr,fG];rw[d,d]
 |block id b=>simp only[cr,fG];rw[d]
 |loop b=>
  simp only[cr,fG,am8];rw[d];congr 1
  funext S
  exact d f (.loop b) _
 |_=>rfl
def Cq{C:bu}:∀(n:Nat) (f:FuncId) (c:Code) (S:St),run C n f (cr c) S=run C n f c S
 |0,f,c,S=>rfl
 |n+1,f,c,S=>aeO (Cq n) f c S
def ua{C:bu}:ev C f (cr c) S=ev C f c S:=by
 cases h:ev C f c S with
 |some r=>have⟨n,hn⟩:=qQ.1 h;exact qQ.2 ⟨n,by rw[Cq];exact hn⟩
 |none=>
  cases a:ev C f (cr c) S with
  |none=>rfl
  |some r=>have⟨n,hn⟩:=qQ.1 a;rw[Cq]at hn;rw[qQ.2 ⟨n,hn⟩]at h;cases h
def aim{C:bu}{ce:cV}{f id:Nat}{all:List Oper}:lE C ce f id all false S=if ui all=true then(match jQ (C.bz f) C ce (all.dropLast.map (im all)) S.env S.heap with
  |some (e,H)=>(match qx C all e with
   |some d=>some (.normal,⟨pI (nu C f id) e S.env,H,d::S.bG⟩)
   |none=>none)
  |none=>none)else ox (nu C f id) S (fun _=>true) (jQ (C.bz f) C ce (all.map (im all)) S.env S.heap):=by
 unfold lE
 rw[tu,tu]
 split
 .cases jQ (C.bz f) C ce (all.dropLast.map (im all)) S.env S.heap<;>rfl
 .rfl
def ahu{C:bu}{ce:cV}{f id:Nat}{all:List Oper}:lE C ce f id all true S=if ui all=true then none else ox (nu C f id) S (fun e=>qU all (C.ri f id).rs e) (jy C ce (C.ri f id) all S.env S.heap):=by
 unfold lE;split
 .rfl
 .rfl
def ahE{C:bu}{ce:cV}{a b}{all:List Oper}{e:Env}{H:List Ob}:jy C ce ⟨[],none,a,b⟩ all e H=kQ C ce ⟨[],none,a,b⟩ H.length ((tw 0 all).map fun p=>(p.1,im all p.2)) e H:=by rw[VD,tv]
def aie{C:bu}{ce:cV}{a b c}{all:List Oper}{e:Env}{H:List Ob}:jy C ce ⟨k::a,none,b,c⟩ all e H=kQ C ce ⟨k::a,none,b,c⟩ H.length ((tag all (k::a)).map fun p=>(p.1,im all p.2)) e H:=by rw[acD,tv]
def aoc(bz:Nat->Bool)(C:bu)(ce:cV)(os:List pw)(d:Option Nat)(e:Env):Option (aw×List Ob)->Option (Env×List Ob)
 |some (x,H')=>jQ bz C ce os (ee e d x) H'
 |none=>none
def wT(bz:Nat->Bool)(C:bu)(ce:cV)(os:List pw)(d:Option Nat)(op:Op)(e:Env)(H:List Ob):Option Bool->Option (Env×List Ob)
 |some true=>aoc bz C ce os d e (mh bz C ce op e H)
 |some false=>jQ bz C ce os (ee e d unit) H
 |none=>none
section
variable{bz:Nat->Bool}{C:bu}{ce:cV}{os:List pw}{d:Option Nat}{op:Op}{e:Env}{H:List Ob}
def ahG:aoc bz C ce os d e (some (x,H'))=jQ bz C ce os (ee e d x) H':=rfl
def ahC:wT bz C ce os d op e H (some true)=aoc bz C ce os d e (mh bz C ce op e H):=rfl
def ahB:wT bz C ce os d op e H (some false)=jQ bz C ce os (ee e d unit) H:=rfl
def ahp:jQ bz C ce (⟨d,op,none⟩::os) e H=aoc bz C ce os d e (mh bz C ce op e H):=by simp only[jQ,pk,if_true];cases mh bz C ce op e H<;>rfl
def ahM:jQ bz C ce (⟨d,op,some g⟩::os) e H=wT bz C ce os d op e H (pk e (some g)):=by
 simp only[jQ];cases h:pk e (some g)with
 |none=>rfl
 |some c=>
  cases c with
  |true=>simp only[if_true,wT];cases mh bz C ce op e H<;>rfl
  |false=>simp[wT]
def ah0:jQ bz C ce [] e H=some (e,H):=rfl
variable{r:RI}{n0 i:Nat}{ps:List (Nat×pw)}
def zS(C:bu)(ce:cV)(r:RI)(n0:Nat)(ps:List (Nat×pw))(d:Option Nat)(e:Env):Option (aw×List Ob)->Option (Env×List Ob)
 |some (x,H')=>kQ C ce r n0 ps (ee e d x) H'
 |none=>none
def xP(C:bu)(ce:cV)(r:RI)(n0 i:Nat)(ps:List (Nat×pw))(d:Option Nat)(op:Op)(e:Env)(H:List Ob):Option Bool->Option (Env×List Ob)
 |some true=>zS C ce r n0 ps d e (jH C ce r n0 i op e H)
 |some false=>kQ C ce r n0 ps (ee e d unit) H
 |none=>none
def EM:zS C ce r n0 ps d e (some (x,H'))=kQ C ce r n0 ps (ee e d x) H':=rfl
def ahD:xP C ce r n0 i ps d op e H (some true)=zS C ce r n0 ps d e (jH C ce r n0 i op e H):=rfl
def ahn:xP C ce r n0 i ps d op e H (some false)=kQ C ce r n0 ps (ee e d unit) H:=rfl
def aib:kQ C ce r n0 ((i,⟨d,op,none⟩)::ps) e H=zS C ce r n0 ps d e (jH C ce r n0 i op e H):=by simp only[kQ,vN,pk,if_true];cases jH C ce r n0 i op e H<;>rfl
def ahl:kQ C ce r n0 ((i,⟨d,op,some g⟩)::ps) e H=xP C ce r n0 i ps d op e H (pk e (some g)):=by
 simp only[kQ,vN];cases h:pk e (some g)with
 |none=>rfl
 |some c=>
  cases c with
  |true=>simp only[if_true,xP];cases jH C ce r n0 i op e H<;>rfl
  |false=>simp[xP]
def Bv:kQ C ce r n0 [] e H=some (e,H):=rfl
end
def wv(P:Program)(e:Env)(H:List Ob)(o:Op):Option aw->Option (aw×List Ob)
 |some x=>some (x,H)
 |none=>cA P e H o
def xB(P:Program)(e:Env)(H:List Ob)(o:Op):Option (aw×List Ob)->Option (aw×List Ob)
 |some r=>some r
 |none=>wv P e H o (r8 P e H o)
def EV(ce:cV)(H:List Ob):Option aw->Option (List aw)->Option (aw×List Ob)
 |some (.c (.bF g a)),some b=>ce g (b++a.map .c) H
 |_,_=>none
def ahU{C:bu}{ce:cV}{e:Env}{H:List Ob}:eV C ce o e H=(match o with
  | .call {callee:= .value f,args,.. }=>EV ce H (aX e f) (pT (args.toList.map (aX e)))
  | .move (.global g)=>(tj g).map fun l=>(.c l,H)
  |o=>xB C.P e H o (bc C.P e H o)):=by
 have a:∀o,plain o=true->eV C ce o e H=xB C.P e H o (bc C.P e H o):=fun o h=>by
  rw[pK h]
  unfold xB
  cases bc C.P e H o with
  |some r=>rfl
  |none=>
   simp only
   unfold wv
   cases r8 C.P e H o<;>rfl
 cases o with
 |call c=>
  have⟨callee,args,b⟩:=c
  cases callee with
  |value f=>unfold EV;rfl
  |_=>exact a _ rfl
 |move p=>
  cases p with
  |global g=>rfl
  |_=>exact a _ rfl
 |_=>exact a _ rfl
def ahK{e:Env}{H:List Ob}{r}:xB P e H o (some r)=some r:=rfl
def ah3{e:Env}{H:List Ob}:xB P e H o none=wv P e H o (r8 P e H o):=rfl
def ahq{e:Env}{H:List Ob}{x}:wv P e H o (some x)=some (x,H):=rfl
def ahx{e:Env}{H:List Ob}:wv P e H o none=cA P e H o:=rfl
def ahN{ce:cV}{H:List Ob}{g a b}:EV ce H (some (.c (.bF g a))) (some b)=ce g (b++a.map .c) H:=rfl
noncomputable def NH(C:bu)(f:FuncId)(a b:Code)(S:St)(v:Option aw):Option (Exit×St):=wy v (ev C f a S) (ev C f b S)
def TY{C:bu}{f t a b S}:ev C f (.cond (.tmp t) a b) S=NH C f a b S (S.env.get t):=afk f t a b S
def ap8{C:bu}{f a b S c}:NH C f a b S (some (.c (.v (.bool c))))=if c=true then ev C f a S else ev C f b S:=rfl
def Jg(a:Bool)(H:List Ob)(b:List Nat):Option (aw×List Ob)->Option (aw×List Ob)
 |some (r,own)=>if ei a b r own=true then some (eN H.length r,H++own.map (dX H.length))else none
 |none=>none
def FL(C:bu)(eb:cV)(f:FuncId)(H:List Ob):Option (List aw×List Nat)->Option (aw×List Ob)
 |some (a,b)=>Jg (C.md f==2) H b (aS C eb (C.md f) f a)
 |none=>none
def aD{C:bu}{args:List aw}{H:List Ob}:aO C eb f args H=if C.md f=3\/args.any (eO C)=true then eb f args H else FL C eb f H (r7 H args):=by
 unfold aO;split
 .rfl
 .cases r7 H args with
  |none=>rfl
  |some p=>have⟨a,b⟩:=p;simp only[FL];cases aS C eb (C.md f) f a<;>rfl
def kU{C:bu}{H:List Ob}{a b}:FL C eb f H (some (a,b))=Jg (C.md f==2) H b (aS C eb (C.md f) f a):=rfl
theorem jP{a:Bool}{H:List Ob}{b:List Nat}{r own}:Jg a H b (some (r,own))=if ei a b r own=true then some (eN H.length r,H++own.map (dX H.length))else none:=rfl
def ahT(all:List Oper)(d op a pos b):im all ⟨d,op,a,pos,b,none⟩=⟨d,op,none⟩:=rfl
def ahy(all:List Oper)(d op a pos b j w):im all ⟨d,op,a,pos,b,some (j,w)⟩=⟨d,op,some ((all[j]?).bind (·.dst),w)⟩:=rfl
def be{C:bu}{m:Nat}{args:List aw}{own:List Ob}{r:aw}(b:C.P.funcs[f]?=some fn)(d:nV C f fn args.length=some c)
  (h:Ends (ev C f (cr c) ⟨fP 0 args,[],[]⟩) fun a S=>(a= .normal\/a= .ret)/\S.bG=[]/\∃x,gY C.P S.env S.heap fn.results.toList=some x/\(if m=2 then some (x,S.heap)else dI (m==1) S.heap x)=some (r,own)):aS C (bB C (ev C)) m f args=some (r,own):=
 TQ b d (by rw[ua]at h;exact h)
def cG{C:bu}{args:List aw}{H:List Ob}(Q:aw->List Ob->Prop)(b:C.P.funcs[f]?=some fn)(d:nV C f fn args.length=some c)
  (h:Ends (ev C f (cr c) ⟨fP 0 args,H,[]⟩) fun a S=>(a= .normal\/a= .ret)/\S.bG=[]/\∃r,gY C.P S.env S.heap fn.results.toList=some r/\Q r S.heap):∃r H',bB C (ev C) f args H=some (r,H')/\Q r H':=
 BP Q b d (by rw[ua]at h;exact h)
def gj{C:bu}{args:List aw}{H:List Ob}{a:aw}{R:List Ob->Prop}(d:C.P.funcs[f]?=some fn)(e:nV C f fn args.length=some c)
  (h:Ends (ev C f (cr c) ⟨fP 0 args,H,[]⟩) fun b S=>(b= .normal\/b= .ret)/\S.bG=[]/\∃r,gY C.P S.env S.heap fn.results.toList=some r/\r=a/\R S.heap):∃H',bB C (ev C) f args H=some (a,H')/\R H':=by
 obtain⟨r,H',g,rfl,i⟩:=cG (fun r H'=>r=a/\R H') d e h
 exact⟨H',g,i⟩
def tM{C:bu}{args:List aw}{H:List Ob}{r:aw}(b:C.P.funcs[f]?=some fn)(d:nV C f fn args.length=some c)
  (h:Ends (ev C f (cr c) ⟨fP 0 args,H,[]⟩) fun a S=>(a= .normal\/a= .ret)/\S.bG=[]/\gY C.P S.env S.heap fn.results.toList=some r/\S.heap=H'):bB C (ev C) f args H=some (r,H'):=
 fnR b d (by rw[ua]at h;exact h)
def eh{C:bu}{f:Nat}{a b:Code}(P:St->Prop)(e:Ends (ev C f a S) fun d c=>d= .normal/\P c)(g:∀c,P c->Ends (ev C f b c) Q):Ends (ev C f (.seq a b) S) Q:=by rw[iM];refine Ends.sq (e.mono fun d c h=>?_);obtain⟨rfl,h⟩:=h;exact g c h
def bp{C:bu}{f:Nat}{a b:Code}(L:Env)(J:List Ob->Prop)(d:Ends (ev C f a S) fun g c=>g= .normal/\Has c.env L/\c.bG=[]/\J c.heap)(h:∀e G,Has e L->J G->Ends (ev C f b ⟨e,G,[]⟩) Q):Ends (ev C f (.seq a b) S) Q:=
 eh (fun S=>Has S.env L/\S.bG=[]/\J S.heap) d fun⟨e,G,i⟩ ⟨j,k,l⟩=>by
  obtain rfl:i=[]:=k
  exact h e G j l
@[simp] noncomputable abbrev ay [W]:cV:=bB tz (ev tz)
def dz[W]{args:List aw}{H:List Ob}(h:tz.md f=3):aO tz ay f args H=bB tz (ev tz) f args H:=by unfold aO;rw[if_pos (.inl h)]
def ja{a:Type}{l:List a}{x:a}(b:k<l.length)(c:l[k]=x):l.set k x=l:=by subst c;exact List.set_getElem_self b
def yw:∀l:List Int,(dt l).length<=l.length
 |[]=>by simp[dt]
 |x::r=>by
  have a:=yw r
  unfold dt
  split
  .simp
  .rename_i y t h
   rw[h]at a
   split<;>simp at* <;>omega
end Go.Nx
namespace Go.Nx
attribute [simp] iM ah6 TY ap8 eC ahF ah7 ahs aii ail ahP aic ahH ahO ahR ahz ah2 ah8 FY ah1 aim ahu ui nu pI ahp ahM ah0 ahG ahC ahB aib ahl Bv EM ahD ahn ahK ah3 ahq ahx ahN kU jP mh ahU ahE aie tw jH tag ahT ahy pk cr so re qU qp uG lS iG vM zE acH aiM bc Env.get aX ee oA Dt sO view qR qP xU obj aw.cells kK tzP tzR qd iJ vr eI pE r8 gV fX E7 cA aD cE eO r7 df bU eX jb bC cy bA dI uo outs fh qk ei kj fW cW gZ lH eN dZ qy aho bi bK bR bV jU aeS OD aih aG aC iX gY uO CE SR ZR aik Zt ah4 ahw ahA ahV ahW CH fP pT nL Sz qF Az Dp xa zY foldI ahm ahQ ane jh ah5 ahS Ends.some aaU ahY ale List.getElem?_cons_succ List.getElem?_nil aht aif aia ahJ ml1 ml2 XH ml5 ah9 aij ahX xk Hm pj vH tR
end Go.Nx
namespace Go.Nx
open Go Go.Proofs Tryz
instance iW1:W:=W0
section
variable{f n a:Nat}{e:Env}{c:Code}{Γ0 Γ:az}{Q:Exit->St->Prop}{H:List Ob}{x:List ab}{rows:List (List ab)}{o:Oper}{K:Env->List Ob->Prop}
noncomputable def gT:bu:={P:=aaG,md:=fun _=>0,kt:=fun _=>none,ri:=bn,dH:=fun f=>!(ajx f 124||ajx f 195||ajx f 200),dF:=fun _ _ _=>none,kR:=fun _=>false,bz:=fun _ _=>false}
def na(f):gT.kt f=none:=rfl
def kF(f):gT.bz f=fun _=>false:=rfl
def z8:gT.ri=bn:=rfl
def ki:gT.P=aaG:=rfl
def kI{a:Nat}:iT gT f a e:=fun _ _ _=>rfl
def Lc(P:Program):Bool:=(aiZ P.funcs.size).all fun f=>match P.funcs[f]? with
 |some a=>a.body.isNone||enters P f
 |none=>true
theorem aeL:Lc aaG=true:=by kernel_rfl
theorem uI(f:FuncId)(a:Func)(c:Code)(h:aaG.funcs[f]?=some a)(b:a.body=some c):enters aaG f=true:=by grind [(aeL),Lc]
theorem ae9:wx gT 124=true:=by kernel_rfl
theorem ad2:wx gT 195=true:=by kernel_rfl
theorem Vg:wx gT 200=true:=by kernel_rfl
theorem CZ{C:bu}(h:wx C f=true){a:Func}(b:C.P.funcs[f]?=some a)(d:a.body=some c):codeOk C f (a.params.size+a.nfree) a.ntmps c=true:=by grind [wx]
theorem Si:gU gT:={
 enters:=uI
 qS:=fun f e H r i _ h=>by cases h
 kR:=fun g e h=>by cases h
 follows:=by kernel_rfl
 code:=fun f j c d k l=>by
  have m:f=124\/f=195\/f=200:=by
   simp[gT]at d
   rcases Bool.eq_false_or_eq_true (ajx f 124)with a|a
   .exact .inl (ajv a)
   rcases Bool.eq_false_or_eq_true (ajx f 195)with b|b
   .exact .inr (.inl (ajv b))
   exact .inr (.inr (ajv (by simpa using d a b)))
  grind [(CZ),(ae9),(ad2),(Vg)]}
def QP:my aaG (cE gT (ev gT)):=Fe fun f args H r a h=>He Si h
def cu.ev{np:Nat}{S:St}(hc:codeOk gT f np n c=true)(h:Ends (ev gT f (cr c) S) Q):cu aaG n Γ0 c S Q:=by
 rw[ua]at h;unfold Ends at h;split at h
 .rename_i a b d;exact cu.Zs Si hc kI ⟨a,b,d,h⟩
 .exact h.elim
def Tt{P:Program}{a:Act}(I:aZ Γ H){x d f g:Operand}{t el:TypeId}{J:Nat}{j:Nat×List ab}{h k:Nat}{l m:Int}{q r s:IntKind}(K:se P t=some (el,J,j))(L:aX e x=some (bd h k 0 n))(M:aX e d=some (.c (.v (.int q l))))(N:aX e f=some (.c (.v (.int r m))))(O:aX e g=some (.c (.v (.int s n))))
  {z:Nat} (Q:obj H h k=some (z,rows)) (X:0<=l) (hm:l<=m) (hn:m<=n) (u:o.op= .slice t x (some d) (some f) (some g)) (b:∀p∈o.op.operands,Good Γ e a p):∃y,(execOp a.eval o).run P Γ.w= .ok (.value y) Γ.w:=by
 have⟨Y,Z,ty,pos,aa,guard⟩:=o
 simp only at u
 subst u
 have A:=b x (by simp[acH]) _ L
 have B:=b d (by simp[acH]) _ M
 have C:=b f (by simp[acH]) _ N
 have D:=b g (by simp[acH]) _ O
 simp only[aL,aB]at A B C D
 have⟨ad,j1,j2,j3⟩:=I.obj Q
 have⟨ae,af,E,cap,F,_,R,q3⟩:=A
 rw[j1]at F
 cases F
 have⟨bytes,zz⟩:=j
 obtain⟨S,i,zv,T,rfl,_,_,_,_⟩:=jz K
 have U:(sizeOf el).run P Γ.w= .ok i.size Γ.w:=by simp[sizeOf,typeInfo,T]
 have ag:n<=cap:=by omega
 have G:=amR (P:=P) (w:=Γ.w) s (n:Int) cap .slice3Acap (by omega) (by omega)
 have V:=amR (P:=P) (w:=Γ.w) r m n .slice3B (by omega) (by omega)
 have W:=amR (P:=P) (w:=Γ.w) q l m.toNat .slice3C (by omega) (by omega)
 simp only[ais]at G
 refine⟨.slice (if n=l.toNat then E else E.map (·.add (l.toNat*i.size))) (m.toNat-l.toNat) (n-l.toNat),?_⟩
 simp[execOp,R,B.1,C.1,D.1,ajy,run_underlying S,akO,ajX,U,G,V,W]
theorem Pw(c:aZ Γ H){h d z:Nat}(e:obj H h d=some (z,rows)):∀r∈rows,r.length=z:=by
 have⟨f,n,o,a⟩:=c.obj e;intro r g;cases i:f.base with
 |none=>grind
 |some b=>simp only[i]at a;have⟨c1,c2,c3,c4,c5,cells,T,p,q,j⟩:=a;have⟨k,l,m⟩:=alH g;rw[<-c1];exact(jL j (by rw[abM l,m])).1
def KW{a:Type}{l:List a}{x:a}(h:l[n]?=some x):n<l.length:=(abW.1 h).1
theorem BF(P S new:List (List ab))(h:P.length=a):dT (P++S) a new=P++new++S.drop new.length:=by grind [dT,(List.drop_append),(ajD)]
theorem adz{Z:List (List ab)}(b:a<=rows.length)(c:Z.length=rows.length+1-a):dT (dT (rows.take a++Z) a [x]) (a+1) (rows.drop a)=rows.take a++x::rows.drop a:=by
 have t0:(rows.take a).length=a:=by simp;omega
 rw[BF _ _ _ t0,BF (rows.take a++[x]) _ _ (by rw[agc,t0];rfl),akd];grind [(ajD)]
def Xq(d:a<n)(hn:n<=rows.length):dT (dT rows (a+1) ((rows.drop a).take (n-a))) a [x]=rows.take a++x::((rows.take n).drop a++rows.drop (n+1)):=by
 have t0:(rows.take a).length=a:=by simp;omega
 have e:rows=rows.take (a+1)++rows.drop (a+1):=(ajI _ _).symm
 have b:dT rows (a+1) ((rows.drop a).take (n-a))=rows.take (a+1)++(rows.drop a).take (n-a)++rows.drop (n+1):=by
  unfold dT;congr 2
  simp;omega
 have c:rows.take (a+1)=rows.take a++[rows[a]'(by omega)]:=by rw[aiH,abM (by omega)];rfl
 rw[b,c,aiu,aiu,BF _ _ _ t0];simp[alC]
def vZ(r:Option (Env×List Ob))(K:Env->List Ob->Prop):Prop:=
 match r with
 |some (e,H)=>K e H
 |none=>False
def wj:vZ (some (e,H)) K=K e H:=rfl
theorem vZ.spec{r:Option (Env×List Ob)}(h:vZ r K):∃e H,r=some (e,H)/\K e H:=by unfold vZ at h;grind
def AG{id:Nat}{a:Array Oper}(f k:Nat){d:List (FuncId×List aw)}(q:oZ n a.toList=true)(g:a.toList[k]?=some o)(r:o.guard=none)
  (h:vZ (jQ (gT.bz f) gT (cE gT (ev gT)) ((a.toList.take k).map (im a.toList)) e H) fun b i=>∃x c,jF aaG Γ0 b i o.op x c/\vZ (jQ (gT.bz f) gT (cE gT (ev gT)) ((a.toList.drop (k+1)).map (im a.toList)) (ee b o.dst x) c) fun j l=>Q .normal ⟨j,l,d⟩):cu aaG n Γ0 (.region id a false) ⟨e,H,d⟩ Q:=by
 have⟨b,i,m,x,c,s,t⟩:=h.spec
 have⟨j,l,p,u⟩:=t.spec
 rw[<-tu]at m p
 have v:=(abW.1 g).1
 have w:=(abW.1 g).2
 exact cu.Fv (C:=gT) QP (by rw[<-w, <-agO v,ajI]) q r m s p u
def Zw:enters aaG 195=true:=by kernel_rfl
theorem M0{o:List aw}{r:aw}{p:List Ob}(h:ue 4 [I 0,eW,I 0,I 0] o H=some (r,p)):Call aaG 195 o H r p:=by
 unfold ue at h;split at h
 case h_2=>cases h
 rename_i q s X i j;split at h
 case h_2=>cases h
 rename_i Y rows e;split at h
 case isFalse=>cases h
 rename_i hc;cases h;simp only[abR,akv,akQ,decide_eq_true_eq]at hc;obtain⟨⟨⟨⟨⟨rfl,rfl⟩,c1⟩,c2⟩,c3⟩,c4⟩:=hc;obtain⟨a,rfl⟩:∃a:Nat,i=(a:Int):=⟨i.toNat,by omega⟩;obtain⟨b,rfl⟩:∃b:Nat,j=(b:Int):=⟨j.toNat,by omega⟩;have t:=eP e;have⟨n,hn⟩:=eg rows.length;rw[hn]at c3 c4|-;refine NK Zw func195 rfl (by simp[f195]) fun Γ z=>?_;refine cu.seq (cu.ev (f:=195) (np:=3) (by kernel_rfl) ?_);simp only[cr];simp[na,kF,ki];refine cu.seq ⟨.normal,_,bP.adr (C:=gT) QP (bz:=gT.bz 195) ?_ (A:=[_,_,_,_,_]) rfl rfl rfl (fun Z a' aa B F=>Tt B p9.2.2.2.2.2.2.2.1 rfl rfl rfl rfl e c1 (by omega) c3 rfl F) (fun ad G=>?_),rfl,?_⟩
 .decide
 .cases G;rfl
 refine cu.ev (f:=195) (np:=3) (by kernel_rfl) ?_;simp only[cr];have J:((a:Int)=b)=False:=eq_false (by omega);have K:a<=n:=by omega
 have L:b<=n:=by omega
 have u:(rows.drop b).take (n-b)=rows.drop b:=acu (by simp;omega);have c:(rows.drop b).length=n-b:=by simp;omega
 have M:a+(n-b)<=n:=by omega
 have v:∀r∈rows.drop b,r.length=4:=fun r N=>Pw z e r (ajY N);have O:0<n-b\/0<n:= .inr (by omega);have⟨D,w⟩:=eg (rows.drop b);rw[w]at u c v;have x:(dT rows a D).length=n:=by simp[dT,hn,c];omega
 have⟨E,g⟩:=eg (dT rows a D);have P:(H.set q (Ob.live s 4 E))[q]?=some (.live s 4 E):=ahr (abW.1 t).1;have y:n-(a+(n-b))=b-a:=by omega
 rw[g]at x;have⟨k,d⟩:=eg (a+(n-b));have Q:(n<=k)=False:=eq_false (by omega);have R:k<=n:=by omega
 have S:k<n:=by omega
 have T:k+(b-a)<=n:=by omega
 have U:n-(b-a)=k:=by omega
 have V:dT E k (ahv (b-a) [I 0,eW,I 0,I 0])=rows.take a++(D++ahv (b-a) [I 0,eW,I 0,I 0]):=by
  have m:(rows.take a).length=a:=by simp;omega
  rw[<-g];unfold dT;rw[akb (by rw[agc,m,c,d];exact ad3 _),acu (by rw[agc,m,c,d];exact ad3 _),ajD (l:=ajr a rows++D++_) (by rw[agc,agc,m,c,aj0,als,hn];omega)];simp
 rw[d]at M y;have W:(∀r:List ab,r∈D->r.length=4)=True:=eq_true v;simp[-aj0,-ahr,-ad0,d,Q,R,S,T,U,V,sliceB,am6,na,kF,ki,z8,J,t,hn,K,L,w,u,c,W,O,g,x,y,P,OL,rv];grind [(az.cL.refl)]
end
section
variable [W]
def ly(C:bu)(a n:Nat):Bool:=(List.range' a n).all fun f=>ajx f 52||match C.P.funcs[f]? with
 |some b=>match b.body with
  |some c=>codeOk C f (b.params.size+b.nfree) b.ntmps c
  |none=>true
 |none=>true
def YD:ly tz 0 60=true:=by kernel_rfl
def agR:ly tz 60 60=true:=by kernel_rfl
def aec:ly tz 120 60=true:=by kernel_rfl
def aeq:ly tz 180 60=true:=by kernel_rfl
def X7:ly tz 240 60=true:=by kernel_rfl
def Vx:ly tz 300 60=true:=by kernel_rfl
def aaN:ly tz 360 60=true:=by kernel_rfl
def Rw:aaG.funcs.size=417:=by kernel_rfl
def mB{C:bu}{a n f:Nat}(h:ly C a n=true)(d:a<=f)(e:f<a+n)(g:f≠52){b:Func}{c:Code}(i:C.P.funcs[f]?=some b)(j:b.body=some c):codeOk C f (b.params.size+b.nfree) b.ntmps c=true:=by unfold ly at h;rw[ahI]at h;have:=h f (List.mem_range'_1.2 ⟨d,e⟩);rw[i]at this;simp only[j,ai9,akv]at this;exact this.resolve_left g
def To(f:Nat)(g:Func)(c:Code)(d:f≠52)(b:tz.P.funcs[f]?=some g)(e:g.body=some c):codeOk tz f (g.params.size+g.nfree) g.ntmps c=true:=by
 have h:f<417:=by have:=(ajC.1 b).1;rw[tzP,Rw]at this;exact this
 by_cases i:f<60
 .exact mB (a:=0) (n:=60) YD (by omega) (by omega) d b e
 by_cases j:f<120
 .exact mB (a:=60) (n:=60) agR (by omega) (by omega) d b e
 by_cases k:f<180
 .exact mB (a:=120) (n:=60) aec (by omega) (by omega) d b e
 by_cases l:f<240
 .exact mB (a:=180) (n:=60) aeq (by omega) (by omega) d b e
 by_cases m:f<300
 .exact mB (a:=240) (n:=60) X7 (by omega) (by omega) d b e
 by_cases o:f<360
 .exact mB (a:=300) (n:=60) Vx (by omega) (by omega) d b e
 .exact mB (a:=360) (n:=60) aaN (by omega) (by omega) d b e
def Y8:tz.dH 52=true:=by kernel_rfl
def yJ(f:FuncId)(a:Func)(c:Code)(b:tz.dH f=false)(d:tz.P.funcs[f]?=some a)(g:a.body=some c):codeOk tz f (a.params.size+a.nfree) a.ntmps c=true:=
 To f a c (fun e=>by subst e;rw[Y8]at b;cases b) d g
def wW:aaG.follows .mixedOrders=true:=by kernel_rfl
end
end Go.Nx
namespace Go.Proofs
open Go.Shelf
def Tryz.afm:aml:=⟨fun|189=>191|125=>259|257=>258|128=>310|129=>311|294=>301|295=>302|296=>303|297=>304|298=>305|299=>306|216=>307|300=>308|301=>309|328=>335|329=>336|330=>337|331=>338|332=>339|215=>340|343=>354|n=>n,fun|28=>30|3=>3|46=>248|0=>0|51=>349|53=>147|4=>4|183=>426|182=>425|131=>238|5=>5|9=>9|218=>450|222=>281|228=>466|229=>467|n=>n,fun|n=>n⟩
def Tryz.Kf:amG aaG Tryz.afm:={
 mixed:=by kernel_rfl
 f125:=Tryz.func259.trans (congrArg some (by kernel_rfl))
 f128:=Tryz.func310.trans (congrArg some (by kernel_rfl))
 f129:=Tryz.func311.trans (congrArg some (by kernel_rfl))
 f189:=Tryz.func191.trans (congrArg some (by kernel_rfl))
 f215:=Tryz.func340.trans (congrArg some (by kernel_rfl))
 f216:=Tryz.func307.trans (congrArg some (by kernel_rfl))
 f257:=Tryz.func258.trans (congrArg some (by kernel_rfl))
 f294:=Tryz.func301.trans (congrArg some (by kernel_rfl))
 f295:=Tryz.func302.trans (congrArg some (by kernel_rfl))
 f296:=Tryz.func303.trans (congrArg some (by kernel_rfl))
 f297:=Tryz.func304.trans (congrArg some (by kernel_rfl))
 f298:=Tryz.func305.trans (congrArg some (by kernel_rfl))
 f299:=Tryz.func306.trans (congrArg some (by kernel_rfl))
 f300:=Tryz.func308.trans (congrArg some (by kernel_rfl))
 f301:=Tryz.func309.trans (congrArg some (by kernel_rfl))
 f328:=Tryz.func335.trans (congrArg some (by kernel_rfl))
 f329:=Tryz.func336.trans (congrArg some (by kernel_rfl))
 f330:=Tryz.func337.trans (congrArg some (by kernel_rfl))
 f331:=Tryz.func338.trans (congrArg some (by kernel_rfl))
 f332:=Tryz.func339.trans (congrArg some (by kernel_rfl))
 f343:=Tryz.func354.trans (congrArg some (by kernel_rfl))
 t0:=amg
 a0:=Tryz.isAgg0
 z0:=Tryz.sizeOf0
 v0:=amw
 t3:=amf
 a3:=Tryz.isAgg3
 z3:=Tryz.sizeOf3
 v3:=amv
 t4:=ame
 a4:=Tryz.isAgg4
 z4:=Tryz.sizeOf4
 v4:=Tryz.zeroValue4
 t5:=amd
 a5:=Tryz.isAgg5
 z5:=Tryz.sizeOf5
 v5:=amu
 t9:=alf
 a9:=Tryz.isAgg9
 z9:=Tryz.sizeOf9
 v9:=amt
 t28:=Tryz.underlying30
 a28:=Tryz.isAgg30
 z28:=Tryz.sizeOf30
 v28:=Tryz.zeroValue30
 t46:=Tryz.underlying248
 a46:=Tryz.isAgg248
 z46:=Tryz.sizeOf248
 v46:=Tryz.zeroValue248
 t51:=alT
 a51:=Tryz.isAgg349
 z51:=Tryz.sizeOf349
 v51:=Tryz.zeroValue349
 t53:=Tryz.underlying147
 a53:=Tryz.isAgg147
 z53:=Tryz.sizeOf147
 v53:=Tryz.zeroValue147
 t131:=Tryz.underlying238
 a131:=Tryz.isAgg238
 z131:=Tryz.sizeOf238
 v131:=Tryz.zeroValue238
 t182:=Tryz.underlying425
 a182:=Tryz.isAgg425
 z182:=Tryz.sizeOf425
 v182:=Tryz.zeroValue425
 t183:=Tryz.underlying426
 a183:=Tryz.isAgg426
 z183:=Tryz.sizeOf426
 v183:=Tryz.zeroValue426
 t218:=Tryz.underlying450
 a218:=Tryz.isAgg450
 z218:=Tryz.sizeOf450
 v218:=Tryz.zeroValue450
 t222:=Tryz.underlying281
 a222:=Tryz.isAgg281
 z222:=Tryz.sizeOf281
 v222:=Tryz.zeroValue281
 t228:=Tryz.underlying466
 a228:=Tryz.isAgg466
 z228:=Tryz.sizeOf466
 v228:=Tryz.zeroValue466
 t229:=Tryz.underlying467
 a229:=Tryz.isAgg467
 z229:=Tryz.sizeOf467
 v229:=Tryz.zeroValue467}
end Go.Proofs
namespace Go.Nx
open Go Go.Proofs Go.Sort
def VY{a:az}{b c:Nat}{x:Int}:cR a b c (aC x)↔a.w.cell? ⟨b,c,none⟩=some (.int .i64 x):=by
 simp only[aC,cR,aB,and_true];constructor
 .grind
 .intro h;exact⟨_,h,rfl,rfl⟩
def A4{a:az}{b:Nat}:∀ {off:Nat} {xs:List Int},bE a b 1 off (xs.map aC)↔ ∀j x,xs[j]?=some x->a.w.cell? ⟨b,off+j,none⟩=some (.int .i64 x)
 |off,[]=>by simp[bE]
 |off,x::xs=>by
  simp only[ag9,bE,VY,A4 (off:=off+1) (xs:=xs)]
  constructor
  .grind
  .intro h
   refine⟨rfl,by simpa using h 0 x rfl,fun j y c=>?_⟩
   have:=h (j+1) y (by simpa using c)
   grind
def aaF{a:az}{H:List Ob}(l:aZ a H){h i:Nat}{t f:List Int}(u:H[h]?=some (.live i 1 (t.map aC))){d:fm}{b:Nat}(o:a.hs[h]?=some (d,i))(p:d.base=some b)(Q:f.length=t.length)(n:Nat)(g:Array Obj):
  ∃Γ',Γ'.w=akm (putRow (ajo .i64) (ajM a.w n) b d.off f.toArray) g/\a.cL Γ'/\aZ Γ' (H.set h (.live i 1 (f.map aC))):=by
 have⟨R,v,G,y⟩:=l.ob h _ u
 rw[o]at v
 cases v
 simp only[p]at y
 have⟨A,B,I,J,K,cells,T,⟨q,S,L⟩,M,U⟩:=y
 have N:=l.X b B
 have V:(putRow (ajo .i64) (ajM a.w n) b d.off f.toArray).heap[b]?=some (.cells (putCells (ajo .i64) d.off f.toArray cells) T q):=by grind [Sort.putRow,anu,ajM,Sort.onCells]
 have W:(putRow (ajo .i64) (ajM a.w n) b d.off f.toArray).heap.size=a.w.heap.size:=by simp
 have r:∀c,c<a.w.heap.size->c≠b->(akm (putRow (ajo .i64) (ajM a.w n) b d.off f.toArray) g).heap[c]?=a.w.heap[c]?:=by grind [(anp),Sort.putRow,anu,ajM]
 have C:(akm (putRow (ajo .i64) (ajM a.w n) b d.off f.toArray) g).heap[b]?=some (.cells (putCells (ajo .i64) d.off f.toArray cells) T q):=by grind [(anp)]
 have D:a.Le (a.bH (akm (putRow (ajo .i64) (ajM a.w n) b d.off f.toArray) g) h d i b):=
  pQ o (.inr ⟨rfl,rfl⟩) (fun c z m=>r c (l.F c z m) (fun e=>I z (e▸m)))
 have s:a.w.heap.size<=(akm (putRow (ajo .i64) (ajM a.w n) b d.off f.toArray) g).heap.size:=by simp
 have E:(putCells (ajo .i64) d.off f.toArray cells).size=cells.size:=by simp[putCells]
 refine⟨a.bH (akm (putRow (ajo .i64) (ajM a.w n) b d.off f.toArray) g) h d i b,rfl,⟨D,rfl,rfl,rfl,s,fun c hc k=>r c hc (fun e=>k (e▸B)),fun c z m=> .inl m,fun c k=>?_⟩,?_⟩
 .rcases k with k|k
  .exact .inl k
  grind
 .simp only[aio]at J
  refine am5 (Γ':=a.bH (akm (putRow (ajo .i64) (ajM a.w n) b d.off f.toArray) g) h d i b) l u o D rfl rfl (fun c=>alc) s p (fun c hc O=>r c hc O) (.inl p) (aiS N s)
   G (by simp;omega) K A _ T ⟨q,C,by rw[E];exact L⟩ (by rw[E];exact M) ?_
  rw[A,A4]
  intro j x P
  have Y:j<f.length:=(abW.1 P).1
  rw[show(a.bH (akm (putRow (ajo .i64) (ajM a.w n) b d.off f.toArray) g) h d i b).w=akm (putRow (ajo .i64) (ajM a.w n) b d.off f.toArray) g from rfl,cell_of C]
  grind [Sort.putCells]
def AV(x:Int):∀l,(kB x l).Perm (x::l)
 |[]=> .refl _
 |y::a=>by
  unfold kB
  split
  .exact .refl _
  .exact ((AV x a).cons y).trans (.swap x y a)
def Cz:∀l,(gv l).Perm l
 |[]=> .refl _
 |x::a=>(AV x _).trans ((Cz a).cons x)
def NE(x:Int):∀ {l:List Int},l.Pairwise (· <= ·)->(kB x l).Pairwise (· <= ·)
 |[],_=>by simp[kB]
 |y::b,h=>by
  rw[ahg]at h
  unfold kB
  split
  .grind [(ahg)]
  .rename_i c
   rw[ahg]
   refine⟨fun z a=>?_,NE x h.2⟩
   rcases aeM.1 ((AV x b).mem_iff.1 a)with rfl|a
   .omega
   grind
def Pr:∀l,(gv l).Pairwise (· <= ·)
 |[]=> .nil
 |x::a=>NE x (Pr a)
def ahf(l:List Int):(l.mergeSort fun x y=>decide (x<=y))=gv l:=by refine List.Perm.eq_of_pairwise (le:=(· <= ·)) (fun a b _ _ c d=>Int.le_antisymm c d) ?_ (Pr l) ((List.mergeSort_perm l _).trans (Cz l).symm);grind [(List.pairwise_mergeSort)]
def SA:∀ {rows:List (List ab)} {l:List Int},oU rows=some l->rows=l.map aC
 |[],l,h=>by grind [oU]
 |r::c,l,h=>by
  unfold oU at h
  split at h
  .grind
  .rename_i n d a
   cases a
   split at h
   .rename_i e b
    cases h
    rw[SA b]
    rfl
   .cases h
  .cases h
def Xs:enters aaG 191=true:=by kernel_rfl
def K7{p:List aw}{H:List Ob}{r:aw}{q:List Ob}(h:uh p H=some (r,q)):Call aaG 191 p H r q:=by
 unfold uh at h;split at h
 case h_2=>cases h
 rename_i l;refine⟨Xs,fun c g D hc=>?_⟩;simp only[bT,aL]at hc;obtain⟨y,Y,Z,i,rfl⟩:=hc;obtain rfl:D= #[y]:=by grind
 unfold DT at h;split at h
 .cases h;simp only[aB]at i;obtain⟨rfl,_⟩:=i;refine(alR Tryz.Kf none 0 c.w).mono fun e s ⟨d,f⟩=>?_;subst d f;exact⟨_,c,rfl,rfl,.refl c,g,⟨#[],rfl,rfl⟩⟩
 .rename_i m E aa;split at h
  case h_2=>cases h
  rename_i rows F;split at h
  case h_2=>cases h
  rename_i l G;split at h
  case isFalse=>cases h
  rename_i t;cases h;simp only[abR,akv,akQ]at t;obtain⟨rfl,ab⟩:=t;have I:=SA G;subst I;have k:=eP F;simp only[aB]at i;obtain⟨u,ad,a,cap,v,h2,rfl,J⟩:=i;have⟨i2,x,ae,K⟩:=g.ob m _ k;rw[v]at x;cases x;rcases akZ l.length with z|z
  .have L:l=[]:=ae4 z;subst L;refine(alR Tryz.Kf a cap c.w).mono fun e s ⟨d,f⟩=>?_;subst d f;refine⟨_,c,rfl,rfl,.refl c,?_,⟨#[],rfl,rfl⟩⟩
   have:H.set m (.live E 1 ((gv []).map aC))=H:=by
    apply aju;intro j;by_cases o:j=m
    .subst o;rw[ahr (abW.1 k).1,k];rfl
    .rw[aat (fun e=>o e.symm)]
   grind
  .rcases J rfl with⟨_,_,_,_,c5⟩|⟨b,a',c1,c2,c3,c4,c5⟩
   .omega
   .have M:=c5 (by omega);subst M c2;simp only[akX,aiB];have A:=K;simp only[c1]at A;have⟨N,O,af,P,b5,cells,ag,ah,Q,B⟩:=A;rw[N]at B Q;have b9:=A4.1 B;simp only[aio]at P;have R:Holds (ajo .i64) c.w b u.off l.toArray:=fun j o=>by grind [(dE.free)]
    have C:=Go.Proofs.Any.slices_Sort_int Tryz.Kf b u.off cap l c.w R (g.X b O) (by omega);rw[ahf]at C;refine C.mono fun e s ⟨d,n,S,f⟩=>?_;have⟨T,U,V,W⟩:=aaF g k v c1 (Cz l).length_eq n S;exact⟨_,T,d,by rw[U,f],V,W,⟨#[],rfl,rfl⟩⟩
 .cases h
end Go.Nx
namespace Go.Nx
open Go Go.Proofs Tryz
def aer:enters aaG 124=true:=by kernel_rfl
def Yy(args:Array Value)(w:World):(callFunc 196 args).run aaG w=((akj #[59,59] #[4] args).run aaG w).andThen fun v a=> .ok (.value v) a:=run_callFunc_extern func196 (by kernel_rfl) (by kernel_rfl) (by kernel_rfl) (by kernel_rfl) args w
def agi(args:Array Value)(w:World):(callFunc 264 args).run aaG w=((akj #[68,68] #[4] args).run aaG w).andThen fun v a=> .ok (.value v) a:=run_callFunc_extern func264 (by kernel_rfl) (by kernel_rfl) (by kernel_rfl) (by kernel_rfl) args w
def Gt{H:List Ob}{h v z:Nat}{r:List (List ab)}(e:H[h]?=some (.live v z r)):obj H h v=some (z,r):=by simp_all
def apo{F z:Nat}(hF:F=124/\z=8\/F=200/\z=2){vs:List aw}{H:List Ob}{r:aw}{H':List Ob}(h:nw z vs H=some (r,H')):Call aaG F vs H r H':=by
 rcases hF with⟨rfl,rfl⟩|⟨rfl,rfl⟩
 all_goals
  unfold nw at h;split at h
  case h_2=>cases h
  rename_i l ae n i t ap;split at h
  case h_2=>cases h
  rename_i z1 rows z2 x d T;split at h
  case isFalse=>cases h
  rename_i hc;simp only[abR,akv,akQ,decide_eq_true_eq,afa,ahI]at hc;obtain⟨⟨⟨⟨⟨⟨⟨⟨rfl,rfl⟩,c1⟩,c2⟩,c3⟩,c4⟩,c5⟩,c6⟩,c7⟩:=hc;have U:l≠t:=fun ai=>by rw[ai,Nat.beq_refl]at c2;cases c2
  obtain⟨a,rfl⟩:∃a:Nat,i=(a:Int):=⟨i.toNat,by omega⟩;have V:a<=n:=by omega
  have g:=eP d;have u:=eP T;have w1:adW.wrap ((n:Int)+1)=((n+1:Nat):Int):=cv (by omega);have w2:adW.wrap ((a:Int)+1)=((a+1:Nat):Int):=cv (by omega);have w:=eq_true c4;refine NK (by first|exact aer|exact aq) (by first|exact func124|exact func200) rfl (by simp[f124,f200]) fun Γ af=>?_;have E:=Pw af d;have aj:((a:Nat):Int).toNat=a:=by omega
  rw[aj]at h;refine cu.seq (cu.ev (f:=200) (np:=3) (by kernel_rfl) ?_);simp only[cr];simp[na,kF,ki];refine cu.seq (cu.ev (f:=200) (np:=3) (by kernel_rfl) ?_);simp only[cr];simp[na,kF,ki,g,V];refine cu.seq (cu.ev (f:=200) (np:=3) (by kernel_rfl) ?_);simp only[cr];simp[na,kF,ki];refine cu.seq (cu.ev (f:=200) (np:=3) (by kernel_rfl) ?_);simp only[cr];simp[na,kF,ki];refine cu.seq (cu.ev (f:=200) (np:=3) (by kernel_rfl) ?_);simp only[cr];simp[na,kF,ki];by_cases ak:a=n
  .subst ak;refine cu.wX (cu.ev (f:=200) (np:=3) (by kernel_rfl) ?_);simp only[cr];by_cases d2:a=rows.length
   .rw[if_pos d2]at h;injection h with h;injection h with b e;have e0:rows.take a++x::rows.drop a=rows++[x]:=by rw[d2,aiF,List.drop_length]
    rw[e0]at e;have k:(a+1<=rows.length)=False:=eq_false (by omega);have o:a+1<=maxLen:=by unfold maxLen;omega
    have p:(a+1)*16<=140737488355328/\(a+1)*32<=140737488355328:=by omega
    have A:rows.take a=rows:=by rw[d2,aiF]
    simp[na,kF,ki,g,u,w,k,o,p,A,c1];intro m y W C;obtain⟨G,j1,j2,j3⟩:=W.wZ;rw[<-b, <-e];exact⟨G,j1,j2,j3,lI j2.le _ _ C⟩
   .rw[if_neg d2]at h;injection h with h;injection h with b e;have k:a+1<=rows.length:=by omega
    have X:(rows.take a).drop a=[]:=by simp
    rw[X]at e;have e2:dT rows a [x]=rows.take a++x::rows.drop (a+1):=by simp[dT]
    simp[na,kF,ki,g,u,w,k,e2];intro m y W C;rw[<-b, <-e];exact⟨m,rfl,.refl m,W,C⟩
  have al:a<n:=by omega
  have dn:((a:Int)=n)=False:=eq_false (by omega);refine cu.seq (cu.ev (f:=200) (np:=3) (by kernel_rfl) ?_);simp only[cr];simp[na,kF,ki,dn];obtain⟨c,q,ar,au⟩:=afd af d;have s:0<rows.length:=by omega
  refine cu.aK [0,1,2,7,8] ?_;simp;refine cu.sq (cu.seq ?_);apply AG 200 4
  .decide
  .rfl
  .rfl
  simp[-ad0,wj,kF,ki,w1];first
  |refine⟨_,_,jF.cap (jz p9.2.2.2.2.2.2.2.2.1).1 rfl d s q,?_⟩
  |refine⟨_,_,jF.cap (jz p9.2.2.2.2.2.2.1).1 rfl d s q,?_⟩
  simp[-ad0,wj];refine cu.aK [0,1,2,7,8,31] ?_;simp[-ad0];refine cu.cond (v:=decide (c<n+1)) rfl (fun ag=>?_) (fun ah=>?_)
  .have ag:c<n+1:=of_decide_eq_true ag;have hn:n=rows.length:=by omega
   rw[if_pos hn]at h;injection h with h;injection h with b e;have k:n<=rows.length:=by omega
   have o:a<=rows.length:=by omega
   refine cu.seq ?_;apply AG 200 8
   .decide
   .rfl
   .rfl
   have w3:adW.wrap (((n+1:Nat):Int)-(a:Int))=((n+1-a:Nat):Int):=by rw[wrap_i64]<;>omega
   simp[-ad0,wj,kF,ki,w1,w3,g,V];first
   |refine⟨_,_,jF.NS p9.2.2.2.2.2.2.2.2.1 JP.1 rfl rfl d o q (by omega) (by omega) (by omega) (by decide) (fun r b=>E r (ajA b)) rfl (by decide),?_⟩
   |refine⟨_,_,jF.NS p9.2.2.2.2.2.2.1 JP.1 rfl rfl d o q (by omega) (by omega) (by omega) (by decide) (fun r b=>E r (ajA b)) rfl (by decide),?_⟩
   have Z:((n+1-a:Nat):Int).toNat=n+1-a:=by omega
   rw[Z];have X:a+(n+1-a)=n+1:=by omega
   rw[X];first
   |obtain⟨Y,j⟩:=eg (rows.take a++ahv (n+1-a) [I 0,I 0])
    rw[j]
   |obtain⟨Y,j⟩:=eg (rows.take a++ahv (n+1-a) [I 0,I 0,I 0,B false,B false,B false,B false,B false])
    rw[j]
   have D:Y.length=n+1:=by rw[<-j];simp;omega
   refine cu.aK [0,1,2,7,9] ?_;have b0:=KW g;have b2:=KW u;obtain⟨N,J⟩:=eg H.length;rw[J]at b0 b2|-;have q0:=fun K=>(show(H++[K])[l]?=H[l]? from abE (by omega)).trans g;have C:=fun K=>(show(H++[K])[t]?=H[t]? from abE (by omega)).trans u;have qN:∀K,(H++[K])[N]?=some K:=fun K=>by rw[<-J];simp
   have sN:∀K L,(H++[K]).set N L=H++[L]:=fun K L=>by rw[<-J];simp
   have p:a<=n+1:=by omega
   have A:a+(n+1-a)<=n+1:=by omega
   have M:([x]:List (List ab)).take (n+1-a)=[x]:=acu (by simp;omega);simp[-ad0];obtain⟨Y2,aa⟩:=eg (dT Y a [x]);have am:Y2.length=n+1:=by rw[<-aa];simp[dT,D];omega
   have O:(rows.drop a).take (n-a)=rows.drop a:=acu (by simp;omega);have k7:(rows.drop a).take (n+1-(a+1))=rows.drop a:=acu (by simp;omega);have k8:a+1<=n+1:=by omega
   have k9:a+1+(n+1-(a+1))<=n+1:=by omega
   have P:a+(n-a)<=rows.length:=by omega
   have ad:a+1+(n-a)<=n+1:=by omega
   have kd:=eq_true fun r (b:r∈rows.drop a)=>E r (ajY b);have fin:dT Y2 (a+1) (rows.drop a)=rows.take a++x::rows.drop a:=by rw[<-aa, <-j];exact adz o (by rw[als];omega)
   refine cu.ev (f:=200) (np:=3) (by kernel_rfl) ?_;simp only[cr];simp[-ad0,na,kF,ki,z8,w2,q0,C,qN,sN,D,aa,am,w,k,o,p,M,O,k8,ad,kd,fin,V,copyV];intro m y g1 Q;obtain⟨G,j1,j2,j3,j4⟩:=ab8 (len:=n+1) g1 (Gt (q0 _)) (Gt (qN _)) (by omega);have eH:∀z R,((H++[Ob.live 0 z R]).set l (.live (ae+1) z R)).set N .dead=H.set l (.live (ae+1) z R)++[.dead]:=fun z R=>by rw[akk _ _ (by omega),ajw _ _ (by simp;omega)];simp[J]
   rw[eH,e]at j3;rw[<-b];exact⟨G,j1,j2,j3,j4 y Q⟩
  .have ah:¬(c<n+1):=of_decide_eq_false ah;refine cu.skip (.inl ⟨rfl,?_⟩);refine cu.aK [0,1,2,7,8] ?_;simp[-ad0];refine cu.seq ?_;apply AG 200 4
   .decide
   .rfl
   .rfl
   simp[-ad0,wj,kF,ki,w1];first
   |refine⟨_,_,jF.upto p9.2.2.2.2.2.2.2.2.1 rfl rfl d s q ⟨by omega,by omega⟩,?_⟩
   |refine⟨_,_,jF.upto p9.2.2.2.2.2.2.1 rfl rfl d s q ⟨by omega,by omega⟩,?_⟩
   simp[-ad0];refine cu.aK [0,1,2,7,8] ?_;simp[-ad0];refine cu.sq (cu.seq ?_);apply AG 200 6
   .decide
   .rfl
   .rfl
   have k:a+1<=n+1:=by omega
   have p:a<=n+1:=by omega
   have Z:((n+1:Nat):Int).toNat=n+1:=by omega
   simp[-ad0,wj,kF,ki,w2,g,k,Z];first
   |refine⟨_,_,jF.apart p9.2.2.2.2.2.2.2.2.1 rfl agi rfl rfl T d U.symm (by decide) (by simp) s (by decide) (by omega),?_⟩
   |refine⟨_,_,jF.apart p9.2.2.2.2.2.2.1 rfl Yy rfl rfl T d U.symm (by decide) (by simp) s (by decide) (by omega),?_⟩
   simp[-ad0,wj];refine cu.aK [0,1,2,7,8,68] ?_;simp[-ad0];obtain⟨Y,j⟩:=eg (dT rows (a+1) ((rows.drop a).take (n-a)));have tl:((rows.drop a).take (n-a)).length=n-a:=by simp;omega
   have D:n+1<=Y.length:=by rw[<-j];simp[dT];omega
   have fin:dT Y a [x]=rows.take a++x::((rows.take n).drop a++rows.drop (n+1)):=by rw[<-j];exact Xq al c1
   have g0:∀K,(H.set l K)[l]?=some K:=fun K=>ahr (abW.1 g).1;have Q:=fun K=>(show(H.set l K)[t]?=H[t]? from aat U).trans u;have A:a+(n+1-a)=n+1:=by omega
   have M:([x]:List (List ab)).take (n+1-a)=[x]:=acu (by simp;omega);have O:min (n-a) (n+1-a)=n-a:=by omega
   have k7:a+(n-a)<=rows.length:=by omega
   have k8:a+1<=rows.length:=by omega
   have k9:0<n-a:=by omega
   have kd:=eq_true fun r (b:r∈(rows.drop a).take (n+1-a))=>E r (ajY (ajA b));refine cu.ev (f:=200) (np:=3) (by kernel_rfl) ?_;simp only[cr];by_cases d3:n=rows.length
   .rw[if_pos d3]at h;injection h with h;injection h with b e;have P:(n+1<=rows.length)=False:=eq_false (by omega);simp[-ahr,-ad0,na,kF,ki,z8,w2,g,k,p,A,M,O,k7,k8,k9,P,w,copyV,uL,j,D,fin,g0,Q];intro m y S p2;have e8:(rows.take n).drop a++rows.drop (n+1)=rows.drop a:=by rw[d3,aiF,ajD (i:=rows.length+1) (by omega),aeU]
    rw[e8]at S;obtain⟨G,j1,j2,j3,j4⟩:=aay S (Gt (g0 _));obtain⟨an,i1,i2,i3⟩:=j3.wZ;rw[ajN]at i3;rw[<-b, <-e];exact⟨an,i1.trans j1,j2.trans i2,i3,lI i2.le _ _ (j4 _ y p2)⟩
   .rw[if_neg d3]at h;injection h with h;injection h with b e;have P:n+1<=rows.length:=by omega
    have ad:((rows.drop a).take (n+1-a)).take (n-a)=(rows.drop a).take (n-a):=by rw[List.take_take,O]
    have ao:a+1+(n-a)<=rows.length:=by omega
    simp[-ahr,-ad0,na,kF,ki,z8,w2,g,k,p,A,M,P,ad,ao,kd,w,copyV,j,D,fin,g0,Q];intro m y S p2;rw[<-b, <-e];exact⟨m,rfl,.refl m,S,p2⟩
def QM:=@apo 124 8 (.inl ⟨rfl,rfl⟩)
def Od:=@apo 200 2 (.inr ⟨rfl,rfl⟩)
end Go.Nx
namespace Go.Proofs.AsQ
open Go.RowKit Go.Extern.Stop Go.Stop Go.Extern Go.Proofs
def afe(t:Value)(w:World):Calls aaG 98 #[.nilIface,t] w fun e a=>e= .returned (.bool false)/\a=w:=by
 go_enter Tryz.func98,Tryz.ntmps98
 go_wp2
 go_ret
 simp
def abT(t:Addr)(w:World):(ReflectliteValue.unpack (.iface 214 (.pointer (some t)))).run aaG w
  = .ok (.agg #[.pointer (some ⟨10,214,none⟩),.pointer (some ⟨w.heap.size,0,none⟩),.int .u64 150]) (w.alloc (.cells #[.pointer (some t)] 214)):=by kernel_rfl
def afG (a:Addr) (w:World):(ReflectliteValue.methodAny (ReflectliteValue.valueError "reflectlite.Value.Type" 0) (fun t _ _ _=>ReflectliteType.toType t) #[.agg #[.pointer (some ⟨10,214,none⟩),.pointer (some a),.int .u64 150]]).run aaG w
  = .ok (.iface 366 (.agg #[.pointer (some ⟨10,214,none⟩)])) w:=by kernel_rfl
def WO(w:World):((ReflectliteType.abiMethod fun t=>alO (fun a:Nat=>ajo ajf (a:Int)) (Rtype.kind t)) #[.pointer (some ⟨10,214,none⟩)]).run aaG w= .ok (.int .u8 22) w:=by kernel_rfl
def aaM(w:World):((ReflectliteType.abiMethod fun t=>alO (fun a:Nat=>ajo ajf (a:Int)) (Rtype.kind t)) #[.pointer (some ⟨10,40,none⟩)]).run aaG w= .ok (.int .u8 2) w:=by kernel_rfl
def LB(z:Sem Value)(f:TypeId->Addr->Nat->Nat->Sem Value)(v:Value):
  ReflectliteValue.method z f #[v]=(do match<-ReflectliteValue.parts v with|none=>z|some (t,a,b)=>f t a b (b % 32)):=rfl
def apc(a:Addr)(w:World):(ReflectliteValue.parts (.agg #[.pointer (some ⟨10,214,none⟩),.pointer (some a),.int .u64 150])).run aaG w= .ok (some (214,a,150)) w:=by kernel_rfl
def XV(a p:Addr)(W:World)(b:W.cell? a=some (.pointer (some p))):
  (ReflectliteValue.method (ReflectliteValue.valueError "reflectlite.Value.IsNil" 0) ReflectliteValue.isNil #[.agg #[.pointer (some ⟨10,214,none⟩),.pointer (some a),.int .u64 150]]).run aaG W= .ok (.bool false) W:=by
 rw[LB]
 simp only[aiT,apc,ajd]
 simp[ReflectliteValue.isNil,loadVar,isAgg,underlying,Tryz.underlying214,b,ajd]
def agH (h:Value) (w:World):(alt 614 366 (.agg #[h]) "Kind").run aaG w= .ok (377,h) w:=by kernel_rfl
def V6 (h:Value) (w:World):(alt 614 366 (.agg #[h]) "Elem").run aaG w= .ok (392,.agg #[h]) w:=by kernel_rfl
def Th (h:Value) (w:World):(alt 614 366 (.agg #[h]) "Implements").run aaG w= .ok (393,.agg #[h]) w:=by kernel_rfl
def SI (h:Value) (w:World):(alt 614 366 (.agg #[h]) "AssignableTo").run aaG w= .ok (390,.agg #[h]) w:=by kernel_rfl
def VU (h:Value) (w:World):(alt 614 288 h "Unwrap").run aaG w= .ok (384,h) w:=by kernel_rfl
def TD(w:World):(ReflectliteType.method ReflectliteType.elem #[.agg #[.pointer (some ⟨10,214,none⟩)]]).run aaG w= .ok (.iface 366 (.agg #[.pointer (some ⟨10,40,none⟩)])) w:=by kernel_rfl
def V5 (w:World):(ReflectliteType.relation "Implements" ReflectliteType.implements_ #[.agg #[.pointer (some ⟨10,40,none⟩)],.iface 366 (.agg #[.pointer (some ⟨10,139,none⟩)])]).run aaG w= .ok (.bool true) w:=by kernel_rfl
def YP(v:Value)(w:World):(ReflectliteType.typeOf #[.iface 288 v]).run aaG w= .ok (.iface 366 (.agg #[.pointer (some ⟨10,288,none⟩)])) w:=by kernel_rfl
def SH(v:Value)(w:World):(ReflectliteType.typeOf #[.iface 40 v]).run aaG w= .ok (.iface 366 (.agg #[.pointer (some ⟨10,40,none⟩)])) w:=by kernel_rfl
def ZT (w:World):(ReflectliteType.relation "AssignableTo" ReflectliteType.assignableTo #[.agg #[.pointer (some ⟨10,288,none⟩)],.iface 366 (.agg #[.pointer (some ⟨10,40,none⟩)])]).run aaG w= .ok (.bool false) w:=by kernel_rfl
def adI (w:World):(ReflectliteType.relation "AssignableTo" ReflectliteType.assignableTo #[.agg #[.pointer (some ⟨10,40,none⟩)],.iface 366 (.agg #[.pointer (some ⟨10,40,none⟩)])]).run aaG w= .ok (.bool true) w:=by kernel_rfl
def agT(n:Int)(w:World):(ReflectliteValue.unpack (.iface 40 (.int .i64 n))).run aaG w
  = .ok (.agg #[.pointer (some ⟨10,40,none⟩),.pointer (some ⟨w.heap.size,0,none⟩),.int .u64 130]) (w.alloc (.cells #[.int .i64 n] 40)):=by kernel_rfl
def Tw(w:World):(Rtype.elem? 214).run aaG w= .ok (some 40) w:=by kernel_rfl
def mkE(p:Addr)(w:World):(ReflectliteValue.mk 40 p ReflectliteValue.flagAddr).run aaG w= .ok (.agg #[.pointer (some ⟨10,40,none⟩),.pointer (some p),.int .u64 386]) w:=by kernel_rfl
def Ys(a p:Addr)(W:World)(b:W.cell? a=some (.pointer (some p))):
  (ReflectliteValue.method (ReflectliteValue.valueError "reflectlite.Value.Elem" 0) ReflectliteValue.elem #[.agg #[.pointer (some ⟨10,214,none⟩),.pointer (some a),.int .u64 150]]).run aaG W
   = .ok (.agg #[.pointer (some ⟨10,40,none⟩),.pointer (some p),.int .u64 386]) W:=by
 rw[LB]
 simp only[aiT,apc,ajd]
 simp[ReflectliteValue.elem,loadVar,isAgg,underlying,Tryz.underlying214,b,ajd,Tw,mkE]
def rls(v x:Value):ReflectliteValue.set #[v,x]=(do
  let(some (c,a,d),some (src,b,_)):=(<-ReflectliteValue.parts v, <-ReflectliteValue.parts x)
   |unsupported (.noEntry "extern/(internal/reflectlite.Value).Set.zeroValue")
  if d / ReflectliteValue.flagAddr % 2==0 then unsupported (.noEntry "extern/(internal/reflectlite.Value).Set.unaddressable")
  let val<-loadVar src b
  if<-Rtype.directlyAssignable c src then storeVar c a val
  else if<-Rtype.implements c src then
   if(<-Rtype.kind src)==20 then
    match val with
    | .nilIface=>unsupported (.noEntry "extern/reflectlite: a nil value of one interface type handed on as a value of another")
    |_=>storeVar c a val
   else storeVar c a (.iface src val)
  else panicString ("reflectlite.Set: value of type " ++(<-Rtype.spelt src)++ " is not assignable to type " ++(<-Rtype.spelt c))
  pure (.tuple #[])):=rfl
def adX(a:Addr)(w:World):(ReflectliteValue.parts (.agg #[.pointer (some ⟨10,40,none⟩),.pointer (some a),.int .u64 386])).run aaG w= .ok (some (40,a,386)) w:=by kernel_rfl
def Ve(a:Addr)(w:World):(ReflectliteValue.parts (.agg #[.pointer (some ⟨10,40,none⟩),.pointer (some a),.int .u64 130])).run aaG w= .ok (some (40,a,130)) w:=by kernel_rfl
def aaO(w:World):(Rtype.directlyAssignable 40 40).run aaG w= .ok true w:=by kernel_rfl
def jO(a b:Addr)(n:Int)(c:Value)(W:World)(d:W.cell? b=some (.int .i64 n))(e:W.cell? a=some c)(f:W.frozen? a=false):
  (ReflectliteValue.set #[.agg #[.pointer (some ⟨10,40,none⟩),.pointer (some a),.int .u64 386],.agg #[.pointer (some ⟨10,40,none⟩),.pointer (some b),.int .u64 130]]).run aaG W
   = .ok (.tuple #[]) (W.setCell a (.int .i64 n)):=by
 rw[rls]
 simp only[aiT,adX,Ve,ajd]
 simp[ReflectliteValue.flagAddr,loadVar,isAgg,underlying,Tryz.underlying40,d,ajd,aaO,storeVar,Value.cells,storeCells,Addr.add]
 rw[run_store aaG W a _ _ (by rfl)]
 grind
def Uo(v:Value)(a:TypeId)(w:World):(alv (.iface 288 v) a 371 true).run aaG w= .ok (.tuple #[.nilIface,.bool false]) w:=run_typeAssert_lacksB Tryz.underlying371 (by kernel_rfl) (by kernel_rfl) v a w
def VR(v:Value)(a:TypeId)(w:World):(alv (.iface 288 v) a 374 true).run aaG w= .ok (.tuple #[.iface 288 v,.bool true]) w:=run_typeAssert_hasB Tryz.underlying374 (by kernel_rfl) v a w
end Go.Proofs.AsQ
namespace Go.Proofs.AsQ
open Go.RowKit Go.Extern.Stop Go.Stop Go.Extern Go.Proofs
def adj(a fo:Nat)(v:Value)(w:World)(c:w.cell? ⟨a,fo+1,none⟩=some v):Calls aaG 384 #[.pointer (some ⟨a,fo,none⟩)] w fun e b=>e= .returned v/\b=w:=by
 go_enter Tryz.func384,Tryz.ntmps384
 go_wp2
 go_ret
 simp
set_option maxHeartbeats 4000000 in
set_option maxRecDepth 100000 in
def XM(a fo:Nat)(t:Addr)(n:Int)(b:Value)(w:World)(c:w.cell? ⟨0,0,none⟩=some (.iface 366 (.agg #[.pointer (some ⟨10,139,none⟩)])))(d:w.cell? ⟨a,fo+1,none⟩=some (.iface 40 (.int .i64 n)))(e:w.cell? t=some b)(g:w.frozen? t=false):
  Calls aaG 98 #[.iface 288 (.pointer (some ⟨a,fo,none⟩)),.iface 214 (.pointer (some t))] w fun ev i=>ev= .returned (.bool true)/\i=((((w.alloc (.cells #[.pointer (some t)] 214)).alloc (.cells #[.pointer (some ⟨10,214,none⟩),.pointer (some ⟨w.heap.size,0,none⟩),.int .u64 150] 296)).alloc (.cells #[.pointer (some ⟨10,214,none⟩),.pointer (some ⟨w.heap.size,0,none⟩),.int .u64 150] 296)).alloc (.cells #[.int .i64 n] 40)).setCell t (.int .i64 n):=by
 have o:=@run_callFunc_extern aaG 161 _ (fun args=>ReflectliteValue.unpack (args.getD 0 (.tuple #[]))) Tryz.func161 (by kernel_rfl) (by kernel_rfl) (by kernel_rfl) (by kernel_rfl)
 have p:=@run_callFunc_extern aaG 162 _ (ReflectliteValue.methodAny (ReflectliteValue.valueError "reflectlite.Value.Type" 0) (fun t _ _ _=>ReflectliteType.toType t)) Tryz.func162 (by kernel_rfl) (by kernel_rfl) (by kernel_rfl) (by kernel_rfl)
 have q:=@run_callFunc_extern aaG 163 _ (ReflectliteValue.method (ReflectliteValue.valueError "reflectlite.Value.IsNil" 0) ReflectliteValue.isNil) Tryz.func163 (by kernel_rfl) (by kernel_rfl) (by kernel_rfl) (by kernel_rfl)
 have r:=@run_callFunc_extern aaG 377 _ (ReflectliteType.abiMethod fun t=>do pure (.int .u8 (<-Rtype.kind t))) Tryz.func377 (by kernel_rfl) (by kernel_rfl) (by kernel_rfl) (by kernel_rfl)
 have s:=@run_callFunc_extern aaG 392 _ (ReflectliteType.method ReflectliteType.elem) Tryz.func392 (by kernel_rfl) (by kernel_rfl) (by kernel_rfl) (by kernel_rfl)
 have u:=@run_callFunc_extern aaG 393 _ (ReflectliteType.relation "Implements" ReflectliteType.implements_) Tryz.func393 (by kernel_rfl) (by kernel_rfl) (by kernel_rfl) (by kernel_rfl)
 have v:=@run_callFunc_extern aaG 240 _ ReflectliteType.typeOf Tryz.func240 (by kernel_rfl) (by kernel_rfl) (by kernel_rfl) (by kernel_rfl)
 have x:=@run_callFunc_extern aaG 390 _ (ReflectliteType.relation "AssignableTo" ReflectliteType.assignableTo) Tryz.func390 (by kernel_rfl) (by kernel_rfl) (by kernel_rfl) (by kernel_rfl)
 have y:=@run_callFunc_extern aaG 241 _ (ReflectliteValue.method (ReflectliteValue.valueError "reflectlite.Value.Elem" 0) ReflectliteValue.elem) Tryz.func241 (by kernel_rfl) (by kernel_rfl) (by kernel_rfl) (by kernel_rfl)
 have z:=@run_callFunc_extern aaG 242 _ ReflectliteValue.set Tryz.func242 (by kernel_rfl) (by kernel_rfl) (by kernel_rfl) (by kernel_rfl)
 have A:=YP
 have B:=SH
 have C:=SI
 have D:=ZT
 have E:=adI
 have F:=agT n
 have G:=abT
 have f7:=afG
 have H:=agH
 have I:=V6
 have J:=Th
 have K:=VU
 have L:=WO
 have M:=Uo
 have N:=VR
 have O:=aaM
 have P:=TD
 have Q:=V5
 have R:=XV ⟨w.heap.size,0,none⟩ t ((w.alloc (.cells #[.pointer (some t)] 214)).alloc (.cells #[.pointer (some ⟨10,214,none⟩),.pointer (some ⟨w.heap.size,0,none⟩),.int .u64 150] 296)) (by simp)
 have j:0<w.heap.size:=by
  rcases akZ w.heap.size with k|h
  .simp[World.cell?,k]at c
  .exact h
 have S:((w.alloc (.cells #[.pointer (some t)] 214)).alloc (.cells #[.pointer (some ⟨10,214,none⟩),.pointer (some ⟨w.heap.size,0,none⟩),.int .u64 150] 296)).cell? ⟨0,0,none⟩=some (.iface 366 (.agg #[.pointer (some ⟨10,139,none⟩)])):=by
  rw[ai6 _ _ ⟨0,0,none⟩ (by simp),ai6 _ _ ⟨0,0,none⟩ j];exact c
 have f:t.block<w.heap.size:=by
  rcases aj7 t.block w.heap.size with h|h
  .exact h
  .simp[World.cell?,ajE h]at e
 have l:a<w.heap.size:=by
  rcases aj7 a w.heap.size with h|h
  .exact h
  .simp[World.cell?,ajE h]at d
 have m:(((w.alloc (.cells #[.pointer (some t)] 214)).alloc (.cells #[.pointer (some ⟨10,214,none⟩),.pointer (some ⟨w.heap.size,0,none⟩),.int .u64 150] 296)).alloc (.cells #[.pointer (some ⟨10,214,none⟩),.pointer (some ⟨w.heap.size,0,none⟩),.int .u64 150] 296)).cell? ⟨a,fo+1,none⟩=some (.iface 40 (.int .i64 n)):=by
  rw[ai6 _ _ ⟨a,fo+1,none⟩ (by simp;omega),ai6 _ _ ⟨a,fo+1,none⟩ (by simp;omega),ai6 _ _ ⟨a,fo+1,none⟩ l];exact d
 have T:=adj a fo _ (((w.alloc (.cells #[.pointer (some t)] 214)).alloc (.cells #[.pointer (some ⟨10,214,none⟩),.pointer (some ⟨w.heap.size,0,none⟩),.int .u64 150] 296)).alloc (.cells #[.pointer (some ⟨10,214,none⟩),.pointer (some ⟨w.heap.size,0,none⟩),.int .u64 150] 296)) m
 have el:=Ys ⟨w.heap.size,0,none⟩ t (((w.alloc (.cells #[.pointer (some t)] 214)).alloc (.cells #[.pointer (some ⟨10,214,none⟩),.pointer (some ⟨w.heap.size,0,none⟩),.int .u64 150] 296)).alloc (.cells #[.pointer (some ⟨10,214,none⟩),.pointer (some ⟨w.heap.size,0,none⟩),.int .u64 150] 296)) (by rw[ai6 _ _ ⟨w.heap.size,0,none⟩ (by simp;omega),ai6 _ _ ⟨w.heap.size,0,none⟩ (by simp),aly _ _ _ _ (by simp)];rfl)
 have U:=jO t ⟨w.heap.size+1+1+1,0,none⟩ n b ((((w.alloc (.cells #[.pointer (some t)] 214)).alloc (.cells #[.pointer (some ⟨10,214,none⟩),.pointer (some ⟨w.heap.size,0,none⟩),.int .u64 150] 296)).alloc (.cells #[.pointer (some ⟨10,214,none⟩),.pointer (some ⟨w.heap.size,0,none⟩),.int .u64 150] 296)).alloc (.cells #[.int .i64 n] 40))
  (by rw[aly _ _ _ _ (by simp)];rfl)
  (by rw[ai6 _ _ t (by simp;omega),ai6 _ _ t (by simp;omega),ai6 _ _ t (by simp;omega),ai6 _ _ t f];exact e)
  (by rw[akA _ _ t (by simp;omega),akA _ _ t (by simp;omega),akA _ _ t (by simp;omega),akA _ _ t (Nat.ne_of_lt f)];exact g)
 go_enter Tryz.func98,Tryz.ntmps98
 go_wp2
 refine wp_loop_rounds 2 ?_
 rw[rounds_succ]
 go_wp2
 rw[rounds_succ]
 go_wp2
 go_ret
 simp
end Go.Proofs.AsQ
namespace Go.Nx
open Go Go.Proofs Tryz
def MQ:enters aaG 98=true:=by kernel_rfl
def Wp{a:az}{H:List Ob}(i:aZ a H){h f:Nat}{x:ab}{n:Int}(q:H[h]?=some (.live f 1 [[x]])){d:fm}{b:Nat}(l:a.hs[h]?=some (d,f))(m:d.base=some b){w:World}(o:a.w.heap.size<=w.heap.size)(y:w.os=a.w.os)(A:w.tape=a.w.tape)(B:w.output=a.w.output)
  (p:∀c,c<a.w.heap.size->c≠b->w.heap[c]?=a.w.heap[c]?) (C:∀cells T j,a.w.heap[b]?=some (.cells cells T j)->w.heap[b]?=some (.cells (cells.setIfInBounds d.off (.int .i64 n)) T j)):
  ∃Γ',Γ'.w=w/\a.cL Γ'/\aZ Γ' (H.set h (.live f 1 [[I n]])):=by
 obtain⟨O,r,D,s⟩:=i.ob h _ q
 rw[l]at r
 cases r
 simp only[m]at s
 obtain⟨t,u,E,G,J,cells,T,⟨j,K,P⟩,Q,R⟩:=s
 have L:=i.X b u
 have hc:=C _ _ _ K
 have v:a.Le (a.bH w h d f b):=pQ l (.inr ⟨rfl,rfl⟩) (fun c z k=>p c (i.F c z k) (fun e=>E z (e▸k)))
 refine⟨a.bH w h d f b,rfl,⟨v,y,A,B,o,fun c hc g=>p c hc (fun e=>g (e▸u)),fun c z k=> .inl k,fun c g=>?_⟩,?_⟩
 .rcases g with g|g
  .exact .inl g
  grind
 .have M:d.off<cells.size:=by grind
  refine am5 (Γ':=a.bH w h d f b) i q l v rfl rfl (fun c=>alc) o m (fun c hc N=>p c hc N) (.inl m) (aiS L o)
   D G J t _ T ⟨j,hc,by grind⟩ (by grind) ?_
  rw[t]
  simp only[bE,cR,aB,and_true]
  refine⟨rfl,.int .i64 n,?_,rfl,rfl⟩
  rw[show(a.bH w h d f b).w=w from rfl,cell_of hc]
  simp[M]
def V9{o:List aw}{H:List Ob}{r:aw}{p:List Ob}(h:vj o H=some (r,p)):Call aaG 98 o H r p:=by
 unfold vj at h;split at h
 .cases h;refine⟨MQ,fun a d j hc=>?_⟩;simp only[bT,aL]at hc;obtain⟨y,N,O,f,k,P,l,m,rfl⟩:=hc;subst l;simp only[aB]at f;obtain⟨rfl,_⟩:=f;obtain rfl:j= #[.nilIface,k]:=by grind
  exact(AsQ.afe k a.w).mono fun e s ⟨i,g⟩=>⟨_,a,i,g.symm,.refl a,d,rfl,rfl⟩
 .rename_i hf vf i ve;split at h
  .rename_i z1 x1 n x2 Q t;cases h;refine⟨MQ,fun a d j hc=>?_⟩;simp only[bT,aL]at hc;obtain⟨y,N,O,f,k,P,l,m,rfl⟩:=hc;subst l;simp only[aB]at f m;obtain⟨ad,rfl,R,v1,q,S,i2,rfl,U⟩:=f;obtain⟨p2,rfl,u,v2,V,j1,j2,rfl,j4⟩:=m;obtain rfl:j= #[.iface 288 (.pointer q),.iface 214 (.pointer V)]:=by grind
   obtain⟨ae,x,k2,z⟩:=d.obj Q;rw[S]at x;cases x;obtain⟨k',A,l2,B⟩:=d.obj t;rw[j1]at A;cases A;obtain⟨b,W,rfl⟩:=U rfl;obtain⟨C,D,rfl⟩:=j4 rfl;simp only[W]at z;simp only[D]at B;obtain⟨m1,m2,m3,m4,m5,cells,T,m6,m7,E⟩:=z;obtain⟨n1,Y,n3,n4,n5,Z,T2,n6,n7,F⟩:=B;simp only[bE,cR,aB,and_true]at E F;obtain⟨_,⟨y1,c1,_⟩,y3,c2,z3,rfl,rfl,_⟩:=E;obtain⟨_,y5,c5,_⟩:=F;obtain⟨hF,I⟩:=d.G (0,1,[[.v (.iface 366 (.agg #[.pointer (some ⟨10,139,none⟩)]))]]) (by simp[sK]);simp only[bE,cR,aB,and_true]at I;obtain⟨_,y6,c6,rfl,_⟩:=I;have aa:u.off<Z.size:=by grind
   simp only[akX,aiB];refine(AsQ.XM b R.off ⟨C,u.off,none⟩ n y5 a.w c6 c2 c5 (n6.free aa)).mono fun e s ⟨i,g⟩=>?_;have af:=d.X C Y;have ag:∀(J K L M:Obj) c,c<a.w.heap.size->((((a.w.alloc J).alloc K).alloc L).alloc M).heap[c]?=a.w.heap[c]?:=fun J K L M c hc=>by grind [(heap_alloc_old)]
   obtain⟨ab,g1,g2,g3⟩:=Wp (n:=n) (w:=s) d (eP t) j1 D (by grind [alx]) (by rw[g];rfl) (by rw[g];rfl) (by rw[g];rfl)
    (fun c hc ah=>by
     grind [alx])
    (fun cells T fz hc=>by
     grind [alx])
   exact⟨_,ab,i,g1,g2,g3,rfl,rfl⟩
  .cases h
 .cases h
end Go.Nx
namespace Go.Nx
open Go Go.Proofs Tryz
def yD{f:FuncId}{h:List aw->List Ob->Option (aw×List Ob)}(e:tz.dF f=h){a:List aw}{H:List Ob}{r:aw}{b:List Ob}(c:tz.dF f a H=some (r,b)):h a H=some (r,b):=by grind
def ov:gU tz:={
 enters:=uI
 qS:=fun f b H r i c a=>by
  have d:f=52\/f=124\/f=191\/f=195\/f=200:=by
   have e:(qj.contains f||(sT 0).contains f)=true:=(Bool.and_eq_true_iff.1 c).2
   simpa[qj,sT]using e
  rcases d with rfl|rfl|rfl|rfl|rfl
  .exact absurd a (by simp[show tz.dF 52=fun _ _=>none by kernel_rfl])
  .exact QM (yD (h:=nw 8) (by kernel_rfl) a)
  .exact K7 (yD (h:=uh) (by kernel_rfl) a)
  .exact M0 (yD (h:=ue 4 [I 0,eW,I 0,I 0]) (by kernel_rfl) a)
  .exact Od (yD (h:=nw 2) (by kernel_rfl) a)
 kR:=fun g b h=>by
  have:(ajx g 147&&ajx 0 4)=true:=h
  simp at this
 follows:=wW
 code:=yJ}
section
variable [W]
def dv{a:Type}(p:a->Bool):Nat->List a->Int
 |_,[]=> -1
 |k,x::r=>if p x then k else dv p (k+1) r
def zd{a:Type}(p:a->Bool):∀(l:List a) (k:Nat),decide (0<=dv p k l)=l.any p
 |[],k=>rfl
 |x::r,k=>by
  unfold dv
  cases h:p x with
  |true=>simp[h]
  |false=>simp[h,zd p r (k+1)]
def Yj(l:List Int)(x:Int):(l.any fun y=>decide (y=x))=decide (x∈l):=by grind
def qX{a:Type}{p:a->Bool}:∀ {l:List a} (k:Nat),l.find? p=none->dv p k l= -1
 |[],k,_=>rfl
 |x::r,k,h=>by
  rw[akh]at h
  cases b:p x with
  |true=>grind
  |false=>rw[b]at h;simp only[dv,b];exact qX (k+1) h
def xI{a:Type}{p:a->Bool}{s:a}:∀ {l:List a} (k:Nat),l.find? p=some s->∃j:Nat,dv p k l=((k+j:Nat):Int)/\∃d:j<l.length,l[j]=s
 |[],k,h=>by simp at h
 |x::r,k,h=>by
  rw[akh]at h
  cases b:p x with
  |true=>rw[b]at h;cases h;exact⟨0,by simp[dv,b],by simp,rfl⟩
  |false=>
   rw[b]at h
   have⟨j,e,f,c⟩:=xI (k+1) h
   refine⟨j+1,?_,by simp;omega,by simpa using c⟩
   grind [dv]
def ach(l:List Int)(x:Int)(hm:l.length<=maxLen):aS tz ay 0 204 [.c (aG l),aa x]=some (aa (dv (fun y=>decide (y=x)) 0 l),[]):=by
 refine be func204 rfl ?_;simp[f204,underlying30,aG];refine iy (fun k:Nat=>[(7,aa l.length),(8,aa k),(0,.c (aG l)),(1,aa x)]) (fun k H=>H=[]/\k<=l.length/\dv (fun y=>decide (y=x)) 0 l=dv (fun y=>decide (y=x)) k (l.drop k)) (fun k=>l.length-k) ?_ 0 (by simp[aG]) (by simp) fun _=>rfl;rintro k e H ⟨b,d,h,i,_⟩ ⟨j,p,f⟩;subst j;by_cases a:k<l.length
 .have m:l.drop k=l[k]::l.drop (k+1):=agO a;have n:adW.wrap ((k:Int)+1)=((k+1:Nat):Int):=cv (by grind [maxLen]);rw[m]at f;by_cases g:l[k]=x
  .simp[b,d,h,i,aG,a,g];simp[f,dv,g]
  .have o:¬x=l[k]:=fun e=>g e.symm;simp[b,d,h,i,aG,a,o,n];grind [dv]
 .simp[b,d,aG,a];rw[f,aiv (by omega)];rfl
def Hd(l:List Int)(x:Int)(hm:l.length<=maxLen):aS tz ay 0 128 [.c (aG l),aa x]=some (aR (decide (x∈l)),[]):=by refine be func128 rfl ?_;have:=ach l x hm;simp[aG]at this;simp[f128,this,zd];rw[Yj]
def qu(l:List Int)(x:Int)(hm:l.length<=maxLen):aS tz ay 0 203 [.c (aG l),aa x]=some (aR (decide (x∈l)),[]):=by refine be func203 rfl ?_;have:=Hd l x hm;simp[aG]at this;simp[f203,this]
end
section
variable [W]
variable{g:FuncId}{caps:List ab}
def fY{α:Type}(p:Nat->α->Bool):Nat->List α->Int
 |_,[]=> -1
 |k,x::r=>if p k x then k else fY p (k+1) r
def jc{α:Type}(p:Nat->α->Bool):Nat->List α->Nat
 |k,[]=>k
 |k,x::r=>if p k x then k+1 else jc p (k+1) r
def IY{α:Type}(p:α->Bool):∀(l:List α) (k:Nat),fY (fun _=>p) k l=dv p k l
 |[],k=>rfl
 |x::r,k=>by simp only[fY,dv,IY p r]
variable{α:Type}{row:α->List ab}{arg:α->aw}{f bj n:Nat}
def pR(f:Nat)(row:α->List ab)(arg:α->aw):Prop:=(∃n,(f,n)∈ [(109,8),(251,2),(256,4),(332,2)]/\∀x,(row x).length=n/\arg x= .agg (row x))\/f=235/\∀x, ∃a,row x=[a]/\arg x= .c a
def OC(t:pR f row arg)(l:List α)(hm:l.length<=maxLen)(J:Nat->List Ob->Prop)(p:Nat->α->Bool)
  (hc:∀k (d:k<l.length) H,J k H->∃h,aO tz ay g (arg l[k]::caps.map .c) H=some (aR (p k l[k]),h)/\J (k+1) h) (H:List Ob) (z:J 0 H):
  ∃h,bB tz (ev tz) f [bh (l.map row),.c (.bF g caps)] H=some (aa (fY p 0 l),h)/\J (jc p 0 l) h:=by
 simp only[pR,aeM,aca,aiV,or_false]at t
 rcases t with⟨n,⟨rfl,rfl⟩|⟨rfl,rfl⟩|⟨rfl,rfl⟩|⟨rfl,rfl⟩,u⟩|⟨rfl,u⟩
 all_goals
  refine gj (by first|exact func109|exact func235|exact func251|exact func256|exact func332) rfl ?_
  simp[-aD,f109,f235,f251,f256,f332,underlying59,underlying30,underlying68,underlying65,underlying22]
  refine iy (fun k:Nat=>[(7,aa l.length),(8,aa k),(0,bh (l.map row)),(1,.c (.bF g caps))]) (fun k H=>J k H/\k<=l.length/\fY p 0 l=fY p k (l.drop k)/\jc p 0 l=jc p k (l.drop k)) (fun k=>l.length-k) ?_ 0 (by simp) (by simpa using z) fun _=>rfl
  rintro k e H⟨o,q,v,w,_⟩⟨x,B,i,j⟩
  by_cases d:k<l.length
  .have A:adW.wrap ((k:Int)+1)=((k+1:Nat):Int):=cv (by unfold maxLen at hm;omega)
   rw[agO d]at i j
   have⟨h,m,y⟩:=hc k d H x
   have b:=u l[k]
   first
   |have⟨b,r⟩:=b
    have s:=acu (aj8 b)
   |have⟨a,b,r⟩:=b
    have s:=r
   rw[r]at m
   cases hp:p k l[k]with
   |true=>
    rw[hp]at m
    simp[-aD,o,q,v,w,d,m,b,s]
    simp[i,j,fY,jc,hp]
    exact y
   |false=>
    rw[hp]at m
    simp[-aD,o,q,v,w,d,m,A,b,s]
    exact⟨k+1,by omega,by simp,y,by omega,by simpa[fY,hp]using i,by simpa[jc,hp]using j⟩
  .simp[-aD,o,q,d]
   obtain rfl:k=l.length:=by omega
   rw[aiv (ad3 _)]at i j
   rw[i,j]
   exact⟨rfl,x⟩
def pJ(hF:pR f row arg)(l:List α)(hm:l.length<=maxLen)(p:α->Bool)(hc:∀x∈l,aO tz ay g (arg x::caps.map .c) []=some (aR (p x),[])):
  aS tz ay 0 f [bh (l.map row),.c (.bF g caps)]=some (aa (dv p 0 l),[]):=by
 unfold aS ay
 obtain⟨a,d,rfl⟩:=OC (caps:=caps) hF l hm (fun _ a=>a=[]) (fun _=>p) (fun k e a b=>⟨a,by subst b;exact hc _ (aix e),b⟩) [] rfl
 rw[d,IY]
 rfl
def oI(f bj:Nat):Prop:=(f,bj)∈ [(171,109),(178,251),(187,256),(292,332),(152,235)]
def pC(hA:oI f bj)(hF:pR bj row arg)(l:List α)(hm:l.length<=maxLen)(p:α->Bool)(a:tz.md g≠3)(b:cy caps=true)(d:bA (l.map row)=true)(hc:∀x∈l,aO tz ay g (arg x::caps.map .c) []=some (aR (p x),[])):
  aS tz ay 0 f [bh (l.map row),.c (.bF g caps)]=some (aR (l.any p),[]):=by
 have h:=pJ hF l hm p hc
 simp only[oI,aeM,aca,aiV,or_false]at hA
 rcases hA with⟨rfl,rfl⟩|⟨rfl,rfl⟩|⟨rfl,rfl⟩|⟨rfl,rfl⟩|⟨rfl,rfl⟩
 all_goals
  refine be (by first|exact func171|exact func178|exact func187|exact func292|exact func152) rfl ?_
  simp[f171,f178,f187,f292,f152,a,b,d,h,zd]
def LF(hA:oI f bj)(hF:pR bj row arg)(l:List α)(hm:l.length<=maxLen)(J:Nat->List Ob->Prop)(p:Nat->α->Bool)(b:tz.md g=3)
  (hc:∀k (i:k<l.length) H,J k H->∃a,aO tz ay g (arg l[k]::caps.map .c) H=some (aR (p k l[k]),a)/\J (k+1) a) (H:List Ob) (d:J 0 H):
  ∃a,bB tz (ev tz) f [bh (l.map row),.c (.bF g caps)] H=some (aR (decide (0<=fY p 0 l)),a)/\J (jc p 0 l) a:=by
 obtain⟨a,e,h⟩:=OC (caps:=caps) hF l hm J p hc H d
 refine⟨a,?_,h⟩
 simp only[oI,aeM,aca,aiV,or_false]at hA
 rcases hA with⟨rfl,rfl⟩|⟨rfl,rfl⟩|⟨rfl,rfl⟩|⟨rfl,rfl⟩|⟨rfl,rfl⟩
 all_goals
  refine tM (by first|exact func171|exact func178|exact func187|exact func292|exact func152) rfl ?_
  simp[f171,f178,f187,f292,f152,b,e]
def D2:pR 109 ax fun x=> .agg (ax x):= .inl ⟨8,by simp,fun _=>⟨rfl,rfl⟩⟩
def QZ:pR 251 aW fun x=> .agg (aW x):= .inl ⟨2,by simp,fun _=>⟨rfl,rfl⟩⟩
def Oe:pR 256 aN fun x=> .agg (aN x):= .inl ⟨4,by simp,fun _=>⟨rfl,rfl⟩⟩
def WM:pR 332 j7 fun x=> .agg (j7 x):= .inl ⟨2,by simp,fun _=>⟨rfl,rfl⟩⟩
def Pk:pR 235 aC fun x=>aa x:= .inr ⟨rfl,fun _=>⟨_,rfl,rfl⟩⟩
def yj:=pJ (g:=g) (caps:=caps) (hF:=D2)
def agx:=pJ (g:=g) (caps:=caps) (hF:=Pk)
def xL:=pC (g:=g) (caps:=caps) (f:=171) (hA:=by simp[oI]) (hF:=D2)
def Qg:=pC (g:=g) (caps:=caps) (f:=178) (hA:=by simp[oI]) (hF:=QZ)
def ad6:=pC (g:=g) (caps:=caps) (f:=187) (hA:=by simp[oI]) (hF:=Oe)
def SB:=pC (g:=g) (caps:=caps) (f:=292) (hA:=by simp[oI]) (hF:=WM)
def vL:=pC (g:=g) (caps:=caps) (f:=152) (hA:=by simp[oI]) (hF:=Pk)
def adL:=LF (g:=g) (caps:=caps) (f:=171) (hA:=by simp[oI]) (hF:=D2)
def YU:=LF (g:=g) (caps:=caps) (f:=178) (hA:=by simp[oI]) (hF:=QZ)
def Lq(hF:(f,n)∈ [(256,4),(82,3)])(hr:∀x,(row x).length=n)(l:List α)(hm:l.length<=maxLen)(h o q:Nat)(J:Nat->List Ob->Prop)(p:Nat->α->Bool)
  (D:∀k H,J k H->∃rows,H[h]?=some (.live o n rows)/\∀j (M:j<l.length),rows[q+j]?=some (row l[j]))
  (hc:∀k (a:k<l.length) H,J k H->∃b,aO tz ay g (.agg (row l[k])::caps.map .c) H=some (aR (p k l[k]),b)/\J (k+1) b) (H:List Ob) (E:J 0 H):
  ∃b,bB tz (ev tz) f [bd h o q l.length,.c (.bF g caps)] H=some (aa (fY p 0 l),b)/\J (jc p 0 l) b:=by
 simp only[aeM,aca,aiV,or_false]at hF
 rcases hF with⟨rfl,rfl⟩|⟨rfl,rfl⟩
 all_goals
  refine gj (by first|exact func256|exact func82) rfl ?_
  simp[-aD,f256,f82,underlying65,underlying89]
  refine iy (fun k:Nat=>[(7,aa l.length),(8,aa k),(0,bd h o q l.length),(1,.c (.bF g caps))]) (fun k H=>J k H/\k<=l.length/\fY p 0 l=fY p k (l.drop k)/\jc p 0 l=jc p k (l.drop k)) (fun k=>l.length-k) ?_ 0 (by simp) (by simpa using E) fun _=>rfl
  rintro k e H⟨r,s,v,w,_⟩⟨t,N,d,i⟩
  have⟨rows,y,F⟩:=D k H t
  by_cases a:k<l.length
  .have G:l.drop k=l[k]::l.drop (k+1):=agO a
   have I:adW.wrap ((k:Int)+1)=((k+1:Nat):Int):=cv (by unfold maxLen at hm;omega)
   rw[G]at d i
   have K:=F k a
   have⟨z,A⟩:=abW.1 K
   have⟨b,m,B⟩:=hc k a H t
   have u:=hr l[k]
   have C:=acu (aj8 u)
   cases hp:p k l[k]with
   |true=>
    rw[hp]at m
    simp[-aD,r,s,v,w,a,m,y,z,A,u,C]
    simp[d,i,fY,jc,hp]
    exact B
   |false=>
    rw[hp]at m
    simp[-aD,r,s,v,w,a,m,I,y,z,A,u,C]
    exact⟨k+1,by omega,by simp,B,by omega,by simpa[fY,hp]using d,by simpa[jc,hp]using i⟩
  .simp[-aD,r,s,a]
   have L:k=l.length:=by omega
   subst L
   rw[aiv (ad3 _)]at d i
   rw[d,i]
   exact⟨rfl,t⟩
def TZ:=Lq (g:=g) (caps:=caps) (f:=256) (row:=aN) (n:=4) (hF:=by simp) (hr:=fun _=>rfl)
def agE:=Lq (g:=g) (caps:=caps) (f:=82) (row:=br) (n:=3) (hF:=by simp) (hr:=fun _=>rfl)
end
instance iW2:W:=W1
def Z2(x y:Int):eL [.int] (aC x) (aC y)=some (decide (x=y)):=by simp[aC,eL,lR]
def ads(x y:cj):eL [.int,.int] (aW x) (aW y)=some (decide (x=y)):=by cases x;cases y;grind [aW,eL,lR,(ab1)]
def Uz(x y:aI):eL [.int,.int,.int,.bool,.bool,.bool,.bool,.bool] (ax x) (ax y)=some (decide (x=y)):=by cases x;cases y;simp only[ax,eL,lR,if_true,ab1];grind
def zB(l m:List Int)(hm:l.length<=maxLen):aS tz ay 0 183 [bh (l.map aC),bh (m.map aC)]=some (aR (decide (l=m)),[]):=by
 refine be func183 rfl ?_;by_cases j:l.length=m.length
 case neg=>
  have:decide (l=m)=false:=by grind
  have n:((l.length:Int)=m.length)=False:=by grind
  simp[f183,underlying30,n,this]
 have s:(m.length:Int)=l.length:=by omega
 simp[f183,underlying30,j];refine iy (fun k:Nat=>[(12,aa m.length),(13,aa k),(0,bh (l.map aC)),(1,bh (m.map aC))]) (fun k H=>H=[]/\k<=l.length/\(l=m↔l.drop k=m.drop k)) (fun k=>l.length-k) ?_ 0 (by simp) (by simp) fun _=>rfl;rintro k e H ⟨c,d,h,i,_⟩ ⟨o,t,u⟩;subst o;by_cases b:k<m.length
 .have f:k<l.length:=by omega
  have v:l.drop k=l[k]::l.drop (k+1):=agO f;have w:m.drop k=m[k]::m.drop (k+1):=agO b;have p:adW.wrap ((k:Int)+1)=((k+1:Nat):Int):=cv (by grind [maxLen]);have q:l=m↔l[k]=m[k]/\l.drop (k+1)=m.drop (k+1):=by grind
  have g:eL [.int] (aC l[k]) (aC m[k])=some (decide (l[k]=m[k])):=Z2 _ _;try simp only[aC]at g
  by_cases a:l[k]=m[k]
  .simp[a]at g;simp only[a,true_and]at q;simp[aC,c,d,h,i,b,f,a,p];grind
  .have x:¬m[k]=l[k]:=fun e=>a e.symm;simp[a]at g;have r:¬l=m:=by grind
   simp[aC,c,d,h,i,b,f,a,r]
 .simp[c,d,b];grind
def RZ(l m:List cj)(hm:l.length<=maxLen):aS tz ay 0 214 [bh (l.map aW),bh (m.map aW)]=some (aR (decide (l=m)),[]):=by
 refine be func214 rfl ?_;by_cases j:l.length=m.length
 case neg=>
  have:decide (l=m)=false:=by grind
  have n:((l.length:Int)=m.length)=False:=by grind
  simp[f214,underlying68,n,this]
 have s:(m.length:Int)=l.length:=by omega
 simp[f214,underlying68,j];refine iy (fun k:Nat=>[(12,aa m.length),(13,aa k),(0,bh (l.map aW)),(1,bh (m.map aW))]) (fun k H=>H=[]/\k<=l.length/\(l=m↔l.drop k=m.drop k)) (fun k=>l.length-k) ?_ 0 (by simp) (by simp) fun _=>rfl;rintro k e H ⟨d,f,h,i,_⟩ ⟨o,t,u⟩;subst o;by_cases c:k<m.length
 .have g:k<l.length:=by omega
  have v:l.drop k=l[k]::l.drop (k+1):=agO g;have w:m.drop k=m[k]::m.drop (k+1):=agO c;have p:adW.wrap ((k:Int)+1)=((k+1:Nat):Int):=cv (by grind [maxLen]);have q:l=m↔l[k]=m[k]/\l.drop (k+1)=m.drop (k+1):=by grind
  have a:eL [.int,.int] (aW l[k]) (aW m[k])=some (decide (l[k]=m[k])):=ads _ _;try simp only[aW]at a
  by_cases b:l[k]=m[k]
  .simp[b]at a;simp only[b,true_and]at q;simp[aW,d,f,h,i,c,g,b,p,a];grind
  .have x:¬m[k]=l[k]:=fun e=>b e.symm;simp[b]at a;have r:¬l=m:=by grind
   simp[aW,d,f,h,i,c,g,a,r]
 .simp[d,f,c];grind
def We(l m:List aI)(hm:l.length<=maxLen):aS tz ay 0 319 [bh (l.map ax),bh (m.map ax)]=some (aR (decide (l=m)),[]):=by
 refine be func319 rfl ?_;by_cases j:l.length=m.length
 case neg=>
  have:decide (l=m)=false:=by grind
  have n:((l.length:Int)=m.length)=False:=by grind
  simp[f319,underlying59,n,this]
 have s:(m.length:Int)=l.length:=by omega
 simp[f319,underlying59,j];refine iy (fun k:Nat=>[(12,aa m.length),(13,aa k),(0,bh (l.map ax)),(1,bh (m.map ax))]) (fun k H=>H=[]/\k<=l.length/\(l=m↔l.drop k=m.drop k)) (fun k=>l.length-k) ?_ 0 (by simp) (by simp) fun _=>rfl;rintro k e H ⟨d,f,h,i,_⟩ ⟨o,t,u⟩;subst o;by_cases c:k<m.length
 .have g:k<l.length:=by omega
  have v:l.drop k=l[k]::l.drop (k+1):=agO g;have w:m.drop k=m[k]::m.drop (k+1):=agO c;have p:adW.wrap ((k:Int)+1)=((k+1:Nat):Int):=cv (by grind [maxLen]);have q:l=m↔l[k]=m[k]/\l.drop (k+1)=m.drop (k+1):=by grind
  have a:eL [.int,.int,.int,.bool,.bool,.bool,.bool,.bool] (ax l[k]) (ax m[k])=some (decide (l[k]=m[k])):=Uz _ _;try simp only[ax]at a
  by_cases b:l[k]=m[k]
  .simp[b]at a;simp only[b,true_and]at q;simp[ax,d,f,h,i,c,g,b,p,a];grind
  .have x:¬m[k]=l[k]:=fun e=>b e.symm;simp[b]at a;have r:¬l=m:=by grind
   simp[ax,d,f,h,i,c,g,a,r]
 .simp[d,f,c];grind
def aah(d:cQ)(x:aI)(e:Int)(h:Nat)(H:List Ob)(a:H[h]?=some (ah 1 [[I e]])):bB tz (ev tz) 249 [.agg (ax x),au h,.c (.aJ [dQ d] 0 0)] H=some (aR (!cS d.id e x),H.set h (ah 1 [[I x.peer]])):=by
 refine tM func249 rfl ?_;by_cases c1:x.peer>e
 case neg=>simp[f249,ax,dQ,a,cS,c1]
 by_cases c2:x.peer=d.id
 .simp[f249,ax,dQ,a,cS,c1,eq_true c2]
 by_cases c3:x.aP<0
 .simp[f249,ax,dQ,a,cS,c1,c2,eq_true c3]
 by_cases c4:x.aP>65535
 .simp[f249,ax,dQ,a,cS,c1,c2,c3,eq_true c4]
 by_cases c5:x.state<0
 .simp[f249,ax,dQ,a,cS,c1,c2,c3,c4,eq_true c5]
 by_cases b:x.state>3
 .simp[f249,ax,dQ,a,cS,c1,c2,c3,c4,c5,eq_true b]
 cases f:x.cK
 case false=>simp[f249,ax,dQ,a,cS,c1,c2,c3,c4,c5,b,f]
 cases g:x.fork
 case true=>simp[f249,ax,dQ,a,cS,c1,c2,c3,c4,c5,b,f,g]
 simp[f249,ax,dQ,a,cS,c1,c2,c3,c4,c5,b,f,g]
def oB(l:List aI)(k:Nat):Int:=match k with
 |0=> -1
 |k+1=>(l[k]?.map (·.peer)).getD (-1)
def KL(id:Int)(l:List aI):∀(r:List aI) (k:Nat),l.drop k=r->k<=l.length->decide (0<=fY (fun k x=>!cS id (oB l k) x) k r)=!dU id (oB l k) r
 |[],k,h,d=>rfl
 |x::r,k,h,d=>by
  have b:k<l.length:=by
   rcases aj7 k l.length with a|a
   .exact a
   .rw[aiv a]at h;cases h
  have c:l[k]=x/\l.drop (k+1)=r:=by
   rw[agO b]at h
   exact List.cons.inj h
  have e:oB l (k+1)=x.peer:=by simp[oB,b,c.1]
  simp only[fY,dU]
  by_cases f:cS id (oB l k) x=true
  .have:=KL id l r (k+1) c.2 (by omega)
   rw[e]at this
   simp only[f,Bool.not_true,aes,if_false,Bool.true_and]
   exact this
  grind
def Iv(d:cQ)(hm:d.af.length<=maxLen):aS tz ay 0 173 [.agg (dQ d)]=some (aa (if eo d then 0 else 130),[]):=by
 refine be func173 rfl ?_;by_cases c1:d.id<0
 .simp[f173,dQ,eo,eq_true c1]
 by_cases c2:d.phase<0
 .simp[f173,dQ,eo,c1,eq_true c2]
 by_cases c3:d.phase>2
 .simp[f173,dQ,eo,c1,c2,eq_true c3]
 by_cases c4:64<=d.af.length
 .have b:(d.af.length:Int)>=64:=by omega
  simp[f173,underlying59,dQ,eo,c1,c2,c3,c4,b]
 have b:¬(d.af.length:Int)>=64:=by omega
 have⟨h,a,i⟩:=adL (g:=249) (caps:=[.ptr 0 0 0 0,.aJ [dQ d] 0 0]) d.af hm (fun k H=>H=[ah 1 [[I (oB d.af k)]]]) (fun k x=>!cS d.id (oB d.af k) x) (by simp) (fun k c H e=>by subst e;have:=aah d d.af[k] (oB d.af k) 0 [ah 1 [[I (oB d.af k)]]] rfl;refine⟨_,?_,rfl⟩;rw[dz (f:=249) rfl];simp[oB,c]at this|-;exact this) [ah 1 [[I (-1)]]] rfl
 rw[KL d.id d.af d.af 0 rfl (by omega)]at a;simp only[dQ]at a;cases c5:dU d.id (-1) d.af<;>simp[oB,c5]at a<;>simp[f173,underlying59,dQ,eo,c1,c2,c3,c4,b,c5,a]
def afO(a b:cQ)(hm:a.af.length<=maxLen):aS tz ay 0 269 [.agg (dQ a),.agg (dQ b)]=some (aR (decide (a=b)),[]):=by
 refine be func269 rfl ?_;have h:=We a.af b.af hm;have⟨i,p,l⟩:=a;have⟨c,d,e⟩:=b;simp only at h;by_cases c1:i=c
 case neg=>simp[f269,dQ,c1]
 by_cases c2:p=d
 case neg=>simp[f269,dQ,c1,c2]
 simp[f269,dQ,h,c1,c2]
section
variable{n c:Nat}{α:Type}{l:List cB}
def lO(H:List Ob)(c:Nat)(l:List cB):Prop:= ∃a,H[c]?=some (ah 1 [[a]])/\((l=[]/\a=eW)\/∃b d,l≠ []/\b≠c/\a= .sl b d 0 l.length/\H[b]?=some (.live d 5 (l.map dW)))
def fj(Z Cs:List Nat)(H H':List Ob):Prop:=H.length<=H'.length/\∀(m v z:Nat) (rows:List (List ab)),H[m]?=some (.live v z rows)->m∉Cs->z∉Z->H'[m]?=some (.live v z rows)
section
variable{Z Cs:List Nat}{H H' H'':List Ob}
theorem fj.refl(Z Cs:List Nat)(H:List Ob):fj Z Cs H H:=⟨ad3 _,fun _ _ _ _ h _ _=>h⟩
def fj.trans(h:fj Z Cs H H')(a:fj Z Cs H' H''):fj Z Cs H H'':=⟨ai5 h.1 a.1,fun m v z rows d b c=>a.2 m v z rows (h.2 m v z rows d b c) b c⟩
theorem fj.snoc(h:fj Z Cs H H')(l:List Ob):fj Z Cs H (H'++l):=⟨by have:=h.1;simp;omega,fun m v z rows a b c=>by have d:=h.2 m v z rows a b c;grind⟩
theorem fj.set(h:fj Z Cs H H')(hn:n∈Cs)(y:Ob):fj Z Cs H (H'.set n y):=⟨by have:=h.1;grind,fun m v z rows a b c=>by have d:=h.2 m v z rows a b c;grind⟩
theorem fj.Hr(h:fj Z Cs H H'){b a:Nat}{c:List (List ab)}(hn:H'[n]?=some (.live b a c))(g:a∈Z)(y:Ob):fj Z Cs H (H'.set n y):=⟨by have:=h.1;grind,fun m v z rows d e f=>by have i:=h.2 m v z rows d e f;grind⟩
end
def ba{l:List α}{x y:α}(h:l[n]?=some x):(l.set n y)[n]?=some y:=ahr (abW.1 h).1
def bf{l:List α}{x:α}(h:l[n]?=some x):n<l.length:=(abW.1 h).1
theorem aV{l m:List α}{x:α}(h:l[n]?=some x):(l++m)[n]?=some x:=by grind
theorem UE(id u:Int)(sl:ab)(x:aI)(k:Int)(c b h a j i m n:Nat)(rows:List (List ab))(l:List cB)(H:List Ob)(d:lO H c l)(w:l.length<=1000)(o:H[b]?=some (.live m 3 [[I id,I u,sl]]))(p:H[h]?=some (.live n 1 [[.ptr a j i 0]]))(q:H[a]?=some (.live j 8 rows))(v:rows[i]?=some (ax x)):
  ∃H',bB tz (ev tz) 342 [aa k,au c,kP b m 0 0,kP h n 0 0] H=some (.aM [],H')/\lO H' c (l++[ft id x k])/\fj [5] [c] H H':=by
 have⟨y,hc,d⟩:=d
 have⟨r,e⟩:=abW.1 v
 simp only[ax]at e
 have z:=bf hc
 have A:5<=maxLen:=by decide
 refine gj func342 rfl ?_
 rcases d with⟨rfl,rfl⟩|⟨s,t,_,f,rfl,g⟩
 .simp[f342,hc,o,p,q,r,e,aV hc]
  refine⟨⟨_,ba (aV hc),.inr ⟨H.length+1,0,by simp,by omega,rfl,?_⟩⟩,((fj.refl _ _ _).snoc _).set (by simp) _⟩
  rw[aat (by omega),jh]
  rfl
 .have B:=bf g
  simp[f342,hc,o,p,q,r,e,f,aV hc,aV g,show l.length+1<=maxLen/\(l.length+1)*40<=140737488355328 from⟨by unfold maxLen;omega,by omega⟩]
  refine⟨⟨_,ba (x:=ah 1 [[.sl s t 0 l.length]]) (by rw[aat f];exact aV hc),.inr ⟨s,t+1,by simp,f,by simp,?_⟩⟩,(((fj.refl _ _ _).snoc _).Hr (aV g) (by simp) _).set (by simp) _⟩
  grind [ft,dW]
theorem lO.aK{H H':List Ob}(h:lO H c l)(a:∀(m v z:Nat) (rows:List (List ab)),H[m]?=some (.live v z rows)->(m=c\/z=5)->H'[m]?=some (.live v z rows)):lO H' c l:=by have⟨b,d,e⟩:=h;refine⟨b,a _ _ _ _ d (.inl rfl),?_⟩;grind
def lO.snoc{H:List Ob}(h:lO H c l)(m:List Ob):lO (H++m) c l:=h.aK fun _ _ _ _ h _=>aV h
theorem lO.set{H:List Ob}{v z:Nat}{rows:List (List ab)}(h:lO H c l)(hn:H[n]?=some (.live v z rows))(hc:n≠c)(a:z≠5)(y:Ob):lO (H.set n y) c l:=h.aK fun m b d e f hm=>by grind
end
section
variable{a b:aw}{l m:List Int}
def gW{C:bu}{a:ji}{f:FuncId}(h:C.dH f=true)(args:List aw)(H:List Ob):bB C a f args H=C.dF f args H:=by unfold bB;rw[if_pos h]
def zf:∀l:List Int,oU (l.map aC)=some l
 |[]=>rfl
 |a::l=>by simp[oU,zf l]
def xx(l:List Int):jl (.c (aG l))=some l:=by simp[jl,aG,rowsOf,zf]
def kG{a b:Nat}(h:a<=b):ak6 a b=true:=by simp_all
def Xz:tz.dF 190=jX gJ:=by kernel_rfl
def aen:tz.dF 185=jX jZ:=by kernel_rfl
def agb:tz.dF 318=jX gD:=by kernel_rfl
def EH(c:jl a=some l)(d:jl b=some m)(e:l.length<=100000)(hm:m.length<=100000):aS tz ay 0 190 [a,b]=some (cw (gJ l m)):=by unfold aS ay;rw[gW adD,Xz];simp[jX,c,d,kG e,kG hm,cw,bi]
def RA(c:jl a=some l)(d:jl b=some m)(e:l.length<=100000)(hm:m.length<=100000):aS tz ay 0 185 [a,b]=some (cw (jZ l m)):=by unfold aS ay;rw[gW abD,aen];simp[jX,c,d,kG e,kG hm,cw,bi]
def ad8(c:jl a=some l)(d:jl b=some m)(e:l.length<=100000)(hm:m.length<=100000):aS tz ay 0 318 [a,b]=some (cw (gD l m)):=by unfold aS ay;rw[gW acS,agb];simp[jX,c,d,kG e,kG hm,cw,bi]
def rn(l:List Int):jl (bh (l.map aC))=some l:=xx l
theorem Cd(l m:List Int)(a:l.length<=100000)(hm:m.length<=100000):aS tz ay 0 112 [.c (aG l),.c (aG m)]=some (aR (kZ l m),[]):=by refine be func112 rfl ?_;have:=EH (rn l) (rn m) a hm;simp[f112,bi,aG,this,cw,underlying30,kZ];grind
def ab7(l:List Int)(x:Int)(a:l.length<=100000):aS tz ay 1 227 [.c (aG l),aa x]=some (.c (aG (gJ l [x])),[]):=by refine be func227 rfl ?_;have:=EH (rn l) (rn [x]) a (by simp);simp at this;simp[f227,bi,aG,this,cw]
def Xe(l:List Int)(x:Int)(a:l.length<=100000):aS tz ay 1 268 [.c (aG l),aa x]=some (.c (aG (gD l [x])),[]):=by refine be func268 rfl ?_;have:=ad8 (rn l) (rn [x]) a (by simp);simp at this;simp[f268,bi,aG,this,cw]
end
section
variable{a:ab}
def u7{a:Type}(f:a->List ab)(z:Nat)(h:∀x,(f x).length=z)(l:List a):((l.map f).all fun r=>ajx r.length z)=true:=by simp_all
def Wv:tz.dF 44=fJ 8:=by kernel_rfl
def yZ{l:List aI}(b:rowsOf a=some (l.map ax))(d:l.length<=1000000):aS tz ay 0 44 [.c a]=some (bd 0 0 0 l.length,[ah 8 (l.map ax)]):=by
 unfold aS ay;rw[gW aeH,Wv];have e:=u7 ax 8 (fun _=>rfl) l;have f:bA (l.map ax)=true:=by simp
 simp[fJ,b,e,f,kG d]
def afz:tz.dF 45=fJ 1:=by kernel_rfl
def uF{l:List Int}(b:rowsOf a=some (l.map aC))(d:l.length<=1000000):aS tz ay 1 45 [.c a]=some (bh (l.map aC),[]):=by
 unfold aS ay;rw[gW Uk,afz];have e:=u7 aC 1 (fun _=>rfl) l;have f:bA (l.map aC)=true:=by simp
 simp[fJ,b,e,f,kG d]
def aba:tz.dF 46=fJ 2:=by kernel_rfl
def p46{l:List cj}(b:rowsOf a=some (l.map aW))(d:l.length<=1000000):aS tz ay 0 46 [.c a]=some (bd 0 0 0 l.length,[ah 2 (l.map aW)]):=by
 unfold aS ay;rw[gW Z0,aba];have e:=u7 aW 2 (fun _=>rfl) l;have f:bA (l.map aW)=true:=by simp
 simp[fJ,b,e,f,kG d]
def Zk:tz.dF 47=fJ 4:=by kernel_rfl
def OV{l:List bW}(b:rowsOf a=some (l.map aN))(d:l.length<=1000000):aS tz ay 0 47 [.c a]=some (bd 0 0 0 l.length,[ah 4 (l.map aN)]):=by
 unfold aS ay;rw[gW Yw,Zk];have e:=u7 aN 4 (fun _=>rfl) l;have f:bA (l.map aN)=true:=by simp
 simp[fJ,b,e,f,kG d]
def aeK:tz.dF 57=fJ 3:=by kernel_rfl
def Qx{l:List cY}(b:rowsOf a=some (l.map br))(d:l.length<=1000000):aS tz ay 0 57 [.c a]=some (bd 0 0 0 l.length,[ah 3 (l.map br)]):=by
 unfold aS ay;rw[gW VO,aeK];have e:=u7 br 3 (fun _=>rfl) l;have f:bA (l.map br)=true:=by simp
 simp[fJ,b,e,f,kG d]
def pM:Option Int->List Int->Bool
 |_,[]=>true
 |none,x::r=>pM (some x) r
 |some p,x::r=>decide (p<x)&&pM (some x) r
def Pa:∀(r:List Int) (x:Int),ek (x::r)=pM (some x) r
 |[],x=>rfl
 |y::r,x=>by rw[ek,pM,Pa r y]
def aam(l:List Int):ek l=pM none l:=by
 cases l with
 |nil=>rfl
 |cons x r=>exact Pa r x
theorem Cn(l:List Int)(hm:l.length<=maxLen):aS tz ay 0 174 [.c (aG l)]=some (aR (ek l),[]):=by
 refine be func174 rfl ?_;rw[aam];simp[f174,underlying30];refine iy (fun k:Nat=>[(5,aa l.length),(6,aa k),(0,.c (aG l))]) (fun k H=>H=[]/\k<=l.length/\pM none l=pM (if k=0 then none else l[k-1]?) (l.drop k)) (fun k=>l.length-k) ?_ 0 (by simp) (by simp) fun _=>rfl;rintro k e H ⟨f,d,g,_⟩ ⟨p,r,a⟩;subst p;by_cases b:k<l.length
 .have q:l.drop k=l[k]::l.drop (k+1):=agO b;have h:adW.wrap ((k:Int)+1)=((k+1:Nat):Int):=cv (by grind [maxLen]);rw[q]at a;by_cases m:k=0
  .subst m;simp at a h d;simp[f,d,g,b,h];grind [pM]
  .have i:k-1<l.length:=by omega
   have hp:adW.wrap ((k:Int)-1)=((k-1:Nat):Int):=by rw[wrap_i64 (by omega) (by unfold maxLen at hm;omega)];omega
   rw[if_neg m,abM i]at a;simp only[pM]at a;have s:(k:Int)>0:=by omega
   have n:0<k:=by omega
   by_cases o:l[k-1]<l[k]
   .have j:¬l[k]<=l[k-1]:=by omega
    simp[f,d,g,b,h,hp,i,n,j];exact⟨k+1,by omega,by simp,by omega,by simpa[o,b]using a⟩
   .have j:l[k]<=l[k-1]:=by omega
    simp[f,d,g,b,hp,i,n,j];simpa[o]using a
 .simp[f,d,b];grind [pM]
end
section
variable{k:Nat}{H G:List Ob}{d:cQ}{rows:List (List ab)}
def tY(id a:Int)(l:List aI)(out:List cB):aw×List Ob:=if out=[]then(.aM [.agg [I id,I a,.sl 0 0 0 l.length],.c eW,aa 0],[ah 8 (l.map ax)])else(.aM [.agg [I id,I a,.sl 0 0 0 l.length],bd 1 0 0 out.length,aa 0],[ah 8 (l.map ax),ah 5 (out.map dW)])
def fg(d:cQ)(k:Nat):List aI:=(d.af.take k).map (fun x=>(cI d.id d.phase x).1)++d.af.drop k
def ka(d:cQ)(k:Nat):List cB:=(d.af.take k).flatMap fun x=>(cI d.id d.phase x).2
def pr(d:cQ)(k:Nat):Bool:=(d.af.take k).all fun x=>(cI d.id d.phase x).1.fork
theorem jC{a:Type}{l:List a}(b:k<l.length):l.take (k+1)=l.take k++[l[k]]:=by simp
def zh(d:cQ)(k:Nat):(fg d k).length=d.af.length:=by simp[fg];omega
theorem Wb(d:cQ)(k:Nat)(a:k<d.af.length):(fg d k)[k]?=some d.af[k]:=by grind [fg]
theorem afQ(d:cQ)(k:Nat)(a:k<d.af.length):(fg d k).set k (cI d.id d.phase d.af[k]).1=fg d (k+1):=by
 unfold fg;have b:((d.af.take k).map fun x=>(cI d.id d.phase x).1).length=k:=by simp;omega
 grind [(ajw),(jC),(agO)]
def WB(d:cQ)(k:Nat)(a:k<d.af.length):ka d (k+1)=ka d k++(cI d.id d.phase d.af[k]).2:=by unfold ka;rw[jC a,aku,List.flatMap_singleton]
def Yx(d:cQ)(k:Nat)(a:k<d.af.length):pr d (k+1)=(pr d k&&(cI d.id d.phase d.af[k]).1.fork):=by unfold pr;rw[jC a,List.all_append,akw,al7,akP]
theorem O0(d:cQ):∀k,(ka d k).length<=2*k:=by
 intro k;unfold ka
 have:∀l:List aI,(l.flatMap fun x=>(cI d.id d.phase x).2).length<=2*l.length:=by
  intro l;induction l with
  |nil=>simp
  |cons x r a=>
   simp only[aiz,agc,aip];have:(cI d.id d.phase x).2.length<=2:=by simp only[cI];split<;>split<;>simp
   omega
 grind
def vu(d:cQ)(k:Nat)(H:List Ob):Prop:=k<=d.af.length/\H[0]?=some (ah 3 [[I d.id,I d.phase,.sl 2 0 0 d.af.length]])/\H[1]?=some (ah 3 [[I 0,I 0,eW]])/\H[2]?=some (ah 8 ((fg d k).map ax))/\lO H 3 (ka d k)
structure qM(d:cQ)(rows:List (List ab))(outs:List cB)(xl k:Nat)(G:List Ob):Prop where
 h0:G[0]?=some (ah 3 [[I d.id,I d.phase,.sl 2 0 0 d.af.length]])
 h1:G[1]?=some (ah 3 [[I 0,I 0,eW]])
 h2:G[2]?=some (ah 8 rows)
 hx:G[xl]?=some (ah 1 [[.ptr 2 0 k 0]])
 lx:4<=xl
 ho:lO G 3 outs
def lO.lt{c:Nat}{l:List cB}(h:lO H c l):c<H.length:=by have⟨b,a,_⟩:=h;exact bf a
def vu.start(h:vu d k H):qM d ((fg d k).map ax) (ka d k) H.length k (H++[ah 1 [[.ptr 2 0 k 0]]]):=
 ⟨aV h.2.1,aV h.2.2.1,aV h.2.2.2.1,by rw[ane];rfl,h.2.2.2.2.lt,h.2.2.2.2.snoc _⟩
theorem qM.set{d:cQ}{rows:List (List ab)}{outs:List cB}{a k:Nat}{G:List Ob}(h:qM d rows outs a k G)(b:List (List ab)):qM d b outs a k (G.set 2 (ah 8 b)):=
 ⟨by grind [(qM.h0)],by grind [(qM.h1)],ba h.h2,by rw[aat (by have:=h.lx;omega)];exact h.hx,h.lx,h.ho.set h.h2 (by decide) (by decide) _⟩
theorem qM.send{outs:List cB}{a:Nat}(h:qM d rows outs a k G)(e:outs.length<=1000){x:aI}(f:rows[k]?=some (ax x))(K:Int):
  ∃b,bB tz (ev tz) 342 [aa K,au 3,au 0,au a] G=some (.aM [],b)/\qM d rows (outs++[ft d.id x K]) a k b:=by
 have⟨b,g,i,c⟩:=UE d.id d.phase (.sl 2 0 0 d.af.length) x K 3 0 a 2 0 k 0 0 rows outs G h.ho e h.h0 h.hx h.h2 f
 exact⟨b,g,c.2 _ _ _ _ h.h0 (by decide) (by decide),c.2 _ _ _ _ h.h1 (by decide) (by decide),c.2 _ _ _ _ h.h2 (by decide) (by decide),c.2 _ _ _ _ h.hx (by have:=h.lx;simp;omega) (by decide),h.lx,i⟩
def qM.fin{outs:List cB}{a:Nat}(h:qM d rows outs a k G)(b:rows=(fg d (k+1)).map ax)(c:outs=ka d (k+1))(e:k+1<=d.af.length):vu d (k+1) G:=by subst b c;exact⟨e,h.h0,h.h1,h.h2,h.ho⟩
def Bo(d:cQ)(a:eo d=true):fx d=if d.phase=1/\pr d d.af.length=true then(⟨d.id,2,(fg d d.af.length).map fun x=>{x with cK:=true}⟩,ka d d.af.length,0)else(⟨d.id,d.phase,fg d d.af.length⟩,ka d d.af.length,0):=by
 have b:fg d d.af.length=d.af.map fun x=>(cI d.id d.phase x).1:=by simp[fg]
 have c:ka d d.af.length=d.af.flatMap fun x=>(cI d.id d.phase x).2:=by simp[ka]
 have e:pr d d.af.length=(d.af.map fun x=>(cI d.id d.phase x).1).all fun x=>x.fork:=by simp[pr,aj9];rfl
 unfold fx;rw[if_neg (by simp[a]),b,c,e]
def DX{id i:Int}{n:Nat}{l:List aI}{out:List cB}{f:ab}{y:Ob}{z:List (List ab)}(hn:l.length=n)(o:G[1]?=some (ah 3 z))(j:G[2]?=some (ah 8 (l.map ax)))(k:(out=[]/\f=eW)\/∃a d,out≠ []/\a≠3/\f= .sl a d 0 out.length/\G[a]?=some (.live d 5 (out.map dW))):
  dI false (G.set 1 y) (.aM [.agg [I id,I i,.sl 2 0 0 n],.c f,aa 0])=some (tY id i l out):=by
 subst hn
 have m:(G.set 1 y)[2]?=some (ah 8 (l.map ax)):=by rw[aat (by decide)];exact j
 by_cases g:out=[]
 .subst g
  rcases k with⟨_,rfl⟩|⟨a,d,p,_,rfl,b⟩
  .simp[m,tY]
  .exact absurd rfl p
 .rcases k with⟨h,_⟩|⟨a,d,_,_,rfl,b⟩
  .exact absurd h g
  .have t1:a≠1:=fun e=>by subst e;rw[o]at b;simp at b
   have t2:¬a=2:=fun e=>by subst e;rw[j]at b;simp at b
   have q:(G.set 1 y)[a]?=some (.live d 5 (out.map dW)):=by rw[aat (fun e=>t1 e.symm)];exact b
   simp[m,q,t2,tY,g]
def pN(d:cQ)(j:Nat):List aI:=((fg d d.af.length).take j).map (fun x=>{x with cK:=true})++(fg d d.af.length).drop j
def Xo(d:cQ)(j:Nat)(a:j< (fg d d.af.length).length):(pN d j)[j]?=some (fg d d.af.length)[j]:=by unfold pN;rw[aea (by simp;omega)];simp[aj1 (alq a),a]
def apO(d:cQ)(j:Nat)(a:j< (fg d d.af.length).length):(pN d j).set j {(fg d d.af.length)[j]with cK:=true}=pN d (j+1):=by
 unfold pN;have b:(((fg d d.af.length).take j).map fun x=>{x with cK:=true}).length=j:=by simp;omega
 rw[ajw (h:=by omega),b,ajB,jC a,agO a,ajQ,aid,aiu];rfl
def afy(d:cQ)(j:Nat):(pN d j).length=d.af.length:=by simp[pN,zh];omega
def Vb(d:cQ)(a:ab)(j:Nat)(H:List Ob):Prop:=j<=d.af.length/\H[0]?=some (ah 3 [[I d.id,I 2,.sl 2 0 0 d.af.length]])/\H[1]?=some (ah 3 [[I 0,I 0,eW]])/\H[2]?=some (ah 8 ((pN d j).map ax))/\H[3]?=some (ah 1 [[a]])/\((ka d d.af.length=[]/\a=eW)\/∃b c,ka d d.af.length≠ []/\b≠3/\a= .sl b c 0 (ka d d.af.length).length/\H[b]?=some (.live c 5 ((ka d d.af.length).map dW)))
def acv(d:cQ)(hm:d.af.length<=100):aS tz ay 0 316 [.agg (dQ d)]=some (if eo d=false then(.aM [.agg [I 0,I 0,.aj []],.c eW,aa 130],[])else tY (fx d).1.id (fx d).1.phase (fx d).1.af (fx d).2.1):=by
 obtain⟨⟨v,al⟩,C⟩:∃ag,(if eo d=false then((.aM [.agg [I 0,I 0,.aj []],.c eW,aa 130],[]):aw×List Ob)else tY (fx d).1.id (fx d).1.phase (fx d).1.af (fx d).2.1)=ag:=⟨_,rfl⟩;rw[C];refine be func316 rfl ?_;have R:=Iv d (by unfold maxLen;omega);have ah:=yZ (a:= .aj (d.af.map ax)) (l:=d.af) rfl (by omega);simp only[dQ]at R;cases ho:eo d with
 |false=>simp[ho]at R C;obtain⟨rfl,rfl⟩:=C;simp[f316,dQ,R]
 |true=>
  simp[ho]at R C;simp[-dI,f316,dQ,R,ah,underlying59];refine iy (fun k:Nat=>[(24,aa d.af.length),(25,aa k),(1,au 0),(2,au 1),(6,au 3),(7,aR (pr d k))]) (vu d) (fun k=>d.af.length-k) ?_ 0 (by simp[pr]) (by simp[vu,fg,ka];exact⟨_,rfl,.inl ⟨rfl,rfl⟩⟩) fun _=>rfl;rintro k e H ⟨n,o,f,p,q,r,_⟩ ⟨g1,b,M,g,X⟩;by_cases s:k<d.af.length
  .have u:adW.wrap ((k:Int)+1)=((k+1:Nat):Int):=cv (by omega);have i:=Wb d k s;have z:=afQ d k s;have A:=WB d k s;have w:=Yx d k s;have Y:=zh d k;have q6:=O0 d k;have⟨x,hx⟩:=eg d.af[k];rw[hx]at i z A w;have q7:((fg d k).map ax)[k]?=some (ax x):=by simp[i]
   have⟨q8,q9⟩:=abW.1 q7;have h:k< (fg d k).length:=by omega
   have⟨am,an⟩:=abW.1 i;have⟨D,E,F,fork,cK,token,J,ask⟩:=x;have K:=vu.start ⟨g1,b,M,g,X⟩;have s2:∀x y,((H++[x]).set 2 y)[2]?=some y:=fun x y=>ba (aV g);have sl:¬H.length=2:=by have:=X.lt;omega
   have sx:∀x y,((H++[x]).set 2 y)[H.length]?=some x:=fun x y=>by rw[aat (by have:=X.lt;omega)];simp
   have⟨L,P⟩:=eg (pr d k);rw[P]at r w;cases fork with
   |false=>
    by_cases c1:d.phase=1
    .cases token with
     |true=>cases L;all_goals simp[-getElem?_pos,n,o,f,q,s,aV b,b,g,aV g,i,h,ax,c1];have⟨G0,S,t⟩:=(K.set (((fg d k).map ax).set k [I D,I E,I F,B false,B cK,B false,B J,B ask])).send (by first|omega|(simp;omega)) (x:=⟨D,E,F,false,cK,false,J,ask⟩) (by rw[ahr (by simpa using h)];rfl) 2;rw[S];have Z:=t.h0;have T:=t.h2;have U:=t.hx;simp[-getElem?_pos,n,o,f,p,q,r,u,T,U,h];exact⟨k+1,by omega,by simp[w,cI,c1],t.fin (by rw[<-z,aiC];simp[cI,ax,c1]) (by rw[A];simp[cI,ft,c1]) (by omega)⟩
     |false=>cases L;all_goals simp[-getElem?_pos,n,o,f,p,q,r,s,u,aV b,b,g,aV g,i,h,ax,c1];exact⟨k+1,by omega,by simp[w,cI,c1],K.fin (by have m:=z;simp[cI,c1]at m;rw[<-m,ja h (by simpa using(abW.1 i).2)]) (by rw[A];simp[cI,c1]) (by omega)⟩
    .cases L;all_goals simp[-getElem?_pos,n,o,f,p,q,r,s,u,aV b,b,g,aV g,i,h,ax,c1];exact⟨k+1,by omega,by simp[w,cI,c1],K.fin (by have m:=z;simp[cI,c1]at m;rw[<-m,ja h (by simpa using(abW.1 i).2)]) (by rw[A];simp[cI,c1]) (by omega)⟩
   |true=>
    cases cK with
    |false=>
     by_cases c1:d.phase=1
     .cases token;all_goals cases L;all_goals simp[-getElem?_pos,n,o,f,p,q,r,s,u,aV b,b,g,aV g,i,h,ax,c1];exact⟨k+1,by omega,by simp[w,cI,c1],K.fin (by have m:=z;simp[cI,c1]at m;rw[<-m,ja h (by simpa using(abW.1 i).2)]) (by rw[A];simp[cI,c1]) (by omega)⟩
     .cases L;all_goals simp[-getElem?_pos,n,o,f,p,q,r,s,u,aV b,b,g,aV g,i,h,ax,c1];exact⟨k+1,by omega,by simp[w,cI,c1],K.fin (by have m:=z;simp[cI,c1]at m;rw[<-m,ja h (by simpa using(abW.1 i).2)]) (by rw[A];simp[cI,c1]) (by omega)⟩
    |true=>
     by_cases c1:d.phase=1
     .cases token with
      |true=>cases L;all_goals simp[-getElem?_pos,n,o,f,q,s,aV b,b,g,aV g,i,h,s2,sl,ax,c1];have⟨G0,S,t⟩:=(K.set (((fg d k).map ax).set k [I D,I E,I F,B false,B false,B true,B J,B ask])).send (by first|omega|(simp;omega)) (x:=⟨D,E,F,false,false,true,J,ask⟩) (by rw[ahr (by simpa using h)];rfl) 1;rw[S];have Z:=t.h0;have T:=t.h2;have U:=t.hx;simp[-getElem?_pos,f,Z,T,U,h,c1];have⟨G1,e1,V⟩:=(t.set ((((fg d k).map ax).set k [I D,I E,I F,B false,B false,B true,B J,B ask]).set k [I D,I E,I F,B false,B false,B false,B J,B ask])).send (by first|omega|(simp;omega)) (x:=⟨D,E,F,false,false,false,J,ask⟩) (by rw[ahr (by simpa using h)];rfl) 2;simp only[ajN]at e1 V;rw[e1];have ao:=V.h0;have ai:=V.h2;have ak:=V.hx;simp[-getElem?_pos,n,o,f,p,q,r,u,ai,ak,h];exact⟨k+1,by omega,by simp[w,cI,c1],V.fin (by rw[<-z,aiC];simp[cI,ax,c1]) (by rw[A];simp[cI,ft,c1]) (by omega)⟩
      |false=>cases L;all_goals simp[-getElem?_pos,n,o,f,p,q,r,s,u,aV b,b,g,aV g,i,h,ax,c1];exact⟨k+1,by omega,by simp[w,cI,c1],K.fin (by have m:=z;simp[cI,c1]at m;rw[<-m,ja h (by simpa using(abW.1 i).2)]) (by rw[A];simp[cI,c1]) (by omega)⟩
     .by_cases c2:d.phase=2
      .cases token;all_goals cases L;all_goals simp[-getElem?_pos,n,o,f,p,q,r,s,u,aV b,b,g,aV g,i,h,ax,c2];exact⟨k+1,by omega,by simp[w,cI,c2],K.fin (by have m:=z;simp[cI,c2]at m;rw[<-m,ja h (by simpa using(abW.1 i).2)]) (by rw[A];simp[cI,c2]) (by omega)⟩
      .cases token with
       |true=>cases L;all_goals simp[-getElem?_pos,n,o,f,q,s,aV b,b,g,aV g,i,h,s2,sl,ax,c2];have⟨G0,S,t⟩:=(K.set (((fg d k).map ax).set k [I D,I E,I F,B false,B false,B true,B J,B ask])).send (by first|omega|(simp;omega)) (x:=⟨D,E,F,false,false,true,J,ask⟩) (by rw[ahr (by simpa using h)];rfl) 1;rw[S];have Z:=t.h0;have T:=t.h2;have U:=t.hx;simp[-getElem?_pos,n,o,f,p,q,r,u,Z,T,U,h,c1];exact⟨k+1,by omega,by simp[w,cI,c1,c2],t.fin (by rw[<-z,aiC];simp[cI,ax,c1,c2]) (by rw[A];simp[cI,ft,c1,c2]) (by omega)⟩
       |false=>cases L;all_goals simp[-getElem?_pos,n,o,f,p,q,r,s,u,aV b,b,g,aV g,i,h,ax,c1];exact⟨k+1,by omega,by simp[w,cI,c1,c2],K.fin (by have m:=z;simp[cI,c1,c2]at m;rw[<-m,ja h (by simpa using(abW.1 i).2)]) (by rw[A];simp[cI,c1,c2]) (by omega)⟩
  .obtain rfl:k=d.af.length:=by omega
   have⟨ol,ab,ad⟩:=X;have Q:=Bo d ho;have Y:=zh d d.af.length;by_cases c1:d.phase=1
   .cases P:pr d d.af.length with
    |true=>
     rw[P]at r;simp only[c1,P,and_self,if_true]at Q;rw[Q]at C;have s0:∀y,(H.set 0 y)[0]?=some y:=fun y=>ba b;simp[-dI,underlying59,n,o,f,r,b,s0,c1];refine Ends.sq (Ends.bl (gM (fun j:Nat=>[(100,aa d.af.length),(101,aa j),(1,au 0),(2,au 1),(6,au 3)]) (Vb d ol) [] (fun j=>d.af.length-j) _ [100,101,1,2,6] (fun _=>rfl) ?_ 0 _ (by simp[f,p,q]) ⟨by omega,ba b,by rw[aat (by decide)];exact M,by rw[aat (by decide)];exact g,by rw[aat (by decide)];exact ab,?_⟩ rfl))
     .rintro j⟨e,G,ds⟩f⟨j0,j1,j2,j3,j4,N⟩p;simp only at f j1 j2 j3 j4 N p;subst p;simp at f;have⟨n,o,f,p,q⟩:=f;by_cases hj:j<d.af.length
      .have u:adW.wrap ((j:Int)+1)=((j+1:Nat):Int):=cv (by omega);have ae:j< (fg d d.af.length).length:=by omega
       have t1:=Xo d j ae;have t2:=apO d j ae;have t3:=afy d j;have⟨x,hx⟩:=eg ((fg d d.af.length)[j]);rw[hx]at t1 t2;have⟨t4,t5⟩:=abW.1 t1;have⟨D,E,F,fork,cK,token,J,ask⟩:=x;simp[-getElem?_pos,n,o,f,p,q,u,hj,j1,j3,t1,t4,ax];refine⟨j+1,by omega,by simp,by omega,by rw[aat (by decide)];exact j1,by rw[aat (by decide)];exact j2,?_,by rw[aat (by decide)];exact j4,?_⟩
       .rw[ba j3, <-t2,aiC];rfl
       .rcases N with N|⟨ha,va,u1,u2,u3,O⟩
        .exact .inl N
        .refine .inr ⟨ha,va,u1,u2,u3,?_⟩;rw[aat (fun e=>by subst e;rw[j3]at O;simp at O)];exact O
      .obtain rfl:j=d.af.length:=by omega
       have W:∀y,(G.set 1 y)[1]?=some y:=fun y=>ba j2;simp[-dI,n,o,f,p,q,j1,j2,j4,W];rw[<-C];have t6:pN d d.af.length=(fg d d.af.length).map fun x=>{x with cK:=true}:=by unfold pN;rw[acu (by omega),aiv (by omega),aeU]
       rw[t6]at j3;exact DX (by rw[aio];exact Y) j2 j3 N
     .rcases ad with N|⟨ha,va,u1,u2,u3,O⟩
      .exact .inl N
      .refine .inr ⟨ha,va,u1,u2,u3,?_⟩;rw[aat (fun e=>by subst e;rw[b]at O;simp at O)];exact O
    |false=>rw[P]at r;simp only[c1,P,aes,and_false,if_false]at Q;rw[Q]at C;have W:∀y,(H.set 1 y)[1]?=some y:=fun y=>ba M;simp[-dI,n,o,f,p,q,r,b,M,ab,W,c1];rw[<-C];exact DX Y M g ad
   .simp only[c1,false_and,if_false]at Q;rw[Q]at C;have W:∀y,(H.set 1 y)[1]?=some y:=fun y=>ba M;simp[-dI,n,o,f,p,q,b,M,ab,W,c1];rw[<-C];exact DX Y M g ad
end
def Ar{a:Type}{p:a->Bool}{s:a}:∀ {l:List a} (k:Nat),l.find? p=some s->∃j:Nat,dv p k l=((k+j:Nat):Int)/\(∃e:j<l.length,l[j]=s)/\∀f,setAt p f l=l.set j (f s)
 |[],k,h=>by simp at h
 |x::r,k,h=>by
  rw[akh]at h
  cases b:p x with
  |true=>grind [dv,setAt]
  |false=>
   rw[b]at h
   have⟨j,g,⟨i,c⟩,d⟩:=Ar (k+1) h
   refine⟨j+1,?_,⟨by simp;omega,by simpa using c⟩,by simp[setAt,b,d]⟩
   grind [dv]
def ag4(x:aI)(p:Int)(m:cY):aS tz ay 0 345 [.agg (ax x),.c (.aJ [[I p]] 0 0),.c (.aJ [br m] 0 0)]=some (aR (jN p m.aP x),[]):=by
 refine be func345 rfl ?_;by_cases a:x.peer=p
 .by_cases b:x.aP=m.aP;all_goals simp[f345,ax,br,jN,a,b]
 .simp[f345,ax,br,jN,a]
def ur(d:cQ)(c:Int):aw×List Ob:=(.aM [.agg [I d.id,I d.phase,.sl 0 0 0 d.af.length],aa c],[ah 8 (d.af.map ax)])
def ou(c:Int):aw×List Ob:=(.aM [.agg [I 0,I 0,.aj []],aa c],[])
def afs(d:cQ)(p:Int)(m:cY)(hm:d.af.length<=100):aS tz ay 0 321 [.agg (dQ d),aa p,.agg (br m)]=some (if(jT d p m).2=0 then ur (jT d p m).1 0 else ou (jT d p m).2):=by
 obtain⟨⟨v,o⟩,b⟩:∃r,(if(jT d p m).2=0 then ur (jT d p m).1 0 else ou (jT d p m).2)=r:=⟨_,rfl⟩;rw[b];refine be func321 rfl ?_;have c:=Iv d (by unfold maxLen;omega);have q:=yZ (a:= .aj (d.af.map ax)) (l:=d.af) rfl (by omega);have e:=yj (g:=345) (caps:=[.aJ [[I p]] 0 0,.aJ [br m] 0 0]) d.af (by unfold maxLen;omega) (jN p m.aP) (fun x _=>by have:=ag4 x p m;simp[ax,br]at this;simp[ax,br,this])
 simp only[dQ]at c;simp only[br]at e;unfold jT at b;cases z:eo d with
 |false=>simp[z,ou]at c b;obtain⟨rfl,rfl⟩:=b;simp[f321,dQ,br,c]
 |true=>
  simp[z]at c b;cases t:d.af.find? (jN p m.aP)with
  |none=>rw[qX 0 t]at e;simp[t,ou]at b;obtain⟨rfl,rfl⟩:=b;simp[f321,dQ,br,c,e]
  |some x=>
   have⟨j,A,⟨s,u⟩,D⟩:=Ar 0 t;rw[aiW]at A;rw[A]at e;simp only[t,D]at b;have⟨f,h,i,fork,k,token,n,ask⟩:=x;have E:d.af[j]?=some ⟨f,h,i,fork,k,token,n,ask⟩:=by grind
   have⟨C,F,num⟩:=m;simp only at b e;by_cases c1:C=1
   .subst c1;by_cases c2:num=0
    .subst c2;cases fork with
     |true=>simp[ou]at b;obtain⟨rfl,rfl⟩:=b;simp[f321,dQ,br,c,e,q,s,u,ax]
     |false=>
      have w:ajr d.af.length ((d.af.map ax).set j [I f,I h,I i,B true,B k,B token,B n,B ask])=(d.af.set j ⟨f,h,i,true,k,token,n,ask⟩).map ax:=by rw[acu (by simp),aiC];rfl
      have y:bA ((d.af.map ax).set j [I f,I h,I i,B true,B k,B token,B n,B ask])=true:=by have:=bK (d.af.set j ⟨f,h,i,true,k,token,n,ask⟩);rw[aiC]at this;exact this
      simp[ur]at b;obtain⟨rfl,rfl⟩:=b;simp[f321,dQ,br,c,e,q,s,u,w,y,ax]
    .simp[ou,c2]at b;obtain⟨rfl,rfl⟩:=b;simp[f321,dQ,br,c,e,q,s,c2]
   .by_cases c3:C=2
    .subst c3;by_cases c2:num=0
     .subst c2;cases token with
      |true=>simp[ou]at b;obtain⟨rfl,rfl⟩:=b;simp[f321,dQ,br,c,e,q,s,u,ax]
      |false=>
       have w:ajr d.af.length ((d.af.map ax).set j [I f,I h,I i,B fork,B k,B true,B n,B ask])=(d.af.set j ⟨f,h,i,fork,k,true,n,ask⟩).map ax:=by rw[acu (by simp),aiC];rfl
       have y:bA ((d.af.map ax).set j [I f,I h,I i,B fork,B k,B true,B n,B ask])=true:=by have:=bK (d.af.set j ⟨f,h,i,fork,k,true,n,ask⟩);rw[aiC]at this;exact this
       simp[ur]at b;obtain⟨rfl,rfl⟩:=b;simp[f321,dQ,br,c,e,q,s,u,w,y,ax]
     .simp[ou,c2]at b;obtain⟨rfl,rfl⟩:=b;simp[f321,dQ,br,c,e,q,s,c2]
    .simp[ou,c1,c3]at b;obtain⟨rfl,rfl⟩:=b;simp[f321,dQ,br,c,e,q,s,c1,c3]
def pS(a:List Nat)(x:aI):cW a (ax x)=true:=by simp[ax]
def Ni(a:List Nat)(x:cB):cW a (dW x)=true:=by simp[dW]
def YI(a:List Nat)(x:cj):cW a (aW x)=true:=by simp[aW]
def Tz(x:aI)(p:Int):aS tz ay 0 172 [.agg (ax x),.c (.aJ [[I p]] 0 0)]=some (aR (decide (x.peer=p)),[]):=by refine be func172 rfl ?_;simp[f172,ax]
def TS(d:Dr)(p:Int)(hm:d.ai.af.length<=maxLen):aS tz ay 0 170 [aa p,.c (.aJ [cU d] 0 0)]=some (aR (!cJ d.ai.af p),[]):=by
 refine be func170 rfl ?_;have h:=xL (g:=172) (caps:=[.aJ [[I p]] 0 0]) d.ai.af hm (fun x=>decide (x.peer=p)) (by simp) (by simp) (bK _) (fun x _=>by have:=Tz x p;simp[ax]at this;simp[ax,this])
 simp[f170,cU,h,cJ]
def yP(d:Dr)(hm:d.ai.af.length<=maxLen)(hn:d.need.length<=maxLen):aS tz ay 0 105 [.agg (cU d)]=some (aa (if dC d then 0 else 150),[]):=by
 refine be func105 rfl ?_;have a:=Iv d.ai hm;have c:=Cn d.need hn;have f:=vL (g:=170) (caps:=[.aJ [cU d] 0 0]) d.need hn (fun p=>!cJ d.ai.af p) (by simp) (by simp[cU]) (bi _) (fun p _=>by have:=TS d p hm;simp[cU]at this;simp[cU,this])
 simp only[dQ]at a;simp only[aG]at c;simp only[cU,aG]at f;cases h:eo d.ai with
 |false=>simp[h]at a;simp[f105,cU,a,dC,h]
 |true=>
  simp[h]at a;by_cases i:d.aQ<0
  .simp[f105,cU,a,dC,h,i]
  by_cases j:2<d.aQ
  .simp[f105,cU,a,dC,h,i,j]
  cases l:ek d.need with
  |false=>simp[l]at c;simp[f105,cU,a,c,dC,h,i,j,l]
  |true=>
   simp[l]at c;have k:(d.need.any fun p=>!cJ d.ai.af p)=true\/(d.need.any fun p=>!cJ d.ai.af p)=false:=by cases d.need.any _<;>simp
   have b:dC d=(!(decide (d.aQ=0)&&!d.need.isEmpty)&&!(d.need.any fun p=>!cJ d.ai.af p)):=by simp only[dC,h,l];simp[i,j]
   by_cases e:d.aQ=0
   .by_cases m:d.need=[]
    .simp[e,m]at c f b;simp[f105,cU,a,c,f,b,e,m]
    .have n:0<d.need.length:=akt.2 m;have o:d.need.isEmpty=false:=by simpa using m
     simp[e,o]at b;simp[f105,cU,a,c,b,e,n]
   .rcases k with k|k
    .simp only[k]at f b;simp[e]at b;simp[f105,cU,a,c,f,b,i,j,e]
    .simp only[k]at f b;simp[e]at b;simp[f105,cU,a,c,f,b,i,j,e]
def iL(r:Dr×Int):aw×List Ob:=if r.2=0 then(.aM [.agg [I r.1.ai.id,I r.1.ai.phase,.sl 0 0 0 r.1.ai.af.length,I r.1.aQ,aG r.1.need],aa 0],[ah 8 (r.1.ai.af.map ax)])else(.aM [.agg [I 0,I 0,.aj [],I 0,.aj []],aa r.2],[])
def yG(d:Dr)(hm:d.ai.af.length<=100)(hn:d.need.length<=100000):aS tz ay 0 262 [.agg (cU d)]=some (.agg [I d.ai.id,I d.ai.phase,.sl 0 0 0 d.ai.af.length,I d.aQ,aG d.need],[ah 8 (d.ai.af.map ax)]):=by refine be func262 rfl ?_;have b:=yZ (a:= .aj (d.ai.af.map ax)) (l:=d.ai.af) rfl (by omega);have c:=uF (a:= .aj (d.need.map aC)) (l:=d.need) rfl (by omega);simp[f262,cU,b,c]
def abz(d:Dr)(hm:d.ai.af.length<=100)(hn:d.need.length<=100000):aS tz ay 0 194 [.agg (cU d)]=some (iL (kH d)):=by
 obtain⟨⟨v,o⟩,a⟩:∃r,iL (kH d)=r:=⟨_,rfl⟩;rw[a];refine be func194 rfl ?_;have b:=yP d (by unfold maxLen;omega) (by unfold maxLen;omega);have f:=yG d hm hn;simp only[cU,aG]at b f;cases e:dC d with
 |false=>simp[e,kH,iL]at b a;obtain⟨rfl,rfl⟩:=a;simp[f194,cU,b]
 |true=>
  simp[e]at b;by_cases c:d.aQ=0
  .simp[e,kH,iL,c]at a;obtain⟨rfl,rfl⟩:=a;simp[f194,cU,c];simp[c]at b;simp[b]
  .simp[e,kH,iL,c]at a;obtain⟨rfl,rfl⟩:=a;simp[f194,cU,b,f,c]
def abJ(x:aI)(p:Int)(m:cY):aS tz ay 0 320 [.agg (ax x),.c (.aJ [[I p]] 0 0),.c (.aJ [br m] 0 0)]=some (aR (jN p m.aP x),[]):=by
 refine be func320 rfl ?_;by_cases a:x.peer=p
 .by_cases b:x.aP=m.aP;all_goals simp[f320,ax,br,jN,a,b]
 .simp[f320,ax,br,jN,a]
def Uy(d:Dr)(p:Int)(m:cY)(hm:d.ai.af.length<=100)(hn:d.need.length<=100000):aS tz ay 0 277 [.agg (cU d),aa p,.agg (br m)]=some (iL (Bk d p m)):=by
 obtain⟨⟨v,o⟩,a⟩:∃r,iL (Bk d p m)=r:=⟨_,rfl⟩;rw[a];refine be func277 rfl ?_;have b:=yP d (by unfold maxLen;omega) (by unfold maxLen;omega);have h:=yG d hm hn;have e:=yj (g:=320) (caps:=[.aJ [[I p]] 0 0,.aJ [br m] 0 0]) d.ai.af (by unfold maxLen;omega) (jN p m.aP) (fun x _=>by have:=abJ x p m;simp[ax,br]at this;simp[ax,br,this])
 have f:=afs d.ai p m hm;simp only[cU,aG]at b h;simp only[br]at e;simp only[dQ,br]at f;have s:=bK d.ai.af;unfold Bk at a;cases A:dC d with
 |false=>simp[A,iL]at b a;obtain⟨rfl,rfl⟩:=a;simp[f277,cU,br,b]
 |true=>
  simp[A]at b a;cases t:d.ai.af.find? (jN p m.aP)with
  |none=>
   rw[qX 0 t]at e;simp only[t]at a;by_cases c:(jT d.ai p m).2=0
   .simp[c,ur,iL]at f a;obtain⟨rfl,rfl⟩:=a;simp[f277,cU,br,b,h,e,f,pS]
   .simp[c,ou,iL]at f a;obtain⟨rfl,rfl⟩:=a;simp[f277,cU,br,b,h,e,f,c]
  |some x=>
   have⟨j,C,⟨u,w⟩,E⟩:=Ar 0 t;rw[aiW]at C;rw[C]at e;simp only[t,E]at a;have⟨i,k,l,fork,n,token,q,ask⟩:=x;have⟨y,D,num⟩:=m;simp only at a e f;by_cases c2:num=0
   .subst c2;by_cases c3:y=3
    .subst c3;cases q with
     |true=>simp[iL]at a;obtain⟨rfl,rfl⟩:=a;simp[f277,cU,br,b,h,e,u,w,ax]
     |false=>
      have s:ajr d.ai.af.length ((d.ai.af.map ax).set j [I i,I k,I l,B fork,B n,B token,B true,B ask])=(d.ai.af.set j ⟨i,k,l,fork,n,token,true,ask⟩).map ax:=by rw[acu (by simp),aiC];rfl
      have z:bA ((d.ai.af.map ax).set j [I i,I k,I l,B fork,B n,B token,B true,B ask])=true:=by have:=bK (d.ai.af.set j ⟨i,k,l,fork,n,token,true,ask⟩);rw[aiC]at this;exact this
      simp[iL]at a;obtain⟨rfl,rfl⟩:=a;simp[f277,cU,br,b,h,e,s,z,u,w,ax]
    .by_cases c4:y=4
     .subst c4;cases ask with
      |true=>simp[iL]at a;obtain⟨rfl,rfl⟩:=a;simp[f277,cU,br,b,h,e,u,w,ax]
      |false=>
       have s:ajr d.ai.af.length ((d.ai.af.map ax).set j [I i,I k,I l,B fork,B n,B token,B q,B true])=(d.ai.af.set j ⟨i,k,l,fork,n,token,q,true⟩).map ax:=by rw[acu (by simp),aiC];rfl
       have z:bA ((d.ai.af.map ax).set j [I i,I k,I l,B fork,B n,B token,B q,B true])=true:=by have:=bK (d.ai.af.set j ⟨i,k,l,fork,n,token,q,true⟩);rw[aiC]at this;exact this
       simp[iL]at a;obtain⟨rfl,rfl⟩:=a;simp[f277,cU,br,b,h,e,s,z,u,w,ax]
     .simp[c3,c4]at a;by_cases c:(jT d.ai p ⟨y,D,0⟩).2=0
      .simp[c,ur,iL]at f a;obtain⟨rfl,rfl⟩:=a;simp[f277,cU,br,b,h,e,f,pS,c3,c4]
      .simp[c,ou,iL]at f a;obtain⟨rfl,rfl⟩:=a;simp[f277,cU,br,b,h,e,f,c,c3,c4]
   .simp[c2]at a;by_cases c:(jT d.ai p ⟨y,D,num⟩).2=0
    .simp[c,ur,iL]at f a;obtain⟨rfl,rfl⟩:=a;simp[f277,cU,br,b,h,e,f,pS,c2]
    .simp[c,ou,iL]at f a;obtain⟨rfl,rfl⟩:=a;simp[f277,cU,br,b,h,e,f,c,c2]
section
variable{Cs:List Nat}{a:ab}{H:List Ob}
def ZL(x:aI):aS tz ay 0 315 [.agg (ax x)]=some (aR (r9 x),[]):=by refine be func315 rfl ?_;by_cases h:x.state=1;all_goals simp[f315,ax,r9,h]
def M9(a b:Dr)(hm:a.ai.af.length<=maxLen)(hn:a.need.length<=maxLen):aS tz ay 0 212 [.agg (cU a),.agg (cU b)]=some (aR (decide (a=b)),[]):=by
 refine be func212 rfl ?_;have h:=afO a.ai b.ai hm;have c:=zB a.need b.need hn;have⟨d,t,n⟩:=a;have⟨i,j,k⟩:=b;simp only[dQ]at h c;by_cases e:d=i
 case neg=>simp[e]at h;simp[f212,cU,h,e]
 by_cases g:t=j
 case neg=>simp[e]at h;simp[f212,cU,h,e,g]
 subst e;by_cases f:n=k
 .simp[f]at h c;simp[f212,cU,h,c,g,f]
 .simp[f]at h c;simp[f212,cU,h,c,g,f]
def mS(H:List Ob)(b:Nat)(c:ab)(l:List cB):Prop:=(l=[]/\c=eW)\/∃a d,a≠b/\c= .sl a d 0 l.length/\H[a]?=some (.live d 5 (l.map dW))
structure kL(H:List Ob)(b:Nat)(id ph:Int)(sl:ab)(th:Int)(nd ol:ab)(l:List cB):Prop where
 hb:H[b]?=some (ah 6 [[I id,I ph,sl,I th,nd,ol]])
 ho:mS H b ol l
def Fr(Cs:List Nat)(c d:ab)(H b:List Ob):Prop:=H.length<=b.length/\∀(m:Nat) (o:Ob),H[m]?=some o->m∉Cs->(∀v a n,c≠ .sl m v a n)->b[m]?=some o/\∀v a n,d≠ .sl m v a n
theorem Fr.refl(Cs:List Nat)(a:ab)(H:List Ob):Fr Cs a a H H:=⟨ad3 _,fun _ _ h _ b=>⟨h,b⟩⟩
def Fr.trans{b c:ab}{d e:List Ob}(h:Fr Cs a b H d)(f:Fr Cs b c d e):Fr Cs a c H e:=⟨ai5 h.1 f.1,fun m o i g j=>by have⟨k,l⟩:=h.2 m o i g j;exact f.2 m o k g l⟩
theorem Fr.mono{c:List Nat}{b:ab}{d:List Ob}(h:Fr Cs a b H d)(e:∀x∈Cs,x∈c):Fr c a b H d:=⟨h.1,fun m o f g i=>h.2 m o f (fun h=>g (e _ h)) i⟩
def Fr.set{n:Nat}(hn:n∈Cs)(y:Ob):Fr Cs a a H (H.set n y):=⟨by simp,fun m o b c d=>⟨by rw[aat (fun e=>by subst e;exact c hn)];exact b,d⟩⟩
def Fr.snoc{l:List Ob}:Fr Cs a a H (H++l):=⟨by simp,fun m o b d c=>⟨aV b,c⟩⟩
def L9{id j p:Int}{sl q u:ab}{b:Nat}{l:List cB}{H:List Ob}(h:kL H b id j sl p q u l)(x:aI)(k:Int)(E:l.length<=100000):
  ∃a c,bB tz (ev tz) 343 [au b,.agg (ax x),aa k] H=some (.aM [],a)/\kL a b id j sl p q c (l++[ft id x k])/\Fr [b] u c H a:=by
 have⟨d,A⟩:=h
 have F:=bf d
 have B:=cG (C:=tz) (f:=343) (args:=[au b,.agg (ax x),aa k]) (H:=H) (fun r a=>r= .aM []/\∃c,kL a b id j sl p q c (l++[ft id x k])/\Fr [b] u c H a) func343 rfl ?_
 .obtain ⟨r,a,g,rfl,c,i⟩:=B
  exact⟨a,c,g,i⟩
 rcases A with⟨rfl,rfl⟩|⟨z,s,t,rfl,w⟩
 .simp[f343,d,aV d,ax]
  refine⟨_,⟨ba (aV d),.inr ⟨H.length+1,0,by omega,rfl,?_⟩⟩,by simp,fun m o g i y=>⟨?_,fun v D n e=>?_⟩⟩
  .rw[aat (by omega),jh]
   rfl
  .rw[aat (fun e=>i (by simp[e]))]
   exact aV g
  .have:=bf g
   cases e
   omega
 .have G:=bf w
  simp[f343,d,t,aV d,aV w,ax,show l.length+1<=maxLen/\(l.length+1)*40<=140737488355328 from⟨by unfold maxLen;omega,by omega⟩]
  refine⟨_,⟨ba (x:=ah 6 [[I id,I j,sl,I p,q,.sl z s 0 l.length]]) (by rw[aat t];exact aV d),.inr ⟨z,s+1,t,by simp,?_⟩⟩,by simp,fun m o g i y=>⟨?_,fun v D n e=>?_⟩⟩
  .rw[aat (ait t),ba (aV w)]
   simp[ft,dW]
  .rw[aat (fun e=>i (by simp[e])),aat (fun e=>y s 0 l.length (by rw[e]))]
   exact aV g
  .cases e
   exact y s 0 l.length rfl
end
end Go.Nx
