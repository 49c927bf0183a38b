/- A part of the proof. -/
import Derived.Below
import Derived.Calls
import Derived.ChangeOld
import Derived.Defers
import Derived.KernelRfl
import Derived.LaidEql
import Derived.LaidHandle
import Derived.LaidMore
import Derived.LaidSub
import Derived.Laws.AppendOwn
import Derived.Laws.AppendOwnNone
import Derived.Laws.BytesArg
import Derived.Laws.Externs
import Derived.Laws.MakeOwn
import Derived.Laws.Strings
import Derived.Laws.StructEq
import Derived.Laws.Tables
import Derived.Lay
import Derived.Lib.AppendStr
import Derived.Lib.AppendZerosOnto
import Derived.Lib.ConvBytes
import Derived.Lib.LaidU8
import Derived.Lib.Overlaps
import Derived.Lib.Strings
import Derived.MapKept
import Derived.OpenShut
import Derived.Orders
import Derived.ProofKit
import Derived.Recover
import Derived.RowKitTokens
import Derived.Scope
import Derived.ScopeJumps
import Derived.SevenTiedAt
import Derived.Shelf.Lays
import Derived.Shelf.Lays2
import Derived.Shelf.Slices.In.SortNone
import Derived.Shelf.Sort.Plain
import Derived.Shelf.Strings.Builder1
import Derived.Shelf.Strings.Count
import Derived.Shelf.Strings.Search1
import Derived.ShutString
import Derived.Sort.Grow
import Derived.Sort.Row
import Derived.Stop.Asserts
import Derived.Stop.Joined
import Derived.Test.YtndifkmolciiaaaGreatDoorProg
import Derived.WalkKit
set_option linter.all false
set_option maxRecDepth 8000
set_option maxHeartbeats 1000000
open Array renaming range->amM,replicate->ak1
open BitVec renaming ofInt->aji
open Functor renaming map->alO
open Go.Builtin renaming append_->aiL,clear_->alo,copy_->akH,firstCells->ai4,lenOf->akf,max2->amr,min2->amq,nextslicecap->alN,zeroCells->aiy
open Go.Call renaming operands->aiM
open Go.DataW renaming trod->ak8
open Go.Exit renaming inBlock->amL
open Go.Instr renaming buildSlice->ako,checkKey->akU,fieldAt->ak3,fill->ak7,findAsking->ajL,findKey->amA,indexAt->akI,loadAt->akT,lookup->alM,makeInterface->alZ,mapUpdate->aln,next->al4,sameBits->amp,sliceAt->ajy,sliceBounds->ajX,sliceBound->ama,slice->akO,storeAt->alz,sureAddr->ali,typeAssert->alv
open Go.IntKind renaming bits->amZ,i64->adW,signed->amU,wrap->am0
open Go.Lib renaming bytesWorld->ak0
open Go.Op renaming eqFields->al9,equalIn->alu,intBits->amc,operands->acH,stringOp->al8
open Go.Oper renaming upon_value->aky
open Go.Program renaming built->amn
open Go.Question renaming forced->al0
open Go.Region renaming wanted->ak5
open Go.Result renaming andThen_ok->aiG,andThen->ajd
open Go.Sem renaming run_bind->aiT
open Go.Value renaming okWide->alj,oneCell'->aiw,string->amD
open Go.World renaming cells?->amC,freeze->alE
open List renaming drop_eq_getElem_cons->agO,getElem?_append_right->aea,getElem?_set_self->ahr,length_append->agc,length_drop->aj0,map_congr_left->ajp,map_map->ajc,range->aiZ,replicate->ahv
open Nat renaming add_mul->air,mod_eq_of_lt->amh,mod_lt->akE,mul_le_mul_right->aiN
open Option renaming map_eq_some_iff->ab4
open Option.some renaming injEq->ab1
open UInt8 renaming ofNat->al1
open Go Go.Proofs
def aat:=@List.getElem?_set_ne
def abE:=@List.getElem?_append_left
def abM:=@List.getElem?_eq_getElem
def abR:=@Bool.and_eq_true
def abW:=@List.getElem?_eq_some_iff
def aca:=@Prod.mk.injEq
def adf:=@List.getElem?_map
def ad3:=@Nat.le_refl
def aes:=@Bool.false_eq_true
def ae4:=@List.eq_nil_of_length_eq_zero
def aeU:=@List.append_nil
def ae5:=@List.getD_eq_getElem?_getD
def ait:=@Ne.symm
def ag9:=@List.map_cons
def aeM:=@List.mem_cons
def aio:=@List.length_map
def aiq:=@List.length_filter_le
def afa:=@Bool.not_eq_true'
def aiz:=@List.flatMap_cons
def aix:=@List.getElem_mem
def aiu:=@List.append_assoc
def ain:=@List.mem_append
def aip:=@List.length_cons
def aiB:=@Nat.add_zero
def ahI:=@List.all_eq_true
def aiK:=@List.mem_map
def aiF:=@List.take_length
def aiA:=@List.cons.injEq
def aiD:=@List.nil_append
def aiv:=@List.drop_eq_nil_of_le
def ais:=@Int.toNat_natCast
def aiS:=@Nat.lt_of_lt_of_le
def ai5:=@Nat.le_trans
def aiV:=@List.not_mem_nil
def aiU:=@List.map_nil
def ai6:=@World.cell?_alloc_lt
def aiJ:=@List.mem_of_getElem?
def ai8:=@List.take_left'
def aiP:=@List.length_set
def ai2:=@List.foldl_cons
def ai9:=@Bool.or_eq_true
def ajl:=@List.filter_append
def aiW:=@Nat.zero_add
def aks:=@List.mem_map_of_mem
def aiR:=@Array.getD_eq_getD_getElem?
def ai1:=@List.length_take
def aja:=@List.any_eq_false
def ai7:=@List.cons_append
def ajt:=@List.size_toArray
def aiI:=@List.flatten_cons
def ajv:=@Nat.eq_of_beq_eq_true
def aiQ:=@List.length_nil
def ajA:=@List.mem_of_mem_take
def ajh:=@List.foldl_append
def aju:=@List.ext_getElem?
def akn:=@List.drop_zero
def ajG:=@Option.some.inj
def ajH:=@List.mem_filter
def ajI:=@List.take_append_drop
def ajn:=@List.flatMap_nil
def ajO:=@Option.map_some
def akh:=@List.find?_cons
def aje:=@Array.length_toList
def ai0:=@Option.getD_some
def aj8:=@Nat.le_of_eq
def ai3:=@List.getElem?_drop
def ajJ:=@List.contains_iff_mem
def ajU:=@List.mem_of_find?_eq_some
def akp:=@Classical.byContradiction
def ajY:=@List.mem_of_mem_drop
def aiX:=@Bool.or_eq_false_iff
def ajN:=@List.set_set
def ajm:=@Option.getD_none
def akq:=@List.any_eq_true
def akb:=@List.take_append_of_le_length
def akd:=@List.drop_drop
def ajk:=@Option.isSome_none
def akZ:=@Nat.eq_zero_or_pos
def ajB:=@Nat.sub_self
def aj1:=@Nat.min_eq_left
def aj5:=@Array.size_append
def akl:=@List.range_eq_range'
def aiO:=@List.mem_cons_of_mem
def ajP:=@List.replicate_succ
def aj9:=@List.all_map
def aj6:=@List.getElem?_take_of_lt
def alS:=@List.any_cons
def ajj:=@Option.isSome_some
def ajQ:=@List.set_cons_zero
def akz:=@List.mem_singleton
def alW:=@List.find?_eq_none
def akA:=@World.frozen?_alloc_old
def akB:=@Option.bind_eq_some_iff
def akD:=@MapKept.run_getObj_map
def akg:=@Nat.zero_le
def al2:=@List.pairwise_map
def ajR:=@Nat.le_of_ble_eq_true
def aki:=@Bool.and_eq_false_iff
def akk:=@List.set_append_left
def ajg:=@Nat.add_assoc
def aka:=@Int.le_refl
def akt:=@List.length_pos_iff
def alH:=@List.getElem_of_mem
def aku:=@List.flatMap_append
def am1:=@Int.fdiv_eq_ediv_of_nonneg
def ajC:=@Array.getElem?_eq_some_iff
def akW:=@Sem.run_pure
def al6:=@Nat.min_comm
def aj7:=@Nat.lt_or_ge
def akY:=@Tryz.underlying134
def ajz:=@List.mem_cons_self
def ak2:=@Bool.false_and
def akQ:=@Nat.ble_eq
def alc:=@Iff.rfl
def akw:=@List.all_cons
def ald:=@Bool.and_self
def alf:=@Tryz.underlying9
def akN:=@List.filter_cons
def alh:=@Lib.cell_of_heap
def alm:=@List.append_eq_nil_iff
def ajE:=@Array.getElem?_eq_none
def akX:=@Nat.zero_mul
def akS:=@List.find?_some
def als:=@List.length_replicate
def aiE:=@List.getElem?_eq_none
def akK:=@Array.getElem?_toList
def aly:=@World.cell?_alloc_at
def am9:=@Nat.add_le_add_right
def amJ:=@Nat.mul_le_mul
def alC:=@List.drop_take
def alI:=@List.flatten_append
def alJ:=@List.filterMap_cons
def alR:=@Go.Proofs.Any.slices_Sort_int_none
def ana:=@UInt8.toNat_ofNat'
def alT:=@Tryz.underlying349
def alV:=@List.set_cons_succ
def alX:=@BitVec.toNat_ofInt
def alY:=@List.set_eq_take_append_cons_drop
def anm:=@Option.isSome_map
def al3:=@Int.emod_eq_of_lt
def akG:=@Array.getElem?_setIfInBounds_ne
def alq:=@Nat.le_of_lt
def amd:=@Tryz.underlying5
def ame:=@Tryz.underlying4
def amf:=@Tryz.underlying3
def amg:=@Tryz.underlying0
def ami:=@List.range'_succ
def amt:=@Tryz.zeroValue9
def amu:=@Tryz.zeroValue5
def amv:=@Tryz.zeroValue3
def amw:=@Tryz.zeroValue0
def akR:=@List.nodup_cons
def ans:=@List.drop_left'
def akV:=@Array.getElem?_append_left
def alD:=@Bool.and_false
def ak4:=@List.mem_or_eq_of_mem_set
def ala:=@List.eq_of_mem_replicate
def akP:=@Bool.and_true
def ale:=@List.getElem?_cons_zero
def alr:=@Nat.add_comm
def al7:=@List.all_nil
def ajS:=@List.length_singleton
def ams:=@Nat.le_succ
def alF:=@List.take_succ_cons
def alU:=@Nat.add_sub_cancel
def ake:=@Bool.not_eq_false'
def al5:=@Decidable.not_not
def amj:=@List.mem_flatMap
def aj3:=@Bool.eq_iff_iff
def alB:=@List.mem_range
def alA:=@List.take_left
def alG:=@List.replicate_zero
def ak9:=@List.nodup_append
def akM:=@List.isEmpty_iff
def amK:=@List.drop_left
def amE:=@Array.toList_setIfInBounds
def ajT:=@Array.getElem?_modify
def akF:=@Array.ext'
namespace Go.Nx
def lV(w:World)(o:Obj)(i:Nat)(h:i<w.heap.size):(w.alloc o).heap[i]?=w.heap[i]?:=@heap_alloc_old w o i h
def eg{b:Type _}(a:b):∃x,a=x:=⟨a,rfl⟩
inductive ab where
 |v (x:Value)
 |aj (rows:List (List ab))
 |ptr (h ver i k:Nat)
 |sl (h ver lo len:Nat)
 |aJ (rows:List (List ab)) (i k:Nat)
 |eU (rows:List (List ab))
 |bF (f:FuncId) (caps:List ab)
 |mr (h:Nat)
 |ig (t:TypeId) (l:ab)
 |mG (h:Nat)
inductive aw where
 |c (l:ab)
 |agg (cs:List ab)
 |aM (vs:List aw)
abbrev I(n:Int):ab:= .v (.int .i64 n)
abbrev B(b:Bool):ab:= .v (.bool b)
abbrev eW:ab:= .v (.slice none 0 0)
structure fm where
 base:Option Nat
 off:Nat
 cap:Nat
 sz:Nat
inductive Ob where
 |live (ver sz:Nat) (rows:List (List ab))
 |dead
 |mp (ents:List (List ab×ab))
 |it (s:ByteArray) (pos:Nat)
structure az where
 w:World
 F:Nat->Nat->Prop
 X:Nat->Prop
 hs:List (fm×Nat)
mutual
def aB(e:az):ab->Value->Prop
 | .v x,y=>y=x/\x.oneCell'=true
 | .aj rows,y=>(y= .slice none 0 0/\rows=[])\/∃a cap g,y= .slice (some a) rows.length cap/\rows.length<=cap/\
   (rows=[]\/(a.spot=none/\e.F a.block g/\bE e a.block g a.off rows))
 | .ptr h j i k,y=>∃c d p,e.hs[h]?=some (c,d)/\j<=d/\y= .pointer p/\(j=d->∃b,c.base=some b/\p=some ⟨b,c.off+i*c.sz+k,none⟩)
 | .sl h j m n,y=>∃c d a cap,e.hs[h]?=some (c,d)/\j<=d/\y= .slice a n cap/\(j=d->
   (c.base=none/\a=none/\cap=0/\m=0/\n=0)\/
   ∃b o,c.base=some b/\a=some o/\cap=c.cap-m/\m+n<=c.cap/\(m<c.cap->o=⟨b,c.off+m*c.sz,none⟩))
 | .aJ rows i k,y=>∃b q g,y= .pointer (some ⟨b,q+i*g+k,none⟩)/\e.F b g/\bE e b g q rows
 | .eU rows,y=>∃a cap g,y= .slice (some a) rows.length cap/\rows.length<=cap/\
   (rows=[]\/(a.spot=none/\e.F a.block g/\bE e a.block g a.off rows))
 | .bF f u,y=>∃s,y= .func (.func f) #[] s/\aY e u s.toList
 | .mr h,y=>∃c d r,e.hs[h]?=some (c,d)/\y= .map r/\(0=d->∃b,c.base=some b/\r=some b)
 | .ig t l,y=>∃z,y= .iface t z/\aB e l z
 | .mG h,y=>∃c d p,e.hs[h]?=some (c,d)/\y= .pointer p/\(0=d->∃b,c.base=some b/\p=some ⟨b,0,none⟩)
def bE(c:az)(b a:Nat):Nat->List (List ab)->Prop
 |_,[]=>True
 |off,r::d=>r.length=a/\cR c b off r/\bE c b a (off+a) d
def cR(a:az)(b:Nat):Nat->List ab->Prop
 |_,[]=>True
 |off,l::c=>(∃y,a.w.cell? ⟨b,off,none⟩=some y/\aB a l y)/\cR a b (off+1) c
def aY(b:az):List ab->List Value->Prop
 |[],a=>a=[]
 |l::d,a=>∃y c,a=y::c/\aB b l y/\aY b d c
end
mutual
def aL(Γ:az):aw->Value->Prop
 | .c l,y=>aB Γ l y
 | .agg cs,y=>∃a,y= .agg a/\aY Γ cs a.toList
 | .aM b,y=>∃a,y= .tuple a/\bT Γ b a.toList
def bT(b:az):List aw->List Value->Prop
 |[],a=>a=[]
 |l::d,a=>∃y c,a=y::c/\aL b l y/\bT b d c
end
structure az.Le(Γ Γ':az):Prop where
 F:∀b z,Γ.F b z->Γ'.F b z
 mem:∀b z,Γ.F b z->Γ'.w.heap[b]?=Γ.w.heap[b]?
 hs:∀(h:Nat) (inf:fm) (ver:Nat),Γ.hs[h]?=some (inf,ver)->∃inf' ver',Γ'.hs[h]?=some (inf',ver')/\ver<=ver'/\(ver=ver'->inf'=inf)
theorem az.Le.refl(a:az):a.Le a:=⟨fun _ _ h=>h,fun _ _ _=>rfl,fun _ b c h=>⟨b,c,h,ad3 _,fun _=>rfl⟩⟩
def az.Le.trans{c d e:az}(h:c.Le d)(f:d.Le e):c.Le e where
 F b z a:=f.F b z (h.F b z a)
 mem b z a:=(f.mem b z (h.F b z a)).trans (h.mem b z a)
 hs n g i hn:=by
  grind [(az.Le.hs)]
theorem az.Le.cell{b c:az}(h:b.Le c){a:Addr}{z:Nat}(d:b.F a.block z):c.w.cell? a=b.w.cell? a:=by simp[World.cell?,h.mem _ _ d]
mutual
theorem lI{p q:az}(h:p.Le q):∀(l:ab) (y:Value),aB p l y->aB q l y
 | .v x,y,hc=>by grind [aB]
 | .aj rows,y,hc=>by
  simp only[aB]at hc|-
  rcases hc with hc|⟨a,cap,j,d,g,c⟩
  .exact .inl hc
  .refine .inr ⟨a,cap,j,d,g,?_⟩
   rcases c with c|⟨c,m,o⟩
   .exact .inl c
   .exact .inr ⟨c,h.F _ _ m,wU h _ _ m _ rows o⟩
 | .ptr n r i k,y,hc=>by
  grind [aB,(az.Le.hs)]
 | .sl n r H I,y,hc=>by
  simp only[aB]at hc|-
  have⟨s,u,a,cap,d,g,w,c⟩:=hc
  have⟨A,B,C,J,K⟩:=h.hs n s u d
  refine⟨A,B,a,cap,C,by omega,w,fun e=>?_⟩
  grind
 | .aJ rows i k,y,hc=>by
  simp only[aB]at hc|-
  have⟨b,D,j,d,g,c⟩:=hc
  exact⟨b,D,j,d,h.F _ _ g,wU h _ _ g _ rows c⟩
 | .eU rows,y,hc=>by
  simp only[aB]at hc|-
  have⟨a,cap,j,d,g,c⟩:=hc
  refine⟨a,cap,j,d,g,?_⟩
  rcases c with c|⟨c,m,o⟩
  .exact .inl c
  .exact .inr ⟨c,h.F _ _ m,wU h _ _ m _ rows o⟩
 | .bF f E,y,hc=>by
  simp only[aB]at hc|-
  have⟨G,d,g⟩:=hc
  exact⟨G,d,G9 h E _ g⟩
 | .mr n,y,hc=>by
  grind [aB,(az.Le.hs)]
 | .ig t l,y,hc=>by
  simp only[aB]at hc|-
  have⟨z,d,g⟩:=hc
  exact⟨z,d,lI h l z g⟩
 | .mG n,y,hc=>by
  grind [aB,(az.Le.hs)]
theorem wU{a d:az}(h:a.Le d)(b c:Nat){f:Nat}(e:a.F b f):∀(off:Nat) (rows:List (List ab)),bE a b c off rows->bE d b c off rows
 |_,[],_=>by simp[bE]
 |off,r::g,hc=>by
  simp only[bE]at hc|-
  exact⟨hc.1,ME h b e _ r hc.2.1,wU h b c e _ g hc.2.2⟩
theorem ME{c d:az}(h:c.Le d)(b:Nat){f:Nat}(e:c.F b f):∀(off:Nat) (r:List ab),cR c b off r->cR d b off r
 |_,[],_=>by simp[cR]
 |off,l::g,hc=>by
  simp only[cR]at hc|-
  have⟨⟨y,i,j⟩,k⟩:=hc
  exact⟨⟨y,(h.cell (a:=⟨b,off,none⟩) e).trans i,lI h l y j⟩,ME h b e _ g k⟩
theorem G9{c Γ':az}(h:c.Le Γ'):∀(a:List ab) (b:List Value),aY c a b->aY Γ' a b
 |[],b,hc=>by grind [aY]
 |l::a,b,hc=>by
  simp only[aY]at hc|-
  have⟨y,d,e,f,g⟩:=hc
  exact⟨y,d,e,lI h l y f,G9 h a d g⟩
end
mutual
theorem DB{a b:az}(h:a.Le b):∀(l:aw) (y:Value),aL a l y->aL b l y
 | .c l,y,hc=>by grind [aL,(lI)]
 | .agg cs,y,hc=>by
  grind [aL,(G9)]
 | .aM g,y,hc=>by
  simp only[aL]at hc|-
  have⟨d,e,f⟩:=hc
  exact⟨d,e,Ei h _ _ f⟩
theorem Ei{c d:az}(h:c.Le d):∀(a:List aw) (b:List Value),bT c a b->bT d a b
 |[],b,hc=>by grind [bT]
 |l::a,b,hc=>by
  simp only[bT]at hc|-
  have⟨y,e,f,g,i⟩:=hc
  exact⟨y,e,f,DB h l y g,Ei h a e i⟩
end
def tq{a c:az}(h:a.Le c)(b:Nat):∀(off:Nat) (r:List ab),(∀j,off<=j->j<off+r.length->c.w.cell? ⟨b,j,none⟩=a.w.cell? ⟨b,j,none⟩)->cR a b off r->cR c b off r
 |_,[],_,_=>by simp[cR]
 |off,l::f,hm,hc=>by
  simp only[cR]at hc|-
  have⟨⟨y,d,e⟩,g⟩:=hc
  refine⟨⟨y,(hm off (ad3 _) (by simp)).trans d,lI h l y e⟩,tq h b _ f (fun j d e=>hm j (by omega) (by simp;omega)) g⟩
def rM{c d:az}(h:c.Le d)(b a:Nat):∀(off:Nat) (rows:List (List ab)),(∀j,off<=j->j<off+rows.length*a->d.w.cell? ⟨b,j,none⟩=c.w.cell? ⟨b,j,none⟩)->bE c b a off rows->bE d b a off rows
 |_,[],_,_=>by simp[bE]
 |off,r::e,hm,hc=>by
  simp only[bE]at hc|-
  have⟨g,i,k⟩:=hc
  have m:(r::e).length*a=a+e.length*a:=by grind
  refine⟨g,tq h b _ r (fun j f l=>hm j f (by omega)) i,rM h b a _ e (fun j f l=>hm j (by omega) (by omega)) k⟩
theorem uT{c:az}{b:Nat}:∀ {off:Nat} {r:List ab} {k:Nat} {l:ab},cR c b off r->r[k]?=some l->∃y,c.w.cell? ⟨b,off+k,none⟩=some y/\aB c l y
 |off,[],k,l,_,a=>by simp at a
 |off,x::d,0,l,hc,a=>by
  grind [cR]
 |off,x::d,k+1,l,hc,a=>by
  simp only[cR]at hc
  have:=uT hc.2 (by simpa using a)
  grind
theorem jL{d:az}{b c:Nat}:∀ {off:Nat} {rows:List (List ab)} {i:Nat} {r:List ab},bE d b c off rows->rows[i]?=some r->r.length=c/\cR d b (off+i*c) r
 |off,[],i,r,_,a=>by simp at a
 |off,x::e,0,r,hc,a=>by
  grind [bE]
 |off,x::e,i+1,r,hc,a=>by
  simp only[bE]at hc
  have:=jL hc.2.2 (by simpa using a)
  grind
theorem nS{a:az}{b:Nat}:∀ {off:Nat} {r:List ab},(∀(k:Nat) (l:ab),r[k]?=some l->∃y,a.w.cell? ⟨b,off+k,none⟩=some y/\aB a l y)->cR a b off r
 |_,[],_=>by simp[cR]
 |off,x::c,h=>by
  simp only[cR]
  refine⟨by simpa using h 0 x (by simp),nS fun k l d=>?_⟩
  rw[show off+1+k=off+(k+1)by omega]
  simp_all
def mY{c:az}{b a:Nat}:∀ {off:Nat} {rows:List (List ab)},(∀(i:Nat) (r:List ab),rows[i]?=some r->r.length=a/\cR c b (off+i*a) r)->bE c b a off rows
 |_,[],_=>by simp[bE]
 |off,x::e,h=>by
  simp only[bE]
  have d:=h 0 x (by simp)
  refine⟨d.1,by simpa using d.2,mY fun i r f=>?_⟩
  rw[show off+a+i*a=off+(i+1)*a by rw[air];omega]
  grind
theorem fI{c:az}:∀ {b:List ab} {a:List Value},aY c b a->a.length=b.length
 |[],a,h=>by grind [aY]
 |l::b,a,h=>by
  simp only[aY]at h
  obtain⟨y,e,rfl,_,d⟩:=h
  simp[fI d]
theorem kX{c:az}:∀ {d:List ab} {a:List Value} {k:Nat} {l:ab},aY c d a->d[k]?=some l->∃y,a[k]?=some y/\aB c l y
 |[],a,k,l,h,b=>by simp at b
 |x::e,a,0,l,h,b=>by
  grind [aY]
 |x::e,a,k+1,l,h,b=>by
  simp only[aY]at h
  obtain⟨y,g,rfl,_,f⟩:=h
  have:=kX f (by simpa using b)
  grind
theorem tW{d:az}:∀ {b:List ab} {a:List Value},a.length=b.length->(∀(k:Nat) (l:ab) (y:Value),b[k]?=some l->a[k]?=some y->aB d l y)->aY d b a
 |[],a,c,_=>by grind [aY]
 |x::e,[],c,_=>by simp at c
 |x::e,y::a,c,h=>by
  simp only[aY]
  exact⟨y,a,rfl,h 0 x y (by simp) (by simp),tW (by grind) fun k l z f g=>h (k+1) l z (by grind) (by grind)⟩
theorem su{a:az}{b c:List ab}{d e:List Value}(h:aY a b d)(f:aY a c e):aY a (b++c) (d++e):=by grind [(tW),(fI),(kX)]
theorem sQ{a:az}{b:List ab}{c:List Value}(h:aY a b c)(n:Nat):aY a (b.take n) (c.take n):=by grind [(tW),(fI),(kX)]
def tx{a:az}{b:List ab}{c:List Value}(h:aY a b c)(n:Nat):aY a (b.drop n) (c.drop n):=by grind [(tW),(fI),(kX)]
def DV{c:az}{b:Nat}:∀ {off:Nat} {r:List ab},cR c b off r->∃a,aY c r a/\∀(k:Nat) (y:Value),a[k]?=some y->c.w.cell? ⟨b,off+k,none⟩=some y
 |off,[],_=>⟨[],by simp[aY],by simp⟩
 |off,x::g,h=>by
  simp only[cR]at h
  have⟨⟨y,i,d⟩,e⟩:=h
  have⟨a,f,j⟩:=DV e
  refine⟨y::a,by simp only[aY];exact⟨y,a,rfl,d,f⟩,fun k z l=>?_⟩
  grind
def Ud{a:az}{b c:Nat}{r:List ab}(h:cR a b c r)(n:Nat):cR a b c (r.take n):=by grind [(nS),(uT)]
def aeE{a:az}{b c:Nat}{r:List ab}(h:cR a b c r)(n:Nat):cR a b (c+n) (r.drop n):=by grind [(nS),(uT)]
theorem kJ{a:az}{b c d:Nat}{rows:List (List ab)}(h:bE a b c d rows)(n:Nat):bE a b c d (rows.take n):=by refine mY fun i r e=>?_;grind [(jL)]
theorem ml{c:az}{b a d:Nat}{rows:List (List ab)}(h:bE c b a d rows)(n:Nat):bE c b a (d+n*a) (rows.drop n):=by refine mY fun i r e=>?_;rw[ai3]at e;have:=jL h e;grind
def wm{e:az}{b a d:Nat}{c f:List (List ab)}(h:bE e b a d c)(j:bE e b a (d+c.length*a) f):bE e b a d (c++f):=by
 refine mY fun i r g=>?_;by_cases k:i<c.length
 .grind [(jL)]
 .rw[aea (by omega)]at g;have:=jL j g;rwa [show d+c.length*a+(i-c.length)*a=d+i*a by rw[ajg, <-air];congr 2;omega]at this
def tH{c:az}{b d:Nat}:∀ {off:Nat} {rows:List (List ab)},bE c b d off rows->∃a,aY c rows.flatten a/\a.length=rows.length*d/\∀(k:Nat) (y:Value),a[k]?=some y->c.w.cell? ⟨b,off+k,none⟩=some y
 |off,[],_=>⟨[],by simp[aY],by simp,by simp⟩
 |off,r::m,h=>by
  simp only[bE]at h
  have⟨f,g,i⟩:=h
  have⟨a,e,n⟩:=DV g
  have⟨j,f1,f2,f3⟩:=tH i
  have l:=fI e
  refine⟨a++j,by simpa using su e f1,by simp[l,f,f2,air,alr],fun k y o=>?_⟩
  grind
def wQ(a:az)(e:MapEntry)(p:List ab×ab):Prop:=(∃b:Array Value,e.key= .agg b/\aY a p.1 b.toList)/\aB a p.2 e.val
def Ob.there:Ob->Bool
 | .dead=>false
 |_=>true
def dE(z:Nat)(w:World)(b:Nat)(cells:Array Value)(T:TypeId):Prop:= ∃a:Nat×Nat,w.heap[b]?=some (.cells cells T a)/\(a.1=a.2\/z=1/\cells.size<=a.1)
def nY(c:az)(h:Nat):Ob->Prop
 | .dead=>∃a,c.hs[h]?=some (a,0)
 | .it s pos=>∃a b,c.hs[h]?=some (a,0)/\a.base=some b/\c.X b/\(∀z, ¬c.F b z)/\c.w.heap[b]?=some (.stringIter s pos)
 | .mp f=>∃a b,c.hs[h]?=some (a,0)/\a.base=some b/\c.X b/\(∀z, ¬c.F b z)/\∃d g,c.w.heap[b]?=some (.map d g)/\d.size=f.length/\
   ∀(j:Nat) (p:List ab×ab) (e:MapEntry),f[j]?=some p->d[j]?=some e->wQ c e p
 | .live i k rows=>∃a,c.hs[h]?=some (a,i)/\a.cap<=maxLen/\match a.base with
  |none=>rows=[]
  |some b=>a.sz=k/\c.X b/\(∀z, ¬c.F b z)/\rows.length<=a.cap/\0<a.sz/\∃cells T,dE a.sz c.w b cells T/\a.off+a.cap*a.sz<=cells.size/\bE c b a.sz a.off rows
def li:List Int:=[0,498536548,997073096,651767980,1994146192,1802195444,1303535960,1342533948,3988292384,4027552580,3604390888,3412177804,2607071920,2262029012,2685067896,3183342108]
def sK:List (Nat×Nat×List (List ab)):=[(2,16,[li.map fun n=> .v (.int .u32 n)]),(0,1,[[.v (.iface 366 (.agg #[.pointer (some ⟨10,139,none⟩)]))]])]
def ug(a:az):Prop:= ∀p∈sK,a.F p.1 p.2.1/\bE a p.1 p.2.1 0 p.2.2
def ug.le{b c:az}(h:b.Le c)(a:ug b):ug c:=fun p hp=>⟨h.F _ _ (a p hp).1,wU h _ _ (a p hp).1 _ _ (a p hp).2⟩
structure aZ(Γ:az)(H:List Ob):Prop where
 len:H.length=Γ.hs.length
 ob:∀(h:Nat) (o:Ob),H[h]?=some o->nY Γ h o
 apart:∀(h h' v v':Nat) (o o':Ob) (inf inf':fm) (b:Nat),H[h]?=some o->H[h']?=some o'->o.there=true->o'.there=true->Γ.hs[h]?=some (inf,v)->Γ.hs[h']?=some (inf',v')->
  inf.base=some b->inf'.base=some b->h=h'
 F:∀b z,Γ.F b z->b<Γ.w.heap.size
 X:∀b,Γ.X b->b<Γ.w.heap.size
 G:ug Γ
structure az.cL(Γ Γ':az):Prop where
 le:Γ.Le Γ'
 os:Γ'.w.os=Γ.w.os
 tape:Γ'.w.tape=Γ.w.tape
 output:Γ'.w.output=Γ.w.output
 size:Γ.w.heap.size<=Γ'.w.heap.size
 frame:∀b,b<Γ.w.heap.size-> ¬Γ.X b->Γ'.w.heap[b]?=Γ.w.heap[b]?
 mF:∀b z,Γ'.F b z->Γ.F b z\/Γ.X b\/Γ.w.heap.size<=b
 lj:∀b,Γ'.X b->Γ.X b\/Γ.w.heap.size<=b
theorem az.cL.refl(a:az):a.cL a:=⟨.refl a,rfl,rfl,rfl,ad3 _,fun _ _ _=>rfl,fun _ _ h=> .inl h,fun _ h=> .inl h⟩
def az.cL.trans{f e g:az}(h:f.cL e)(a:e.cL g):f.cL g where
 le:=h.le.trans a.le
 os:=a.os.trans h.os
 tape:=a.tape.trans h.tape
 output:=a.output.trans h.output
 size:=ai5 h.size a.size
 frame b d i:=by
  have j:¬e.X b:=fun hc=>by
   grind [(az.cL.lj)]
  exact(a.frame b (aiS d h.size) j).trans (h.frame b d i)
 mF b z d:=by
  rcases a.mF b z d with c|c|c
  .exact h.mF b z c
  .grind [(az.cL.lj)]
  .exact .inr (.inr (ai5 h.size c))
 lj b d:=by
  rcases a.lj b d with c|c
  .exact h.lj b c
  .exact .inr (ai5 h.size c)
abbrev aa(n:Int):aw:= .c (I n)
abbrev aR(b:Bool):aw:= .c (B b)
abbrev bh(l:List (List ab)):aw:= .c (.aj l)
abbrev bd(h v i n:Nat):aw:= .c (.sl h v i n)
abbrev kP(h v i n:Nat):aw:= .c (.ptr h v i n)
abbrev au(h:Nat):aw:= .c (.ptr h 0 0 0)
abbrev ah(z:Nat)(l:List (List ab)):Ob:= .live 0 z l
abbrev Env:=List (Nat×aw)
def Env.get:Env->Nat->Option aw
 |[],_=>none
 |(t,x)::r,s=>if t=s then some x else Env.get r s
abbrev unit:aw:= .aM []
def tk(P:Program)(t:TypeId):Option (Bool×Nat):=
 match P.underlying t,P.info? t with
 |some d,some i=>some ((match d with| .struct _| .array _ _=>true|_=>false),i.size)
 |_,_=>none
def fo(P:Program)(s:TypeId)(f:Nat):Option (Nat×Nat×Bool):=
 match P.underlying s with
 |some (.struct b)=>match b[f]? with
  |some a=>(tk P a.type).map fun(g,n)=>(a.offset,n,g)
  |none=>none
 |_=>none
def leaves(v:Value):Option (List ab):=if v.cells.toList.all (·.oneCell')then some (v.cells.toList.map .v)else none
def zc(P:Program)(t:TypeId):Option (List ab):=
 match P.info? t with
 |some i=>match i.zero with
  |some z=>if z.cells.size=i.size then leaves z else none
  |none=>none
 |none=>none
def se(P:Program)(t:TypeId):Option (TypeId×Nat×Nat×List ab):=
 match P.underlying t with
 |some (.slice e)=>match P.info? e,zc P e with
  |some i,some z=>some (e,i.size,i.bytes,z)
  |_,_=>none
 |_=>none
def ar(P:Program)(t:TypeId):Option (Nat×Nat×Bool):=
 match P.underlying t with
 |some (.array n e)=>(tk P e).map fun(g,s)=>(n,s,g)
 |_=>none
def cm(P:Program)(t:TypeId):Option (List ab×List (Nat×Nat)):=
 match P.underlying t with
 |some (.struct a)=>match zc P t,a.toList.mapM (fun f=>(P.info? f.type).map fun i=>(f.offset,i.size))with
  |some z,some b=>some (z,b)
  |_,_=>none
 |some (.array n e)=>match zc P t,P.info? e with
  |some z,some i=>some (z,(aiZ n).map fun k=>(k*i.size,i.size))
  |_,_=>none
 |_=>none
def ik(P:Program)(t:TypeId):Option IntKind:=
 match P.underlying t with
 |some (.int k)=>some k
 |_=>none
inductive Sh|int|bool|str
def xV(P:Program)(rec:TypeId->Option (List Sh)):Nat->List Field->Option (List Sh)
 |_,[]=>some []
 |off,f::a=>if f.name≠ "_" /\f.offset=off then match rec f.type,tk P f.type with
  |some s,some (_,n)=>if n=s.length/\0<n then(xV P rec (off+s.length) a).map (s++ ·)else none
  |_,_=>none
  else none
def pH(P:Program):Nat->TypeId->Option (List Sh)
 |0,_=>none
 |d+1,t=>match P.underlying t with
  |some (.int _)=>some [.int]
  |some .bool=>some [.bool]
  |some .string=>some [.str]
  |some (.struct a)=>if P.stoodInHeld t then none else xV P (pH P d) 0 a.toList
  |_=>none
def eqs(P:Program)(t:TypeId):Option (List Sh):=
 match P.underlying t with
 |some (.struct _)=>if P.eqGuardType P.depth t then none else pH P 8 t
 |_=>none
def aw.cells:aw->Option (List ab)
 | .c l=>some [l]
 | .agg cs=>some cs
 | .aM _=>none
def kK{a:Type}(r:List a)(k:Nat):List a->List a
 |[]=>r
 |l::b=>kK (r.set k l) (k+1) b
def vH(a:List (Nat×Nat))(cells:List ab):List (Nat×Option aw)->Option (List ab)
 |[]=>some cells
 |(i,x)::d=>match a[i]?,x with
  |some (b,c),some x=>match x.cells with
   |some cs=>if cs.length=c/\b+c<=cells.length then vH a (kK cells b cs) d else none
   |none=>none
  |_,_=>none
def tR(a:Nat)(rows:List (List ab)):List (Nat×Option aw)->Option (List (List ab))
 |[]=>some rows
 |(i,x)::b=>match x with
  |some x=>match x.cells with
   |some cs=>if cs.length=a/\i<rows.length then tR a (rows.set i cs) b else none
   |none=>none
  |none=>none
def xU(r:List ab)(k n:Nat):List ab:=(r.drop k).take n
def obj(H:List Ob)(h ver:Nat):Option (Nat×List (List ab)):=
 match H[h]? with
 |some (.live v z rows)=>if v=ver then some (z,rows)else none
 |_=>none
def qR(H:List Ob)(n:Nat):ab->Option (List ab)
 | .ptr h a i k=>match obj H h a with
  |some (_,rows)=>match rows[i]? with
   |some r=>if k+n<=r.length then some (xU r k n)else none
   |none=>none
  |none=>none
 | .aJ rows i k=>match rows[i]? with
  |some r=>if k+n<=r.length then some (xU r k n)else none
  |none=>none
 |_=>none
def qP(H:List Ob):ab->Option ab
 | .ptr h a i k=>match obj H h a with
  |some (_,rows)=>match rows[i]? with
   |some r=>r[k]?
   |none=>none
  |none=>none
 | .aJ rows i k=>match rows[i]? with
  |some r=>r[k]?
  |none=>none
 |_=>none
def view(H:List Ob):ab->Option (List (List ab))
 | .aj rows=>some rows
 | .eU rows=>some rows
 | .v (.slice none 0 0)=>some []
 | .sl h c a b=>match obj H h c with
  |some (_,rows)=>if a+b<=rows.length then some ((rows.drop a).take b)else none
  |none=>none
 |_=>none
def qd:ab->Option Nat
 | .aj rows=>some rows.length
 | .eU rows=>some rows.length
 | .v (.slice none 0 0)=>some 0
 | .sl _ _ _ a=>some a
 |_=>none
def Sz:aw->Option Int
 | .c (.v (.int _ n))=>some n
 |_=>none
def aX(e:Env):Operand->Option aw
 | .tmp t=>e.get t
 | .const v=>match v with
  | .agg cs=>(leaves (.agg cs)).map .agg
  | .tuple _=>none
  |v=>some (.c (.v v))
 | .func f=>some (.c (.bF f []))
 | .global _=>none
def lR:Sh->ab->ab->Option Bool
 | .int,.v (.int k a),.v (.int c b)=>if k=c then some (a==b)else none
 | .bool,.v (.bool a),.v (.bool b)=>some (a==b)
 | .str,.v (.string a),.v (.string b)=>some (a.toList==b.toList)
 |_,_,_=>none
def eL:List Sh->List ab->List ab->Option Bool
 |[],[],[]=>some true
 |s::c,a::d,b::e=>match lR s a b,eL c d e with
  |some x,some y=>some (x&&y)
  |_,_=>none
 |_,_,_=>none
def Dt(c:BinOp)(k:IntKind)(a b:Int):Option ab:=
 match c with
 | .add=>some (.v (.int k (k.wrap (a+b))))
 | .sub=>some (.v (.int k (k.wrap (a-b))))
 | .mul=>some (.v (.int k (k.wrap (a*b))))
 | .quo=>if b=0 then none else some (.v (.int k (k.wrap (a.tdiv b))))
 | .rem=>if b=0 then none else some (.v (.int k (a.tmod b)))
 | .eql=>some (.v (.bool (a==b)))
 | .neq=>some (.v (.bool (a !=b)))
 | .lss=>some (.v (.bool (decide (a<b))))
 | .leq=>some (.v (.bool (decide (a<=b))))
 | .gtr=>some (.v (.bool (decide (a>b))))
 | .geq=>some (.v (.bool (decide (a>=b))))
 | .and=>some (.v (.int k (k.wrap ((aji k.bits a&&&aji k.bits b).toNat))))
 | .shr=>if b<0 then none else some (.v (.int k (a.fdiv (2 ^ (min b.toNat k.bits)))))
 |_=>none
def pG:ab->Bool
 | .v (.slice none 0 0)=>true
 |_=>false
def ang(H:List Ob):ab->Option Bool
 | .aj rows=>match rows with|_::_=>some false|[]=>none
 | .eU _=>some false
 | .v (.slice none 0 0)=>some true
 | .sl h a _ b=>match obj H h a with
  |some _=>if 0<b then some false else none
  |none=>none
 |_=>none
def oA(P:Program)(H:List Ob)(d:BinOp)(t:TypeId):aw->aw->Option ab
 | .c (.v (.int k a)),.c (.v (.int g b))=>if k=g then Dt d k a b else none
 | .c (.v (.bool a)),.c (.v (.bool b))=>match P.underlying t with
  |some .bool=>match d with
   | .eql=>some (.v (.bool (a==b)))
   | .neq=>some (.v (.bool (!(a==b))))
   |_=>none
  |_=>none
 | .agg e,.agg f=>match eqs P t with
  |some s=>match d with
   | .eql=>(eL s e f).map fun b=> .v (.bool b)
   | .neq=>(eL s e f).map fun b=> .v (.bool (!b))
   |_=>none
  |none=>none
 | .c a,.c b=>if pG b then match P.underlying t with
   |some (.slice _)=>match d with
    | .eql=>(ang H a).map fun b=> .v (.bool b)
    | .neq=>(ang H a).map fun b=> .v (.bool (!b))
    |_=>none
   |_=>none
  else none
 |_,_=>none
def qF(P:Program)(H:List Ob)(t:TypeId)(x:ab)(a b:Option Int):Option ab:=
 match se P t,qd x with
 |some (_,c,_),some n=>
  if 0<=a.getD 0/\a.getD 0<=b.getD (n:Int)/\b.getD (n:Int)<=(n:Int)then match x with
   | .aj rows=>if ∀r∈rows,r.length=c then some (.aj ((rows.take (b.getD (n:Int)).toNat).drop (a.getD 0).toNat))else none
   | .eU rows=>if ∀r∈rows,r.length=c then some (.eU ((rows.take (b.getD (n:Int)).toNat).drop (a.getD 0).toNat))else none
   | .sl d e f _=>match obj H d e with
    |some (z,_)=>if z=c then some (.sl d e (f+(a.getD 0).toNat) ((b.getD (n:Int)).toNat-(a.getD 0).toNat))else none
    |none=>none
   | .v (.slice none 0 0)=>some eW
   |_=>none
  else none
 |_,_=>none
def nL(e:Env):Option Operand->Option (Option Int)
 |none=>some none
 |some x=>match aX e x with
  |some v=>(Sz v).map some
  |none=>none
def sO(P:Program)(H:List Ob)(t:TypeId)(x:ab)(i:Int):Option ab:=
 match x with
 | .sl h a c d=>match se P t,obj H h a with
  |some (_,b,_),some (z,rows)=>if 0<=i/\i<d/\z=b/\c+i.toNat<rows.length then some (.ptr h a (c+i.toNat) 0)else none
  |_,_=>none
 | .ptr h a r k=>match ar P t,obj H h a with
  |some (n,b,_),some _=>if 0<=i/\i<n then some (.ptr h a r (k+i.toNat*b))else none
  |_,_=>none
 |x=>match se P t,view H x with
  |some (_,b,_),some rows=>if 0<=i/\i<rows.length then match rows[i.toNat]? with
    |some r=>if r.length=b then some (.aJ rows i.toNat 0)else none
    |none=>none
   else none
  |_,_=>none
def Az(g:Bool)(cs:List ab)(a n:Nat):Option aw:=
 if g then(if a+n<=cs.length then some (.agg (xU cs a n))else none)else cs[a]?.map .c
def Dp(b:Bool)(x y:aw):aw:=
 match x,y with
 | .c (.v (.bool p)),.c (.v (.bool q))=> .c (.v (.bool (bif b then p else q)))
 |x,y=>bif b then x else y
def xa:List (Option aw)->Option (List ab)
 |[]=>some []
 |some (.c l)::r=>(xa r).map (l:: ·)
 |_::_=>none
def foldI(f:Int->Int->Int)(a:Int):List (Option aw)->Option Int
 |[]=>some a
 |some (.c (.v (.int _ n)))::r=>foldI f (f a n) r
 |_=>none
def zY(f:Int->Int->Int):List (Option aw)->Option Int
 |some (.c (.v (.int .i64 n)))::r=>foldI f n r
 |_=>none
def ank(P:Program)(H:List Ob)(b a bytes:Nat)(z:List ab)(s x:ab):Option (aw×List Ob):=
 match P.underlying b,s,x with
 |some (.int _),.v (.slice none 0 0),.v (.int _ n)=>
  if 0<a/\z.length=a/\0<=n/\n<=9223372036854775807/\n.toNat*bytes<=140737488355328 then some (.c (.sl H.length 0 0 n.toNat),H++[.live 0 a (ahv n.toNat z)])else none
 |_,_,_=>none
def xk(P:Program)(H:List Ob)(t f:TypeId)(s x:ab):Option (aw×List Ob):=
 match se P t,view H x with
 |some (_,b,bytes,_),some a=>
  if t=f/\0<b/\(∀r∈a,r.length=b)then match s with
   | .v (.slice none 0 0)=>if a.length<=maxLen/\a.length*bytes<=140737488355328 then some (.c (.sl H.length 0 0 a.length),H++[.live 0 b a])else none
   | .sl h e g d=>match obj H h e with
    |some (z,rows)=>if g+d<=rows.length/\z=b/\d+a.length<=maxLen/\(d+a.length)*bytes<=140737488355328 then
      some (.c (.sl h (e+1) 0 (d+a.length)),H.set h (.live (e+1) b ((rows.drop g).take d++a)))else none
    |none=>none
   |_=>none
  else none
 |some (_,b,bytes,z),none=>ank P H f b bytes z s x
 |none,_=>none
def dT(rows:List (List ab))(a:Nat)(new:List (List ab)):List (List ab):=rows.take a++new++rows.drop (a+new.length)
def OL(x:ab)(h a:Nat):Bool:=
 match x with
 | .sl b c _ _=>decide (b=h/\c=a)
 |_=>false
def Hm(P:Program)(H:List Ob)(t g:TypeId)(s x:ab):Option (aw×List Ob):=
 match se P t,view H x,s with
 |some (_,f,_),some a,.sl h b d e=>match obj H h b with
  |some (z,rows)=>if t=g/\(∀r∈a,r.length=f)/\d+e+a.length<=rows.length/\z=f/\(0<a.length\/(t=65/\OL x h b=true/\d<rows.length))then some (.c (.sl h b d (e+a.length)),H.set h (.live b z (dT rows (d+e) a)))else none
  |none=>none
 |_,_,_=>none
def pj(P:Program)(H:List Ob)(t a:TypeId)(s x:ab):Option (aw×List Ob):=
 match Hm P H t a s x with
 |some r=>some r
 |none=>xk P H t a s x
def copyV(P:Program)(H:List Ob)(t:TypeId)(d x:ab):Option (aw×List Ob):=
 match se P t,view H x,d with
 |some (_,e,_,_),some a,.sl h f g b=>match obj H h f with
  |some (z,rows)=>if g+b<=rows.length/\z=e/\(∀r∈a,r.length=e)then some (.c (.v (.int .i64 ((min a.length b:Nat):Int))),H.set h (.live f z (dT rows g (a.take b))))else none
  |none=>none
 |_,_,_=>none
def rv(P:Program)(H:List Ob)(t:TypeId)(d:ab):Option (aw×List Ob):=
 match se P t,d with
 |some (_,a,_,b),.sl h c e f=>match obj H h c with
  |some (z,rows)=>if e+f<=rows.length/\z=a/\b.length=a then some (unit,H.set h (.live c z (dT rows e (ahv f b))))else none
  |none=>none
 |_,_=>none
def bc(P:Program)(e:Env)(H:List Ob):Op->Option (aw×List Ob)
 | .move x| .assign x=>(aX e x).map (·,H)
 | .pick c a b=>match aX e c,aX e a,aX e b with
  |some (.c (.v (.bool t))),some x,some y=>some (Dp t x y,H)
  |_,_,_=>none
 | .alloc t=>match zc P t with
  |some (z::u)=>some (.c (.ptr H.length 0 0 0),H++[.live 0 (u.length+1) [z::u]])
  |_=>none
 | .box _ x=>match aX e x with
  |some v=>match v.cells with
   |some (z::u)=>some (.c (.ptr H.length 0 0 0),H++[.live 0 (u.length+1) [z::u]])
   |_=>none
  |none=>none
 | .build t A=>match cm P t with
  |some (z,E)=>(vH E z (A.toList.map fun(i,x)=>(i,aX e x))).map fun cs=>(.agg cs,H)
  |none=>none
 | .buildSlice t n A=>match se P t with
  |some (_,o,_,z)=>if 0<o/\n*o<=16777216/\z.length=o/\n<=maxLen then
    (tR o (ahv n z) (A.toList.map fun(i,x)=>(i,aX e x))).map fun rows=>(.c (.sl H.length 0 0 n),H++[.live 0 o rows])else none
  |none=>none
 | .makeSlice t l c=>match se P t,aX e l,aX e c with
  |some (_,o,bytes,z),some (.c (.v (.int _ n))),some (.c (.v (.int _ m)))=>
   if 0<o/\z.length=o/\0<=n/\n=m/\(bytes:Int)*n<=281474976710656/\n<=maxLen then some (.c (.sl H.length 0 0 n.toNat),H++[.live 0 o (ahv n.toNat z)])else none
  |_,_,_=>none
 | .load t a=>match tk P t,aX e a with
  |some (true,n),some (.c p)=>(qR H n p).map fun cs=>(.agg cs,H)
  |some (false,_),some (.c p)=>(qP H p).map fun l=>(.c l,H)
  |_,_=>none
 | .store t a x=>match tk P t,aX e a,aX e x with
  |some (_,n),some (.c (.ptr h q i k)),some v=>match v.cells,obj H h q with
   |some cs,some (z,rows)=>if cs.length=n then match rows[i]? with
     |some r=>if k+n<=r.length then some (unit,H.set h (.live q z (rows.set i (kK r k cs))))else none
     |none=>none
    else none
   |_,_=>none
  |_,_,_=>none
 | .nilCheck x=>match aX e x with
  |some (.c (.ptr h q i k))=>(obj H h q).map fun _=>(.c (.ptr h q i k),H)
  |some (.c (.aJ rows i k))=>some (.c (.aJ rows i k),H)
  |some (.c (.bF f cs))=>some (.c (.bF f cs),H)
  |_=>none
 | .binOp B t x y _=>match aX e x,aX e y with
  |some a,some b=>(oA P H B t a b).map fun l=>(.c l,H)
  |_,_=>none
 | .unOp B _ x=>match B,aX e x with
  | .not,some (.c (.v (.bool b)))=>some (.c (.v (.bool (!b))),H)
  | .neg,some (.c (.v (.int k n)))=>some (.c (.v (.int k (k.wrap (-n)))),H)
  |_,_=>none
 | .convert src F x=>match ik P src,ik P F,aX e x with
  |some _,some k,some (.c (.v (.int _ n)))=>some (.c (.v (.int k (k.wrap n))),H)
  |_,_,_=>none
 | .makeFunc (.func f) first G=>if first.size=0 then(xa (G.toList.map (aX e))).map fun cs=>(.c (.bF f cs),H)else none
 | .slice t x C D none=>match aX e x,nL e C,nL e D with
  |some (.c l),some C,some D=>(qF P H t l C D).map fun l=>(.c l,H)
  |_,_,_=>none
 | .fieldAddr s x f=>match fo P s f,aX e x with
  |some (w,n,_),some (.c (.ptr h q i k))=>if n=0 then none else(obj H h q).map fun _=>(.c (.ptr h q i (k+w)),H)
  |some (w,n,_),some (.c (.aJ rows i k))=>if n=0 then none else some (.c (.aJ rows i (k+w)),H)
  |_,_=>none
 | .field s x f=>match fo P s f,aX e x with
  |some (w,n,g),some (.agg cs)=>(Az g cs w n).map (·,H)
  |_,_=>none
 | .indexAddr t x i=>match aX e x,aX e i with
  |some (.c l),some (.c (.v (.int _ n)))=>(sO P H t l n).map fun l=>(.c l,H)
  |_,_=>none
 | .index t x i=>match ar P t,aX e x,aX e i with
  |some (n,o,g),some (.agg cs),some (.c (.v (.int _ j)))=>if 0<=j/\j<n then(Az g cs (j.toNat*o) o).map (·,H)else none
  |_,_,_=>none
 | .extract x i=>match aX e x with
  |some (.aM J)=>J[i]?.map (·,H)
  |_=>none
 | .call {callee:= .builtin .len,args,argTypes}=>match args.toList,argTypes.toList with
  |[x],[t]=>match P.underlying t,aX e x with
   |some (.slice _),some (.c l)=>(qd l).map fun(n:Nat)=>(.c (.v (.int .i64 (n:Int))),H)
   |_,_=>none
  |_,_=>none
 | .call {callee:= .builtin .append,args,argTypes}=>match args.toList,argTypes.toList with
  |[s,x],[t,K]=>match aX e s,aX e x with
   |some (.c s),some (.c x)=>pj P H t K s x
   |_,_=>none
  |_,_=>none
 | .call {callee:= .builtin .cap,args,argTypes}=>match args.toList,argTypes.toList with
  |[x],[t]=>match P.underlying t,aX e x with
   |some (.slice _),some (.c (.v (.slice none 0 0)))=>some (.c (I 0),H)
   |_,_=>none
  |_,_=>none
 | .call {callee:= .builtin .copy,args,argTypes}=>match args.toList,argTypes.toList with
  |[d,x],[t,_]=>match aX e d,aX e x with
   |some (.c d),some (.c x)=>copyV P H t d x
   |_,_=>none
  |_,_=>none
 | .call {callee:= .builtin .clear,args,argTypes}=>match args.toList,argTypes.toList with
  |[d],[t]=>match aX e d with
   |some (.c d)=>rv P H t d
   |_=>none
  |_,_=>none
 | .call {callee:= .builtin .min,args,.. }=>(zY min (args.toList.map (aX e))).map fun n=>(.c (.v (.int .i64 n)),H)
 | .call {callee:= .builtin .max,args,.. }=>(zY max (args.toList.map (aX e))).map fun n=>(.c (.v (.int .i64 n)),H)
 |_=>none
variable{w:World}{b z h ver:Nat}{T:TypeId}{Γ Γ':az}{o:Ob}{inf:fm}{H:List Ob}{rows:List (List ab)}
theorem jG(b o n:Nat):(⟨b,o,none⟩:Addr).add n=⟨b,o+n,none⟩:=by grind [Addr.add]
theorem cell_of{cells:Array Value}{a:Nat×Nat}(h:w.heap[b]?=some (.cells cells T a))(j:Nat):w.cell? ⟨b,j,none⟩=cells[j]?:=by simp[World.cell?,h]
def ag8{a:World}(h:a.heap[b]?=w.heap[b]?)(j:Nat):a.cell? ⟨b,j,none⟩=w.cell? ⟨b,j,none⟩:=by simp[World.cell?,h]
theorem Mn{l:ab}{y:Value}(h:aB Γ l y):y.oneCell'=true:=by
 cases l with
 |v x=>grind [aB]
 |aj rows=>simp only[aB]at h;rcases h with⟨rfl,_⟩|⟨a,cap,e,rfl,_⟩<;>rfl
 |ptr a b c d=>simp only[aB]at h;obtain⟨inf,g,p,j,m,rfl,o⟩:=h;rfl
 |sl a b c d=>simp only[aB]at h;obtain⟨inf,g,p,q,j,m,rfl,o⟩:=h;rfl
 |aJ rows i k=>simp only[aB]at h;obtain⟨b,s,e,rfl,_⟩:=h;rfl
 |eU rows=>simp only[aB]at h;obtain⟨a,cap,e,rfl,_⟩:=h;rfl
 |bF f c=>simp only[aB]at h;obtain⟨u,rfl,_⟩:=h;rfl
 |mr n=>simp only[aB]at h;obtain⟨inf,v,r,_,rfl,_⟩:=h;rfl
 |ig t l=>simp only[aB]at h;obtain⟨z,rfl,_⟩:=h;rfl
 |mG n=>simp only[aB]at h;obtain⟨inf,v,r,_,rfl,_⟩:=h;rfl
theorem dE.fresh{cells:Array Value}(h:w.heap[b]?=some (.cells cells T (0,0))):dE z w b cells T:=⟨(0,0),h,.inl rfl⟩
def dE.of_eq{a:World}{cells:Array Value}(h:dE z w b cells T)(e:a.heap[b]?=w.heap[b]?):dE z a b cells T:=by have⟨c,d,f⟩:=h;exact⟨c,e.trans d,f⟩
theorem dE.cell{cells:Array Value}(h:dE z w b cells T)(j:Nat):w.cell? ⟨b,j,none⟩=cells[j]?:=by have⟨c,a,_⟩:=h;exact cell_of a j
theorem dE.Mf{d:Nat}{cells a:Array Value}{c:TypeId}(h:dE z w b cells T)(e:dE d w b a c):cells=a/\T=c:=by have⟨f,g,_⟩:=h;have⟨i,j,_⟩:=e;grind
theorem dE.free{cells:Array Value}(h:dE z w b cells T){j:Nat}(a:j<cells.size):w.frozen? ⟨b,j,none⟩=false:=by have⟨⟨c,d⟩,e,f⟩:=h;grind [World.frozen?]
theorem uZ{Γ:az}:∀ {c:List ab} {a:List Value},aY Γ c a->∀y∈a,y.oneCell'=true
 |[],a,h=>by grind [aY]
 |l::c,a,h=>by
  simp only[aY]at h
  obtain⟨y,f,rfl,d,e⟩:=h
  intro z b
  rcases aeM.1 b with rfl|b
  .exact Mn d
  .exact uZ e z b
theorem nY.aK(q:Γ.Le Γ')(m:Γ'.hs[h]?=Γ.hs[h]?)
  (r:∀inf v b,o.there=true->Γ.hs[h]?=some (inf,v)->inf.base=some b->Γ.X b->(∀z, ¬Γ.F b z)->Γ'.w.heap[b]?=Γ.w.heap[b]?/\(∀z, ¬Γ'.F b z)/\Γ'.X b) (n:nY Γ h o):nY Γ' h o:=by
 cases o with
 |dead=>
  have⟨inf,a⟩:=n
  exact⟨inf,m.trans a⟩
 |it s pos=>
  have⟨inf,b,a,c,f,g,i⟩:=n
  have⟨d,k,l⟩:=r inf 0 b rfl a c f g
  exact⟨inf,b,m.trans a,c,l,k,d.trans i⟩
 |mp K=>
  have⟨inf,b,a,c,f,g,u,cl,i,x,y⟩:=n
  have⟨d,k,l⟩:=r inf 0 b rfl a c f g
  refine⟨inf,b,m.trans a,c,l,k,u,cl,d.trans i,x,fun j p e hp A=>?_⟩
  have⟨⟨B,C,D⟩,E⟩:=y j p e hp A
  exact⟨⟨B,C,G9 q _ _ D⟩,lI q _ _ E⟩
 |live ver z rows=>
  have⟨inf,a,hm,c⟩:=n
  refine⟨inf,m.trans a,hm,?_⟩
  cases t:inf.base with
  |none=>grind
  |some b=>
   simp only[t]at c|-
   have⟨G,f,g,hc,H,cells,T,i,I,J⟩:=c
   have⟨d,k,l⟩:=r inf ver b rfl a t f g
   exact⟨G,l,k,hc,H,cells,T,i.of_eq d,I,rM q b inf.sz _ rows (fun j _ _=>ag8 d j) J⟩
theorem nY.own(a:nY Γ h o)(f:o.there=true){v:Nat}(k:Γ.hs[h]?=some (inf,v))(l:inf.base=some b):Γ.X b/\∀z, ¬Γ.F b z:=by
 cases o with
 |dead=>cases f
 |it s pos=>have⟨c,g,d,e,i,j,_⟩:=a;grind
 |mp m=>have⟨c,g,d,e,i,j,_⟩:=a;grind
 |live ver z rows=>have⟨c,d,hm,e⟩:=a;grind
def uW(Γ:az)(H:List Ob)(h b:Nat):Prop:=Γ.w.heap.size<=b\/∃o inf v,H[h]?=some o/\o.there=true/\Γ.hs[h]?=some (inf,v)/\inf.base=some b
theorem aZ.put{c:List Ob}(a:aZ Γ H)(l:Γ.Le Γ')(h:Nat)(s:c.length=Γ'.hs.length)(hn:∀n,n≠h->c[n]?=H[n]?/\Γ'.hs[n]?=Γ.hs[n]?)
  (t:∀o,c[h]?=some o->nY Γ' h o) (Q:∀o inf v b,c[h]?=some o->o.there=true->Γ'.hs[h]?=some (inf,v)->inf.base=some b->uW Γ H h b)
  (u:∀b,b<Γ.w.heap.size-> ¬uW Γ H h b->Γ'.w.heap[b]?=Γ.w.heap[b]?) (x:∀b z,Γ'.F b z->Γ.F b z\/uW Γ H h b) (y:∀b,Γ.X b->Γ'.X b)
  (A:∀b z,Γ'.F b z->b<Γ'.w.heap.size) (B:∀b,Γ'.X b->b<Γ'.w.heap.size):aZ Γ' c:=by
 have C:∀n o inf v b,n≠h->H[n]?=some o->o.there=true->Γ.hs[n]?=some (inf,v)->inf.base=some b->b<Γ.w.heap.size/\ ¬uW Γ H h b:=by
  intro n o inf v b D d e i j
  have k:=(a.ob n o d).own e i j
  refine⟨a.X b k.1,fun hm=>?_⟩
  rcases hm with hm|⟨m,p,q,E,I,J,K⟩
  .have:=a.X b k.1;omega
  .exact D (a.apart n h v q o m inf p b d E e I i J j K)
 refine⟨s,fun n o f=>?_,fun n R v q o m inf p b d e i j k S T U=>?_,A,B,a.G.le l⟩
 .by_cases g:n=h
  .subst g;exact t o f
  .rw[(hn n g).1]at f
   refine(a.ob n o f).aK l (hn n g).2 (fun inf v b L d e M N=>?_)
   have⟨O,r⟩:=C n o inf v b g f L d e
   exact⟨u b O r,fun z P=>(x b z P).elim (N z) r,y b M⟩
 grind [(aZ.apart)]
theorem eP(a:obj H h ver=some (z,rows)):H[h]?=some (.live ver z rows):=by grind [obj]
theorem aZ.obj(a:aZ Γ H)(b:obj H h ver=some (z,rows)):nY Γ h (.live ver z rows):=a.ob h _ (eP b)
def az.alloc(Γ:az)(cells:Array Value)(T:TypeId)(inf:fm):az:=
 {w:=Γ.w.alloc (.cells cells T),F:=Γ.F,X:=fun b=>Γ.X b\/b=Γ.w.heap.size,hs:=Γ.hs++[(inf,0)]}
theorem MT(a:aZ Γ H)(cells:Array Value)(T:TypeId)(inf:fm):Γ.Le (Γ.alloc cells T inf)where
 F _ _ h:=h
 mem b z c:=lV Γ.w _ b (a.F b z c)
 hs h i v d:=⟨i,v,by
  grind [az.alloc],ad3 _,fun _=>rfl⟩
def sL(c:aZ Γ H)(cells:Array Value)(T:TypeId)(inf:fm):Γ.cL (Γ.alloc cells T inf)where
 le:=MT c cells T inf
 os:=rfl
 tape:=rfl
 output:=rfl
 size:=by simp[az.alloc]
 frame b a _:=lV Γ.w _ b a
 mF b z a:= .inl a
 lj b a:=by
  rcases a with a|a
  .exact .inl a
  omega
theorem ot{a:Type}(l:List a)(x:a)(n:Nat)(h:n≠l.length):(l++[x])[n]?=l[n]?:=by grind
theorem rF(c:aZ Γ H)(cells:Array Value)(T:TypeId)(cap a:Nat)(rows:List (List ab))(u:cap<=maxLen)(x:rows.length<=cap)(A:0<a)
  (I:cap*a<=cells.size) (B:∀r∈rows,r.length=a) (h:List Value) (p:aY Γ rows.flatten h) (J:∀(k:Nat) (y:Value),h[k]?=some y->cells[k]?=some y):
  aZ (Γ.alloc cells T ⟨some Γ.w.heap.size,0,cap,a⟩) (H++[.live 0 a rows]):=by
 have q:=MT c cells T ⟨some Γ.w.heap.size,0,cap,a⟩
 have C:(Γ.alloc cells T ⟨some Γ.w.heap.size,0,cap,a⟩).w.heap[Γ.w.heap.size]?=some (.cells cells T (0,0)):=heap_alloc_new Γ.w _
 have D:bE (Γ.alloc cells T ⟨some Γ.w.heap.size,0,cap,a⟩) Γ.w.heap.size a 0 rows:=by
  have E:=G9 q _ _ p
  clear p
  have G:∀(e:List (List ab)) (i:Nat) (j:List Value),(∀r∈e,r.length=a)->aY (Γ.alloc cells T ⟨some Γ.w.heap.size,0,cap,a⟩) e.flatten j->(∀(k:Nat) (y:Value),j[k]?=some y->cells[i+k]?=some y)->
    bE (Γ.alloc cells T ⟨some Γ.w.heap.size,0,cap,a⟩) Γ.w.heap.size a i e:=by
   intro e
   induction e with
   |nil=>grind [bE]
   |cons r e K=>
    intro i j s t hc
    simp only[bE]
    have L:=s r (by simp)
    have M:=sQ t r.length
    have N:=tx t r.length
    grind [(nS),(kX),(cell_of)]
  exact G rows 0 h B E (fun k y O=>by grind)
 have s:=c.len
 refine c.put q H.length (by simp[az.alloc,c.len]) (fun n hn=>⟨ot _ _ _ hn,by grind [az.alloc]⟩) (fun o l=>?_) (fun o inf v b l _ g d=>?_) (fun b d _=>lV Γ.w _ b d)
  (fun b z f=> .inl f) (fun b m=> .inl m) (fun b z f=>?_) (fun b m=>?_)
 .simp at l
  subst l
  refine⟨⟨some Γ.w.heap.size,0,cap,a⟩,by simp[az.alloc,c.len],u,?_⟩
  refine⟨rfl,.inr rfl,fun z f=>?_,x,A,cells,T,.fresh C,by grind,D⟩
  have:=c.F _ _ f
  omega
 .simp only[az.alloc]at g
  rw[c.len]at g
  simp at g
  rw[<-g.1]at d
  cases d
  exact .inl (ad3 _)
 .have:=c.F b z f
  grind
 .rcases m with d|d
  .have:=c.X b d
   simp[az.alloc];omega
  grind
def az.lT(Γ:az):az:={Γ with hs:=Γ.hs++[(⟨none,0,0,0⟩,0)]}
theorem Lu(Γ:az):Γ.Le Γ.lT where
 F _ _ h:=h
 mem b _ _:=rfl
 hs h i v a:=⟨i,v,by
  grind [az.lT],ad3 _,fun _=>rfl⟩
def JJ(Γ:az):Γ.cL Γ.lT where
 le:=Lu Γ
 os:=rfl
 tape:=rfl
 output:=rfl
 size:=ad3 _
 frame b a _:=rfl
 mF b z a:= .inl a
 lj b a:= .inl a
theorem A3(a:aZ Γ H)(d:Nat):aZ Γ.lT (H++[.live 0 d []]):=by
 have g:=a.len
 refine a.put (Lu Γ) H.length (by simp[az.lT,a.len]) (fun n hn=>⟨ot _ _ _ hn,by simp only[az.lT];exact ot _ _ _ (by omega)⟩) (fun o c=>?_) (fun o inf v b c _ h i=>?_) (fun _ _ _=>rfl)
  (fun b z e=> .inl e) (fun b f=>f) a.F a.X
 .simp at c;subst c;exact⟨⟨none,0,0,0⟩,by simp[az.lT,a.len],akg _,rfl⟩
 grind [az.lT]
theorem am5(d:aZ Γ H){r s:Nat}{k:List (List ab)}{a:fm}{c:Nat}(l:H[h]?=some (.live ver z rows))(t:Γ.hs[h]?=some (inf,ver))
  (x:Γ.Le Γ') (N:Γ'.hs=Γ.hs.set h (a,r)) (y:Γ'.F=Γ.F) (m:∀b,Γ'.X b↔ (Γ.X b\/b=c)) (u:Γ.w.heap.size<=Γ'.w.heap.size)
  (A:a.base=some c) (B:∀b,b<Γ.w.heap.size->b≠c->Γ'.w.heap[b]?=Γ.w.heap[b]?) (g:inf.base=some c\/c=Γ.w.heap.size) (O:c<Γ'.w.heap.size)
  (C:a.cap<=maxLen) (D:k.length<=a.cap) (E:0<a.sz) (G:a.sz=s) (cells:Array Value) (T:TypeId) (I:dE a.sz Γ'.w c cells T) (J:a.off+a.cap*a.sz<=cells.size)
  (K:bE Γ' c a.sz a.off k):aZ Γ' (H.set h (.live r s k)):=by
 have L:h<H.length:=(abW.1 l).1
 have P:=d.len
 have hm:uW Γ H h c:=by
  rcases g with e|e
  .exact .inr ⟨_,inf,ver,l,rfl,t,e⟩
  .exact .inl (by omega)
 have Q:∀z, ¬Γ.F c z:=by
  intro z f
  rcases g with g|g
  .exact ((d.ob h _ l).own rfl t g).2 z f
  .have:=d.F _ _ f
   omega
 refine d.put x h (by grind) (fun n hn=>⟨aat (fun e=>hn e.symm),by grind⟩) (fun o p=>?_) (fun o i v b p _ R S=>?_)
  (fun b j M=>B b j (fun e=>M (e▸hm))) (fun b z f=> .inl (by grind)) (fun b q=>(m b).2 (.inl q)) (fun b z f=>?_) (fun b q=>?_)
 .rw[ahr L]at p
  cases p
  refine⟨a,by grind,C,?_⟩
  rw[A]
  exact⟨G,(m c).2 (.inr rfl),by simp_all,D,E,cells,T,I,J,K⟩
 .grind
 .rw[y]at f
  exact aiS (d.F b z f) u
 .rcases (m b).1 q with j|j
  .exact aiS (d.X b j) u
  omega
end Go.Nx
namespace Go.Nx
variable{Γ:az}{r cs:List ab}{H:List Ob}{y:Value}{e:Env}{a:Act}{P:Program}{t:TypeId}{n:Nat}{p:ab}
def Good(Γ:az)(e:Env)(a:Act)(p:Operand):Prop:= ∀b,aX e p=some b->aL Γ b (a.eval p)
def uf(Γ:az)(r:Result Next)(x:aw)(b:List Ob):Prop:=
 ∃y a,(r= .ok (.value y) a.w\/(r= .ok .skip a.w/\y=undef))/\Γ.cL a/\aZ a b/\aL a x y
def uf.val{r:Result Next}{x:aw}(a:aZ Γ H)(b:r= .ok (.value y) Γ.w)(hc:aL Γ x y):uf Γ r x H:=
 ⟨y,Γ,.inl b,.refl Γ,a,hc⟩
theorem oJ{v:Value}{a:List ab}(h:leaves v=some a):aY Γ a v.cells.toList:=by grind [leaves,(tW),aB]
def TP{v:Value}(d:∀b,v≠ .tuple b):Good Γ e a (.const v):=by
 intro f h;unfold aX at h;cases v<;>simp only[ab1,ab4,reduceCtorEq]at h
 case agg cs=>obtain⟨g,c,rfl⟩:=h;exact⟨cs,rfl,oJ c⟩
 all_goals subst h;simp[aL,aB,Act.eval,aiw]
def U1{v:Value}:Good Γ e a (.const v):=by
 cases v with
 |tuple b=>intro c h;simp[aX]at h
 |_=>exact TP (by simp)
theorem acW{f:FuncId}:Good Γ e a (.func f):=by intro b h;grind [aX,aL,aB,Act.eval,aY]
def acz{g:Nat}:Good Γ e a (.global g):=by intro b h;simp[aX]at h
def pt{g:Bool}(h:tk P t=some (g,n))(w:World):(isAgg t).run P w= .ok g w/\(sizeOf t).run P w= .ok n w:=by
 unfold tk at h;split at h
 .rename_i d i a b;simp only[ab1,aca]at h;have⟨c,e⟩:=h;subst c e;constructor
  .cases d<;>simp[isAgg,run_underlying a]
  .simp[sizeOf,typeInfo,b]
 .cases h
theorem N4(d:aZ Γ H){h c i k:Nat}(hc:aB Γ (.ptr h c i k) y){z:Nat}{rows:List (List ab)}(e:obj H h c=some (z,rows))(f:rows[i]?=some r):
  ∃a b cells T,Γ.hs[h]?=some (a,c)/\a.base=some b/\y= .pointer (some ⟨b,a.off+i*a.sz+k,none⟩)/\r.length=a.sz/\cR Γ b (a.off+i*a.sz) r/\
   dE a.sz Γ.w b cells T/\a.off+a.cap*a.sz<=cells.size/\rows.length<=a.cap/\bE Γ b a.sz a.off rows/\a.cap<=maxLen/\Γ.X b/\0<a.sz/\a.sz=z:=by
 have⟨a,g,hm,j⟩:=d.obj e
 grind [aB,(jL)]
theorem readable(e:aZ Γ H)(hc:aB Γ p y){k:Nat}
  (hp:(∃h a i z rows,p= .ptr h a i k/\obj H h a=some (z,rows)/\rows[i]?=some r)\/(∃i rows,p= .aJ rows i k/\rows[i]?=some r)):
  ∃b o,y= .pointer (some ⟨b,o+k,none⟩)/\cR Γ b o r:=by
 rcases hp with⟨h,a,i,z,rows,rfl,f,c⟩|⟨i,rows,rfl,c⟩
 .grind [(N4)]
 .simp only[aB]at hc
  obtain⟨b,g,j,rfl,_,d⟩:=hc
  exact⟨b,_,rfl,(jL d c).2⟩
theorem PW(h:qR H n p=some cs):
  ∃r k,((∃h a i z rows,p= .ptr h a i k/\obj H h a=some (z,rows)/\rows[i]?=some r)\/(∃i rows,p= .aJ rows i k/\rows[i]?=some r))/\k+n<=r.length/\cs=xU r k n:=by
 unfold qR at h
 grind
theorem LY{l:ab}(h:qP H p=some l):
  ∃r k,((∃h a i z rows,p= .ptr h a i k/\obj H h a=some (z,rows)/\rows[i]?=some r)\/(∃i rows,p= .aJ rows i k/\rows[i]?=some r))/\r[k]?=some l:=by
 unfold qP at h
 grind
theorem yg(h:aZ Γ H)(hc:aB Γ p y):
  (∀n cs,tk P t=some (true,n)->qR H n p=some cs->∃a,(akT t y).run P Γ.w= .ok (.agg a) Γ.w/\aY Γ cs a.toList)/\
  (∀n l,tk P t=some (false,n)->qP H p=some l->∃z,(akT t y).run P Γ.w= .ok z Γ.w/\aB Γ l z):=by
 constructor
 .intro n cs c d
  obtain⟨r,k,hp,x,rfl⟩:=PW d
  obtain⟨b,o,rfl,e⟩:=readable h hc hp
  have⟨f,q⟩:=pt c Γ.w
  have⟨a,g,i⟩:=DV (Ud (aeE e k) n)
  have s:a.length=n:=by rw[fI g];simp;omega
  refine⟨a.toArray,?_,by grind [xU]⟩
  have m:=run_loadCells_list (P:=P) Γ.w ⟨b,o+k,none⟩ a (fun j v A=>by grind [(jG)])
  rw[s]at m
  simp[akT,ali,loadVar,f,q,m]
 .intro n l c d
  have⟨r,k,hp,u⟩:=LY d
  obtain⟨b,o,rfl,e⟩:=readable h hc hp
  have⟨f,_⟩:=pt c Γ.w
  have⟨z,g,i⟩:=uT e u
  refine⟨z,?_,i⟩
  simp[akT,ali,loadVar,f,run_load,g]
theorem wM{v:aw}(hc:aL Γ v y)(h:v.cells=some cs):aY Γ cs y.cells.toList:=by
 cases v with
 |c l=>
  simp only[aw.cells,ab1]at h;subst h;simp only[aL]at hc;have a:=Mn hc;have:y.cells= #[y]:=by cases y<;>first|rfl|(simp[aiw]at a)
  grind [aY]
 |agg d=>simp only[aw.cells,ab1]at h;subst h;simp only[aL]at hc;obtain⟨e,rfl,b⟩:=hc;exact b
 |aM f=>simp[aw.cells]at h
end Go.Nx
namespace Go.Nx
variable{cur vs:List Value}{o z b:Nat}{w:World}{T t:TypeId}{P:Program}{y:Value}{Γ:az}{H:List Ob}{rows ys:List (List ab)}
theorem yF{a:Type}:∀(cs r:List a) (k:Nat),(kK r k cs).length=r.length
 |[],r,k=>rfl
 |c::cs,r,k=>by simp[kK,yF cs]
theorem vC{a:Type}:∀(cs r:List a) (k j:Nat),k+cs.length<=r.length->(kK r k cs)[j]?=if k<=j/\j<k+cs.length then cs[j-k]? else r[j]?
 |[],r,k,j,_=>by simp[kK];omega
 |c::cs,r,k,j,h=>by
  simp only[aip]at h
  rw[kK,vC cs (r.set k c) (k+1) j (by simp;omega)]
  grind
def spliced(cur:List Value)(o:Nat)(vs:List Value):List Value:=cur.take o++vs++cur.drop (o+vs.length)
def pV(h:o+vs.length<=cur.length):(spliced cur o vs).length=cur.length:=by simp[spliced];omega
theorem wS(h:o+vs.length<=cur.length)(j:Nat):(spliced cur o vs)[j]?=if o<=j/\j<o+vs.length then vs[j-o]? else cur[j]?:=by grind [spliced,(aea)]
def dE.set{cells cs:Array Value}(h:dE z w b cells T)(e:cs.size=cells.size):dE z (w.setRow b cs) b cs T:=by have⟨a,d,c⟩:=h;exact⟨a,setRow_heap w b cells cs T a d,c.imp id fun c=>by omega⟩
theorem dE.self{cells:Array Value}(h:dE z w b cells T):w.setRow b cells=w:=by have⟨a,c,_⟩:=h;grind [(setRow_self)]
theorem vS{z:Nat}{P:Program}{b:Nat}{T:TypeId}(o:Nat):∀(vs:List Value) (i:Nat) (cells:Array Value) (w:World),dE z w b cells T->o+i+vs.length<=cells.size->(∀v∈vs,v.oneCell'=true)->
  (storeCells ⟨b,o,none⟩ vs i).run P w= .ok () (w.setRow b (spliced cells.toList (o+i) vs).toArray)
 |[],i,cells,w,h,_,_=>by simp[storeCells,spliced,h.self]
 |v::vs,i,cells,w,h,f,a=>by
  simp only[aip]at f
  have c:o+i<cells.size:=by omega
  have k:(store ((⟨b,o,none⟩:Addr).add i) v).run P w= .ok () (w.setRow b (cells.setIfInBounds (o+i) v)):=by
   have e:(⟨b,o,none⟩:Addr).add i=⟨b,o+i,none⟩:=by unfold Addr.add;split<;>simp_all
   rw[e,run_store P w _ v _ (a v (by simp)),h.cell]
   have⟨g,d,_⟩:=id h
   simp[c,h.free c,setCell_eq_setRow w b (o+i) cells T g v d]
  have d:=vS (P:=P) o vs (i+1) (cells.setIfInBounds (o+i) v) _ (h.set (by simp)) (by simp;omega) (fun x j=>a x (by simp[j]))
  grind [storeCells,(aiT),(aiG),(setRow_setRow),spliced,(list_seg_step)]
def WN{cells:Array Value}(a:dE z w b cells T){n:Nat}
  (c:(sizeOf t).run P w= .ok n w) (hn:y.cells.size=n) (d:∀v∈y.cells.toList,v.oneCell'=true) (e:o+n<=cells.size):
  (alz t (.pointer (some ⟨b,o,none⟩)) y).run P w= .ok () (w.setRow b (spliced cells.toList o y.cells.toList).toArray):=by
 have h:=vS (P:=P) o y.cells.toList 0 cells w a (by simp;omega) d
 simp[alz,ali,storeVar,c,hn,h]
def az.bH(Γ:az)(w:World)(h:Nat)(a:fm)(d b:Nat):az:={w:=w,F:=Γ.F,X:=fun c=>Γ.X c\/c=b,hs:=Γ.hs.set h (a,d)}
theorem pQ{h:Nat}{d e:fm}{a c:Nat}(f:Γ.hs[h]?=some (e,c))(g:c<a\/(c=a/\d=e))(hm:∀b z,Γ.F b z->w.heap[b]?=Γ.w.heap[b]?):
  Γ.Le (Γ.bH w h d a b)where
 F _ _ h:=h
 mem:=hm
 hs n i v hn:=by
  grind [az.bH]
def aeJ(x:aZ Γ H){h l i k n Q:Nat}{z:Value}{g:Bool}(hc:aB Γ (.ptr h l i k) y)(V:tk P t=some (g,n)){r cs:List ab}(C:obj H h l=some (Q,rows))(R:rows[i]?=some r)(hn:cs.length=n)(am:k+n<=r.length)(D:aY Γ cs z.cells.toList):
  ∃Γ',(alz t y z).run P Γ.w= .ok () Γ'.w/\Γ.cL Γ'/\aZ Γ' (H.set h (.live l Q (rows.set i (kK r k cs)))):=by
 obtain⟨a,b,cells,T,E,G,rfl,W,Y,A,Z,aa,ad,hm,I,ae,af⟩:=N4 x hc C R
 have p:z.cells.toList.length=n:=by rw[fI D,hn]
 have ag:i<rows.length:=(abW.1 R).1
 have an:(i+1)*a.sz<=a.cap*a.sz:=aiN _ (by omega)
 have ao:(i+1)*a.sz=i*a.sz+a.sz:=by rw[air,Nat.one_mul]
 have J:a.off+i*a.sz+k+n<=cells.size:=by omega
 have ah:=WN (P:=P) (t:=t) (y:=z) A (pt V Γ.w).2 (by simpa using p) (uZ D) J
 have ai:∀z, ¬Γ.F b z:=by
  have⟨i2,d,_,f⟩:=x.obj C
  rw[E]at d
  cases d
  simp only[G]at f
  exact f.2.2.1
 have aj:=x.X b I
 have S:dE a.sz (Γ.w.setRow b (spliced cells.toList (a.off+i*a.sz+k) z.cells.toList).toArray) b (spliced cells.toList (a.off+i*a.sz+k) z.cells.toList).toArray T:=A.set (by simp only[ajt];rw[pV (by simpa[p]using J)];simp)
 have K:∀c,c≠b->(Γ.w.setRow b (spliced cells.toList (a.off+i*a.sz+k) z.cells.toList).toArray).heap[c]?=Γ.w.heap[c]?:=fun c L=>setRow_other Γ.w b c _ L
 have q:Γ.Le (Γ.bH (Γ.w.setRow b (spliced cells.toList (a.off+i*a.sz+k) z.cells.toList).toArray) h a l b):=
  pQ E (.inr ⟨rfl,rfl⟩) (fun c z M=>K c (fun e=>ai z (e▸M)))
 refine⟨_,ah,⟨q,rfl,rfl,rfl,by simp[az.bH],fun c _ m=>K c (fun e=>m (e▸I)),fun c z M=> .inl M,fun c m=>?_⟩,?_⟩
 .rcases m with m|m
  .exact .inl m
  .exact .inl (m▸I)
 .have ak:(spliced cells.toList (a.off+i*a.sz+k) z.cells.toList).length=cells.size:=by
   rw[pV (by simp[p]at*;omega)];simp
  refine am5 (Γ':=Γ.bH (Γ.w.setRow b (spliced cells.toList (a.off+i*a.sz+k) z.cells.toList).toArray) h a l b) x (eP C) E q rfl rfl (fun c=>alc) (by simp[az.bH]) G (fun c _ L=>K c L) (.inl G) (by simpa[az.bH]using aj)
   hm (by simpa using aa) ae af _ T S (by simp[ak];exact Z) ?_
  refine mY fun s r' B=>?_
  have U:∀j,(Γ.bH (Γ.w.setRow b (spliced cells.toList (a.off+i*a.sz+k) z.cells.toList).toArray) h a l b).w.cell? ⟨b,j,none⟩=if a.off+i*a.sz+k<=j/\j<a.off+i*a.sz+k+n then z.cells.toList[j-(a.off+i*a.sz+k)]? else cells[j]?:=by
   intro j
   rw[show(Γ.bH (Γ.w.setRow b (spliced cells.toList (a.off+i*a.sz+k) z.cells.toList).toArray) h a l b).w=Γ.w.setRow b (spliced cells.toList (a.off+i*a.sz+k) z.cells.toList).toArray from rfl,dE.cell S]
   have:=wS (cur:=cells.toList) (o:=a.off+i*a.sz+k) (vs:=z.cells.toList) (by rw[p];simpa using J) j
   rw[p]at this
   simpa using this
  by_cases N:s=i
  .subst N
   rw[ahr ag]at B
   cases B
   refine⟨by rw[yF,W],nS fun O ap u=>?_⟩
   rw[U]
   rw[vC _ _ _ _ (by omega)]at u
   split at u
   .rename_i aq
    have⟨v,d,f⟩:=kX D u
    refine⟨v,?_,lI q _ _ f⟩
    rw[if_pos (by omega),show a.off+s*a.sz+O-(a.off+s*a.sz+k)=O-k by omega]
    exact d
   .rename_i ar
    have⟨v,d,f⟩:=uT Y u
    have au:O<r.length:=(abW.1 u).1
    refine⟨v,?_,lI q _ _ f⟩
    rw[if_neg (by omega), <-dE.cell A]
    exact d
  .rw[aat (fun e=>N e.symm)]at B
   have⟨d,f⟩:=jL ad B
   refine⟨d,tq q b _ r' (fun j a1 a2=>?_) f⟩
   rw[U,if_neg ?_, <-dE.cell A]
   rw[d]at a2
   intro av
   rcases Nat.lt_or_gt_of_ne N with al|al
   .have:(s+1)*a.sz<=i*a.sz:=aiN _ (by omega)
    rw[air,Nat.one_mul]at this
    omega
   .have:(i+1)*a.sz<=s*a.sz:=aiN _ (by omega)
    omega
def az.drew(Γ:az):az:={Γ with w:=Γ.w.drew}
def pg(Γ:az):Γ.Le Γ.drew:=⟨fun _ _ h=>h,fun _ _ _=>rfl,fun _ a b h=>⟨a,b,h,ad3 _,fun _=>rfl⟩⟩
def tc(Γ:az):Γ.cL Γ.drew:=⟨pg Γ,rfl,rfl,rfl,ad3 _,fun _ _ _=>rfl,fun _ _ h=> .inl h,fun _ h=> .inl h⟩
def sR(a:aZ Γ H):aZ Γ.drew H:=
 ⟨a.len,fun h o b=>(a.ob h o b).aK (pg Γ) rfl (fun _ _ _ _ _ _ c d=>⟨rfl,d,c⟩),a.apart,a.F,a.X,a.G.le (pg Γ)⟩
theorem Am(n:aZ Γ H){x:ab}(hc:aB Γ x y)(d:view H x=some ys):
  (y= .slice none 0 0/\ys=[])\/∃a cap,y= .slice (some a) ys.length cap/\ys.length<=cap/\(ys=[]\/∃b i f,a=⟨b,i,none⟩/\bE Γ b f i ys):=by
 unfold view at d
 split at d
 .cases d
  simp only[aB]at hc
  rcases hc with hc|⟨a,cap,f,rfl,g,c⟩
  .exact .inl hc
  .refine .inr ⟨a,cap,rfl,g,?_⟩
   rcases c with c|⟨c,_,p⟩
   .exact .inl c
   .have ⟨b,o,s⟩:=a
    grind
 .cases d
  simp only[aB]at hc
  obtain⟨a,cap,f,rfl,g,c⟩:=hc
  refine .inr ⟨a,cap,rfl,g,?_⟩
  rcases c with c|⟨c,_,p⟩
  .exact .inl c
  .have ⟨b,o,s⟩:=a
   grind
 .grind [aB]
 .rename_i h B j e
  split at d
  .rename_i z rows q
   split at d
   .rename_i C
    cases d
    simp only[aB]at hc
    obtain⟨r,D,a,cap,t,_,rfl,c⟩:=hc
    have⟨E,k,_,l⟩:=n.obj q
    rw[t]at k
    cases k
    have u:((rows.drop j).take e).length=e:=by grind
    rcases c rfl with⟨m,rfl,rfl,rfl,rfl⟩|⟨b,v,m,rfl,rfl,F,w⟩
    .simp
    .refine .inr ⟨v,_,by rw[u],by omega,?_⟩
     by_cases G:e=0
     .grind
     .right
      simp only[m]at l
      have⟨_,_,_,_,_,_,_,_,_,A⟩:=l
      refine⟨b,_,r.sz,w (by omega),?_⟩
      exact kJ (ml A j) e
   .cases d
  .cases d
 .cases d
theorem tg{a:Nat}(h:∀r∈rows,r.length=a):rows.flatten.length=rows.length*a:=by
 induction rows with
 |nil=>simp
 |cons r b c=>grind
def Oh{a c:Nat}(h:bE Γ b a c rows):∀r∈rows,r.length=a:=by intro r d;have⟨i,e⟩:=List.getElem?_of_mem d;exact(jL h e).1
theorem ao2{e:Nat}(i:∀r∈ys,r.length=e)
  (h:(y= .slice none 0 0/\ys=[])\/∃a cap,y= .slice (some a) ys.length cap/\ys.length<=cap/\(ys=[]\/∃b d f,a=⟨b,d,none⟩/\bE Γ b f d ys)):
  ∃c,aY Γ ys.flatten c/\c.length=ys.length*e/\(y= .slice none 0 0/\ys=[]\/∃a cap,y= .slice (some a) ys.length cap/\∀(j:Nat) (v:Value),c[j]?=some v->Γ.w.cell? (a.add j)=some v):=by
 rcases h with⟨rfl,rfl⟩|⟨a,cap,rfl,m,k⟩
 .exact ⟨[],by simp[aY],by simp,.inl ⟨rfl,rfl⟩⟩
 .rcases k with rfl|⟨b,d,f,rfl,l⟩
  .exact ⟨[],by simp[aY],by simp,.inr ⟨a,cap,rfl,by simp⟩⟩
  .have ⟨c,g,n,o⟩:=tH l
   refine⟨c,g,?_,.inr ⟨_,cap,rfl,fun j v p=>by grind [(jG)]⟩⟩
   rw[fI g,tg i]
end Go.Nx
namespace Go.Nx
def jz{P:Program}{t e:TypeId}{a bytes:Nat}{z:List ab}(h:se P t=some (e,a,bytes,z)):
  P.underlying t=some (.slice e)/\∃i b,P.info? e=some i/\i.size=a/\i.bytes=bytes/\i.zero=some b/\b.cells.size=a/\leaves b=some z:=by
 grind [se,zc]
def Src(w:World)(m:Nat)(b:List Value)(x:Value):Prop:=
 (x= .slice none 0 0/\m=0/\b=[])\/∃a c,x= .slice (some a) m c/\∀(j:Nat) (v:Value),b[j]?=some v->w.cell? (a.add j)=some v
def Bq{P:Program}{w:World}{m e:Nat}{d:List Value}{x:Value}(f:Src w m d x)(g:d.length=m*e):
  (akf x).run P w= .ok m w/\∀b,b.heap=w.heap->(ai4 e m x).run P b= .ok d.toArray b:=by
 rcases f with⟨rfl,rfl,rfl⟩|⟨a,c,rfl,hc⟩
 .exact ⟨by simp[akf],fun b _=>by simp[ai4]⟩
 .refine ⟨by simp[akf],fun b h=>run_firstCells_some (P:=P) b e m a m c d g fun j v i=>?_⟩
  grind [World.cell?]
def run_append_fits{zz:Nat}{P:Program}{w:World}{t ty e:TypeId}{i:TypeInfo}(h:P.underlying t=some (.slice e))(j:P.info? e=some i){m:Nat}{d:List Value}{x:Value}(s:Src w m d x)
  (u:d.length=m*i.size) (y:∀v∈d,v.oneCell'=true) (f:Option Addr) (n c:Nat) (g:n+m<=c)
  (z:m=0\/∃b o cells T,f=some ⟨b,o,none⟩/\dE zz w b cells T/\o+n*i.size+d.length<=cells.size):
  ∃k,(aiL #[t,t] ty #[.slice f n c,x]).run P w= .ok (.slice f (n+m) c) k/\
   ((m=0/\k=w)\/∃b o cells T,f=some ⟨b,o,none⟩/\dE zz w b cells T/\o+n*i.size+d.length<=cells.size/\k=w.setRow b (spliced cells.toList (o+n*i.size) d).toArray):=by
 have⟨l,A⟩:=Bq (P:=P) s u
 have p:=A w rfl
 rcases z with rfl|⟨b,o,cells,T,rfl,q,B⟩
 .have hn:d=[]:=ae4 (by omega)
  subst hn
  refine⟨w,?_,.inl ⟨rfl,rfl⟩⟩
  cases f with
  |none=>
   simp only[aiB]at g
   simp[aiL,run_underlying h,sizeOf,typeInfo,j,l,g,p]
  |some a=>
   simp only[aiB]at g
   simp[aiL,run_underlying h,sizeOf,typeInfo,j,l,g,p,storeCells]
 .refine ⟨_,?_,.inr ⟨b,o,cells,T,rfl,q,B,rfl⟩⟩
  have r:=vS (P:=P) (o+n*i.size) d 0 cells w q (by omega) y
  simp only[aiB]at r
  simp[aiL,run_underlying h,sizeOf,typeInfo,j,l,g,p,jG,r]
def Nv{P:Program}{w:World}{t ty e:TypeId}{i:TypeInfo}{z:Value}(h:P.underlying t=some (.slice e))(k:P.info? e=some i)(l:i.zero=some z){m:Nat}{f:List Value}{x:Value}(o:Src w m f x)
  (p:f.length=m*i.size) (d:Option Addr) (n c:Nat) (b:List Value) (g:b.length=n*i.size) (q:b=[]\/∃a,d=some a/\∀(j:Nat) (v:Value),b[j]?=some v->w.cell? (a.add j)=some v)
  (r:c<n+m) (s:n+m<=maxLen) (u:(n+m)*i.bytes<=140737488355328):
  (aiL #[t,t] ty #[.slice d n c,x]).run P w= .ok (.slice (some ⟨w.heap.size,0,none⟩) (n+m) (grownCap w (n+m) c e))
   (w.drew.alloc (.cells ((b++f).toArray++aiy z.cells (grownCap w (n+m) c e-(n+m))) e)):=by
 have⟨y,A⟩:=Bq (P:=P) o p
 have B:=A w.drew rfl
 have hn:¬(n+m<=c):=by omega
 have C:¬(9223372036854775807< ((n:Int)+(m:Int))):=by unfold maxLen at s;omega
 have G:=growslice_fits r u
 have D:¬(281474976710656<alN (n+m) c*i.bytes):=by omega
 have E:(ai4 i.size n (.slice d n c)).run P w.drew= .ok b.toArray w.drew:=by
  rcases q with rfl|⟨a,rfl,hc⟩
  .have F:n*i.size=0:=by simpa using g.symm
   cases d with
   |none=>simp[ai4]
   |some a=>simp[ai4,loadCells,F,loadCellsFrom]
  .exact run_firstCells_some (P:=P) w.drew i.size n a n c b g (by simpa using hc)
 simp[aiL,run_underlying h,sizeOf,typeInfo,zeroValue,k,l,y,hn,C,D,al0,B,E,newRow,grownCap]
 grind
theorem Src.of{d:az}{b:List (List ab)}{c:List Value}{x:Value}{e:Nat}(f:c.length=b.length*e)
  (h:x= .slice none 0 0/\b=[]\/∃a cap,x= .slice (some a) b.length cap/\∀(j:Nat) (v:Value),c[j]?=some v->d.w.cell? (a.add j)=some v):Src d.w b.length c x:=by
 rcases h with⟨rfl,rfl⟩|⟨a,cap,rfl,h⟩
 .exact .inl ⟨rfl,rfl,ae4 (by grind)⟩
 .exact .inr ⟨a,cap,rfl,h⟩
def Ab{a zs:List Value}{b:Array Value}(h:b=a.toArray++zs.toArray):∀(k:Nat) (y:Value),a[k]?=some y->b[k]?=some y:=by grind
def az.bump(Γ:az)(h:Nat)(a:fm)(b:Nat):az:={Γ with hs:=Γ.hs.set h (a,b)}
def zy{Γ:az}{h:Nat}{inf b:fm}{ver a:Nat}(c:Γ.hs[h]?=some (b,a))(d:a<ver):Γ.Le (Γ.bump h inf ver)where
 F _ _ h:=h
 mem _ _ _:=rfl
 hs n i v hn:=by
  grind [az.bump]
def Q2{Γ:az}{H:List Ob}(a:aZ Γ H){h ver z j:Nat}{rows:List (List ab)}{inf:fm}(f:H[h]?=some (.live ver z rows))(c:Γ.hs[h]?=some (inf,ver))(k:inf.base=none):
  aZ (Γ.bump h inf (ver+1)) (H.set h (.live (ver+1) j [])):=by
 have l:=zy (Γ:=Γ) (inf:=inf) (ver:=ver+1) c (by omega)
 have m:h<H.length:=(abW.1 f).1
 have p:h<Γ.hs.length:=(abW.1 c).1
 refine a.put l h (by simp[az.bump,a.len]) (fun n hn=>⟨aat (fun e=>hn e.symm),by simp only[az.bump];exact aat (fun e=>hn e.symm)⟩) (fun o d=>?_) (fun o i v b d _ t u=>?_)
  (fun _ _ _=>rfl) (fun _ _ q=> .inl q) (fun _ r=>r) a.F a.X
 .rw[ahr m]at d
  cases d
  have⟨w,g,s,_⟩:=a.ob h _ f
  rw[c]at g
  cases g
  exact⟨inf,by simp[az.bump,p],s,by simp[k]⟩
 grind [az.bump]
def NO{a:az}{H:List Ob}(g:aZ a H){h d z:Nat}{rows new:List (List ab)}{A:fm}(B:H[h]?=some (.live d z rows))(o:a.hs[h]?=some (A,d))
  (cells:Array Value) (T:TypeId) (cap c:Nat) (p:cap<=maxLen) (q:new.length<=cap) (s:0<c) (C:cap*c<=cells.size) (t:∀r∈new,r.length=c)
  (i:List Value) (u:aY a new.flatten i) (D:∀(k:Nat) (y:Value),i[k]?=some y->cells[k]?=some y):
  a.cL (a.bH (a.w.alloc (.cells cells T)) h ⟨some a.w.heap.size,0,cap,c⟩ (d+1) a.w.heap.size)/\
  aZ (a.bH (a.w.alloc (.cells cells T)) h ⟨some a.w.heap.size,0,cap,c⟩ (d+1) a.w.heap.size) (H.set h (.live (d+1) c new)):=by
 have E:(a.w.alloc (.cells cells T)).heap[a.w.heap.size]?=some (.cells cells T (0,0)):=heap_alloc_new a.w _
 have j:a.Le (a.bH (a.w.alloc (.cells cells T)) h ⟨some a.w.heap.size,0,cap,c⟩ (d+1) a.w.heap.size):=pQ o (.inl (by omega)) (fun b z e=>lV a.w _ b (g.F b z e))
 have G:bE (a.bH (a.w.alloc (.cells cells T)) h ⟨some a.w.heap.size,0,cap,c⟩ (d+1) a.w.heap.size) a.w.heap.size c 0 new:=by
  have I:=rF g cells T cap c new p q s C t i u D
  have l:=I.ob H.length (.live 0 c new) (by simp)
  have⟨M,v,_,N⟩:=l
  simp only[az.alloc,g.len,aea (ad3 _),ajB,ale,ab1,aca,and_true]at v
  subst v
  have J:∀(f:List (List ab)) (m:Nat) (n:List Value),(∀r∈f,r.length=c)->aY (a.bH (a.w.alloc (.cells cells T)) h ⟨some a.w.heap.size,0,cap,c⟩ (d+1) a.w.heap.size) f.flatten n->(∀(k:Nat) (y:Value),n[k]?=some y->cells[m+k]?=some y)->
    bE (a.bH (a.w.alloc (.cells cells T)) h ⟨some a.w.heap.size,0,cap,c⟩ (d+1) a.w.heap.size) a.w.heap.size c m f:=by
   intro f
   induction f with
   |nil=>grind [bE]
   |cons r f O=>
    intro m n K x hc
    simp only[bE]
    have P:=K r (by simp)
    have l:=sQ x r.length
    have L:=tx x r.length
    simp only[aiI,alA,amK]at l L
    grind [(nS),(kX),az.bH,(cell_of)]
  exact J new 0 i t (G9 j _ _ u) (fun k y Q=>by grind)
 refine⟨⟨j,rfl,rfl,rfl,by simp[az.bH],fun b e _=>lV a.w _ b e,fun _ _ h=> .inl h,fun b e=>?_⟩,?_⟩
 .rcases e with e|e
  .exact .inl e
  omega
 .exact am5 (Γ':=a.bH (a.w.alloc (.cells cells T)) h ⟨some a.w.heap.size,0,cap,c⟩ (d+1) a.w.heap.size) g B o j rfl rfl (fun _=>alc) (by simp[az.bH]) rfl (fun b e _=>lV a.w _ b e) (.inr rfl) (by simp[az.bH]) p q s rfl cells T (.fresh E) (by grind) G
theorem wrap_i64{n:Int}(a: -9223372036854775808<=n)(b:n<9223372036854775808):adW.wrap n=n:=by grind [amZ,am0,amU]
def Hz(z:Array Value)(n:Nat):(aiy z n).toList=(ahv n z.toList).flatten:=by
 unfold aiy;rcases akZ z.size with a|a
 .simp_all
 .apply aju;intro i;simp only[Array.toList_map,Array.toList_range,adf];induction n generalizing i with
  |zero=>simp
  |succ n b=>rw[ajP,aiI];grind [(amh),(aea),(Nat.mod_eq_sub_mod)]
def Kq{a:az}{b:List ab}{c:List Value}(h:aY a b c):∀k,aY a (ahv k b).flatten (ahv k c).flatten
 |0=>by simp[aY]
 |k+1=>by
  rw[ajP,ajP,aiI,aiI]
  exact su h (Kq h k)
def ZY{P:Program}{a:az}{H g:List Ob}(j:aZ a H){t d l e m bytes:TypeId}{z:List ab}{s x:ab}{o p:Value}{v:aw}(E:se P t=some (e,m,bytes,z))(q:aB a s o)(r:aB a x p)(h:ank P H d m bytes z s x=some (v,g)):
  ∃y c,(aiL #[t,d] l #[o,p]).run P a.w= .ok y c.w/\a.cL c/\aZ c g/\aL c v y:=by
 unfold ank at h
 split at h
 case h_2=>cases h
 rename_i k0 k n u
 split at h
 case isFalse=>cases h
 rename_i hc
 have⟨F,G,ad,ae,I⟩:=hc
 cases h
 simp only[aB]at q r
 obtain⟨rfl,_⟩:=q
 obtain⟨rfl,_⟩:=r
 obtain⟨A,i,b,B,rfl,rfl,J,K,L⟩:=jz E
 have M:adW.wrap n=n:=by grind [(wrap_i64)]
 have N:¬(281474976710656<n*i.bytes):=by grind
 have O:¬n<0:=by omega
 by_cases h0:n.toNat=0
 .obtain rfl:n=0:=by omega
  refine⟨.slice none 0 0,a.lT,?_,JJ a,by simpa using A3 j _,?_⟩
  .have Q:adW.wrap 0=0:=by decide
   simp[aiL,run_underlying A,run_underlying u,sizeOf,typeInfo,B,asInt,asIntOf,Q,az.lT]
  grind [aL,aB,az.lT,(aZ.len)]
 .have R:=grownCap_ge a.w n.toNat 0 e
  have C:=sR j
  have af:¬(9223372036854775807< (n.toNat:Int)):=by omega
  have ag:=growslice_fits (need:=n.toNat) (old:=0) (by omega) I
  have S:¬(281474976710656<alN n.toNat 0*i.bytes):=by omega
  have T:¬(n.toNat*i.size=0):=by
   intro U
   rcases Nat.mul_eq_zero.1 U with V|V<;>omega
  have W:=Hz b.cells n.toNat
  have X:¬n<=0:=by omega
  have Y:¬(9223372036854775807<max n 0):=by omega
  have f:(aiL #[t,d] l #[.slice none 0 0,.int k n]).run P a.w= .ok (.slice (some ⟨a.w.heap.size,0,none⟩) n.toNat (grownCap a.w n.toNat 0 e))
    (a.w.drew.alloc (.cells (aiy b.cells n.toNat++aiy b.cells (grownCap a.w n.toNat 0 e-n.toNat)) e)):=by
   simp[aiL,run_underlying A,run_underlying u,sizeOf,typeInfo,zeroValue,B,J,asInt,asIntOf,M,O,N,S,T,X,Y,al0,ai4,newRow,grownCap]
  have Z:=(tc a).trans (sL C (aiy b.cells n.toNat++aiy b.cells (grownCap a.w n.toNat 0 e-n.toNat)) e ⟨some a.w.heap.size,0,grownCap a.w n.toNat 0 e,i.size⟩)
  refine⟨_,_,f,Z,rF C _ e (grownCap a.w n.toNat 0 e) i.size (ahv n.toNat z) (grownCap_le_maxLen a.w n.toNat 0 e (by unfold maxLen;omega)) (by simpa using R) F ?_ (fun ah f=>by rw[ala f];exact G) (aiy b.cells n.toNat).toList ?_ (fun ai y D=>?_),?_⟩
  .simp only[aj5,size_zeroCells,K, <-air]
   exact aj8 (by congr 1;omega)
  .rw[W]
   exact Kq (oJ L) _
  .have aa:=(abW.1 D).1
   rw[akV (by simpa using aa)]
   simpa using D
  grind [aL,aB,az.alloc,(aZ.len)]
def abG{P:Program}{d:az}{ag H':List Ob}(z:aZ d ag){ax t' ty:TypeId}{s x:ab}{ys yx:Value}{v:aw}(Q:aB d s ys)(hx:aB d x yx)(h:xk P ag ax t' s x=some (v,H')):
  ∃y Γ',(aiL #[ax,t'] ty #[ys,yx]).run P d.w= .ok y Γ'.w/\d.cL Γ'/\aZ Γ' H'/\aL Γ' v y:=by
 unfold xk at h
 split at h
 case h_3=>cases h
 case h_2=>
  rename_i e aT bytes ah ai aj
  exact ZY (P:=P) z ai Q hx h
 rename_i e aT bytes ah new ai aj
 split at h
 case isFalse=>cases h
 rename_i aU
 obtain⟨rfl,ay,F⟩:=aU
 obtain⟨J,i,zv,K,rfl,rfl,hz,aA,bg⟩:=jz ai
 have⟨l,R,q,aC⟩:=ao2 F (Am z hx aj)
 have G:Src d.w new.length l yx:=Src.of q aC
 have S:=uZ R
 have aD:∀(need ak:Nat),need<=maxLen->grownCap d.w need ak e<=maxLen:=fun need ak hm=>grownCap_le_maxLen d.w need ak e hm
 split at h
 .
  split at h
  case isFalse=>cases h
  rename_i U
  cases h
  simp only[aB]at Q
  obtain⟨rfl,_⟩:=Q
  by_cases hm:new.length=0
  .have V:new=[]:=ae4 hm
   subst V
   have⟨H,m,n⟩:=run_append_fits (zz:=0) (P:=P) (ty:=ty) J K G q S none 0 0 (by simp) (.inl rfl)
   have:H=d.w:=by
    rcases n with⟨_,n⟩|⟨b,o,cells,T,p,_⟩
    .exact n
    .cases p
   subst this
   refine⟨_,d.lT,m,JJ d,A3 z _,?_⟩
   grind [aL,aB,az.lT,(aZ.len)]
  .have m:=Nv (P:=P) (ty:=ty) J K hz G q none 0 0 [] (by simp) (.inl rfl) (by omega) (by simpa using U.1) (by simpa using U.2)
   simp only[aiW,aiD]at m
   have aa:=grownCap_ge d.w new.length 0 e
   have ad:=sR z
   have aV:=(tc d).trans (sL ad (l.toArray++aiy zv.cells (grownCap d.w new.length 0 e-new.length)) e ⟨some d.w.heap.size,0,grownCap d.w new.length 0 e,i.size⟩)
   refine⟨_,_,m,aV,rF ad _ e (grownCap d.w new.length 0 e) i.size new (aD _ _ U.1) aa ay ?_ F l (G9 (pg d) _ _ R) (Ab (zs:=(aiy zv.cells (grownCap d.w new.length 0 e-new.length)).toList) (by simp)),?_⟩
   .simp only[aj5,ajt,size_zeroCells,aA,q, <-air]
    exact aj8 (by congr 1;omega)
   grind [aL,aB,az.alloc,(aZ.len)]
 .
  rename_i h A f g
  split at h
  case h_2=>cases h
  rename_i zz rows L
  split at h
  case isFalse=>cases h
  rename_i U
  obtain⟨bh,rfl,al,aE⟩:=U
  cases h
  have aW:=z.obj L
  have⟨a,E,hm,p⟩:=aW
  have bi:h<ag.length:=(abW.1 (eP L)).1
  have aX:h<d.hs.length:=by grind
  simp only[aB]at Q
  obtain⟨bj,bk,aF,cap,aG,_,rfl,hv⟩:=Q
  rw[E]at aG
  cases aG
  have hv:=hv rfl
  have I:((rows.drop f).take g).length=g:=by grind
  by_cases ae:g+new.length<=cap
  .
   rcases hv with⟨t,rfl,rfl,rfl,rfl⟩|⟨b,a',t,rfl,rfl,a3,W⟩
   .
    have V:new=[]:=ae4 (by omega)
    subst V
    simp only[t]at p
    subst p
    have⟨H,m,n⟩:=run_append_fits (zz:=0) (P:=P) (ty:=ty) J K G q S none 0 0 (by simp) (.inl rfl)
    have:H=d.w:=by
     rcases n with⟨_,n⟩|⟨b,o,cells,T,p,_⟩
     .exact n
     .cases p
    subst this
    refine⟨_,d.bump h a (A+1),m,⟨zy E (by omega),rfl,rfl,rfl,ad3 _,fun _ _ _=>rfl,fun _ _ h=> .inl h,fun _ h=> .inl h⟩,by simpa using Q2 z (eP L) E t,?_⟩
    grind [aL,aB,az.bump]
   .simp only[t]at p
    have⟨u,Y,hF,a4,am,cells,T,M,aH,N⟩:=p
    have aI:=z.X b Y
    have aJ:a.off+f*a.sz+(a.cap-f)*a.sz<=cells.size:=by
     rw[ajg, <-air,show f+(a.cap-f)=a.cap by omega];exact aH
    by_cases an:new.length=0
    .
     have V:new=[]:=ae4 an
     subst V
     have⟨H,m,n⟩:=run_append_fits (zz:=0) (P:=P) (ty:=ty) J K G q S (some a') g (a.cap-f) (by simpa using ae) (.inl rfl)
     have ao:H=d.w:=by
      rcases n with⟨_,n⟩|⟨b2,o2,ap,T2,_,aq,_,n⟩
      .exact n
      .have a5:l=[]:=ae4 (by simpa using q)
       subst a5
       rw[n]
       have:(spliced ap.toList (o2+g*i.size) []).toArray=ap:=by simp[spliced]
       rw[this]
       exact aq.self
     subst ao
     have C:d.Le (d.bH d.w h ⟨some b,a.off+f*a.sz,a.cap-f,a.sz⟩ (A+1) b):=pQ E (.inl (by omega)) (fun _ _ _=>rfl)
     refine⟨_,d.bH d.w h ⟨some b,a.off+f*a.sz,a.cap-f,a.sz⟩ (A+1) b,m,⟨C,rfl,rfl,rfl,ad3 _,fun _ _ _=>rfl,fun _ _ h=> .inl h,fun c hc=>?_⟩,?_,?_⟩
     .rcases hc with hc|hc
      .exact .inl hc
      .exact .inl (hc▸Y)
     .refine am5 (Γ':=d.bH d.w h ⟨some b,a.off+f*a.sz,a.cap-f,a.sz⟩ (A+1) b) z (eP L) E C rfl rfl (fun c=>alc) (ad3 _) rfl (fun _ _ _=>rfl) (.inl t) aI (by simp only;omega) ?_ am u cells T M aJ ?_
      .simp only[aeU,I];omega
      .simp only[aeU]
       exact mY fun k r D=>by
        have:=jL (kJ (ml N f) g) D
        exact⟨this.1,tq C b _ r (fun _ _ _=>rfl) this.2⟩
     grind [aL,aB,az.bH]
    .have W:=W (by omega)
     subst W
     have Z:a.off+f*a.sz+g*i.size+l.length<=cells.size:=by
      have h2:(g+new.length)*a.sz<=(a.cap-f)*a.sz:=aiN _ ae
      rw[air]at h2
      rw[q, <-u]
      omega
     have⟨H,m,n⟩:=run_append_fits (P:=P) (ty:=ty) J K G q S (some ⟨b,a.off+f*a.sz,none⟩) g (a.cap-f) ae (.inr ⟨b,_,cells,T,rfl,M,Z⟩)
     have ao:H=d.w.setRow b (spliced cells.toList (a.off+f*a.sz+g*i.size) l).toArray:=by
      rcases n with⟨h0,_⟩|⟨b2,o2,ap,T2,aK,aq,_,n⟩
      .exact absurd h0 an
      .simp only[ab1,Addr.mk.injEq,and_true]at aK
       obtain⟨rfl,rfl⟩:=aK
       obtain⟨rfl,rfl⟩:=M.Mf aq
       exact n
     subst ao
     have ar:dE a.sz (d.w.setRow b (spliced cells.toList (a.off+f*a.sz+g*i.size) l).toArray) b (spliced cells.toList (a.off+f*a.sz+g*i.size) l).toArray T:=M.set (by simp only[ajt];rw[pV (by simpa using Z)];simp)
     have af:∀c,c≠b->(d.w.setRow b (spliced cells.toList (a.off+f*a.sz+g*i.size) l).toArray).heap[c]?=d.w.heap[c]?:=fun c au=>setRow_other d.w b c _ au
     have C:d.Le (d.bH (d.w.setRow b (spliced cells.toList (a.off+f*a.sz+g*i.size) l).toArray) h ⟨some b,a.off+f*a.sz,a.cap-f,a.sz⟩ (A+1) b):=
      pQ E (.inl (by omega)) (fun c ah a6=>af c (fun e=>hF ah (e▸a6)))
     have aM:(spliced cells.toList (a.off+f*a.sz+g*i.size) l).length=cells.size:=by rw[pV (by simpa using Z)];simp
     refine⟨_,d.bH (d.w.setRow b (spliced cells.toList (a.off+f*a.sz+g*i.size) l).toArray) h ⟨some b,a.off+f*a.sz,a.cap-f,a.sz⟩ (A+1) b,m,⟨C,rfl,rfl,rfl,by simp[az.bH],fun c _ a7=>af c (fun e=>a7 (e▸Y)),fun _ _ h=> .inl h,fun c hc=>?_⟩,?_,?_⟩
     .rcases hc with hc|hc
      .exact .inl hc
      .exact .inl (hc▸Y)
     .refine am5 (Γ':=d.bH (d.w.setRow b (spliced cells.toList (a.off+f*a.sz+g*i.size) l).toArray) h ⟨some b,a.off+f*a.sz,a.cap-f,a.sz⟩ (A+1) b) z (eP L) E C rfl rfl (fun c=>alc) (by simp[az.bH]) rfl (fun c _ au=>af c au) (.inl t) (by simpa[az.bH]using aI) (by simp only;omega) ?_ am u _ T ar (by simp[aM];exact aJ) ?_
      .simp only[agc,I];omega
      .have av:∀j,(d.bH (d.w.setRow b (spliced cells.toList (a.off+f*a.sz+g*i.size) l).toArray) h ⟨some b,a.off+f*a.sz,a.cap-f,a.sz⟩ (A+1) b).w.cell? ⟨b,j,none⟩=if a.off+f*a.sz+g*i.size<=j/\j<a.off+f*a.sz+g*i.size+l.length then l[j-(a.off+f*a.sz+g*i.size)]? else cells[j]?:=by
        intro j
        rw[show(d.bH (d.w.setRow b (spliced cells.toList (a.off+f*a.sz+g*i.size) l).toArray) h ⟨some b,a.off+f*a.sz,a.cap-f,a.sz⟩ (A+1) b).w=d.w.setRow b (spliced cells.toList (a.off+f*a.sz+g*i.size) l).toArray from rfl,dE.cell ar]
        have:=wS (cur:=cells.toList) (o:=a.off+f*a.sz+g*i.size) (vs:=l) (by simpa using Z) j
        simpa using this
       refine wm ?_ ?_
       .have h2:=kJ (ml N f) g
        refine rM C b a.sz _ _ (fun j a1 a2=>?_) h2
        rw[I]at a2
        rw[av,if_neg ?_,dE.cell M]
        simp only at a1 a2
        rw[u]at a2
        rw[u]
        omega
       .rw[I]
        refine mY fun k r D=>⟨by rw[u];exact F r (aiJ D),nS fun O a8 aN=>?_⟩
        have a9:k<new.length:=(abW.1 D).1
        have aO:r.length=i.size:=F r (aiJ D)
        have bl:O<r.length:=(abW.1 aN).1
        have ba:new.flatten[k*i.size+O]?=some a8:=by
         clear R m G aC q S Z n ar af C aM av aj aE al ae an
         induction new generalizing k with
         |nil=>simp at D
         |cons x xs ih=>
          simp only[aiI]
          have aP:x.length=i.size:=F x (by simp)
          cases k with
          |zero=>
           simp at D
           subst D
           rw[abE (by omega)]
           simpa using aN
          |succ k=>
           rw[aea (by rw[aP,air];omega),aP,show(k+1)*i.size+O-i.size=k*i.size+O by rw[air];omega]
           exact ih (fun y hy=>F y (by simp[hy])) k (by simpa using D) (by simpa using a9)
        have⟨v',g1,g2⟩:=kX R ba
        refine⟨v',?_,lI C _ _ g2⟩
        have bb:(k+1)*i.size<=new.length*i.size:=aiN _ (by omega)
        rw[air]at bb
        rw[av,if_pos ?_]
        .rw[<-u]at g1|-
         rw[show a.off+f*a.sz+g*a.sz+k*a.sz+O-(a.off+f*a.sz+g*a.sz)=k*a.sz+O by omega]
         exact g1
        .simp only
         rw[q,u]
         omega
     grind [aL,aB,az.bH]
  .
   have bc:∃B,aY d ((rows.drop f).take g).flatten B/\B.length=g*i.size/\(B=[]\/∃a0,aF=some a0/\∀(j:Nat) (v:Value),B[j]?=some v->d.w.cell? (a0.add j)=some v):=by
    rcases hv with⟨t,rfl,rfl,rfl,rfl⟩|⟨b,a',t,rfl,rfl,a3,W⟩
    .exact ⟨[],by simp[aY],by simp,.inl rfl⟩
    .simp only[t]at p
     have⟨u,Y,hF,a4,am,cells,T,M,aH,N⟩:=p
     have⟨B,g1,g2,g3⟩:=tH (kJ (ml N f) g)
     refine⟨B,g1,by rw[g2,I,u],?_⟩
     by_cases bd:g=0
     .left
      exact ae4 (by rw[g2,I,bd];simp)
     .right
      refine⟨a',rfl,fun j v hj=>?_⟩
      rw[W (by omega),jG]
      exact g3 j v hj
   have⟨B,be,aQ,bf⟩:=bc
   have m:=Nv (P:=P) (ty:=ty) J K hz G q aF g cap B aQ bf (by omega) al aE
   have aa:=grownCap_ge d.w (g+new.length) cap e
   have ad:=sR z
   have aO:∀r∈(rows.drop f).take g,r.length=i.size:=by
    intro r m
    have aR:r∈rows:=ajY (ajA m)
    cases t:a.base with
    |none=>
     simp only[t]at p
     subst p
     cases aR
    |some b=>
     simp only[t]at p
     have⟨u,_,_,_,_,_,_,_,_,N⟩:=p
     rw[<-u]
     exact Oh N r aR
   have aS:=NO (new:=(rows.drop f).take g++new) ad (eP L) E ((B++l).toArray++aiy zv.cells (grownCap d.w (g+new.length) cap e-(g+new.length))) e (grownCap d.w (g+new.length) cap e) i.size
    (aD _ _ al) (by simp only[agc,I];exact aa) ay ?_ ?_ (B++l) ?_ ?_
   .exact ⟨_,_,m,(tc d).trans aS.1,aS.2,by
     simp only[aL,aB]
     refine⟨_,A+1,some ⟨d.w.heap.size,0,none⟩,grownCap d.w (g+new.length) cap e,by simp[az.bH,az.drew,aX];rfl,ad3 _,rfl,fun _=> .inr ⟨d.w.heap.size,_,rfl,rfl,by simp,by simpa using aa,fun _=>by simp⟩⟩⟩
   .simp only[aj5,ajt,agc,size_zeroCells,aA,q,aQ, <-air]
    exact aj8 (by congr 1;omega)
   .intro r m
    rcases ain.1 m with m|m
    .exact aO r m
    .exact F r m
   .rw[alI]
    exact G9 (pg d) _ _ (su be R)
   grind
 .cases h
variable{x d:ab}{b g:Bool}{P:Program}{t ty:TypeId}{n h:Nat}{Γ:az}{H H':List Ob}{yx yd:Value}
def lu(P:Program)(t:TypeId)(a:List Value):Value:=
 match P.underlying t with
 |some (.struct _)=> .agg a.toArray
 |_=>a.headD undef
theorem E5{x:Sh}{s:List Sh}{d e:List ab}(h:eL (x::s) d e=some b):
  ∃a f c g i j,d=a::f/\e=c::g/\lR x a c=some i/\eL s f g=some j/\b=(i&&j):=by
 cases d with
 |nil=>simp[eL]at h
 |cons a d=>
  cases e with
  |nil=>simp[eL]at h
  |cons c e=>
   grind [eL]
theorem JD{a c:List ab}(h:eL [] a c=some b):a=[]/\c=[]/\b=true:=by grind [eL]
theorem QG:∀(s d:List Sh) (e f:List ab) (b:Bool),eL (s++d) e f=some b->
  ∃i g,eL s (e.take s.length) (f.take s.length)=some i/\eL d (e.drop s.length) (f.drop s.length)=some g/\b=(i&&g)
 |[],d,e,f,b,h=>⟨true,b,by simp[eL],by grind,by simp⟩
 |x::s,d,e,f,b,h=>by
  obtain⟨a,j,c,k,i,g,rfl,rfl,m,l,rfl⟩:=E5 (by simpa using h)
  obtain⟨c1,c2,n,o,rfl⟩:=QG s d j k g l
  grind [eL]
theorem NU:∀ {s:List Sh} {d e:List ab} {b:Bool},eL s d e=some b->d.length=s.length/\e.length=s.length
 |[],d,e,b,h=>by grind [(JD)]
 |x::s,d,e,b,h=>by
  obtain⟨a,g,c,i,j,k,rfl,rfl,l,f,rfl⟩:=E5 h
  have:=NU f
  simp[this]
def KM(b:List Value)(a n:Nat):b.toArray.extract a (a+n)=((b.drop a).take n).toArray:=by simp
def AJ{w:World}(d:tk P t=some (g,n))(a:List Value)(b:Nat)(h:b+n<=a.length)(hn:g=false->n=1):
  (part t a.toArray b).run P w= .ok (if g then .agg ((a.drop b).take n).toArray else((a.drop b).take n).headD undef) w:=by
 have⟨c,e⟩:=pt d w
 cases g with
 |true=>
  simp only[part,aiT,c,aiG,e,if_true,akW,KM]
 |false=>
  have:=hn rfl
  subst this
  have f:b<a.length:=by omega
  simp only[part,aiT,c,aiG,aes,if_false]
  have i:(a.drop b).take 1=[a[b]]:=by
   rw[agO f]
   rfl
  simp_all
theorem KP(h:tk P t=some (g,n)):∃d,P.underlying t=some d/\g=(match d with| .struct _| .array _ _=>true|_=>false):=by grind [tk]
theorem Jl{x:Sh}{a c:ab}(h:lR x a c=some b){y z:Value}(d:aB Γ a y)(hc:aB Γ c z):
  (∃k m n,x= .int/\y= .int k m/\z= .int k n/\b=(m==n))\/(∃m n,x= .bool/\y= .bool m/\z= .bool n/\b=(m==n))\/(∃m n,x= .str/\y= .string m/\z= .string n/\b=(m.toList==n.toList)):=by
 unfold lR at h
 grind [aB]
theorem Mo{d:Nat}{s:List Sh}(h:pH P d t=some s):∃D,P.underlying t=some D/\((∃a,D= .struct a)\/(s.length=1/\(match D with| .struct _| .array _ _=>true|_=>false)=false)):=by
 cases d with
 |zero=>simp[pH]at h
 |succ d=>grind [pH]
theorem WJ{d:Nat}{s:List Sh}(b:tk P t=some (g,n))(c:pH P d t=some s)(a:List Value):
  (if g then Value.agg a.toArray else a.headD undef)=lu P t a:=by
 grind [(KP),(Mo),lu]
theorem Hf{P:Program}{w:World}{Γ:az}:∀(d:Nat) (t:TypeId) (s:List Sh),pH P d t=some s->∀(e i:List ab) (k m:List Value) (b:Bool),aY Γ e k->aY Γ i m->eL s e i=some b->
  ∀D,d<=D->(alu D t (lu P t k) (lu P t m)).run P w= .ok b w
 |0,t,s,h,_,_,_,_,_,_,_,_,_,_=>by simp[pH]at h
 |d+1,t,s,h,e,i,k,m,b,hx,hy,q,D,hD=>by
  obtain⟨D,rfl⟩:∃Q,D=Q+1:=⟨D-1,by omega⟩
  have one:∀x:Sh,s=[x]->∃y z,k=[y]/\m=[z]/\∃a c,aB Γ a y/\aB Γ c z/\lR x a c=some b:=by grind [(E5),(JD),aY]
  unfold pH at h
  split at h
  .grind [(Jl),lu,(run_equalIn_int)]
  .grind [(Jl),lu,(run_equalIn_bool')]
  .grind [(Jl),lu,(run_equalIn_string)]
  .rename_i u r
   split at h
   .cases h
   .rename_i R
    have B:P.fieldsOf t=u:=by simp[Program.fieldsOf,r]
    have C:P.underlying t=some (.struct (P.fieldsOf t)):=by grind
    have E:lu P t k= .agg k.toArray:=by simp[lu,r]
    have F:lu P t m= .agg m.toArray:=by simp[lu,r]
    rw[E,F,run_equalIn_struct (P:=P) w D t _ _ C (by grind),B]
    clear E F B C R r one
    have S:∀(l:List Field) (p:Nat) (s:List Sh) (e i:List ab) (b:Bool),xV P (pH P d) p l=some s->aY Γ e (k.drop p)->aY Γ i (m.drop p)->eL s e i=some b->
      (al9 D k.toArray m.toArray l).run P w= .ok b w:=by
     intro l
     induction l with
     |nil=>
      intro p s e i b j _ _ q
      simp[xV]at j
      subst j
      obtain⟨_,_,rfl⟩:=JD q
      simp[al9]
     |cons f u T=>
      intro p s e i b j v G q
      simp only[xV]at j
      split at j
      .rename_i H
       split at j
       .rename_i o g n I A
        split at j
        .rename_i U
         have⟨hn,ae⟩:=U
         simp only[ab4]at j
         obtain⟨J,V,rfl⟩:=j
         obtain⟨K,W,L,X,rfl⟩:=QG o J e i b q
         have Y:=NU L
         have Z:=fI v
         have aa:=fI G
         simp only[ai1]at Y
         simp only[aj0]at Z aa
         have M:g=false->n=1:=by grind [(KP),(Mo)]
         have N:=AJ (P:=P) (w:=w) A k f.offset (by omega) M
         have O:=AJ (P:=P) (w:=w) A m f.offset (by omega) M
         rw[WJ A I]at N O
         have ad:=Hf (w:=w) d f.type o I (e.take o.length) (i.take o.length) ((k.drop f.offset).take n) ((m.drop f.offset).take n) K (by rw[hn,H.2];exact sQ v _) (by grind [(sQ)]) L D (by omega)
         have af:=T (p+o.length) J (e.drop o.length) (i.drop o.length) W V (by rw[<-akd];exact tx v _) (by rw[<-akd];exact tx G _) X
         simp only[al9,H.1,ne_eq,not_false_eq_true,if_true,aiT,N,O,ad,aiG]
         cases K with
         |true=>grind
         |false=>simp
        .cases j
       .cases j
      .cases j
    exact S u.toList 0 s e i b h (by grind) (by grind) q
  .cases h
theorem Bi{Γ d:az}(f:Γ.Le d){b e:Nat}:∀ {new:List (List ab)} {a:Nat} {c:List Value},(∀r∈new,r.length=e)->aY Γ new.flatten c->(∀(j:Nat) (v:Value),c[j]?=some v->d.w.cell? ⟨b,a+j,none⟩=some v)->bE d b e a new
 |[],a,c,_,_,_=>by simp[bE]
 |r::u,a,c,g,hc,o=>by
  have p:r.length=e:=g r (by simp)
  simp only[aiI]at hc
  have h:=sQ hc r.length
  have i:=tx hc r.length
  simp only[ai8,ans]at h i
  refine⟨p,nS fun k l m=>?_,Bi f (fun x q=>g x (by simp[q])) i (fun j v z=>?_)⟩
  .have ⟨y,n,s⟩:=kX h m
   have t:=(abW.1 m).1
   rw[aj6 t]at n
   exact⟨y,o k y n,lI f _ _ s⟩
  grind
theorem Ef(rows:List (List ab))(a:Nat):dT rows a []=rows:=by simp[dT]
theorem Ee{o:Ob}(a:H[h]?=some o):H.set h o=H:=by apply aju;grind
def J8(m:aZ Γ H){f lo z b:Nat}{rows new:List (List ab)}{a:fm}(y:obj H h f=some (z,rows))(n:Γ.hs[h]?=some (a,f))(p:a.base=some b)(Z:lo+new.length<=rows.length)(A:∀r∈new,r.length=z){d:List Value}(hn:aY Γ new.flatten d):
  ∃Γ',(storeCells ⟨b,a.off+lo*a.sz,none⟩ d).run P Γ.w= .ok () Γ'.w/\Γ.cL Γ'/\aZ Γ' (H.set h (.live f z (dT rows lo new))):=by
 have⟨i2,B,L,C⟩:=m.obj y
 rw[n]at B
 cases B
 simp only[p]at C
 have⟨i,q,M,N,O,cells,T,k,Q,D⟩:=C
 have R:=m.X b q
 have E:d.length=new.length*z:=by rw[fI hn,tg A]
 have l:a.off+lo*a.sz+d.length<=cells.size:=by
  have S:(lo+new.length)*a.sz<=a.cap*a.sz:=aiN _ (by omega)
  rw[air]at S
  rw[E, <-i]
  omega
 have F:=vS (P:=P) (a.off+lo*a.sz) d 0 cells Γ.w k (by simpa using l) (uZ hn)
 simp only[aiB]at F
 have G:dE a.sz (Γ.w.setRow b (spliced cells.toList (a.off+lo*a.sz) d).toArray) b (spliced cells.toList (a.off+lo*a.sz) d).toArray T:=k.set (by simp only[ajt];rw[pV (by simpa using l)];simp)
 have s:∀c,c≠b->(Γ.w.setRow b (spliced cells.toList (a.off+lo*a.sz) d).toArray).heap[c]?=Γ.w.heap[c]?:=fun c t=>setRow_other Γ.w b c _ t
 have g:Γ.Le (Γ.bH (Γ.w.setRow b (spliced cells.toList (a.off+lo*a.sz) d).toArray) h a f b):=
  pQ n (.inr ⟨rfl,rfl⟩) (fun c z U=>s c (fun e=>M z (e▸U)))
 have V:(spliced cells.toList (a.off+lo*a.sz) d).length=cells.size:=by rw[pV (by simpa using l)];simp
 refine⟨Γ.bH (Γ.w.setRow b (spliced cells.toList (a.off+lo*a.sz) d).toArray) h a f b,F,⟨g,rfl,rfl,rfl,by simp[az.bH],fun c _ W=>s c (fun e=>W (e▸q)),fun _ _ h=> .inl h,fun c hc=>?_⟩,?_⟩
 .rcases hc with hc|hc
  .exact .inl hc
  .exact .inl (hc▸q)
 .have Y:(dT rows lo new).length=rows.length:=by simp[dT];omega
  refine am5 (Γ':=Γ.bH (Γ.w.setRow b (spliced cells.toList (a.off+lo*a.sz) d).toArray) h a f b) m (eP y) n g rfl rfl (fun c=>alc) (by simp[az.bH]) p (fun c _ t=>s c t) (.inl p) (by simpa[az.bH]using R) L (by rw[Y];exact N) O i _ T G (by simp[V];exact Q) ?_
  have u:∀j,(Γ.bH (Γ.w.setRow b (spliced cells.toList (a.off+lo*a.sz) d).toArray) h a f b).w.cell? ⟨b,j,none⟩=if a.off+lo*a.sz<=j/\j<a.off+lo*a.sz+d.length then d[j-(a.off+lo*a.sz)]? else cells[j]?:=by
   intro j
   rw[show(Γ.bH (Γ.w.setRow b (spliced cells.toList (a.off+lo*a.sz) d).toArray) h a f b).w=Γ.w.setRow b (spliced cells.toList (a.off+lo*a.sz) d).toArray from rfl,dE.cell G]
   have:=wS (cur:=cells.toList) (o:=a.off+lo*a.sz) (vs:=d) (by simpa using l) j
   simpa using this
  have x:(rows.take lo).length=lo:=by simp;omega
  unfold dT
  refine wm (wm ?_ ?_) ?_
  .refine rM g b a.sz _ _ (fun j I J=>?_) (kJ D lo)
   rw[x]at J
   rw[u,if_neg (by omega),dE.cell k]
  .rw[x]
   refine Bi g (by rw[i];exact A) hn (fun j v K=>?_)
   have aa:=(abW.1 K).1
   rw[u,if_pos (by omega),show a.off+lo*a.sz+j-(a.off+lo*a.sz)=j by omega]
   exact K
  .rw[agc,x]
   refine rM g b a.sz _ _ (fun j I J=>?_) (ml D (lo+new.length))
   rw[u,if_neg ?_,dE.cell k]
   rw[E, <-i]
   rw[air]at I
   omega
theorem Z5(m:aZ Γ H){e g bytes:TypeId}{z:List ab}{j lo d:Nat}{rows new:List (List ab)}{q:Value}(E:se P t=some (e,g,bytes,z))(s:aB Γ (.sl h j lo d) q)(F:aB Γ x yx)(G:view H x=some new)
  (u:∀r∈new,r.length=g) (v:obj H h j=some (g,rows)) (I:lo+d+new.length<=rows.length) (aa:0<new.length\/lo<rows.length):
  ∃y a,(aiL #[t,t] ty #[q,yx]).run P Γ.w= .ok y a.w/\Γ.cL a/\aZ a (H.set h (.live j g (dT rows (lo+d) new)))/\aL a (.c (.sl h j lo (d+new.length))) y:=by
 obtain⟨J,i,zv,K,L,rfl,hz,ad,ae⟩:=jz E
 have⟨M,N,A,O⟩:=ao2 u (Am m F G)
 have Q:Src Γ.w new.length M yx:=Src.of A O
 have⟨R,S⟩:=Bq (P:=P) Q A
 have T:=S Γ.w rfl
 simp only[aB]at s
 obtain⟨f,af,ag,cap,n,ah,rfl,o⟩:=s
 have⟨i2,B,ai,C⟩:=m.obj v
 rw[n]at B
 cases B
 have o:=o rfl
 rcases o with⟨k,rfl,rfl,rfl,rfl⟩|⟨b,p,k,rfl,rfl,aj,l⟩
 .grind
 .simp only[k]at C
  have⟨ak,hX,hF,al,am,cells,an,hh,ao,ap⟩:=C
  have U:d+new.length<=f.cap-lo:=by omega
  have V:∀a:az,Γ.cL a->aL a (.c (.sl h j lo (d+new.length))) (.slice (some p) (d+new.length) (f.cap-lo)):=by
   intro a W
   refine DB W.le _ _ ?_
   simp only[aL,aB]
   exact⟨f,_,some p,f.cap-lo,n,ad3 _,rfl,fun _=> .inr ⟨b,p,k,rfl,rfl,by omega,l⟩⟩
  have l:=l (by omega)
  subst l
  have⟨a,X,D,Y⟩:=J8 (P:=P) (lo:=lo+d) m v n k (new:=new) I u N
  refine⟨_,a,?_,D,Y,V a D⟩
  have Z:f.off+lo*f.sz+d*g=f.off+(lo+d)*f.sz:=by grind
  simp[aiL,run_underlying J,sizeOf,typeInfo,K,L,R,T,U,jG,Z,X]
def W9(c:aZ Γ H){d:TypeId}{s:ab}{e:Value}{v:aw}(f:aB Γ s e)(g:aB Γ x yx)(h:pj P H t d s x=some (v,H')):
  ∃y b,(aiL #[t,d] ty #[e,yx]).run P Γ.w= .ok y b.w/\Γ.cL b/\aZ b H'/\aL b v y:=by
 unfold pj at h
 split at h
 .rename_i r a
  simp only[ab1]at h
  subst h
  unfold Hm at a
  split at a
  .rename_i o bytes z new p q u A i j
   split at a
   .rename_i z rows k
    split at a
    .rename_i hc
     obtain⟨rfl,l,m,rfl,n⟩:=hc
     simp only[ab1,aca]at a
     obtain⟨rfl,rfl⟩:=a
     exact Z5 c i f g j l k m (n.imp id fun h=>h.2.2)
    .cases a
   .cases a
  .cases a
 .exact abG c f g h
theorem abd(j:aZ Γ H){t':TypeId}{v:aw}(C:aB Γ d yd)(I:aB Γ x yx)(h:copyV P H t d x=some (v,H')):
  ∃z g,(akH #[t,t'] ty #[yd,yx]).run P Γ.w= .ok z g.w/\Γ.cL g/\aZ g H'/\aL g v z:=by
 unfold copyV at h
 split at h
 case h_2=>cases h
 rename_i el Z bytes zl a aa ab lo c J K
 split at h
 case h_2=>cases h
 rename_i z rows m
 split at h
 case isFalse=>cases h
 rename_i hc
 obtain⟨ad,rfl,D⟩:=hc
 simp only[ab1,aca]at h
 obtain⟨rfl,rfl⟩:=h
 have⟨n,i,zv,o,p,_,hz,ae,_⟩:=jz J
 simp only[aB]at C
 obtain⟨af,ag,ah,cap,E,_,rfl,q⟩:=C
 have⟨i2,F,ai,g2⟩:=j.obj m
 rw[E]at F
 cases F
 have q:=q rfl
 have L:=Am j I K
 have M:∃e,aY Γ (a.take c).flatten e/\e.length=min a.length c*z/\(akf yx).run P Γ.w= .ok a.length Γ.w/\(ai4 z (min a.length c) yx).run P Γ.w= .ok e.toArray Γ.w:=by
  have N:∀r∈a.take c,r.length=z:=fun r s=>D r (ajA s)
  have u:(a.take c).length=min a.length c:=by simp[al6]
  rcases L with⟨rfl,rfl⟩|⟨a2,O,rfl,aj,Q⟩
  .exact ⟨[],by simp[aY],by simp,by simp[akf],by simp[ai4]⟩
  .rcases Q with rfl|⟨b,ak,sz,rfl,R⟩
   .refine ⟨[],by simp[aY],by simp,by simp[akf],?_⟩
    grind [(run_firstCells_some)]
   .have ⟨e,k,S,l⟩:=tH (kJ R c)
    have f:e.length=min a.length c*z:=by rw[fI k,tg N,u]
    exact⟨e,k,f,by simp[akf],run_firstCells_some (P:=P) (w:=Γ.w) z _ _ _ O e f (fun al v hj=>by grind [(jG)])⟩
 have⟨e,k,S,l,f⟩:=M
 have u:(a.take c).length=min a.length c:=by simp[al6]
 have T:∀r∈a.take c,r.length=z:=fun r s=>D r (ajA s)
 rcases q with⟨G,rfl,rfl,rfl,rfl⟩|⟨b,a',G,rfl,rfl,am,y⟩
 .refine ⟨.int .i64 ((min a.length 0:Nat):Int),Γ,?_,.refl Γ,?_,?_⟩
  .simp only[Nat.min_zero]at f
   simp[akH,run_underlying n,l,sizeOf,typeInfo,o,p,f,goInt]
  .rw[List.take_zero,Ef,Ee (eP m)]
   exact j
  .simp[aL,aB,aiw]
 .by_cases A:min a.length c=0
  .have U:e=[]:=ae4 (by grind)
   have an:a.take c=[]:=ae4 (by rw[u,A])
   subst U
   refine⟨.int .i64 ((min a.length c:Nat):Int),Γ,?_,.refl Γ,?_,?_⟩
   .have B:Nat.min a.length c=0:=A
    rw[A]at f|-
    simp[akH,run_underlying n,l,sizeOf,typeInfo,o,p,B,f,storeCells,goInt]
   .grind [(Ef),(Ee),(eP)]
   .simp[aL,aB,aiw]
  .have y:=y (by omega)
   subst y
   have⟨g,V,W,X⟩:=J8 (P:=P) (lo:=lo) j m E G (new:=a.take c) (by omega) T k
   refine⟨.int .i64 ((min a.length c:Nat):Int),g,?_,W,X,?_⟩
   .have B:(ai4 z (Nat.min a.length c) yx).run P Γ.w= .ok e.toArray Γ.w:=f
    have Y:Nat.min a.length c=min a.length c:=rfl
    simp[akH,run_underlying n,l,sizeOf,typeInfo,o,p,B,V,goInt,Y]
   .simp[aL,aB,aiw]
theorem XK(j:aZ Γ H){v:aw}(l:aB Γ d yd)(h:rv P H t d=some (v,H')):
  ∃z c,(alo #[t] ty #[yd]).run P Γ.w= .ok z c.w/\Γ.cL c/\aZ c H'/\aL c v z:=by
 unfold rv at h
 split at h
 case h_2=>cases h
 rename_i el K bytes n L M N e x
 split at h
 case h_2=>cases h
 rename_i z rows o
 split at h
 case isFalse=>cases h
 rename_i hc
 obtain⟨y,rfl,O⟩:=hc
 simp only[ab1,aca]at h
 obtain⟨rfl,rfl⟩:=h
 have⟨p,i,A,B,Q,_,C,R,D⟩:=jz x
 simp only[aB]at l
 obtain⟨S,T,a,cap,q,_,rfl,f⟩:=l
 have⟨U,r,V,W⟩:=j.obj o
 rw[q]at r
 cases r
 have f:=f rfl
 have s:∀c,aL c unit (.tuple #[]):=fun c=>by grind [aL,bT]
 by_cases E:e=0
 .subst E
  refine⟨_,Γ,?_,.refl Γ,?_,s Γ⟩
  .cases a<;>simp[alo,run_underlying p]
  grind [(Ef),(Ee),(eP)]
 .rcases f with⟨u,rfl,rfl,rfl,X⟩|⟨b,Y,u,rfl,rfl,Z,g⟩
  .omega
  .have g:=g (by omega)
   subst g
   obtain⟨m,rfl⟩:∃m,e=m+1:=⟨e-1,by omega⟩
   have F:aY Γ (ahv (m+1) n).flatten (aiy A.cells (m+1)).toList:=by
    rw[Hz]
    have hl:=oJ (Γ:=Γ) D
    generalize m+1=k
    induction k with
    |zero=>simp[aY]
    |succ k ih=>
     grind [(su)]
   obtain⟨c,G,I,J⟩:=J8 (P:=P) j o q u (new:=ahv (m+1) n) (by simpa using y) (fun aa hr=>by grind) F
   exact⟨.tuple #[],c,by simp[alo,run_underlying p,zeroValue,typeInfo,B,C,G],I,J,s c⟩
end Go.Nx
namespace Go.Nx
variable{P:Program}{g b:Bool}{t e:TypeId}{Γ:az}{H:List Ob}{y:Value}{rows:List (List ab)}{w:World}{l:ab}{op:BinOp}{size:Nat}
theorem L7{s f b n:Nat}(h:fo P s f=some (b,n,g)):
  ∃c a,P.underlying s=some (.struct c)/\c[f]?=some a/\a.offset=b/\tk P a.type=some (g,n):=by
 grind [fo,(ab4)]
theorem Al{t n s:Nat}(h:ar P t=some (n,s,g)):∃e,P.underlying t=some (.array n e)/\tk P e=some (g,s):=by grind [ar,(ab4)]
theorem wI(d:aZ Γ H){h c i k:Nat}(hc:aB Γ (.ptr h c i k) y){z:Nat}(e:obj H h c=some (z,rows)):
  ∃a b,Γ.hs[h]?=some (a,c)/\a.base=some b/\y= .pointer (some ⟨b,a.off+i*a.sz+k,none⟩):=by
 have⟨a,f,_,_⟩:=d.obj e
 grind [aB]
theorem Il{h c i k b:Nat}{a:fm}{p:Option Addr}(d:Γ.hs[h]?=some (a,c))(e:a.base=some b)(hp:p=some ⟨b,a.off+i*a.sz+k,none⟩):aB Γ (.ptr h c i k) (.pointer p):=by grind [aB]
def Q0{s f a n b o:Nat}(h:fo P s f=some (a,n,g))(hn:n≠0):
  (ak3 s (.pointer (some ⟨b,o,none⟩)) f).run P w= .ok (.pointer (some ⟨b,o+a,none⟩)) w:=by
 obtain⟨j,k,c,d,rfl,e⟩:=L7 h
 have i:=(pt e w).2
 simp[ak3,ali,run_underlying c,d,fieldPlace,i,hn,jG]
theorem Pl(e:aZ Γ H){s f d n:Nat}(h:fo P s f=some (d,n,g))(hn:n≠0)(hc:aB Γ l y):
  (∀a c i k z rows,l= .ptr a c i k->obj H a c=some (z,rows)->∃v,(ak3 s y f).run P Γ.w= .ok v Γ.w/\aB Γ (.ptr a c i (k+d)) v)/\
  (∀rows i k,l= .aJ rows i k->∃v,(ak3 s y f).run P Γ.w= .ok v Γ.w/\aB Γ (.aJ rows i (k+d)) v):=by
 constructor
 .rintro a c i k z rows rfl j
  obtain⟨q,b,m,p,rfl⟩:=wI e hc j
  exact⟨_,Q0 h hn,Il m p (by rw[ajg])⟩
 .rintro rows i k rfl
  simp only[aB]at hc
  obtain⟨b,o,r,rfl,t,u⟩:=hc
  refine⟨_,Q0 h hn,?_⟩
  grind [aB]
def aeQ{k:IntKind}{m n:Int}(h:Dt op k m n=some l)(t:TypeId):
  ∃y,(binOp op t (.int k m) (.int k n)).run P Γ.w= .ok y Γ.w/\aB Γ l y:=by
 unfold Dt at h
 cases op<;>simp only[reduceCtorEq]at h
 all_goals first
  |(simp only[ab1]at h;subst h;exact⟨_,by simp[binOp,Op.intArith,Op.intCmp];rfl,by simp[aB,aiw]⟩)
  |(simp only[ab1]at h;subst h;exact⟨_,by simp[binOp,amc];rfl,by simp[aB,aiw]⟩)
  |(split at h
    .cases h
    .rename_i hn
     simp only[ab1]at h
     subst h
     exact⟨_,by simp[binOp,Op.shift,hn];rfl,by simp[aB,aiw]⟩)
  |(split at h
    .cases h
    .rename_i hn
     simp only[ab1]at h
     subst h
     exact⟨_,by simp[binOp,Op.intDiv,hn];rfl,by simp[aB,aiw]⟩)
def Pn(t:TypeId)(m n:Bool)(op:BinOp)(a:op= .eql\/op= .neq)(b:P.underlying t=some .bool):
  (binOp op t (.bool m) (.bool n)).run P w= .ok (.bool (if op= .eql then m==n else !(m==n))) w:=by
 have:=run_equalIn_bool' (P:=P) w 9999 t m n b
 rcases a with rfl|rfl<;>simp[binOp,Op.equal,Op.maxDepth,this]
def PV(b:P.underlying t=some (.slice e))(a:Option Addr)(n c:Nat)(op:BinOp)(f:op= .eql\/op= .neq):
  (binOp op t (.slice a n c) (.slice none 0 0)).run P w= .ok (.bool (if op= .eql then a.isNone else !a.isNone)) w:=by
 have h:∀d,(alu (d+1) t (.slice a n c) (.slice none 0 0)).run P w= .ok a.isNone w:=by
  intro d
  cases a<;>simp[alu,run_underlying b]
 have h:=h 9999
 rcases f with rfl|rfl<;>simp[binOp,Op.equal,Op.maxDepth,h]
theorem R8(d:aZ Γ H)(h:ang H l=some b)(hc:aB Γ l y):∃a n c,y= .slice a n c/\a.isNone=b:=by
 unfold ang at h;split at h
 .grind [aB]
 .grind [aB]
 .grind [aB]
 .rename_i g i j k;split at h
  .rename_i e f;have⟨z,rows⟩:=e;split at h
   .rename_i m;simp only[ab1]at h;subst h;have⟨o,p,_,_⟩:=d.obj f;grind [aB]
   .cases h
  .cases h
 .cases h
theorem ab6{b:ab}(h:pG b=true):b= .v (.slice none 0 0):=by grind [pG]
def Lt(op:BinOp)(t:TypeId)(x y:Operand)(a b:Option Addr)(n m c d:Nat):(eqGuard op t x y (.slice a n c) (.slice b m d)).run P w= .ok () w:=by cases op<;>simp[eqGuard]
def agY(op:BinOp)(t:TypeId)(x y:Operand)(k a:IntKind)(m n:Int):(eqGuard op t x y (.int k m) (.int a n)).run P w= .ok () w:=by cases op<;>simp[eqGuard]
def KQ(op:BinOp)(t:TypeId)(x y:Operand)(m n:Bool):(eqGuard op t x y (.bool m) (.bool n)).run P w= .ok () w:=by cases op<;>simp[eqGuard]
theorem KR{s:List Sh}(d:eqs P t=some s){e f:List ab}{a c:Array Value}(i:aY Γ e a.toList)(j:aY Γ f c.toList)(k:eL s e f=some b)(x y:Operand)(op:BinOp)(l:op= .eql\/op= .neq):
  (eqGuard op t x y (.agg a) (.agg c)).run P Γ.w= .ok () Γ.w/\(binOp op t (.agg a) (.agg c)).run P Γ.w= .ok (.bool (if op= .eql then b else !b)) Γ.w:=by
 unfold eqs at d
 split at d
 case h_2=>cases d
 rename_i o g
 split at d
 .cases d
 .rename_i p
  refine⟨run_eqGuard_agg (P:=P) Γ.w op t x y a c (by grind),?_⟩
  have h:=Hf (P:=P) (w:=Γ.w) 8 t s d e f a.toList c.toList b i j k 10000 (by omega)
  have m:lu P t a.toList= .agg a:=by simp[lu,g]
  have n:lu P t c.toList= .agg c:=by simp[lu,g]
  rw[m,n]at h
  rcases l with rfl|rfl
  .rw[run_eql_struct,h];simp
  .rw[run_neq_struct,h];simp
theorem Yp(o:aZ Γ H){u v:aw}(h:oA P H op t u v=some l)(x y:Operand){a b:Value}(f:aL Γ u a)(g:aL Γ v b):
  (eqGuard op t x y a b).run P Γ.w= .ok () Γ.w/\∃z,(binOp op t a b).run P Γ.w= .ok z Γ.w/\aB Γ l z:=by
 unfold oA at h
 split at h
 .rename_i k m B n
  split at h
  .rename_i p
   subst p
   simp only[aL,aB]at f g
   obtain⟨rfl,_⟩:=f
   obtain⟨rfl,_⟩:=g
   exact⟨agY op t x y k k m n,aeQ h t⟩
  .cases h
 .rename_i m n
  simp only[aL,aB]at f g
  obtain⟨rfl,_⟩:=f
  obtain⟨rfl,_⟩:=g
  split at h
  case h_2=>cases h
  rename_i i
  split at h
  .simp only[ab1]at h
   subst h
   exact⟨KQ _ t x y m n,_,Pn t m n .eql (.inl rfl) i,by simp[aB,aiw]⟩
  .simp only[ab1]at h
   subst h
   exact⟨KQ _ t x y m n,_,Pn t m n .neq (.inr rfl) i,by simp[aB,aiw]⟩
  .cases h
 .rename_i C D
  split at h
  case h_2=>cases h
  rename_i s q
  simp only[aL]at f g
  obtain⟨E,rfl,r⟩:=f
  obtain⟨F,rfl,A⟩:=g
  split at h
  .simp only[ab4]at h
   obtain⟨e,j,rfl⟩:=h
   have:=KR q r A j x y .eql (.inl rfl)
   grind [aB,aiw]
  .grind [(ab4),(KR),aB,aiw]
  .cases h
 .rename_i c d _ _
  split at h
  case isFalse=>cases h
  rename_i hn
  have:=ab6 hn
  subst this
  simp only[aL]at f g
  simp only[aB]at g
  obtain⟨rfl,_⟩:=g
  split at h
  case h_2=>cases h
  rename_i e i
  split at h
  .simp only[ab4]at h
   obtain⟨e,j,rfl⟩:=h
   obtain⟨a,n,c,rfl,rfl⟩:=R8 o j f
   exact⟨Lt _ t x y _ _ _ _ _ _,_,PV i a n c .eql (.inl rfl),by simp[aB,aiw]⟩
  .simp only[ab4]at h
   obtain⟨e,j,rfl⟩:=h
   obtain⟨a,n,c,rfl,rfl⟩:=R8 o j f
   exact⟨Lt _ t x y _ _ _ _ _ _,_,PV i a n c .neq (.inr rfl),by simp[aB,aiw]⟩
  .cases h
 .cases h
def amR(k:IntKind)(i:Int)(y:Nat)(a:BoundsCode)(b:0<=i)(c:i<=y):(ama (.int k i) y a).run P w= .ok i.toNat w:=by simp[ama,asIntOf,b,c]
def wN(c:P.underlying t=some (.slice e))(d:(sizeOf e).run P w= .ok size w)(a:Option Addr)(n cap:Nat)(f g:Option Value)(l h:Int)
  (m:(f=none/\l=0)\/∃k,f=some (.int k l)) (o:(g=none/\h=n)\/∃k,g=some (.int k h)) (i:0<=l) (q:l<=h) (r:h<=n) (s:n<=cap):
  (ajy t (.slice a n cap) f g none).run P w= .ok (.slice (if cap=l.toNat then a else a.map (·.add (l.toNat*size))) (h.toNat-l.toNat) (cap-l.toNat)) w:=by
 have u:((h.toNat:Nat):Int)=h:=by omega
 rcases m with⟨rfl,rfl⟩|⟨k,rfl⟩<;>rcases o with⟨rfl,rfl⟩|⟨j,rfl⟩
 .simp[ajy,run_underlying c,akO,ajX,d]
 .have b:=amR (P:=P) (w:=w) j h cap .sliceAcap (by omega) (by omega)
  simp[ajy,run_underlying c,akO,ajX,d,b]
 .have b:=amR (P:=P) (w:=w) k l n .sliceB i (by omega)
  simp[ajy,run_underlying c,akO,ajX,d,b]
 .have p:=amR (P:=P) (w:=w) j h cap .sliceAcap (by omega) (by omega)
  have b:=amR (P:=P) (w:=w) k l h.toNat .sliceB i (by omega)
  simp[ajy,run_underlying c,akO,ajX,d,b,p]
theorem Yu{a:Addr}{cap d:Nat}(p:rows.length<=cap)(g:rows=[]\/(a.spot=none/\Γ.F a.block d/\bE Γ a.block d a.off rows))(j:∀r∈rows,r.length=size)
  (l h:Nat) (q:l<=h) (k:h<=rows.length):
  ∃c e f,Value.slice (if cap=l then some a else some (a.add (l*size))) (h-l) (cap-l)= .slice (some c) ((rows.take h).drop l).length e/\((rows.take h).drop l).length<=e/\
   ((rows.take h).drop l=[]\/(c.spot=none/\Γ.F c.block f/\bE Γ c.block f c.off ((rows.take h).drop l))):=by
 have t:((rows.take h).drop l).length=h-l:=by grind
 refine⟨if cap=l then a else a.add (l*size),cap-l,d,?_,by omega,?_⟩
 .grind
 .by_cases u:h=l
  .grind
  .right
   rcases g with rfl|⟨v,w,m⟩
   .grind
   .have n:size=d:=by
     cases rows with
     |nil=>simp at k;omega
     |cons r x=>rw[<-j r (by simp),(jL m (i:=0) (r:=r) (by simp)).1]
    subst n
    rw[if_neg (by omega)]
    have⟨b,o,s⟩:=a
    grind [(jG),(ml),(kJ)]
theorem Yb(Q:aZ Γ H){x r:ab}{m o:Option Int}(c:qF P H t x m o=some r)(hc:aB Γ x y)(d f:Option Value)
  (R:(d=none/\m=none)\/∃k n,d=some (.int k n)/\m=some n) (S:(f=none/\o=none)\/∃k n,f=some (.int k n)/\o=some n):
  ∃z,(ajy t y d f none).run P Γ.w= .ok z Γ.w/\aB Γ r z:=by
 unfold qF at c
 split at c
 case h_2=>cases c
 rename_i e size T n U hn
 have⟨bytes,zz⟩:=T
 obtain⟨p,i,zv,V,rfl,_,_,_,_⟩:=jz U
 have q:(sizeOf e).run P Γ.w= .ok i.size Γ.w:=by simp[sizeOf,typeInfo,V]
 split at c
 case isFalse=>cases c
 rename_i W
 have⟨D,E,G⟩:=W
 have s:(d=none/\m.getD 0=0)\/∃k,d=some (.int k (m.getD 0)):=by grind
 have u:(f=none/\o.getD n=n)\/∃k,f=some (.int k (o.getD n)):=by grind
 generalize m.getD 0=l at*
 generalize o.getD (n:Int)=h at*
 clear R S
 have frozen:∀rows:List (List ab),n=rows.length->(∀r∈rows,r.length=i.size)->(∃a cap B,y= .slice (some a) rows.length cap/\rows.length<=cap/\(rows=[]\/(a.spot=none/\Γ.F a.block B/\bE Γ a.block B a.off rows)))->
   ∃z,(ajy t y d f none).run P Γ.w= .ok z Γ.w/\∃g I J,z= .slice (some g) ((rows.take h.toNat).drop l.toNat).length I/\((rows.take h.toNat).drop l.toNat).length<=I/\
    ((rows.take h.toNat).drop l.toNat=[]\/(g.spot=none/\Γ.F g.block J/\bE Γ g.block J g.off ((rows.take h.toNat).drop l.toNat))):=by
  rintro rows rfl C⟨a,cap,B,rfl,K,X⟩
  have j:=wN (P:=P) (w:=Γ.w) p q (some a) rows.length cap d f l h s u D E G K
  simp only[ajO]at j
  exact⟨_,j,Yu K X C l.toNat h.toNat (by omega) (by omega)⟩
 split at c
 .rename_i rows
  split at c
  case isFalse=>cases c
  rename_i C
  cases c
  simp only[qd,ab1]at hn
  simp only[aB]at hc
  rcases hc with⟨rfl,rfl⟩|hc
  .simp at hn
   subst hn
   have v:l=0:=by omega
   have A:h=0:=by omega
   subst v A
   have j:=wN (P:=P) (w:=Γ.w) p q none 0 0 d f 0 0 s (by simpa using u) (by omega) (by omega) (by omega) (by omega)
   exact⟨_,j,by simp[aB]⟩
  grind [aB]
 .rename_i rows
  split at c
  case isFalse=>cases c
  rename_i C
  cases c
  simp only[qd,ab1]at hn
  grind [aB]
 .rename_i hd aa Y Z
  split at c
  case h_2=>cases c
  rename_i z rows ho
  split at c
  case isFalse=>cases c
  rename_i hz
  cases c
  simp only[qd,ab1]at hn
  subst hn
  have⟨L,h1,hm,M⟩:=Q.obj ho
  simp only[aB]at hc
  obtain⟨ad,ae,a,cap,N,_,rfl,g3⟩:=hc
  rw[h1]at N
  cases N
  rcases g3 rfl with⟨O,rfl,rfl,rfl,rfl⟩|⟨b,g,O,rfl,rfl,af,ha⟩
  .have v:l=0:=by omega
   have A:h=0:=by omega
   subst v A
   have j:=wN (P:=P) (w:=Γ.w) p q none 0 0 d f 0 0 s (by simpa using u) (by omega) (by omega) (by omega) (by omega)
   grind [aB]
  .simp only[O]at M
   have ag:L.sz=i.size:=by rw[M.1,hz]
   have j:=wN (P:=P) (w:=Γ.w) p q (some g) Z (L.cap-Y) d f l h s u D E G (by omega)
   grind [aB,Addr.add,(air)]
 .cases c
  simp only[qd,ab1]at hn
  subst hn
  simp only[aB]at hc
  obtain⟨rfl,_⟩:=hc
  have v:l=0:=by omega
  have A:h=0:=by omega
  subst v A
  have j:=wN (P:=P) (w:=Γ.w) p q none 0 0 d f 0 0 s (by simpa using u) (by omega) (by omega) (by omega) (by omega)
  grind [aB]
 .cases c
def RE(a:P.underlying t=some (.slice e))(c:(sizeOf e).run P w= .ok size w)(b o n cap:Nat)(k:IntKind)(i:Int)(d:0<=i)(f:i<n):
  (akI t (.slice (some ⟨b,o,none⟩) n cap) (.int k i)).run P w= .ok (.pointer (some ⟨b,o+i.toNat*size,none⟩)) w:=by
 simp[akI,asIntOf,run_underlying a,d,f,c,jG]
def Hu{n:TypeId}(a:P.underlying t=some (.array n e))(c:(sizeOf e).run P w= .ok size w)(b o:Nat)(k:IntKind)(i:Int)(d:0<=i)(f:i<n):
  (akI t (.pointer (some ⟨b,o,none⟩)) (.int k i)).run P w= .ok (.pointer (some ⟨b,o+i.toNat*size,none⟩)) w:=by
 simp[akI,ali,asIntOf,run_underlying a,d,f,c,jG]
theorem aae(E:aZ Γ H){x r:ab}{i:Int}(d:sO P H t x i=some r)(hc:aB Γ x y)(k:IntKind):
  ∃z,(akI t y (.int k i)).run P Γ.w= .ok z Γ.w/\aB Γ r z:=by
 unfold sO at d
 split at d
 .rename_i I J lo K
  split at d
  case h_2=>cases d
  rename_i e size q z rows u A
  have⟨bytes,L⟩:=q
  split at d
  case isFalse=>cases d
  rename_i f
  obtain⟨M,N,rfl,b4⟩:=f
  cases d
  obtain⟨h,B,O,C,rfl,_,_,_,_⟩:=jz u
  have D:(sizeOf e).run P Γ.w= .ok B.size Γ.w:=by simp[sizeOf,typeInfo,C]
  have⟨Q,n,hm,R⟩:=E.obj A
  simp only[aB]at hc
  obtain⟨aa,ad,a,cap,j,_,rfl,l⟩:=hc
  rw[n]at j
  cases j
  rcases l rfl with⟨m,rfl,rfl,rfl,rfl⟩|⟨b,a',m,rfl,rfl,ae,S⟩
  .omega
  .simp only[m]at R
   rw[S (by omega)]
   refine⟨_,RE h D b _ K _ k i M N,Il n m ?_⟩
   grind
 .rename_i I J ri k'
  split at d
  case h_2=>cases d
  rename_i af size g T U A
  have⟨z,rows⟩:=T
  split at d
  case isFalse=>cases d
  rename_i f
  cases d
  have⟨e,h,V⟩:=Al U
  obtain⟨Q,b,n,m,rfl⟩:=wI E hc A
  exact⟨_,Hu h (pt V Γ.w).2 b _ k i f.1 f.2,Il n m (by rw[ajg])⟩
 .rename_i ag ah
  split at d
  case h_2=>cases d
  rename_i e size q rows u W
  have⟨bytes,L⟩:=q
  split at d
  case isFalse=>cases d
  rename_i f
  split at d
  case h_2=>cases d
  rename_i row X
  split at d
  case isFalse=>cases d
  rename_i Y
  cases d
  obtain⟨h,B,O,C,rfl,_,_,_,_⟩:=jz u
  have D:(sizeOf e).run P Γ.w= .ok B.size Γ.w:=by simp[sizeOf,typeInfo,C]
  have Z:∃a cap p,y= .slice (some a) rows.length cap/\(rows=[]\/(a.spot=none/\Γ.F a.block p/\bE Γ a.block p a.off rows)):=by
   cases x with
   |aj rs=>
    grind [view,aB]
   |eU rs=>
    grind [view,aB]
   |v w=>
    grind [view]
   |sl a b c ai=>grind
   |_=>simp[view]at W
  obtain⟨a,cap,p,rfl,h3⟩:=Z
  rcases h3 with rfl|⟨j,G,l⟩
  .grind
  .have ⟨b,o,s⟩:=a
   simp only at j G l
   subst j
   refine⟨_,RE h D b o rows.length cap k i f.1 f.2,?_⟩
   simp only[aB]
   refine⟨b,o,p,?_,G,l⟩
   rw[<-Y,(jL l X).1]
   simp
end Go.Nx
namespace Go.Nx
variable{Γ:az}{cs z:List ab}{vs:Array (Nat×Value)}{P:Program}{t e:TypeId}{parts:List (Nat×Option aw)}{size:Nat}{H:List Ob}
theorem RF{cells:List ab}{a vs:List Value}(h:aY Γ cells a)(b:aY Γ cs vs)(k:Nat)(c:k+cs.length<=cells.length):aY Γ (kK cells k cs) (kK a k vs):=by grind [(fI),(tW),(yF),(vC),(kX)]
def Mq(a:Nat):∀(l:List Value) (k:Nat) (cs:Array Value),((l.zipIdx k).foldl (fun(cs:Array Value) (p:Value×Nat)=>cs.setIfInBounds (a+p.2) p.1) cs).toList=kK cs.toList (a+k) l
 |[],k,cs=>rfl
 |x::l,k,cs=>by
  simp only[List.zipIdx_cons,ai2]
  rw[Mq a l (k+1)]
  simp[kK,amE,ajg]
def LS(a:Nat)(v cs:Array Value):(v.zipIdx.foldl (fun cs (p:Value×Nat)=>cs.setIfInBounds (a+p.2) p.1) cs).toList=kK cs.toList a v.toList:=by rw[<-Array.foldl_toList,Array.toList_zipIdx];simpa using Mq a v.toList 0 cs
def mJ(Γ:az):List (Nat×Option aw)->List (Nat×Value)->Prop
 |[],b=>b=[]
 |(i,x)::r,b=>∃v c,b=(i,v)::c/\(∀a,x=some a->aL Γ a v)/\mJ Γ r c
theorem Bj{Γ:az}(d:Nat->Option (Nat×Nat))(e:List (Nat×Nat))(hp:∀(i:Nat) (p:Nat×Nat),e[i]?=some p->d i=some p):
  ∀(parts:List (Nat×Option aw)) (vs:List (Nat×Value)) (cells cs:List ab) (b:Array Value),mJ Γ parts vs->aY Γ cells b.toList->vH e cells parts=some cs->
   ∃out,ak7 d b vs=some out/\aY Γ cs out.toList
 |[],vs,cells,cs,b,c,hc,a=>by
  simp only[mJ]at c
  subst c
  simp only[vH,ab1]at a
  subst a
  exact⟨b,rfl,hc⟩
 |(i,x)::r,vs,cells,cs,b,c,hc,a=>by
  simp only[mJ]at c
  obtain⟨v,h,rfl,j,k⟩:=c
  simp only[vH]at a
  split at a
  case h_2=>cases a
  rename_i f size l s
  split at a
  case h_2=>cases a
  rename_i m n
  split at a
  case isFalse=>cases a
  rename_i t
  have g:=wM (j l rfl) n
  have o:=fI g
  have q:=fI hc
  simp only[aje]at o q
  have⟨out,u,w⟩:=Bj d e hp r h (kK cells f m) cs (v.cells.zipIdx.foldl (fun cs (p:Value×Nat)=>cs.setIfInBounds (f+p.2) p.1) b) k (by rw[LS];exact RF hc g f (by omega)) a
  grind [ak7]
theorem xu(h:zc P t=some z):∃i a,P.info? t=some i/\i.zero=some a/\a.cells.size=i.size/\leaves a=some z:=by grind [zc]
theorem ZK{g:List (Nat×Nat)}(h:cm P t=some (z,g))(j:mJ Γ parts vs.toList)(l:vH g z parts=some cs):
  ∃out,(Instr.build t vs).run P Γ.w= .ok (.agg out) Γ.w/\aY Γ cs out.toList:=by
 unfold cm at h
 split at h
 .rename_i A r
  split at h
  case h_2=>cases h
  rename_i b o c B
  simp only[ab1,aca]at h
  obtain⟨rfl,rfl⟩:=h
  have⟨i,d,s,u,v,f⟩:=xu c
  have⟨out,x,y⟩:=Bj (Γ:=Γ) (o.toArray[·]?) o (fun i p hp=>by simpa using hp) parts vs.toList b cs d.cells j (oJ f) l
  grind [(run_build),amn]
 .rename_i n e r
  split at h
  case h_2=>cases h
  rename_i b q c C
  simp only[ab1,aca]at h
  obtain⟨rfl,rfl⟩:=h
  have⟨i,d,s,u,v,f⟩:=xu c
  have⟨out,x,y⟩:=Bj (Γ:=Γ) (fun k=>some (k*q.size,q.size)) _ (fun k p hp=>by
   simp only[adf,ab4]at hp
   obtain⟨m,a,rfl⟩:=hp
   have⟨D,a⟩:=abW.1 a
   simp at a
   rw[a]) parts vs.toList b cs d.cells j (oJ f) l
  grind [(run_build),amn]
 .cases h
theorem Mr{a:Type}(l:List a)(b:0<l.length):∀(n j:Nat),(ahv n l).flatten[j]?=if j<n*l.length then l[j % l.length]? else none
 |0,j=>by simp
 |n+1,j=>by
  rw[ajP,aiI]
  by_cases h:j<l.length
  .grind [(amh)]
  .rw[aea (by omega),Mr l b n]
   grind [(Nat.mod_eq_sub_mod)]
theorem LX(z:Array Value)(n size:Nat)(a:z.size=size)(b:0<size):(madeCells z (n*size)).toList=(ahv n z.toList).flatten:=by apply aju;grind [(Mr),madeCells,(akE)]
theorem PN{c:Type}{size:Nat}:∀(rows:List (List c)) (i:Nat) (cs:List c),(∀r∈rows,r.length=size)->cs.length=size->i<rows.length->(rows.set i cs).flatten=kK rows.flatten (i*size) cs
 |[],i,cs,_,_,b=>by simp at b
 |r::a,i,cs,d,f,b=>by
  have g:=d r (by simp)
  have k:∀(a:List (List c)),(∀r∈a,r.length=size)->a.flatten.length=a.length*size:=by
   intro a h
   induction a with
   |nil=>simp
   |cons x n l=>grind
  have m:=k a (fun x e=>d x (by simp[e]))
  apply aju
  intro j
  rw[vC _ _ _ _ (by
   simp only[aiI,agc,g,m,f]
   have:(i+1)*size<=(a.length+1)*size:=aiN _ (by simp at b;omega)
   grind)]
  cases i with
  |zero=>
   grind
  |succ i=>
   simp only[alV,aiI]
   have l:=PN a i cs (fun x e=>d x (by simp[e])) f (by simpa using b)
   grind [(air),(vC),(aiN)]
theorem Sy{Γ:az}{size:Nat}:∀(parts:List (Nat×Option aw)) (vs:List (Nat×Value)) (rows out:List (List ab)) (b:Array Value),mJ Γ parts vs->(∀r∈rows,r.length=size)->aY Γ rows.flatten b.toList->tR size rows parts=some out->
   ∃cells,ak7 (fun i=>some (i*size,size)) b vs=some cells/\aY Γ out.flatten cells.toList/\(∀r∈out,r.length=size)/\out.length=rows.length
 |[],vs,rows,out,b,d,c,hc,a=>by
  simp only[mJ]at d
  subst d
  simp only[tR,ab1]at a
  subst a
  exact⟨b,rfl,hc,c,rfl⟩
 |(i,x)::r,vs,rows,out,b,d,c,hc,a=>by
  simp only[mJ]at d
  obtain⟨v,k,rfl,l,m⟩:=d
  simp only[tR]at a
  split at a
  case h_2=>cases a
  rename_i n
  split at a
  case h_2=>cases a
  rename_i f o
  split at a
  case isFalse=>cases a
  rename_i e
  have g:=wM (l n rfl) o
  have q:=fI g
  have j:=fI hc
  rw[tg c]at j
  simp only[aje]at q j
  have s:(i+1)*size<=rows.length*size:=aiN _ (by omega)
  rw[air]at s
  have t:=PN rows i f c e.1 e.2
  have⟨cells,w,z,A,B⟩:=Sy r k (rows.set i f) out (v.cells.zipIdx.foldl (fun cs (p:Value×Nat)=>cs.setIfInBounds (i*size+p.2) p.1) b) m
   (fun y u=>by
    rcases ak4 u with h|h
    .exact c y h
    .rw[h];exact e.1)
   (by rw[LS,t];exact RF hc g _ (by rw[tg c,e.1];omega)) a
  grind [ak7]
def Kg{Γ:az}{z:List ab}{a:List Value}(h:aY Γ z a):∀n,aY Γ (ahv n z).flatten (ahv n a).flatten
 |0=>by simp[aY]
 |n+1=>by simpa[ajP]using su h (Kg h n)
theorem Ml{n bytes:Nat}(h:se P t=some (e,size,bytes,z))(o:0<size)(hn:n*size<=16777216)(p:z.length=size)(H:n<=maxLen)(q:mJ Γ parts vs.toList){out:List (List ab)}(s:tR size (ahv n z) parts=some out):
  ∃cells,(ako t n vs).run P Γ.w= .ok (.slice (some ⟨Γ.w.heap.size,0,none⟩) n n) (Γ.w.alloc (.cells cells e))/\aY Γ out.flatten cells.toList/\(∀r∈out,r.length=size)/\out.length=n/\cells.size=n*size:=by
 obtain⟨c,i,a,d,rfl,_,u,v,x⟩:=jz h
 have y:=oJ (Γ:=Γ) x
 have A:aY Γ (ahv n z).flatten (madeCells a.cells (n*i.size)).toList:=by
  rw[LX a.cells n i.size v o]
  exact Kg y n
 have⟨cells,B,C,D,f⟩:=Sy parts vs.toList _ out _ q (fun r E=>by rw[(List.mem_replicate.1 E).2];exact p) A s
 have g:=fI C
 rw[tg D,f]at g
 simp only[als,aje]at g f
 have F:¬(16777216<n*i.size):=by omega
 have j:(sizeOf e).run P Γ.w= .ok i.size Γ.w:=by simp[sizeOf,typeInfo,d]
 have b:ak7 (fun k=>some (k*i.size,i.size)) ((amM (n*i.size)).map (a.cells[· % a.cells.size]!)) vs.toList=some cells:=B
 have I:(ako t n vs).run P Γ.w= .ok (.slice (some ⟨Γ.w.heap.size,0,none⟩) n n) (Γ.w.alloc (.cells cells e)):=by
  by_cases l:n*i.size=0
  .have G:n=0:=by
    rcases Nat.mul_eq_zero.1 l with h|h
    .exact h
    .omega
   subst G
   have m:amM 0= #[]:=rfl
   simp only[akX,m,Array.map_empty]at b
   simp[ako,run_underlying c,j,m,b,newRow]
  .simp[ako,run_underlying c,j,F,l,zeroValue,typeInfo,d,u,b,newRow]
 grind
theorem Ty(b:aZ Γ H){n bytes:Nat}(h:se P t=some (e,size,bytes,z))(c:0<size)(hn:n*size<=16777216)(f:z.length=size)(d:n<=maxLen)(g:mJ Γ parts vs.toList){out:List (List ab)}(i:tR size (ahv n z) parts=some out):
  ∃y a,(ako t n vs).run P Γ.w= .ok y a.w/\Γ.cL a/\aZ a (H++[.live 0 size out])/\aB a (.sl H.length 0 0 n) y:=by
 have⟨cells,j,l,m,p,q⟩:=Ml h c hn f d g i
 refine⟨_,Γ.alloc cells e ⟨some Γ.w.heap.size,0,n,size⟩,j,sL b _ _ _,rF b cells e n size out d (by omega) c (by omega) m cells.toList l (fun k y o=>by simpa using o),?_⟩
 grind [aB,az.alloc,(aZ.len)]
theorem aaB(c:aZ Γ H){bytes:Nat}(h:se P t=some (e,size,bytes,z))(d:0<size)(j:z.length=size)(f g:IntKind)(n:Int)(l:0<=n)
  (m:(bytes:Int)*n<=281474976710656) (hm:n<=maxLen):
  ∃y a,(Instr.makeSlice t (.int f n) (.int g n)).run P Γ.w= .ok y a.w/\Γ.cL a/\aZ a (H++[.live 0 size (ahv n.toNat z)])/\aB a (.sl H.length 0 0 n.toNat) y:=by
 obtain⟨o,i,b,p,rfl,rfl,q,s,u⟩:=jz h
 have v:=run_make (P:=P) Γ.w t e i b o p q f g n n l (aka _) m (by unfold maxLen at hm;omega)
 refine⟨_,Γ.alloc (madeCells b.cells (n.toNat*i.size)) e ⟨some Γ.w.heap.size,0,n.toNat,i.size⟩,v,sL c _ _ _,?_,?_⟩
 .refine rF c _ e n.toNat i.size _ (by omega) (by simp) d (by simp[size_madeCells]) (fun r x=>by rw[(List.mem_replicate.1 x).2];exact j) (madeCells b.cells (n.toNat*i.size)).toList ?_ (fun k y A=>by simpa using A)
  rw[LX b.cells n.toNat i.size s d]
  exact Kg (oJ u) _
 grind [aB,az.alloc,(aZ.len)]
theorem QW(c:aZ Γ H)(T:TypeId){v:Value}{z:ab}{a:List ab}(hc:aY Γ (z::a) v.cells.toList):
  ∃b,(newVar T v).run P Γ.w= .ok ⟨Γ.w.heap.size,0,none⟩ b.w/\Γ.cL b/\aZ b (H++[.live 0 (a.length+1) [z::a]])/\aB b (.ptr H.length 0 0 0) (.pointer (some ⟨Γ.w.heap.size,0,none⟩)):=by
 have d:=fI hc
 simp only[aje,aip]at d
 refine⟨Γ.alloc v.cells T ⟨some Γ.w.heap.size,0,1,a.length+1⟩,by simp[newVar,newRow];rfl,sL c _ _ _,rF c v.cells T 1 (a.length+1) [z::a] (by simp[maxLen]) (by simp) (by omega) (by omega) (by simp) v.cells.toList (by simpa using hc) (fun k y e=>by simpa using e),?_⟩
 grind [aB,az.alloc,(aZ.len)]
def az.rB(Γ:az)(cells:Array Value)(T:TypeId)(z:Nat):az:=
 {w:=Γ.w.alloc (.cells cells T),F:=fun b s=>Γ.F b s\/(b=Γ.w.heap.size/\s=z),X:=Γ.X,hs:=Γ.hs}
def AE(c:aZ Γ H)(cells:Array Value)(T:TypeId)(z:Nat):Γ.cL (Γ.rB cells T z)where
 le:={F:=fun _ _ h=> .inl h,mem:=fun b z a=>lV Γ.w _ b (c.F b z a),hs:=fun h i v hh=>⟨i,v,hh,ad3 _,fun _=>rfl⟩}
 os:=rfl
 tape:=rfl
 output:=rfl
 size:=by simp[az.rB]
 frame b a _:=lV Γ.w _ b a
 mF b z a:=by
  rcases a with a|a
  .exact .inl a
  omega
 lj b a:= .inl a
theorem Xu(a:aZ Γ H)(cells:Array Value)(T:TypeId)(z:Nat):aZ (Γ.rB cells T z) H where
 len:=a.len
 ob h o f:=(a.ob h o f).aK (AE a cells T z).le rfl (fun _ _ _ _ _ _ d c=>⟨lV Γ.w _ _ (a.X _ d),fun s e=>by
  rcases e with e|e
  .grind
  .have:=a.X _ d;omega,d⟩)
 apart:=a.apart
 F b s c:=by
  rcases c with c|c
  .have:=a.F b s c;simp[az.rB];omega
  .simp[az.rB,c.1]
 X b d:=by have:=a.X b d;simp[az.rB];omega
 G:=a.G.le (AE a cells T z).le
theorem V4(b:aZ Γ H)(T:TypeId){v:Value}(hc:aY Γ cs v.cells.toList):
  ∃a,(newVar T v).run P Γ.w= .ok ⟨Γ.w.heap.size,0,none⟩ a.w/\Γ.cL a/\aZ a H/\aB a (.aJ [cs] 0 0) (.pointer (some ⟨Γ.w.heap.size,0,none⟩)):=by
 refine⟨Γ.rB v.cells T cs.length,by simp[newVar,newRow];rfl,AE b _ _ _,Xu b _ _ _,?_⟩
 simp only[aB,bE]
 refine⟨Γ.w.heap.size,0,cs.length,by simp,.inr ⟨rfl,rfl⟩,rfl,?_,trivial⟩
 have d:(Γ.rB v.cells T cs.length).w.heap[Γ.w.heap.size]?=some (.cells v.cells T (0,0)):=heap_alloc_new Γ.w _
 refine nS fun k l c=>?_
 have⟨y,e,f⟩:=kX (G9 (AE b v.cells T cs.length).le _ _ hc) c
 grind [(cell_of)]
end Go.Nx
namespace Go.Nx
variable{Γ:az}{e:Env}{a:Act}
theorem Mi{P:Program}{t:TypeId}{g:Bool}{n a:Nat}(d:tk P t=some (g,n)){cs:List ab}{b:Array Value}(hc:aY Γ cs b.toList){x:aw}(h:Az g cs a n=some x):
  ∃z,(part t b a).run P Γ.w= .ok z Γ.w/\aL Γ x z:=by
 have e:=fI hc
 simp only[aje]at e
 have⟨c,f⟩:=pt d Γ.w
 unfold Az at h
 cases g with
 |true=>
  simp only[if_true]at h
  split at h
  .simp only[ab1]at h
   subst h
   have i:=KM b.toList a n
   refine⟨.agg (b.extract a (a+n)),by simp[part,c,f],?_⟩
   simp only[aL]
   refine⟨_,rfl,?_⟩
   rw[show b.extract a (a+n)=((b.toList.drop a).take n).toArray from i]
   exact sQ (tx hc a) n
  .cases h
 |false=>
  simp only[aes,if_false,ab4]at h
  obtain⟨l,j,rfl⟩:=h
  have⟨y,m,o⟩:=kX hc j
  have k:b[a]?=some y:=by grind
  exact⟨y,by simp[part,c,k],by grind [aL]⟩
theorem MO{Γ:az}{e:Env}{a:Act}:∀(c:List Operand) (b:List ab),(∀p∈c,Good Γ e a p)->xa (c.map (aX e))=some b->aY Γ b (c.map a.eval)
 |[],b,_,h=>by
  grind [xa,aY]
 |p::g,b,d,h=>by
  simp only[ag9]at h
  unfold xa at h
  split at h
  .grind
  .rename_i l r f
   simp only[aiA]at f
   obtain⟨i,rfl⟩:=f
   simp only[ab4]at h
   obtain⟨j,k,rfl⟩:=h
   simp only[ag9,aY]
   have:=d p (by simp) _ i
   simp only[aL]at this
   exact⟨_,_,rfl,this,MO g j (fun q m=>d q (by simp[m])) k⟩
  .cases h
theorem AX{Γ:az}{P:Program}{e:Env}{a:Act}(f:Int->Int->Int)(f2:Value->Value->Sem Value)(i:∀m k n w,(f2 (.int .i64 m) (.int k n)).run P w= .ok (.int .i64 (f m n)) w):
  ∀(c:List Operand) (b n:Int),(∀p∈c,Good Γ e a p)->foldI f b (c.map (aX e))=some n->((c.map a.eval).foldlM f2 (.int .i64 b)).run P Γ.w= .ok (.int .i64 n) Γ.w
 |[],b,n,_,h=>by
  simp[foldI]at h
  subst h
  simp
 |p::j,b,n,d,h=>by
  simp only[ag9]at h
  unfold foldI at h
  split at h
  .grind
  .rename_i k m r g
   simp only[aiA]at g
   obtain⟨l,rfl⟩:=g
   have hp:=d p (by simp) _ l
   simp only[aL,aB]at hp
   have s:=AX f f2 i j (f b m) n (fun q o=>d q (by simp[o])) h
   simp_all
  .cases h
theorem Ix(b:List (Nat×Operand))(c:∀p∈b.map (·.2),Good Γ e a p):mJ Γ (b.map fun(i,x)=>(i,aX e x)) (b.map fun(i,x)=>(i,a.eval x)):=by
 induction b with
 |nil=>simp[mJ]
 |cons p b d=>have⟨i,x⟩:=p;simp only[ag9,mJ];exact⟨_,_,rfl,fun v f=>c x (by simp) v f,d (fun q g=>c q (by grind))⟩
theorem afF{l:ab}{n:Nat}(h:qd l=some n){y:Value}(hc:aB Γ l y):∃a c,y= .slice a n c:=by unfold qd at h;grind [aB]
theorem vV{o:Option Operand}{n:Option Int}(b:∀p,o=some p->Good Γ e a p)(h:nL e o=some n):(o.map a.eval=none/\n=none)\/∃k m,o.map a.eval=some (.int k m)/\n=some m:=by
 cases o with
 |none=>grind [nL]
 |some p=>
  right;unfold nL at h;simp only at h;split at h
  .rename_i v c;have hc:=b p rfl v c;unfold Sz at h;grind [aL,aB]
  .cases h
end Go.Nx
namespace Go.Nx
variable{P:Program}{Γ:az}{e:Env}{a:Act}{o:Oper}{x:aw}
theorem adT{H d:List Ob}(i:aZ Γ H){c p q:Operand}(f:o.op= .pick c p q)(h:bc P e H o.op=some (x,d))
  (hc:Good Γ e a c) (hp:aX e c=some (.c (.v (.bool true)))->Good Γ e a p) (j:aX e c=some (.c (.v (.bool false)))->Good Γ e a q):uf Γ ((execOp a.eval o).run P Γ.w) x d:=by
 rw[f]at h
 unfold bc at h
 simp only at h
 split at h
 case h_2=>cases h
 rename_i t u v b k l
 simp only[ab1,aca]at h
 obtain⟨rfl,rfl⟩:=h
 have g:=hc _ b
 simp only[aL,aB]at g
 refine .val (y:=if t then a.eval p else a.eval q) i (by simp[execOp,f,g.1,asBool]) ?_
 cases t with
 |true=>
  have:=hp b _ k
  unfold Dp
  grind
 |false=>
  have:=j b _ l
  unfold Dp
  grind
set_option maxHeartbeats 1000000 in
theorem adv{ag H':List Ob}(u:aZ Γ ag)(j:∀p∈o.op.operands,Good Γ e a p)(h:bc P e ag o.op=some (x,H')):uf Γ ((execOp a.eval o).run P Γ.w) x H':=by
 have⟨ak,W,ty,pos,al,guard⟩:=o;simp only at j h;cases W with
 |move y=>simp only[bc,ab4,aca]at h;obtain⟨v,d,rfl,rfl⟩:=h;exact .val u (by simp[execOp]) (j y (by simp[acH]) v d)
 |assign y=>simp only[bc,ab4,aca]at h;obtain⟨v,d,rfl,rfl⟩:=h;exact .val u (by simp[execOp]) (j y (by simp[acH]) v d)
 |pick c p q=>exact adT u (o:=⟨ak,.pick c p q,ty,pos,al,guard⟩) rfl h (j c (by simp[acH])) (fun _=>j p (by simp[acH])) (fun _=>j q (by simp[acH]))
 |alloc t=>
  simp only[bc]at h;split at h
  case h_2=>cases h
  rename_i z zs X;simp only[ab1,aca]at h;obtain⟨rfl,rfl⟩:=h;have⟨i,zv,O,am,M,Y⟩:=xu X;have⟨E,w,A,D,K⟩:=QW (P:=P) u t (oJ Y);exact⟨.pointer (some ⟨Γ.w.heap.size,0,none⟩),E,.inl (by simp[execOp,Instr.alloc,zeroValue,typeInfo,O,am,w]),A,D,by grind [aL]⟩
 |box t y=>
  simp only[bc]at h;split at h
  case h_2=>cases h
  rename_i v S;split at h
  case h_2=>cases h
  rename_i z zs X;simp only[ab1,aca]at h;obtain⟨rfl,rfl⟩:=h;have hc:=wM (j y (by simp[acH]) v S) X;have⟨E,w,A,D,K⟩:=QW (P:=P) u t hc;exact⟨.pointer (some ⟨Γ.w.heap.size,0,none⟩),E,.inl (by simp[execOp,Instr.box,w]),A,D,by grind [aL]⟩
 |build t L=>
  simp only[bc]at h;split at h
  case h_2=>cases h
  rename_i z aH an;simp only[ab4,aca]at h;obtain⟨cs,d,rfl,rfl⟩:=h;have Z:=Ix (Γ:=Γ) (e:=e) (a:=a) L.toList (fun p hp=>j p (by grind [acH]));obtain⟨out,w,A⟩:=ZK (P:=P) (vs:=L.map fun(i,x)=>(i,a.eval x)) an (by simpa using Z) d;exact .val u (by simp[execOp,w]) ⟨out,rfl,A⟩
 |buildSlice t n L=>
  simp only[bc]at h;split at h
  case h_2=>cases h
  rename_i el ah bytes z aa;split at h
  case isFalse=>cases h
  rename_i I;have⟨b1,b2,b3,b4⟩:=I;simp only[ab4,aca]at h;obtain⟨rows,d,rfl,rfl⟩:=h;have Z:=Ix (Γ:=Γ) (e:=e) (a:=a) L.toList (fun p hp=>j p (by grind [acH]));have⟨y,E,w,A,D,K⟩:=Ty (P:=P) u (vs:=L.map fun(i,x)=>(i,a.eval x)) aa b1 b2 b3 b4 (by simpa using Z) d;exact⟨y,E,.inl (by simp[execOp,w]),A,D,by grind [aL]⟩
 |makeSlice t l c=>
  simp only[bc]at h;split at h
  case h_2=>cases h
  rename_i el ah bytes z k n k' m aa Y ao;split at h
  case isFalse=>cases h
  rename_i I;obtain⟨b1,b2,b3,rfl,b5,b6⟩:=I;simp only[ab1,aca]at h;obtain⟨rfl,rfl⟩:=h;have d:=j l (by simp[acH]) _ Y;have G:=j c (by simp[acH]) _ ao;simp only[aL,aB]at d G;have⟨y,E,w,A,D,K⟩:=aaB (P:=P) u aa b1 b2 k k' n b3 b5 b6;exact⟨y,E,.inl (by simp[execOp,d.1,G.1,w]),A,D,by grind [aL]⟩
 |load t y=>
  simp only[bc]at h;split at h
  .rename_i n p C hp;simp only[ab4,aca]at h;obtain⟨cs,d,rfl,rfl⟩:=h;have hc:=j y (by simp[acH]) _ hp;simp only[aL]at hc;have⟨N,w,A⟩:=(yg (P:=P) u hc).1 n cs C d;exact .val u (by simp[execOp,w]) ⟨N,rfl,A⟩
  .rename_i n p C hp;simp only[ab4,aca]at h;obtain⟨l,d,rfl,rfl⟩:=h;have hc:=j y (by simp[acH]) _ hp;simp only[aL]at hc;have⟨z,w,A⟩:=(yg (P:=P) u hc).2 n l C d;exact .val u (y:=z) (by simp[execOp,w]) (by grind [aL])
  .cases h
 |store t y v=>
  simp only[bc]at h;split at h
  case h_2=>cases h
  rename_i g n hd ab i k av C B S;split at h
  case h_2=>cases h
  rename_i cs z rows ap ho;split at h
  case isFalse=>cases h
  rename_i hn;split at h
  case h_2=>cases h
  rename_i r hr;split at h
  case isFalse=>cases h
  rename_i aq;simp only[ab1,aca]at h;obtain⟨rfl,rfl⟩:=h;have hc:=j y (by simp[acH]) _ B;simp only[aL]at hc;have⟨E,w,A,D⟩:=aeJ (P:=P) u hc C ho hr hn aq (wM (j v (by simp[acH]) _ S) ap);exact⟨undef,E,.inr ⟨by simp[execOp,w],rfl⟩,A,D,by simp[aL,bT,undef]⟩
 |nilCheck y=>
  simp only[bc]at h;split at h
  .rename_i hd ab i k B;simp only[ab4,aca]at h;obtain⟨zr,d,rfl,rfl⟩:=h;have⟨z,rows⟩:=zr;have hc:=j y (by simp[acH]) _ B;simp only[aL]at hc;have⟨aI,b,_,_,H⟩:=wI u hc d;refine .val u (y:=a.eval y) (by simp[execOp,H]) (by grind [aL])
  .rename_i rows i k B;simp only[ab1,aca]at h;obtain⟨rfl,rfl⟩:=h;have hc:=j y (by simp[acH]) _ B;have ae:=hc;simp only[aL,aB]at hc;have⟨b,af,sz,H,_⟩:=hc;exact .val u (y:=a.eval y) (by simp[execOp,H]) ae
  .rename_i f cs B;simp only[ab1,aca]at h;obtain⟨rfl,rfl⟩:=h;have hc:=j y (by simp[acH]) _ B;have ae:=hc;simp only[aL,aB]at hc;have⟨N,H,_⟩:=hc;exact .val u (y:=a.eval y) (by simp[execOp,H]) ae
  .cases h
 |binOp W t y z t'=>
  simp only[bc]at h;split at h
  case h_2=>cases h
  rename_i ar v Q S;simp only[ab4,aca]at h;obtain⟨l,d,rfl,rfl⟩:=h;have⟨w,r,A,D⟩:=Yp u d y z (j y (by simp[acH]) _ Q) (j z (by simp[acH]) _ S);exact .val u (y:=r) (by simp[execOp,w,A]) (by grind [aL])
 |unOp W t y=>
  simp only[bc]at h;split at h
  .rename_i b I;simp only[ab1,aca]at h;obtain⟨rfl,rfl⟩:=h;have hc:=j y (by simp[acH]) _ I;simp only[aL,aB]at hc;exact .val u (y:= .bool (!b)) (by simp[execOp,hc.1,Op.unary]) (by simp[aL,aB,aiw])
  .rename_i k n I;simp only[ab1,aca]at h;obtain⟨rfl,rfl⟩:=h;have hc:=j y (by simp[acH]) _ I;simp only[aL,aB]at hc;exact .val u (y:= .int k (k.wrap (-n))) (by simp[execOp,hc.1,Op.unary,Op.intArith]) (by simp[aL,aB,aiw])
  .cases h
 |convert s aJ y=>
  simp only[bc]at h;split at h
  case h_2=>cases h
  rename_i k1 k2 k3 n d G h3;simp only[ab1,aca]at h;obtain⟨rfl,rfl⟩:=h;have hc:=j y (by simp[acH]) _ h3;simp only[aL,aB]at hc;unfold ik at d G;split at d
  case h_2=>cases d
  rename_i au;split at G
  case h_2=>cases G
  rename_i ax;cases d;cases G;refine .val u (y:= .int k2 (k2.wrap n)) ?_ (by simp[aL,aB,aiw]);simp[execOp,hc.1,convert,run_underlying au,run_underlying ax,Conv.intToInt]
 |makeFunc f first ai=>
  cases f with
  |func f=>
   simp only[bc]at h;split at h
   case isFalse=>cases h
   rename_i hf;simp only[ab4,aca]at h;obtain⟨cs,d,rfl,rfl⟩:=h;have ay:first= #[]:=Array.eq_empty_of_size_eq_zero hf
   subst ay;have hc:=MO (Γ:=Γ) (a:=a) ai.toList cs (fun p hp=>j p (by simpa[acH]using hp)) d;refine .val u (y:= .func (.func f) #[] (ai.map a.eval)) (by simp[execOp,Instr.makeFunc]) ?_;simp only[aL,aB];simp_all
  |_=>simp[bc]at h
 |slice t y lo O mx=>
  cases mx with
  |some m=>simp[bc]at h
  |none=>
   simp only[bc]at h;split at h
   case h_2=>cases h
   rename_i l aK aM B az aA;simp only[ab4,aca]at h;obtain⟨r,d,rfl,rfl⟩:=h;have hc:=j y (by simp[acH]) _ B;simp only[aL]at hc;have⟨z,w,A⟩:=Yb (P:=P) u d hc (lo.map a.eval) (O.map a.eval) (vV (Γ:=Γ) (fun p hp=>j p (by simp[acH,hp])) az) (vV (Γ:=Γ) (fun p hp=>j p (by simp[acH,hp])) aA);exact .val u (y:=z) (by simp[execOp,w]) (by grind [aL])
 |fieldAddr s y f=>
  simp only[bc]at h;split at h
  .rename_i af n g hd ab i k T B;split at h
   .cases h
   .rename_i hn;simp only[ab4,aca]at h;obtain⟨zr,d,rfl,rfl⟩:=h;have⟨z,rows⟩:=zr;have hc:=j y (by simp[acH]) _ B;simp only[aL]at hc;have⟨v,w,A⟩:=(Pl (P:=P) u T hn hc).1 hd ab i k z rows rfl d;exact .val u (y:=v) (by simp[execOp,w]) (by grind [aL])
  .rename_i af n g rows i k T B;split at h
   .cases h
   .rename_i hn;simp only[ab1,aca]at h;obtain⟨rfl,rfl⟩:=h;have hc:=j y (by simp[acH]) _ B;simp only[aL]at hc;have⟨v,w,A⟩:=(Pl (P:=P) u T hn hc).2 rows i k rfl;exact .val u (y:=v) (by simp[execOp,w]) (by grind [aL])
  .cases h
 |field s y f=>
  simp only[bc]at h;split at h
  case h_2=>cases h
  rename_i af n g cs T B;simp only[ab4,aca]at h;obtain⟨v,d,rfl,rfl⟩:=h;obtain⟨fs,fd,Q,hf,rfl,C⟩:=L7 T;have hc:=j y (by simp[acH]) _ B;simp only[aL]at hc;have⟨xs,H,hc⟩:=hc;have⟨z,w,A⟩:=Mi (P:=P) C hc d;exact .val u (by simp[execOp,H,Instr.field,run_underlying Q,hf,asAgg,w]) A
 |indexAddr t y i=>
  simp only[bc]at h;split at h
  case h_2=>cases h
  rename_i l k n B O;simp only[ab4,aca]at h;obtain⟨r,d,rfl,rfl⟩:=h;have hc:=j y (by simp[acH]) _ B;have U:=j i (by simp[acH]) _ O;simp only[aL,aB]at hc U;have⟨z,w,A⟩:=aae (P:=P) u d hc k;exact .val u (y:=z) (by simp[execOp,U.1,w]) (by grind [aL])
 |index t y i=>
  simp only[bc]at h;split at h
  case h_2=>cases h
  rename_i n ah g cs k aN aC B O;split at h
  case isFalse=>cases h
  rename_i I;simp only[ab4,aca]at h;obtain⟨v,d,rfl,rfl⟩:=h;have⟨el,C,aj⟩:=Al aC;have hc:=j y (by simp[acH]) _ B;have U:=j i (by simp[acH]) _ O;simp only[aL,aB]at hc U;have⟨xs,H,hc⟩:=hc;have⟨z,w,A⟩:=Mi (P:=P) aj hc d;exact .val u (by simp[execOp,H,U.1,Instr.index,asIntOf,run_underlying C,I.1,I.2,(pt aj Γ.w).2,w]) A
 |extract y i=>
  simp only[bc]at h;split at h
  case h_2=>cases h
  rename_i vs B;simp only[ab4,aca]at h;obtain⟨v,d,rfl,rfl⟩:=h;have hc:=j y (by simp[acH]) _ B;simp only[aL]at hc;have⟨N,H,hc⟩:=hc
  have aD:∀(vs:List aw) (N:List Value) (i:Nat) (v:aw),bT Γ vs N->vs[i]?=some v->∃z,N[i]?=some z/\aL Γ v z:=by
   intro vs;induction vs with
   |nil=>simp
   |cons ar us ih=>grind [bT]
  have⟨z,w,A⟩:=aD vs N.toList i v hc d;have aE:N[i]?=some z:=by grind
  exact .val u (y:=z) (by simp[execOp,H,Instr.extract,aE]) A
 |call c=>
  have⟨aF,args,J⟩:=c;cases aF with
  |builtin b=>
   cases b with
   |len=>
    simp only[bc]at h;split at h
    case h_2=>cases h
    rename_i y t F C;split at h
    case h_2=>cases h
    rename_i el l Q B;simp only[ab4,aca]at h;obtain⟨n,d,rfl,rfl⟩:=h;have⟨args⟩:=args;have⟨J⟩:=J;simp only at F C;subst F C;have hc:=j y (by simp[acH,aiM]) _ B;simp only[aL]at hc;have⟨ad,cap,H⟩:=afF d hc;exact .val u (y:= .int .i64 n) (by simp[execOp,resolve,invoke,builtin,Builtin.len_,run_underlying Q,H,goInt]) (by simp[aL,aB,aiw])
   |append=>
    simp only[bc]at h;split at h
    case h_2=>cases h
    rename_i s y t t' F C;split at h
    case h_2=>cases h
    rename_i ls lx M B;have⟨args⟩:=args;have⟨J⟩:=J;simp only at F C;subst F C;have d:=j s (by simp[acH,aiM]) _ M;have G:=j y (by simp[acH,aiM]) _ B;simp only[aL]at d G;have⟨z,E,w,A,D,K⟩:=W9 (P:=P) (ty:=ty) u d G h;exact⟨z,E,.inl (by simp[execOp,resolve,invoke,builtin,w]),A,D,K⟩
   |cap=>
    simp only[bc]at h;split at h
    case h_2=>cases h
    rename_i s t F C;split at h
    case h_2=>cases h
    rename_i el Q M;simp only[ab1,aca]at h;obtain⟨rfl,rfl⟩:=h;have⟨args⟩:=args;have⟨J⟩:=J;simp only at F C;subst F C;have d:=j s (by simp[acH,aiM]) _ M;simp only[aL,aB]at d;exact .val u (y:= .int .i64 0) (by simp[execOp,resolve,invoke,builtin,Builtin.cap_,run_underlying Q,d.1,goInt]) (by simp[aL,aB,aiw])
   |copy=>
    simp only[bc]at h;split at h
    case h_2=>cases h
    rename_i s y t t' F C;split at h
    case h_2=>cases h
    rename_i ls lx M B;have⟨args⟩:=args;have⟨J⟩:=J;simp only at F C;subst F C;have d:=j s (by simp[acH,aiM]) _ M;have G:=j y (by simp[acH,aiM]) _ B;simp only[aL]at d G;have⟨z,E,w,A,D,K⟩:=abd (P:=P) (t':=t') (ty:=ty) u d G h;exact⟨z,E,.inl (by simp[execOp,resolve,invoke,builtin,w]),A,D,K⟩
   |clear=>
    simp only[bc]at h;split at h
    case h_2=>cases h
    rename_i s t F C;split at h
    case h_2=>cases h
    rename_i ls M;have⟨args⟩:=args;have⟨J⟩:=J;simp only at F C;subst F C;have d:=j s (by simp[acH,aiM]) _ M;simp only[aL]at d;have⟨z,E,w,A,D,K⟩:=XK (P:=P) (ty:=ty) u d h;exact⟨z,E,.inl (by simp[execOp,resolve,invoke,builtin,w]),A,D,K⟩
   |min=>
    simp only[bc,ab4,aca]at h;obtain⟨n,d,rfl,rfl⟩:=h;have⟨args⟩:=args;simp only at d;unfold zY at d;split at d
    case h_2=>cases d
    rename_i m r R;cases args with
    |nil=>simp at R
    |cons p L=>simp only[ag9,aiA]at R;obtain⟨hp,rfl⟩:=R;have V:=j p (by simp[acH,aiM]) _ hp;simp only[aL,aB]at V;have:=AX (P:=P) (Γ:=Γ) (a:=a) min amq (fun m k n aG=>by simp[amq];omega) L m n (fun q hq=>j q (by simp[acH,aiM,hq])) d;exact .val u (y:= .int .i64 n) (by simp[execOp,resolve,invoke,builtin,Builtin.min_,V.1,this]) (by simp[aL,aB,aiw])
   |max=>
    simp only[bc,ab4,aca]at h;obtain⟨n,d,rfl,rfl⟩:=h;have⟨args⟩:=args;simp only at d;unfold zY at d;split at d
    case h_2=>cases d
    rename_i m r R;cases args with
    |nil=>simp at R
    |cons p L=>simp only[ag9,aiA]at R;obtain⟨hp,rfl⟩:=R;have V:=j p (by simp[acH,aiM]) _ hp;simp only[aL,aB]at V;have:=AX (P:=P) (Γ:=Γ) (a:=a) max amr (fun m k n aG=>by simp[amr];omega) L m n (fun q hq=>j q (by simp[acH,aiM,hq])) d;exact .val u (y:= .int .i64 n) (by simp[execOp,resolve,invoke,builtin,Builtin.max_,V.1,this]) (by simp[aL,aB,aiw])
   |_=>simp[bc]at h
  |_=>simp[bc]at h
 |_=>simp[bc]at h
end Go.Nx
namespace Go.Nx
structure St where
 env:Env
 heap:List Ob
 bG:List (FuncId×List aw)
def ee(e:Env)(d:Option Nat)(x:aw):Env:=
 match d with
 |some t=>(t,x)::e
 |none=>e
def pT:List (Option aw)->Option (List aw)
 |[]=>some []
 |some x::r=>(pT r).map (x:: ·)
 |none::_=>none
def fP:Nat->List aw->Env
 |_,[]=>[]
 |k,x::a=>(k,x)::fP (k+1) a
mutual
def bC:ab->Bool
 | .v _=>true
 | .aj rows=>bA rows
 | .eU rows=>bA rows
 | .ptr _ _ _ _=>false
 | .sl _ _ _ _=>false
 | .aJ rows _ _=>bA rows
 | .bF _ a=>cy a
 | .mr _=>false
 | .ig _ l=>bC l
 | .mG _=>false
def bA:List (List ab)->Bool
 |[]=>true
 |r::a=>cy r&&bA a
def cy:List ab->Bool
 |[]=>true
 |l::a=>bC l&&cy a
end
def dZ(n:Nat):ab->ab
 | .ptr h v i k=> .ptr (n+h) v i k
 | .sl h v a b=> .sl (n+h) v a b
 | .mr h=> .mr (n+h)
 | .mG h=> .mG (n+h)
 |l=>l
def eN(n:Nat):aw->aw
 | .c l=> .c (dZ n l)
 | .agg cs=> .agg (cs.map (dZ n))
 | .aM a=> .aM (a.map fun| .c l=> .c (dZ n l)| .agg cs=> .agg (cs.map (dZ n))| .aM b=> .aM b)
def dX(n:Nat):Ob->Ob
 | .live v z rows=> .live v z (rows.map fun r=>r.map (dZ n))
 | .dead=> .dead
 | .mp a=> .mp (a.map fun p=>(p.1,dZ n p.2))
 | .it s p=> .it s p
abbrev Sg(s:List UInt8):ab:= .v (.string ⟨s.toArray⟩)
def jp(c:BinOp)(k:IntKind)(a b:Int):Int:=
 match c with
 | .or=>k.wrap ((aji k.bits a|||aji k.bits b).toNat)
 | .xor=>k.wrap ((aji k.bits a ^^^ aji k.bits b).toNat)
 |_=>k.wrap ((aji k.bits a&&&aji k.bits b).toNat)
def sr(k:IntKind)(n:Int):Int:=jp .xor k (if k.signed then -1 else k.max) n
def tj(g:Nat):Option ab:=
 match sK.find? (·.1==g)with
 |some (_,_,rows)=>some (.aJ rows 0 0)
 |none=>none
def pA(P:Program)(t:TypeId):Bool:=match P.underlying t with|some .string=>true|_=>false
def ry(P:Program)(t:TypeId):Bool:=match P.underlying t with|some (.pointer _)=>true|_=>false
def yL(P:Program)(t:TypeId):Bool:=match P.underlying t with|some (.interface _)=>true|_=>false
def Na:Operand->Bool
 | .const .nilIface=>true
 |_=>false
def ll(a:BinOp)(b:Bool):Option aw:=
 match a with
 | .eql=>some (.c (B b))
 | .neq=>some (.c (B (!b)))
 |_=>none
def gV(P:Program)(H:List Ob)(d:BinOp)(t:TypeId)(y:Operand)(e f:Option aw):Option aw:=
 match e,f with
 |some (.c (.v (.string a))),some (.c (.v (.string b)))=>match d with
  | .eql=>some (.c (B (decide (a.data.toList=b.data.toList))))
  | .neq=>some (.c (B (!decide (a.data.toList=b.data.toList))))
  | .add=>if a.data.toList.length+b.data.toList.length<=maxLen then some (.c (Sg (a.data.toList++b.data.toList)))else none
  |_=>none
 |some (.c (.v (.int k a))),some (.c (.v (.int g b)))=>match d with
  | .or| .xor| .and=>if k=g then some (.c (.v (.int k (jp d k a b))))else none
  | .shl=>if b<0 then none else some (.c (.v (.int k (k.wrap (a*2 ^ (min b.toNat k.bits))))))
  | .shr=>if b<0 then none else some (.c (.v (.int k (a.fdiv (2 ^ (min b.toNat k.bits))))))
  |_=>none
 |some (.c (.v (.pointer none))),some (.c (.v (.pointer none)))=>if ry P t then ll d true else none
 |some (.c (.ptr h i _ _)),some (.c (.v (.pointer none)))=>if ry P t then match obj H h i with
  |some _=>ll d false
  |none=>none
  else none
 |some (.c (.v .nilIface)),some (.c (.v .nilIface))=>if yL P t/\Na y then ll d true else none
 |some (.c (.ig _ _)),some (.c (.v .nilIface))=>if yL P t then ll d false else none
 |_,_=>none
def nB(P:Program)(t:TypeId)(a b:Option aw):Option aw:=
 match a,b with
 |some (.c (.v (.string s))),some (.c (.v (.int _ n)))=>if pA P t/\0<=n then match s.data.toList[n.toNat]? with
   |some c=>some (.c (.v (.int .u8 (c.toNat:Int))))
   |none=>none
  else none
 |_,_=>none
def am6(P:Program)(t:TypeId)(d:Option aw)(a b:Option (Option Int)):Option aw:=
 match d,a,b with
 |some (.c (.v (.string s))),some a,some b=>if pA P t/\0<=a.getD 0/\a.getD 0<=b.getD (s.data.toList.length:Int)/\b.getD (s.data.toList.length:Int)<=(s.data.toList.length:Int)then
   some (.c (Sg ((s.data.toList.take (b.getD (s.data.toList.length:Int)).toNat).drop (a.getD 0).toNat)))else none
 |_,_,_=>none
def sc(P:Program)(t:TypeId)(a b:Option aw):Option aw:=
 match a,b with
 |some (.c (.aJ rows r k)),some (.c (.v (.int _ j)))=>match ar P t with
  |some (n,d,_)=>if 0<=j/\j<n then some (.c (.aJ rows r (k+j.toNat*d)))else none
  |none=>none
 |_,_=>none
def fX(P:Program)(t:TypeId)(a:Option aw):Option aw:=
 match a with
 |some (.c (.v (.string s)))=>if pA P t then some (.c (I (s.data.toList.length:Int)))else none
 |_=>none
def E7(a:Option aw):Option aw:=
 match a with
 |some (.c (.v (.int k n)))=>some (.c (.v (.int k (sr k n))))
 |_=>none
def oD(P:Program)(t:TypeId)(a:Option aw):Option aw:=
 match P.underlying t,a with
 |some (.interface _),_=>none
 |some _,some (.c l)=>some (.c (.ig t l))
 |_,_=>none
def r8(P:Program)(e:Env)(H:List Ob):Op->Option aw
 | .binOp a t x y _=>gV P H a t y (aX e x) (aX e y)
 | .unOp .xor _ x=>E7 (aX e x)
 | .call {callee:= .builtin .len,args,argTypes}=>match args.toList,argTypes.toList with
  |[x],[t]=>fX P t (aX e x)
  |_,_=>none
 | .index t x i=>nB P t (aX e x) (aX e i)
 | .slice t x b c none=>am6 P t (aX e x) (nL e b) (nL e c)
 | .indexAddr t x i=>sc P t (aX e x) (aX e i)
 | .makeInterface t x=>oD P t (aX e x)
 |_=>none
def eA(b:UInt8):List ab:=[.v (.int .u8 (b.toNat:Int))]
def bytesOf:List (List ab)->Option (List UInt8)
 |[]=>some []
 |[.v (.int .u8 n)]::r=>match bytesOf r with
  |some a=>some (al1 n.toNat::a)
  |none=>none
 |_=>none
def rT(P:Program)(t:TypeId):Bool:=
 match P.underlying t with
 |some (.slice e)=>match P.underlying e with
  |some (.int .u8)=>true
  |_=>false
 |_=>false
def nH(P:Program)(H:List Ob)(src a:TypeId)(b:Option aw):Option (aw×List Ob):=
 match b with
 |some (.c (.v (.string s)))=>if pA P src&&rT P a&&decide (s.data.toList.length<=maxLen)then some (.c (.sl H.length 0 0 s.data.toList.length),H++[.live 0 1 (s.data.toList.map eA)])else none
 |some (.c l)=>if rT P src&&pA P a then match view H l with
   |some rows=>match bytesOf rows with
    |some d=>some (.c (Sg d),H)
    |none=>none
   |none=>none
  else none
 |_=>none
def uP(P:Program)(H:List Ob)(t:TypeId)(s:ab)(a:List (List ab)):Option (aw×List Ob):=
 match se P t with
 |some (_,b,bytes,_)=>
  if 0<b/\(∀r∈a,r.length=b)then match s with
   | .v (.slice none 0 0)=>if a.length<=maxLen/\a.length*bytes<=140737488355328 then some (.c (.sl H.length 0 0 a.length),H++[.live 0 b a])else none
   | .sl h e f d=>match obj H h e with
    |some (z,rows)=>if f+d<=rows.length/\z=b/\d+a.length<=maxLen/\(d+a.length)*bytes<=140737488355328 then
      some (.c (.sl h (e+1) 0 (d+a.length)),H.set h (.live (e+1) b ((rows.drop f).take d++a)))else none
    |none=>none
   |_=>none
  else none
 |none=>none
def iF:List ab->Option (List Int)
 |[]=>some []
 | .v (.int .i64 n)::r=>match iF r with
  |some a=>some (n::a)
  |none=>none
 |_=>none
def yV(P:Program)(k:TypeId):Bool:=
 match P.underlying k with
 |some (.struct a)=>match a.toList with
  |[f,g]=>decide (f.offset=0)&&decide (g.offset=1)&&(ik P f.type).isSome&&(ik P g.type).isSome&&decide (tk P f.type=some (false,1))&&decide (tk P g.type=some (false,1))
  |_=>false
 |_=>false
def Me(P:Program)(e:TypeId):Bool:=
 match P.info? e with
 |some i=>match i.zero with
  |some (.pointer none)=>true
  |_=>false
 |none=>false
def sw(P:Program)(t:TypeId):Bool:=
 match P.underlying t with
 |some (.map k e)=>match eqs P k with
  |some [.int,.int]=>Me P e&&yV P k
  |_=>false
 |_=>false
def dY:List (List ab×ab)->List Int->Option ab
 |[],_=>none
 |(k,v)::r,a=>if iF k=some a then some v else dY r a
def gQ:List (List ab×ab)->List Int->ab->List (List ab×ab)
 |[],a,x=>[(a.map I,x)]
 |(k,v)::r,a,x=>if iF k=some a then(a.map I,x)::r else(k,v)::gQ r a x
def nz:List (List ab×ab)->Bool
 |[]=>true
 |p::r=>(match iF p.1 with|some [_,_]=>true|_=>false)&&nz r
def nK(P:Program)(H:List Ob)(t:TypeId)(e f:Option aw):Option (aw×List Ob):=
 match e,f with
 |some (.c (.mr h)),some (.agg k)=>match sw P t,H[h]?,iF k with
  |true,some (.mp d),some [a,b]=>if nz d then some (.c ((dY d [a,b]).getD (.v (.pointer none))),H)else none
  |_,_,_=>none
 |_,_=>none
def qW(P:Program)(H:List Ob)(t:TypeId)(e f g:Option aw):Option (aw×List Ob):=
 match e,f,g with
 |some (.c (.mr h)),some (.agg k),some (.c x)=>match sw P t,H[h]?,iF k with
  |true,some (.mp d),some [a,b]=>if nz d then some (unit,H.set h (.mp (gQ d [a,b] x)))else none
  |_,_,_=>none
 |_,_,_=>none
def yi(H:List Ob)(v:Option aw):Option (aw×List Ob):=
 match v with
 |some (.c (.mG h))=>match H[h]? with
  |some (.it s pos)=>if pos<s.data.toList.length then match s.data.toList[pos]? with
    |some c=>if c<128 then some (.aM [.c (B true),.c (I (pos:Int)),.c (.v (.int .i32 (c.toNat:Int)))],H.set h (.it s (pos+1)))else none
    |none=>none
   else some (.aM [.c (B false)],H)
  |_=>none
 |_=>none
def Np(P:Program)(t:TypeId):Bool:=
 match P.info? t with
 |some i=>match i.zero with
  |some (.agg _)=>true
  |_=>false
 |none=>false
def zG(P:Program)(t:TypeId)(v:Option aw):Option aw:=
 match P.underlying t,zc P t,Np P t,v with
 |some (.struct _),some z,true,some (.c (.v .nilIface))=>some (.aM [.agg z,.c (B false)])
 |_,_,_,_=>none
def sliceB(P:Program)(H:List Ob)(t:TypeId)(x:Option aw)(d e:Option (Option Int)):Option aw:=
 match se P t,x,d,e with
 |some (_,f,_),some (.c (.sl h a b g)),some (some l),some (some m)=>match obj H h a with
  |some (z,rows)=>if z=f/\0<=l/\l<=m/\(g:Int)<m/\(b:Int)+m<=rows.length then some (.c (.sl h a (b+l.toNat) (m.toNat-l.toNat)))else none
  |none=>none
 |_,_,_,_=>none
def uL(P:Program)(H:List Ob)(t:TypeId)(f g:Option aw):Option (aw×List Ob):=
 match se P t,f,g with
 |some (_,a,_),some (.c (.sl h b d k)),some (.c (.sl i j s l))=>match obj H h b,obj H i j with
  |some (z,rows),some (m,e)=>if z=a/\m=a/\0<min k l/\d<=rows.length/\s+min k l<=e.length then
    some (.c (.v (.int .i64 ((min k l:Nat):Int))),H.set h (.live b z (dT rows d ((e.drop s).take (min k l)))))else none
  |_,_=>none
 |_,_,_=>none
def cA(P:Program)(e:Env)(H:List Ob):Op->Option (aw×List Ob)
 | .slice t x f g none=>(sliceB P H t (aX e x) (nL e f) (nL e g)).map (·,H)
 | .call {callee:= .builtin .copy,args,argTypes}=>match args.toList,argTypes.toList with
  |[d,x],[t,a]=>if t=a then uL P H t (aX e d) (aX e x)else none
  |_,_=>none
 | .convert src h x=>nH P H src h (aX e x)
 | .call {callee:= .builtin .append,args,argTypes}=>match args.toList,argTypes.toList with
  |[s,x],[t,a]=>match aX e s,aX e x with
   |some (.c s),some (.c (.v (.string b)))=>if pA P a then uP P H t s (b.data.toList.map eA)else none
   |_,_=>none
  |_,_=>none
 | .makeMap t none=>if sw P t then some (.c (.mr H.length),H++[.mp []])else none
 | .lookup t m k false=>nK P H t (aX e m) (aX e k)
 | .mapUpdate t m k v=>qW P H t (aX e m) (aX e k) (aX e v)
 | .range t x=>match aX e x with
  |some (.c (.v (.string s)))=>if pA P t then some (.c (.mG H.length),H++[.it s 0])else none
  |_=>none
 | .next i true=>yi H (aX e i)
 | .typeAssert x _ t true=>(zG P t (aX e x)).map (·,H)
 |_=>none
def eX(g:ab->Option (ab×List Nat)):List ab->Option (List ab×List Nat)
 |[]=>some ([],[])
 |l::c=>match g l,eX g c with
  |some (a,x),some (b,y)=>some (a::b,x++y)
  |_,_=>none
def jR(g:ab->Option (ab×List Nat)):List (List ab)->Option (List (List ab)×List Nat)
 |[]=>some ([],[])
 |r::c=>match eX g r,jR g c with
  |some (a,x),some (b,y)=>some (a::b,x++y)
  |_,_=>none
def jb(g:ab->Option (ab×List Nat))(rows:List (List ab)):Option (List (List ab)×List Nat):=
 if bA rows then some (rows,[])else jR g rows
def bU(H:List Ob):Nat->ab->Option (ab×List Nat)
 |0,_=>none
 |n+1,l=>if bC l then some (l,[])else match l with
  | .sl h b d e=>match obj H h b,view H (.sl h b d e)with
   |some (z,_),some rows=>match jb (bU H n) rows with
    |some (c,a)=>some (.aj c,z::a)
    |none=>none
   |_,_=>none
  | .ptr h b i k=>match obj H h b with
   |some (z,rows)=>match jb (bU H n) rows with
    |some (c,a)=>some (.aJ c i k,z::a)
    |none=>none
   |none=>none
  | .bF f g=>match eX (bU H n) g with
   |some (j,a)=>some (.bF f j,a)
   |none=>none
  |_=>none
def da:ab->ab
 | .v (.slice none 0 0)=> .aj []
 |l=>l
def df(H:List Ob):aw->Option (aw×List Nat)
 | .c l=>match bU H 6 l with
  |some (b,a)=>some (.c b,a)
  |none=>none
 | .agg cs=>match eX (bU H 6) cs with
  |some (d,a)=>some (.agg (d.map da),a)
  |none=>none
 | .aM _=>none
def r7(H:List Ob):List aw->Option (List aw×List Nat)
 |[]=>some ([],[])
 |v::c=>match df H v,r7 H c with
  |some (a,x),some (b,y)=>some (a::b,x++y)
  |_,_=>none
def fh(c:Bool)(H:List Ob)(p:List Nat×List Ob)(l:ab):Option (ab×List Nat×List Ob):=
 if bC l then some (l,p)else match l with
  | .sl h a d b=>match obj H h a,view H (.sl h a d b)with
   |some (z,_),some rows=>
    if c then match jb (bU H 6) rows with
     |some (e,_)=>some (.aj e,p)
     |none=>none
    else if bA rows&&!p.1.contains h then some (.sl p.2.length 0 0 b,h::p.1,p.2++[.live 0 z rows])else none
   |_,_=>none
  |_=>none
def qk(a:Bool)(H:List Ob):List Nat×List Ob->List ab->Option (List ab×List Nat×List Ob)
 |p,[]=>some ([],p)
 |p,l::b=>match fh a H p l with
  |some (c,d)=>match qk a H d b with
   |some (e,f)=>some (c::e,f)
   |none=>none
  |none=>none
def uo(b:Bool)(H:List Ob)(p:List Nat×List Ob):aw->Option (aw×List Nat×List Ob)
 | .c l=>match fh b H p l with
  |some (d,a)=>some (.c d,a)
  |none=>none
 | .agg cs=>match qk b H p cs with
  |some (e,a)=>some (.agg e,a)
  |none=>none
 | .aM _=>none
def outs(a:Bool)(H:List Ob):List Nat×List Ob->List aw->Option (List aw×List Nat×List Ob)
 |p,[]=>some ([],p)
 |p,v::b=>match uo a H p v with
  |some (c,d)=>match outs a H d b with
   |some (e,f)=>some (c::e,f)
   |none=>none
  |none=>none
def dI(a:Bool)(H:List Ob):aw->Option (aw×List Ob)
 | .aM b=>match outs a H ([],[]) b with
  |some (c,_,own)=>some (.aM c,own)
  |none=>none
 |v=>match uo a H ([],[]) v with
  |some (d,_,own)=>some (d,own)
  |none=>none
mutual
def fW(a:List Nat):ab->Bool
 | .v _=>true
 | .aj rows=>gZ a rows
 | .eU rows=>gZ a rows
 | .sl _ _ _ _=>true
 |_=>false
def gZ(a:List Nat):List (List ab)->Bool
 |[]=>true
 |r::b=>!a.contains r.length&&cW a r&&gZ a b
def cW(a:List Nat):List ab->Bool
 |[]=>true
 |l::b=>fW a l&&cW a b
end
def kj(a:List Nat):aw->Bool
 | .c l=>fW a l
 | .agg cs=>cW a cs
 | .aM b=>b.all fun| .c l=>fW a l| .agg cs=>cW a cs| .aM _=>false
def lH(a:List Nat):Ob->Bool
 | .live _ _ rows=>rows.all fun r=>cW a r
 |_=>false
structure RI where
 ord:List Nat
 fl:Option Nat
 rs:List (Nat×Nat)
 gc:List Nat
structure bu where
 P:Program
 md:FuncId->Nat
 kt:FuncId->Option (List (List Nat))
 ri:FuncId->Nat->RI
 dH:FuncId->Bool
 dF:FuncId->List aw->List Ob->Option (aw×List Ob)
 kR:FuncId->Bool
 bz:FuncId->Nat->Bool
abbrev cV:=FuncId->List aw->List Ob->Option (aw×List Ob)
def eO(C:bu):aw->Bool
 | .c (.bF g _)=>C.md g==3
 |_=>false
def aS(C:bu)(b:cV)(m:Nat)(f:FuncId)(args:List aw):Option (aw×List Ob):=
 match b f args []with
 |some (r,a)=>if m=2 then some (r,a)else dI (m==1) a r
 |none=>none
def jm:ab->Bool
 | .ptr _ _ _ _=>true
 | .sl _ _ _ _=>true
 | .mr _=>true
 | .mG _=>true
 |l=>bC l
def pB:aw->Bool
 | .c l=>jm l
 | .agg cs=>cs.all jm
 | .aM a=>a.all fun| .c l=>jm l| .agg cs=>cs.all jm| .aM _=>false
def rq(rows:List (List ab)):Bool:=bA rows||rows.all fun r=>r.all jm
def nT:Ob->Bool
 | .live _ _ rows=>rq rows
 | .dead=>true
 | .mp a=>a.all fun p=>cy p.1&&jm p.2
 | .it _ _=>true
def ei(b:Bool)(a:List Nat)(r:aw)(own:List Ob):Bool:=
 match b with
 |true=>a.isEmpty&&pB r&&own.all nT
 |false=>a.isEmpty||(kj a r&&own.all (lH a))
def aO(C:bu)(a:cV):cV:=fun f args H=>
 if C.md f=3\/args.any (eO C)then a f args H else
 match r7 H args with
 |some (b,c)=>match aS C a (C.md f) f b with
  |some (r,own)=>if ei (C.md f==2) c r own=true then some (eN H.length r,H++own.map (dX H.length))else none
  |none=>none
 |none=>none
def nI(all:List Oper)(e:Env):Option (Nat×Bool)->Option Bool
 |none=>some true
 |some (j,w)=>match(all[j]?).bind (·.dst)with
  |some t=>match e.get t with
   |some (.c (.v (.bool b)))=>some (b==w)
   |some (.aM [])=>some false
   |_=>none
  |none=>none
def eV(C:bu)(a:cV)(o:Op)(e:Env)(H:List Ob):Option (aw×List Ob):=
 match o with
 | .call {callee:= .value f,args,.. }=>match aX e f,pT (args.toList.map (aX e))with
  |some (.c (.bF g b)),some d=>a g (d++b.map .c) H
  |_,_=>none
 | .move (.global g)=>(tj g).map fun l=>(.c l,H)
 |o=>match bc C.P e H o with
  |some r=>some r
  |none=>match r8 C.P e H o with
   |some x=>some (x,H)
   |none=>cA C.P e H o
def mh(b:Nat->Bool)(C:bu)(a:cV)(o:Op)(e:Env)(H:List Ob):Option (aw×List Ob):=
 match o with
 | .box t (.tmp k)=>if b k=true then(match e.get k with
   |some v=>match v.cells with
    |some (z::d)=>some (.c (.aJ [z::d] 0 0),H)
    |_=>none
   |none=>none)else eV C a (.box t (.tmp k)) e H
 | .indexAddr t (.global g) i=>(sc C.P t ((tj g).map .c) (aX e i)).map (·,H)
 |o=>eV C a o e H
def fH(a:Nat->Bool)(C:bu)(b:cV)(all:List Oper):List Oper->Env->List Ob->Option (Env×List Ob)
 |[],e,H=>some (e,H)
 |o::d,e,H=>match nI all e o.guard with
  |some c=>if c=true then(match mh a C b o.op e H with
    |some (x,f)=>fH a C b all d (ee e o.dst x) f
    |none=>none)else fH a C b all d (ee e o.dst unit) H
  |none=>none
def iQ(n:Nat):aw->aw
 | .c (.ptr _ _ i k)=> .c (.ptr n 1 i k)
 | .c (.sl _ _ a b)=> .c (.sl n 1 a b)
 |v=>v
def gO(P:Program)(o:Op)(e:Env)(H:List Ob)(a:Nat):Option (aw×List Ob):=
 match H[a]?,bc P e [] o with
 |some .dead,some (x,[.live 0 z rows])=>if bA rows=true then some (iQ a x,H.set a (.live 1 z rows))else none
 |_,_=>none
def iG:ab->List Nat
 | .ptr h _ _ _=>[h]
 | .sl h _ _ _=>[h]
 | .mr h=>[h]
 | .mG h=>[h]
 |_=>[]
def lS:aw->List Nat
 | .c l=>iG l
 |_=>[]
def uG(e:Env)(a:Op):List Nat:=a.operands.toList.flatMap fun p=>match aX e p with
 |some v=>lS v
 |none=>[]
def zE:Op->Option Operand
 | .store _ p _=>some p
 | .call {callee:= .builtin .append,args,.. }=>args.toList.head?
 |_=>none
def vM(e:Env)(a:Op):Option (List Nat):=
 match zE a with
 |some p=>match aX e p with
  |some (.c l)=>some (iG l)
  |some (.aM [])=>some []
  |_=>none
 |none=>none
def qp(e:Env)(a i:Op):Bool:=
 match uG e a,vM e i with
 |[],_=>true
 |hs,some b=>hs.all fun h=>!b.contains h
 |_,none=>false
def qU(all:List Oper)(b:List (Nat×Nat))(e:Env):Bool:=
 b.all fun p=>match all[p.1]?,all[p.2]? with
  |some a,some i=>qp e a.op i.op
  |_,_=>false
def re(C:bu)(e:Env):Op->Bool
 | .call {callee:= .value f,args,.. }=>match aX e f,pT (args.toList.map (aX e))with
  |some (.c (.bF g a)),some b=>C.md g !=3&&!(b++a.map aw.c).any (eO C)
  |_,_=>false
 |_=>false
def jH(C:bu)(b:cV)(r:RI)(c i:Nat)(a:Op)(e:Env)(H:List Ob):Option (aw×List Ob):=
 if r.fl=some i then gO C.P a e H c else if(!r.gc.contains i||re C e a)=true then eV C b a e H else none
def fA(C:bu)(a:cV)(r:RI)(all:List Oper)(b i:Nat)(o:Oper)(e:Env)(H:List Ob):Option (aw×List Ob):=
 match nI all e o.guard with
 |some c=>if c=true then jH C a r b i o.op e H else some (unit,H)
 |none=>none
def fZ(C:bu)(a:cV)(r:RI)(all:List Oper)(b:Nat):List (Nat×Oper)->Env->List Ob->Option (Env×List Ob)
 |[],e,H=>some (e,H)
 |p::c,e,H=>match fA C a r all b p.1 p.2 e H with
  |some (x,d)=>fZ C a r all b c (ee e p.2.dst x) d
  |none=>none
def qz(r:RI)(n:Nat):List Nat:=
 match r.ord with
 |[]=>aiZ n
 |l=>l
def tag(all:List Oper)(a:List Nat):List (Nat×Oper):=a.filterMap fun k=>(all[k]?).map (k, ·)
def jy(C:bu)(a:cV)(r:RI)(all:List Oper)(e:Env)(H:List Ob):Option (Env×List Ob):=
 fZ C a r all H.length (tag all (qz r all.length)) e (match r.fl with|none=>H|some _=>H++[.dead])
def eI:List Nat->Env->Env
 |[],_=>[]
 |t::a,e=>match e.get t with
  |some x=>(t,x)::eI a e
  |none=>eI a e
def pI(a:Option (List Nat))(b c:Env):Env:=
 match a with
 |some a=>eI a b++c
 |none=>b
def pE:List (List Nat)->Nat->List Nat
 |[],_=>[]
 |l::_,0=>l
 |_::r,k+1=>pE r k
def nu(C:bu)(f id:Nat):Option (List Nat):=
 match C.kt f with
 |some l=>some (pE l id)
 |none=>none
abbrev ji:=FuncId->Code->St->Option (Exit×St)
def ox(k:Option (List Nat))(S:St)(ok:Env->Bool):Option (Env×List Ob)->Option (Exit×St)
 |some (e,H)=>if ok e=true then some (.normal,⟨pI k e S.env,H,S.bG⟩)else none
 |none=>none
def sq(r:Option (Exit×St))(k:St->Option (Exit×St)):Option (Exit×St):=
 match r with
 |some (.normal,S)=>k S
 |r=>r
def bl(id:Nat)(r:Option (Exit×St)):Option (Exit×St):=
 match r with
 |some (.exit a,S)=>if a=id then some (.normal,S)else some (.exit a,S)
 |r=>r
def wy(v:Option aw)(x y:Option (Exit×St)):Option (Exit×St):=
 match v with
 |some (.c (.v (.bool b)))=>if b=true then x else y
 |_=>none
def vr:Env->List Nat->List Nat
 |[],a=>a
 |(t,_)::r,a=>if a.contains t=true then vr r a else vr r (a++[t])
def iJ(e:Env):List Nat:=vr e []
def qx(C:bu)(all:List Oper)(e:Env):Option (FuncId×List aw):=
 match all.getLast? with
 |some {op:= .defer {callee:= .value f,args,.. },dst:=none,guard:=none,.. }=>match aX e f,pT (args.toList.map (aX e))with
  |some (.c (.bF g a)),some b=>some (g,b++a.map .c)
  |_,_=>none
 |_=>none
def ui(all:List Oper):Bool:=
 match all.getLast? with
 |some {op:= .defer _,.. }=>true
 |_=>false
def lE(C:bu)(a:cV)(f id:Nat)(all:List Oper)(b:Bool)(S:St):Option (Exit×St):=
 if ui all=true then match b,fH (C.bz f) C a all all.dropLast S.env S.heap with
  |false,some (e,H)=>match qx C all e with
   |some d=>some (.normal,⟨pI (nu C f id) e S.env,H,d::S.bG⟩)
   |none=>none
  |_,_=>none
 else match b with
  |false=>ox (nu C f id) S (fun _=>true) (fH (C.bz f) C a all all S.env S.heap)
  |true=>ox (nu C f id) S (fun e=>qU all (C.ri f id).rs e) (jy C a (C.ri f id) all S.env S.heap)
def am8(b:ji)(f:FuncId)(c:Code)(d:List Nat)(k:St->Option (Exit×St))(S:St):Option (Exit×St):=
 match b f c S with
 |some (.normal,a)=>k ⟨eI d a.env,a.heap,a.bG⟩
 |r=>r
def uM(b:ji)(f:FuncId)(c:Code)(d:List Nat)(k:St->Option (Exit×St))(S:St):Option (Exit×St):=
 match b f c S with
 |some (.goto l,a)=>match findLabel c l with
  |none=>some (.goto l,a)
  |some _=>match c with
   | .seq (.label e) _=>if l=e then k ⟨eI d a.env,a.heap,a.bG⟩else none
   |_=>none
 |r=>r
def CH(P:Program)(e:Env)(H:List Ob):ResultVar->Option aw
 | .tmp t=>e.get t
 | .cell t a=>match tk P a,e.get t with
  |some (true,n),some (.c p)=>(qR H n p).map .agg
  |some (false,_),some (.c p)=>(qP H p).map .c
  |_,_=>none
def CE:aw->aw
 | .agg cs=> .agg (cs.map da)
 |v=>v
def uO(P:Program)(e:Env)(H:List Ob):List ResultVar->Option (List aw)
 |[]=>some []
 |r::a=>match CH P e H r,uO P e H a with
  |some x,some b=>some (CE x::b)
  |_,_=>none
def gY(P:Program)(e:Env)(H:List Ob)(a:List ResultVar):Option aw:=
 match uO P e H a with
 |some [x]=>some x
 |some b=>some (.aM b)
 |none=>none
def lW(C:bu)(d:ji):cV:=fun f args H=>
 if C.dH f=true then C.dF f args H else
 match C.P.funcs[f]? with
 |some a=>match a.body with
  |some c=>if args.length<=a.ntmps/\args.length<=a.params.size+a.nfree then match d f c ⟨fP 0 args,H,[]⟩with
    |some (.normal,⟨e,b,[]⟩)|some (.ret,⟨e,b,[]⟩)=>(gY C.P e b a.results.toList).map (·,b)
    |_=>none
   else none
  |none=>none
 |none=>none
def iX(C:bu)(a:ji):List (FuncId×List aw)->List Ob->Option (List Ob)
 |[],H=>some H
 |(g,c)::b,H=>if C.kR g=true then iX C a b H else if C.dH g=true then none else match lW C a g c H with
  |some (_,d)=>iX C a b d
  |none=>none
def bB(C:bu)(b:ji):cV:=fun f args H=>
 if C.dH f=true then C.dF f args H else
 match C.P.funcs[f]? with
 |some a=>match a.body with
  |some c=>if args.length<=a.ntmps/\args.length<=a.params.size+a.nfree then match b f c ⟨fP 0 args,H,[]⟩with
    |some (.normal,S)|some (.ret,S)=>match iX C b S.bG S.heap with
     |some d=>(gY C.P S.env d a.results.toList).map (·,d)
     |none=>none
    |_=>none
   else none
  |none=>none
 |none=>none
def fG(C:bu)(d:ji):ji:=fun f c S=>match c with
 | .skip=>some (.normal,S)
 | .label _=>some (.normal,S)
 | .region id e g=>lE C (aO C (bB C d)) f id e.toList g S
 | .seq a b=>sq (d f a S) (d f b)
 | .cond (.tmp t) a b=>wy (S.env.get t) (d f a S) (d f b S)
 | .block id c=>bl id (d f c S)
 | .loop c=>am8 d f c (iJ S.env) (d f (.loop c)) ⟨eI (iJ S.env) S.env,S.heap,S.bG⟩
 | .exit id=>some (.exit id,S)
 | .goto l=>some (.goto l,S)
 | .ret=>some (.ret,S)
 | .scope c=>uM d f c (iJ S.env) (d f (.scope c)) ⟨eI (iJ S.env) S.env,S.heap,S.bG⟩
 |_=>none
def run(C:bu):Nat->ji
 |0=>fun _ _ _=>none
 |n+1=>fG C (run C n)
variable{P:Program}{a:Act}{d:Option Nat}{Γ:az}{e:Env}
theorem Env.nO(e:Env)(d:Option Nat)(x:aw)(t:Nat):(ee e d x).get t=if d=some t then some x else e.get t:=by
 cases d with
 |none=>simp[ee]
 |some s=>simp[ee,Env.get]
def enters(P:Program)(f:FuncId):Bool:=
 match P.funcs[f]? with
 |some a=>a.name != "runtime.NumGoroutine" &&a.body.isSome
 |none=>false
def Call(P:Program)(f:FuncId)(args:List aw)(H:List Ob)(r:aw)(c:List Ob):Prop:=
 enters P f=true/\∀Γ,aZ Γ H->∀b:Array Value,bT Γ args b.toList->Calls P f b Γ.w fun e d=>
  ∃y a,e= .returned y/\a.w=d/\Γ.cL a/\aZ a c/\aL a r y
theorem Qa{f:FuncId}(h:enters P f=true)(args:Array Value)(w:World):(callFunc f args).run P w= .ok (.enter f args) w:=by
 unfold enters at h;split at h
 .rename_i a d;simp only[abR,bne_iff_ne,ne_eq,Option.isSome_iff_ne_none]at h
  have c:a.body.isNone=false:=by
   cases c:a.body with
   |none=>exact absurd c h.2
   |some b=>rfl
  simp only[callFunc,aiT,run_program,aiG,d];simp[h.1,h.2]
 .cases h
theorem agA{w:World}{o:Oper}{f:Operand}{args:Array Operand}{d:Array TypeId}(e:o.op= .call {callee:= .value f,args:=args,argTypes:=d}){a:Operand->Value}{c:FuncId}{b:Array Value}
  (g:a f= .func (.func c) #[] b) (h:enters P c=true):(execOp a o).run P w= .ok (.enter c (args.map a++b)) w:=by
 grind [execOp,resolve,Deferred.ofValue,invoke,(Qa)]
theorem CX{Γ:az}:∀ {e b:List aw} {c d:List Value},bT Γ e c->bT Γ b d->bT Γ (e++b) (c++d)
 |[],b,c,d,h,f=>by
  grind [bT]
 |a::e,b,c,d,h,f=>by
  simp only[bT]at h
  obtain⟨y,j,rfl,g,i⟩:=h
  simp only[ai7,bT]
  exact⟨y,_,rfl,g,CX i f⟩
theorem BT{Γ:az}:∀ {b:List ab} {a:List Value},aY Γ b a->bT Γ (b.map .c) a
 |[],a,h=>by grind [aY,bT]
 |l::b,a,h=>by
  simp only[aY]at h
  obtain⟨y,f,rfl,d,e⟩:=h
  simp only[ag9,bT,aL]
  exact⟨y,_,rfl,d,BT e⟩
theorem C0{Γ:az}{e:Env}{a:Act}:∀(c:List Operand) (b:List aw),(∀p∈c,Good Γ e a p)->pT (c.map (aX e))=some b->bT Γ b (c.map a.eval)
 |[],b,_,h=>by
  grind [pT,bT]
 |p::g,b,d,h=>by
  simp only[ag9]at h
  unfold pT at h
  split at h
  .grind
  .rename_i x r f
   simp only[aiA]at f
   obtain⟨i,rfl⟩:=f
   simp only[ab4]at h
   obtain⟨j,k,rfl⟩:=h
   simp only[ag9,bT]
   exact⟨_,_,rfl,d p (by simp) _ i,C0 g j (fun q l=>d q (by simp[l])) k⟩
  .cases h
theorem OM{v:Value}{t:Nat}(b:d≠some t):(a.put d v).tmps[t]?=a.tmps[t]?:=by
 cases d with
 |none=>rfl
 |some s=>grind [Act.put]
theorem agk{s:Nat}{v:Value}(h:s<a.tmps.size):(a.put (some s) v).tmps[s]?=some v:=by simp[Act.put,h]
def vB{v:Value}:(a.put d v).tmps.size=a.tmps.size:=by cases d<;>simp[Act.put]
def put_defers{v:Value}:(a.put d v).defers=a.defers:=by cases d<;>rfl
def adq(Γ:az)(d:FuncId×List aw)(c:Deferred):Prop:= ∃cap:Array Value,c.target= .fn (.func d.1) cap/\bT Γ d.2 (c.args.toList++cap.toList)
def tO(Γ:az):List (FuncId×List aw)->List Deferred->Prop
 |[],cs=>cs=[]
 |d::b,cs=>∃c a,cs=c::a/\adq Γ d c/\tO Γ b a
theorem tO.mono{Γ b:az}(h:Γ.Le b):∀ {a:List (FuncId×List aw)} {cs:List Deferred},tO Γ a cs->tO b a cs
 |[],cs,hc=>hc
 |d::a,cs,hc=>by
  obtain⟨c,e,rfl,⟨cap,f,g⟩,i⟩:=hc
  exact⟨c,e,rfl,⟨cap,f,Ei h _ _ g⟩,tO.mono h i⟩
def mm(Γ:az)(e:Env)(a:Act):Prop:= ∀t x,e.get t=some x->∃y,a.tmps[t]?=some y/\aL Γ x y
def Sat(n:Nat)(b:az)(S:St)(a:Act)(w:World):Prop:=
 a.tmps.size=n/\∃Γ,Γ.w=w/\b.cL Γ/\aZ Γ S.heap/\mm Γ S.env a/\tO Γ S.bG a.defers
theorem mm.mono{b:az}(h:Γ.Le b)(c:mm Γ e a):mm b e a:=fun t x d=>by have⟨y,f,g⟩:=c t x d;grind [(DB)]
theorem mm.put(c:mm Γ e a)(f:∀t,d=some t->t<a.tmps.size){x:aw}{y:Value}(hc:aL Γ x y):mm Γ (ee e d x) (a.put d y):=by
 intro t z b;rw[Env.nO]at b;split at b
 .grind [(agk)]
 .rename_i g;have⟨h,i,j⟩:=c t z b;grind [(OM)]
theorem uD(b:mm Γ e a)(p:Operand):Good Γ e a p:=by
 cases p with
 |tmp t=>
  intro x c;have⟨y,d,h⟩:=b t x c;have:a.eval (.tmp t)=y:=by simp[Act.eval,aiR,d]
  grind
 |const v=>exact U1
 |global g=>exact acz
 |func f=>exact acW
end Go.Nx
namespace Go.Nx
variable{k:IntKind}{n:Int}{x:aw}{b:Bool}{t:TypeId}{op:BinOp}{H:List Ob}
section
variable{P:Program}{e:Env}{y z:Operand}{ts ts':TypeId}{s r:ByteArray}{Γ:az}{a:Act}
theorem Good.str(h:Good Γ e a y)(b:aX e y=some (.c (.v (.string s)))):a.eval y= .string s:=by have:=h _ b;grind [aL,aB]
theorem Good.int(h:Good Γ e a y)(b:aX e y=some (.c (.v (.int k n)))):a.eval y= .int k n:=by have:=h _ b;grind [aL,aB]
theorem Good.v{x:Value}(h:Good Γ e a y)(b:aX e y=some (.c (.v x))):a.eval y=x:=by have:=h _ b;grind [aL,aB]
def rH:aL Γ (.c (.v (.int k n))) (.int k n):=⟨rfl,rfl⟩
def uH:aL Γ (.c (B b)) (.bool b):=⟨rfl,rfl⟩
theorem xm(s:ByteArray):s.size=s.data.toList.length:=by cases s;rfl
def HH{a b:ByteArray}(h:a.data.toList=b.data.toList):a=b:=by cases a;simp_all
theorem tQ(h:pA P t=true):P.underlying t=some .string:=by grind [pA]
theorem Qt(h:ry P t=true):∃u,P.underlying t=some (.pointer u):=by grind [ry]
theorem Se(h:yL P t=true):∃u,P.underlying t=some (.interface u):=by grind [yL]
def DJ(s:ByteArray):s.toList=s.data.toList:=by have:=ByteArray.toList_mk s.data.toList;omega
theorem QB(s r:List UInt8):(s==r)=decide (s=r):=by grind
def AC(h:ll op b=some x){w:World}{u v:Value}(f:binOp .eql t u v=alO Value.bool (Op.equal t u v))(g:binOp .neq t u v=alO (fun a=>Value.bool !a) (Op.equal t u v))
  (e:∀d,(alu (d+1) t u v).run P w= .ok b w):∃c,x= .c (B c)/\(binOp op t u v).run P w= .ok (.bool c) w:=by
 have i:(Op.equal t u v).run P w= .ok b w:=e 9999
 unfold ll at h
 split at h
 .simp_all
 .cases h
  simp_all
 .cases h
theorem XJ(D:aZ Γ H){A o:Operand}(h:gV P H op t o (aX e A) (aX e o)=some x)(r:Good Γ e a A)(s:Good Γ e a o):
  ∃y,((do eqGuard op t A o (a.eval A) (a.eval o);binOp op t (a.eval A) (a.eval o):Sem Value)).run P Γ.w= .ok y Γ.w/\aL Γ x y:=by
 unfold gV at h
 split at h
 .rename_i p q hp m
  have f:=r.str hp;have g:=s.str m
  split at h
  .cases h
   exact⟨.bool (decide (p.data.toList=q.data.toList)),by simp only[f,g,eqGuard, <-QB, <-DJ];rfl,uH⟩
  .cases h
   exact⟨.bool (!decide (p.data.toList=q.data.toList)),by simp only[f,g,eqGuard, <-QB, <-DJ];rfl,uH⟩
  .split at h
   .rename_i L
    cases h
    refine⟨.string (p++q),?_,?_⟩
    .have n:(p.size:Int)+(q.size:Int)<=9223372036854775807:=by grind [(xm),maxLen]
     simp[f,g,binOp,eqGuard,al8,n]
    .simp only[aL,aB]
     refine⟨?_,rfl⟩
     rfl
   .cases h
  .cases h
 .rename_i k p M q hp m
  have f:=r.int hp;have g:=s.int m
  split at h
  .split at h
   .rename_i B;subst B;cases h
    exact⟨.int k (jp _ k p q),by simp[f,g,binOp,eqGuard,amc,jp],rH⟩
   .cases h
  .split at h
   .rename_i B;subst B;cases h
    exact⟨.int k (jp _ k p q),by simp[f,g,binOp,eqGuard,amc,jp],rH⟩
   .cases h
  .split at h
   .rename_i B;subst B;cases h
    exact⟨.int k (jp _ k p q),by simp[f,g,binOp,eqGuard,amc,jp],rH⟩
   .cases h
  .split at h
   .cases h
   .rename_i hn;cases h
    exact⟨_,by simp[f,g,binOp,eqGuard,Op.shift,hn],rH⟩
  .split at h
   .cases h
   .rename_i hn;cases h
    exact⟨_,by simp[f,g,binOp,eqGuard,Op.shift,hn],rH⟩
  .cases h
 .rename_i hp m
  have f:=r.v hp;have g:=s.v m
  split at h
  .rename_i j
   have⟨u,j⟩:=Qt j
   obtain⟨c,rfl,n⟩:=AC (P:=P) (w:=Γ.w) (t:=t) (u:= .pointer none) (v:= .pointer none) h rfl rfl (fun d=>by simp[alu,run_underlying j])
   exact⟨_,by rw[f,g];simp[eqGuard,n],uH⟩
  .cases h
 .rename_i N O i k hp m
  have f:=r _ hp;have g:=s.v m
  split at h
  .rename_i j
   have⟨u,j⟩:=Qt j
   split at h
   .rename_i p E
    simp only[aL]at f
    have⟨C,b,_,_,F⟩:=wI D f E
    .obtain ⟨c,rfl,n⟩:=AC (P:=P) (w:=Γ.w) (t:=t) (u:= .pointer (some ⟨b,C.off+i*C.sz+k,none⟩)) (v:= .pointer none) h rfl rfl (fun d=>by simp[alu,run_underlying j])
     exact⟨_,by rw[F,g];simp[eqGuard,n],uH⟩
   .cases h
  .cases h
 .rename_i hp m
  have f:=r.v hp;have g:=s.v m
  split at h
  .rename_i j
   have⟨u,G⟩:=Se j.1
   obtain⟨c,rfl,n⟩:=AC (P:=P) (w:=Γ.w) (t:=t) (u:= .nilIface) (v:= .nilIface) h rfl rfl (fun d=>by simp[alu,run_underlying G])
   have I:o= .const .nilIface:=by grind [Na]
   subst I
   exact⟨_,by rw[f,g];simp[eqGuard,n],uH⟩
  .cases h
 .rename_i J l hp m
  have f:=r _ hp;have g:=s.v m
  simp only[aL,aB]at f
  have⟨z,K,_⟩:=f
  split at h
  .rename_i j
   have⟨u,j⟩:=Se j
   obtain⟨c,rfl,n⟩:=AC (P:=P) (w:=Γ.w) (t:=t) (u:= .iface J z) (v:= .nilIface) h rfl rfl (fun d=>by simp[alu,run_underlying j])
   exact⟨_,by rw[K,g];simp[eqGuard,n],uH⟩
  .cases h
 .cases h
theorem afx(Q:aZ Γ H){op:Op}(h:r8 P e H op=some x){o:Oper}(G:o.op=op)(l:∀p∈op.operands,Good Γ e a p):
  ∃y,(execOp a.eval o).run P Γ.w= .ok (.value y) Γ.w/\aL Γ x y:=by
 have⟨ag,ah,ty,pos,ai,guard⟩:=o
 simp only at G
 subst G
 unfold r8 at h
 split at h
 .rename_i op t d B t'
  have⟨y,u,I⟩:=XJ Q h (l d (by simp[acH])) (l B (by simp[acH]))
  refine⟨y,?_,I⟩
  rw[aiT]at u
  cases v:(eqGuard op t d B (a.eval d) (a.eval B)).run P Γ.w with
  |ok aj R=>
   rw[v]at u
   simp only[aiG]at u
   simp[execOp,v,u]
  |halt hh R=>
   simp_all
 .rename_i t d
  have q:=l d (by simp[acH])
  unfold E7 at h
  split at h
  .rename_i k n hp
   cases h
   have g:=q.int hp
   exact⟨_,by simp[execOp,g,Op.unary,amc,jp,sr],rH⟩
  .cases h
 .rename_i args ts
  split at h
  .rename_i d t u I
   have q:=l d (by simp[acH,aiM];have:d∈args.toList:=(by rw[u];simp);grind)
   unfold fX at h
   split at h
   .rename_i s hp
    split at h
    .rename_i f
     cases h
     have g:=q.str hp
     have f:=tQ f
     have S:args= #[d]:=by grind
     have i:ts= #[t]:=by grind
     subst S i
     refine⟨.int .i64 (s.size:Int),?_,by rw[<-xm];exact rH⟩
     simp[execOp,resolve,invoke,builtin,g,Builtin.len_,run_underlying f,goInt]
    .cases h
   .cases h
  .cases h
 .rename_i t d C
  have q:=l d (by simp[acH]);have D:=l C (by simp[acH])
  unfold nB at h
  split at h
  .rename_i s k n hp v
   have g:=q.str hp;have E:=D.int v
   split at h
   .rename_i f
    have T:=f.2
    have f:=tQ f.1
    split at h
    .rename_i c hc
     cases h
     refine⟨.int .u8 c.toNat,?_,rH⟩
     have i:s[n.toNat]?=some c:=by
      rw[abW]at hc
      have⟨ak,u⟩:=hc
      have J:n.toNat<s.size:=by grind [(xm)]
      rw[getElem?_pos s n.toNat J]
      exact congrArg some u
     simp[execOp,g,E,Instr.index,asIntOf,run_underlying f,T,i]
    .cases h
   .cases h
  .cases h
 .rename_i t d lo hi
  have q:=l d (by simp[acH])
  unfold am6 at h
  split at h
  .rename_i s U V hp W X
   split at h
   .rename_i i
    have⟨f,Y,Z,b3⟩:=i
    have f:=tQ f
    cases h
    have g:=q.str hp
    refine⟨.string (s.extract (U.getD 0).toNat (V.getD (s.data.toList.length:Int)).toNat),?_,?_⟩
    .have aa:=vV (Γ:=Γ) (a:=a) (fun p hp=>l p (by grind [acH])) W
     have ab:=vV (Γ:=Γ) (a:=a) (fun p hp=>l p (by grind [acH])) X
     have J:=xm s
     rcases aa with⟨z,rfl⟩|⟨k,m,z,rfl⟩<;>rcases ab with⟨A,rfl⟩|⟨K,F,A,rfl⟩<;>simp only[ajm,ai0]at Y Z b3|-
     .simp[execOp,g,z,A,ajy,run_underlying f,akO,ajX]
     .have i:=amR (P:=P) (w:=Γ.w) K F s.data.toList.length .sliceAlen (by omega) (by omega)
      simp at i
      simp[execOp,g,z,A,ajy,run_underlying f,akO,ajX,i]
     .have i:=amR (P:=P) (w:=Γ.w) k m s.data.toList.length .sliceB (by omega) (by omega)
      simp at i
      simp[execOp,g,z,A,ajy,run_underlying f,akO,ajX,i]
     .have L:=amR (P:=P) (w:=Γ.w) K F s.data.toList.length .sliceAlen (by omega) (by omega)
      have i:=amR (P:=P) (w:=Γ.w) k m F.toNat .sliceB (by omega) (by omega)
      simp at L
      simp[execOp,g,z,A,ajy,run_underlying f,akO,ajX,i,L]
    .simp only[aL,aB]
     refine⟨congrArg amD (HH ?_),rfl⟩
     rw[Lib.extract_data]
     simp[alC]
   .cases h
  .cases h
 .rename_i t d C
  have q:=l d (by simp[acH]);have D:=l C (by simp[acH])
  unfold sc at h
  split at h
  .rename_i rows r k kk j hp v
   have E:=D.int v
   have g:=q _ hp
   simp only[aL,aB]at g
   have⟨b,M,N,g,hF,hr⟩:=g
   split at h
   .rename_i n ad al ae
    split at h
    .rename_i O
     cases h
     have⟨el,f,af⟩:=Al ae
     have hs:=(pt af Γ.w).2
     have:=Hu (P:=P) (w:=Γ.w) f hs b (M+r*N+k) kk j O.1 O.2
     refine⟨.pointer (some ⟨b,M+r*N+k+j.toNat*ad,none⟩),by simp[execOp,g,E,this],?_⟩
     grind [aL,aB]
    .cases h
   .cases h
  .cases h
 .rename_i t d
  have q:=l d (by simp[acH])
  unfold oD at h
  split at h
  .cases h
  .rename_i am an hn f hp
   cases h
   have g:=q _ hp
   simp only[aL]at g
   refine⟨.iface t (a.eval d),?_,?_⟩
   .have:(alZ t (a.eval d)).run P Γ.w= .ok (.iface t (a.eval d)) Γ.w:=by
     simp only[alZ,aiT,run_underlying f,aiG]
     simp
    simp[execOp,this]
   grind [aL,aB]
  .cases h
 .cases h
end
end Go.Nx
namespace Go.Nx
open Go.Lib
def Bw(a:List Int):List UInt8:=a.map fun n=>al1 n.toNat
def ofB(s:List UInt8):List Int:=s.map fun b=>(b.toNat:Int)
abbrev rp(x:Int):List ab:=[.v (.int .u8 x)]
def acK(s:List UInt8):s.map eA=(ofB s).map rp:=by simp[ofB,eA,rp]
def Pu:∀ {rows:List (List ab)} {a:List UInt8},bytesOf rows=some a->∃b,rows=b.map rp/\a=Bw b
 |[],a,h=>by
  simp only[bytesOf,ab1]at h
  exact⟨[],rfl,h.symm⟩
 |r::e,a,h=>by
  unfold bytesOf at h
  split at h
  .grind
  .rename_i n f c
   simp only[aiA]at c
   obtain⟨rfl,rfl⟩:=c
   split at h
   .rename_i g d
    cases h
    obtain⟨b,rfl,rfl⟩:=Pu d
    exact⟨n::b,rfl,rfl⟩
   .cases h
  .cases h
def NJ{P:Program}{t:TypeId}(h:rT P t=true):∃a,P.underlying t=some (.slice a)/\P.underlying a=some (.int .u8):=by grind [rT]
def ZG{P:Program}{a:az}{H L:List Ob}(g:aZ a H){src p:TypeId}{v x:aw}{E:Value}(M:aL a v E)(h:nH P H src p (some v)=some (x,L)):
  ∃y e,(convert src p E).run P a.w= .ok y e.w/\a.cL e/\aZ e L/\aL e x y:=by
 unfold nH at h
 split at h
 .
  rename_i s G
  cases G
  split at h
  case isFalse=>cases h
  rename_i d
  simp only[abR,decide_eq_true_eq]at d
  have⟨⟨I,q⟩,t⟩:=d
  have hs:=tQ I
  have⟨f,u,A⟩:=NJ q
  cases h
  simp only[aL,aB]at M
  obtain⟨rfl,_⟩:=M
  have N:s.size=s.data.toList.length:=rfl
  obtain⟨cap,D⟩:∃cap,cap=grownCap a.w s.size 0 f:=⟨_,rfl⟩
  have S:s.size<=cap:=by rw[D];exact grownCap_ge a.w s.size 0 f
  have T:cap<=maxLen:=by rw[D];exact grownCap_le_maxLen a.w s.size 0 f (by rw[N];exact t)
  have U:(bytesCells a.w f s).size=cap:=by
   have:s.data.size=s.size:=rfl
   simp[bytesCells, <-D]
   omega
  let e:az:={w:=ak0 a.w f s,F:=a.F,X:=fun b=>a.X b\/b=a.w.heap.size,hs:=a.hs++[(⟨some a.w.heap.size,0,cap,1⟩,0)]}
  have J:∀b,b<a.w.heap.size->e.w.heap[b]?=a.w.heap[b]?:=fun b d=>Lib.bytesWorld_at_old a.w f s b d
  have af:e.w.heap.size=a.w.heap.size+1:=Lib.bytesWorld_size a.w f s
  have ag:=g.len
  have O:a.Le e:=⟨fun b z d=>d,fun b z d=>J b (g.F b z d),fun n i v hn=>⟨i,v,by
   have V:n<a.hs.length:=(abW.1 hn).1
   simp only[e]
   rw[abE V];exact hn,ad3 _,fun _=>rfl⟩⟩
  have Q:e.hs[H.length]?=some (⟨some a.w.heap.size,0,cap,1⟩,0):=by simp[e,g.len]
  have W:dE 1 e.w a.w.heap.size (bytesCells a.w f s) f:=⟨_,Lib.bytesWorld_at_new a.w f s,.inr ⟨rfl,ad3 _⟩⟩
  have Y:bE e a.w.heap.size 1 0 (s.data.toList.map eA):=by
   refine mY fun i r B=>?_
   rw[adf]at B
   simp only[ab4]at B
   obtain⟨c,hc,rfl⟩:=B
   have ah:=(abW.1 hc).1
   refine⟨rfl,?_⟩
   simp only[eA,cR,and_true]
   refine⟨.int .u8 (c.toNat:Int),?_,by simp[aB,aiw]⟩
   have:=Lib.bytesWorld_cell a.w f s i (by omega)
   simp only[aiW,Nat.mul_one]
   have Z:e.w.cell? ⟨a.w.heap.size,i,none⟩=some (.int .u8 ((s.data.toList.getD i 0).toNat:Int)):=this
   rw[Z]
   simp[List.getD,hc]
  refine⟨.slice (some ⟨a.w.heap.size,0,none⟩) s.size cap,e,?_,⟨O,?_,?_,?_,by omega,fun b d _=>J b d,fun b z d=> .inl d,fun b d=>d.imp id fun d=>by omega⟩,?_,?_⟩
  .rw[Lib.run_convert_string_bytes a.w src p f s hs u A,D]
  .simp[e,ak0,alE];rfl
  .simp[e,ak0,alE]
  .simp[e,ak0,alE];rfl
  .refine g.put O H.length (by simp[e,g.len]) (fun n hn=>⟨ot _ _ _ hn,by simp only[e];exact ot _ _ _ (by omega)⟩) (fun o K=>?_) (fun o ai v b K _ hs d=>?_) (fun b d _=>J b d)
    (fun b z C=> .inl C) (fun b j=> .inl j) (fun b z C=>?_) (fun b j=>?_)
   .simp at K
    subst K
    refine⟨⟨some a.w.heap.size,0,cap,1⟩,Q,T,?_⟩
    refine⟨rfl,.inr rfl,fun z C=>?_,by rw[aio, <-N];exact S,by simp,_,f,W,by simp[U],Y⟩
    have:=g.F _ _ C
    omega
   .rw[Q]at hs
    cases hs
    cases d
    exact .inl (ad3 _)
   .have:=g.F _ _ C
    omega
   .rcases j with j|j
    .have:=g.X _ j
     omega
    .omega
  grind [aL,aB]
 .rename_i l aj G
  cases G
  split at h
  case isFalse=>cases h
  rename_i d
  simp only[abR]at d
  have⟨I,q⟩:=d
  have⟨f,hs,A⟩:=NJ I
  have u:=tQ q
  split at h
  case h_2=>cases h
  rename_i rows aa
  split at h
  case h_2=>cases h
  rename_i bs ab
  cases h
  obtain⟨m,rfl,rfl⟩:=Pu ab
  have hc:aB a l E:=by grind [aL]
  refine⟨.string ⟨(Bw m).toArray⟩,a,?_,.refl a,g,by simp[aL,aB,aiw]⟩
  have ad:strOfNums m=⟨(Bw m).toArray⟩:=rfl
  rcases Am g hc aa with⟨rfl,q⟩|⟨b,cap,rfl,q,t⟩
  .have j:m=[]:=by simp_all
   subst j
   rw[run_convert_bytes_nil a.w src f hs A 0 0 p u]
   rfl
  .simp only[aio]at q|-
   rcases t with t|⟨c,ae,sz,rfl,t⟩
   .have j:m=[]:=by grind
    subst j
    have⟨bb,bo,bs⟩:=b
    rw[run_convert_bytes_string a.w src p f _ _ _ hs A u,run_bytesToString a.w _ _ _ [] (by simp[loadCells,loadCellsFrom])]
    rfl
   .rw[run_convert_bytes_arg a.w src f hs A c ae m.length cap m rfl (fun i B=>?_) p u,ad]
    have⟨R,g2⟩:=jL t (i:=i) (r:=rp (m[i])) (by simp[B])
    simp only[rp,ajS]at R
    subst R
    have⟨z,k1,k2⟩:=uT g2 (k:=0) (l:= .v (.int .u8 m[i])) rfl
    grind [aB]
 .cases h
def ya(w:World)(m:Nat)(a:List Value)(x:Value):Prop:= ∃s:ByteArray,x= .string s/\m=s.size/\a=strCells s
def QK{P:Program}{w:World}{m b:Nat}{c:List Value}{x:Value}(d:ya w m c x)(e:c.length=m*b):
  (akf x).run P w= .ok m w/\∀a,a.heap=w.heap->(ai4 b m x).run P a= .ok c.toArray a:=by
 obtain⟨s,rfl,rfl,rfl⟩:=d
 exact⟨by simp[akf],fun a _=>run_firstCells_string a b s⟩
def zO{zz:Nat}{P:Program}{w:World}{t r ty e:TypeId}{i:TypeInfo}(h:P.underlying t=some (.slice e))(j:P.underlying r=some .string)(k:P.info? e=some i){m:Nat}{d:List Value}{x:Value}(y:ya w m d x)
  (z:d.length=m*i.size) (A:∀v∈d,v.oneCell'=true) (f:Option Addr) (n c:Nat) (g:n+m<=c)
  (B:m=0\/∃b o cells T,f=some ⟨b,o,none⟩/\dE zz w b cells T/\o+n*i.size+d.length<=cells.size):
  ∃l,(aiL #[t,r] ty #[.slice f n c,x]).run P w= .ok (.slice f (n+m) c) l/\
   ((m=0/\l=w)\/∃b o cells T,f=some ⟨b,o,none⟩/\dE zz w b cells T/\o+n*i.size+d.length<=cells.size/\l=w.setRow b (spliced cells.toList (o+n*i.size) d).toArray):=by
 have⟨p,C⟩:=QK (P:=P) y z
 have q:=C w rfl
 rcases B with rfl|⟨b,o,cells,T,rfl,s,D⟩
 .have hn:d=[]:=ae4 (by omega)
  subst hn
  refine⟨w,?_,.inl ⟨rfl,rfl⟩⟩
  cases f with
  |none=>
   simp only[aiB]at g
   simp[aiL,run_underlying h,run_underlying j,sizeOf,typeInfo,k,p,g,q]
  |some a=>
   simp only[aiB]at g
   simp[aiL,run_underlying h,run_underlying j,sizeOf,typeInfo,k,p,g,q,storeCells]
 .refine ⟨_,?_,.inr ⟨b,o,cells,T,rfl,s,D,rfl⟩⟩
  have u:=vS (P:=P) (o+n*i.size) d 0 cells w s (by omega) A
  simp only[aiB]at u
  simp[aiL,run_underlying h,run_underlying j,sizeOf,typeInfo,k,p,g,q,jG,u]
def Mc{P:Program}{w:World}{t g ty e:TypeId}{i:TypeInfo}{z:Value}(k:P.underlying t=some (.slice e))(l:P.underlying g=some .string)(o:P.info? e=some i)(p:i.zero=some z){m:Nat}{f:List Value}{x:Value}(q:ya w m f x)
  (r:f.length=m*i.size) (d:Option Addr) (n c:Nat) (b:List Value) (h:b.length=n*i.size) (s:b=[]\/∃a,d=some a/\∀(j:Nat) (v:Value),b[j]?=some v->w.cell? (a.add j)=some v)
  (u:c<n+m) (y:n+m<=maxLen) (A:(n+m)*i.bytes<=140737488355328):
  (aiL #[t,g] ty #[.slice d n c,x]).run P w= .ok (.slice (some ⟨w.heap.size,0,none⟩) (n+m) (grownCap w (n+m) c e))
   (w.drew.alloc (.cells ((b++f).toArray++aiy z.cells (grownCap w (n+m) c e-(n+m))) e)):=by
 have⟨B,C⟩:=QK (P:=P) q r
 have D:=C w.drew rfl
 have hn:¬(n+m<=c):=by omega
 have E:¬(9223372036854775807< ((n:Int)+(m:Int))):=by unfold maxLen at y;omega
 have I:=growslice_fits u A
 have F:¬(281474976710656<alN (n+m) c*i.bytes):=by omega
 have G:(ai4 i.size n (.slice d n c)).run P w.drew= .ok b.toArray w.drew:=by
  rcases s with rfl|⟨a,rfl,hc⟩
  .have H:n*i.size=0:=by simpa using h.symm
   cases d with
   |none=>simp[ai4]
   |some a=>simp[ai4,loadCells,H,loadCellsFrom]
  .exact run_firstCells_some (P:=P) w.drew i.size n a n c b h (by simpa using hc)
 simp[aiL,run_underlying k,run_underlying l,sizeOf,typeInfo,zeroValue,o,p,B,hn,E,F,al0,D,G,newRow,grownCap]
 grind
theorem afV(a:List UInt8):((ofB a).map rp).flatten=a.map fun b=>(.v (.int .u8 (b.toNat:Int)):ab):=by
 induction a with
 |nil=>rfl
 |cons b a c=>grind [ofB]
def Vp{P:Program}{d:az}{ah H':List Ob}(C:aZ d ah){av t' ty:TypeId}{s:ab}{ys:Value}{v:aw}{F:List UInt8}(J:P.underlying t'=some .string)(hs:aB d s ys)(h:uP P ah av s ((ofB F).map rp)=some (v,H')):
  ∃aa Γ',(aiL #[av,t'] ty #[ys,.string ⟨F.toArray⟩]).run P d.w= .ok aa Γ'.w/\d.cL Γ'/\aZ Γ' H'/\aL Γ' v aa:=by
 unfold uP at h
 split at h
 case h_2=>cases h
 rename_i e bi bytes ax aV
 split at h
 case isFalse=>cases h
 rename_i aW
 have⟨ay,D⟩:=aW
 obtain⟨new,aA⟩:∃new,new=(ofB F).map rp:=⟨_,rfl⟩
 rw[<-aA]at h D
 obtain⟨K,i,zv,L,rfl,rfl,hz,aC,bj⟩:=jz aV
 have aD:new.length=F.length:=by grind [ofB]
 obtain⟨yx,aE⟩:∃yx:Value,yx= .string ⟨F.toArray⟩:=⟨_,rfl⟩
 obtain⟨m,aX⟩:∃m,m=strCells ⟨F.toArray⟩:=⟨_,rfl⟩
 have M:aY d new.flatten m:=by grind [(afV),(tW),Lib.strCells,aB,aiw]
 have t:m.length=new.length*i.size:=by
  have:=fI M
  rw[this]
  clear h
  rw[List.length_flatten]
  have:∀l:List (List ab),(∀r∈l,r.length=i.size)->(l.map List.length).sum=l.length*i.size:=by
   intro l
   induction l with
   |nil=>simp
   |cons ai l ih=>grind
  exact this new D
 have G:ya d.w new.length m yx:=⟨⟨F.toArray⟩,aE,by rw[aD];rfl,aX⟩
 rw[<-aE]
 have S:=uZ M
 have aF:∀(need aj:Nat),need<=maxLen->grownCap d.w need aj e<=maxLen:=fun need aj hm=>grownCap_le_maxLen d.w need aj e hm
 split at h
 .
  split at h
  case isFalse=>cases h
  rename_i U
  cases h
  simp only[aB]at hs
  obtain⟨rfl,_⟩:=hs
  by_cases hm:new.length=0
  .have V:new=[]:=ae4 hm
   subst V
   have⟨H,n,p⟩:=zO (zz:=0) (P:=P) (ty:=ty) K J L G t S none 0 0 (by simp) (.inl rfl)
   have:H=d.w:=by
    rcases p with⟨_,p⟩|⟨b,o,cells,T,q,_⟩
    .exact p
    .cases q
   subst this
   refine⟨_,d.lT,n,JJ d,A3 C _,?_⟩
   grind [aL,aB,az.lT,(aZ.len)]
  .have n:=Mc (P:=P) (ty:=ty) K J L hz G t none 0 0 [] (by simp) (.inl rfl) (by omega) (by simpa using U.1) (by simpa using U.2)
   simp only[aiW,aiD]at n
   have ad:=grownCap_ge d.w new.length 0 e
   have ae:=sR C
   have a3:=(tc d).trans (sL ae (m.toArray++aiy zv.cells (grownCap d.w new.length 0 e-new.length)) e ⟨some d.w.heap.size,0,grownCap d.w new.length 0 e,i.size⟩)
   refine⟨_,_,n,a3,rF ae _ e (grownCap d.w new.length 0 e) i.size new (aF _ _ U.1) ad ay ?_ D m (G9 (pg d) _ _ M) (Ab (zs:=(aiy zv.cells (grownCap d.w new.length 0 e-new.length)).toList) (by simp)),?_⟩
   .simp only[aj5,ajt,size_zeroCells,aC,t, <-air]
    exact aj8 (by congr 1;omega)
   grind [aL,aB,az.alloc,(aZ.len)]
 .
  rename_i h y f g
  split at h
  case h_2=>cases h
  rename_i zz rows N
  split at h
  case isFalse=>cases h
  rename_i U
  obtain⟨bk,rfl,ak,aG⟩:=U
  cases h
  have a4:=C.obj N
  have⟨a,E,hm,q⟩:=a4
  have bl:h<ah.length:=(abW.1 (eP N)).1
  have a5:h<d.hs.length:=by grind
  simp only[aB]at hs
  obtain⟨bm,bn,ai,cap,aH,_,rfl,hv⟩:=hs
  rw[E]at aH
  cases aH
  have hv:=hv rfl
  have I:((rows.drop f).take g).length=g:=by grind
  by_cases af:g+new.length<=cap
  .
   rcases hv with⟨u,rfl,rfl,rfl,rfl⟩|⟨b,a',u,rfl,rfl,a6,W⟩
   .
    have V:new=[]:=ae4 (by omega)
    subst V
    simp only[u]at q
    subst q
    have⟨H,n,p⟩:=zO (zz:=0) (P:=P) (ty:=ty) K J L G t S none 0 0 (by simp) (.inl rfl)
    have:H=d.w:=by
     rcases p with⟨_,p⟩|⟨b,o,cells,T,q,_⟩
     .exact p
     .cases q
    subst this
    refine⟨_,d.bump h a (y+1),n,⟨zy E (by omega),rfl,rfl,rfl,ad3 _,fun _ _ _=>rfl,fun _ _ h=> .inl h,fun _ h=> .inl h⟩,by simpa using Q2 C (eP N) E u,?_⟩
    grind [aL,aB,az.bump]
   .simp only[u]at q
    have⟨x,Y,hF,a7,al,cells,T,O,aI,Q⟩:=q
    have aJ:=C.X b Y
    have aK:a.off+f*a.sz+(a.cap-f)*a.sz<=cells.size:=by
     rw[ajg, <-air,show f+(a.cap-f)=a.cap by omega];exact aI
    by_cases am:new.length=0
    .
     have V:new=[]:=ae4 am
     subst V
     have⟨H,n,p⟩:=zO (zz:=0) (P:=P) (ty:=ty) K J L G t S (some a') g (a.cap-f) (by simpa using af) (.inl rfl)
     have an:H=d.w:=by
      rcases p with⟨_,p⟩|⟨b2,o2,ao,T2,_,ap,_,p⟩
      .exact p
      .have a8:m=[]:=ae4 (by simpa using t)
       subst a8
       rw[p]
       have:(spliced ao.toList (o2+g*i.size) []).toArray=ao:=by simp[spliced]
       rw[this]
       exact ap.self
     subst an
     have A:d.Le (d.bH d.w h ⟨some b,a.off+f*a.sz,a.cap-f,a.sz⟩ (y+1) b):=pQ E (.inl (by omega)) (fun _ _ _=>rfl)
     refine⟨_,d.bH d.w h ⟨some b,a.off+f*a.sz,a.cap-f,a.sz⟩ (y+1) b,n,⟨A,rfl,rfl,rfl,ad3 _,fun _ _ _=>rfl,fun _ _ h=> .inl h,fun c hc=>?_⟩,?_,?_⟩
     .rcases hc with hc|hc
      .exact .inl hc
      .exact .inl (hc▸Y)
     .refine am5 (Γ':=d.bH d.w h ⟨some b,a.off+f*a.sz,a.cap-f,a.sz⟩ (y+1) b) C (eP N) E A rfl rfl (fun c=>alc) (ad3 _) rfl (fun _ _ _=>rfl) (.inl u) aJ (by simp only;omega) ?_ al x cells T O aK ?_
      .simp only[aeU,I];omega
      .simp only[aeU]
       exact mY fun k r B=>by
        have:=jL (kJ (ml Q f) g) B
        exact⟨this.1,tq A b _ r (fun _ _ _=>rfl) this.2⟩
     grind [aL,aB,az.bH]
    .have W:=W (by omega)
     subst W
     have Z:a.off+f*a.sz+g*i.size+m.length<=cells.size:=by
      have h2:(g+new.length)*a.sz<=(a.cap-f)*a.sz:=aiN _ af
      rw[air]at h2
      rw[t, <-x]
      omega
     have⟨H,n,p⟩:=zO (P:=P) (ty:=ty) K J L G t S (some ⟨b,a.off+f*a.sz,none⟩) g (a.cap-f) af (.inr ⟨b,_,cells,T,rfl,O,Z⟩)
     have an:H=d.w.setRow b (spliced cells.toList (a.off+f*a.sz+g*i.size) m).toArray:=by
      rcases p with⟨h0,_⟩|⟨b2,o2,ao,T2,aM,ap,_,p⟩
      .exact absurd h0 am
      .simp only[ab1,Addr.mk.injEq,and_true]at aM
       obtain⟨rfl,rfl⟩:=aM
       obtain⟨rfl,rfl⟩:=O.Mf ap
       exact p
     subst an
     have aq:dE a.sz (d.w.setRow b (spliced cells.toList (a.off+f*a.sz+g*i.size) m).toArray) b (spliced cells.toList (a.off+f*a.sz+g*i.size) m).toArray T:=O.set (by simp only[ajt];rw[pV (by simpa using Z)];simp)
     have ag:∀c,c≠b->(d.w.setRow b (spliced cells.toList (a.off+f*a.sz+g*i.size) m).toArray).heap[c]?=d.w.heap[c]?:=fun c ar=>setRow_other d.w b c _ ar
     have A:d.Le (d.bH (d.w.setRow b (spliced cells.toList (a.off+f*a.sz+g*i.size) m).toArray) h ⟨some b,a.off+f*a.sz,a.cap-f,a.sz⟩ (y+1) b):=
      pQ E (.inl (by omega)) (fun c ax a9=>ag c (fun e=>hF ax (e▸a9)))
     have aN:(spliced cells.toList (a.off+f*a.sz+g*i.size) m).length=cells.size:=by rw[pV (by simpa using Z)];simp
     refine⟨_,d.bH (d.w.setRow b (spliced cells.toList (a.off+f*a.sz+g*i.size) m).toArray) h ⟨some b,a.off+f*a.sz,a.cap-f,a.sz⟩ (y+1) b,n,⟨A,rfl,rfl,rfl,by simp[az.bH],fun c _ ba=>ag c (fun e=>ba (e▸Y)),fun _ _ h=> .inl h,fun c hc=>?_⟩,?_,?_⟩
     .rcases hc with hc|hc
      .exact .inl hc
      .exact .inl (hc▸Y)
     .refine am5 (Γ':=d.bH (d.w.setRow b (spliced cells.toList (a.off+f*a.sz+g*i.size) m).toArray) h ⟨some b,a.off+f*a.sz,a.cap-f,a.sz⟩ (y+1) b) C (eP N) E A rfl rfl (fun c=>alc) (by simp[az.bH]) rfl (fun c _ ar=>ag c ar) (.inl u) (by simpa[az.bH]using aJ) (by simp only;omega) ?_ al x _ T aq (by simp[aN];exact aK) ?_
      .simp only[agc,I];omega
      .have au:∀j,(d.bH (d.w.setRow b (spliced cells.toList (a.off+f*a.sz+g*i.size) m).toArray) h ⟨some b,a.off+f*a.sz,a.cap-f,a.sz⟩ (y+1) b).w.cell? ⟨b,j,none⟩=if a.off+f*a.sz+g*i.size<=j/\j<a.off+f*a.sz+g*i.size+m.length then m[j-(a.off+f*a.sz+g*i.size)]? else cells[j]?:=by
        intro j
        rw[show(d.bH (d.w.setRow b (spliced cells.toList (a.off+f*a.sz+g*i.size) m).toArray) h ⟨some b,a.off+f*a.sz,a.cap-f,a.sz⟩ (y+1) b).w=d.w.setRow b (spliced cells.toList (a.off+f*a.sz+g*i.size) m).toArray from rfl,dE.cell aq]
        have:=wS (cur:=cells.toList) (o:=a.off+f*a.sz+g*i.size) (vs:=m) (by simpa using Z) j
        simpa using this
       refine wm ?_ ?_
       .have h2:=kJ (ml Q f) g
        refine rM A b a.sz _ _ (fun j a1 a2=>?_) h2
        rw[I]at a2
        rw[au,if_neg ?_,dE.cell O]
        simp only at a1 a2
        rw[x]at a2
        rw[x]
        omega
       .rw[I]
        refine mY fun k r B=>⟨by rw[x];exact D r (aiJ B),nS fun R l aO=>?_⟩
        have bb:k<new.length:=(abW.1 B).1
        have aP:r.length=i.size:=D r (aiJ B)
        have bo:R<r.length:=(abW.1 aO).1
        have bc:new.flatten[k*i.size+R]?=some l:=by
         clear M n G aA aD t S Z p aq ag A aN au aG ak af am
         induction new generalizing k with
         |nil=>simp at B
         |cons aQ xs ih=>
          simp only[aiI]
          have aR:aQ.length=i.size:=D aQ (by simp)
          cases k with
          |zero=>
           simp at B
           subst B
           rw[abE (by omega)]
           simpa using aO
          |succ k=>
           rw[aea (by rw[aR,air];omega),aR,show(k+1)*i.size+R-i.size=k*i.size+R by rw[air];omega]
           exact ih (fun aa hy=>D aa (by simp[hy])) k (by simpa using B) (by simpa using bb)
        have⟨v',g1,g2⟩:=kX M bc
        refine⟨v',?_,lI A _ _ g2⟩
        have bd:(k+1)*i.size<=new.length*i.size:=aiN _ (by omega)
        rw[air]at bd
        rw[au,if_pos ?_]
        .rw[<-x]at g1|-
         rw[show a.off+f*a.sz+g*a.sz+k*a.sz+R-(a.off+f*a.sz+g*a.sz)=k*a.sz+R by omega]
         exact g1
        .simp only
         rw[t,x]
         omega
     grind [aL,aB,az.bH]
  .
   have be:∃z,aY d ((rows.drop f).take g).flatten z/\z.length=g*i.size/\(z=[]\/∃a0,ai=some a0/\∀(j:Nat) (v:Value),z[j]?=some v->d.w.cell? (a0.add j)=some v):=by
    rcases hv with⟨u,rfl,rfl,rfl,rfl⟩|⟨b,a',u,rfl,rfl,a6,W⟩
    .exact ⟨[],by simp[aY],by simp,.inl rfl⟩
    .simp only[u]at q
     have⟨x,Y,hF,a7,al,cells,T,O,aI,Q⟩:=q
     have⟨z,g1,g2,g3⟩:=tH (kJ (ml Q f) g)
     refine⟨z,g1,by rw[g2,I,x],?_⟩
     by_cases bf:g=0
     .left
      exact ae4 (by rw[g2,I,bf];simp)
     .right
      refine⟨a',rfl,fun j v hj=>?_⟩
      rw[W (by omega),jG]
      exact g3 j v hj
   have⟨z,bg,aS,bh⟩:=be
   have n:=Mc (P:=P) (ty:=ty) K J L hz G t ai g cap z aS bh (by omega) ak aG
   have ad:=grownCap_ge d.w (g+new.length) cap e
   have ae:=sR C
   have aP:∀r∈(rows.drop f).take g,r.length=i.size:=by
    intro r n
    have aT:r∈rows:=ajY (ajA n)
    cases u:a.base with
    |none=>
     simp only[u]at q
     subst q
     cases aT
    |some b=>
     simp only[u]at q
     have⟨x,_,_,_,_,_,_,_,_,Q⟩:=q
     rw[<-x]
     exact Oh Q r aT
   have aU:=NO (new:=(rows.drop f).take g++new) ae (eP N) E ((z++m).toArray++aiy zv.cells (grownCap d.w (g+new.length) cap e-(g+new.length))) e (grownCap d.w (g+new.length) cap e) i.size
    (aF _ _ ak) (by simp only[agc,I];exact ad) ay ?_ ?_ (z++m) ?_ ?_
   .exact ⟨_,_,n,(tc d).trans aU.1,aU.2,by
     simp only[aL,aB]
     refine⟨_,y+1,some ⟨d.w.heap.size,0,none⟩,grownCap d.w (g+new.length) cap e,by simp[az.bH,az.drew,a5];rfl,ad3 _,rfl,fun _=> .inr ⟨d.w.heap.size,_,rfl,rfl,by simp,by simpa using ad,fun _=>by simp⟩⟩⟩
   .simp only[aj5,ajt,agc,size_zeroCells,aC,t,aS, <-air]
    exact aj8 (by congr 1;omega)
   .intro r n
    rcases ain.1 n with n|n
    .exact aP r n
    .exact D r n
   .rw[alI]
    exact G9 (pg d) _ _ (su bg M)
   grind
 .cases h
end Go.Nx
namespace Go.Nx
variable{P:Program}{t k:TypeId}{Γ:az}{w:World}{H:List Ob}
theorem LN(h:sw P t=true):∃k e i,P.underlying t=some (.map k e)/\P.info? e=some i/\i.zero=some (.pointer none)/\eqs P k=some [.int,.int]/\yV P k=true:=by grind [sw,Me]
theorem GL{d:List ab}{a b:Int}(h:iF d=some [a,b]):d=[I a,I b]:=by
 match d,h with
 |[],h=>simp[iF]at h
 |l::r,h=>
  unfold iF at h;split at h
  .grind
  .rename_i n g e;simp only[aiA]at e;obtain⟨rfl,rfl⟩:=e;split at h
   .rename_i i c;simp only[ab1,aiA]at h;obtain⟨rfl,rfl⟩:=h;unfold iF at c;split at c
    .cases c
    .rename_i m j;split at c
     .rename_i k f;simp only[ab1,aiA]at c;obtain⟨rfl,rfl⟩:=c;unfold iF at f;grind
     .cases c
    .cases c
   .cases h
  .cases h
theorem yN{a b:Int}{c:Array Value}(h:aY Γ [I a,I b] c.toList):c= #[.int .i64 a,.int .i64 b]:=by grind [aY,aB]
def PJ(h:yV P k=true)(em:Bool)(a b:Int):(akU em 10000 k (.agg #[.int .i64 a,.int .i64 b])).run P w= .ok () w:=by
 unfold yV at h;split at h
 .rename_i d e;split at h
  .rename_i f g i;simp only[abR,decide_eq_true_eq]at h;obtain⟨⟨⟨⟨⟨r,s⟩,u⟩,v⟩,j⟩,l⟩:=h;have m:d= #[f,g]:=by apply akF;simpa using i
   subst m
   have x:∀t (n:Int),(ik P t).isSome=true->(akU em 9999 t (.int .i64 n)).run P w= .ok () w:=by
    intro t n c;unfold ik at c;split at c
    .rename_i y o;rw[show(9999:Nat)=9998+1 from rfl,akU];simp only[aiT,run_underlying o,aiG,akW]
    .cases c
   have p:=AJ (P:=P) (w:=w) j [.int .i64 a,.int .i64 b] 0 (by simp) (fun _=>rfl);have q:=AJ (P:=P) (w:=w) l [.int .i64 a,.int .i64 b] 1 (by simp) (fun _=>rfl);simp only[aes,if_false,akn,List.drop_succ_cons,alF,List.take_zero,List.headD_cons]at p q;rw[show(10000:Nat)=9999+1 from rfl,akU];simp only[aiT,run_underlying e,aiG];simp_all
  .cases h
 .cases h
theorem U2{Γ:az}(h:eqs P k=some [.int,.int])(a b c d:Int):(Op.equal k (.agg #[.int .i64 a,.int .i64 b]) (.agg #[.int .i64 c,.int .i64 d])).run P w= .ok ((a==c)&&(b==d)) w:=by
 unfold eqs at h;split at h
 case h_2=>cases h
 rename_i e f;split at h
 case isTrue=>cases h
 have g:=Hf (P:=P) (w:=w) (Γ:=Γ) 8 k [.int,.int] h [I a,I b] [I c,I d] [.int .i64 a,.int .i64 b] [.int .i64 c,.int .i64 d] ((a==c)&&(b==d)) (by simp[aY,aB,aiw]) (by simp[aY,aB,aiw]) (by simp[eL,lR]) 10000 (by omega);grind [lu,Op.equal,Op.maxDepth]
theorem Jt{P:Program}{Γ:az}{w:World}{k:TypeId}(h:eqs P k=some [.int,.int])(a b:Int)(x:ab):∀(f:List (List ab×ab)) (g:List MapEntry) (i:Nat),nz f=true->f.length=g.length->
  (∀(j:Nat) (p:List ab×ab) (e:MapEntry),f[j]?=some p->g[j]?=some e->wQ Γ e p)->
  (dY f [a,b]=none/\(ajL k (.agg #[.int .i64 a,.int .i64 b]) g i).run P w= .ok none w/\gQ f [a,b] x=f++[([I a,I b],x)])\/
  (∃j v e,dY f [a,b]=some v/\f[j]?=some ([I a,I b],v)/\g[j]?=some e/\(ajL k (.agg #[.int .i64 a,.int .i64 b]) g i).run P w= .ok (some (i+j,e.val)) w/\gQ f [a,b] x=f.set j ([I a,I b],x))
 |[],g,i,_,m,_=>by
  have:g=[]:=ae4 (by grind)
  subst this
  exact .inl ⟨rfl,by simp[ajL],rfl⟩
 |p::r,[],i,_,m,_=>by simp at m
 |(K,v)::r,e::g,i,q,m,s=>by
  simp only[nz,abR]at q
  have⟨t,A⟩:=q
  split at t
  case h_2=>cases t
  rename_i c d B
  have:=GL B
  subst this
  have⟨⟨L,C,D⟩,M⟩:=s 0 _ e rfl rfl
  have E:=yN D
  subst E
  have l:=U2 (P:=P) (Γ:=Γ) (w:=w) h a b c d
  rw[<-C]at l
  by_cases F:a=c/\b=d
  .obtain ⟨rfl,rfl⟩:=F
   refine .inr ⟨0,v,e,by simp[dY,iF],rfl,rfl,?_,by simp[gQ,iF,I]⟩
   simp only[ajL,aiT,l,aiG]
   simp
  .have u:¬(iF [I c,I d]=some [a,b]):=by grind
   have G:((a==c)&&(b==d))=false:=by grind
   rw[G]at l
   rcases Jt h a b x r g (i+1) A (by grind) (fun j p n hp N=>s (j+1) p n (by grind) (by grind))with⟨y,o,z⟩|⟨j,H,n,y,o,z,O,J⟩
   .refine .inl ⟨by grind [dY],?_,by grind [gQ]⟩
    simp only[ajL,aiT,l,aiG,aes,if_false]
    exact o
   .refine .inr ⟨j+1,H,n,by simp only[dY];rw[if_neg u];exact y,by simpa using o,by simpa using z,?_,by simp only[gQ];rw[if_neg u,J];rfl⟩
    grind [ajL,(aiT),(aiG)]
def N0(h:eqs P k=some [.int,.int])(x:Value)(a:List MapEntry):(amA k x a).run P w=(ajL k x a 0).run P w:=by
 unfold eqs at h;split at h
 case h_2=>cases h
 rename_i c b;simp only[amA,aiT,run_underlying b,aiG];cases a with
 |nil=>rfl
 |cons e a=>rfl
theorem T7{g:List Ob}(F:aZ Γ H){l m x:aw}{n o:Value}(hm:aL Γ l n)(q:aL Γ m o)(h:nK P H t (some l) (some m)=some (x,g)):
  g=H/\∃y,(alM t n o false).run P Γ.w= .ok y Γ.w/\aL Γ x y:=by
 unfold nK at h
 split at h
 case h_2=>cases h
 rename_i Y Z G I
 cases G
 cases I
 split at h
 case h_2=>cases h
 rename_i J a b K L M
 split at h
 case isFalse=>cases h
 rename_i N
 cases h
 refine⟨rfl,?_⟩
 have⟨k,e,i,r,O,Q,s,R⟩:=LN K
 have:=GL M
 subst this
 simp only[aL,aB]at hm q
 obtain⟨ks,rfl,S⟩:=q
 have T:=yN S
 subst T
 obtain⟨aa,ab,ad,u,rfl,U⟩:=hm
 have⟨ae,b',V,W,hX,hF,d,af,z,o4,A⟩:=F.ob _ _ L
 rw[V]at u
 cases u
 obtain⟨b2,B,rfl⟩:=U rfl
 rw[W]at B
 cases B
 have C:=PJ (P:=P) (w:=Γ.w) R d.isEmpty a b
 have c:=N0 (P:=P) (w:=Γ.w) s (.agg #[.int .i64 a,.int .i64 b]) d.toList
 rcases Jt (P:=P) (Γ:=Γ) (w:=Γ.w) s a b (.v .nilIface) J d.toList 0 N (by grind) (fun j p e hp he=>A j p e hp (by grind))with⟨D,f,_⟩|⟨j,v,E,D,f,g3,X,_⟩
 .rw[f]at c
  refine⟨.pointer none,?_,by grind [aL,aB,aiw]⟩
  simp[alM,run_underlying r,akD z,C,c,zeroValue,typeInfo,O,Q,ajd]
 .rw[X]at c
  refine⟨E.val,?_,?_⟩
  .simp[alM,run_underlying r,akD z,C,c,ajd]
  .rw[D]
   simp only[ai0,aL]
   exact(A j _ E f (by grind)).2
theorem aZ.inPlace(g:aZ Γ H){f b:Nat}{o o':Ob}{k:fm}{c:Obj}(l:H[f]?=some o)(t:o.there=true)(u:Γ.hs[f]?=some (k,0))(x:k.base=some b)(hc:∃A,Γ.w.heap[b]?=some A)
  (hn:∀a,Γ.Le a->a.hs=Γ.hs->a.X b->(∀z, ¬a.F b z)->a.w.heap[b]?=some c->nY a f o'):
  ∃a,a.w={Γ.w with heap:=Γ.w.heap.setIfInBounds b c}/\Γ.cL a/\aZ a (H.set f o')/\a.hs=Γ.hs:=by
 have⟨m,y⟩:=(g.ob _ _ l).own t u x
 have B:f<H.length:=(abW.1 l).1
 have C:=g.X b m
 let a:az:={Γ with w:={Γ.w with heap:=Γ.w.heap.setIfInBounds b c}}
 have p:∀j,j≠b->a.w.heap[j]?=Γ.w.heap[j]?:=fun j d=>by
  simp only[a]
  rw[akG (fun e=>d e.symm)]
 have r:Γ.Le a:=⟨fun _ _ h=>h,fun j z d=>p j (fun e=>y z (e▸d)),fun n i v D=>⟨i,v,D,ad3 _,fun _=>rfl⟩⟩
 have E:a.w.heap[b]?=some c:=by
  simp only[a]
  rw[Array.getElem?_setIfInBounds_self_of_lt C]
 have G:uW Γ H f b:= .inr ⟨o,k,0,l,t,u,x⟩
 refine⟨a,rfl,⟨r,rfl,rfl,rfl,by simp[a],fun j _ d=>p j (fun e=>d (e▸m)),fun _ _ h=> .inl h,fun _ h=> .inl h⟩,?_,rfl⟩
 refine g.put r f (by simp[a,g.len]) (fun n I=>⟨aat (fun e=>I e.symm),rfl⟩) (fun q s=>?_) (fun q J v K s _ L M=>?_) (fun j d hm=>p j (fun e=>hm (e▸G)))
  (fun _ _ h=> .inl h) (fun _ h=>h) (fun j z d=>by have:=g.F j z d;simpa[a]using this) (fun j d=>by have:=g.X j d;simpa[a]using this)
 .rw[ahr B]at s
  cases s
  exact hn a r rfl m y E
 grind
def aqs(a b:Int):amp 10000 (.agg #[.int .i64 a,.int .i64 b]) (.agg #[.int .i64 a,.int .i64 b])=true:=by rw[show(10000:Nat)=9999+1 from rfl];simp[amp]
theorem wQ.mono{a:az}(b:Γ.Le a){e:MapEntry}{p:List ab×ab}(h:wQ Γ e p):wQ a e p:=by have⟨⟨c,d,f⟩,g⟩:=h;exact⟨⟨c,d,G9 b _ _ f⟩,lI b _ _ g⟩
theorem UY{L:List Ob}(r:aZ Γ H){M N O x:aw}{Q R s:Value}(hm:aL Γ M Q)(S:aL Γ N R)(z:aL Γ O s)(h:qW P H t (some M) (some N) (some O)=some (x,L)):
  x=unit/\∃d,(aln t Q R s).run P Γ.w= .ok () d.w/\Γ.cL d/\aZ d L:=by
 unfold qW at h
 split at h
 case h_2=>cases h
 rename_i hd kl A e1 e2 e3
 cases e1
 cases e2
 cases e3
 split at h
 case h_2=>cases h
 rename_i g a b ht B ae
 split at h
 case isFalse=>cases h
 rename_i af
 cases h
 refine⟨rfl,?_⟩
 have⟨k,e,i,T,hi,an,U,ag⟩:=LN ht
 have:=GL ae
 subst this
 simp only[aL,aB]at hm S z
 obtain⟨ks,rfl,C⟩:=S
 have ah:=yN C
 subst ah
 obtain⟨V,ao,ap,W,rfl,m2⟩:=hm
 have⟨aq,Y,u,l,hX,hF,m,D,f,Z,o5⟩:=r.ob _ _ B
 rw[u]at W
 cases W
 obtain⟨b2,n1,rfl⟩:=m2 rfl
 rw[l]at n1
 cases n1
 have ar:=r.X _ hX
 have aa:=PJ (P:=P) (w:=Γ.w) ag false a b
 have n:=N0 (P:=P) (w:=Γ.w) U (.agg #[.int .i64 a,.int .i64 b]) m.toList
 rcases Jt (P:=P) (Γ:=Γ) (w:=Γ.w) U a b A g m.toList 0 af (by grind) (fun j p e hp he=>o5 j p e hp (by grind))with⟨g1,y,g3⟩|⟨j,v,e',g1,y,g3,g4,g5⟩
 .rw[y]at n
  have⟨d,E,F,G,r4⟩:=r.inPlace (o':= .mp (gQ g [a,b] A)) (c:= .map (m.push ⟨.agg #[.int .i64 a,.int .i64 b],s,D⟩) (D+1)) B rfl u l ⟨_,f⟩ (fun d o ab I J K=>by
   refine⟨V,Y,by grind,l,I,J,_,_,K,by grind,fun j p ai hp q=>?_⟩
   rw[g3]at hp
   by_cases hj:j<g.length
   .grind [(wQ.mono)]
   .have aj:j=g.length:=by grind
    subst aj
    rw[aea (ad3 _)]at hp
    simp only[ajB,ale,ab1]at hp
    subst hp
    rw[<-Z,Array.getElem?_push_size]at q
    cases q
    exact⟨⟨_,rfl,G9 o _ _ C⟩,lI o _ _ z⟩)
  refine⟨d,?_,F,G⟩
  rw[E]
  simp[aln,run_underlying T,akD f,aa,n,MapKept.run_setObj_map _ f,ajd]
 .rw[g4]at n
  simp only[aiW]at n
  have⟨⟨au,q1,q2⟩,q3⟩:=o5 j _ e' y (by grind)
  have ak:=yN q2
  subst ak
  have ad:m[j]?=some e':=by grind
  have⟨d,E,F,G,r4⟩:=r.inPlace (o':= .mp (gQ g [a,b] A)) (c:= .map (m.modify j fun e=>{e with key:= .agg #[.int .i64 a,.int .i64 b],val:=s}) D) B rfl u l ⟨_,f⟩ (fun d o ab I J K=>by
   refine⟨V,Y,by rw[ab];exact u,l,I,J,_,_,K,by rw[g5];simp[Z],fun al p ai hp q=>?_⟩
   rw[g5]at hp
   by_cases hm:j=al
   .subst hm
    rw[ahr (abW.1 y).1]at hp
    rw[ajT,if_pos rfl,ad]at q
    cases hp
    cases q
    exact⟨⟨_,rfl,G9 o _ _ C⟩,lI o _ _ z⟩
   grind [(wQ.mono)])
  refine⟨d,?_,F,G⟩
  rw[E]
  have am:=aqs a b
  simp[aln,run_underlying T,akD f,aa,n,ad,q1,Instr.keyThatStays,am,MapKept.run_setObj_map _ f,ajd]
end Go.Nx
namespace Go.Nx
def az.fresh(a:az)(c:Obj):az:=
 {w:=a.w.alloc c,F:=a.F,X:=fun b=>a.X b\/b=a.w.heap.size,hs:=a.hs++[(⟨some a.w.heap.size,0,0,0⟩,0)]}
def QD{a:az}{H:List Ob}(e:aZ a H)(c:Obj)(o:Ob)(hn:(a.fresh c).hs[H.length]?=some (⟨some a.w.heap.size,0,0,0⟩,0)->(a.fresh c).X a.w.heap.size->(∀z, ¬(a.fresh c).F a.w.heap.size z)->(a.fresh c).w.heap[a.w.heap.size]?=some c->nY (a.fresh c) H.length o):
  a.cL (a.fresh c)/\aZ (a.fresh c) (H++[o])/\(a.fresh c).hs[H.length]?=some (⟨some a.w.heap.size,0,0,0⟩,0):=by
 have l:a.Le (a.fresh c):=⟨fun _ _ h=>h,fun b z d=>lV a.w _ b (e.F b z d),fun h i v r=>⟨i,v,by
  grind [az.fresh],ad3 _,fun _=>rfl⟩⟩
 have s:=e.len
 have j:(a.fresh c).hs[H.length]?=some (⟨some a.w.heap.size,0,0,0⟩,0):=by simp[az.fresh,e.len]
 have p:∀z, ¬(a.fresh c).F a.w.heap.size z:=fun z g=>by have:=e.F _ _ g;omega
 refine⟨⟨l,rfl,rfl,rfl,by simp[az.fresh],fun b d _=>lV a.w _ b d,fun b z d=> .inl d,fun b d=>d.imp id fun d=>by omega⟩,?_,j⟩
 refine e.put l H.length (by simp[az.fresh,e.len]) (fun n hn=>⟨ot _ _ _ hn,by grind [az.fresh]⟩) (fun q k=>?_) (fun q t v b k _ m d=>?_) (fun b d _=>lV a.w _ b d)
  (fun b z g=> .inl g) (fun b f=> .inl f) (fun b z g=>?_) (fun b f=>?_)
 .simp at k
  subst k
  exact hn j (.inr rfl) p (heap_alloc_new a.w _)
 .rw[j]at m
  cases m
  cases d
  exact .inl (ad3 _)
 .have:=e.F _ _ g
  simp[az.fresh];omega
 .rcases f with f|f
  .have:=e.X _ f
   simp[az.fresh];omega
  .simp[az.fresh];omega
def decode_ascii{s:ByteArray}{pos:Nat}{c:UInt8}(h:s.data.toList[pos]?=some c)(hc:c<128):Utf8.decode s pos=(c.toNat,1):=by
 have a:s.get! pos=c:=by
  have:s.data[pos]?=some c:=by simpa using h
  simp[ByteArray.get!,getElem!_def,this]
 grind [(UInt8.lt_iff_toNat_lt),Utf8.decode]
def ae3{P:Program}{a:az}{H k:List Ob}(e:aZ a H){v x:aw}{y:Value}(l:aL a v y)(h:yi H (some v)=some (x,k))(t:TypeId):
  ∃z d,(al4 y true t).run P a.w= .ok z d.w/\a.cL d/\aZ d k/\aL d x z:=by
 unfold yi at h
 split at h
 case h_2=>cases h
 rename_i L u
 cases u
 split at h
 case h_2=>cases h
 rename_i s pos m
 simp only[aL,aB]at l
 obtain⟨A,M,p,n,rfl,B⟩:=l
 have⟨N,b,o,f,O,Q,g⟩:=e.ob _ _ m
 rw[o]at n
 cases n
 obtain⟨R,q,rfl⟩:=B rfl
 rw[f]at q
 cases q
 have r:(getObj b).run P a.w= .ok (.stringIter s pos) a.w:=by simp[getObj,Sem.run,g]
 split at h
 .rename_i i
  split at h
  case h_2=>cases h
  rename_i c hc
  split at h
  case isFalse=>cases h
  rename_i C
  cases h
  have⟨d,D,E,F,S⟩:=e.inPlace (o':= .it s (pos+1)) (c:= .stringIter s (pos+1)) m rfl o f ⟨_,g⟩ (fun d T U G I J=>⟨A,b,by grind,f,G,I,J⟩)
  have K:(setObj b (.stringIter s (pos+1))).run P a.w= .ok () {a.w with heap:=a.w.heap.setIfInBounds b (.stringIter s (pos+1))}:=by
   simp[setObj,Sem.run,g]
  have j:pos<s.size:=i
  refine⟨.tuple #[.bool true,.int .i64 (pos:Int),.int .i32 (c.toNat:Int)],d,?_,E,F,?_⟩
  .rw[D]
   simp[al4,r,j,decode_ascii hc C,K,goInt,ajd]
  .simp only[aL,bT,aB]
   exact⟨_,rfl,_,_,rfl,⟨rfl,rfl⟩,_,_,rfl,⟨rfl,rfl⟩,_,_,rfl,⟨rfl,rfl⟩,rfl⟩
 .rename_i i
  cases h
  have j:¬pos<s.size:=i
  refine⟨.tuple #[.bool false],a,?_,.refl a,e,?_⟩
  .simp[al4,r,j,ajd]
  .simp only[aL,bT,aB]
   exact⟨_,rfl,_,_,rfl,⟨rfl,rfl⟩,rfl⟩
def TK{P:Program}{Γ:az}{t xt:TypeId}{v x:aw}{y:Value}(b:aL Γ v y)(h:zG P t (some v)=some x):∃z,(alv y xt t true).run P Γ.w= .ok z Γ.w/\aL Γ x z:=by
 unfold zG at h;split at h
 .rename_i l z e f a g;cases g;cases h;simp only[aL,aB]at b;obtain⟨rfl,_⟩:=b;have⟨i,m,c,d,n,j⟩:=xu f;have hc:=oJ (Γ:=Γ) j;unfold Np at a;rw[c]at a;simp only[d]at a;split at a
  case h_2=>cases a
  rename_i cs k;cases k;refine⟨.tuple #[.agg cs,.bool false],?_,?_⟩
  .simp[alv,run_underlying e,zeroValue,typeInfo,c,d,ajd]
  .simp only[aL,bT,aB];exact⟨_,rfl,.agg cs,[.bool false],rfl,⟨cs,rfl,hc⟩,_,_,rfl,⟨rfl,rfl⟩,rfl⟩
 .cases h
variable{P:Program}{Γ:az}{H:List Ob}{rows:List (List ab)}
def N2{w:World}{t e:TypeId}{b:Nat}(d:P.underlying t=some (.slice e))(f:(sizeOf e).run P w= .ok b w)(a:Option Addr)(n cap:Nat)(k c:IntKind)(l h:Int)(g:0<=l)(m:l<=h)(o:h<=cap):
  (ajy t (.slice a n cap) (some (.int k l)) (some (.int c h)) none).run P w= .ok (.slice (if cap=l.toNat then a else a.map (·.add (l.toNat*b))) (h.toNat-l.toNat) (cap-l.toNat)) w:=by
 have p:((h.toNat:Nat):Int)=h:=by omega
 have i:=amR (P:=P) (w:=w) c h cap .sliceAcap (by omega) (by omega)
 have j:=amR (P:=P) (w:=w) k l h.toNat .sliceB g (by omega)
 simp[ajy,run_underlying d,akO,ajX,f,j,i]
theorem adB(v:aZ Γ H){t e o:Nat}{p:Nat×List ab}{h f d q:Nat}{y:Value}(x:se P t=some (e,o,p))(hc:aB Γ (.sl h f d q) y)(A:obj H h f=some (o,rows))(k g:IntKind)(l m:Int)(B:0<=l)(C:l<=m)(D:(d:Int)+m<=rows.length):
  ∃z,(ajy t y (some (.int k l)) (some (.int g m)) none).run P Γ.w= .ok z Γ.w/\aB Γ (.sl h f (d+l.toNat) (m.toNat-l.toNat)) z:=by
 have⟨bytes,L⟩:=p
 obtain⟨r,i,M,E,rfl,_,_,_,_⟩:=jz x
 have s:(sizeOf e).run P Γ.w= .ok i.size Γ.w:=by simp[sizeOf,typeInfo,E]
 have⟨j,F,hm,c⟩:=v.obj A
 simp only[aB]at hc
 obtain⟨N,O,a,cap,u,_,rfl,G⟩:=hc
 rw[F]at u
 cases u
 rcases G rfl with⟨n,rfl,rfl,rfl,rfl⟩|⟨b,I,n,rfl,rfl,Q,R⟩
 .simp only[n]at c
  subst c
  simp at D
  have J:l=0:=by omega
  have K:m=0:=by omega
  subst J K
  refine⟨_,N2 (P:=P) (w:=Γ.w) r s none 0 0 k g 0 0 (by omega) (by omega) (by omega),?_⟩
  grind [aB]
 .simp only[n]at c
  have S:j.sz=i.size:=c.1
  have T:rows.length<=j.cap:=c.2.2.2.1
  refine⟨_,N2 (P:=P) (w:=Γ.w) r s (some I) q (j.cap-d) k g l m B C (by omega),?_⟩
  grind [aB,(jG)]
def Zc(m:aZ Γ H){h f lo z b:Nat}{new:List (List ab)}{a:fm}(y:obj H h f=some (z,rows))(n:Γ.hs[h]?=some (a,f))(p:a.base=some b)(Z:lo<=rows.length)(L:lo+new.length<=a.cap)(A:∀r∈new,r.length=z){d:List Value}(hn:aY Γ new.flatten d):
  ∃Γ',(storeCells ⟨b,a.off+lo*a.sz,none⟩ d).run P Γ.w= .ok () Γ'.w/\Γ.cL Γ'/\aZ Γ' (H.set h (.live f z (dT rows lo new))):=by
 have⟨i2,B,M,C⟩:=m.obj y
 rw[n]at B
 cases B
 simp only[p]at C
 have⟨i,q,N,aa,O,cells,T,k,Q,D⟩:=C
 have R:=m.X b q
 have E:d.length=new.length*z:=by rw[fI hn,tg A]
 have l:a.off+lo*a.sz+d.length<=cells.size:=by
  have S:(lo+new.length)*a.sz<=a.cap*a.sz:=aiN _ L
  rw[air]at S
  rw[E, <-i]
  omega
 have F:=vS (P:=P) (a.off+lo*a.sz) d 0 cells Γ.w k (by simpa using l) (uZ hn)
 simp only[aiB]at F
 have G:dE a.sz (Γ.w.setRow b (spliced cells.toList (a.off+lo*a.sz) d).toArray) b (spliced cells.toList (a.off+lo*a.sz) d).toArray T:=k.set (by simp only[ajt];rw[pV (by simpa using l)];simp)
 have s:∀c,c≠b->(Γ.w.setRow b (spliced cells.toList (a.off+lo*a.sz) d).toArray).heap[c]?=Γ.w.heap[c]?:=fun c t=>setRow_other Γ.w b c _ t
 have g:Γ.Le (Γ.bH (Γ.w.setRow b (spliced cells.toList (a.off+lo*a.sz) d).toArray) h a f b):=
  pQ n (.inr ⟨rfl,rfl⟩) (fun c z U=>s c (fun e=>N z (e▸U)))
 have V:(spliced cells.toList (a.off+lo*a.sz) d).length=cells.size:=by rw[pV (by simpa using l)];simp
 refine⟨Γ.bH (Γ.w.setRow b (spliced cells.toList (a.off+lo*a.sz) d).toArray) h a f b,F,⟨g,rfl,rfl,rfl,by simp[az.bH],fun c _ W=>s c (fun e=>W (e▸q)),fun _ _ h=> .inl h,fun c hc=>?_⟩,?_⟩
 .rcases hc with hc|hc
  .exact .inl hc
  .exact .inl (hc▸q)
 .have Y:(dT rows lo new).length<=a.cap:=by simp[dT];omega
  refine am5 (Γ':=Γ.bH (Γ.w.setRow b (spliced cells.toList (a.off+lo*a.sz) d).toArray) h a f b) m (eP y) n g rfl rfl (fun c=>alc) (by simp[az.bH]) p (fun c _ t=>s c t) (.inl p) (by simpa[az.bH]using R) M Y O i _ T G (by simp[V];exact Q) ?_
  have u:∀j,(Γ.bH (Γ.w.setRow b (spliced cells.toList (a.off+lo*a.sz) d).toArray) h a f b).w.cell? ⟨b,j,none⟩=if a.off+lo*a.sz<=j/\j<a.off+lo*a.sz+d.length then d[j-(a.off+lo*a.sz)]? else cells[j]?:=by
   intro j
   rw[show(Γ.bH (Γ.w.setRow b (spliced cells.toList (a.off+lo*a.sz) d).toArray) h a f b).w=Γ.w.setRow b (spliced cells.toList (a.off+lo*a.sz) d).toArray from rfl,dE.cell G]
   have:=wS (cur:=cells.toList) (o:=a.off+lo*a.sz) (vs:=d) (by simpa using l) j
   simpa using this
  have x:(rows.take lo).length=lo:=by simp;omega
  unfold dT
  refine wm (wm ?_ ?_) ?_
  .refine rM g b a.sz _ _ (fun j I J=>?_) (kJ D lo)
   rw[x]at J
   rw[u,if_neg (by omega),dE.cell k]
  .rw[x]
   refine Bi g (by rw[i];exact A) hn (fun j v K=>?_)
   have ad:=(abW.1 K).1
   rw[u,if_pos (by omega),show a.off+lo*a.sz+j-(a.off+lo*a.sz)=j by omega]
   exact K
  .rw[agc,x]
   refine rM g b a.sz _ _ (fun j I J=>?_) (ml D (lo+new.length))
   rw[u,if_neg ?_,dE.cell k]
   rw[E, <-i]
   rw[air]at I
   omega
theorem Ya{g:List Ob}(c:aZ Γ H){t ty:TypeId}{j m:aw}{n o:Value}{v:aw}(p:aL Γ j n)(q:aL Γ m o)(h:uL P H t (some j) (some m)=some (v,g)):
  ∃z a,(akH #[t,t] ty #[n,o]).run P Γ.w= .ok z a.w/\Γ.cL a/\aZ a g/\aL a v z:=by
 unfold uL at h
 split at h
 case h_2=>cases h
 rename_i el ab K hh ad d k h2 ae s l L M N
 cases M
 cases N
 split at h
 case h_2=>cases h
 rename_i z rows e b u O
 split at h
 case isFalse=>cases h
 rename_i hc
 obtain⟨rfl,rfl,x,Q,af⟩:=hc
 simp only[ab1,aca]at h
 obtain⟨rfl,rfl⟩:=h
 have⟨bytes,zl⟩:=K
 have⟨R,i,zv,S,T,_,hz,ag,_⟩:=jz L
 simp only[aL,aB]at p q
 obtain⟨ah,ai,aj,cap,y,_,rfl,U⟩:=p
 have⟨i2,A,ak,g2⟩:=c.obj u
 rw[y]at A
 cases A
 obtain⟨f,al,a2,am,j1,_,rfl,j3⟩:=q
 have⟨i3,B,an,C⟩:=c.obj O
 rw[j1]at B
 cases B
 rcases U rfl with⟨D,rfl,rfl,rfl,rfl⟩|⟨ao,a',D,rfl,rfl,ap,V⟩
 .simp at x
 rcases j3 rfl with⟨E,rfl,rfl,rfl,rfl⟩|⟨W,aq,E,rfl,rfl,ar,X⟩
 .simp at x
 simp only[E]at C
 have⟨F,au,av,ax,ay,az,T2,aA,aC,G⟩:=C
 obtain rfl:=V (by omega)
 obtain rfl:=X (by omega)
 have hk:(b.drop s).take (min k l)=(b.drop s).take (min k l):=rfl
 have⟨I,Y,J,u3⟩:=tH (kJ (ml G s) (min k l))
 have Z:((b.drop s).take (min k l)).length=min k l:=by grind
 rw[Z,F]at J
 have aa:∀r∈(b.drop s).take (min k l),r.length=e:=by
  intro r hr
  obtain⟨aD,hn,rfl⟩:=alH hr
  have:=(jL (kJ (ml G s) (min k l)) (abM hn)).1
  rw[this,F]
 have⟨a,e1,e2,e3⟩:=Zc (P:=P) (lo:=d) c u y D (new:=(b.drop s).take (min k l)) Q (by omega) aa Y
 have k4:(ai4 e (min k l) (.slice (some ⟨W,f.off+s*f.sz,none⟩) l (f.cap-s))).run P Γ.w= .ok I.toArray Γ.w:=
  run_firstCells_some (P:=P) (w:=Γ.w) e (min k l) _ l _ I J (fun aE v hj=>by grind [(jG)])
 refine⟨.int .i64 ((min k l:Nat):Int),a,?_,e2,e3,by simp[aL,aB,aiw]⟩
 have k5:Nat.min l k=min k l:=al6 l k
 have k6:min l k=min k l:=al6 l k
 simp[akH,run_underlying R,akf,sizeOf,typeInfo,S,T,goInt,k5,k4,e1]
theorem aci{Q:List Ob}(n:aZ Γ H){e:Env}{a:Act}{o:Oper}{x:aw}(j:∀p∈o.op.operands,Good Γ e a p)(h:cA P e H o.op=some (x,Q)):uf Γ ((execOp a.eval o).run P Γ.w) x Q:=by
 have⟨ah,U,ty,pos,ai,guard⟩:=o;simp only at j h;cases U with
 |convert s d y=>
  simp only[cA]at h;cases q:aX e y with
  |none=>grind [nH]
  |some v=>rw[q]at h;have⟨z,w,f,g,u,A⟩:=ZG n (j y (by simp[acH]) v q) h;exact⟨z,w,.inl (by simp[execOp,f]),g,u,A⟩
 |lookup t m k c=>
  cases c with
  |true=>simp[cA]at h
  |false=>
   simp only[cA]at h;cases hm:aX e m with
   |none=>grind [nK]
   |some V=>
    cases D:aX e k with
    |none=>grind [nK]
    |some W=>rw[hm,D]at h;obtain⟨rfl,z,f,g⟩:=T7 n (j m (by simp[acH]) _ hm) (j k (by simp[acH]) _ D) h;exact .val n (y:=z) (by simp[execOp,f]) g
 |mapUpdate t m k v=>
  simp only[cA]at h;cases hm:aX e m with
  |none=>grind [qW]
  |some V=>
   cases D:aX e k with
   |none=>grind [qW]
   |some W=>
    cases R:aX e v with
    |none=>grind [qW]
    |some vx=>rw[hm,D,R]at h;obtain⟨rfl,w,f,g,u⟩:=UY n (j m (by simp[acH]) _ hm) (j k (by simp[acH]) _ D) (j v (by simp[acH]) _ R) h;exact⟨undef,w,.inr ⟨by simp[execOp,f],rfl⟩,g,u,by simp only[aL,bT];exact⟨#[],rfl,rfl⟩⟩
 |makeMap t r=>
  cases r with
  |some r=>simp[cA]at h
  |none=>
   simp only[cA]at h;split at h
   .cases h;have⟨f,g,u⟩:=QD n (.map #[] 0) (.mp []) (fun f g u A=>⟨_,_,f,rfl,g,u, #[],0,A,rfl,fun aj p e hp=>by simp at hp⟩);refine⟨.map (some Γ.w.heap.size),Γ.fresh (.map #[] 0),.inl (by simp[execOp,Instr.makeMap,newObj,Sem.run,az.fresh,ajd]),f,g,?_⟩;grind [aL,aB]
   .cases h
 |range t y=>
  simp only[cA]at h;split at h
  .rename_i s q;split at h
   .rename_i G;cases h;have I:=tQ G;have hc:=j y (by simp[acH]) _ q;simp only[aL,aB]at hc;have⟨f,g,u⟩:=QD n (.stringIter s 0) (.it s 0) (fun f g u A=>⟨_,_,f,rfl,g,u,A⟩);refine⟨.pointer (some ⟨Γ.w.heap.size,0,none⟩),Γ.fresh (.stringIter s 0),.inl (by simp[execOp,Instr.range,hc.1,run_underlying I,newObj,Sem.run,az.fresh,ajd]),f,g,?_⟩;grind [aL,aB]
   .cases h
  .cases h
 |next i s=>
  cases s with
  |false=>simp[cA]at h
  |true=>
   simp only[cA]at h;cases q:aX e i with
   |none=>grind [yi]
   |some v=>rw[q]at h;have⟨z,w,f,g,u,A⟩:=ae3 (P:=P) n (j i (by simp[acH]) v q) h ty;exact⟨z,w,.inl (by simp[execOp,f]),g,u,A⟩
 |typeAssert y xt t c=>
  cases c with
  |false=>simp[cA]at h
  |true=>
   simp only[cA,ab4,aca]at h;obtain⟨x',l,rfl,rfl⟩:=h;cases q:aX e y with
   |none=>rw[q]at l;simp[zG]at l
   |some v=>rw[q]at l;have⟨z,f,g⟩:=TK (P:=P) (xt:=xt) (j y (by simp[acH]) v q) l;exact .val n (y:=z) (by simp[execOp,f]) g
 |call c=>
  have⟨X,args,S⟩:=c;cases X with
  |builtin b=>
   cases b with
   |append=>
    simp only[cA]at h;split at h
    .rename_i s y t J f g;have K:args= #[s,y]:=by grind
     have L:S= #[t,J]:=by grind
     subst K;subst L;split at h
     .rename_i sl b Y B;split at h
      .rename_i G;have I:=tQ G;have c1:=j s (by simp[acH,aiM]) _ Y;have c2:=j y (by simp[acH,aiM]) _ B;simp only[aL]at c1 c2;simp only[aB]at c2;rw[acK]at h;have⟨z,w,C,E,M,N⟩:=Vp (P:=P) (ty:=ty) n I c1 h;refine⟨z,w,.inl ?_,E,M,N⟩;have Z:(⟨b.data.toList.toArray⟩:ByteArray)=b:=by simp
       rw[Z]at C;simp[execOp,resolve,invoke,builtin,c2.1,C]
      .cases h
     .cases h
    .cases h
   |copy=>
    simp only[cA]at h;split at h
    .rename_i d y t J f g;have K:args= #[d,y]:=by grind
     have L:S= #[t,J]:=by grind
     subst K;subst L;split at h
     .rename_i aa;subst aa;cases F:aX e d with
      |none=>rw[F]at h;simp[uL]at h
      |some vd=>
       cases B:aX e y with
       |none=>rw[F,B]at h;simp[uL]at h
       |some vy=>rw[F,B]at h;have⟨z,w,C,E,M,N⟩:=Ya (P:=P) (ty:=ty) n (j d (by simp[acH,aiM]) _ F) (j y (by simp[acH,aiM]) _ B) h;exact⟨z,w,.inl (by simp[execOp,resolve,invoke,builtin,C]),E,M,N⟩
     .cases h
    .cases h
   |_=>simp[cA]at h
  |_=>simp[cA]at h
 |slice t y lo hi mx=>
  cases mx with
  |some m=>simp[cA]at h
  |none=>
   simp only[cA,ab4,aca]at h;obtain⟨r,l,rfl,rfl⟩:=h;unfold sliceB at l;split at l
   case h_2=>cases l
   rename_i el ak al hh am an ao ab m ad B ae af;split at l
   case h_2=>cases l
   rename_i z rows ho;split at l
   case isFalse=>cases l
   rename_i hc;obtain⟨rfl,c0,c1,_,c2⟩:=hc;cases l;have T:=j y (by simp[acH]) _ B;simp only[aL]at T;rcases vV (Γ:=Γ) (a:=a) (fun p hp=>j p (by simp[acH,hp])) ae with⟨_,hn⟩|⟨k1,m1,e1,hn⟩
   .cases hn
   rcases vV (Γ:=Γ) (a:=a) (fun p hp=>j p (by simp[acH,hp])) af with⟨_,O⟩|⟨k2,m2,e2,O⟩
   .cases O
   cases hn;cases O;have⟨ag,C,E⟩:=adB (P:=P) n ad T ho k1 k2 ab m c0 c1 c2;exact .val n (y:=ag) (by simp[execOp,e1,e2,C]) (by grind [aL])
 |_=>simp[cA]at h
end Go.Nx
namespace Go.Nx
variable{P:Program}{e:Env}{H H':List Ob}{o:Oper}{x:aw}{Γ:az}{C:bu}{ce:cV}{ops:Array Oper}
def lq(P:Program)(e:Env)(H:List Ob)(o:Op)(x:aw)(H':List Ob):Prop:=
 ∀(Γ:az) (a:Act) (c:Oper),c.op=o->aZ Γ H->(∀p∈o.operands,Good Γ e a p)->∀(next:Act->World->Prop) (Q:Exit->Act->World->Prop),
  (∀y b,Γ.cL b->aZ b H'->aL b x y->next (a.put c.dst y) b.w)->c.wp P a Γ.w next Q
theorem lq.tJ{o:Op}(h:∀(Γ:az) (a:Act) (b:Oper),b.op=o->aZ Γ H->(∀p∈o.operands,Good Γ e a p)->uf Γ ((execOp a.eval b).run P Γ.w) x H'):lq P e H o x H':=by intro Γ a b c d f next Q hn;have⟨y,g,i,j,k,l⟩:=h Γ a b c d f;grind [Oper.wp,(aky),(Oper.upon_skip)]
theorem lq.aax{f:Operand}{args:Array Operand}{j:Array TypeId}{g:FuncId}{h:List ab}{d:List aw}(k:aX e f=some (.c (.bF g h)))(l:pT (args.toList.map (aX e))=some d)
  (hc:Call P g (d++h.map .c) H x H'):lq P e H (.call {callee:= .value f,args:=args,argTypes:=j}) x H':=by
 intro Γ a s m n i next Q hn
 have b:=i f (by simp[acH,aiM]) _ k
 simp only[aL,aB]at b
 have⟨o,b,q⟩:=b
 have r:=C0 args.toList d (fun p hp=>i p (by simp[acH,aiM];right;simpa using hp)) l
 unfold Oper.wp
 rw[agA m b hc.1,Oper.upon_enter]
 refine(hc.2 Γ n (args.map a.eval++o) ?_).mono fun t u v=>?_
 .have:=CX r (BT q)
  simpa using this
 grind
def my(P:Program)(ce:cV):Prop:= ∀g a H r H',ce g a H=some (r,H')->Call P g a H r H'
theorem LU(b:aZ Γ H){g:Nat}{l:ab}(h:tj g=some l):aB Γ l (.pointer (some ⟨g,0,none⟩)):=by
 unfold tj at h;split at h
 .rename_i c e rows a;cases h;have hm:=ajU a;have hp:=akS a;have d:c=g:=by simpa using hp
  subst d;have:=b.G _ hm;grind [aB]
 .cases h
theorem AQ(k:my C.P ce){o:Op}(h:eV C ce o e H=some (x,H')):lq C.P e H o x H':=by
 unfold eV at h;split at h
 .rename_i f args r;split at h
  .rename_i g s t m d;exact lq.aax m d (k _ _ _ _ _ h)
  .cases h
 .rename_i g;simp only[ab4,aca]at h;obtain⟨l,n,rfl,rfl⟩:=h;refine lq.tJ fun Γ a i c b j=>?_;have⟨u,v,w,pos,z,guard⟩:=i;simp only at c;subst c;exact .val b (y:= .pointer (some ⟨g,0,none⟩)) (by rfl) (LU b n)
 .split at h
  .grind [(lq.tJ),(adv)]
  .split at h
   .rename_i d;cases h;exact lq.tJ fun Γ a i c b j=>by have⟨y,p,q⟩:=afx b d c j;exact .val b p q
   grind [(lq.tJ),(aci)]
theorem agI{i:Nat}{a:List Oper}(h:ops.toList.drop i=o::a):ops[i]?=some o/\ops.toList.drop (i+1)=a/\o∈ops.toList:=by
 have b:(ops.toList.drop i)[0]?=some o:=by rw[h];rfl
 rw[ai3]at b
 have c:ops.toList.drop (i+1)=a:=by
  have:(ops.toList.drop i).drop 1=a:=by rw[h];rfl
  rw[akd]at this;exact this
 grind
theorem yn{a:Act}(d:mm Γ e a){b:Bool}(h:nI ops.toList e o.guard=some b):ak5 o (yielded ops a.tmps)=b:=by
 unfold nI at h;split at h
 .grind [ak5]
 .rename_i j w i;split at h
  .rename_i s k;have l:((ops[j]?).bind (·.dst))=some s:=by grind
   split at h
   .rename_i v c;cases h;have⟨y,f,g⟩:=d s _ c;grind [aL,aB,ak5,yielded]
   .rename_i c;cases h;have⟨y,f,g⟩:=d s _ c;grind [aL,ak5,yielded]
   .cases h
  .cases h
def oZ(n:Nat)(l:List Oper):Bool:=l.all fun o=>match o.dst with|some t=>decide (t<n)|none=>true
theorem F3{n:Nat}{l:List Oper}(h:oZ n l=true)(a:o∈l):∀t,o.dst=some t->t<n:=by grind [oZ]
def NX:aL Γ unit undef:=by simp only[aL,bT];exact⟨#[],rfl,rfl⟩
theorem ab2(s:my C.P ce){A:Nat->Bool}{o:Op}(h:mh A C ce o e H=some (x,H')):lq C.P e H o x H':=by
 unfold mh at h;split at h
 .rename_i t k;split at h
  .split at h
   .rename_i v B;split at h
    .rename_i z Z D;cases h;refine lq.tJ fun Γ a m d f n=>?_;have⟨E,F,G,pos,I,guard⟩:=m;simp only at d;subst d;have hc:=wM (n (.tmp k) (by simp[acH]) v B) D;have⟨J,K,L,M,g4⟩:=V4 (P:=C.P) f t hc;exact⟨.pointer (some ⟨Γ.w.heap.size,0,none⟩),J,.inl (by simp[execOp,Instr.box,K]),L,M,by grind [aL]⟩
    .cases h
   .cases h
  .exact AQ s h
 .rename_i t g i;simp only[ab4,aca]at h;obtain⟨x',h,rfl,rfl⟩:=h;refine lq.tJ fun Γ a m d f n=>?_;have⟨E,F,G,pos,I,guard⟩:=m;simp only at d;subst d;have N:=n i (by simp[acH]);unfold sc at h;split at h
  .rename_i rows r k O j hp Q;have R:=N.int Q;simp only[ab4,aw.c.injEq]at hp;obtain⟨aa,S,rfl⟩:=hp;have l:=LU f S;simp only[aB]at l;have⟨b,p,q,l,hF,hr⟩:=l;split at h
   .rename_i ab T gg U;split at h
    .rename_i u;cases h;have⟨el,V,W⟩:=Al U;have X:=(pt W Γ.w).2;have:=Hu (P:=C.P) (w:=Γ.w) V X b (p+r*q+k) O j u.1 u.2;have Y:a.eval (.global g)= .pointer (some ⟨b,p+r*q+k,none⟩):=by rw[<-l];rfl
     refine .val f (y:= .pointer (some ⟨b,p+r*q+k+j.toNat*T,none⟩)) (by simp[execOp,Y,R,this]) ?_;grind [aL,aB]
    .cases h
   .cases h
  .cases h
 .exact AQ s h
theorem uq{C:bu}{ce:cV}(g:my C.P ce){ops:Array Oper}{n:Nat}(j:oZ n ops.toList=true){D:Nat->Bool}{Γ0:az}{ds:List (FuncId×List aw)}{Q:Exit->Act->World->Prop}:
  ∀(l:List Oper) (i:Nat),(∃r,ops.toList.drop i=l++r)->∀(e d:Env) (H H':List Ob),fH D C ce ops.toList l e H=some (d,H')->
   ∀(b:List Nat),(∀a w,Sat n Γ0 ⟨d,H',ds⟩ a w->wpOps C.P ops Q b a w)->∀a w,Sat n Γ0 ⟨e,H,ds⟩ a w->wpOps C.P ops Q (List.range' i l.length++b) a w
 |[],i,_,e,d,H,H',h,b,k,a,w,q=>by
  grind [fH]
 |o::s,i,⟨r,E⟩,e,d,H,H',h,b,k,a,w,q=>by
  have⟨F,u,hm⟩:=agI E
  rw[aip,ami,ai7,wpOps_cons]
  obtain⟨v,Γ,rfl,z,A,f,B⟩:=q
  unfold wpOp
  simp only[F]
  have N:=F3 j hm
  simp only[fH]at h
  split at h
  .rename_i c G
   rw[yn f G]
   cases c with
   |true=>
    simp only[if_true]at h
    rw[if_pos rfl]
    left
    split at h
    .rename_i x O I
     refine ab2 g I Γ a o rfl A (fun p _=>uD f p) _ _ (fun y J m K L=>?_)
     exact uq g j s (i+1) ⟨r,u⟩ _ _ _ _ h b k _ _ ⟨by rw[vB];exact v,J,rfl,z.trans m,K,(f.mono m.le).put (fun t M=>by grind) L,by rw[put_defers];exact B.mono m.le⟩
    .cases h
   |false=>
    simp only[aes,if_false]at h
    rw[if_neg (by simp)]
    exact uq g j s (i+1) ⟨r,u⟩ _ _ _ _ h b k _ _ ⟨by rw[vB];exact v,Γ,rfl,z,A,f.put (fun t M=>by grind) NX,by rw[put_defers];exact B⟩
  .cases h
end Go.Nx
namespace Go.Nx
theorem yb:∀(a:List Nat) (e:Env) (t:Nat) (x:aw),(eI a e).get t=some x->t∈a/\e.get t=some x
 |[],e,t,x,h=>by simp[eI,Env.get]at h
 |k::a,e,t,x,h=>by
  simp only[eI]at h
  split at h
  .rename_i v b
   simp only[Env.get]at h
   split at h
   .grind
   .have:=yb a e t x h
    grind
  .have:=yb a e t x h
   grind
theorem J4:∀(a:List Nat) (e:Env) (t:Nat) (x:aw),t∈a->e.get t=some x->(eI a e).get t=some x
 |[],e,t,x,h,_=>by simp at h
 |k::a,e,t,x,h,b=>by
  simp only[eI]
  by_cases c:k=t
  .grind [Env.get]
  .have hm:t∈a:=by
    rcases aeM.1 h with h|h
    .exact absurd h.symm c
    .exact h
   have:=J4 a e t x hm b
   grind [Env.get]
theorem get_append(a b:Env)(t:Nat):(a++b).get t=match a.get t with|some x=>some x|none=>b.get t:=by
 induction a with
 |nil=>rfl
 |cons p r c=>grind [Env.get]
def xD(a e:Env):Prop:= ∀t x,a.get t=some x->e.get t=some x
theorem mm.sub{b:az}{e c:Env}{a:Act}(h:mm b e a)(d:xD c e):mm b c a:=fun t x f=>h t x (d t x f)
theorem Sat.sub{n:Nat}{Γ0:az}{e b:Env}{H:List Ob}{c:List (FuncId×List aw)}{a:Act}{w:World}(h:Sat n Γ0 ⟨e,H,c⟩ a w)(d:xD b e):Sat n Γ0 ⟨b,H,c⟩ a w:=by have⟨f,g,i,j,k,l,m⟩:=h;exact⟨f,g,i,j,k,l.sub d,m⟩
def uN(C:bu)(f:FuncId)(a:Nat)(t:Nat):Bool:=
 match C.kt f with
 |some l=>decide (t<a)||l.any fun p=>p.contains t
 |none=>true
def iT(C:bu)(f:FuncId)(a:Nat)(e:Env):Prop:= ∀t x,e.get t=some x->uN C f a t=true
def GP(C:bu)(f:FuncId)(a id:Nat)(l:List Oper):Bool:=
 match C.kt f with
 |some b=>l.all fun o=>match o.dst with|some d=>(pE b id).contains d||!uN C f a d|none=>true
 |none=>true
theorem QS:∀(a:List (List Nat)) (id t:Nat),t∈pE a id->∃p∈a,t∈p
 |[],id,t,h=>by simp[pE]at h
 |l::r,0,t,h=>⟨l,by simp,h⟩
 |l::r,k+1,t,h=>by
  have⟨p,b,c⟩:=QS r k t h
  grind
theorem af5{C:bu}{f b id t:Nat}{a:List (List Nat)}(c:C.kt f=some a)(h:t∈pE a id):uN C f b t=true:=by grind [(QS),uN]
theorem Fb{f:Nat->Bool}{C:bu}{g:cV}{all:List Oper}:∀(l:List Oper) (e a:Env) (H c:List Ob),fH f C g all l e H=some (a,c)->
  (∀t,(∀o∈l,o.dst≠some t)->a.get t=e.get t)/\(∀t,(∃o∈l,o.dst=some t)->a.get t≠none)
 |[],e,a,H,c,h=>by
  grind [fH]
 |o::b,e,a,H,c,h=>by
  have v:∀x i,fH f C g all b (ee e o.dst x) i=some (a,c)->(∀t,(∀p∈o::b,p.dst≠some t)->a.get t=e.get t)/\(∀t,(∃p∈o::b,p.dst=some t)->a.get t≠none):=by
   intro x i n
   have⟨j,r⟩:=Fb b _ _ _ _ n
   refine⟨fun t k=>?_,fun t ⟨p,hp,m⟩=>?_⟩
   .rw[j t (fun p hp=>k p (by simp[hp])),Env.nO,if_neg (k o (by simp))]
   .by_cases d:∃q∈b,q.dst=some t
    .exact r t d
    .rcases aeM.1 hp with rfl|hp
     .rw[j t (fun q s u=>d ⟨q,s,u⟩),Env.nO,if_pos m]
      simp
     .exact absurd ⟨p,hp,m⟩ d
  grind [fH]
theorem CL{C:bu}{f c id:Nat}{l:List Oper}(b:GP C f c id l=true){a e':Env}(i:iT C f c a)(r:∀t,(∀o∈l,o.dst≠some t)->e'.get t=a.get t)(p:∀t,(∃o∈l,o.dst=some t)->e'.get t≠none):
  xD (pI (nu C f id) e' a) e'/\iT C f c (pI (nu C f id) e' a):=by
 unfold GP at b
 unfold nu
 cases d:C.kt f with
 |none=>
  simp only[pI]
  exact⟨fun t x h=>h,fun t x h=>by simp[uN,d]⟩
 |some e=>
  rw[d]at b
  simp only[pI]
  have j:∀t x,(eI (pE e id) e'++a).get t=some x->(t∈pE e id/\e'.get t=some x)\/((eI (pE e id) e').get t=none/\a.get t=some x):=by grind [(get_append),(yb)]
  refine⟨fun t x h=>?_,fun t x h=>?_⟩
  .rcases j t x h with h|⟨h,g⟩
   .exact h.2
   .by_cases q:∃o∈l,o.dst=some t
    .exfalso
     have⟨o,k,m⟩:=q
     rw[ahI]at b
     have:=b o k
     rw[m]at this
     simp only[ai9,afa]at this
     rcases this with hc|hc
     .cases n:e'.get t with
      |none=>exact p t ⟨o,k,m⟩ n
      |some y=>
       rw[J4 _ _ t y (by simpa using hc) n]at h
       cases h
     .rw[i t x g]at hc
      cases hc
    grind
  .rcases j t x h with h|⟨h,g⟩
   .exact af5 d h.1
   .exact i t x g
def bP(P:Program)(n:Nat)(Γ0:az)(c:Code)(S:St)(ex:Exit)(S':St):Prop:=
 ∀a w,Sat n Γ0 S a w->c.wp P (fun b d e=>b=ex/\Sat n Γ0 S' d e) a w
section
variable{P:Program}{n:Nat}{Γ0:az}{S S' S1:St}{ex:Exit}{x y c:Code}
theorem bP.skip:bP P n Γ0 .skip S .normal S:=fun a w b=>wp_skip ⟨rfl,b⟩
theorem bP.label{l:Nat}:bP P n Γ0 (.label l) S .normal S:=fun a w b=>wp_label ⟨rfl,b⟩
theorem bP.ret:bP P n Γ0 .ret S .ret S:=fun a w b=>wp_ret ⟨rfl,b⟩
theorem bP.exit{id:Nat}:bP P n Γ0 (.exit id) S (.exit id) S:=fun a w b=>wp_exit ⟨rfl,b⟩
theorem bP.goto{l:Nat}:bP P n Γ0 (.goto l) S (.goto l) S:=fun a w b=>wp_goto ⟨rfl,b⟩
def bP.GO(h:bP P n Γ0 x S .normal S1)(b:bP P n Γ0 y S1 ex S'):bP P n Γ0 (.seq x y) S ex S':=fun a w c=>
 wp_seq (wp_mono (h a w c) fun e d f ⟨g,i⟩=>by subst g;exact b d f i)
theorem bP.wX(h:bP P n Γ0 x S ex S')(f:ex≠ .normal):bP P n Γ0 (.seq x y) S ex S':=fun a w b=>
 wp_seq (wp_mono (h a w b) fun e g i ⟨c,d⟩=>by
  subst c
  cases e with
  |normal=>grind
  |_=>exact⟨rfl,d⟩)
theorem bP.T4{id:Nat}(h:bP P n Γ0 c S (.exit id) S'):bP P n Γ0 (.block id c) S .normal S':=fun a w b=>
 wp_block (wp_mono (h a w b) fun e d f ⟨g,i⟩=>by
  grind [amL])
theorem bP.Qm{id:Nat}(h:bP P n Γ0 c S ex S')(g:ex≠ .exit id):bP P n Γ0 (.block id c) S ex S':=fun a w b=>
 wp_block (wp_mono (h a w b) fun e i j ⟨d,f⟩=>by
  subst d
  cases e with
  |exit k=>
   grind [amL]
  |_=>exact⟨rfl,f⟩)
theorem bP.cond{t:Nat}{b:Bool}(k:S.env.get t=some (.c (.v (.bool b))))(l:b=true->bP P n Γ0 x S ex S')(m:b=false->bP P n Γ0 y S ex S'):bP P n Γ0 (.cond (.tmp t) x y) S ex S':=by
 intro a w o;obtain⟨s,e,rfl,f,g,d,i⟩:=o;have⟨v,p,j⟩:=d t _ k;simp only[aL,aB]at j;have q:a.eval (.tmp t)= .bool b:=by simp[Act.eval,aiR,p,j.1]
 exact wp_cond_split q (fun h=>l h a _ ⟨s,e,rfl,f,g,d,i⟩) (fun h=>m h a _ ⟨s,e,rfl,f,g,d,i⟩)
def bP.pre{b:St}(d:∀a w,Sat n Γ0 b a w->Sat n Γ0 S a w)(h:bP P n Γ0 c S ex S'):bP P n Γ0 c b ex S':=fun a w e=>h a w (d a w e)
def nj(P:Program)(n:Nat)(Γ0:az)(c:Code)(S:St)(ex:Exit)(S':St):Prop:=
 ∀a w,Sat n Γ0 S a w->∀(b:Frame) (k:List Item) (cs:List Frame), ∃d e,Sat n Γ0 S' d e/\Arrives P (lone (b.at a (.code c:: .inLoop c::k)) cs w) b k cs ex d e
def nj.JY(h:nj P n Γ0 c S ex S'):bP P n Γ0 (.loop c) S ex S':=fun a w d b k cs=>by have⟨e,f,g,i⟩:=h a w d b k cs;exact⟨ex,e,f,⟨rfl,g⟩,.of_steps (.one step_loop) i⟩
def nj.more{d:St}(h:bP P n Γ0 c S .normal S1)(f:∀a w,Sat n Γ0 S1 a w->Sat n Γ0 d a w)(g:nj P n Γ0 c d ex S'):nj P n Γ0 c S ex S':=fun a w i b k cs=>by have⟨e,j,w1,⟨l,m⟩,o⟩:=h a w i b (.inLoop c::k) cs;subst l;have⟨p,q,r,s⟩:=g j w1 (f _ _ m) b k cs;exact⟨p,q,r,.of_steps (Steps.trans o (.one step_inLoop)) s⟩
theorem nj.out(h:bP P n Γ0 c S ex S')(d:ex≠ .normal):nj P n Γ0 c S ex S':=fun a w f b k cs=>by have⟨e,g,w1,⟨i,j⟩,l⟩:=h a w f b (.inLoop c::k) cs;subst i;exact⟨g,w1,j,.pass (x:= .inLoop c) rfl (fun _ _=> .inl d) l⟩
def mv(P:Program)(n:Nat)(Γ0:az)(c f:Code)(S:St)(ex:Exit)(S':St):Prop:=
 ∀a w,Sat n Γ0 S a w->∀(b:Frame) (k:List Item) (cs:List Frame), ∃d e,Sat n Γ0 S' d e/\Arrives P (lone (b.at a (.code f:: .inScope c::k)) cs w) b k cs ex d e
def mv.JY(h:mv P n Γ0 c c S ex S'):bP P n Γ0 (.scope c) S ex S':=fun a w d b k cs=>by have⟨e,f,g,i⟩:=h a w d b k cs;exact⟨ex,e,f,⟨rfl,g⟩,.of_steps (.one step_scope) i⟩
def mv.more{d:St}{l:Nat}{f g:Code}(h:bP P n Γ0 f S (.goto l) S1)(i:findLabel c l=some g)(j:∀a w,Sat n Γ0 S1 a w->Sat n Γ0 d a w)(m:mv P n Γ0 c g d ex S'):mv P n Γ0 c f S ex S':=fun a w o b k cs=>by have⟨e,p,w1,⟨q,r⟩,s⟩:=h a w o b (.inScope c::k) cs;subst q;have⟨t,u,v,x⟩:=m p w1 (j _ _ r) b k cs;exact⟨t,u,v,.of_steps (s _ (by simp[gotoIn,i])) x⟩
theorem mv.out{g:Code}(h:bP P n Γ0 g S ex S')(q:∀l,ex= .goto l->findLabel c l=none):mv P n Γ0 c g S ex S':=fun a w j b k cs=>by
 have⟨e,m,w1,⟨o,p⟩,d⟩:=h a w j b (.inScope c::k) cs;subst o;refine⟨m,w1,p,?_⟩;cases e with
 |normal=>exact Steps.trans d (.one step_inScope)
 |exit id=>exact fun f i=>d f (by simp[exitTo,i])
 |goto l=>exact fun f i=>d f (by grind [gotoIn])
 |ret=>exact d
 |panic r=>exact d
 |outgrown=>exact d
end
end Go.Nx
namespace Go.Nx
variable{Γ:az}{y:Value}{x r:aw}{H H':List Ob}{C:bu}{f:FuncId}{rc:ji}
theorem Nn{Γ:az}:∀(k:Nat) (b:List aw) (c:List Value) (t:Nat) (x:aw),bT Γ b c->(fP k b).get t=some x->k<=t/\t<k+b.length/\∃y,c[t-k]?=some y/\aL Γ x y
 |k,[],c,t,x,_,h=>by simp[fP,Env.get]at h
 |k,a::b,c,t,x,hc,h=>by
  simp only[bT]at hc
  obtain⟨y,d,rfl,f,e⟩:=hc
  simp only[fP,Env.get]at h
  split at h
  .grind
  .have ⟨g,i,z,j,l⟩:=Nn (k+1) b d t x e h
   grind
theorem Rx:∀(k:Nat) (b:List aw) (t:Nat) (x:aw),(fP k b).get t=some x->t<k+b.length
 |k,[],t,x,h=>by simp[fP,Env.get]at h
 |k,a::b,t,x,h=>by
  simp only[fP,Env.get]at h
  split at h
  .grind
  .have:=Rx (k+1) b t x h
   simp;omega
theorem MA{Γ:az}:∀ {b:List aw} {a:List Value},bT Γ b a->a.length=b.length
 |[],a,h=>by grind [bT]
 |x::b,a,h=>by simp only[bT]at h;obtain⟨y,d,rfl,_,c⟩:=h;simp[MA c]
theorem abH{l:ab}(h:aB Γ l y):aB Γ (da l) y:=by unfold da;grind [aB]
theorem E3{Γ:az}:∀ {b:List ab} {a:List Value},aY Γ b a->aY Γ (b.map da) a
 |[],a,h=>h
 |l::b,a,h=>by
  simp only[ag9,aY]at h|-
  obtain⟨y,c,rfl,d,e⟩:=h
  exact⟨y,c,rfl,abH d,E3 e⟩
theorem aaA(h:aL Γ x y):aL Γ (CE x) y:=by
 cases x with
 |agg cs=>grind [CE,aL,(E3)]
 |_=>exact h
theorem Hy{P:Program}{e:Env}(u:aZ Γ H){a:Act}(B:mm Γ e a){q:Func}(h:gY P e H q.results.toList=some x):
  ∃v,(results q a.tmps).run P Γ.w= .ok v Γ.w/\aL Γ x v:=by
 have one:∀(r:ResultVar) (x:aw),CH P e H r=some x->∃v,((match r with| .tmp t=>pure (a.tmps.getD t undef)| .cell t A=>do loadVar A (<-asAddr (a.tmps.getD t undef)):Sem Value)).run P Γ.w= .ok v Γ.w/\aL Γ x v:=by
  intro r x f
  cases r with
  |tmp t=>
   have⟨y,g,J⟩:=B t x f
   simp_all
  |cell t A=>
   have K:∀p y,aB Γ p y->(∃n cs,qR H n p=some cs)\/(∃l,qP H p=some l)->∃C,y= .pointer (some C):=by
    intro p y hc h
    rcases h with⟨n,cs,h⟩|⟨l,h⟩
    .have ⟨r,k,hp,_⟩:=PW h
     obtain⟨b,o,rfl,_⟩:=readable u hc hp
     simp
    .have ⟨r,k,hp,_⟩:=LY h
     obtain⟨b,o,rfl,_⟩:=readable u hc hp
     simp
   simp only[CH]at f
   split at f
   .rename_i n p D hp
    simp only[ab4]at f
    obtain⟨cs,g,rfl⟩:=f
    have⟨y,m,c⟩:=B t _ hp
    simp only[aL]at c
    have⟨L,i,E⟩:=(yg (P:=P) u c).1 n cs D g
    obtain⟨C,rfl⟩:=K p y c (.inl ⟨n,cs,g⟩)
    refine⟨.agg L,?_,⟨L,rfl,E⟩⟩
    simp only[akT,ali,aiT,akW,aiG]at i
    simp[aiR,m,asAddr,i]
   .rename_i n p D hp
    simp only[ab4]at f
    obtain⟨l,g,rfl⟩:=f
    have⟨y,m,c⟩:=B t _ hp
    simp only[aL]at c
    have⟨z,i,E⟩:=(yg (P:=P) u c).2 n l D g
    obtain⟨C,rfl⟩:=K p y c (.inr ⟨l,g⟩)
    refine⟨z,?_,by grind [aL]⟩
    simp only[akT,ali,aiT,akW,aiG]at i
    simp[aiR,m,asAddr,i]
   .cases f
 have all:∀(s:List ResultVar) (j:List aw),uO P e H s=some j->∃d,(s.mapM (fun r=>(match r with| .tmp t=>pure (a.tmps.getD t undef)| .cell t A=>do loadVar A (<-asAddr (a.tmps.getD t undef)):Sem Value))).run P Γ.w= .ok d Γ.w/\bT Γ j d:=by
  intro s
  induction s with
  |nil=>intro j h;simp[uO]at h;subst h;exact⟨[],by simp,by simp[bT]⟩
  |cons r s M=>
   intro j h
   simp only[uO]at h
   split at h
   .rename_i x N g J
    cases h
    have⟨v,m,c⟩:=one r x g
    have⟨d,i,E⟩:=M N J
    refine⟨v::d,?_,?_⟩
    .simp only[List.mapM_cons,aiT,m,aiG,i,akW]
    grind [bT,(aaA)]
   .cases h
 unfold gY at h
 cases hm:uO P e H q.results.toList with
 |none=>grind
 |some j=>
  rw[hm]at h
  have⟨d,m,c⟩:=all _ j hm
  have F:(results q a.tmps).run P Γ.w= .ok (if h:d.toArray.size=1 then d.toArray[0]else .tuple d.toArray) Γ.w:=by
   unfold results
   rw[Array.mapM_eq_mapM_toList]
   simp only[aiT,Sem.run_map]
   have O:(q.results.toList.mapM (fun x=>match x with|ResultVar.tmp t=>(pure (a.tmps.getD t undef):Sem Value)|ResultVar.cell Q t=>do loadVar t (<-asAddr (a.tmps.getD Q undef)))).run P Γ.w= .ok d Γ.w:=by omega
   have G:=congrArg (fun r=>(ajd r fun a I=>Result.ok a.toArray I).andThen fun a I=>Sem.run P (pure (if h:a.size=1 then a[0]else Value.tuple a)) I) O
   refine Eq.trans ?_ (G.trans (by simp))
   congr 3
  match j,h with
  |[],h=>
   simp only[bT]at c
   subst c
   simp only[ab1]at h
   subst h
   exact⟨_,F,by simp[aL,bT]⟩
  |[y],h=>
   simp only[bT]at c
   obtain⟨z,_,rfl,c,rfl⟩:=c
   simp only[ab1]at h
   subst h
   exact⟨_,F,by simpa using c⟩
  |y::z::r,h=>
   simp only[ab1]at h
   subst h
   have G:=c
   simp only[bT]at c
   obtain⟨R,_,rfl,_,S,_,rfl,_,_⟩:=c
   refine⟨_,F,?_⟩
   rw[dif_neg (by simp)]
   exact⟨_,rfl,G⟩
def Fa(C:bu)(rc:ji):Prop:= ∀f a c S b d,C.P.funcs[f]?=some a->a.body=some c->C.dH f=false->iT C f (a.params.size+a.nfree) S.env->rc f c S=some (b,d)->∀e,bP C.P a.ntmps e c S b d
structure Good1(C:bu):Prop where
 enters:∀f fn c,C.P.funcs[f]?=some fn->fn.body=some c->enters C.P f=true
 qS:∀f vs H r H',C.dH f=true->C.dF f vs H=some (r,H')->Call C.P f vs H r H'
 kR:∀g vs,C.kR g=true->Nx.enters C.P g=true/\∀Γ H,aZ Γ H->∀args:Array Value,bT Γ vs args.toList->CallsD C.P g args .returning Γ.w fun e u w'=>u= .returning/\∃y Γ',e= .returned y/\Γ'.w=w'/\Γ.cL Γ'/\aZ Γ' H
theorem OG{f a:Nat}{args:List aw}(h:args.length<=a):iT C f a (fP 0 args):=by intro t x b;have:=Rx 0 args t x b;grind [uN]
theorem KB{n:Nat}(b:aZ Γ H){args:List aw}{a:Array Value}(hc:bT Γ args a.toList)(e:args.length<=n):
  Sat n Γ ⟨fP 0 args,H,[]⟩ {tmps:=a++ak1 (n-a.size) undef,defers:=[]} Γ.w:=by
 have c:=MA hc
 simp only[aje]at c
 refine⟨by simp;omega,Γ,rfl,.refl Γ,b,fun t x d=>?_,rfl⟩
 have⟨_,_,y,f,g⟩:=Nn 0 args a.toList t x hc d
 grind
theorem X2{args:List aw}(d:C.dH f=false)(h:lW C rc f args H=some (r,H')):
  ∃a c b e,C.P.funcs[f]?=some a/\a.body=some c/\args.length<=a.ntmps/\args.length<=a.params.size+a.nfree/\rc f c ⟨fP 0 args,H,[]⟩=some (b,⟨e,H',[]⟩)/\(b= .normal\/b= .ret)/\gY C.P e H' a.results.toList=some r:=by
 grind [lW,(ab4)]
theorem aaE(p:Good1 C)(q:Fa C rc){args:List aw}(k:C.dH f=false)(h:lW C rc f args H=some (r,H')):
  enters C.P f=true/\∀Γ,aZ Γ H->∀d:Array Value,bT Γ args d.toList->CallsD C.P f d .returning Γ.w fun e u b=>u= .returning/\∃y a,e= .returned y/\a.w=b/\Γ.cL a/\aZ a H':=by
 have⟨l,c,J,e,g,i,s,t,x,hex,z⟩:=X2 k h
 refine⟨p.enters f l c g i,fun Γ A d hc=>?_⟩
 have B:=q f l c _ _ _ g i k (OG t) x Γ
 refine(callsD_of_wp (R:=fun e b=>∃y a,e= .returned y/\a.w=b/\Γ.cL a/\aZ a H') g i (wp_mono (B _ _ (KB A hc s)) fun D E b F=>?_)).mono fun D K b h=>h
 obtain⟨rfl,L,a,rfl,m,j,G,I⟩:=F
 have n:E.defers=[]:=I
 have⟨v,o,M⟩:=Hy j G z
 rcases hex with rfl|rfl
 .exact ⟨n,v,o,v,a,rfl,rfl,m,j⟩
 .exact ⟨n,v,o,v,a,rfl,rfl,m,j⟩
theorem MV{C:bu}{rc:ji}(j:Good1 C)(p:Fa C rc){fn:Func}{tmps:Array Value}{R:Ending->World->Prop}:
  ∀(b:List (FuncId×List aw)) (H H':List Ob),iX C rc b H=some H'->∀(cs:List Deferred) (Γ:az),aZ Γ H->tO Γ b cs->(∀a,Γ.cL a->aZ a H'->∃v,(results fn tmps).run C.P a.w= .ok v a.w/\R (.returned v) a.w)->Leaves C.P fn tmps R cs .returning Γ.w
 |[],H,H',h,cs,Γ,f,hc,i=>by
  simp only[iX,ab1]at h
  subst h
  have hc:cs=[]:=hc
  subst hc
  exact i Γ (.refl Γ) f
 |(g,k)::b,H,H',h,cs,Γ,f,hc,i=>by
  obtain⟨c,l,rfl,⟨cap,m,q⟩,r⟩:=hc
  have fin:enters C.P g=true->∀d,iX C rc b d=some H'->(CallsD C.P g (c.args++cap) .returning Γ.w fun e u n=>u= .returning/\∃y a,e= .returned y/\a.w=n/\Γ.cL a/\aZ a d)->Leaves C.P fn tmps R (c::l) .returning Γ.w:=by
   intro s d t x
   refine⟨by simp,.func g,cap,g,c.args++cap,m,?_,?_⟩
   .rw[m]
    exact Qa s _ _
   .refine x.mono fun e u n z=>?_
    obtain⟨rfl,y,a,rfl,rfl,o,A⟩:=z
    exact MV j p b d H' t l a A (r.mono o.le) (fun B D E=>i B (o.trans D) E)
  simp only[iX]at h
  have F:bT Γ k (c.args++cap).toList:=by simpa using q
  split at h
  .rename_i hn
   have⟨G,I⟩:=j.kR g k hn
   exact fin G H h (I Γ H f _ F)
  grind [(aaE)]
theorem Ns(i:Good1 C)(j:Fa C rc){args:List aw}(h:bB C rc f args H=some (r,H')):Call C.P f args H r H':=by
 unfold bB at h;split at h
 .grind [(Good1.qS)]
 .rename_i M;have s:C.dH f=false:=by grind
  split at h
  .rename_i fn d;split at h
   .rename_i c g;split at h
    .rename_i k
     have N:∀b S,rc f c ⟨fP 0 args,H,[]⟩=some (b,S)->(b= .normal\/b= .ret)->(match iX C rc S.bG S.heap with|some H'=>(gY C.P S.env H' fn.results.toList).map (·,H')|none=>none)=some (r,H')->Call C.P f args H r H':=by
      intro b S t hex h;split at h
      .rename_i l u;simp only[ab4,aca]at h;obtain⟨x,z,rfl,rfl⟩:=h;refine⟨i.enters f fn c d g,fun Γ A O hc=>?_⟩;have B:=j f fn c _ _ _ d g s (OG k.2) t Γ;refine calls_of_wp_defers d g (wp_mono (B _ _ (KB A hc k.1)) fun Q m n D=>?_);obtain⟨rfl,T,a,rfl,E,F,G,I⟩:=D;have o:=MV (R:=fun e n=>∃y a,e= .returned y/\a.w=n/\Γ.cL a/\aZ a l/\aL a x y) (fn:=fn) (tmps:=m.tmps) i j S.bG S.heap l u m.defers a F I (fun J p q=>by have⟨v,K,L⟩:=Hy q (G.mono p.le) z;exact⟨v,K,v,J,rfl,rfl,E.trans p,q,L⟩)
       rcases hex with rfl|rfl
       .exact o
       .exact o
      .cases h
     grind
    .cases h
   .cases h
  .cases h
end Go.Nx
namespace Go.Nx
open Go.ChangeShapes Go.WideShapes Go.ChangeAt Go.RowKit
variable{P:Program}{α β H:Type}{T:TypeId}{n base:Nat}{cs:List Value}{Γ:az}{fs:Array Field}{p:List MemPlace}
def az.of(W:World):az:={w:=W,F:=fun b _=>b<W.heap.size,X:=fun _=>False,hs:=[]}
def az.WH{W:World}(c:ug (az.of W)):aZ (az.of W) []:=⟨rfl,fun h o d=>by simp at d,fun h f v g o i j k b e=>by simp at e,fun b z a=>a,fun b a=>a.elim,c⟩
def WW{f:FuncId}{g:List aw}{W:World}{d:Array Value}{b:Bool}{j:List Ob}(h:Nx.Call P f g [] (.c (B b)) j)(l:ug (az.of W))(hc:bT (az.of W) g d.toList):
  Calls P f d W fun e m=>e= .returned (.bool b)/\Below W.heap.size W m:=by
 refine(h.2 (az.of W) (az.WH l) d hc).mono fun e p n=>?_
 obtain⟨y,q,rfl,rfl,a,r,i⟩:=n
 simp only[aL,aB]at i
 exact⟨by rw[i.1],a.os,a.tape,a.output,a.size,fun k o=>a.frame k o (fun h=>h)⟩
def Reads(P:Program)(T:TypeId)(e:α->List ab)(ok:α->Prop):Prop:=
 ∀(H:Type) (b:TypeId×Value->H) (W:World) (c:Nat->Bool) (d:Bool) (n:Nat) (cs:List Value) (x:DataW H×List MemPlace),ak8 b P W 0 c d n T cs=some x->∃a,ok a/\aY (az.of W) (e a) cs
theorem RQ{k:IntKind}(a:P.underlying T=some (.int k)):Reads P T (fun n:Int=>[.v (.int k n)]) (fun n=>(Lit.int k n).wf=true):=by
 intro H b W c d n cs x h;cases n with
 |zero=>simp[ak8]at h
 |succ n=>unfold ak8 at h;grind [aY,aB,aiw]
def M8{W:World}{a:Addr}(h:W.cells? 0 a n=some cs):cs.length=n/\∀i,i<n->W.cell? (a.add i)=cs[i]?:=by unfold amC at h;rw[if_pos (akg _)]at h;have b:=mapM_some_length h;simp at b;exact⟨b,fun i c=>mapM_some_get h i i (by simp[c])⟩
theorem SK{p:Nat->β->Prop}(h:∀i,i<n->∃b,p i b):∃l:List β,l.length=n/\∀i b,l[i]?=some b->p i b:=by
 induction n with
 |zero=>simp
 |succ n a=>have⟨l,d,hp⟩:=a (fun i e=>h i (by omega));have⟨b,f⟩:=h n (by omega);refine⟨l++[b],by simp[d],fun i c hc=>?_⟩;grind
def Ri{Γ:az}{b:Nat}:∀ {off:Nat} {r:List ab} {cs:List Value},aY Γ r cs->(∀i,i<r.length->Γ.w.cell? ⟨b,off+i,none⟩=cs[i]?)->cR Γ b off r
 |off,[],_,_,_=>by simp[cR]
 |off,l::d,cs,h,hc=>by
  simp only[aY]at h
  obtain⟨y,e,rfl,a,c⟩:=h
  simp only[cR]
  refine⟨⟨y,by simpa using hc 0 (by simp),a⟩,Ri c (fun i f=>?_)⟩
  rw[show off+1+i=off+(i+1)by omega]
  simp_all
theorem I4{E:TypeId}{b:Nat}{f:β->List ab}{ok:β->Prop}(w:P.underlying T=some (.slice E))(y:Reads P E f ok)(z:P.cellsOf E=b)(A:0<b)(q:∀x,(f x).length=b):
  Reads P T (fun l:List β=>[.aj (l.map f)]) (fun l=>l.length<=maxLen/\∀x∈l,ok x):=by
 intro H B W C D n cs x h
 cases n with
 |zero=>simp[ak8]at h
 |succ n=>
  rw[DataW.trod_step]at h
  unfold DataW.trodStep at h
  rw[w]at h
  split at h<;>try (simp_all;done)
  .exact ⟨[],⟨akg _,by simp⟩,by simp[aY,aB]⟩
  .rename_i a k cap m
   obtain rfl:E=_:=by simpa using m
   simp only at h
   split at h
   case isFalse=>cases h
   rename_i F
   have⟨_,Y,Z⟩:=F
   rw[akB]at h
   have⟨G,r,_⟩:=h
   have I:=mapM_some_length r
   simp at I
   have J:∀i,i<k->∃c:β×List Value,ok c.1/\aY (az.of W) (f c.1) c.2/\W.cells? 0 (a.add (i*b)) b=some c.2:=fun i e=>by
    have o:=mapM_some_get r i i (by simp[e])
    have K:i<G.length:=by omega
    rw[abM K]at o
    rw[akB]at o
    have⟨cs,L,M⟩:=o
    have⟨c,N,O⟩:=y H B W C D n cs _ M
    rw[z]at L
    refine⟨(c,cs),N,O,?_⟩
    omega
   have⟨l,Q,hp⟩:=SK J
   refine⟨l.map (·.1),⟨by simp;omega,fun x hx=>?_⟩,?_⟩
   .grind [(List.mem_iff_getElem?)]
   .simp only[aY]
    refine⟨_,[],rfl,?_,rfl⟩
    simp only[aB]
    right
    refine⟨a,cap,b,by simp[Q],by simp;omega,?_⟩
    by_cases R:l=[]
    .grind
    .right
     have aa:0<k:=by
      rcases akZ k with g|g
      .exact absurd (ae4 (by omega)) R
      .exact g
     have t:∀(i:Nat) (c:β×List Value),l[i]?=some c->∀j,j<b->W.cell? ((a.add (i*b)).add j)=c.2[j]?:=fun i c hc j p=>(M8 (hp i c hc).2.2).2 j p
     have S:∀(i:Nat) (c:β×List Value),l[i]?=some c->c.2.length=b:=fun i c hc=>(M8 (hp i c hc).2.2).1
     have g:∃c,l[0]?=some c:=⟨_,abM (by omega)⟩
     have⟨u,v⟩:=g
     have d:=t 0 u v 0 A
     have ad:=S 0 u v
     rw[abM (by omega)]at d
     simp only[akX,Addr.add,if_true]at d
     have U:a.spot=none:=World.cell?_spot d
     have V:a.block<W.heap.size:=by
      unfold World.cell? at d
      split at d
      .rename_i m
       exact(ajC.1 m).1
      .cases d
     refine⟨U,V,mY fun i ae e=>?_⟩
     simp only[ajc,adf,ab4]at e
     obtain⟨c,hc,rfl⟩:=e
     refine⟨q _,Ri (hp i c hc).2.1 (fun j p=>?_)⟩
     have X:j<b:=by rw[<-q c.1];exact p
     rw[<-t i c hc j X]
     have⟨af,ag,s⟩:=a
     grind [(jG),az.of]
def jw{a b:List ab}{o k:Nat}(c:aY Γ a ((cs.drop o).take k))(d:aY Γ b (cs.drop (o+k))):aY Γ (a++b) (cs.drop o):=by have:=su c d;rwa [show(cs.drop o).take k++cs.drop (o+k)=cs.drop o by rw[<-akd];exact ajI k (cs.drop o)]at this
def xz(h:cs.length=n):aY Γ [] (cs.drop n):=by simp[aY, <-h]
theorem xb{e:α->List ab}{ok:α->Prop}(g:P.underlying T=some (.struct fs))(hn:P.cellsOf T=n)
  (h:∀(H:Type) (b:TypeId×Value->H) (W:World) (c:Nat->Bool) (d:Bool) (m:Nat) (cs:List Value),cs.length=n->(∀(i:Nat) (f:Field),fs[i]?=some f->∃x,ak8 b P W 0 c d m f.type ((cs.drop f.offset).take (P.cellsOf f.type))=some x)->∃a,ok a/\aY (az.of W) (e a) cs):Reads P T e ok:=by
 intro H b W c d k cs x j
 obtain⟨o,m,rfl,rfl,l,p,q⟩:=DataW.trod_struct g j
 refine h H b W c d m cs (by rw[l,hn]) (fun i f r=>?_)
 grind
theorem adM{b:TypeId×Value->H}{W:World}{g:α->ab}{ok:α->Prop}(e:Reads P T (fun a=>[g a]) ok){v:Value}{d:DataW H}(f:∀cs,v≠ .agg cs)(h:DataW.Trod b P W 0 (fun _=>true) true T v d p):∃a,ok a/\aL (az.of W) (.c (g a)) v:=by
 have⟨n,hn⟩:=h;have⟨a,i,j⟩:=e H b W _ _ n _ _ hn;refine⟨a,i,?_⟩;have k:v.cells= #[v]:=by cases v<;>first|rfl|exact absurd rfl (f _)
 grind [aY,aL]
def QO{b:TypeId×Value->H}{W:World}{e:α->List ab}{ok:α->Prop}(c:Reads P T e ok){v:Value}{d:DataW H}(f:∃cs,v= .agg cs)(h:DataW.Trod b P W 0 (fun _=>true) true T v d p):∃a,ok a/\aL (az.of W) (.agg (e a)) v:=by have⟨n,hn⟩:=h;have⟨a,g,i⟩:=c H b W _ _ n _ _ hn;obtain⟨cs,rfl⟩:=f;exact⟨a,g,cs,rfl,i⟩
theorem Ld{W:World}{v:Value}(a:P.underlying T=some (.struct fs))(h:alj P W .any base T v):∃cs,v= .agg cs:=by grind [alj]
def acA{W:World}{E:TypeId}{v:Value}(a:P.underlying T=some (.slice E))(h:alj P W .any base T v):∀cs,v≠ .agg cs:=by rintro cs rfl;simp[alj,a,Cell.okWide,Cell.ok]at h
end Go.Nx
namespace Go.Nx
section
variable{Γ1 Γ2:az}{bs:List Nat}(hw:Γ2.w=Γ1.w)(hF:∀b z,Γ1.F b z->Γ2.F b z\/z∈bs)
include hw hF
mutual
theorem oC:∀(l:ab) (y:Value),bC l=true->(bs=[]\/fW bs l=true)->aB Γ1 l y->aB Γ2 l y
 | .v x,y,_,_,hc=>by grind [aB]
 | .aj rows,y,h,hn,hc=>by
  simp only[bC]at h
  simp only[aB]at hc|-
  rcases hc with hc|⟨a,cap,d,e,g,c⟩
  .exact .inl hc
  .refine .inr ⟨a,cap,d,e,g,?_⟩
   rcases c with c|⟨c,m,n⟩
   .exact .inl c
   .rcases xS a.block d a.off rows h (hn.imp id fun h=>by simpa[fW]using h) m n with j|j
    .exact .inl j
    grind
 | .eU rows,y,h,hn,hc=>by
  simp only[bC]at h
  simp only[aB]at hc|-
  have⟨a,cap,d,e,g,c⟩:=hc
  refine⟨a,cap,d,e,g,?_⟩
  rcases c with c|⟨c,m,n⟩
  .exact .inl c
  .rcases xS a.block d a.off rows h (hn.imp id fun h=>by simpa[fW]using h) m n with j|j
   .exact .inl j
   grind
 | .ptr _ _ _ _,y,h,_,_=>by simp[bC]at h
 | .sl _ _ _ _,y,h,_,_=>by simp[bC]at h
 | .mr _,y,h,_,_=>by simp[bC]at h
 | .mG _,y,h,_,_=>by simp[bC]at h
 | .aJ rows i k,y,h,hn,hc=>by
  simp only[bC]at h
  simp only[aB]at hc|-
  have⟨b,o,d,e,g,c⟩:=hc
  rcases hn with hn|hn
  .rcases xS b d o rows h (.inl hn) g c with j|j
   .subst j
    refine⟨b,o,d,e,(hF b d g).resolve_right (by simp[hn]),by simp[bE]⟩
   .exact ⟨b,o,d,e,j.1,j.2⟩
  grind [fW]
 | .bF f p,y,h,hn,hc=>by
  simp only[bC]at h
  simp only[aB]at hc|-
  have⟨q,e,g⟩:=hc
  rcases hn with hn|hn
  .exact ⟨q,e,IG p _ h (.inl hn) g⟩
  grind [fW]
 | .ig t l,y,h,hn,hc=>by
  simp only[bC]at h
  simp only[aB]at hc|-
  have⟨z,e,g⟩:=hc
  rcases hn with hn|hn
  .exact ⟨z,e,oC l z h (.inl hn) g⟩
  grind [fW]
theorem xS(b a:Nat):∀(off:Nat) (rows:List (List ab)),bA rows=true->(bs=[]\/gZ bs rows=true)->Γ1.F b a->bE Γ1 b a off rows->rows=[]\/(Γ2.F b a/\bE Γ2 b a off rows)
 |_,[],_,_,_,_=> .inl rfl
 |off,r::c,h,hn,e,hc=>by
  right
  simp only[bA,abR]at h
  simp only[bE]at hc|-
  have f:Γ2.F b a:=by grind [gZ]
  have g:bs=[]\/cW bs r=true:=hn.imp id fun h=>by grind [gZ]
  have i:bs=[]\/gZ bs c=true:=hn.imp id fun h=>by grind [gZ]
  refine⟨f,hc.1,Ap b off r h.1 g hc.2.1,?_⟩
  rcases xS b a (off+a) c h.2 i e hc.2.2 with d|d
  .grind [bE]
  .exact d.2
theorem Ap(b:Nat):∀(off:Nat) (r:List ab),cy r=true->(bs=[]\/cW bs r=true)->cR Γ1 b off r->cR Γ2 b off r
 |_,[],_,_,_=>by simp[cR]
 |off,l::a,h,hn,hc=>by
  simp only[cy,abR]at h
  simp only[cR]at hc|-
  have⟨⟨y,g,c⟩,d⟩:=hc
  have e:bs=[]\/fW bs l=true:=hn.imp id fun h=>by grind [cW]
  have f:bs=[]\/cW bs a=true:=hn.imp id fun h=>by grind [cW]
  exact⟨⟨y,by grind,oC l y h.1 e c⟩,Ap b _ a h.2 f d⟩
theorem IG:∀(a:List ab) (b:List Value),cy a=true->(bs=[]\/cW bs a=true)->aY Γ1 a b->aY Γ2 a b
 |[],b,_,_,hc=>by grind [aY]
 |l::a,b,h,hn,hc=>by
  simp only[cy,abR]at h
  simp only[aY]at hc|-
  have⟨y,c,d,e,f⟩:=hc
  have g:bs=[]\/fW bs l=true:=hn.imp id fun h=>by grind [cW]
  have i:bs=[]\/cW bs a=true:=hn.imp id fun h=>by grind [cW]
  exact⟨y,c,d,oC l y h.1 g e,IG a c h.2 i f⟩
end
end
def l8(Γ1 Γ2:az)(bs0 bs:List Nat)(g:ab->Option (ab×List Nat)):Prop:=
 ∀l a b,g l=some (a,b)->(∀z∈b,z∈bs)->(bs0=[]\/fW bs0 a=true)->∀y,aB Γ1 l y->aB Γ2 a y
section
variable{Γ1 Γ2:az}{bs0 bs:List Nat}{g:ab->Option (ab×List Nat)}
theorem l8.all(k:l8 Γ1 Γ2 bs0 bs g):∀(d c:List ab) (e:List Nat),eX g d=some (c,e)->(∀z∈e,z∈bs)->(bs0=[]\/cW bs0 c=true)->∀f,aY Γ1 d f->aY Γ2 c f
 |[],c,e,h,i,hn,f,hc=>by
  grind [eX,aY]
 |l::d,c,e,h,i,hn,f,hc=>by
  simp only[eX]at h
  split at h
  .rename_i a x b y n o
   cases h
   simp only[aY]at hc|-
   obtain⟨v,m,rfl,p,q⟩:=hc
   refine⟨v,m,rfl,k l a x n (fun z j=>i z (by simp[j])) (hn.imp id fun h=>by grind [cW]) v p,
    l8.all k d b y o (fun z j=>i z (by simp[j])) (hn.imp id fun h=>by grind [cW]) m q⟩
  .cases h
theorem l8.row(hw:Γ2.w=Γ1.w)(k:l8 Γ1 Γ2 bs0 bs g)(b:Nat):∀(d c:List ab) (f:List Nat) (e:Nat),eX g d=some (c,f)->(∀z∈f,z∈bs)->(bs0=[]\/cW bs0 c=true)->cR Γ1 b e d->cR Γ2 b e c/\c.length=d.length
 |[],c,f,e,h,i,hn,hc=>by
  grind [eX,cR]
 |l::d,c,f,e,h,i,hn,hc=>by
  simp only[eX]at h
  split at h
  .rename_i a x m y n o
   cases h
   simp only[cR]at hc|-
   have⟨⟨v,r,p⟩,q⟩:=hc
   have:=l8.row hw k b d m y (e+1) o (fun z j=>i z (by simp[j])) (hn.imp id fun h=>by grind [cW]) q
   exact⟨⟨⟨v,by grind,k l a x n (fun z j=>i z (by simp[j])) (hn.imp id fun h=>by grind [cW]) v p⟩,this.1⟩,by simp[this.2]⟩
  .cases h
theorem l8.Pm(hw:Γ2.w=Γ1.w)(l:l8 Γ1 Γ2 bs0 bs g)(b f:Nat):∀(e c:List (List ab)) (i:List Nat) (d:Nat),jR g e=some (c,i)->(∀z∈i,z∈bs)->(bs0=[]\/gZ bs0 c=true)->bE Γ1 b f d e->bE Γ2 b f d c/\c.length=e.length
 |[],c,i,d,h,j,hn,hc=>by
  grind [jR,bE]
 |r::e,c,i,d,h,j,hn,hc=>by
  simp only[jR]at h
  split at h
  .rename_i a x m y n o
   cases h
   simp only[bE]at hc|-
   have⟨t,p,s⟩:=hc
   have q:=l8.row hw l b r a x d n (fun z k=>j z (by simp[k])) (hn.imp id fun h=>by simp only[gZ,abR]at h;exact h.1.2) p
   have:=l8.Pm hw l b f e m y (d+f) o (fun z k=>j z (by simp[k])) (hn.imp id fun h=>by simp only[gZ,abR]at h;exact h.2) s
   grind
  .cases h
end
section
variable{Γ1 Γ2:az}{bs0 bs:List Nat}{H:List Ob}(hw:Γ2.w=Γ1.w)(hok:aZ Γ1 H)(hF:∀b z,Γ1.F b z->Γ2.F b z\/z∈bs0)
 (hB:∀(h ver z:Nat) (rows:List (List ab)) (inf:fm) (b:Nat),H[h]?=some (.live ver z rows)->Γ1.hs[h]?=some (inf,ver)->inf.base=some b->z∈bs->Γ2.F b z)
include hw hok hF hB
theorem Ph{g:ab->Option (ab×List Nat)}(l:l8 Γ1 Γ2 bs0 bs g){b d c:Nat}(m:Γ2.F b d){a e:List (List ab)}{f:List Nat}(h:jb g a=some (e,f))(n:∀z∈f,z∈bs)(hn:bs0=[]\/gZ bs0 e=true)
  (hc:bE Γ1 b d c a):bE Γ2 b d c e/\e.length=a.length:=by
 unfold jb at h
 split at h
 .rename_i i
  cases h
  refine⟨?_,rfl⟩
  have j:∀(a:List (List ab)) (c:Nat),bA a=true->(bs0=[]\/gZ bs0 a=true)->bE Γ1 b d c a->bE Γ2 b d c a:=by
   intro a
   induction a with
   |nil=>intro c _ _ _;simp[bE]
   |cons r a k=>
    intro c h hn hc
    simp only[bA,abR]at h
    simp only[bE]at hc|-
    exact⟨hc.1,Ap hw hF b c r h.1 (hn.imp id fun h=>by simp only[gZ,abR]at h;exact h.1.2) hc.2.1,
     k (c+d) h.2 (hn.imp id fun h=>by simp only[gZ,abR]at h;exact h.2) hc.2.2⟩
  exact j a c i hn hc
 grind [(l8.Pm)]
theorem yB:∀n,l8 Γ1 Γ2 bs0 bs (bU H n)
 |0=>fun l A B h=>by simp[bU]at h
 |n+1=>fun l A B h o hn y hc=>by
  have C:=yB n
  simp only[bU]at h
  split at h
  .grind [(oC)]
  .split at h
   .rename_i p ver j m D
    split at h
    .rename_i z r rows c d
     split at h
     .rename_i E F t
      cases h
      have Q:=d
      simp only[view,c]at d
      split at d
      .rename_i R
       cases d
       have⟨inf,e,G,f⟩:=hok.obj c
       simp only[aB]at hc
       obtain⟨I,S,a,cap,c1,c2,rfl,c3⟩:=hc
       rw[e]at c1
       cases c1
       have g:z∈bs:=o z (by simp)
       have U:((r.drop j).take m).length=m:=by grind
       rcases c3 rfl with⟨d1,rfl,rfl,rfl,rfl⟩|⟨b,V,d1,rfl,rfl,d2,d3⟩
       .grind [jb,bA,aB]
       .simp only[d1]at f
        have⟨u,J,K,L,M,cells,T,N,O,s⟩:=f
        have v:=hB p ver z r inf b (eP c) e d1 g
        have P:bE Γ1 b z (inf.off+j*z) ((r.drop j).take m):=by
         rw[u]at s
         exact kJ (ml s j) m
        have q:=Ph hw hok hF hB C v t (fun z g=>o z (by simp[g])) (hn.imp id fun h=>by simpa[fW]using h) P
        grind [aB]
      .cases d
     .cases h
    .cases h
   .rename_i p ver i k D
    split at h
    .rename_i z rows c
     split at h
     .rename_i E F t
      cases h
      have⟨inf,e,G,f⟩:=hok.obj c
      obtain⟨I,b,w,x,rfl⟩:=wI hok hc c
      rw[e]at w
      cases w
      simp only[x]at f
      have⟨u,J,K,L,M,cells,T,N,O,s⟩:=f
      have g:z∈bs:=o z (by simp)
      have v:=hB p ver z rows inf b (eP c) e x g
      grind [(Ph),aB,fW]
     .cases h
    .cases h
   .grind [aB,(l8.all),fW]
   .cases h
theorem TB{v b:aw}{c:List Nat}(h:df H v=some (b,c))(d:∀z∈c,z∈bs)(e:bs0=[]){y:Value}(hc:aL Γ1 v y):aL Γ2 b y:=by
 unfold df at h;split at h
 .split at h
  .rename_i k f a;cases h;simp only[aL]at hc|-;exact yB hw hok hF hB 6 _ _ _ a d (.inl e) y hc
  .cases h
 .split at h
  .rename_i l f a;cases h;simp only[aL]at hc|-;have⟨g,i,j⟩:=hc;exact⟨g,i,E3 (l8.all (yB hw hok hF hB 6) _ _ _ a d (.inl e) _ j)⟩
  .cases h
 .cases h
theorem It:∀(c d:List aw) (e:List Nat),r7 H c=some (d,e)->(∀z∈e,z∈bs)->bs0=[]->∀f,bT Γ1 c f->bT Γ2 d f
 |[],d,e,h,g,i,f,hc=>by
  grind [r7,bT]
 |v::c,d,e,h,g,i,f,hc=>by
  simp only[r7]at h
  split at h
  .rename_i a x b y l m
   cases h
   simp only[bT]at hc|-
   obtain⟨u,k,rfl,n,o⟩:=hc
   exact⟨u,k,rfl,TB hw hok hF hB l (fun z j=>g z (by simp[j])) i n,It c b y m (fun z j=>g z (by simp[j])) i k o⟩
  .cases h
end
end Go.Nx
namespace Go.Nx
def af2(H:List Ob)(s:Nat×Nat)(o:Ob):Prop:= ∃c b z a,o= .live 0 z ((a.drop s.2).take b)/\obj H s.1 c=some (z,a)/\s.2+b<=a.length/\bA ((a.drop s.2).take b)=true
structure oL(H:List Ob)(sel:List (Nat×Nat))(p:List Nat×List Ob):Prop where
 len:p.2.length=sel.length
 at_:∀(k:Nat) (o:Ob),p.2[k]?=some o->∃s,sel[k]?=some s/\af2 H s o
 used:∀h,h∈p.1↔h∈sel.map (·.1)
 nodup:(sel.map (·.1)).Nodup
def tK(d:Bool)(H:List Ob)(g:List (Nat×Nat))(l a:ab):Prop:=
 (bC l=true/\a=l)\/(d=true/\∃i,bU H 7 l=some (a,i))\/
 (d=false/\∃h e b c k z f,l= .sl h e b c/\a= .sl k 0 0 c/\g[k]?=some (h,b)/\obj H h e=some (z,f)/\b+c<=f.length)
theorem tK.mono{a:Bool}{H:List Ob}{b d:List (Nat×Nat)}{l c:ab}(h:tK a H b l c):tK a H (b++d) l c:=by
 rcases h with h|h|⟨e,h,f,g,i,k,z,j,m,n,q,o,p⟩
 .exact .inl h
 .exact .inr (.inl h)
 .refine .inr (.inr ⟨e,h,f,g,i,k,z,j,m,n,?_,o,p⟩);grind
def rU(b:Bool)(H:List Ob)(c:List (Nat×Nat)):List ab->List ab->Prop
 |[],a=>a=[]
 |l::f,a=>∃d e,a=d::e/\tK b H c l d/\rU b H c f e
theorem rU.mono{c:Bool}{H:List Ob}{d e:List (Nat×Nat)}:∀ {b a:List ab},rU c H d b a->rU c H (d++e) b a
 |[],a,h=>h
 |l::b,a,h=>by
  obtain⟨f,g,rfl,i,j⟩:=h
  exact⟨f,g,rfl,i.mono,rU.mono j⟩
def uQ(a:Bool)(H:List Ob)(b:List (Nat×Nat))(v d:aw):Prop:=
 (∃l e,v= .c l/\d= .c e/\tK a H b l e)\/(∃f g,v= .agg f/\d= .agg g/\rU a H b f g)
theorem uQ.mono{e:Bool}{H:List Ob}{f i:List (Nat×Nat)}{v g:aw}(h:uQ e H f v g):uQ e H (f++i) v g:=by
 rcases h with⟨l,a,b,c,d⟩|⟨l,a,b,c,d⟩
 .exact .inl ⟨l,a,b,c,d.mono⟩
 .exact .inr ⟨l,a,b,c,d.mono⟩
def JR(b:Bool)(H:List Ob)(c:List (Nat×Nat)):List aw->List aw->Prop
 |[],a=>a=[]
 |v::f,a=>∃d e,a=d::e/\uQ b H c v d/\JR b H c f e
def O9(a:Bool)(H:List Ob)(b:List (Nat×Nat))(v c:aw):Prop:=
 uQ a H b v c\/∃d e,v= .aM d/\c= .aM e/\JR a H b d e
def NI{f:Bool}{H:List Ob}{b:List (Nat×Nat)}{p g:List Nat×List Ob}{l i:ab}(hp:oL H b p)(h:fh f H p l=some (i,g)):∃j,oL H (b++j) g/\tK f H (b++j) l i:=by
 unfold fh at h;split at h
 .rename_i u;cases h;exact⟨[],by grind,.inl ⟨u,rfl⟩⟩
 .rename_i x;split at h
  .rename_i c m d n;split at h
   .rename_i z q rows e a;have y:=a;simp only[view,e]at a;split at a
    .rename_i r;cases a;split at h
     .rename_i s;split at h
      .rename_i A v B;cases h;refine⟨[],by simpa using hp,.inr (.inl ⟨s,z::v,?_⟩)⟩;grind [(bU.eq_2)]
      .cases h
     .rename_i s;split at h
      .rename_i hc;cases h;simp only[abR,afa]at hc;refine⟨[(c,d)],⟨by simp[hp.len],fun k o t=>?_,fun h=>?_,?_⟩,?_⟩
       .by_cases C:k<p.2.length
        .grind [(oL.at_)]
        .have w:k=p.2.length:=by grind
         subst w;simp at t;subst t;exact⟨(c,d),by rw[hp.len];simp,m,n,z,q,rfl,e,r,hc.1⟩
       .grind [(oL.used)]
       .grind [(oL.nodup),(oL.used)]
       .refine .inr (.inr ⟨by grind,c,m,d,n,p.2.length,z,q,rfl,rfl,?_,e,r⟩);rw[hp.len];simp
      .cases h
    .cases a
   .cases h
  .cases h
def Sj{e:Bool}{H:List Ob}:∀ {d b:List ab} {a:List (Nat×Nat)} {p c:List Nat×List Ob},oL H a p->qk e H p d=some (b,c)->∃f,oL H (a++f) c/\rU e H (a++f) d b
 |[],b,a,p,c,hp,h=>by
  simp only[qk,ab1,aca]at h
  obtain⟨rfl,rfl⟩:=h
  exact⟨[],by grind,rfl⟩
 |l::d,b,a,p,c,hp,h=>by
  simp only[qk]at h
  split at h
  .rename_i g r i
   split at h
   .rename_i j s k
    cases h
    have⟨m,n,o⟩:=NI hp i
    have⟨q,t,u⟩:=Sj n k
    exact⟨m++q,by grind,g,j,rfl,by rw[<-aiu];exact o.mono,by grind⟩
   .cases h
  .cases h
def OX{f:Bool}{H:List Ob}{v g:aw}{a:List (Nat×Nat)}{p i:List Nat×List Ob}(hp:oL H a p)(h:uo f H p v=some (g,i)):∃j,oL H (a++j) i/\uQ f H (a++j) v g:=by
 unfold uo at h;split at h
 .split at h
  .rename_i k l b;cases h;have⟨c,d,e⟩:=NI hp b;exact⟨c,d,.inl ⟨_,_,rfl,rfl,e⟩⟩
  .cases h
 .split at h
  .rename_i k l b;cases h;have⟨c,d,e⟩:=Sj hp b;exact⟨c,d,.inr ⟨_,_,rfl,rfl,e⟩⟩
  .cases h
 .cases h
def Qq{e:Bool}{H:List Ob}:∀ {d b:List aw} {a:List (Nat×Nat)} {p c:List Nat×List Ob},oL H a p->outs e H p d=some (b,c)->∃f,oL H (a++f) c/\JR e H (a++f) d b
 |[],b,a,p,c,hp,h=>by
  simp only[outs,ab1,aca]at h
  obtain⟨rfl,rfl⟩:=h
  exact⟨[],by grind,rfl⟩
 |v::d,b,a,p,c,hp,h=>by
  simp only[outs]at h
  split at h
  .rename_i g q i
   split at h
   .rename_i j r k
    cases h
    have⟨l,m,n⟩:=OX hp i
    have⟨o,s,t⟩:=Qq m k
    exact⟨l++o,by grind,g,j,rfl,by rw[<-aiu];exact n.mono,by grind⟩
   .cases h
  .cases h
def Y4{e:Bool}{H:List Ob}{v f:aw}{own:List Ob}(h:dI e H v=some (f,own)):∃g a,oL H g (a,own)/\O9 e H g v f:=by
 have i:oL H [] ([],[]):=⟨rfl,fun k o j=>by simp at j,fun h=>by simp,by simp⟩;unfold dI at h;split at h
 .split at h
  .rename_i l a m b;cases h;have⟨s,c,d⟩:=Qq i b;exact⟨_,_,c,.inr ⟨_,_,rfl,rfl,d⟩⟩
  .cases h
 .split at h
  .rename_i l a m b;cases h;have⟨s,c,d⟩:=OX i b;exact⟨_,_,c,.inl d⟩
  .cases h
variable{n:Nat}{l:ab}{v':aw}{y:Value}
theorem adp(rows:List (List ab)):bA rows=true↔ ∀r∈rows,cy r=true:=by
 induction rows with
 |nil=>simp[bA]
 |cons r b a=>simp[bA,a]
theorem adC(a:List ab):cy a=true↔ ∀l∈a,bC l=true:=by
 induction a with
 |nil=>simp[cy]
 |cons r c b=>simp[cy,b]
theorem CQ{g:ab->Option (ab×List Nat)}(e:∀l f bs,g l=some (f,bs)->bC f=true):∀d c bs,eX g d=some (c,bs)->cy c=true
 |[],c,bs,h=>by
  simp only[eX,ab1,aca]at h
  obtain⟨rfl,rfl⟩:=h
  rfl
 |l::d,c,bs,h=>by
  simp only[eX]at h
  split at h
  .rename_i a x b y i j
   cases h
   simp only[cy,e _ _ _ i,CQ e d b y j,ald]
  .cases h
theorem Sx{g:ab->Option (ab×List Nat)}(f:∀l e bs,g l=some (e,bs)->bC e=true){d c:List (List ab)}{bs:List Nat}(h:jb g d=some (c,bs)):bA c=true:=by
 unfold jb at h;split at h
 .grind
 .have m:∀(d c:List (List ab)) (bs:List Nat),jR g d=some (c,bs)->bA c=true:=by
   intro d;induction d with
   |nil=>intro c bs h;simp only[jR,ab1,aca]at h;obtain⟨rfl,rfl⟩:=h;rfl
   |cons r d i=>
    intro c bs h;simp only[jR]at h;split at h
    .rename_i a x b y j k;cases h;simp only[bA,CQ f _ _ _ j,i b y k,ald]
    .cases h
  grind
theorem AA{H:List Ob}:∀n l b bs,bU H n l=some (b,bs)->bC b=true
 |0,l,b,bs,h=>by simp[bU]at h
 |n+1,l,b,bs,h=>by
  simp only[bU]at h
  split at h
  .grind
  .split at h
   .split at h
    .split at h
     .rename_i a
      cases h
      simpa[bC]using Sx (AA n) a
     .cases h
    .cases h
   .split at h
    .split at h
     .rename_i a
      cases h
      simpa[bC]using Sx (AA n) a
     .cases h
    .cases h
   .split at h
    .rename_i a
     cases h
     simpa[bC]using CQ (AA n) _ _ _ a
    .cases h
   .cases h
theorem De(h:bC l=true):dZ n l=l:=by
 cases l with
 |ptr=>simp[bC]at h
 |sl=>simp[bC]at h
 |mr=>simp[bC]at h
 |mG=>simp[bC]at h
 |_=>rfl
theorem CC{rows:List (List ab)}(h:bA rows=true):(rows.map fun r=>r.map (dZ n))=rows:=by rw[adp]at h;refine(ajp fun r a=>?_).trans (List.map_id rows);have:=(adC r).1 (h r a);exact(ajp fun l b=>De (this l b)).trans (List.map_id r)
theorem O8{H:List Ob}{p a:List Nat×List Ob}{b:ab}(h:fh true H p l=some (b,a)):a=p:=by unfold fh at h;grind
theorem QX{H:List Ob}:∀ {c b:List ab} {p a:List Nat×List Ob},qk true H p c=some (b,a)->a=p
 |[],b,p,a,h=>by grind [qk]
 |l::c,b,p,a,h=>by
  simp only[qk]at h
  split at h
  .rename_i d
   split at h
   .rename_i e
    cases h
    rw[QX e,O8 d]
   .cases h
  .cases h
theorem M5{H:List Ob}{v:aw}{p a:List Nat×List Ob}(h:uo true H p v=some (v',a)):a=p:=by unfold uo at h;grind [(O8),(QX)]
theorem MC{H:List Ob}:∀ {c b:List aw} {p a:List Nat×List Ob},outs true H p c=some (b,a)->a=p
 |[],b,p,a,h=>by grind [outs]
 |l::f,g,p,a,h=>by
  simp only[outs]at h
  split at h
  .rename_i d
   split at h
   .rename_i e
    cases h
    rw[MC e,M5 d]
   .cases h
  .cases h
theorem Xf{H:List Ob}{v:aw}{own:List Ob}(h:dI true H v=some (v',own)):own=[]:=by unfold dI at h;grind [(MC),(M5)]
theorem Kk{Γ1 Γ2:az}{bs:List Nat}(d:Γ2.w=Γ1.w)(e:∀b z,Γ1.F b z->Γ2.F b z\/z∈bs){b c:Nat}:∀(rows:List (List ab)) (a:Nat),bA rows=true->(bs=[]\/∀r∈rows,cW bs r=true)->bE Γ1 b c a rows->bE Γ2 b c a rows
 |[],a,_,_,_=>by simp[bE]
 |r::f,a,h,hn,hc=>by
  simp only[bA,abR]at h
  simp only[bE]at hc|-
  exact⟨hc.1,Ap d e b a r h.1 (hn.imp id fun h=>h r (by simp)) hc.2.1,Kk d e f (a+c) h.2 (hn.imp id fun h=>fun q g=>h q (by simp[g])) hc.2.2⟩
def uC(Γ:az)(H:List Ob)(b z:Nat):Prop:= ∃(h a:Nat) (rows:List (List ab)) (c:fm),H[h]?=some (.live a z rows)/\Γ.hs[h]?=some (c,a)/\c.base=some b
theorem uC.own{Γ:az}{H:List Ob}(hok:aZ Γ H){b z:Nat}(h:uC Γ H b z):Γ.X b/\∀z, ¬Γ.F b z:=by have⟨h,e,rows,f,a,c,d⟩:=h;exact(hok.ob h _ a).own rfl c d
def az.nJ(Γ:az)(H:List Ob)(bs:List Nat):az:={w:=Γ.w,F:=fun b z=>Γ.F b z\/(z∈bs/\uC Γ H b z),X:=fun _=>False,hs:=[]}
theorem aZ.nJ{Γ:az}{H:List Ob}(hok:aZ Γ H)(bs:List Nat):aZ (Γ.nJ H bs) []where
 len:=rfl
 ob h o e:=by simp at e
 apart h j v v' o k l m b c:=by simp at c
 F b z a:=by
  rcases a with a|⟨_,a⟩
  .exact hok.F b z a
  .exact hok.X b (a.own hok).1
 X b f:=f.elim
 G p hp:=by
  have⟨c,g⟩:=hok.G p hp
  refine⟨.inl c,?_⟩
  have i:bA p.2.2=true:=by
   simp only[sK,aeM,aiV,or_false]at hp
   rcases hp with rfl|rfl<;>rfl
  rcases xS (Γ1:=Γ) (Γ2:=Γ.nJ H bs) (bs:=[]) rfl (fun b z h=> .inl (.inl h)) _ _ _ _ i (.inl rfl) c g with d|d
  .grind [bE]
  .exact d.2
def Im(Γ:az)(s:Nat×Nat):fm×Nat:=
 match Γ.hs[s.1]? with
 |some (i,_)=>(⟨i.base,i.off+s.2*i.sz,i.cap-s.2,i.sz⟩,0)
 |none=>(⟨none,0,0,0⟩,0)
def az.back(Γ Γ1:az)(H1:List Ob)(fz:Bool)(sel:List (Nat×Nat)):az:=
 {w:=Γ1.w,F:=fun b z=>Γ.F b z\/(Γ.w.heap.size<=b/\(Γ1.F b z\/(fz=true/\uC Γ1 H1 b z))),X:=fun b=>Γ.X b\/(Γ.w.heap.size<=b/\Γ1.X b),hs:=Γ.hs++sel.map (Im Γ1)}
section
variable{Γ Γ1:az}{H H1:List Ob}{bs:List Nat}{fz:Bool}{sel:List (Nat×Nat)}(hok:aZ Γ H)(hext:(Γ.nJ H bs).cL Γ1)(hok1:aZ Γ1 H1)
include hok hext hok1
theorem GV:∀b z,Γ1.F b z->(Γ.back Γ1 H1 fz sel).F b z\/z∈bs:=fun b z a=>by
 rcases hext.mF b z a with(h|h)|h|h
 .exact .inl (.inl h)
 .exact .inr h.1
 .exact h.elim
 .exact .inl (.inr ⟨h,.inl a⟩)
theorem Iq{b z:Nat}(h:uC Γ1 H1 b z):Γ.w.heap.size<=b:=by
 rcases hext.lj b (h.own hok1).1 with h|h
 .exact h.elim
 .exact h
theorem DQ{b:Nat}(h:b<Γ.w.heap.size):Γ1.w.heap[b]?=Γ.w.heap[b]?:=hext.frame b h (fun h=>h)
theorem Po:Γ.Le (Γ.back Γ1 H1 fz sel)where
 F b z h:= .inl h
 mem b z h:=DQ hok hext hok1 (hok.F b z h)
 hs h i v a:=⟨i,v,by
  grind [az.back],ad3 _,fun _=>rfl⟩
theorem aap:Γ.cL (Γ.back Γ1 H1 fz sel)where
 le:=Po hok hext hok1
 os:=hext.os
 tape:=hext.tape
 output:=hext.output
 size:=hext.size
 frame b a _:=DQ hok hext hok1 a
 mF b z c:=c.imp id fun h=> .inr h.1
 lj b d:=d.imp id fun h=>h.1
theorem Ho{e:ab}(o:tK fz H1 sel l e)(hn:bs=[]\/fW bs e=true)(hc:aB Γ1 l y):aB (Γ.back Γ1 H1 fz sel) (dZ H.length e) y:=by
 rcases o with⟨i,rfl⟩|⟨i,p,j⟩|⟨u,h,f,m,v,k,z,w,rfl,rfl,x,q,A⟩
 .grind [(De),(oC),az.back,(GV)]
 .rw[De (AA _ _ _ _ j)];exact yB (Γ1:=Γ1) (Γ2:=Γ.back Γ1 H1 fz sel) (bs:=p) rfl hok1 (GV hok hext hok1) (fun h f z rows c b d g n _=> .inr ⟨Iq hok hext hok1 ⟨h,f,rows,c,d,g,n⟩,.inr ⟨i,h,f,rows,c,d,g,n⟩⟩) 7 _ _ _ j (fun z r=>r) hn y hc
 .have ⟨c,d,B,g⟩:=hok1.obj q;simp only[aB]at hc;obtain⟨C,D,a,cap,c1,c2,rfl,c3⟩:=hc;rw[d]at c1;cases c1;have s:(Γ.back Γ1 H1 fz sel).hs[H.length+k]?=some (⟨c.base,c.off+m*c.sz,c.cap-m,c.sz⟩,0):=by grind [az.back,(aZ.len),Im]
  simp only[dZ,aB];refine⟨_,0,a,cap,s,ad3 _,rfl,fun _=>?_⟩;rcases c3 rfl with⟨d1,rfl,rfl,rfl,rfl⟩|⟨b,t,d1,rfl,rfl,d2,d3⟩
  .grind
  .refine .inr ⟨b,t,d1,rfl,by simp,by simp;omega,fun E=>?_⟩;grind
theorem I0:∀ {d a:List ab},rU fz H1 sel d a->(bs=[]\/cW bs a=true)->∀ {b:List Value},aY Γ1 d b->aY (Γ.back Γ1 H1 fz sel) (a.map (dZ H.length)) b
 |[],a,c,hn,b,hc=>by
  have c:a=[]:=c
  grind [aY]
 |l::d,a,c,hn,b,hc=>by
  obtain⟨k,m,rfl,e,f⟩:=c
  simp only[aY]at hc
  obtain⟨y,g,rfl,i,j⟩:=hc
  simp only[ag9,aY]
  exact⟨y,g,rfl,Ho hok hext hok1 e (hn.imp id fun h=>by grind [cW]) i,I0 f (hn.imp id fun h=>by grind [cW]) j⟩
theorem ac7{v:aw}(m:O9 fz H1 sel v v')(hn:bs=[]\/kj bs v'=true)(hc:aL Γ1 v y):aL (Γ.back Γ1 H1 fz sel) (eN H.length v') y:=by
 rcases m with(⟨l,a,rfl,rfl,h⟩|⟨l,a,rfl,rfl,h⟩)|⟨g,d,rfl,rfl,h⟩
 .grind [aL,eN,(Ho),kj]
 .grind [aL,eN,(I0),kj]
 .simp only[aL,eN]at hc|-;obtain⟨i,j,e⟩:=hc;refine⟨i,j,?_⟩;have f:bs=[]\/∀v∈d,(match v with| .c l=>fW bs l| .agg cs=>cW bs cs| .aM _=>false)=true:=hn.imp id fun h=>by grind [kj]
  clear hn j;generalize i.toList=n at e;induction g generalizing d n with
  |nil=>have h:d=[]:=h;grind [bT]
  |cons v g o=>
   obtain⟨v',p,rfl,r,s⟩:=h;simp only[bT]at e;obtain⟨u,k,rfl,b,t⟩:=e;have w:=o p s (f.imp id fun h=>fun q x=>h q (by simp[x])) k t;simp only[ag9,bT];refine⟨u,k,rfl,?_,w⟩;rcases r with⟨l,a,rfl,rfl,h⟩|⟨l,a,rfl,rfl,h⟩
   .simp only[aL]at b|-;exact Ho hok hext hok1 h (f.imp id fun h=>h (.c a) (by simp)) b
   .simp only[aL]at b|-;obtain⟨z,A,B⟩:=b;exact⟨z,A,I0 hok hext hok1 h (f.imp id fun h=>h (.agg a) (by simp)) B⟩
theorem SU{own:List Ob}{W:List Nat}(E:oL H1 sel (W,own))(af:fz=true->own=[])(hn:bs=[]\/own.all (lH bs)=true):aZ (Γ.back Γ1 H1 fz sel) (H++own.map (dX H.length)):=by
 have N:=Po (fz:=fz) (sel:=sel) hok hext hok1;have Y:=hok.len;have Z:own.length=sel.length:=E.len;have ag:∀(h:Nat) (a:fm) (v:Nat),h<H.length->(Γ.back Γ1 H1 fz sel).hs[h]?=Γ.hs[h]?:=fun h a v r=>by grind [az.back]
 have O:∀(h:Nat) (o:Ob),H.length<=h->(H++own.map (dX H.length))[h]?=some o->∃s d e z c a,sel[h-H.length]?=some s/\o= .live 0 z ((c.drop s.2).take e)/\obj H1 s.1 d=some (z,c)/\s.2+e<=c.length/\bA ((c.drop s.2).take e)=true/\
   Γ1.hs[s.1]?=some (a,d)/\(Γ.back Γ1 H1 fz sel).hs[h]?=some (⟨a.base,a.off+s.2*a.sz,a.cap-s.2,a.sz⟩,0)/\(.live 0 z ((c.drop s.2).take e))∈own/\fz=false:=by
  intro h o I p
  rw[aea I,adf,ab4]at p
  obtain⟨o0,y,rfl⟩:=p
  obtain⟨s,hs,d,e,z,c,rfl,A,P,Q⟩:=E.at_ _ _ y
  have⟨a,B,gm,J⟩:=hok1.obj A
  refine⟨s,d,e,z,c,a,hs,by grind [dX,(CC)],A,P,Q,B,?_,aiJ y,?_⟩
  .grind [az.back,Im]
  .grind
 refine⟨by simp[az.back,Y,Z],fun h o p=>?_,fun h K v v' o o' a R b y A P Q h5 h6 h7 h8=>?_,fun b z f=>?_,fun b j=>?_,hok.G.le N⟩
 .by_cases r:h<H.length
  .rw[abE r]at p;refine(hok.ob h o p).aK N (by grind [az.back]) (fun a v b ht k C j f=>?_);have D:=hok.X b j;exact⟨DQ hok hext hok1 D,fun z l=>l.elim (f z) (fun h=>by omega),.inl j⟩
  .obtain ⟨s,d,e,z,c,a,S,rfl,t,q4,T,u,L,q8,q9⟩:=O h o (by omega) p;have⟨R,B,gm,J⟩:=hok1.obj t;rw[u]at B;cases B;refine⟨_,L,by simp;omega,?_⟩;cases D:a.base with
   |none=>grind
   |some b=>
    simp only[D]at J|-;have⟨k,C,g,x,e5,cells,aa,e6,e7,e8⟩:=J;have ab:uC Γ1 H1 b z:=⟨s.1,d,c,a,eP t,u,D⟩;have I:=Iq hok hext hok1 ab;refine⟨k,.inr ⟨I,C⟩,fun M l=>?_,by simp;omega,e5,cells,aa,e6,?_,?_⟩
    .rcases l with l|⟨_,l|⟨l,_⟩⟩
     .have:=hok.F b M l;omega
     .exact g M l
     grind
    .have hm:(a.cap-s.2)*a.sz+s.2*a.sz=a.cap*a.sz:=by
      rw[<-air];congr 1
      omega
     omega
    .have U:bE Γ1 b a.sz (a.off+s.2*a.sz) ((c.drop s.2).take e):=kJ (ml e8 s.2) e;refine Kk (Γ1:=Γ1) (Γ2:=Γ.back Γ1 H1 fz sel) rfl (GV hok hext hok1) _ _ T (hn.imp id fun h ah U=>?_) U;grind [lH]
 .have ai:∀(n:Nat) (i:Ob) (m:fm) (q:Nat),n<H.length->(H++own.map (dX H.length))[n]?=some i->i.there=true->(Γ.back Γ1 H1 fz sel).hs[n]?=some (m,q)->m.base=some b->H[n]?=some i/\Γ.hs[n]?=some (m,q)/\b<Γ.w.heap.size:=by intro n i m q r k C g x;rw[abE r]at k;simp only[az.back]at g;rw[abE (by omega)]at g;exact⟨k,g,hok.X b ((hok.ob n i k).own C g x).1⟩
  have V:∀(n:Nat) (i:Ob) (m:fm) (q:Nat), ¬n<H.length->(H++own.map (dX H.length))[n]?=some i->(Γ.back Γ1 H1 fz sel).hs[n]?=some (m,q)->m.base=some b->∃s d z c a,sel[n-H.length]?=some s/\H1[s.1]?=some (.live d z c)/\Γ1.hs[s.1]?=some (a,d)/\a.base=some b/\Γ.w.heap.size<=b:=by intro n i m q r k g x;obtain⟨s,d,e,z,c,a,S,rfl,t,q4,T,u,L,q8,q9⟩:=O n i (by omega) k;rw[L]at g;cases g;exact⟨s,d,z,c,a,S,eP t,u,x,Iq hok hext hok1 ⟨s.1,d,c,a,eP t,u,x⟩⟩
  by_cases c1:h<H.length<;>by_cases c2:K<H.length
  .grind [(aZ.apart)]
  .grind
  .grind
  .have ⟨s,d,z,c,i0,a1,a2,a3,a4,a5⟩:=V h o a v c1 y h5 h7;have⟨s',ad,M,aj,ae,b1,b2,b3,b4,b5⟩:=V K o' R v' c2 A h6 h8;have he:=hok1.apart s.1 s'.1 d ad _ _ i0 ae b a2 b2 rfl rfl a3 b3 a4 b4;have ak:=E.nodup;have p1:(sel.map (·.1))[h-H.length]?=some s.1:=by rw[adf,a1];rfl
   have p2:(sel.map (·.1))[K-H.length]?=some s.1:=by rw[adf,b1,he];rfl
   grind [(List.getElem?_inj)]
 .rcases f with f|⟨_,f|⟨_,f⟩⟩
  .exact aiS (hok.F b z f) hext.size
  .exact hok1.F b z f
  .exact hok1.X b (f.own hok1).1
 .rcases j with j|⟨_,j⟩
  .exact aiS (hok.X b j) hext.size
  .exact hok1.X b j
end
theorem XR{P:Program}{f:FuncId}{args a:List aw}{H H1 own:List Ob}{bs:List Nat}{r c:aw}{fz:Bool}(i:r7 H args=some (a,bs))(hc:Call P f a [] r H1)(j:dI fz H1 r=some (c,own))
  (d:bs=[]\/(kj bs c=true/\own.all (lH bs)=true)):Call P f args H (eN H.length c) (H++own.map (dX H.length)):=by
 refine⟨hc.1,fun Γ hok g k=>?_⟩
 have⟨sel,A,l,m⟩:=Y4 j
 have n:bT (Γ.nJ H bs) a g.toList:=It (Γ1:=Γ) (Γ2:=Γ.nJ H bs) (bs0:=[]) (bs:=bs) rfl hok (fun b z h=> .inl (.inl h)) (fun h o z rows p b q s t u=> .inr ⟨u,h,o,rows,p,q,s,t⟩) _ _ _ i (fun z v=>v) rfl _ k
 refine(hc.2 (Γ.nJ H bs) (hok.nJ bs) g n).mono fun e B w=>?_
 obtain⟨y,Γ1,rfl,rfl,hext,hok1,x⟩:=w
 exact⟨y,Γ.back Γ1 H1 fz sel,rfl,rfl,aap hok hext hok1,SU hok hext hok1 l (fun h=>by grind [(Xf)]) (d.imp id fun h=>h.2),ac7 hok hext hok1 m (d.imp id fun h=>h.1) x⟩
end Go.Nx
namespace Go.Nx
variable{y:Value}{o:Ob}
def az.fE(Γ Γ1:az):az:=
 {w:=Γ1.w,F:=fun b z=>Γ.F b z\/(Γ.w.heap.size<=b/\Γ1.F b z),X:=fun b=>Γ.X b\/(Γ.w.heap.size<=b/\Γ1.X b),hs:=Γ.hs++Γ1.hs}
section
variable{Γ Γ1:az}{H H1:List Ob}(hok:aZ Γ H)(hext:(Γ.nJ H []).cL Γ1)(hok1:aZ Γ1 H1)
include hok hext hok1
theorem sk:∀b z,Γ1.F b z->(Γ.fE Γ1).F b z\/z∈([]:List Nat):=fun b z a=>by
 rcases hext.mF b z a with(h|h)|h|h
 .exact .inl (.inl h)
 .grind
 .exact h.elim
 .exact .inl (.inr ⟨h,a⟩)
theorem Sm{b:Nat}(h:Γ1.X b):Γ.w.heap.size<=b:=by
 rcases hext.lj b h with h|h
 .exact h.elim
 .exact h
theorem LP:Γ.Le (Γ.fE Γ1)where
 F b z h:= .inl h
 mem b z h:=hext.frame b (hok.F b z h) (fun h=>h)
 hs h i v a:=⟨i,v,by
  grind [az.fE],ad3 _,fun _=>rfl⟩
theorem VB:Γ.cL (Γ.fE Γ1)where
 le:=LP hok hext hok1
 os:=hext.os
 tape:=hext.tape
 output:=hext.output
 size:=hext.size
 frame b a _:=hext.frame b a (fun h=>h)
 mF b z c:=c.imp id fun h=> .inr h.1
 lj b d:=d.imp id fun h=>h.1
theorem Ko(h:Nat):(Γ.fE Γ1).hs[H.length+h]?=Γ1.hs[h]?:=by grind [az.fE,(aZ.len)]
theorem xN{l:ab}(hm:jm l=true)(hc:aB Γ1 l y):aB (Γ.fE Γ1) (dZ H.length l) y:=by
 have c:=Ko (Γ:=Γ) (Γ1:=Γ1) (H:=H) hok hext hok1;cases l with
 |ptr h a i k=>grind [dZ,aB]
 |sl h a d e=>grind [dZ,aB]
 |mr h=>grind [dZ,aB]
 |mG h=>grind [dZ,aB]
 |v x=>exact oC (Γ1:=Γ1) (Γ2:=Γ.fE Γ1) rfl (sk hok hext hok1) _ y rfl (.inl rfl) hc
 |aj rows=>exact oC (Γ1:=Γ1) (Γ2:=Γ.fE Γ1) rfl (sk hok hext hok1) (.aj rows) y (by grind [jm]) (.inl rfl) hc
 |eU rows=>exact oC (Γ1:=Γ1) (Γ2:=Γ.fE Γ1) rfl (sk hok hext hok1) (.eU rows) y (by grind [jm]) (.inl rfl) hc
 |aJ rows i k=>exact oC (Γ1:=Γ1) (Γ2:=Γ.fE Γ1) rfl (sk hok hext hok1) (.aJ rows i k) y (by grind [jm]) (.inl rfl) hc
 |bF f b=>exact oC (Γ1:=Γ1) (Γ2:=Γ.fE Γ1) rfl (sk hok hext hok1) (.bF f b) y (by grind [jm]) (.inl rfl) hc
 |ig t l=>exact oC (Γ1:=Γ1) (Γ2:=Γ.fE Γ1) rfl (sk hok hext hok1) (.ig t l) y (by grind [jm]) (.inl rfl) hc
theorem Iw:∀ {a:List ab},a.all jm=true->∀ {b:List Value},aY Γ1 a b->aY (Γ.fE Γ1) (a.map (dZ H.length)) b
 |[],_,b,hc=>by grind [aY]
 |l::a,hm,b,hc=>by
  simp only[akw,abR]at hm
  simp only[aY]at hc
  obtain⟨y,c,rfl,d,e⟩:=hc
  simp only[ag9,aY]
  exact⟨y,c,rfl,xN hok hext hok1 hm.1 d,Iw hm.2 e⟩
theorem LZ(b:Nat):∀ {a:List ab} {c:Nat},a.all jm=true->cR Γ1 b c a->cR (Γ.fE Γ1) b c (a.map (dZ H.length))
 |[],_,_,_=>by simp[cR]
 |l::a,c,hm,hc=>by
  simp only[akw,abR]at hm
  simp only[cR]at hc
  have⟨⟨y,d,e⟩,f⟩:=hc
  simp only[ag9,cR]
  exact⟨⟨y,d,xN hok hext hok1 hm.1 e⟩,LZ b hm.2 f⟩
theorem aa8(b c:Nat){rows:List (List ab)}{a:Nat}(hm:rq rows=true)(hc:bE Γ1 b c a rows):bE (Γ.fE Γ1) b c a (rows.map fun r=>r.map (dZ H.length)):=by
 simp only[rq,ai9]at hm;rcases hm with hm|hm
 .rw[CC hm];exact Kk (Γ1:=Γ1) (Γ2:=Γ.fE Γ1) rfl (sk hok hext hok1) rows a hm (.inl rfl) hc
 .induction rows generalizing a with
  |nil=>simp[bE]
  |cons r d e=>grind [bE,(LZ)]
theorem ac6{v:aw}(hm:pB v=true)(hc:aL Γ1 v y):aL (Γ.fE Γ1) (eN H.length v) y:=by
 cases v with
 |c l=>simp only[aL,eN]at hc|-;exact xN hok hext hok1 hm hc
 |agg cs=>simp only[aL,eN]at hc|-;obtain⟨b,d,a⟩:=hc;exact⟨b,d,Iw hok hext hok1 hm a⟩
 |aM e=>
  simp only[aL,eN]at hc|-;obtain⟨b,d,a⟩:=hc;refine⟨b,d,?_⟩;simp only[pB,ahI]at hm;clear d;generalize b.toList=g at a;induction e generalizing g with
  |nil=>grind [bT]
  |cons v e h=>simp only[bT]at a;obtain⟨u,f,rfl,m,i⟩:=a;have j:=h (fun q k=>hm q (by simp[k])) f i;simp only[ag9,bT];refine⟨u,f,rfl,?_,j⟩;have n:=hm v (by simp);grind [aL,(xN),(Iw)]
theorem Tg{h:Nat}(hm:nT o=true)(k:nY Γ1 h o):nY (Γ.fE Γ1) (H.length+h) (dX H.length o):=by
 have M:=Ko (Γ:=Γ) (Γ1:=Γ1) (H:=H) hok hext hok1 h
 have c:∀b,Γ1.X b->(∀z, ¬Γ1.F b z)->(Γ.fE Γ1).X b/\∀z, ¬(Γ.fE Γ1).F b z:=fun b c N=>by
  have t:=Sm hok hext hok1 c;refine⟨.inr ⟨t,c⟩,fun z l=>?_⟩;rcases l with l|⟨_,l⟩
  .have:=hok.F b z l;omega
  grind
 cases o with
 |dead=>have⟨a,m⟩:=k;exact⟨a,by grind⟩
 |it s pos=>have⟨a,b,m,f,d,n,q⟩:=k;have⟨g,i⟩:=c b d n;exact⟨a,b,by grind,f,g,i,q⟩
 |mp O=>have⟨a,b,m,f,d,n,u,cl,q,P,v⟩:=k;have⟨g,i⟩:=c b d n;refine⟨a,b,by grind,f,g,i,u,cl,q,by grind,fun j p e hp w=>?_⟩;simp only[adf,ab4]at hp;obtain⟨r,hp,rfl⟩:=hp;have⟨⟨x,y,A⟩,B⟩:=v j r e hp w;simp only[nT,ahI]at hm;have:=hm r (aiJ hp);simp only[abR]at this;exact⟨⟨x,y,IG (Γ1:=Γ1) (Γ2:=Γ.fE Γ1) rfl (sk hok hext hok1) _ _ this.1 (.inl rfl) A⟩,xN hok hext hok1 this.2 B⟩
 |live Q z rows=>
  have⟨a,m,f,d⟩:=k;refine⟨a,by grind,f,?_⟩;cases C:a.base with
  |none=>grind
  |some b=>simp only[C]at d|-;have⟨D,E,G,R,I,cells,T,J,K,L⟩:=d;have⟨g,i⟩:=c b E G;exact⟨D,g,i,by grind,I,cells,T,J,K,aa8 hok hext hok1 b a.sz hm L⟩
theorem Vr{n:Nat}(h:(dX n o).there=true):o.there=true:=by cases o<;>first|exact h|rfl
theorem YN(hm:H1.all nT=true):aZ (Γ.fE Γ1) (H++H1.map (dX H.length)):=by
 have r:=LP hok hext hok1;have x:=hok.len;have y:=hok1.len;have A:=Ko (Γ:=Γ) (Γ1:=Γ1) (H:=H) hok hext hok1;have s:∀(h:Nat) (o:Ob),H.length<=h->(H++H1.map (dX H.length))[h]?=some o->∃d,H1[h-H.length]?=some d/\o=dX H.length d:=by grind
 refine⟨by simp[az.fE,x,y],fun h o p=>?_,fun h E v I o J B K b L M N O P Q R S=>?_,fun b z g=>?_,fun b e=>?_,hok.G.le r⟩
 .by_cases l:h<H.length
  .rw[abE l]at p;refine(hok.ob h o p).aK r (by grind [az.fE]) (fun B v b T i m e g=>?_);have C:=hok.X b e;exact⟨hext.frame b C (fun h=>h),fun z D=>D.elim (g z) (fun h=>by omega),.inl e⟩
  .obtain ⟨d,k,rfl⟩:=s h o (by omega) p;have:=Tg hok hext hok1 (by rw[ahI]at hm;exact hm d (aiJ k)) (hok1.ob _ _ k);grind
 .have U:∀(n:Nat) (a:Ob) (c:fm) (f:Nat),n<H.length->(H++H1.map (dX H.length))[n]?=some a->a.there=true->(Γ.fE Γ1).hs[n]?=some (c,f)->c.base=some b->H[n]?=some a/\Γ.hs[n]?=some (c,f)/\b<Γ.w.heap.size:=by intro n a c f l i m j q;rw[abE l]at i;simp only[az.fE]at j;rw[abE (by omega)]at j;exact⟨i,j,hok.X b ((hok.ob n a i).own m j q).1⟩
  have V:∀(n:Nat) (a:Ob) (c:fm) (f:Nat), ¬n<H.length->(H++H1.map (dX H.length))[n]?=some a->a.there=true->(Γ.fE Γ1).hs[n]?=some (c,f)->c.base=some b->∃d,H1[n-H.length]?=some d/\d.there=true/\Γ1.hs[n-H.length]?=some (c,f)/\Γ.w.heap.size<=b:=by
   intro n a c f l i m j q;obtain⟨d,k,rfl⟩:=s n a (by omega) i;have t:=Vr hok hext hok1 m;have u:Γ1.hs[n-H.length]?=some (c,f):=by rw[<-A,show H.length+(n-H.length)=n by omega];exact j
   exact⟨d,k,t,u,Sm hok hext hok1 ((hok1.ob _ _ k).own t u q).1⟩
  grind [(aZ.apart)]
 .rcases g with g|⟨_,g⟩
  .exact aiS (hok.F b z g) hext.size
  .exact hok1.F b z g
 .rcases e with e|⟨_,e⟩
  .exact aiS (hok.X b e) hext.size
  .exact hok1.X b e
end
theorem UX{P:Program}{f:FuncId}{args a:List aw}{H H1:List Ob}{r:aw}(d:r7 H args=some (a,[]))(hc:Call P f a [] r H1)(g:pB r=true)(hm:H1.all nT=true):
  Call P f args H (eN H.length r) (H++H1.map (dX H.length)):=by
 refine⟨hc.1,fun Γ hok c i=>?_⟩
 have j:bT (Γ.nJ H []) a c.toList:=It (Γ1:=Γ) (Γ2:=Γ.nJ H []) (bs0:=[]) (bs:=[]) rfl hok (fun b z h=> .inl (.inl h)) (fun h o z rows p b q s t k=>by simp at k) _ _ _ d (fun z l=>l) rfl _ i
 refine(hc.2 (Γ.nJ H []) (hok.nJ []) c j).mono fun e u m=>?_
 obtain⟨y,Γ1,rfl,rfl,hext,hok1,n⟩:=m
 exact⟨y,Γ.fE Γ1,rfl,rfl,VB hok hext hok1,YN hok hext hok1 hm,ac6 hok hext hok1 g n⟩
theorem Fe{C:bu}{a:cV}(b:my C.P a):my C.P (aO C a):=by
 intro f args H r d h;unfold aO at h;split at h
 .exact b _ _ _ _ _ h
 .split at h
  .rename_i e g i;split at h
   .rename_i j own hp;unfold aS at hp;split at hp
    .rename_i k H1 c;have hc:=b _ _ _ _ _ c;grind [ei,(UX),(XR)]
    .cases hp
   .cases h
  .cases h
end Go.Nx
namespace Go.Nx
section
variable{C:bu}{P:Program}{ce:cV}{e e2:Env}{H:List Ob}
theorem zo{a:Array Operand}(h:∀p∈a,aX e p=aX e2 p):a.toList.map (aX e)=a.toList.map (aX e2):=ajp fun p hp=>h p (by grind)
theorem KV{a:Array (Nat×Operand)}(h:∀p∈a.map (·.2),aX e p=aX e2 p):(a.toList.map fun(i,x)=>(i,aX e x))=a.toList.map fun(i,x)=>(i,aX e2 x):=by grind [(ajp)]
theorem uR{o:Option Operand}(h:∀p∈o.toArray,aX e p=aX e2 p):nL e o=nL e2 o:=by
 cases o with
 |none=>rfl
 |some p=>grind [nL]
theorem apl{g:Op}(h:∀p∈g.operands,aX e p=aX e2 p):bc P e H g=bc P e2 H g:=by
 cases g with
 |move y=>simp only[bc];grind [acH]
 |assign y=>simp only[bc];grind [acH]
 |pick a b c=>simp only[bc];grind [acH]
 |alloc t=>rfl
 |box t y=>simp only[bc];grind [acH]
 |build t j=>simp only[bc];rw[KV (fun p hp=>h p (by simpa[acH]using hp))]
 |buildSlice t n j=>simp only[bc];rw[KV (fun p hp=>h p (by simpa[acH]using hp))]
 |makeSlice t l c=>simp only[bc];grind [acH]
 |load t y=>simp only[bc];grind [acH]
 |store t y v=>simp only[bc];grind [acH]
 |nilCheck y=>simp only[bc];grind [acH]
 |binOp g t y z q=>simp only[bc];grind [acH]
 |unOp g t y=>simp only[bc];grind [acH]
 |convert s d y=>simp only[bc];grind [acH]
 |makeFunc f first r=>
  cases f with
  |func f=>simp only[bc];grind [(zo),acH]
  |_=>rfl
 |slice t y u w k=>
  cases k with
  |some m=>rfl
  |none=>simp only[bc];grind [acH,(uR)]
 |fieldAddr s y f=>simp only[bc];grind [acH]
 |field s y f=>simp only[bc];grind [acH]
 |indexAddr t y i=>simp only[bc];grind [acH]
 |index t y i=>simp only[bc];grind [acH]
 |extract y i=>simp only[bc];grind [acH]
 |call c=>
  have⟨o,args,x⟩:=c;cases o with
  |builtin b=>
   have A:∀p∈args.toList,aX e p=aX e2 p:=fun p hp=>h p (by grind [acH,aiM]);cases b with
   |len=>simp only[bc];grind
   |append=>simp only[bc];grind
   |cap=>simp only[bc];grind
   |copy=>simp only[bc];grind
   |clear=>simp only[bc];grind
   |min=>simp only[bc];grind [(zo)]
   |max=>simp only[bc];grind [(zo)]
   |_=>rfl
  |_=>rfl
 |_=>rfl
theorem aa9{a:Op}(h:∀p∈a.operands,aX e p=aX e2 p):r8 P e H a=r8 P e2 H a:=by
 cases a with
 |binOp a t y z g=>grind [r8,acH]
 |unOp a t y=>cases a<;>simp only[r8];grind [acH]
 |slice t y j k d=>
  cases d with
  |some m=>rfl
  |none=>grind [r8,acH,(uR)]
 |indexAddr t y i=>grind [r8,acH]
 |index t y i=>grind [r8,acH]
 |makeInterface t y=>grind [r8,acH]
 |call c=>
  have⟨f,args,l⟩:=c;cases f with
  |builtin b=>
   have n:∀p∈args.toList,aX e p=aX e2 p:=fun p hp=>h p (by grind [acH,aiM]);cases b with
   |len=>grind [r8]
   |_=>rfl
  |_=>rfl
 |_=>rfl
theorem Yr{f:Op}(h:∀p∈f.operands,aX e p=aX e2 p):cA P e H f=cA P e2 H f:=by
 cases f with
 |slice t y l n g=>
  cases g with
  |some m=>rfl
  |none=>grind [cA,acH,(uR)]
 |convert s d y=>grind [cA,acH]
 |lookup t m k c=>
  cases c with
  |true=>rfl
  |false=>grind [cA,acH]
 |makeMap t r=>cases r<;>rfl
 |mapUpdate t m k v=>grind [cA,acH]
 |range t y=>grind [cA,acH]
 |next i s=>
  cases s with
  |false=>rfl
  |true=>grind [cA,acH]
 |typeAssert y a b c=>
  cases c with
  |false=>rfl
  |true=>grind [cA,acH]
 |call c=>
  have⟨j,args,o⟩:=c;cases j with
  |builtin b=>
   have q:∀p∈args.toList,aX e p=aX e2 p:=fun p hp=>h p (by grind [acH,aiM]);cases b with
   |append=>grind [cA]
   |copy=>grind [cA]
   |_=>rfl
  |_=>rfl
 |_=>rfl
theorem O1{f:Operand}{args:Array Operand}{a:Array TypeId}(h:∀p∈(Op.call {callee:= .value f,args:=args,argTypes:=a}).operands,aX e p=aX e2 p):aX e f=aX e2 f/\args.toList.map (aX e)=args.toList.map (aX e2):=
 ⟨h f (by simp[acH,aiM]),zo fun p hp=>h p (by grind [acH,aiM])⟩
theorem abf{a:Op}(h:∀p∈a.operands,aX e p=aX e2 p):eV C ce a e H=eV C ce a e2 H:=by
 unfold eV;split
 .rename_i f args d;have⟨b,c⟩:=O1 h;rw[b,c]
 .rfl
 .rw[apl h,aa9 h,Yr h]
end
end Go.Nx
namespace Go.Nx
variable{p x:ab}{P:Program}{op:BinOp}{t:TypeId}
def fM(W:List Nat)(H H':List Ob):Prop:= ∀h o,h∉W->H[h]?=some o->o.there=true->H'[h]?=some o
def quiet(P:Program):Op->Bool
 | .move _| .assign _| .pick _ _ _| .build _ _| .load _ _| .nilCheck _| .binOp _ _ _ _ _| .unOp _ _ _| .makeFunc _ _ _| .slice _ _ _ _ _| .fieldAddr _ _ _| .field _ _ _
 | .indexAddr _ _ _| .index _ _ _| .extract _ _| .lookup _ _ _ _| .typeAssert _ _ _ _| .makeInterface _ _=>true
 | .convert _ d _=>!rT P d
 | .call {callee:= .builtin .len,.. }| .call {callee:= .builtin .cap,.. }| .call {callee:= .builtin .min,.. }| .call {callee:= .builtin .max,.. }=>true
 |_=>false
section
variable{W:List Nat}{H H':List Ob}(hA:fM W H H')
include hA
theorem mN{h a:Nat}{r:Nat×List (List ab)}(b:h∉W)(c:obj H h a=some r):obj H' h a=some r:=by have⟨z,rows⟩:=r;have:=hA h _ b (eP c) rfl;grind [obj]
theorem acX{n:Nat}{x:List ab}(hp:∀h∈iG p,h∉W)(a:qR H n p=some x):qR H' n p=some x:=by
 cases p with
 |ptr h b i k=>grind [qR,(mN),iG]
 |_=>exact a
theorem Xj(hp:∀h∈iG p,h∉W)(a:qP H p=some x):qP H' p=some x:=by
 cases p with
 |ptr h b i k=>grind [qP,(mN),iG]
 |_=>exact a
theorem M6{x:Bool}(hp:∀h∈iG p,h∉W)(b:ang H p=some x):ang H' p=some x:=by
 cases p with
 |sl h d e f=>grind [ang,(mN),iG]
 |v x=>cases x with
  |slice a n c=>cases a<;>cases n<;>cases c<;>exact b
  |_=>exact b
 |_=>exact b
theorem HS{x:List (List ab)}(hp:∀h∈iG p,h∉W)(b:view H p=some x):view H' p=some x:=by
 cases p with
 |sl h d e f=>grind [view,(mN),iG]
 |v x=>cases x with
  |slice a n c=>cases a<;>cases n<;>cases c<;>exact b
  |_=>exact b
 |_=>exact b
theorem ace{u v:aw}(e:∀h∈lS u,h∉W)(c:oA P H op t u v=some x):oA P H' op t u v=some x:=by
 unfold oA at c|-;split at c
 .exact c
 .exact c
 .exact c
 .rename_i a b g i;split at c
  .rename_i f;rw[if_pos f];split at c
   .split at c
    .simp only[ab4]at c|-;obtain⟨y,d,rfl⟩:=c;exact⟨y,M6 hA e d,rfl⟩
    .simp only[ab4]at c|-;obtain⟨y,d,rfl⟩:=c;exact⟨y,M6 hA e d,rfl⟩
    .cases c
   .cases c
  .cases c
 .cases c
theorem aez{y:ab}{b c:Option Int}(hp:∀h∈iG x,h∉W)(a:qF P H t x b c=some y):qF P H' t x b c=some y:=by
 unfold qF at a|-;split at a
 .grind [(mN),iG]
 .cases a
theorem YZ{y:ab}{i:Int}(hp:∀h∈iG x,h∉W)(a:sO P H t x i=some y):sO P H' t x i=some y:=by
 unfold sO at a|-;split at a
 .rename_i h f p q;split at a
  .rename_i e d j z rows b c;rw[mN hA (hp h (by simp[iG])) c,b];exact a
  .cases a
 .rename_i h f r k;split at a
  .rename_i n d g o l c;rw[mN hA (hp h (by simp[iG])) c,l];exact a
  .cases a
 .split at a
  .rename_i e d j rows b m;rw[HS hA hp m,b];exact a
  .cases a
theorem abt{y:Operand}{u v:Option aw}{x:aw}(b:∀w,u=some w->∀h∈lS w,h∉W)(a:gV P H op t y u v=some x):gV P H' op t y u v=some x:=by
 unfold gV at a|-;split at a
 .exact a
 .exact a
 .exact a
 .grind [(mN),lS,iG]
 .exact a
 .exact a
 .cases a
end
end Go.Nx
