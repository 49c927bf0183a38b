/- A part of the proof. -/
import Derived.Below
import Derived.Calls
import Derived.ChangeOld
import Derived.Defers
import Derived.KernelRfl
import Derived.LaidEql
import Derived.LaidHandle
import Derived.LaidMore
import Derived.LaidSub
import Derived.Laws.AppendOwn
import Derived.Laws.AppendOwnNone
import Derived.Laws.BytesArg
import Derived.Laws.Externs
import Derived.Laws.MakeOwn
import Derived.Laws.Strings
import Derived.Laws.StructEq
import Derived.Laws.Tables
import Derived.Lay
import Derived.Lib.AppendStr
import Derived.Lib.AppendZerosOnto
import Derived.Lib.ConvBytes
import Derived.Lib.LaidU8
import Derived.Lib.Overlaps
import Derived.Lib.Strings
import Derived.MapKept
import Derived.OpenShut
import Derived.Orders
import Derived.ProofKit
import Derived.Recover
import Derived.RowKitTokens
import Derived.Scope
import Derived.ScopeJumps
import Derived.SevenTiedAt
import Derived.Shelf.Lays
import Derived.Shelf.Lays2
import Derived.Shelf.Slices.In.SortNone
import Derived.Shelf.Sort.Plain
import Derived.Shelf.Strings.Builder1
import Derived.Shelf.Strings.Count
import Derived.Shelf.Strings.Search1
import Derived.ShutString
import Derived.Sort.Grow
import Derived.Sort.Row
import Derived.Stop.Asserts
import Derived.Stop.Joined
import Derived.Test.YtndifkmolciiaaaGreatDoorProg
import Derived.WalkKit
set_option linter.all false
set_option maxRecDepth 8000
set_option maxHeartbeats 1000000
open Array renaming range->amM,replicate->ak1
open BitVec renaming ofInt->aji
open Functor renaming map->alO
open Go.Builtin renaming append_->aiL,clear_->alo,copy_->akH,firstCells->ai4,lenOf->akf,max2->amr,min2->amq,nextslicecap->alN,zeroCells->aiy
open Go.Call renaming operands->aiM
open Go.DataW renaming trod->ak8
open Go.Exit renaming inBlock->amL
open Go.Instr renaming buildSlice->ako,checkKey->akU,fieldAt->ak3,fill->ak7,findAsking->ajL,findKey->amA,findNow->amz,indexAt->akI,loadAt->akT,lookup->alM,makeInterface->alZ,mapUpdate->aln,next->al4,sameBits->amp,sliceAt->ajy,sliceBounds->ajX,sliceBound->ama,slice->akO,storeAt->alz,sureAddr->ali,typeAssert->alv
open Go.IntKind renaming i64->adW
open Go.Lib renaming bytesWorld->ak0
open Go.Op renaming eqFields->al9,equalIn->alu,intBits->amc,operands->acH,stringOp->al8
open Go.Program renaming built->amn
open Go.Question renaming forced->al0
open Go.Region renaming wanted->ak5
open Go.Result renaming andThen->ajd
open Go.Value renaming okWide->alj,oneCell'->aiw,string->amD
open Go.World renaming cells?->amC,freeze->alE
open List renaming append_assoc->aiu,getElem?_set_self->ahr,length_append->agc,length_drop->aj0,map_append->aid,map_map->ajc,range->aiZ,replicate->ahv
open UInt8 renaming ofNat->al1
open Go Go.Proofs
def aat:=@List.getElem?_set_ne
def abE:=@List.getElem?_append_left
def abM:=@List.getElem?_eq_getElem
def abR:=@Bool.and_eq_true
def abW:=@List.getElem?_eq_some_iff
def ab1:=@Option.some.injEq
def ab4:=@Option.map_eq_some_iff
def aca:=@Prod.mk.injEq
def acu:=@List.take_of_length_le
def adf:=@List.getElem?_map
def ad3:=@Nat.le_refl
def aea:=@List.getElem?_append_right
def aes:=@Bool.false_eq_true
def aeM:=@List.mem_cons
def aeU:=@List.append_nil
def ae4:=@List.eq_nil_of_length_eq_zero
def ae5:=@List.getD_eq_getElem?_getD
def afa:=@Bool.not_eq_true'
def agO:=@List.drop_eq_getElem_cons
def ag9:=@List.map_cons
def ahg:=@List.pairwise_cons
def ahI:=@List.all_eq_true
def ain:=@List.mem_append
def aio:=@List.length_map
def aip:=@List.length_cons
def aiq:=@List.length_filter_le
def air:=@Nat.add_mul
def ais:=@Int.toNat_natCast
def ait:=@Ne.symm
def aiv:=@List.drop_eq_nil_of_le
def aix:=@List.getElem_mem
def aiz:=@List.flatMap_cons
def aiA:=@List.cons.injEq
def aiB:=@Nat.add_zero
def aiD:=@List.nil_append
def aiE:=@List.getElem?_eq_none
def aiF:=@List.take_length
def aiG:=@Result.andThen_ok
def aiH:=@List.take_add_one
def aiI:=@List.flatten_cons
def aiJ:=@List.mem_of_getElem?
def aiK:=@List.mem_map
def aiN:=@Nat.mul_le_mul_right
def aiO:=@List.mem_cons_of_mem
def aiP:=@List.length_set
def aiQ:=@List.length_nil
def aiR:=@Array.getD_eq_getD_getElem?
def aiS:=@Nat.lt_of_lt_of_le
def aiT:=@Sem.run_bind
def aiU:=@List.map_nil
def aiV:=@List.not_mem_nil
def aiW:=@Nat.zero_add
def aiX:=@Bool.or_eq_false_iff
def ai0:=@Option.getD_some
def ai1:=@List.length_take
def ai2:=@List.foldl_cons
def ai3:=@List.getElem?_drop
def ai5:=@Nat.le_trans
def ai6:=@World.cell?_alloc_lt
def ai7:=@List.cons_append
def ai8:=@List.take_left'
def ai9:=@Bool.or_eq_true
def aja:=@List.any_eq_false
def aje:=@Array.length_toList
def ajg:=@Nat.add_assoc
def ajh:=@List.foldl_append
def ajj:=@Option.isSome_some
def ajk:=@Option.isSome_none
def ajl:=@List.filter_append
def ajm:=@Option.getD_none
def ajn:=@List.flatMap_nil
def ajp:=@List.map_congr_left
def ajq:=@List.filter_eq_self
def ajt:=@List.size_toArray
def aju:=@List.ext_getElem?
def ajv:=@Nat.eq_of_beq_eq_true
def ajw:=@List.set_append_right
def ajz:=@List.mem_cons_self
def ajA:=@List.mem_of_mem_take
def ajB:=@Nat.sub_self
def ajC:=@Array.getElem?_eq_some_iff
def ajD:=@List.drop_of_length_le
def ajE:=@Array.getElem?_eq_none
def ajF:=@List.getElem?_range
def ajG:=@Option.some.inj
def ajH:=@List.mem_filter
def ajI:=@List.take_append_drop
def ajJ:=@List.contains_iff_mem
def ajK:=@List.getElem?_take
def ajN:=@List.set_set
def ajO:=@Option.map_some
def ajP:=@List.replicate_succ
def ajQ:=@List.set_cons_zero
def ajR:=@Nat.le_of_ble_eq_true
def ajS:=@List.length_singleton
def ajT:=@Array.getElem?_modify
def ajU:=@List.mem_of_find?_eq_some
def ajY:=@List.mem_of_mem_drop
def ajZ:=@List.mem_iff_getElem
def aj1:=@Nat.min_eq_left
def aj2:=@List.range_succ
def aj3:=@Bool.eq_iff_iff
def aj4:=@RowKit.Below.refl
def aj5:=@Array.size_append
def aj6:=@List.getElem?_take_of_lt
def aj7:=@Nat.lt_or_ge
def aj8:=@Nat.le_of_eq
def aj9:=@List.all_map
def aka:=@Int.le_refl
def akb:=@List.take_append_of_le_length
def akd:=@List.drop_drop
def ake:=@Bool.not_eq_false'
def akg:=@Nat.zero_le
def akh:=@List.find?_cons
def aki:=@Bool.and_eq_false_iff
def akk:=@List.set_append_left
def akl:=@List.range_eq_range'
def akn:=@List.drop_zero
def akp:=@Classical.byContradiction
def akq:=@List.any_eq_true
def aks:=@List.mem_map_of_mem
def akt:=@List.length_pos_iff
def aku:=@List.flatMap_append
def akv:=@Nat.beq_eq
def akw:=@List.all_cons
def aky:=@Oper.upon_value
def akz:=@List.mem_singleton
def akA:=@World.frozen?_alloc_old
def akB:=@Option.bind_eq_some_iff
def akC:=@Nat.add_sub_cancel_left
def akD:=@MapKept.run_getObj_map
def akE:=@Nat.mod_lt
def akF:=@Array.ext'
def akG:=@Array.getElem?_setIfInBounds_ne
def akJ:=@List.singleton_append
def akK:=@Array.getElem?_toList
def akM:=@List.isEmpty_iff
def akN:=@List.filter_cons
def akP:=@Bool.and_true
def akQ:=@Nat.ble_eq
def akR:=@List.nodup_cons
def akS:=@List.find?_some
def akV:=@Array.getElem?_append_left
def akW:=@Sem.run_pure
def akX:=@Nat.zero_mul
def akY:=@Tryz.underlying134
def akZ:=@Nat.eq_zero_or_pos
def ak2:=@Bool.false_and
def ak4:=@List.mem_or_eq_of_mem_set
def ak9:=@List.nodup_append
def ala:=@List.eq_of_mem_replicate
def alc:=@Iff.rfl
def ald:=@Bool.and_self
def ale:=@List.getElem?_cons_zero
def alf:=@Tryz.underlying9
def alg:=@Option.bind_some
def alh:=@Lib.cell_of_heap
def alk:=@List.filter_eq_nil_iff
def alm:=@List.append_eq_nil_iff
def alq:=@Nat.le_of_lt
def alr:=@Nat.add_comm
def als:=@List.length_replicate
def aly:=@World.cell?_alloc_at
def alA:=@List.take_left
def alB:=@List.mem_range
def alC:=@List.drop_take
def alD:=@Bool.and_false
def alF:=@List.take_succ_cons
def alG:=@List.replicate_zero
def alH:=@List.getElem_of_mem
def alI:=@List.flatten_append
def alJ:=@List.filterMap_cons
def alR:=@Go.Proofs.Any.slices_Sort_int_none
def alS:=@List.any_cons
def alT:=@Tryz.underlying349
def alU:=@Nat.add_sub_cancel
def alV:=@List.set_cons_succ
def alW:=@List.find?_eq_none
def alX:=@BitVec.toNat_ofInt
def alY:=@List.set_eq_take_append_cons_drop
def al2:=@List.pairwise_map
def al3:=@Int.emod_eq_of_lt
def al5:=@Decidable.not_not
def al6:=@Nat.min_comm
def al7:=@List.all_nil
def amd:=@Tryz.underlying5
def ame:=@Tryz.underlying4
def amf:=@Tryz.underlying3
def amg:=@Tryz.underlying0
def amh:=@Nat.mod_eq_of_lt
def ami:=@List.range'_succ
def amj:=@List.mem_flatMap
def amk:=@List.getElem_set
def amm:=@Array.toList_inj
def ams:=@Nat.le_succ
def amt:=@Tryz.zeroValue9
def amu:=@Tryz.zeroValue5
def amv:=@Tryz.zeroValue3
def amw:=@Tryz.zeroValue0
def amE:=@Array.toList_setIfInBounds
def amJ:=@Nat.mul_le_mul
def amK:=@List.drop_left
namespace Go.Nx
def lV(w:World)(o:Obj)(i:Nat)(h:i<w.heap.size):(w.alloc o).heap[i]?=w.heap[i]?:=@heap_alloc_old w o i h
def ak{b:Type _}(a:b):∃x,a=x:=⟨a,rfl⟩
inductive ab where
 |v (x:Value)
 |aj (rows:List (List ab))
 |ptr (h ver i k:Nat)
 |sl (h ver lo len:Nat)
 |aJ (rows:List (List ab)) (i k:Nat)
 |eU (rows:List (List ab))
 |bF (f:FuncId) (caps:List ab)
 |mr (h:Nat)
 |ig (t:TypeId) (l:ab)
 |mG (h:Nat)
inductive aw where
 |c (l:ab)
 |agg (cs:List ab)
 |aM (vs:List aw)
abbrev I(n:Int):ab:= .v (.int .i64 n)
abbrev B(b:Bool):ab:= .v (.bool b)
abbrev ap:ab:= .v (.slice none 0 0)
structure fm where
 base:Option Nat
 off:Nat
 cap:Nat
 sz:Nat
inductive Ob where
 |live (ver sz:Nat) (rows:List (List ab))
 |dead
 |mp (ents:List (List ab×ab))
 |it (s:ByteArray) (pos:Nat)
structure az where
 w:World
 F:Nat->Nat->Prop
 X:Nat->Prop
 hs:List (fm×Nat)
mutual
def aB(e:az):ab->Value->Prop
 | .v x,y=>y=x/\x.oneCell'=true
 | .aj rows,y=>(y= .slice none 0 0/\rows=[])\/∃a cap g,y= .slice (some a) rows.length cap/\rows.length<=cap/\
   (rows=[]\/(a.spot=none/\e.F a.block g/\bE e a.block g a.off rows))
 | .ptr h j i k,y=>∃c d p,e.hs[h]?=some (c,d)/\j<=d/\y= .pointer p/\(j=d->∃b,c.base=some b/\p=some ⟨b,c.off+i*c.sz+k,none⟩)
 | .sl h j m len,y=>∃c d a cap,e.hs[h]?=some (c,d)/\j<=d/\y= .slice a len cap/\(j=d->
   (c.base=none/\a=none/\cap=0/\m=0/\len=0)\/
   ∃b n,c.base=some b/\a=some n/\cap=c.cap-m/\m+len<=c.cap/\(m<c.cap->n=⟨b,c.off+m*c.sz,none⟩))
 | .aJ rows i k,y=>∃b o g,y= .pointer (some ⟨b,o+i*g+k,none⟩)/\e.F b g/\bE e b g o rows
 | .eU rows,y=>∃a cap g,y= .slice (some a) rows.length cap/\rows.length<=cap/\
   (rows=[]\/(a.spot=none/\e.F a.block g/\bE e a.block g a.off rows))
 | .bF f s,y=>∃q,y= .func (.func f) #[] q/\aY e s q.toList
 | .mr h,y=>∃c d r,e.hs[h]?=some (c,d)/\y= .map r/\(0=d->∃b,c.base=some b/\r=some b)
 | .ig t l,y=>∃z,y= .iface t z/\aB e l z
 | .mG h,y=>∃c d p,e.hs[h]?=some (c,d)/\y= .pointer p/\(0=d->∃b,c.base=some b/\p=some ⟨b,0,none⟩)
def bE(c:az)(b a:Nat):Nat->List (List ab)->Prop
 |_,[]=>True
 |off,r::d=>r.length=a/\cR c b off r/\bE c b a (off+a) d
def cR(a:az)(b:Nat):Nat->List ab->Prop
 |_,[]=>True
 |off,l::c=>(∃y,a.w.cell? ⟨b,off,none⟩=some y/\aB a l y)/\cR a b (off+1) c
def aY(b:az):List ab->List Value->Prop
 |[],a=>a=[]
 |l::d,a=>∃y c,a=y::c/\aB b l y/\aY b d c
end
mutual
def aL(Γ:az):aw->Value->Prop
 | .c l,y=>aB Γ l y
 | .agg cs,y=>∃a,y= .agg a/\aY Γ cs a.toList
 | .aM b,y=>∃a,y= .tuple a/\bT Γ b a.toList
def bT(b:az):List aw->List Value->Prop
 |[],a=>a=[]
 |l::d,a=>∃y c,a=y::c/\aL b l y/\bT b d c
end
structure az.Le(Γ Γ':az):Prop where
 F:∀b z,Γ.F b z->Γ'.F b z
 mem:∀b z,Γ.F b z->Γ'.w.heap[b]?=Γ.w.heap[b]?
 hs:∀(h:Nat) (inf:fm) (ver:Nat),Γ.hs[h]?=some (inf,ver)->∃inf' ver',Γ'.hs[h]?=some (inf',ver')/\ver<=ver'/\(ver=ver'->inf'=inf)
def az.Le.refl(a:az):a.Le a:=⟨fun _ _ h=>h,fun _ _ _=>rfl,fun _ b c h=>⟨b,c,h,ad3 _,fun _=>rfl⟩⟩
def az.Le.trans{d f g:az}(h:d.Le f)(c:f.Le g):d.Le g where
 F b z a:=c.F b z (h.F b z a)
 mem b z a:=(c.mem b z (h.F b z a)).trans (h.mem b z a)
 hs n i j hn:=by
  have⟨k,l,m,t,o⟩:=h.hs n i j hn
  have⟨p,q,r,u,s⟩:=c.hs n k l m
  refine⟨p,q,r,by omega,fun e=>?_⟩
  rw[s (by omega),o (by omega)]
def az.Le.cell{b c:az}(h:b.Le c){a:Addr}{z:Nat}(d:b.F a.block z):c.w.cell? a=b.w.cell? a:=by simp[World.cell?,h.mem _ _ d]
mutual
def lI{H I:az}(h:H.Le I):∀(l:ab) (y:Value),aB H l y->aB I l y
 | .v x,y,hc=>by simpa[aB]using hc
 | .aj rows,y,hc=>by
  simp only[aB]at hc|-
  rcases hc with hc|⟨a,cap,w,d,g,c⟩
  .exact .inl hc
  .refine .inr ⟨a,cap,w,d,g,?_⟩
   rcases c with c|⟨c,A,B⟩
   .exact .inl c
   .exact .inr ⟨c,h.F _ _ A,wU h _ _ A _ rows B⟩
 | .ptr n C i k,y,hc=>by
  simp only[aB]at hc|-
  have⟨m,j,p,d,g,D,c⟩:=hc
  have⟨o,q,s,E,u⟩:=h.hs n m j d
  refine⟨o,q,p,s,by omega,D,fun e=>?_⟩
  have G:C=j:=by omega
  rw[u (by omega)]
  exact c G
 | .sl n C M len,y,hc=>by
  simp only[aB]at hc|-
  have⟨m,j,a,cap,d,g,D,c⟩:=hc
  have⟨o,q,s,E,u⟩:=h.hs n m j d
  refine⟨o,q,a,cap,s,by omega,D,fun e=>?_⟩
  have G:C=j:=by omega
  rw[u (by omega)]
  exact c G
 | .aJ rows i k,y,hc=>by
  simp only[aB]at hc|-
  have⟨b,J,w,d,g,c⟩:=hc
  exact⟨b,J,w,d,h.F _ _ g,wU h _ _ g _ rows c⟩
 | .eU rows,y,hc=>by
  simp only[aB]at hc|-
  have⟨a,cap,w,d,g,c⟩:=hc
  refine⟨a,cap,w,d,g,?_⟩
  rcases c with c|⟨c,A,B⟩
  .exact .inl c
  .exact .inr ⟨c,h.F _ _ A,wU h _ _ A _ rows B⟩
 | .bF f K,y,hc=>by
  simp only[aB]at hc|-
  have⟨L,d,g⟩:=hc
  exact⟨L,d,kw h K _ g⟩
 | .mr n,y,hc=>by
  simp only[aB]at hc|-
  have⟨m,j,r,d,g,c⟩:=hc
  have⟨o,q,s,E,u⟩:=h.hs n m j d
  exact⟨o,q,r,s,g,fun e=>by rw[u (by omega)];exact c (by omega)⟩
 | .ig t l,y,hc=>by
  simp only[aB]at hc|-
  have⟨z,d,g⟩:=hc
  exact⟨z,d,lI h l z g⟩
 | .mG n,y,hc=>by
  simp only[aB]at hc|-
  have⟨m,j,r,d,g,c⟩:=hc
  have⟨o,q,s,E,u⟩:=h.hs n m j d
  exact⟨o,q,r,s,g,fun e=>by rw[u (by omega)];exact c (by omega)⟩
def wU{a d:az}(h:a.Le d)(b c:Nat){f:Nat}(e:a.F b f):∀(off:Nat) (rows:List (List ab)),bE a b c off rows->bE d b c off rows
 |_,[],_=>by simp[bE]
 |off,r::g,hc=>by
  simp only[bE]at hc|-
  exact⟨hc.1,ME h b e _ r hc.2.1,wU h b c e _ g hc.2.2⟩
def ME{c d:az}(h:c.Le d)(b:Nat){f:Nat}(e:c.F b f):∀(off:Nat) (r:List ab),cR c b off r->cR d b off r
 |_,[],_=>by simp[cR]
 |off,l::g,hc=>by
  simp only[cR]at hc|-
  have⟨⟨y,i,j⟩,k⟩:=hc
  exact⟨⟨y,(h.cell (a:=⟨b,off,none⟩) e).trans i,lI h l y j⟩,ME h b e _ g k⟩
def kw{c Γ':az}(h:c.Le Γ'):∀(a:List ab) (b:List Value),aY c a b->aY Γ' a b
 |[],b,hc=>by simpa[aY]using hc
 |l::a,b,hc=>by
  simp only[aY]at hc|-
  have⟨y,d,e,f,g⟩:=hc
  exact⟨y,d,e,lI h l y f,kw h a d g⟩
end
mutual
def DB{e f:az}(h:e.Le f):∀(l:aw) (y:Value),aL e l y->aL f l y
 | .c l,y,hc=>by simp only[aL]at hc|-;exact lI h l y hc
 | .agg cs,y,hc=>by
  simp only[aL]at hc|-
  have⟨a,b,d⟩:=hc
  exact⟨a,b,kw h _ _ d⟩
 | .aM g,y,hc=>by
  simp only[aL]at hc|-
  have⟨a,b,d⟩:=hc
  exact⟨a,b,Ei h _ _ d⟩
def Ei{c d:az}(h:c.Le d):∀(a:List aw) (b:List Value),bT c a b->bT d a b
 |[],b,hc=>by simpa[bT]using hc
 |l::a,b,hc=>by
  simp only[bT]at hc|-
  have⟨y,e,f,g,i⟩:=hc
  exact⟨y,e,f,DB h l y g,Ei h a e i⟩
end
def tq{a c:az}(h:a.Le c)(b:Nat):∀(off:Nat) (r:List ab),(∀j,off<=j->j<off+r.length->c.w.cell? ⟨b,j,none⟩=a.w.cell? ⟨b,j,none⟩)->cR a b off r->cR c b off r
 |_,[],_,_=>by simp[cR]
 |off,l::f,hm,hc=>by
  simp only[cR]at hc|-
  have⟨⟨y,d,e⟩,g⟩:=hc
  refine⟨⟨y,(hm off (ad3 _) (by simp)).trans d,lI h l y e⟩,tq h b _ f (fun j d e=>hm j (by omega) (by simp;omega)) g⟩
def rM{c d:az}(h:c.Le d)(b a:Nat):∀(off:Nat) (rows:List (List ab)),(∀j,off<=j->j<off+rows.length*a->d.w.cell? ⟨b,j,none⟩=c.w.cell? ⟨b,j,none⟩)->bE c b a off rows->bE d b a off rows
 |_,[],_,_=>by simp[bE]
 |off,r::e,hm,hc=>by
  simp only[bE]at hc|-
  have⟨i,k,l⟩:=hc
  have f:(r::e).length*a=a+e.length*a:=by simp[air,alr]
  refine⟨i,tq h b _ r (fun j g m=>hm j g (by rw[f];omega)) k,rM h b a _ e (fun j g m=>hm j (by omega) (by rw[f];omega)) l⟩
def uT{c:az}{b:Nat}:∀ {off:Nat} {r:List ab} {k:Nat} {l:ab},cR c b off r->r[k]?=some l->∃y,c.w.cell? ⟨b,off+k,none⟩=some y/\aB c l y
 |off,[],k,l,_,a=>by simp at a
 |off,x::d,0,l,hc,a=>by
  simp only[cR]at hc
  simp at a
  subst a
  exact hc.1
 |off,x::d,k+1,l,hc,a=>by
  simp only[cR]at hc
  have:=uT hc.2 (by simpa using a)
  rwa [show off+1+k=off+(k+1)by omega]at this
def jL{d:az}{b a:Nat}:∀ {off:Nat} {rows:List (List ab)} {i:Nat} {r:List ab},bE d b a off rows->rows[i]?=some r->r.length=a/\cR d b (off+i*a) r
 |off,[],i,r,_,c=>by simp at c
 |off,x::e,0,r,hc,c=>by
  simp only[bE]at hc
  simp at c
  subst c
  exact⟨hc.1,by simpa using hc.2.1⟩
 |off,x::e,i+1,r,hc,c=>by
  simp only[bE]at hc
  have:=jL hc.2.2 (by simpa using c)
  rwa [show off+a+i*a=off+(i+1)*a by rw[air];omega]at this
def nS{a:az}{b:Nat}:∀ {off:Nat} {r:List ab},(∀(k:Nat) (l:ab),r[k]?=some l->∃y,a.w.cell? ⟨b,off+k,none⟩=some y/\aB a l y)->cR a b off r
 |_,[],_=>by simp[cR]
 |off,x::d,h=>by
  simp only[cR]
  refine⟨by simpa using h 0 x (by simp),nS fun k l c=>?_⟩
  rw[show off+1+k=off+(k+1)by omega]
  exact h (k+1) l (by simpa using c)
def mY{c:az}{b a:Nat}:∀ {off:Nat} {rows:List (List ab)},(∀(i:Nat) (r:List ab),rows[i]?=some r->r.length=a/\cR c b (off+i*a) r)->bE c b a off rows
 |_,[],_=>by simp[bE]
 |off,x::f,h=>by
  simp only[bE]
  have d:=h 0 x (by simp)
  refine⟨d.1,by simpa using d.2,mY fun i r e=>?_⟩
  rw[show off+a+i*a=off+(i+1)*a by rw[air];omega]
  exact h (i+1) r (by simpa using e)
def fI{c:az}:∀ {b:List ab} {a:List Value},aY c b a->a.length=b.length
 |[],a,h=>by simp only[aY]at h;subst h;rfl
 |l::b,a,h=>by
  simp only[aY]at h
  obtain⟨y,e,rfl,_,d⟩:=h
  simp[fI d]
def kX{c:az}:∀ {d:List ab} {b:List Value} {k:Nat} {l:ab},aY c d b->d[k]?=some l->∃y,b[k]?=some y/\aB c l y
 |[],b,k,l,h,a=>by simp at a
 |x::e,b,0,l,h,a=>by
  simp only[aY]at h
  obtain⟨y,f,rfl,g,_⟩:=h
  simp at a
  subst a
  exact⟨y,by simp,g⟩
 |x::e,b,k+1,l,h,a=>by
  simp only[aY]at h
  obtain⟨y,f,rfl,_,i⟩:=h
  have:=kX i (by simpa using a)
  simpa using this
def tW{d:az}:∀ {c:List ab} {a:List Value},a.length=c.length->(∀(k:Nat) (l:ab) (y:Value),c[k]?=some l->a[k]?=some y->aB d l y)->aY d c a
 |[],a,b,_=>by simp only[aY];exact ae4 (by simpa using b)
 |x::e,[],b,_=>by simp at b
 |x::e,y::a,b,h=>by
  simp only[aY]
  exact⟨y,a,rfl,h 0 x y (by simp) (by simp),tW (by simpa using b) fun k l z f g=>h (k+1) l z (by simpa using f) (by simpa using g)⟩
def su{d:az}{e g:List ab}{i j:List Value}(h:aY d e i)(m:aY d g j):aY d (e++g) (i++j):=by
 refine tW (by simp[fI h,fI m]) fun k l y b c=>?_;by_cases n:k<e.length
 .rw[abE n]at b;rw[abE (by rw[fI h];exact n)]at c;have⟨z,a,f⟩:=kX h b;rw[c]at a;cases a;exact f
 .rw[aea (by omega)]at b;rw[aea (by rw[fI h];omega),fI h]at c;have⟨z,a,f⟩:=kX m b;rw[c]at a;cases a;exact f
def sQ{c:az}{d:List ab}{e:List Value}(h:aY c d e)(n:Nat):aY c (d.take n) (e.take n):=by
 refine tW (by simp[fI h]) fun k l y a b=>?_;rw[ajK]at a b;split at a
 .rename_i g;rw[if_pos g]at b;have⟨z,f,i⟩:=kX h a;rw[b]at f;cases f;exact i
 .cases a
def tx{a:az}{b:List ab}{c:List Value}(h:aY a b c)(n:Nat):aY a (b.drop n) (c.drop n):=by refine tW (by simp[fI h]) fun k l y d e=>?_;rw[ai3]at d e;have⟨z,f,g⟩:=kX h d;rw[e]at f;cases f;exact g
def DV{c:az}{b:Nat}:∀ {off:Nat} {r:List ab},cR c b off r->∃a,aY c r a/\∀(k:Nat) (y:Value),a[k]?=some y->c.w.cell? ⟨b,off+k,none⟩=some y
 |off,[],_=>⟨[],by simp[aY],by simp⟩
 |off,x::l,h=>by
  simp only[cR]at h
  have⟨⟨y,e,f⟩,g⟩:=h
  have⟨a,i,j⟩:=DV g
  refine⟨y::a,by simp only[aY];exact⟨y,a,rfl,f,i⟩,fun k z d=>?_⟩
  cases k with
  |zero=>simp at d;subst d;simpa using e
  |succ k=>
   have:=j k z (by simpa using d)
   rwa [show off+1+k=off+(k+1)by omega]at this
def Ud{c:az}{b d:Nat}{r:List ab}(h:cR c b d r)(n:Nat):cR c b d (r.take n):=by
 refine nS fun k l a=>?_;rw[ajK]at a;split at a
 .exact uT h a
 .cases a
def aeE{a:az}{b c:Nat}{r:List ab}(h:cR a b c r)(n:Nat):cR a b (c+n) (r.drop n):=by refine nS fun k l d=>?_;rw[ai3]at d;have:=uT h d;rwa [<-ajg]at this
def kJ{c:az}{b d e:Nat}{rows:List (List ab)}(h:bE c b d e rows)(n:Nat):bE c b d e (rows.take n):=by
 refine mY fun i r a=>?_;rw[ajK]at a;split at a
 .exact jL h a
 .cases a
def ml{d:az}{b a c:Nat}{rows:List (List ab)}(h:bE d b a c rows)(n:Nat):bE d b a (c+n*a) (rows.drop n):=by refine mY fun i r e=>?_;rw[ai3]at e;have:=jL h e;rwa [show c+n*a+i*a=c+(n+i)*a by rw[air];omega]
def wm{f:az}{b a d:Nat}{c g:List (List ab)}(h:bE f b a d c)(j:bE f b a (d+c.length*a) g):bE f b a d (c++g):=by
 refine mY fun i r e=>?_;by_cases k:i<c.length
 .rw[abE k]at e;exact jL h e
 .rw[aea (by omega)]at e;have:=jL j e;rwa [show d+c.length*a+(i-c.length)*a=d+i*a by rw[ajg, <-air];congr 2;omega]at this
def tH{d:az}{b e:Nat}:∀ {off:Nat} {rows:List (List ab)},bE d b e off rows->∃a,aY d rows.flatten a/\a.length=rows.length*e/\∀(k:Nat) (y:Value),a[k]?=some y->d.w.cell? ⟨b,off+k,none⟩=some y
 |off,[],_=>⟨[],by simp[aY],by simp,by simp⟩
 |off,r::p,h=>by
  simp only[bE]at h
  have⟨g,i,j⟩:=h
  have⟨a,f,l⟩:=DV i
  have⟨m,f1,f2,f3⟩:=tH j
  have n:=fI f
  refine⟨a++m,by simpa using su f f1,by simp[n,g,f2,air,alr],fun k y c=>?_⟩
  by_cases o:k<a.length
  .rw[abE o]at c
   exact l k y c
  .rw[aea (by omega)]at c
   have:=f3 _ y c
   rwa [show off+e+(k-a.length)=off+k by omega]at this
def wQ(a:az)(e:MapEntry)(p:List ab×ab):Prop:=(∃b:Array Value,e.key= .agg b/\aY a p.1 b.toList)/\aB a p.2 e.val
def Ob.there:Ob->Bool
 | .dead=>false
 |_=>true
def dE(z:Nat)(w:World)(b:Nat)(cells:Array Value)(T:TypeId):Prop:= ∃a:Nat×Nat,w.heap[b]?=some (.cells cells T a)/\(a.1=a.2\/z=1/\cells.size<=a.1)
def nY(c:az)(h:Nat):Ob->Prop
 | .dead=>∃a,c.hs[h]?=some (a,0)
 | .it s pos=>∃a b,c.hs[h]?=some (a,0)/\a.base=some b/\c.X b/\(∀z, ¬c.F b z)/\c.w.heap[b]?=some (.stringIter s pos)
 | .mp f=>∃a b,c.hs[h]?=some (a,0)/\a.base=some b/\c.X b/\(∀z, ¬c.F b z)/\∃d g,c.w.heap[b]?=some (.map d g)/\d.size=f.length/\
   ∀(j:Nat) (p:List ab×ab) (e:MapEntry),f[j]?=some p->d[j]?=some e->wQ c e p
 | .live i k rows=>∃a,c.hs[h]?=some (a,i)/\a.cap<=maxLen/\match a.base with
  |none=>rows=[]
  |some b=>a.sz=k/\c.X b/\(∀z, ¬c.F b z)/\rows.length<=a.cap/\0<a.sz/\∃cells T,dE a.sz c.w b cells T/\a.off+a.cap*a.sz<=cells.size/\bE c b a.sz a.off rows
def li:List Int:=[0,498536548,997073096,651767980,1994146192,1802195444,1303535960,1342533948,3988292384,4027552580,3604390888,3412177804,2607071920,2262029012,2685067896,3183342108]
def sK:List (Nat×Nat×List (List ab)):=[(2,16,[li.map fun n=> .v (.int .u32 n)]),(0,1,[[.v (.iface 366 (.agg #[.pointer (some ⟨10,139,none⟩)]))]])]
def ug(a:az):Prop:= ∀p∈sK,a.F p.1 p.2.1/\bE a p.1 p.2.1 0 p.2.2
def ug.le{b c:az}(h:b.Le c)(a:ug b):ug c:=fun p hp=>⟨h.F _ _ (a p hp).1,wU h _ _ (a p hp).1 _ _ (a p hp).2⟩
structure aZ(Γ:az)(H:List Ob):Prop where
 len:H.length=Γ.hs.length
 ob:∀(h:Nat) (o:Ob),H[h]?=some o->nY Γ h o
 apart:∀(h h' v v':Nat) (o o':Ob) (inf inf':fm) (b:Nat),H[h]?=some o->H[h']?=some o'->o.there=true->o'.there=true->Γ.hs[h]?=some (inf,v)->Γ.hs[h']?=some (inf',v')->
  inf.base=some b->inf'.base=some b->h=h'
 F:∀b z,Γ.F b z->b<Γ.w.heap.size
 X:∀b,Γ.X b->b<Γ.w.heap.size
 G:ug Γ
structure az.cL(Γ Γ':az):Prop where
 le:Γ.Le Γ'
 os:Γ'.w.os=Γ.w.os
 tape:Γ'.w.tape=Γ.w.tape
 output:Γ'.w.output=Γ.w.output
 size:Γ.w.heap.size<=Γ'.w.heap.size
 frame:∀b,b<Γ.w.heap.size-> ¬Γ.X b->Γ'.w.heap[b]?=Γ.w.heap[b]?
 mF:∀b z,Γ'.F b z->Γ.F b z\/Γ.X b\/Γ.w.heap.size<=b
 lj:∀b,Γ'.X b->Γ.X b\/Γ.w.heap.size<=b
def az.cL.refl(a:az):a.cL a:=⟨.refl a,rfl,rfl,rfl,ad3 _,fun _ _ _=>rfl,fun _ _ h=> .inl h,fun _ h=> .inl h⟩
def az.cL.trans{g e i:az}(h:g.cL e)(c:e.cL i):g.cL i where
 le:=h.le.trans c.le
 os:=c.os.trans h.os
 tape:=c.tape.trans h.tape
 output:=c.output.trans h.output
 size:=ai5 h.size c.size
 frame b d j:=by
  have k:¬e.X b:=fun hc=>by
   rcases h.lj b hc with a|a
   .exact j a
   .omega
  exact(c.frame b (aiS d h.size) k).trans (h.frame b d j)
 mF b z d:=by
  rcases c.mF b z d with a|a|a
  .exact h.mF b z a
  .rcases h.lj b a with f|f
   .exact .inr (.inl f)
   .exact .inr (.inr f)
  .exact .inr (.inr (ai5 h.size a))
 lj b d:=by
  rcases c.lj b d with a|a
  .exact h.lj b a
  .exact .inr (ai5 h.size a)
abbrev aa(n:Int):aw:= .c (I n)
abbrev aR(b:Bool):aw:= .c (B b)
abbrev bh(l:List (List ab)):aw:= .c (.aj l)
abbrev bd(h v i n:Nat):aw:= .c (.sl h v i n)
abbrev kP(h v i n:Nat):aw:= .c (.ptr h v i n)
abbrev au(h:Nat):aw:= .c (.ptr h 0 0 0)
abbrev ah(z:Nat)(l:List (List ab)):Ob:= .live 0 z l
abbrev Env:=List (Nat×aw)
def Env.get:Env->Nat->Option aw
 |[],_=>none
 |(t,x)::r,s=>if t=s then some x else Env.get r s
abbrev unit:aw:= .aM []
def tk(P:Program)(t:TypeId):Option (Bool×Nat):=
 match P.underlying t,P.info? t with
 |some d,some i=>some ((match d with| .struct _| .array _ _=>true|_=>false),i.size)
 |_,_=>none
def fo(P:Program)(s:TypeId)(f:Nat):Option (Nat×Nat×Bool):=
 match P.underlying s with
 |some (.struct b)=>match b[f]? with
  |some a=>(tk P a.type).map fun(g,n)=>(a.offset,n,g)
  |none=>none
 |_=>none
def leaves(v:Value):Option (List ab):=if v.cells.toList.all (·.oneCell')then some (v.cells.toList.map .v)else none
def zc(P:Program)(t:TypeId):Option (List ab):=
 match P.info? t with
 |some i=>match i.zero with
  |some z=>if z.cells.size=i.size then leaves z else none
  |none=>none
 |none=>none
def se(P:Program)(t:TypeId):Option (TypeId×Nat×Nat×List ab):=
 match P.underlying t with
 |some (.slice e)=>match P.info? e,zc P e with
  |some i,some z=>some (e,i.size,i.bytes,z)
  |_,_=>none
 |_=>none
def ar(P:Program)(t:TypeId):Option (Nat×Nat×Bool):=
 match P.underlying t with
 |some (.array n e)=>(tk P e).map fun(g,s)=>(n,s,g)
 |_=>none
def cm(P:Program)(t:TypeId):Option (List ab×List (Nat×Nat)):=
 match P.underlying t with
 |some (.struct a)=>match zc P t,a.toList.mapM (fun f=>(P.info? f.type).map fun i=>(f.offset,i.size))with
  |some z,some b=>some (z,b)
  |_,_=>none
 |some (.array n e)=>match zc P t,P.info? e with
  |some z,some i=>some (z,(aiZ n).map fun k=>(k*i.size,i.size))
  |_,_=>none
 |_=>none
def ik(P:Program)(t:TypeId):Option IntKind:=
 match P.underlying t with
 |some (.int k)=>some k
 |_=>none
inductive Sh|int|bool|str
def xV(P:Program)(rec:TypeId->Option (List Sh)):Nat->List Field->Option (List Sh)
 |_,[]=>some []
 |off,f::a=>if f.name≠ "_" /\f.offset=off then match rec f.type,tk P f.type with
  |some s,some (_,n)=>if n=s.length/\0<n then(xV P rec (off+s.length) a).map (s++ ·)else none
  |_,_=>none
  else none
def pH(P:Program):Nat->TypeId->Option (List Sh)
 |0,_=>none
 |d+1,t=>match P.underlying t with
  |some (.int _)=>some [.int]
  |some .bool=>some [.bool]
  |some .string=>some [.str]
  |some (.struct a)=>if P.stoodInHeld t then none else xV P (pH P d) 0 a.toList
  |_=>none
def eqs(P:Program)(t:TypeId):Option (List Sh):=
 match P.underlying t with
 |some (.struct _)=>if P.eqGuardType P.depth t then none else pH P 8 t
 |_=>none
def aw.cells:aw->Option (List ab)
 | .c l=>some [l]
 | .agg cs=>some cs
 | .aM _=>none
def kK{a:Type}(r:List a)(k:Nat):List a->List a
 |[]=>r
 |l::b=>kK (r.set k l) (k+1) b
def vH(a:List (Nat×Nat))(cells:List ab):List (Nat×Option aw)->Option (List ab)
 |[]=>some cells
 |(i,x)::d=>match a[i]?,x with
  |some (b,c),some x=>match x.cells with
   |some cs=>if cs.length=c/\b+c<=cells.length then vH a (kK cells b cs) d else none
   |none=>none
  |_,_=>none
def tR(a:Nat)(rows:List (List ab)):List (Nat×Option aw)->Option (List (List ab))
 |[]=>some rows
 |(i,x)::b=>match x with
  |some x=>match x.cells with
   |some cs=>if cs.length=a/\i<rows.length then tR a (rows.set i cs) b else none
   |none=>none
  |none=>none
def xU(r:List ab)(k n:Nat):List ab:=(r.drop k).take n
def obj(H:List Ob)(h ver:Nat):Option (Nat×List (List ab)):=
 match H[h]? with
 |some (.live v z rows)=>if v=ver then some (z,rows)else none
 |_=>none
def qR(H:List Ob)(n:Nat):ab->Option (List ab)
 | .ptr h a i k=>match obj H h a with
  |some (_,rows)=>match rows[i]? with
   |some r=>if k+n<=r.length then some (xU r k n)else none
   |none=>none
  |none=>none
 | .aJ rows i k=>match rows[i]? with
  |some r=>if k+n<=r.length then some (xU r k n)else none
  |none=>none
 |_=>none
def qP(H:List Ob):ab->Option ab
 | .ptr h a i k=>match obj H h a with
  |some (_,rows)=>match rows[i]? with
   |some r=>r[k]?
   |none=>none
  |none=>none
 | .aJ rows i k=>match rows[i]? with
  |some r=>r[k]?
  |none=>none
 |_=>none
def view(H:List Ob):ab->Option (List (List ab))
 | .aj rows=>some rows
 | .eU rows=>some rows
 | .v (.slice none 0 0)=>some []
 | .sl h b a len=>match obj H h b with
  |some (_,rows)=>if a+len<=rows.length then some ((rows.drop a).take len)else none
  |none=>none
 |_=>none
def qd:ab->Option Nat
 | .aj rows=>some rows.length
 | .eU rows=>some rows.length
 | .v (.slice none 0 0)=>some 0
 | .sl _ _ _ len=>some len
 |_=>none
def Sz:aw->Option Int
 | .c (.v (.int _ n))=>some n
 |_=>none
def aX(e:Env):Operand->Option aw
 | .tmp t=>e.get t
 | .const v=>match v with
  | .agg cs=>(leaves (.agg cs)).map .agg
  | .tuple _=>none
  |v=>some (.c (.v v))
 | .func f=>some (.c (.bF f []))
 | .global _=>none
def lR:Sh->ab->ab->Option Bool
 | .int,.v (.int k a),.v (.int c b)=>if k=c then some (a==b)else none
 | .bool,.v (.bool a),.v (.bool b)=>some (a==b)
 | .str,.v (.string a),.v (.string b)=>some (a.toList==b.toList)
 |_,_,_=>none
def eL:List Sh->List ab->List ab->Option Bool
 |[],[],[]=>some true
 |s::c,a::d,b::e=>match lR s a b,eL c d e with
  |some x,some y=>some (x&&y)
  |_,_=>none
 |_,_,_=>none
def Dt(c:BinOp)(k:IntKind)(a b:Int):Option ab:=
 match c with
 | .add=>some (.v (.int k (k.wrap (a+b))))
 | .sub=>some (.v (.int k (k.wrap (a-b))))
 | .mul=>some (.v (.int k (k.wrap (a*b))))
 | .quo=>if b=0 then none else some (.v (.int k (k.wrap (a.tdiv b))))
 | .rem=>if b=0 then none else some (.v (.int k (a.tmod b)))
 | .eql=>some (.v (.bool (a==b)))
 | .neq=>some (.v (.bool (a !=b)))
 | .lss=>some (.v (.bool (decide (a<b))))
 | .leq=>some (.v (.bool (decide (a<=b))))
 | .gtr=>some (.v (.bool (decide (a>b))))
 | .geq=>some (.v (.bool (decide (a>=b))))
 | .and=>some (.v (.int k (k.wrap ((aji k.bits a&&&aji k.bits b).toNat))))
 | .shr=>if b<0 then none else some (.v (.int k (a.fdiv (2 ^ (min b.toNat k.bits)))))
 |_=>none
def pG:ab->Bool
 | .v (.slice none 0 0)=>true
 |_=>false
def rj(H:List Ob):ab->Option Bool
 | .aj rows=>match rows with|_::_=>some false|[]=>none
 | .eU _=>some false
 | .v (.slice none 0 0)=>some true
 | .sl h a _ len=>match obj H h a with
  |some _=>if 0<len then some false else none
  |none=>none
 |_=>none
def oA(P:Program)(H:List Ob)(d:BinOp)(t:TypeId):aw->aw->Option ab
 | .c (.v (.int k a)),.c (.v (.int g b))=>if k=g then Dt d k a b else none
 | .c (.v (.bool a)),.c (.v (.bool b))=>match P.underlying t with
  |some .bool=>match d with
   | .eql=>some (.v (.bool (a==b)))
   | .neq=>some (.v (.bool (!(a==b))))
   |_=>none
  |_=>none
 | .agg e,.agg f=>match eqs P t with
  |some s=>match d with
   | .eql=>(eL s e f).map fun b=> .v (.bool b)
   | .neq=>(eL s e f).map fun b=> .v (.bool (!b))
   |_=>none
  |none=>none
 | .c a,.c b=>if pG b then match P.underlying t with
   |some (.slice _)=>match d with
    | .eql=>(rj H a).map fun b=> .v (.bool b)
    | .neq=>(rj H a).map fun b=> .v (.bool (!b))
    |_=>none
   |_=>none
  else none
 |_,_=>none
def qF(P:Program)(H:List Ob)(t:TypeId)(x:ab)(a b:Option Int):Option ab:=
 match se P t,qd x with
 |some (_,c,_),some n=>
  if 0<=a.getD 0/\a.getD 0<=b.getD (n:Int)/\b.getD (n:Int)<=(n:Int)then match x with
   | .aj rows=>if ∀r∈rows,r.length=c then some (.aj ((rows.take (b.getD (n:Int)).toNat).drop (a.getD 0).toNat))else none
   | .eU rows=>if ∀r∈rows,r.length=c then some (.eU ((rows.take (b.getD (n:Int)).toNat).drop (a.getD 0).toNat))else none
   | .sl d e f _=>match obj H d e with
    |some (z,_)=>if z=c then some (.sl d e (f+(a.getD 0).toNat) ((b.getD (n:Int)).toNat-(a.getD 0).toNat))else none
    |none=>none
   | .v (.slice none 0 0)=>some ap
   |_=>none
  else none
 |_,_=>none
def nL(e:Env):Option Operand->Option (Option Int)
 |none=>some none
 |some x=>match aX e x with
  |some v=>(Sz v).map some
  |none=>none
def sO(P:Program)(H:List Ob)(t:TypeId)(x:ab)(i:Int):Option ab:=
 match x with
 | .sl h a c len=>match se P t,obj H h a with
  |some (_,b,_),some (z,rows)=>if 0<=i/\i<len/\z=b/\c+i.toNat<rows.length then some (.ptr h a (c+i.toNat) 0)else none
  |_,_=>none
 | .ptr h a r k=>match ar P t,obj H h a with
  |some (n,b,_),some _=>if 0<=i/\i<n then some (.ptr h a r (k+i.toNat*b))else none
  |_,_=>none
 |x=>match se P t,view H x with
  |some (_,b,_),some rows=>if 0<=i/\i<rows.length then match rows[i.toNat]? with
    |some r=>if r.length=b then some (.aJ rows i.toNat 0)else none
    |none=>none
   else none
  |_,_=>none
def Az(g:Bool)(cs:List ab)(a n:Nat):Option aw:=
 if g then(if a+n<=cs.length then some (.agg (xU cs a n))else none)else cs[a]?.map .c
def Dp(b:Bool)(x y:aw):aw:=
 match x,y with
 | .c (.v (.bool p)),.c (.v (.bool q))=> .c (.v (.bool (bif b then p else q)))
 |x,y=>bif b then x else y
def xa:List (Option aw)->Option (List ab)
 |[]=>some []
 |some (.c l)::r=>(xa r).map (l:: ·)
 |_::_=>none
def foldI(f:Int->Int->Int)(a:Int):List (Option aw)->Option Int
 |[]=>some a
 |some (.c (.v (.int _ n)))::r=>foldI f (f a n) r
 |_=>none
def zY(f:Int->Int->Int):List (Option aw)->Option Int
 |some (.c (.v (.int .i64 n)))::r=>foldI f n r
 |_=>none
def sy(P:Program)(H:List Ob)(b a bytes:Nat)(z:List ab)(s x:ab):Option (aw×List Ob):=
 match P.underlying b,s,x with
 |some (.int _),.v (.slice none 0 0),.v (.int _ n)=>
  if 0<a/\z.length=a/\0<=n/\n<=9223372036854775807/\n.toNat*bytes<=140737488355328 then some (.c (.sl H.length 0 0 n.toNat),H++[.live 0 a (ahv n.toNat z)])else none
 |_,_,_=>none
def xk(P:Program)(H:List Ob)(t e:TypeId)(s x:ab):Option (aw×List Ob):=
 match se P t,view H x with
 |some (_,b,bytes,_),some a=>
  if t=e/\0<b/\(∀r∈a,r.length=b)then match s with
   | .v (.slice none 0 0)=>if a.length<=maxLen/\a.length*bytes<=140737488355328 then some (.c (.sl H.length 0 0 a.length),H++[.live 0 b a])else none
   | .sl h d f len=>match obj H h d with
    |some (z,rows)=>if f+len<=rows.length/\z=b/\len+a.length<=maxLen/\(len+a.length)*bytes<=140737488355328 then
      some (.c (.sl h (d+1) 0 (len+a.length)),H.set h (.live (d+1) b ((rows.drop f).take len++a)))else none
    |none=>none
   |_=>none
  else none
 |some (_,b,bytes,z),none=>sy P H e b bytes z s x
 |none,_=>none
def dT(rows:List (List ab))(a:Nat)(new:List (List ab)):List (List ab):=rows.take a++new++rows.drop (a+new.length)
def OL(x:ab)(h a:Nat):Bool:=
 match x with
 | .sl b c _ _=>decide (b=h/\c=a)
 |_=>false
def Hm(P:Program)(H:List Ob)(t f:TypeId)(s x:ab):Option (aw×List Ob):=
 match se P t,view H x,s with
 |some (_,e,_),some a,.sl h b d len=>match obj H h b with
  |some (z,rows)=>if t=f/\(∀r∈a,r.length=e)/\d+len+a.length<=rows.length/\z=e/\(0<a.length\/(t=65/\OL x h b=true/\d<rows.length))then some (.c (.sl h b d (len+a.length)),H.set h (.live b z (dT rows (d+len) a)))else none
  |none=>none
 |_,_,_=>none
def pj(P:Program)(H:List Ob)(t a:TypeId)(s x:ab):Option (aw×List Ob):=
 match Hm P H t a s x with
 |some r=>some r
 |none=>xk P H t a s x
def copyV(P:Program)(H:List Ob)(t:TypeId)(d x:ab):Option (aw×List Ob):=
 match se P t,view H x,d with
 |some (_,b,_,_),some a,.sl h e f len=>match obj H h e with
  |some (z,rows)=>if f+len<=rows.length/\z=b/\(∀r∈a,r.length=b)then some (.c (.v (.int .i64 ((min a.length len:Nat):Int))),H.set h (.live e z (dT rows f (a.take len))))else none
  |none=>none
 |_,_,_=>none
def rv(P:Program)(H:List Ob)(t:TypeId)(d:ab):Option (aw×List Ob):=
 match se P t,d with
 |some (_,a,_,b),.sl h c e len=>match obj H h c with
  |some (z,rows)=>if e+len<=rows.length/\z=a/\b.length=a then some (unit,H.set h (.live c z (dT rows e (ahv len b))))else none
  |none=>none
 |_,_=>none
def bc(P:Program)(e:Env)(H:List Ob):Op->Option (aw×List Ob)
 | .move x| .assign x=>(aX e x).map (·,H)
 | .pick c a b=>match aX e c,aX e a,aX e b with
  |some (.c (.v (.bool t))),some x,some y=>some (Dp t x y,H)
  |_,_,_=>none
 | .alloc t=>match zc P t with
  |some (z::u)=>some (.c (.ptr H.length 0 0 0),H++[.live 0 (u.length+1) [z::u]])
  |_=>none
 | .box _ x=>match aX e x with
  |some v=>match v.cells with
   |some (z::u)=>some (.c (.ptr H.length 0 0 0),H++[.live 0 (u.length+1) [z::u]])
   |_=>none
  |none=>none
 | .build t A=>match cm P t with
  |some (z,E)=>(vH E z (A.toList.map fun(i,x)=>(i,aX e x))).map fun cs=>(.agg cs,H)
  |none=>none
 | .buildSlice t n A=>match se P t with
  |some (_,o,_,z)=>if 0<o/\n*o<=16777216/\z.length=o/\n<=maxLen then
    (tR o (ahv n z) (A.toList.map fun(i,x)=>(i,aX e x))).map fun rows=>(.c (.sl H.length 0 0 n),H++[.live 0 o rows])else none
  |none=>none
 | .makeSlice t l c=>match se P t,aX e l,aX e c with
  |some (_,o,bytes,z),some (.c (.v (.int _ n))),some (.c (.v (.int _ m)))=>
   if 0<o/\z.length=o/\0<=n/\n=m/\(bytes:Int)*n<=281474976710656/\n<=maxLen then some (.c (.sl H.length 0 0 n.toNat),H++[.live 0 o (ahv n.toNat z)])else none
  |_,_,_=>none
 | .load t a=>match tk P t,aX e a with
  |some (true,n),some (.c p)=>(qR H n p).map fun cs=>(.agg cs,H)
  |some (false,_),some (.c p)=>(qP H p).map fun l=>(.c l,H)
  |_,_=>none
 | .store t a x=>match tk P t,aX e a,aX e x with
  |some (_,n),some (.c (.ptr h q i k)),some v=>match v.cells,obj H h q with
   |some cs,some (z,rows)=>if cs.length=n then match rows[i]? with
     |some r=>if k+n<=r.length then some (unit,H.set h (.live q z (rows.set i (kK r k cs))))else none
     |none=>none
    else none
   |_,_=>none
  |_,_,_=>none
 | .nilCheck x=>match aX e x with
  |some (.c (.ptr h q i k))=>(obj H h q).map fun _=>(.c (.ptr h q i k),H)
  |some (.c (.aJ rows i k))=>some (.c (.aJ rows i k),H)
  |some (.c (.bF f cs))=>some (.c (.bF f cs),H)
  |_=>none
 | .binOp B t x y _=>match aX e x,aX e y with
  |some a,some b=>(oA P H B t a b).map fun l=>(.c l,H)
  |_,_=>none
 | .unOp B _ x=>match B,aX e x with
  | .not,some (.c (.v (.bool b)))=>some (.c (.v (.bool (!b))),H)
  | .neg,some (.c (.v (.int k n)))=>some (.c (.v (.int k (k.wrap (-n)))),H)
  |_,_=>none
 | .convert src F x=>match ik P src,ik P F,aX e x with
  |some _,some k,some (.c (.v (.int _ n)))=>some (.c (.v (.int k (k.wrap n))),H)
  |_,_,_=>none
 | .makeFunc (.func f) first G=>if first.size=0 then(xa (G.toList.map (aX e))).map fun cs=>(.c (.bF f cs),H)else none
 | .slice t x C D none=>match aX e x,nL e C,nL e D with
  |some (.c l),some C,some D=>(qF P H t l C D).map fun l=>(.c l,H)
  |_,_,_=>none
 | .fieldAddr s x f=>match fo P s f,aX e x with
  |some (w,n,_),some (.c (.ptr h q i k))=>if n=0 then none else(obj H h q).map fun _=>(.c (.ptr h q i (k+w)),H)
  |some (w,n,_),some (.c (.aJ rows i k))=>if n=0 then none else some (.c (.aJ rows i (k+w)),H)
  |_,_=>none
 | .field s x f=>match fo P s f,aX e x with
  |some (w,n,g),some (.agg cs)=>(Az g cs w n).map (·,H)
  |_,_=>none
 | .indexAddr t x i=>match aX e x,aX e i with
  |some (.c l),some (.c (.v (.int _ n)))=>(sO P H t l n).map fun l=>(.c l,H)
  |_,_=>none
 | .index t x i=>match ar P t,aX e x,aX e i with
  |some (n,o,g),some (.agg cs),some (.c (.v (.int _ j)))=>if 0<=j/\j<n then(Az g cs (j.toNat*o) o).map (·,H)else none
  |_,_,_=>none
 | .extract x i=>match aX e x with
  |some (.aM J)=>J[i]?.map (·,H)
  |_=>none
 | .call {callee:= .builtin .len,args,argTypes}=>match args.toList,argTypes.toList with
  |[x],[t]=>match P.underlying t,aX e x with
   |some (.slice _),some (.c l)=>(qd l).map fun(n:Nat)=>(.c (.v (.int .i64 (n:Int))),H)
   |_,_=>none
  |_,_=>none
 | .call {callee:= .builtin .append,args,argTypes}=>match args.toList,argTypes.toList with
  |[s,x],[t,K]=>match aX e s,aX e x with
   |some (.c s),some (.c x)=>pj P H t K s x
   |_,_=>none
  |_,_=>none
 | .call {callee:= .builtin .cap,args,argTypes}=>match args.toList,argTypes.toList with
  |[x],[t]=>match P.underlying t,aX e x with
   |some (.slice _),some (.c (.v (.slice none 0 0)))=>some (.c (I 0),H)
   |_,_=>none
  |_,_=>none
 | .call {callee:= .builtin .copy,args,argTypes}=>match args.toList,argTypes.toList with
  |[d,x],[t,_]=>match aX e d,aX e x with
   |some (.c d),some (.c x)=>copyV P H t d x
   |_,_=>none
  |_,_=>none
 | .call {callee:= .builtin .clear,args,argTypes}=>match args.toList,argTypes.toList with
  |[d],[t]=>match aX e d with
   |some (.c d)=>rv P H t d
   |_=>none
  |_,_=>none
 | .call {callee:= .builtin .min,args,.. }=>(zY min (args.toList.map (aX e))).map fun n=>(.c (.v (.int .i64 n)),H)
 | .call {callee:= .builtin .max,args,.. }=>(zY max (args.toList.map (aX e))).map fun n=>(.c (.v (.int .i64 n)),H)
 |_=>none
variable{w:World}{b z h ver:Nat}{T:TypeId}{Γ Γ':az}{o:Ob}{inf:fm}{H:List Ob}{rows:List (List ab)}
def jG(b o n:Nat):(⟨b,o,none⟩:Addr).add n=⟨b,o+n,none⟩:=by unfold Addr.add;split<;>simp_all
def cell_of{cells:Array Value}{a:Nat×Nat}(h:w.heap[b]?=some (.cells cells T a))(j:Nat):w.cell? ⟨b,j,none⟩=cells[j]?:=by simp[World.cell?,h]
def ag8{a:World}(h:a.heap[b]?=w.heap[b]?)(j:Nat):a.cell? ⟨b,j,none⟩=w.cell? ⟨b,j,none⟩:=by simp[World.cell?,h]
def Mn{l:ab}{y:Value}(h:aB Γ l y):y.oneCell'=true:=by
 cases l with
 |v x=>simp only[aB]at h;rw[h.1];exact h.2
 |aj rows=>simp only[aB]at h;rcases h with⟨rfl,_⟩|⟨a,cap,e,rfl,_⟩<;>rfl
 |ptr a b c d=>simp only[aB]at h;obtain⟨inf,g,p,j,m,rfl,o⟩:=h;rfl
 |sl a b c d=>simp only[aB]at h;obtain⟨inf,g,p,q,j,m,rfl,o⟩:=h;rfl
 |aJ rows i k=>simp only[aB]at h;obtain⟨b,s,e,rfl,_⟩:=h;rfl
 |eU rows=>simp only[aB]at h;obtain⟨a,cap,e,rfl,_⟩:=h;rfl
 |bF f c=>simp only[aB]at h;obtain⟨u,rfl,_⟩:=h;rfl
 |mr n=>simp only[aB]at h;obtain⟨inf,v,r,_,rfl,_⟩:=h;rfl
 |ig t l=>simp only[aB]at h;obtain⟨z,rfl,_⟩:=h;rfl
 |mG n=>simp only[aB]at h;obtain⟨inf,v,r,_,rfl,_⟩:=h;rfl
def dE.fresh{cells:Array Value}(h:w.heap[b]?=some (.cells cells T (0,0))):dE z w b cells T:=⟨(0,0),h,.inl rfl⟩
def dE.of_eq{a:World}{cells:Array Value}(h:dE z w b cells T)(e:a.heap[b]?=w.heap[b]?):dE z a b cells T:=by have⟨c,d,f⟩:=h;exact⟨c,e.trans d,f⟩
def dE.cell{cells:Array Value}(h:dE z w b cells T)(j:Nat):w.cell? ⟨b,j,none⟩=cells[j]?:=by have⟨c,a,_⟩:=h;exact cell_of a j
def dE.Mf{e:Nat}{cells a:Array Value}{c:TypeId}(h:dE z w b cells T)(f:dE e w b a c):cells=a/\T=c:=by have⟨i,g,_⟩:=h;have⟨j,d,_⟩:=f;rw[g]at d;cases d;exact⟨rfl,rfl⟩
def dE.free{cells:Array Value}(h:dE z w b cells T){j:Nat}(d:j<cells.size):w.frozen? ⟨b,j,none⟩=false:=by have⟨⟨e,f⟩,a,c⟩:=h;simp only at c;simp[World.frozen?,a];omega
def uZ{Γ:az}:∀ {c:List ab} {a:List Value},aY Γ c a->∀y∈a,y.oneCell'=true
 |[],a,h=>by simp only[aY]at h;subst h;simp
 |l::c,a,h=>by
  simp only[aY]at h
  obtain⟨y,f,rfl,d,e⟩:=h
  intro z b
  rcases aeM.1 b with rfl|b
  .exact Mn d
  .exact uZ e z b
def nY.aK(q:Γ.Le Γ')(m:Γ'.hs[h]?=Γ.hs[h]?)
  (r:∀inf v b,o.there=true->Γ.hs[h]?=some (inf,v)->inf.base=some b->Γ.X b->(∀z, ¬Γ.F b z)->Γ'.w.heap[b]?=Γ.w.heap[b]?/\(∀z, ¬Γ'.F b z)/\Γ'.X b) (n:nY Γ h o):nY Γ' h o:=by
 cases o with
 |dead=>
  have⟨inf,a⟩:=n
  exact⟨inf,m.trans a⟩
 |it s pos=>
  have⟨inf,b,a,c,f,g,i⟩:=n
  have⟨d,k,l⟩:=r inf 0 b rfl a c f g
  exact⟨inf,b,m.trans a,c,l,k,d.trans i⟩
 |mp K=>
  have⟨inf,b,a,c,f,g,u,cl,i,x,y⟩:=n
  have⟨d,k,l⟩:=r inf 0 b rfl a c f g
  refine⟨inf,b,m.trans a,c,l,k,u,cl,d.trans i,x,fun j p e hp A=>?_⟩
  have⟨⟨B,C,D⟩,E⟩:=y j p e hp A
  exact⟨⟨B,C,kw q _ _ D⟩,lI q _ _ E⟩
 |live ver z rows=>
  have⟨inf,a,hm,c⟩:=n
  refine⟨inf,m.trans a,hm,?_⟩
  cases t:inf.base with
  |none=>simp only[t]at c|-;exact c
  |some b=>
   simp only[t]at c|-
   have⟨G,f,g,hc,H,cells,T,i,I,J⟩:=c
   have⟨d,k,l⟩:=r inf ver b rfl a t f g
   exact⟨G,l,k,hc,H,cells,T,i.of_eq d,I,rM q b inf.sz _ rows (fun j _ _=>ag8 d j) J⟩
def nY.own(d:nY Γ h o)(k:o.there=true){v:Nat}(e:Γ.hs[h]?=some (inf,v))(f:inf.base=some b):Γ.X b/\∀z, ¬Γ.F b z:=by
 cases o with
 |dead=>cases k
 |it s pos=>have⟨j,l,c,a,g,i,_⟩:=d;rw[e]at c;cases c;rw[f]at a;cases a;exact⟨g,i⟩
 |mp m=>have⟨j,l,c,a,g,i,_⟩:=d;rw[e]at c;cases c;rw[f]at a;cases a;exact⟨g,i⟩
 |live ver z rows=>have⟨j,c,hm,a⟩:=d;rw[e]at c;cases c;simp only[f]at a;exact⟨a.2.1,a.2.2.1⟩
def uW(Γ:az)(H:List Ob)(h b:Nat):Prop:=Γ.w.heap.size<=b\/∃o inf v,H[h]?=some o/\o.there=true/\Γ.hs[h]?=some (inf,v)/\inf.base=some b
def aZ.put{k:List Ob}(e:aZ Γ H)(A:Γ.Le Γ')(h:Nat)(D:k.length=Γ'.hs.length)(hn:∀n,n≠h->k[n]?=H[n]?/\Γ'.hs[n]?=Γ.hs[n]?)
  (E:∀o,k[h]?=some o->nY Γ' h o) (B:∀o inf v b,k[h]?=some o->o.there=true->Γ'.hs[h]?=some (inf,v)->inf.base=some b->uW Γ H h b)
  (I:∀b,b<Γ.w.heap.size-> ¬uW Γ H h b->Γ'.w.heap[b]?=Γ.w.heap[b]?) (J:∀b z,Γ'.F b z->Γ.F b z\/uW Γ H h b) (K:∀b,Γ.X b->Γ'.X b)
  (L:∀b z,Γ'.F b z->b<Γ'.w.heap.size) (M:∀b,Γ'.X b->b<Γ'.w.heap.size):aZ Γ' k:=by
 have u:∀n o inf v b,n≠h->H[n]?=some o->o.there=true->Γ.hs[n]?=some (inf,v)->inf.base=some b->b<Γ.w.heap.size/\ ¬uW Γ H h b:=by
  intro n o inf v b N c a i j
  have f:=(e.ob n o c).own a i j
  refine⟨e.X b f.1,fun hm=>?_⟩
  rcases hm with hm|⟨l,m,p,O,P,Q,R⟩
  .have:=e.X b f.1;omega
  .exact N (e.apart n h v p o l inf m b c O a P i Q j R)
 refine⟨D,fun n o r=>?_,fun n d v p o l inf m b c a i j f q x y=>?_,L,M,e.G.le A⟩
 .by_cases s:n=h
  .subst s;exact E o r
  .rw[(hn n s).1]at r
   refine(e.ob n o r).aK A (hn n s).2 (fun inf v b S c a T U=>?_)
   have⟨V,C⟩:=u n o inf v b s r S c a
   exact⟨I b V C,fun z W=>(J b z W).elim (U z) C,K b T⟩
 .by_cases t:n=h
  .by_cases g:d=h
   .omega
   .subst t
    rw[(hn d g).1]at a
    rw[(hn d g).2]at q
    exact absurd (B o inf v b c i f x) (u d l m p b g a j q y).2
  .rw[(hn n t).1]at c
   rw[(hn n t).2]at f
   by_cases g:d=h
   .subst g
    exact absurd (B l m p b a j q y) (u n o inf v b t c i f x).2
   .rw[(hn d g).1]at a
    rw[(hn d g).2]at q
    exact e.apart n d v p o l inf m b c a i j f q x y
def eP(a:obj H h ver=some (z,rows)):H[h]?=some (.live ver z rows):=by
 unfold obj at a;split at a
 .rename_i v d r b;split at a
  .rename_i c;subst c;cases a;exact b
  .cases a
 .cases a
def aZ.obj(a:aZ Γ H)(b:obj H h ver=some (z,rows)):nY Γ h (.live ver z rows):=a.ob h _ (eP b)
def az.alloc(Γ:az)(cells:Array Value)(T:TypeId)(inf:fm):az:=
 {w:=Γ.w.alloc (.cells cells T),F:=Γ.F,X:=fun b=>Γ.X b\/b=Γ.w.heap.size,hs:=Γ.hs++[(inf,0)]}
def MT(c:aZ Γ H)(cells:Array Value)(T:TypeId)(inf:fm):Γ.Le (Γ.alloc cells T inf)where
 F _ _ h:=h
 mem b z d:=lV Γ.w _ b (c.F b z d)
 hs h i v a:=⟨i,v,by
  have e:h<Γ.hs.length:=(abW.1 a).1
  simp only[az.alloc]
  rw[abE e];exact a,ad3 _,fun _=>rfl⟩
def sL(c:aZ Γ H)(cells:Array Value)(T:TypeId)(inf:fm):Γ.cL (Γ.alloc cells T inf)where
 le:=MT c cells T inf
 os:=rfl
 tape:=rfl
 output:=rfl
 size:=by simp[az.alloc]
 frame b a _:=lV Γ.w _ b a
 mF b z a:= .inl a
 lj b a:=by
  rcases a with a|a
  .exact .inl a
  .exact .inr (by omega)
def ot{a:Type}(l:List a)(x:a)(n:Nat)(h:n≠l.length):(l++[x])[n]?=l[n]?:=by
 rw[List.getElem?_append];split
 .rfl
 .rw[aiE (l:=l) (by omega),aiE (by simp;omega)]
def rF(c:aZ Γ H)(cells:Array Value)(T:TypeId)(cap a:Nat)(rows:List (List ab))(G:cap<=maxLen)(I:rows.length<=cap)(J:0<a)
  (K:cap*a<=cells.size) (L:∀r∈rows,r.length=a) (q:List Value) (u:aY Γ rows.flatten q) (M:∀(k:Nat) (y:Value),q[k]?=some y->cells[k]?=some y):
  aZ (Γ.alloc cells T ⟨some Γ.w.heap.size,0,cap,a⟩) (H++[.live 0 a rows]):=by
 have A:=MT c cells T ⟨some Γ.w.heap.size,0,cap,a⟩
 have B:(Γ.alloc cells T ⟨some Γ.w.heap.size,0,cap,a⟩).w.heap[Γ.w.heap.size]?=some (.cells cells T (0,0)):=heap_alloc_new Γ.w _
 have N:bE (Γ.alloc cells T ⟨some Γ.w.heap.size,0,cap,a⟩) Γ.w.heap.size a 0 rows:=by
  have O:=kw A _ _ u
  clear u
  have P:∀(f:List (List ab)) (e:Nat) (j:List Value),(∀r∈f,r.length=a)->aY (Γ.alloc cells T ⟨some Γ.w.heap.size,0,cap,a⟩) f.flatten j->(∀(k:Nat) (y:Value),j[k]?=some y->cells[e+k]?=some y)->
    bE (Γ.alloc cells T ⟨some Γ.w.heap.size,0,cap,a⟩) Γ.w.heap.size a e f:=by
   intro f
   induction f with
   |nil=>intro e j _ _ _;simp[bE]
   |cons r f Q=>
    intro e j s C hc
    simp only[bE]
    have R:=s r (by simp)
    have D:=sQ C r.length
    have E:=tx C r.length
    simp only[aiI,alA,amK]at D E
    refine⟨R,nS fun k l g=>?_,Q (e+a) _ (fun x h=>s x (by simp[h])) E fun k y g=>?_⟩
    .have ⟨y,m,S⟩:=kX D g
     refine⟨y,?_,S⟩
     rw[cell_of B]
     rw[ajK]at m
     split at m
     .exact hc k y m
     .cases m
    .rw[ai3]at g
     have:=hc _ y g
     rwa [show e+a+k=e+(r.length+k)by omega]
  exact P rows 0 q L O (fun k y g=>by simpa using M k y g)
 have s:=c.len
 refine c.put A H.length (by simp[az.alloc,c.len]) (fun n hn=>⟨ot _ _ _ hn,by simp only[az.alloc];exact ot _ _ _ (by omega)⟩) (fun o t=>?_) (fun o inf v b t _ p d=>?_) (fun b d _=>lV Γ.w _ b d)
  (fun b z i=> .inl i) (fun b h=> .inl h) (fun b z i=>?_) (fun b h=>?_)
 .simp at t
  subst t
  refine⟨⟨some Γ.w.heap.size,0,cap,a⟩,by simp[az.alloc,c.len],G,?_⟩
  refine⟨rfl,.inr rfl,fun z i=>?_,I,J,cells,T,.fresh B,by simpa using K,N⟩
  have:=c.F _ _ i
  omega
 .simp only[az.alloc]at p
  rw[c.len]at p
  simp at p
  rw[<-p.1]at d
  cases d
  exact .inl (ad3 _)
 .have:=c.F b z i
  simp[az.alloc];omega
 .rcases h with d|d
  .have:=c.X b d
   simp[az.alloc];omega
  .simp[az.alloc,d]
def az.lT(Γ:az):az:={Γ with hs:=Γ.hs++[(⟨none,0,0,0⟩,0)]}
def Lu(Γ:az):Γ.Le Γ.lT where
 F _ _ h:=h
 mem b _ _:=rfl
 hs h i v a:=⟨i,v,by
  have c:h<Γ.hs.length:=(abW.1 a).1
  simp only[az.lT]
  rw[abE c];exact a,ad3 _,fun _=>rfl⟩
def JJ(Γ:az):Γ.cL Γ.lT where
 le:=Lu Γ
 os:=rfl
 tape:=rfl
 output:=rfl
 size:=ad3 _
 frame b a _:=rfl
 mF b z a:= .inl a
 lj b a:= .inl a
def A3(a:aZ Γ H)(f:Nat):aZ Γ.lT (H++[.live 0 f []]):=by
 have i:=a.len
 refine a.put (Lu Γ) H.length (by simp[az.lT,a.len]) (fun n hn=>⟨ot _ _ _ hn,by simp only[az.lT];exact ot _ _ _ (by omega)⟩) (fun o d=>?_) (fun o inf v b d _ c e=>?_) (fun _ _ _=>rfl)
  (fun b z g=> .inl g) (fun b h=>h) a.F a.X
 .simp at d;subst d;exact⟨⟨none,0,0,0⟩,by simp[az.lT,a.len],akg _,rfl⟩
 .simp only[az.lT]at c;rw[a.len]at c;simp at c;rw[<-c.1]at e;cases e
def qb(d:aZ Γ H){u x:Nat}{l:List (List ab)}{a:fm}{c:Nat}(m:H[h]?=some (.live ver z rows))(y:Γ.hs[h]?=some (inf,ver))
  (E:Γ.Le Γ') (k:Γ'.hs=Γ.hs.set h (a,u)) (p:Γ'.F=Γ.F) (q:∀b,Γ'.X b↔ (Γ.X b\/b=c)) (A:Γ.w.heap.size<=Γ'.w.heap.size)
  (B:a.base=some c) (G:∀b,b<Γ.w.heap.size->b≠c->Γ'.w.heap[b]?=Γ.w.heap[b]?) (g:inf.base=some c\/c=Γ.w.heap.size) (I:c<Γ'.w.heap.size)
  (J:a.cap<=maxLen) (K:l.length<=a.cap) (L:0<a.sz) (M:a.sz=x) (cells:Array Value) (T:TypeId) (N:dE a.sz Γ'.w c cells T) (O:a.off+a.cap*a.sz<=cells.size)
  (P:bE Γ' c a.sz a.off l):aZ Γ' (H.set h (.live u x l)):=by
 have r:h<H.length:=(abW.1 m).1
 have S:=d.len
 have hm:uW Γ H h c:=by
  rcases g with e|e
  .exact .inr ⟨_,inf,ver,m,rfl,y,e⟩
  .exact .inl (by omega)
 have Q:∀z, ¬Γ.F c z:=by
  intro z f
  rcases g with g|g
  .exact ((d.ob h _ m).own rfl y g).2 z f
  .have:=d.F _ _ f
   omega
 refine d.put E h (by rw[k];simp[d.len]) (fun n hn=>⟨aat (fun e=>hn e.symm),by rw[k];exact aat (fun e=>hn e.symm)⟩) (fun o s=>?_) (fun o i v b s _ C D=>?_)
  (fun b j R=>G b j (fun e=>R (e▸hm))) (fun b z f=> .inl (by rw[p]at f;exact f)) (fun b t=>(q b).2 (.inl t)) (fun b z f=>?_) (fun b t=>?_)
 .rw[ahr r]at s
  cases s
  refine⟨a,by rw[k,ahr (by rw[<-d.len];exact r)],J,?_⟩
  rw[B]
  exact⟨M,(q c).2 (.inr rfl),by rw[p];exact Q,K,L,cells,T,N,O,P⟩
 .rw[k,ahr (by rw[<-d.len];exact r)]at C
  cases C
  rw[B]at D
  cases D
  exact hm
 .rw[p]at f
  exact aiS (d.F b z f) A
 .rcases (q b).1 t with j|j
  .exact aiS (d.X b j) A
  .rw[j];exact I
end Go.Nx
namespace Go.Nx
variable{Γ:az}{r cs:List ab}{H:List Ob}{y:Value}{e:Env}{a:Act}{P:Program}{t:TypeId}{n:Nat}{p:ab}
def Good(Γ:az)(e:Env)(a:Act)(p:Operand):Prop:= ∀b,aX e p=some b->aL Γ b (a.eval p)
def uf(Γ:az)(r:Result Next)(x:aw)(b:List Ob):Prop:=
 ∃y a,(r= .ok (.value y) a.w\/(r= .ok .skip a.w/\y=undef))/\Γ.cL a/\aZ a b/\aL a x y
def uf.val{r:Result Next}{x:aw}(a:aZ Γ H)(b:r= .ok (.value y) Γ.w)(hc:aL Γ x y):uf Γ r x H:=
 ⟨y,Γ,.inl b,.refl Γ,a,hc⟩
def oJ{v:Value}{a:List ab}(h:leaves v=some a):aY Γ a v.cells.toList:=by
 unfold leaves at h;split at h
 .rename_i b;cases h;refine tW (by simp) fun k l y c d=>?_;rw[adf,d]at c;cases c;simp only[aB,true_and];rw[ahI]at b;exact b y (aiJ d)
 .cases h
def TP{v:Value}(d:∀b,v≠ .tuple b):Good Γ e a (.const v):=by
 intro f h;unfold aX at h;cases v<;>simp only[ab1,ab4,reduceCtorEq]at h
 case agg cs=>obtain⟨g,c,rfl⟩:=h;exact⟨cs,rfl,oJ c⟩
 all_goals subst h;simp[aL,aB,Act.eval,aiw]
def U1{v:Value}:Good Γ e a (.const v):=by
 cases v with
 |tuple b=>intro c h;simp[aX]at h
 |_=>exact TP (by simp)
def acW{f:FuncId}:Good Γ e a (.func f):=by intro b h;simp[aX]at h;subst h;simp[aL,aB,Act.eval,aY]
def acz{g:Nat}:Good Γ e a (.global g):=by intro b h;simp[aX]at h
def pt{g:Bool}(h:tk P t=some (g,n))(w:World):(isAgg t).run P w= .ok g w/\(sizeOf t).run P w= .ok n w:=by
 unfold tk at h;split at h
 .rename_i d i a b;simp only[ab1,aca]at h;have⟨c,e⟩:=h;subst c e;constructor
  .cases d<;>simp[isAgg,run_underlying a]
  .simp[sizeOf,typeInfo,b]
 .cases h
def N4(l:aZ Γ H){h c i k:Nat}(hc:aB Γ (.ptr h c i k) y){z:Nat}{rows:List (List ab)}(m:obj H h c=some (z,rows))(n:rows[i]?=some r):
  ∃a b cells T,Γ.hs[h]?=some (a,c)/\a.base=some b/\y= .pointer (some ⟨b,a.off+i*a.sz+k,none⟩)/\r.length=a.sz/\cR Γ b (a.off+i*a.sz) r/\
   dE a.sz Γ.w b cells T/\a.off+a.cap*a.sz<=cells.size/\rows.length<=a.cap/\bE Γ b a.sz a.off rows/\a.cap<=maxLen/\Γ.X b/\0<a.sz/\a.sz=z:=by
 have⟨a,d,hm,e⟩:=l.obj m
 simp only[aB]at hc
 obtain⟨A,B,p,f,_,rfl,o⟩:=hc
 rw[d]at f
 cases f
 obtain⟨b,g,rfl⟩:=o rfl
 simp only[g]at e
 have⟨q,s,C,t,u,cells,T,v,x,j⟩:=e
 have:=jL j n
 exact⟨a,b,cells,T,d,g,rfl,this.1,this.2,v,x,t,j,hm,s,u,q⟩
def readable(d:aZ Γ H)(hc:aB Γ p y){k:Nat}
  (hp:(∃h a i z rows,p= .ptr h a i k/\obj H h a=some (z,rows)/\rows[i]?=some r)\/(∃i rows,p= .aJ rows i k/\rows[i]?=some r)):
  ∃b o,y= .pointer (some ⟨b,o+k,none⟩)/\cR Γ b o r:=by
 rcases hp with⟨h,a,i,z,rows,rfl,e,c⟩|⟨i,rows,rfl,c⟩
 .have ⟨l,b,_,_,_,_,f,_,g,_⟩:=N4 d hc e c
  exact⟨b,_,f,g⟩
 .simp only[aB]at hc
  obtain⟨b,m,n,rfl,_,j⟩:=hc
  exact⟨b,_,rfl,(jL j c).2⟩
def PW(h:qR H n p=some cs):
  ∃r k,((∃h a i z rows,p= .ptr h a i k/\obj H h a=some (z,rows)/\rows[i]?=some r)\/(∃i rows,p= .aJ rows i k/\rows[i]?=some r))/\k+n<=r.length/\cs=xU r k n:=by
 unfold qR at h
 split at h
 .rename_i d a i k
  split at h
  .rename_i z rows e
   split at h
   .rename_i r b
    split at h
    .rename_i c
     cases h
     exact⟨r,k,.inl ⟨d,a,i,z,rows,rfl,e,b⟩,c,rfl⟩
    .cases h
   .cases h
  .cases h
 .rename_i rows i k
  split at h
  .rename_i r b
   split at h
   .rename_i c
    cases h
    exact⟨r,k,.inr ⟨i,rows,rfl,b⟩,c,rfl⟩
   .cases h
  .cases h
 .cases h
def LY{l:ab}(h:qP H p=some l):
  ∃r k,((∃h a i z rows,p= .ptr h a i k/\obj H h a=some (z,rows)/\rows[i]?=some r)\/(∃i rows,p= .aJ rows i k/\rows[i]?=some r))/\r[k]?=some l:=by
 unfold qP at h
 split at h
 .rename_i c a i k
  split at h
  .rename_i z rows d
   split at h
   .rename_i r b
    exact⟨r,k,.inl ⟨c,a,i,z,rows,rfl,d,b⟩,h⟩
   .cases h
  .cases h
 .rename_i rows i k
  split at h
  .rename_i r b
   exact⟨r,k,.inr ⟨i,rows,rfl,b⟩,h⟩
  .cases h
 .cases h
def yg(i:aZ Γ H)(hc:aB Γ p y):
  (∀n cs,tk P t=some (true,n)->qR H n p=some cs->∃a,(akT t y).run P Γ.w= .ok (.agg a) Γ.w/\aY Γ cs a.toList)/\
  (∀n l,tk P t=some (false,n)->qP H p=some l->∃z,(akT t y).run P Γ.w= .ok z Γ.w/\aB Γ l z):=by
 constructor
 .intro n cs d e
  obtain⟨r,k,hp,A,rfl⟩:=PW e
  obtain⟨b,o,rfl,f⟩:=readable i hc hp
  have⟨g,q⟩:=pt d Γ.w
  have⟨a,c,h⟩:=DV (Ud (aeE f k) n)
  have s:a.length=n:=by rw[fI c];simp;omega
  refine⟨a.toArray,?_,by simpa[xU]using c⟩
  have m:=run_loadCells_list (P:=P) Γ.w ⟨b,o+k,none⟩ a (fun j v u=>by rw[jG];exact h j v u)
  rw[s]at m
  simp[akT,ali,loadVar,g,q,m]
 .intro n l d e
  have⟨r,k,hp,x⟩:=LY e
  obtain⟨b,o,rfl,f⟩:=readable i hc hp
  have⟨g,_⟩:=pt d Γ.w
  have⟨z,c,h⟩:=uT f x
  refine⟨z,?_,h⟩
  simp[akT,ali,loadVar,g,run_load,c]
def wM{v:aw}(hc:aL Γ v y)(h:v.cells=some cs):aY Γ cs y.cells.toList:=by
 cases v with
 |c l=>
  simp only[aw.cells,ab1]at h;subst h;simp only[aL]at hc;have a:=Mn hc;have:y.cells= #[y]:=by cases y<;>first|rfl|(simp[aiw]at a)
  rw[this];simp[aY,hc]
 |agg d=>simp only[aw.cells,ab1]at h;subst h;simp only[aL]at hc;obtain⟨e,rfl,b⟩:=hc;exact b
 |aM f=>simp[aw.cells]at h
end Go.Nx
namespace Go.Nx
variable{cur vs:List Value}{o z b:Nat}{w:World}{T t:TypeId}{P:Program}{y:Value}{Γ:az}{H:List Ob}{rows ys:List (List ab)}
def yF{a:Type}:∀(cs r:List a) (k:Nat),(kK r k cs).length=r.length
 |[],r,k=>rfl
 |c::cs,r,k=>by simp[kK,yF cs]
def vC{b:Type}:∀(cs r:List b) (k j:Nat),k+cs.length<=r.length->(kK r k cs)[j]?=if k<=j/\j<k+cs.length then cs[j-k]? else r[j]?
 |[],r,k,j,_=>by simp[kK];omega
 |c::cs,r,k,j,h=>by
  simp only[aip]at h
  rw[kK,vC cs (r.set k c) (k+1) j (by simp;omega)]
  by_cases a:k+1<=j/\j<k+1+cs.length
  .rw[if_pos a,if_pos (by simp;omega)]
   rw[show j-k=(j-(k+1))+1 by omega]
   simp
  .rw[if_neg a]
   by_cases d:j=k
   .subst d
    rw[if_pos (by simp)]
    rw[ahr (by omega)]
    simp
   .rw[aat (by omega),if_neg (by simp;omega)]
def spliced(cur:List Value)(o:Nat)(vs:List Value):List Value:=cur.take o++vs++cur.drop (o+vs.length)
def pV(h:o+vs.length<=cur.length):(spliced cur o vs).length=cur.length:=by simp[spliced];omega
def wS(h:o+vs.length<=cur.length)(j:Nat):(spliced cur o vs)[j]?=if o<=j/\j<o+vs.length then vs[j-o]? else cur[j]?:=by
 unfold spliced;by_cases a:j<o
 .rw[abE (by simp;omega),abE (by simp;omega),ajK,if_pos a,if_neg (by omega)]
 .by_cases b:j<o+vs.length
  .rw[abE (by simp;omega),aea (by simp;omega),if_pos ⟨by omega,b⟩];simp only[ai1];rw[aj1 (by omega)]
  .rw[aea (by simp;omega),if_neg (by omega),ai3];congr 1
   simp;omega
def dE.set{cells cs:Array Value}(h:dE z w b cells T)(e:cs.size=cells.size):dE z (w.setRow b cs) b cs T:=by have⟨a,d,c⟩:=h;exact⟨a,setRow_heap w b cells cs T a d,c.imp id fun c=>by omega⟩
def dE.self{cells:Array Value}(h:dE z w b cells T):w.setRow b cells=w:=by have⟨a,c,_⟩:=h;exact setRow_self w b cells T a c
def vS{z:Nat}{P:Program}{b:Nat}{T:TypeId}(o:Nat):∀(vs:List Value) (i:Nat) (cells:Array Value) (w:World),dE z w b cells T->o+i+vs.length<=cells.size->(∀v∈vs,v.oneCell'=true)->
  (storeCells ⟨b,o,none⟩ vs i).run P w= .ok () (w.setRow b (spliced cells.toList (o+i) vs).toArray)
 |[],i,cells,w,h,_,_=>by simp[storeCells,spliced,h.self]
 |v::vs,i,cells,w,h,f,c=>by
  simp only[aip]at f
  have d:o+i<cells.size:=by omega
  have g:(store ((⟨b,o,none⟩:Addr).add i) v).run P w= .ok () (w.setRow b (cells.setIfInBounds (o+i) v)):=by
   have e:(⟨b,o,none⟩:Addr).add i=⟨b,o+i,none⟩:=by unfold Addr.add;split<;>simp_all
   rw[e,run_store P w _ v _ (c v (by simp)),h.cell]
   have⟨j,a,_⟩:=id h
   simp[d,h.free d,setCell_eq_setRow w b (o+i) cells T j v a]
  have a:=vS (P:=P) o vs (i+1) (cells.setIfInBounds (o+i) v) _ (h.set (by simp)) (by simp;omega) (fun x k=>c x (by simp[k]))
  simp only[storeCells,aiT,g,aiG,a,setRow_setRow]
  congr 3
  simp only[spliced,amE]
  have e:=list_seg_step cells.toList (o+i) v vs (by simp;omega)
  simpa[ajg]using e
def WN{cells:Array Value}(a:dE z w b cells T){n:Nat}
  (c:(sizeOf t).run P w= .ok n w) (hn:y.cells.size=n) (d:∀v∈y.cells.toList,v.oneCell'=true) (e:o+n<=cells.size):
  (alz t (.pointer (some ⟨b,o,none⟩)) y).run P w= .ok () (w.setRow b (spliced cells.toList o y.cells.toList).toArray):=by
 have h:=vS (P:=P) o y.cells.toList 0 cells w a (by simp;omega) d
 simp[alz,ali,storeVar,c,hn,h]
def az.bH(Γ:az)(w:World)(h:Nat)(a:fm)(d b:Nat):az:={w:=w,F:=Γ.F,X:=fun c=>Γ.X c\/c=b,hs:=Γ.hs.set h (a,d)}
def pQ{h:Nat}{d g:fm}{a f:Nat}(j:Γ.hs[h]?=some (g,f))(c:f<a\/(f=a/\d=g))(hm:∀b z,Γ.F b z->w.heap[b]?=Γ.w.heap[b]?):
  Γ.Le (Γ.bH w h d a b)where
 F _ _ h:=h
 mem:=hm
 hs n i v hn:=by
  by_cases k:n=h
  .subst k
   rw[j]at hn
   cases hn
   refine⟨d,a,?_,?_,?_⟩
   .simp only[az.bH]
    rw[ahr (abW.1 j).1]
   .omega
   .rcases c with c|⟨_,c⟩
    .intro e;omega
    .intro _;exact c
  .refine ⟨i,v,?_,ad3 _,fun _=>rfl⟩
   simp only[az.bH]
   rw[aat (fun e=>k e.symm)]
   exact hn
def aeJ(x:aZ Γ H){h l i k n Q:Nat}{z:Value}{g:Bool}(hc:aB Γ (.ptr h l i k) y)(V:tk P t=some (g,n)){r cs:List ab}(C:obj H h l=some (Q,rows))(R:rows[i]?=some r)(hn:cs.length=n)(am:k+n<=r.length)(D:aY Γ cs z.cells.toList):
  ∃Γ',(alz t y z).run P Γ.w= .ok () Γ'.w/\Γ.cL Γ'/\aZ Γ' (H.set h (.live l Q (rows.set i (kK r k cs)))):=by
 obtain⟨a,b,cells,T,E,G,rfl,W,Y,A,Z,aa,ad,hm,I,ae,af⟩:=N4 x hc C R
 have p:z.cells.toList.length=n:=by rw[fI D,hn]
 have ag:i<rows.length:=(abW.1 R).1
 have an:(i+1)*a.sz<=a.cap*a.sz:=aiN _ (by omega)
 have ao:(i+1)*a.sz=i*a.sz+a.sz:=by rw[air,Nat.one_mul]
 have J:a.off+i*a.sz+k+n<=cells.size:=by omega
 have ah:=WN (P:=P) (t:=t) (y:=z) A (pt V Γ.w).2 (by simpa using p) (uZ D) J
 have ai:∀z, ¬Γ.F b z:=by
  have⟨i2,d,_,f⟩:=x.obj C
  rw[E]at d
  cases d
  simp only[G]at f
  exact f.2.2.1
 have aj:=x.X b I
 have S:dE a.sz (Γ.w.setRow b (spliced cells.toList (a.off+i*a.sz+k) z.cells.toList).toArray) b (spliced cells.toList (a.off+i*a.sz+k) z.cells.toList).toArray T:=A.set (by simp only[ajt];rw[pV (by simpa[p]using J)];simp)
 have K:∀c,c≠b->(Γ.w.setRow b (spliced cells.toList (a.off+i*a.sz+k) z.cells.toList).toArray).heap[c]?=Γ.w.heap[c]?:=fun c L=>setRow_other Γ.w b c _ L
 have q:Γ.Le (Γ.bH (Γ.w.setRow b (spliced cells.toList (a.off+i*a.sz+k) z.cells.toList).toArray) h a l b):=
  pQ E (.inr ⟨rfl,rfl⟩) (fun c z M=>K c (fun e=>ai z (e▸M)))
 refine⟨_,ah,⟨q,rfl,rfl,rfl,by simp[az.bH],fun c _ m=>K c (fun e=>m (e▸I)),fun c z M=> .inl M,fun c m=>?_⟩,?_⟩
 .rcases m with m|m
  .exact .inl m
  .exact .inl (m▸I)
 .have ak:(spliced cells.toList (a.off+i*a.sz+k) z.cells.toList).length=cells.size:=by
   rw[pV (by simp[p]at*;omega)];simp
  refine qb (Γ':=Γ.bH (Γ.w.setRow b (spliced cells.toList (a.off+i*a.sz+k) z.cells.toList).toArray) h a l b) x (eP C) E q rfl rfl (fun c=>alc) (by simp[az.bH]) G (fun c _ L=>K c L) (.inl G) (by simpa[az.bH]using aj)
   hm (by simpa using aa) ae af _ T S (by simp[ak];exact Z) ?_
  refine mY fun s r' B=>?_
  have U:∀j,(Γ.bH (Γ.w.setRow b (spliced cells.toList (a.off+i*a.sz+k) z.cells.toList).toArray) h a l b).w.cell? ⟨b,j,none⟩=if a.off+i*a.sz+k<=j/\j<a.off+i*a.sz+k+n then z.cells.toList[j-(a.off+i*a.sz+k)]? else cells[j]?:=by
   intro j
   rw[show(Γ.bH (Γ.w.setRow b (spliced cells.toList (a.off+i*a.sz+k) z.cells.toList).toArray) h a l b).w=Γ.w.setRow b (spliced cells.toList (a.off+i*a.sz+k) z.cells.toList).toArray from rfl,dE.cell S]
   have:=wS (cur:=cells.toList) (o:=a.off+i*a.sz+k) (vs:=z.cells.toList) (by rw[p];simpa using J) j
   rw[p]at this
   simpa using this
  by_cases N:s=i
  .subst N
   rw[ahr ag]at B
   cases B
   refine⟨by rw[yF,W],nS fun O ap u=>?_⟩
   rw[U]
   rw[vC _ _ _ _ (by omega)]at u
   split at u
   .rename_i aq
    have⟨v,d,f⟩:=kX D u
    refine⟨v,?_,lI q _ _ f⟩
    rw[if_pos (by omega),show a.off+s*a.sz+O-(a.off+s*a.sz+k)=O-k by omega]
    exact d
   .rename_i ar
    have⟨v,d,f⟩:=uT Y u
    have au:O<r.length:=(abW.1 u).1
    refine⟨v,?_,lI q _ _ f⟩
    rw[if_neg (by omega), <-dE.cell A]
    exact d
  .rw[aat (fun e=>N e.symm)]at B
   have⟨d,f⟩:=jL ad B
   refine⟨d,tq q b _ r' (fun j a1 a2=>?_) f⟩
   rw[U,if_neg ?_, <-dE.cell A]
   rw[d]at a2
   intro av
   rcases Nat.lt_or_gt_of_ne N with al|al
   .have:(s+1)*a.sz<=i*a.sz:=aiN _ (by omega)
    rw[air,Nat.one_mul]at this
    omega
   .have:(i+1)*a.sz<=s*a.sz:=aiN _ (by omega)
    omega
def az.drew(Γ:az):az:={Γ with w:=Γ.w.drew}
def pg(Γ:az):Γ.Le Γ.drew:=⟨fun _ _ h=>h,fun _ _ _=>rfl,fun _ a b h=>⟨a,b,h,ad3 _,fun _=>rfl⟩⟩
def tc(Γ:az):Γ.cL Γ.drew:=⟨pg Γ,rfl,rfl,rfl,ad3 _,fun _ _ _=>rfl,fun _ _ h=> .inl h,fun _ h=> .inl h⟩
def sR(a:aZ Γ H):aZ Γ.drew H:=
 ⟨a.len,fun h o b=>(a.ob h o b).aK (pg Γ) rfl (fun _ _ _ _ _ _ c d=>⟨rfl,d,c⟩),a.apart,a.F,a.X,a.G.le (pg Γ)⟩
def Am(p:aZ Γ H){x:ab}(hc:aB Γ x y)(d:view H x=some ys):
  (y= .slice none 0 0/\ys=[])\/∃a cap,y= .slice (some a) ys.length cap/\ys.length<=cap/\(ys=[]\/∃b i e,a=⟨b,i,none⟩/\bE Γ b e i ys):=by
 unfold view at d
 split at d
 .cases d
  simp only[aB]at hc
  rcases hc with hc|⟨a,cap,e,rfl,g,c⟩
  .exact .inl hc
  .refine .inr ⟨a,cap,rfl,g,?_⟩
   rcases c with c|⟨c,_,f⟩
   .exact .inl c
   .have ⟨b,o,s⟩:=a
    simp only at c f
    subst c
    exact .inr ⟨b,o,e,rfl,f⟩
 .cases d
  simp only[aB]at hc
  obtain⟨a,cap,e,rfl,g,c⟩:=hc
  refine .inr ⟨a,cap,rfl,g,?_⟩
  rcases c with c|⟨c,_,f⟩
  .exact .inl c
  .have ⟨b,o,s⟩:=a
   simp only at c f
   subst c
   exact .inr ⟨b,o,e,rfl,f⟩
 .cases d
  simp only[aB]at hc
  exact .inl ⟨hc.1,rfl⟩
 .rename_i h B j len
  split at d
  .rename_i z rows q
   split at d
   .rename_i C
    cases d
    simp only[aB]at hc
    obtain⟨r,D,a,cap,t,_,rfl,c⟩:=hc
    have⟨E,k,_,l⟩:=p.obj q
    rw[t]at k
    cases k
    have m:((rows.drop j).take len).length=len:=by simp;omega
    rcases c rfl with⟨n,rfl,rfl,rfl,rfl⟩|⟨b,u,n,rfl,rfl,F,v⟩
    .simp
    .refine .inr ⟨u,_,by rw[m],by rw[m];omega,?_⟩
     by_cases w:len=0
     .subst w;simp
     .right
      simp only[n]at l
      have⟨_,_,_,_,_,_,_,_,_,A⟩:=l
      refine⟨b,_,r.sz,v (by omega),?_⟩
      exact kJ (ml A j) len
   .cases d
  .cases d
 .cases d
def tg{a:Nat}(h:∀r∈rows,r.length=a):rows.flatten.length=rows.length*a:=by
 induction rows with
 |nil=>simp
 |cons r d b=>simp only[aiI,agc,aip];rw[b (fun x c=>h x (by simp[c])),h r (by simp),air];omega
def Oh{a c:Nat}(h:bE Γ b a c rows):∀r∈rows,r.length=a:=by intro r d;have⟨i,e⟩:=List.getElem?_of_mem d;exact(jL h e).1
def LL{e:Nat}(i:∀r∈ys,r.length=e)
  (h:(y= .slice none 0 0/\ys=[])\/∃a cap,y= .slice (some a) ys.length cap/\ys.length<=cap/\(ys=[]\/∃b d f,a=⟨b,d,none⟩/\bE Γ b f d ys)):
  ∃c,aY Γ ys.flatten c/\c.length=ys.length*e/\(y= .slice none 0 0/\ys=[]\/∃a cap,y= .slice (some a) ys.length cap/\∀(j:Nat) (v:Value),c[j]?=some v->Γ.w.cell? (a.add j)=some v):=by
 rcases h with⟨rfl,rfl⟩|⟨a,cap,rfl,o,k⟩
 .exact ⟨[],by simp[aY],by simp,.inl ⟨rfl,rfl⟩⟩
 .rcases k with rfl|⟨b,d,f,rfl,l⟩
  .exact ⟨[],by simp[aY],by simp,.inr ⟨a,cap,rfl,by simp⟩⟩
  .have ⟨c,g,p,m⟩:=tH l
   refine⟨c,g,?_,.inr ⟨_,cap,rfl,fun j v n=>by rw[jG];exact m j v n⟩⟩
   rw[fI g,tg i]
end Go.Nx
namespace Go.Nx
def jz{P:Program}{t e:TypeId}{c bytes:Nat}{z:List ab}(h:se P t=some (e,c,bytes,z)):
  P.underlying t=some (.slice e)/\∃i b,P.info? e=some i/\i.size=c/\i.bytes=bytes/\i.zero=some b/\b.cells.size=c/\leaves b=some z:=by
 unfold se at h
 split at h
 .rename_i k f
  split at h
  .rename_i i l d a
   simp only[ab1,aca]at h
   obtain⟨rfl,rfl,rfl,rfl⟩:=h
   unfold zc at a
   rw[d]at a
   simp only at a
   split at a
   .rename_i b g
    split at a
    .rename_i j
     exact⟨f,i,b,d,rfl,rfl,g,j,a⟩
    .cases a
   .cases a
  .cases h
 .cases h
def Src(w:World)(m:Nat)(b:List Value)(x:Value):Prop:=
 (x= .slice none 0 0/\m=0/\b=[])\/∃a c,x= .slice (some a) m c/\∀(j:Nat) (v:Value),b[j]?=some v->w.cell? (a.add j)=some v
def Bq{P:Program}{w:World}{m e:Nat}{d:List Value}{x:Value}(f:Src w m d x)(g:d.length=m*e):
  (akf x).run P w= .ok m w/\∀b,b.heap=w.heap->(ai4 e m x).run P b= .ok d.toArray b:=by
 rcases f with⟨rfl,rfl,rfl⟩|⟨a,c,rfl,hc⟩
 .exact ⟨by simp[akf],fun b _=>by simp[ai4]⟩
 .refine ⟨by simp[akf],fun b h=>run_firstCells_some (P:=P) b e m a m c d g fun j v i=>?_⟩
  rw[<-hc j v i]
  simp[World.cell?,h]
def run_append_fits{zz:Nat}{P:Program}{w:World}{t ty e:TypeId}{i:TypeInfo}(h:P.underlying t=some (.slice e))(j:P.info? e=some i){m:Nat}{d:List Value}{x:Value}(y:Src w m d x)
  (q:d.length=m*i.size) (z:∀v∈d,v.oneCell'=true) (f:Option Addr) (n c:Nat) (g:n+m<=c)
  (A:m=0\/∃b o cells T,f=some ⟨b,o,none⟩/\dE zz w b cells T/\o+n*i.size+d.length<=cells.size):
  ∃k,(aiL #[t,t] ty #[.slice f n c,x]).run P w= .ok (.slice f (n+m) c) k/\
   ((m=0/\k=w)\/∃b o cells T,f=some ⟨b,o,none⟩/\dE zz w b cells T/\o+n*i.size+d.length<=cells.size/\k=w.setRow b (spliced cells.toList (o+n*i.size) d).toArray):=by
 have⟨l,B⟩:=Bq (P:=P) y q
 have p:=B w rfl
 rcases A with rfl|⟨b,o,cells,T,rfl,r,s⟩
 .have hn:d=[]:=ae4 (by simpa using q)
  subst hn
  refine⟨w,?_,.inl ⟨rfl,rfl⟩⟩
  cases f with
  |none=>
   simp only[aiB]at g
   simp[aiL,run_underlying h,sizeOf,typeInfo,j,l,g,p]
  |some a=>
   simp only[aiB]at g
   simp[aiL,run_underlying h,sizeOf,typeInfo,j,l,g,p,storeCells]
 .refine ⟨_,?_,.inr ⟨b,o,cells,T,rfl,r,s,rfl⟩⟩
  have u:=vS (P:=P) (o+n*i.size) d 0 cells w r (by simpa using s) z
  simp only[aiB]at u
  simp[aiL,run_underlying h,sizeOf,typeInfo,j,l,g,p,jG,u]
def Nv{P:Program}{w:World}{t ty e:TypeId}{i:TypeInfo}{z:Value}(h:P.underlying t=some (.slice e))(k:P.info? e=some i)(l:i.zero=some z){m:Nat}{f:List Value}{x:Value}(o:Src w m f x)
  (p:f.length=m*i.size) (d:Option Addr) (n c:Nat) (b:List Value) (g:b.length=n*i.size) (q:b=[]\/∃a,d=some a/\∀(j:Nat) (v:Value),b[j]?=some v->w.cell? (a.add j)=some v)
  (r:c<n+m) (s:n+m<=maxLen) (u:(n+m)*i.bytes<=140737488355328):
  (aiL #[t,t] ty #[.slice d n c,x]).run P w= .ok (.slice (some ⟨w.heap.size,0,none⟩) (n+m) (grownCap w (n+m) c e))
   (w.drew.alloc (.cells ((b++f).toArray++aiy z.cells (grownCap w (n+m) c e-(n+m))) e)):=by
 have⟨y,A⟩:=Bq (P:=P) o p
 have B:=A w.drew rfl
 have hn:¬(n+m<=c):=by omega
 have C:¬(9223372036854775807< ((n:Int)+(m:Int))):=by unfold maxLen at s;omega
 have G:=growslice_fits r u
 have D:¬(281474976710656<alN (n+m) c*i.bytes):=by omega
 have E:(ai4 i.size n (.slice d n c)).run P w.drew= .ok b.toArray w.drew:=by
  rcases q with rfl|⟨a,rfl,hc⟩
  .have F:n*i.size=0:=by simpa using g.symm
   cases d with
   |none=>simp[ai4]
   |some a=>simp[ai4,loadCells,F,loadCellsFrom]
  .exact run_firstCells_some (P:=P) w.drew i.size n a n c b g (by simpa using hc)
 simp[aiL,run_underlying h,sizeOf,typeInfo,zeroValue,k,l,y,hn,C,D,al0,B,E,newRow,grownCap]
 congr 2
 apply akF
 simp[aiu]
def Src.of{d:az}{b:List (List ab)}{c:List Value}{x:Value}{e:Nat}(f:c.length=b.length*e)
  (h:x= .slice none 0 0/\b=[]\/∃a cap,x= .slice (some a) b.length cap/\∀(j:Nat) (v:Value),c[j]?=some v->d.w.cell? (a.add j)=some v):Src d.w b.length c x:=by
 rcases h with⟨rfl,rfl⟩|⟨a,cap,rfl,h⟩
 .exact .inl ⟨rfl,rfl,ae4 (by simpa using f)⟩
 .exact .inr ⟨a,cap,rfl,h⟩
def Ab{a zs:List Value}{b:Array Value}(h:b=a.toArray++zs.toArray):∀(k:Nat) (y:Value),a[k]?=some y->b[k]?=some y:=by intro k y c;subst h;have d:k<a.length:=(abW.1 c).1;simp[abE d,c]
def az.bump(Γ:az)(h:Nat)(a:fm)(b:Nat):az:={Γ with hs:=Γ.hs.set h (a,b)}
def zy{Γ:az}{h:Nat}{inf d:fm}{ver a:Nat}(b:Γ.hs[h]?=some (d,a))(f:a<ver):Γ.Le (Γ.bump h inf ver)where
 F _ _ h:=h
 mem _ _ _:=rfl
 hs n i v hn:=by
  by_cases c:n=h
  .subst c
   rw[b]at hn
   cases hn
   refine⟨inf,ver,?_,by omega,fun e=>by omega⟩
   simp only[az.bump]
   rw[ahr (abW.1 b).1]
  .refine ⟨i,v,?_,ad3 _,fun _=>rfl⟩
   simp only[az.bump]
   rw[aat (fun e=>c e.symm)]
   exact hn
def Q2{Γ:az}{H:List Ob}(a:aZ Γ H){h ver z p:Nat}{rows:List (List ab)}{inf:fm}(g:H[h]?=some (.live ver z rows))(c:Γ.hs[h]?=some (inf,ver))(j:inf.base=none):
  aZ (Γ.bump h inf (ver+1)) (H.set h (.live (ver+1) p [])):=by
 have q:=zy (Γ:=Γ) (inf:=inf) (ver:=ver+1) c (by omega)
 have r:h<H.length:=(abW.1 g).1
 have k:h<Γ.hs.length:=(abW.1 c).1
 refine a.put q h (by simp[az.bump,a.len]) (fun n hn=>⟨aat (fun e=>hn e.symm),by simp only[az.bump];exact aat (fun e=>hn e.symm)⟩) (fun o d=>?_) (fun o i v b d _ f l=>?_)
  (fun _ _ _=>rfl) (fun _ _ s=> .inl s) (fun _ t=>t) a.F a.X
 .rw[ahr r]at d
  cases d
  have⟨w,m,u,_⟩:=a.ob h _ g
  rw[c]at m
  cases m
  exact⟨inf,by simp[az.bump,k],u,by simp[j]⟩
 .simp only[az.bump]at f
  rw[ahr k]at f
  cases f
  rw[j]at l
  cases l
def NO{a:az}{H:List Ob}(m:aZ a H){h d z:Nat}{rows new:List (List ab)}{K:fm}(L:H[h]?=some (.live d z rows))(q:a.hs[h]?=some (K,d))
  (cells:Array Value) (T:TypeId) (cap c:Nat) (s:cap<=maxLen) (t:new.length<=cap) (u:0<c) (v:cap*c<=cells.size) (A:∀r∈new,r.length=c)
  (n:List Value) (B:aY a new.flatten n) (C:∀(k:Nat) (y:Value),n[k]?=some y->cells[k]?=some y):
  a.cL (a.bH (a.w.alloc (.cells cells T)) h ⟨some a.w.heap.size,0,cap,c⟩ (d+1) a.w.heap.size)/\
  aZ (a.bH (a.w.alloc (.cells cells T)) h ⟨some a.w.heap.size,0,cap,c⟩ (d+1) a.w.heap.size) (H.set h (.live (d+1) c new)):=by
 have D:(a.w.alloc (.cells cells T)).heap[a.w.heap.size]?=some (.cells cells T (0,0)):=heap_alloc_new a.w _
 have p:a.Le (a.bH (a.w.alloc (.cells cells T)) h ⟨some a.w.heap.size,0,cap,c⟩ (d+1) a.w.heap.size):=pQ q (.inl (by omega)) (fun b z e=>lV a.w _ b (m.F b z e))
 have M:bE (a.bH (a.w.alloc (.cells cells T)) h ⟨some a.w.heap.size,0,cap,c⟩ (d+1) a.w.heap.size) a.w.heap.size c 0 new:=by
  have N:=rF m cells T cap c new s t u v A n B C
  have o:=N.ob H.length (.live 0 c new) (by simp)
  have⟨S,f,_,E⟩:=o
  simp only[az.alloc,m.len,aea (ad3 _),ajB,ale,ab1,aca,and_true]at f
  subst f
  have O:∀(i:List (List ab)) (g:Nat) (zs:List Value),(∀r∈i,r.length=c)->aY (a.bH (a.w.alloc (.cells cells T)) h ⟨some a.w.heap.size,0,cap,c⟩ (d+1) a.w.heap.size) i.flatten zs->(∀(k:Nat) (y:Value),zs[k]?=some y->cells[g+k]?=some y)->
    bE (a.bH (a.w.alloc (.cells cells T)) h ⟨some a.w.heap.size,0,cap,c⟩ (d+1) a.w.heap.size) a.w.heap.size c g i:=by
   intro i
   induction i with
   |nil=>intro g zs _ _ _;simp[bE]
   |cons r i P=>
    intro g zs G I hc
    simp only[bE]
    have Q:=G r (by simp)
    have o:=sQ I r.length
    have J:=tx I r.length
    simp only[aiI,alA,amK]at o J
    refine⟨Q,nS fun k l j=>?_,P (g+c) _ (fun x R=>G x (by simp[R])) J fun k y j=>?_⟩
    .have ⟨y,f,E⟩:=kX o j
     refine⟨y,?_,E⟩
     rw[show(a.bH (a.w.alloc (.cells cells T)) h ⟨some a.w.heap.size,0,cap,c⟩ (d+1) a.w.heap.size).w=a.w.alloc (.cells cells T)from rfl,cell_of D]
     rw[ajK]at f
     split at f
     .exact hc k y f
     .cases f
    .rw[ai3]at j
     have:=hc _ y j
     rwa [show g+c+k=g+(r.length+k)by omega]
  exact O new 0 n A (kw p _ _ B) (fun k y j=>by simpa using C k y j)
 refine⟨⟨p,rfl,rfl,rfl,by simp[az.bH],fun b e _=>lV a.w _ b e,fun _ _ h=> .inl h,fun b e=>?_⟩,?_⟩
 .rcases e with e|e
  .exact .inl e
  .exact .inr (by omega)
 .exact qb (Γ':=a.bH (a.w.alloc (.cells cells T)) h ⟨some a.w.heap.size,0,cap,c⟩ (d+1) a.w.heap.size) m L q p rfl rfl (fun _=>alc) (by simp[az.bH]) rfl (fun b e _=>lV a.w _ b e) (.inr rfl) (by simp[az.bH]) s t u rfl cells T (.fresh D) (by simpa using v) M
def wrap_i64{n:Int}(e: -9223372036854775808<=n)(f:n<9223372036854775808):adW.wrap n=n:=by have a:(2:Int) ^ adW.bits=18446744073709551616:=rfl;have hm:=Int.emod_nonneg n (b:=18446744073709551616) (by decide);unfold IntKind.wrap;have c:(2:Int) ^ (adW.bits-1)=9223372036854775808:=rfl;have d:adW.signed=true:=rfl;simp only[a,c,d,Bool.true_and,decide_eq_true_eq];split<;>omega
def Hz(z:Array Value)(n:Nat):(aiy z n).toList=(ahv n z.toList).flatten:=by
 unfold aiy;rcases akZ z.size with c|c
 .have:z= #[]:=by simpa using c
  subst this;simp
 .apply aju;intro i;simp only[Array.toList_map,Array.toList_range,adf];induction n generalizing i with
  |zero=>simp
  |succ n d=>
   rw[ajP,aiI];by_cases a:i<z.size
   .rw[abE (by simpa using a),ajF (by rw[air];omega)];simp[amh a,a]
   .rw[aea (by simpa using a),aje, <-d (i-z.size)];by_cases b:i< (n+1)*z.size
    .rw[ajF b,ajF (by rw[air]at b;omega)];simp only[ajO];rw[Nat.mod_eq_sub_mod (by omega)]
    .rw[aiE (by simp;omega),aiE (by rw[air]at b;simp;omega)]
def Kq{a:az}{b:List ab}{c:List Value}(h:aY a b c):∀k,aY a (ahv k b).flatten (ahv k c).flatten
 |0=>by simp[aY]
 |k+1=>by
  rw[ajP,ajP,aiI,aiI]
  exact su h (Kq h k)
def ZY{P:Program}{a:az}{H l:List Ob}(c:aZ a H){t f m e o bytes:TypeId}{z:List ab}{s x:ab}{p q:Value}{v:aw}(G:se P t=some (e,o,bytes,z))(r:aB a s p)(u:aB a x q)(h:sy P H f o bytes z s x=some (v,l)):
  ∃y d,(aiL #[t,f] m #[p,q]).run P a.w= .ok y d.w/\a.cL d/\aZ d l/\aL d v y:=by
 unfold sy at h
 split at h
 case h_2=>cases h
 rename_i k0 k n A
 split at h
 case isFalse=>cases h
 rename_i hc
 have⟨I,J,K,af,L⟩:=hc
 cases h
 simp only[aB]at r u
 obtain⟨rfl,_⟩:=r
 obtain⟨rfl,_⟩:=u
 obtain⟨B,i,b,C,rfl,rfl,M,N,O⟩:=jz G
 have Q:adW.wrap n=n:=by
  exact wrap_i64 (by omega) (by omega)
 have R:¬(281474976710656<n*i.bytes):=by
  have:((n.toNat*i.bytes:Nat):Int)=n*i.bytes:=by rw[Int.natCast_mul,Int.toNat_of_nonneg K]
  omega
 have S:¬n<0:=by omega
 by_cases h0:n.toNat=0
 .obtain rfl:n=0:=by omega
  refine⟨.slice none 0 0,a.lT,?_,JJ a,by simpa using A3 c _,?_⟩
  .have T:adW.wrap 0=0:=by decide
   simp[aiL,run_underlying B,run_underlying A,sizeOf,typeInfo,C,asInt,asIntOf,T,az.lT]
  .simp only[aL,aB]
   exact⟨⟨none,0,0,0⟩,0,none,0,by simp[az.lT,c.len],ad3 _,by simp,fun _=> .inl (by simp)⟩
 .have D:=grownCap_ge a.w n.toNat 0 e
  have E:=sR c
  have ag:¬(9223372036854775807< (n.toNat:Int)):=by omega
  have ah:=growslice_fits (need:=n.toNat) (old:=0) (by omega) L
  have U:¬(281474976710656<alN n.toNat 0*i.bytes):=by omega
  have V:¬(n.toNat*i.size=0):=by
   intro W
   rcases Nat.mul_eq_zero.1 W with X|X<;>omega
  have Y:=Hz b.cells n.toNat
  have Z:¬n<=0:=by omega
  have aa:¬(9223372036854775807<max n 0):=by omega
  have g:(aiL #[t,f] m #[.slice none 0 0,.int k n]).run P a.w= .ok (.slice (some ⟨a.w.heap.size,0,none⟩) n.toNat (grownCap a.w n.toNat 0 e))
    (a.w.drew.alloc (.cells (aiy b.cells n.toNat++aiy b.cells (grownCap a.w n.toNat 0 e-n.toNat)) e)):=by
   simp[aiL,run_underlying B,run_underlying A,sizeOf,typeInfo,zeroValue,C,M,asInt,asIntOf,Q,S,R,U,V,Z,aa,al0,ai4,newRow,grownCap]
  have ad:=(tc a).trans (sL E (aiy b.cells n.toNat++aiy b.cells (grownCap a.w n.toNat 0 e-n.toNat)) e ⟨some a.w.heap.size,0,grownCap a.w n.toNat 0 e,i.size⟩)
  refine⟨_,_,g,ad,rF E _ e (grownCap a.w n.toNat 0 e) i.size (ahv n.toNat z) (grownCap_le_maxLen a.w n.toNat 0 e (by unfold maxLen;omega)) (by simpa using D) I ?_ (fun ai g=>by rw[ala g];exact J) (aiy b.cells n.toNat).toList ?_ (fun j y F=>?_),?_⟩
  .simp only[aj5,size_zeroCells,N, <-air]
   exact aj8 (by congr 1;omega)
  .rw[Y]
   exact Kq (oJ O) _
  .have ae:=(abW.1 F).1
   rw[akV (by simpa using ae)]
   simpa using F
  .simp only[aL,aB]
   refine⟨_,0,some ⟨a.w.heap.size,0,none⟩,grownCap a.w n.toNat 0 e,by simp[az.alloc,az.drew,c.len];rfl,ad3 _,rfl,fun _=> .inr ⟨a.w.heap.size,_,rfl,rfl,by simp,by simpa using D,fun _=>by simp⟩⟩
def abG{P:Program}{d:az}{ah H':List Ob}(p:aZ d ah){ay t' ty:TypeId}{s x:ab}{ys yx:Value}{v:aw}(O:aB d s ys)(hx:aB d x yx)(h:xk P ah ay t' s x=some (v,H')):
  ∃aa Γ',(aiL #[ay,t'] ty #[ys,yx]).run P d.w= .ok aa Γ'.w/\d.cL Γ'/\aZ Γ' H'/\aL Γ' v aa:=by
 unfold xk at h
 split at h
 case h_3=>cases h
 case h_2=>
  rename_i e aU bytes ai aj ak
  exact ZY (P:=P) p aj O hx h
 rename_i e aU bytes ai new aj ak
 split at h
 case isFalse=>cases h
 rename_i aV
 obtain⟨rfl,aA,D⟩:=aV
 obtain⟨H,i,zv,I,rfl,rfl,hz,aC,bi⟩:=jz aj
 have⟨g,Q,q,aD⟩:=LL D (Am p hx ak)
 have E:Src d.w new.length g yx:=Src.of q aD
 have R:=uZ Q
 have aE:∀(need al:Nat),need<=maxLen->grownCap d.w need al e<=maxLen:=fun need al hm=>grownCap_le_maxLen d.w need al e hm
 split at h
 .
  split at h
  case isFalse=>cases h
  rename_i S
  cases h
  simp only[aB]at O
  obtain⟨rfl,_⟩:=O
  by_cases hm:new.length=0
  .have U:new=[]:=ae4 hm
   subst U
   have⟨F,l,m⟩:=run_append_fits (zz:=0) (P:=P) (ty:=ty) H I E q R none 0 0 (by simp) (.inl rfl)
   have:F=d.w:=by
    rcases m with⟨_,m⟩|⟨b,o,cells,T,n,_⟩
    .exact m
    .cases n
   subst this
   refine⟨_,d.lT,l,JJ d,A3 p _,?_⟩
   simp only[aL,aB]
   exact⟨⟨none,0,0,0⟩,0,none,0,by simp[az.lT,p.len],ad3 _,by simp,fun _=> .inl (by simp)⟩
  .have l:=Nv (P:=P) (ty:=ty) H I hz E q none 0 0 [] (by simp) (.inl rfl) (by omega) (by simpa using S.1) (by simpa using S.2)
   simp only[aiW,aiD]at l
   have V:=grownCap_ge d.w new.length 0 e
   have ad:=sR p
   have aW:=(tc d).trans (sL ad (g.toArray++aiy zv.cells (grownCap d.w new.length 0 e-new.length)) e ⟨some d.w.heap.size,0,grownCap d.w new.length 0 e,i.size⟩)
   refine⟨_,_,l,aW,rF ad _ e (grownCap d.w new.length 0 e) i.size new (aE _ _ S.1) V aA ?_ D g (kw (pg d) _ _ Q) (Ab (zs:=(aiy zv.cells (grownCap d.w new.length 0 e-new.length)).toList) (by simp)),?_⟩
   .simp only[aj5,ajt,size_zeroCells,aC,q, <-air]
    exact aj8 (by congr 1;omega)
   .simp only[aL,aB]
    refine⟨_,0,some ⟨d.w.heap.size,0,none⟩,grownCap d.w new.length 0 e,by simp[az.alloc,az.drew,p.len];rfl,ad3 _,rfl,fun _=> .inr ⟨d.w.heap.size,_,rfl,rfl,by simp,by simpa using V,fun _=>by simp⟩⟩
 .
  rename_i h t f len
  split at h
  case h_2=>cases h
  rename_i zz rows J
  split at h
  case isFalse=>cases h
  rename_i S
  obtain⟨bj,rfl,am,aF⟩:=S
  cases h
  have aX:=p.obj J
  have⟨a,C,hm,n⟩:=aX
  have a3:h<ah.length:=(abW.1 (eP J)).1
  have ae:h<d.hs.length:=by rw[<-p.len];exact a3
  simp only[aB]at O
  obtain⟨bk,bl,aG,cap,aH,_,rfl,hv⟩:=O
  rw[C]at aH
  cases aH
  have hv:=hv rfl
  have G:((rows.drop f).take len).length=len:=by simp;omega
  by_cases af:len+new.length<=cap
  .
   rcases hv with⟨u,rfl,rfl,rfl,rfl⟩|⟨b,W,u,rfl,rfl,a4,K⟩
   .
    have U:new=[]:=ae4 (by omega)
    subst U
    simp only[u]at n
    subst n
    have⟨F,l,m⟩:=run_append_fits (zz:=0) (P:=P) (ty:=ty) H I E q R none 0 0 (by simp) (.inl rfl)
    have:F=d.w:=by
     rcases m with⟨_,m⟩|⟨b,o,cells,T,n,_⟩
     .exact m
     .cases n
    subst this
    refine⟨_,d.bump h a (t+1),l,⟨zy C (by omega),rfl,rfl,rfl,ad3 _,fun _ _ _=>rfl,fun _ _ h=> .inl h,fun _ h=> .inl h⟩,by simpa using Q2 p (eP J) C u,?_⟩
    simp only[aL,aB]
    exact⟨a,t+1,none,0,by simp[az.bump,ae],ad3 _,by simp,fun _=> .inl (by simp[u])⟩
   .simp only[u]at n
    have⟨y,Y,hF,a5,an,cells,T,L,aI,M⟩:=n
    have aJ:=p.X b Y
    have aK:a.off+f*a.sz+(a.cap-f)*a.sz<=cells.size:=by
     rw[ajg, <-air,show f+(a.cap-f)=a.cap by omega];exact aI
    by_cases ao:new.length=0
    .
     have U:new=[]:=ae4 ao
     subst U
     have⟨F,l,m⟩:=run_append_fits (zz:=0) (P:=P) (ty:=ty) H I E q R (some W) len (a.cap-f) (by simpa using af) (.inl rfl)
     have ap:F=d.w:=by
      rcases m with⟨_,m⟩|⟨b2,o2,aq,T2,_,ar,_,m⟩
      .exact m
      .have a6:g=[]:=ae4 (by simpa using q)
       subst a6
       rw[m]
       have:(spliced aq.toList (o2+len*i.size) []).toArray=aq:=by simp[spliced]
       rw[this]
       exact ar.self
     subst ap
     have A:d.Le (d.bH d.w h ⟨some b,a.off+f*a.sz,a.cap-f,a.sz⟩ (t+1) b):=pQ C (.inl (by omega)) (fun _ _ _=>rfl)
     refine⟨_,d.bH d.w h ⟨some b,a.off+f*a.sz,a.cap-f,a.sz⟩ (t+1) b,l,⟨A,rfl,rfl,rfl,ad3 _,fun _ _ _=>rfl,fun _ _ h=> .inl h,fun c hc=>?_⟩,?_,?_⟩
     .rcases hc with hc|hc
      .exact .inl hc
      .exact .inl (hc▸Y)
     .refine qb (Γ':=d.bH d.w h ⟨some b,a.off+f*a.sz,a.cap-f,a.sz⟩ (t+1) b) p (eP J) C A rfl rfl (fun c=>alc) (ad3 _) rfl (fun _ _ _=>rfl) (.inl u) aJ (by simp only;omega) ?_ an y cells T L aK ?_
      .simp only[aeU,G];omega
      .simp only[aeU]
       exact mY fun k r B=>by
        have:=jL (kJ (ml M f) len) B
        exact⟨this.1,tq A b _ r (fun _ _ _=>rfl) this.2⟩
     .simp only[aL,aB]
      refine⟨⟨some b,a.off+f*a.sz,a.cap-f,a.sz⟩,t+1,some W,a.cap-f,by simp[az.bH,ae],ad3 _,by simp,fun _=> .inr ⟨b,W,rfl,rfl,by simp,by simp;omega,fun a7=>?_⟩⟩
      simp only at a7
      rw[K (by omega)]
      simp
    .have K:=K (by omega)
     subst K
     have Z:a.off+f*a.sz+len*i.size+g.length<=cells.size:=by
      have h2:(len+new.length)*a.sz<=(a.cap-f)*a.sz:=aiN _ af
      rw[air]at h2
      rw[q, <-y]
      omega
     have⟨F,l,m⟩:=run_append_fits (P:=P) (ty:=ty) H I E q R (some ⟨b,a.off+f*a.sz,none⟩) len (a.cap-f) af (.inr ⟨b,_,cells,T,rfl,L,Z⟩)
     have ap:F=d.w.setRow b (spliced cells.toList (a.off+f*a.sz+len*i.size) g).toArray:=by
      rcases m with⟨h0,_⟩|⟨b2,o2,aq,T2,aM,ar,_,m⟩
      .exact absurd h0 ao
      .simp only[ab1,Addr.mk.injEq,and_true]at aM
       obtain⟨rfl,rfl⟩:=aM
       obtain⟨rfl,rfl⟩:=L.Mf ar
       exact m
     subst ap
     have au:dE a.sz (d.w.setRow b (spliced cells.toList (a.off+f*a.sz+len*i.size) g).toArray) b (spliced cells.toList (a.off+f*a.sz+len*i.size) g).toArray T:=L.set (by simp only[ajt];rw[pV (by simpa using Z)];simp)
     have ag:∀c,c≠b->(d.w.setRow b (spliced cells.toList (a.off+f*a.sz+len*i.size) g).toArray).heap[c]?=d.w.heap[c]?:=fun c av=>setRow_other d.w b c _ av
     have A:d.Le (d.bH (d.w.setRow b (spliced cells.toList (a.off+f*a.sz+len*i.size) g).toArray) h ⟨some b,a.off+f*a.sz,a.cap-f,a.sz⟩ (t+1) b):=
      pQ C (.inl (by omega)) (fun c ai a8=>ag c (fun e=>hF ai (e▸a8)))
     have aN:(spliced cells.toList (a.off+f*a.sz+len*i.size) g).length=cells.size:=by rw[pV (by simpa using Z)];simp
     refine⟨_,d.bH (d.w.setRow b (spliced cells.toList (a.off+f*a.sz+len*i.size) g).toArray) h ⟨some b,a.off+f*a.sz,a.cap-f,a.sz⟩ (t+1) b,l,⟨A,rfl,rfl,rfl,by simp[az.bH],fun c _ a9=>ag c (fun e=>a9 (e▸Y)),fun _ _ h=> .inl h,fun c hc=>?_⟩,?_,?_⟩
     .rcases hc with hc|hc
      .exact .inl hc
      .exact .inl (hc▸Y)
     .refine qb (Γ':=d.bH (d.w.setRow b (spliced cells.toList (a.off+f*a.sz+len*i.size) g).toArray) h ⟨some b,a.off+f*a.sz,a.cap-f,a.sz⟩ (t+1) b) p (eP J) C A rfl rfl (fun c=>alc) (by simp[az.bH]) rfl (fun c _ av=>ag c av) (.inl u) (by simpa[az.bH]using aJ) (by simp only;omega) ?_ an y _ T au (by simp[aN];exact aK) ?_
      .simp only[agc,G];omega
      .have ax:∀j,(d.bH (d.w.setRow b (spliced cells.toList (a.off+f*a.sz+len*i.size) g).toArray) h ⟨some b,a.off+f*a.sz,a.cap-f,a.sz⟩ (t+1) b).w.cell? ⟨b,j,none⟩=if a.off+f*a.sz+len*i.size<=j/\j<a.off+f*a.sz+len*i.size+g.length then g[j-(a.off+f*a.sz+len*i.size)]? else cells[j]?:=by
        intro j
        rw[show(d.bH (d.w.setRow b (spliced cells.toList (a.off+f*a.sz+len*i.size) g).toArray) h ⟨some b,a.off+f*a.sz,a.cap-f,a.sz⟩ (t+1) b).w=d.w.setRow b (spliced cells.toList (a.off+f*a.sz+len*i.size) g).toArray from rfl,dE.cell au]
        have:=wS (cur:=cells.toList) (o:=a.off+f*a.sz+len*i.size) (vs:=g) (by simpa using Z) j
        simpa using this
       refine wm ?_ ?_
       .have h2:=kJ (ml M f) len
        refine rM A b a.sz _ _ (fun j a1 a2=>?_) h2
        rw[G]at a2
        rw[ax,if_neg ?_,dE.cell L]
        simp only at a1 a2
        rw[y]at a2
        rw[y]
        omega
       .rw[G]
        refine mY fun k r B=>⟨by rw[y];exact D r (aiJ B),nS fun N ba aO=>?_⟩
        have bb:k<new.length:=(abW.1 B).1
        have aP:r.length=i.size:=D r (aiJ B)
        have bm:N<r.length:=(abW.1 aO).1
        have bc:new.flatten[k*i.size+N]?=some ba:=by
         clear Q l E aD q R Z m au ag A aN ax ak aF am af ao
         induction new generalizing k with
         |nil=>simp at B
         |cons x xs ih=>
          simp only[aiI]
          have aQ:x.length=i.size:=D x (by simp)
          cases k with
          |zero=>
           simp at B
           subst B
           rw[abE (by omega)]
           simpa using aO
          |succ k=>
           rw[aea (by rw[aQ,air];omega),aQ,show(k+1)*i.size+N-i.size=k*i.size+N by rw[air];omega]
           exact ih (fun aa hy=>D aa (by simp[hy])) k (by simpa using B) (by simpa using bb)
        have⟨v',g1,g2⟩:=kX Q bc
        refine⟨v',?_,lI A _ _ g2⟩
        have bd:(k+1)*i.size<=new.length*i.size:=aiN _ (by omega)
        rw[air]at bd
        rw[ax,if_pos ?_]
        .rw[<-y]at g1|-
         rw[show a.off+f*a.sz+len*a.sz+k*a.sz+N-(a.off+f*a.sz+len*a.sz)=k*a.sz+N by omega]
         exact g1
        .simp only
         rw[q,y]
         omega
     .simp only[aL,aB]
      refine⟨⟨some b,a.off+f*a.sz,a.cap-f,a.sz⟩,t+1,some ⟨b,a.off+f*a.sz,none⟩,a.cap-f,by simp[az.bH,ae],ad3 _,by simp,fun _=> .inr ⟨b,_,rfl,rfl,by simp,by simp;omega,fun _=>by simp⟩⟩
  .
   have be:∃z,aY d ((rows.drop f).take len).flatten z/\z.length=len*i.size/\(z=[]\/∃a0,aG=some a0/\∀(j:Nat) (v:Value),z[j]?=some v->d.w.cell? (a0.add j)=some v):=by
    rcases hv with⟨u,rfl,rfl,rfl,rfl⟩|⟨b,W,u,rfl,rfl,a4,K⟩
    .exact ⟨[],by simp[aY],by simp,.inl rfl⟩
    .simp only[u]at n
     have⟨y,Y,hF,a5,an,cells,T,L,aI,M⟩:=n
     have⟨z,g1,g2,g3⟩:=tH (kJ (ml M f) len)
     refine⟨z,g1,by rw[g2,G,y],?_⟩
     by_cases bf:len=0
     .left
      exact ae4 (by rw[g2,G,bf];simp)
     .right
      refine⟨W,rfl,fun j v hj=>?_⟩
      rw[K (by omega),jG]
      exact g3 j v hj
   have⟨z,bg,aR,bh⟩:=be
   have l:=Nv (P:=P) (ty:=ty) H I hz E q aG len cap z aR bh (by omega) am aF
   have V:=grownCap_ge d.w (len+new.length) cap e
   have ad:=sR p
   have aP:∀r∈(rows.drop f).take len,r.length=i.size:=by
    intro r l
    have aS:r∈rows:=ajY (ajA l)
    cases u:a.base with
    |none=>
     simp only[u]at n
     subst n
     cases aS
    |some b=>
     simp only[u]at n
     have⟨y,_,_,_,_,_,_,_,_,M⟩:=n
     rw[<-y]
     exact Oh M r aS
   have aT:=NO (new:=(rows.drop f).take len++new) ad (eP J) C ((z++g).toArray++aiy zv.cells (grownCap d.w (len+new.length) cap e-(len+new.length))) e (grownCap d.w (len+new.length) cap e) i.size
    (aE _ _ am) (by simp only[agc,G];exact V) aA ?_ ?_ (z++g) ?_ ?_
   .exact ⟨_,_,l,(tc d).trans aT.1,aT.2,by
     simp only[aL,aB]
     refine⟨_,t+1,some ⟨d.w.heap.size,0,none⟩,grownCap d.w (len+new.length) cap e,by simp[az.bH,az.drew,ae];rfl,ad3 _,rfl,fun _=> .inr ⟨d.w.heap.size,_,rfl,rfl,by simp,by simpa using V,fun _=>by simp⟩⟩⟩
   .simp only[aj5,ajt,agc,size_zeroCells,aC,q,aR, <-air]
    exact aj8 (by congr 1;omega)
   .intro r l
    rcases ain.1 l with l|l
    .exact aP r l
    .exact D r l
   .rw[alI]
    exact kw (pg d) _ _ (su bg Q)
   .exact Ab (zs:=(aiy zv.cells (grownCap d.w (len+new.length) cap e-(len+new.length))).toList) (by simp)
 .cases h
variable{x d:ab}{b g:Bool}{P:Program}{t ty:TypeId}{n h:Nat}{Γ:az}{H H':List Ob}{yx yd:Value}
def lu(P:Program)(t:TypeId)(a:List Value):Value:=
 match P.underlying t with
 |some (.struct _)=> .agg a.toArray
 |_=>a.headD undef
def E5{x:Sh}{s:List Sh}{d e:List ab}(h:eL (x::s) d e=some b):
  ∃a i c j f g,d=a::i/\e=c::j/\lR x a c=some f/\eL s i j=some g/\b=(f&&g):=by
 cases d with
 |nil=>simp[eL]at h
 |cons a d=>
  cases e with
  |nil=>simp[eL]at h
  |cons c e=>
   simp only[eL]at h
   split at h
   .rename_i f g k l
    simp only[ab1]at h
    exact⟨a,d,c,e,f,g,rfl,rfl,k,l,h.symm⟩
   .cases h
def JD{a c:List ab}(h:eL [] a c=some b):a=[]/\c=[]/\b=true:=by cases a<;>cases c<;>simp[eL]at h;exact⟨rfl,rfl,h⟩
def QG:∀(s d:List Sh) (e f:List ab) (b:Bool),eL (s++d) e f=some b->
  ∃g i,eL s (e.take s.length) (f.take s.length)=some g/\eL d (e.drop s.length) (f.drop s.length)=some i/\b=(g&&i)
 |[],d,e,f,b,h=>⟨true,b,by simp[eL],by simpa using h,by simp⟩
 |x::s,d,e,f,b,h=>by
  obtain⟨a,j,c,k,g,i,rfl,rfl,l,m,rfl⟩:=E5 (by simpa using h)
  obtain⟨c1,c2,n,o,rfl⟩:=QG s d j k i m
  exact⟨g&&c1,c2,by simp[eL,l,n],by simpa using o,by simp[Bool.and_assoc]⟩
def NU:∀ {s:List Sh} {d e:List ab} {b:Bool},eL s d e=some b->d.length=s.length/\e.length=s.length
 |[],d,e,b,h=>by obtain⟨rfl,rfl,_⟩:=JD h;simp
 |x::s,d,e,b,h=>by
  obtain⟨a,g,c,i,j,k,rfl,rfl,l,f,rfl⟩:=E5 h
  have:=NU f
  simp[this]
def KM(b:List Value)(a n:Nat):b.toArray.extract a (a+n)=((b.drop a).take n).toArray:=by apply akF;simp[List.take_drop]
def AJ{w:World}(e:tk P t=some (g,n))(a:List Value)(b:Nat)(i:b+n<=a.length)(hn:g=false->n=1):
  (part t a.toArray b).run P w= .ok (if g then .agg ((a.drop b).take n).toArray else((a.drop b).take n).headD undef) w:=by
 have⟨c,f⟩:=pt e w
 cases g with
 |true=>
  simp only[part,aiT,c,aiG,f,if_true,akW,KM]
 |false=>
  have:=hn rfl
  subst this
  have d:b<a.length:=by omega
  simp only[part,aiT,c,aiG,aes,if_false]
  have h:(a.drop b).take 1=[a[b]]:=by
   rw[agO d]
   rfl
  rw[h]
  simp[d]
def KP(h:tk P t=some (g,n)):∃d,P.underlying t=some d/\g=(match d with| .struct _| .array _ _=>true|_=>false):=by
 unfold tk at h;split at h
 .rename_i d i a b;simp only[ab1,aca]at h;exact⟨d,a,h.1.symm⟩
 .cases h
def Jl{x:Sh}{a c:ab}(h:lR x a c=some b){y z:Value}(d:aB Γ a y)(hc:aB Γ c z):
  (∃k m n,x= .int/\y= .int k m/\z= .int k n/\b=(m==n))\/(∃m n,x= .bool/\y= .bool m/\z= .bool n/\b=(m==n))\/(∃m n,x= .str/\y= .string m/\z= .string n/\b=(m.toList==n.toList)):=by
 unfold lR at h
 split at h
 .split at h
  .rename_i k m f n e
   subst e
   simp only[ab1]at h
   simp only[aB]at d hc
   exact .inl ⟨k,m,n,rfl,d.1,hc.1,h.symm⟩
  .cases h
 .rename_i m n
  simp only[ab1]at h
  simp only[aB]at d hc
  exact .inr (.inl ⟨m,n,rfl,d.1,hc.1,h.symm⟩)
 .rename_i m n
  simp only[ab1]at h
  simp only[aB]at d hc
  exact .inr (.inr ⟨m,n,rfl,d.1,hc.1,h.symm⟩)
 .cases h
def Mo{d:Nat}{s:List Sh}(h:pH P d t=some s):∃D,P.underlying t=some D/\((∃b,D= .struct b)\/(s.length=1/\(match D with| .struct _| .array _ _=>true|_=>false)=false)):=by
 cases d with
 |zero=>simp[pH]at h
 |succ d=>
  unfold pH at h;split at h
  .rename_i a;cases h;exact⟨_,a,.inr ⟨rfl,rfl⟩⟩
  .rename_i a;cases h;exact⟨_,a,.inr ⟨rfl,rfl⟩⟩
  .rename_i a;cases h;exact⟨_,a,.inr ⟨rfl,rfl⟩⟩
  .rename_i b a;exact⟨_,a,.inl ⟨b,rfl⟩⟩
  .cases h
def WJ{d:Nat}{s:List Sh}(f:tk P t=some (g,n))(h:pH P d t=some s)(a:List Value):
  (if g then Value.agg a.toArray else a.headD undef)=lu P t a:=by
 have⟨D,c,i⟩:=KP f
 have⟨j,e,b⟩:=Mo h
 rw[c]at e
 cases e
 subst i
 unfold lu
 rw[c]
 rcases b with⟨k,rfl⟩|⟨_,b⟩
 .simp
 .cases D<;>simp at b|-
def Hf{P:Program}{w:World}{Γ:az}:∀(d:Nat) (t:TypeId) (s:List Sh),pH P d t=some s->∀(i j:List ab) (o p:List Value) (b:Bool),aY Γ i o->aY Γ j p->eL s i j=some b->
  ∀D,d<=D->(alu D t (lu P t o) (lu P t p)).run P w= .ok b w
 |0,t,s,h,_,_,_,_,_,_,_,_,_,_=>by simp[pH]at h
 |d+1,t,s,h,i,j,o,p,b,G,H,A,D,hD=>by
  obtain⟨D,rfl⟩:∃D',D=D'+1:=⟨D-1,by omega⟩
  have one:∀x:Sh,s=[x]->∃y z,o=[y]/\p=[z]/\∃a c,aB Γ a y/\aB Γ c z/\lR x a c=some b:=by
   rintro x rfl
   obtain⟨a,an,c,ao,I,Q,rfl,rfl,q,h2,rfl⟩:=E5 A
   obtain⟨rfl,rfl,rfl⟩:=JD h2
   simp only[aY]at G H
   obtain⟨y,_,rfl,r,rfl⟩:=G
   obtain⟨z,_,rfl,u,rfl⟩:=H
   exact⟨y,z,rfl,rfl,a,c,r,u,by simpa using q⟩
  unfold pH at h
  split at h
  .rename_i aa e
   cases h
   obtain⟨y,z,rfl,rfl,a,c,r,u,q⟩:=one .int rfl
   rcases Jl q r u with⟨J,m,n,_,rfl,rfl,rfl⟩|⟨m,n,hn,_⟩|⟨m,n,hn,_⟩
   .simp[lu,e,run_equalIn_int (P:=P) w D t J aa m n e]
   .cases hn
   .cases hn
  .rename_i e
   cases h
   obtain⟨y,z,rfl,rfl,a,c,r,u,q⟩:=one .bool rfl
   rcases Jl q r u with⟨J,m,n,hn,_⟩|⟨m,n,_,rfl,rfl,rfl⟩|⟨m,n,hn,_⟩
   .cases hn
   .simp[lu,e,run_equalIn_bool' (P:=P) w D t m n e]
   .cases hn
  .rename_i e
   cases h
   obtain⟨y,z,rfl,rfl,a,c,r,u,q⟩:=one .str rfl
   rcases Jl q r u with⟨J,m,n,hn,_⟩|⟨m,n,hn,_⟩|⟨m,n,_,rfl,rfl,rfl⟩
   .cases hn
   .cases hn
   .simp[lu,e,run_equalIn_string (P:=P) w D t m n e]
  .rename_i K e
   split at h
   .cases h
   .rename_i R
    have L:P.fieldsOf t=K:=by simp[Program.fieldsOf,e]
    have S:P.underlying t=some (.struct (P.fieldsOf t)):=by rw[L];exact e
    have T:lu P t o= .agg o.toArray:=by simp[lu,e]
    have U:lu P t p= .agg p.toArray:=by simp[lu,e]
    rw[T,U,run_equalIn_struct (P:=P) w D t _ _ S (by simpa using R),L]
    clear T U L S R e one
    have ad:∀(l:List Field) (B:Nat) (s:List Sh) (i j:List ab) (b:Bool),xV P (pH P d) B l=some s->aY Γ i (o.drop B)->aY Γ j (p.drop B)->eL s i j=some b->
      (al9 D o.toArray p.toArray l).run P w= .ok b w:=by
     intro l
     induction l with
     |nil=>
      intro B s i j b k _ _ A
      simp[xV]at k
      subst k
      obtain⟨_,_,rfl⟩:=JD A
      simp[al9]
     |cons f K ih=>
      intro B s i j b k M N A
      simp only[xV]at k
      split at k
      .rename_i C
       split at k
       .rename_i v g n O E
        split at k
        .rename_i ae
         have⟨hn,ap⟩:=ae
         simp only[ab4]at k
         obtain⟨V,af,rfl⟩:=k
         obtain⟨I,Q,W,g2,rfl⟩:=QG v V i j b A
         have ag:=NU W
         have ah:=fI M
         have ai:=fI N
         simp only[ai1]at ag
         simp only[aj0]at ah ai
         have F:g=false->n=1:=by
          intro F
          have⟨DD,aj,X⟩:=KP E
          have⟨aq,Y,ak⟩:=Mo O
          rw[aj]at Y
          cases Y
          rcases ak with⟨ar,rfl⟩|⟨q,_⟩
          .rw[F]at X;simp at X
          .omega
         have Z:=AJ (P:=P) (w:=w) E o f.offset (by rw[C.2];omega) F
         have py:=AJ (P:=P) (w:=w) E p f.offset (by rw[C.2];omega) F
         rw[WJ E O]at Z py
         have al:=Hf (w:=w) d f.type v O (i.take v.length) (j.take v.length) ((o.drop f.offset).take n) ((p.drop f.offset).take n) I (by rw[hn,C.2];exact sQ M _) (by rw[hn,C.2];exact sQ N _) W D (by omega)
         have am:=ih (B+v.length) V (i.drop v.length) (j.drop v.length) Q af (by rw[<-akd];exact tx M _) (by rw[<-akd];exact tx N _) g2
         simp only[al9,C.1,ne_eq,not_false_eq_true,if_true,aiT,Z,py,al,aiG]
         cases I with
         |true=>simpa using am
         |false=>simp
        .cases k
       .cases k
      .cases k
    exact ad K.toList 0 s i j b h (by simpa using G) (by simpa using H) A
  .cases h
def Bi{Γ e:az}(f:Γ.Le e){b c:Nat}:∀ {new:List (List ab)} {a:Nat} {d:List Value},(∀r∈new,r.length=c)->aY Γ new.flatten d->(∀(j:Nat) (v:Value),d[j]?=some v->e.w.cell? ⟨b,a+j,none⟩=some v)->bE e b c a new
 |[],a,d,_,_,_=>by simp[bE]
 |r::z,a,d,g,hc,h=>by
  have i:r.length=c:=g r (by simp)
  simp only[aiI]at hc
  have m:=sQ hc r.length
  have n:=tx hc r.length
  simp only[ai8,List.drop_left']at m n
  refine⟨i,nS fun k l o=>?_,Bi f (fun x s=>g x (by simp[s])) n (fun j v p=>?_)⟩
  .have ⟨y,q,t⟩:=kX m o
   have u:=(abW.1 o).1
   rw[aj6 u]at q
   exact⟨y,h k y q,lI f _ _ t⟩
  .rw[ai3]at p
   have:=h _ _ p
   rwa [i,show a+(c+j)=a+c+j by omega]at this
def Ef(rows:List (List ab))(a:Nat):dT rows a []=rows:=by simp[dT]
def Ee{o:Ob}(a:H[h]?=some o):H.set h o=H:=by
 apply aju;intro j;by_cases b:j=h
 .subst b;rw[ahr (abW.1 a).1,a]
 .rw[aat (fun e=>b e.symm)]
def J8(m:aZ Γ H){f lo z b:Nat}{rows new:List (List ab)}{a:fm}(y:obj H h f=some (z,rows))(n:Γ.hs[h]?=some (a,f))(p:a.base=some b)(Z:lo+new.length<=rows.length)(A:∀r∈new,r.length=z){d:List Value}(hn:aY Γ new.flatten d):
  ∃Γ',(storeCells ⟨b,a.off+lo*a.sz,none⟩ d).run P Γ.w= .ok () Γ'.w/\Γ.cL Γ'/\aZ Γ' (H.set h (.live f z (dT rows lo new))):=by
 have⟨i2,B,L,C⟩:=m.obj y
 rw[n]at B
 cases B
 simp only[p]at C
 have⟨i,q,M,N,O,cells,T,k,Q,D⟩:=C
 have R:=m.X b q
 have E:d.length=new.length*z:=by rw[fI hn,tg A]
 have l:a.off+lo*a.sz+d.length<=cells.size:=by
  have S:(lo+new.length)*a.sz<=a.cap*a.sz:=aiN _ (by omega)
  rw[air]at S
  rw[E, <-i]
  omega
 have F:=vS (P:=P) (a.off+lo*a.sz) d 0 cells Γ.w k (by simpa using l) (uZ hn)
 simp only[aiB]at F
 have G:dE a.sz (Γ.w.setRow b (spliced cells.toList (a.off+lo*a.sz) d).toArray) b (spliced cells.toList (a.off+lo*a.sz) d).toArray T:=k.set (by simp only[ajt];rw[pV (by simpa using l)];simp)
 have s:∀c,c≠b->(Γ.w.setRow b (spliced cells.toList (a.off+lo*a.sz) d).toArray).heap[c]?=Γ.w.heap[c]?:=fun c t=>setRow_other Γ.w b c _ t
 have g:Γ.Le (Γ.bH (Γ.w.setRow b (spliced cells.toList (a.off+lo*a.sz) d).toArray) h a f b):=
  pQ n (.inr ⟨rfl,rfl⟩) (fun c z U=>s c (fun e=>M z (e▸U)))
 have V:(spliced cells.toList (a.off+lo*a.sz) d).length=cells.size:=by rw[pV (by simpa using l)];simp
 refine⟨Γ.bH (Γ.w.setRow b (spliced cells.toList (a.off+lo*a.sz) d).toArray) h a f b,F,⟨g,rfl,rfl,rfl,by simp[az.bH],fun c _ W=>s c (fun e=>W (e▸q)),fun _ _ h=> .inl h,fun c hc=>?_⟩,?_⟩
 .rcases hc with hc|hc
  .exact .inl hc
  .exact .inl (hc▸q)
 .have Y:(dT rows lo new).length=rows.length:=by simp[dT];omega
  refine qb (Γ':=Γ.bH (Γ.w.setRow b (spliced cells.toList (a.off+lo*a.sz) d).toArray) h a f b) m (eP y) n g rfl rfl (fun c=>alc) (by simp[az.bH]) p (fun c _ t=>s c t) (.inl p) (by simpa[az.bH]using R) L (by rw[Y];exact N) O i _ T G (by simp[V];exact Q) ?_
  have u:∀j,(Γ.bH (Γ.w.setRow b (spliced cells.toList (a.off+lo*a.sz) d).toArray) h a f b).w.cell? ⟨b,j,none⟩=if a.off+lo*a.sz<=j/\j<a.off+lo*a.sz+d.length then d[j-(a.off+lo*a.sz)]? else cells[j]?:=by
   intro j
   rw[show(Γ.bH (Γ.w.setRow b (spliced cells.toList (a.off+lo*a.sz) d).toArray) h a f b).w=Γ.w.setRow b (spliced cells.toList (a.off+lo*a.sz) d).toArray from rfl,dE.cell G]
   have:=wS (cur:=cells.toList) (o:=a.off+lo*a.sz) (vs:=d) (by simpa using l) j
   simpa using this
  have x:(rows.take lo).length=lo:=by simp;omega
  unfold dT
  refine wm (wm ?_ ?_) ?_
  .refine rM g b a.sz _ _ (fun j I J=>?_) (kJ D lo)
   rw[x]at J
   rw[u,if_neg (by omega),dE.cell k]
  .rw[x]
   refine Bi g (by rw[i];exact A) hn (fun j v K=>?_)
   have aa:=(abW.1 K).1
   rw[u,if_pos (by omega),show a.off+lo*a.sz+j-(a.off+lo*a.sz)=j by omega]
   exact K
  .rw[agc,x]
   refine rM g b a.sz _ _ (fun j I J=>?_) (ml D (lo+new.length))
   rw[u,if_neg ?_,dE.cell k]
   rw[E, <-i]
   rw[air]at I
   omega
def Z5(m:aZ Γ H){e f bytes:TypeId}{z:List ab}{g lo len:Nat}{rows new:List (List ab)}{q:Value}(E:se P t=some (e,f,bytes,z))(s:aB Γ (.sl h g lo len) q)(F:aB Γ x yx)(G:view H x=some new)
  (u:∀r∈new,r.length=f) (v:obj H h g=some (f,rows)) (A:lo+len+new.length<=rows.length) (I:0<new.length\/lo<rows.length):
  ∃y a,(aiL #[t,t] ty #[q,yx]).run P Γ.w= .ok y a.w/\Γ.cL a/\aZ a (H.set h (.live g f (dT rows (lo+len) new)))/\aL a (.c (.sl h g lo (len+new.length))) y:=by
 obtain⟨J,i,zv,K,L,rfl,hz,aa,ad⟩:=jz E
 have⟨M,N,B,O⟩:=LL u (Am m F G)
 have Q:Src Γ.w new.length M yx:=Src.of B O
 have⟨R,S⟩:=Bq (P:=P) Q B
 have T:=S Γ.w rfl
 simp only[aB]at s
 obtain⟨d,ae,af,cap,n,ag,rfl,o⟩:=s
 have⟨i2,C,ah,k⟩:=m.obj v
 rw[n]at C
 cases C
 have o:=o rfl
 rcases o with⟨j,rfl,rfl,rfl,rfl⟩|⟨b,p,j,rfl,rfl,ai,l⟩
 .simp only[j]at k
  subst k
  simp only[aiQ]at A I
  omega
 .simp only[j]at k
  have⟨U,hX,hF,aj,ak,cells,al,hh,am,an⟩:=k
  have V:len+new.length<=d.cap-lo:=by omega
  have W:∀a:az,Γ.cL a->aL a (.c (.sl h g lo (len+new.length))) (.slice (some p) (len+new.length) (d.cap-lo)):=by
   intro a X
   refine DB X.le _ _ ?_
   simp only[aL,aB]
   exact⟨d,_,some p,d.cap-lo,n,ad3 _,rfl,fun _=> .inr ⟨b,p,j,rfl,rfl,by omega,l⟩⟩
  have l:=l (by omega)
  subst l
  have⟨a,Y,D,Z⟩:=J8 (P:=P) (lo:=lo+len) m v n j (new:=new) A u N
  refine⟨_,a,?_,D,Z,W a D⟩
  have e4:d.off+lo*d.sz+len*f=d.off+(lo+len)*d.sz:=by rw[<-U,air,ajg]
  simp[aiL,run_underlying J,sizeOf,typeInfo,K,L,R,T,V,jG,e4,Y]
def W9(c:aZ Γ H){d:TypeId}{s:ab}{e:Value}{v:aw}(f:aB Γ s e)(g:aB Γ x yx)(h:pj P H t d s x=some (v,H')):
  ∃y b,(aiL #[t,d] ty #[e,yx]).run P Γ.w= .ok y b.w/\Γ.cL b/\aZ b H'/\aL b v y:=by
 unfold pj at h
 split at h
 .rename_i r a
  simp only[ab1]at h
  subst h
  unfold Hm at a
  split at a
  .rename_i o bytes z new p q u len i j
   split at a
   .rename_i z rows k
    split at a
    .rename_i hc
     obtain⟨rfl,l,m,rfl,n⟩:=hc
     simp only[ab1,aca]at a
     obtain⟨rfl,rfl⟩:=a
     exact Z5 c i f g j l k m (n.imp id fun h=>h.2.2)
    .cases a
   .cases a
  .cases a
 .exact abG c f g h
def abd(g:aZ Γ H){t':TypeId}{v:aw}(C:aB Γ d yd)(K:aB Γ x yx)(h:copyV P H t d x=some (v,H')):
  ∃z f,(akH #[t,t'] ty #[yd,yx]).run P Γ.w= .ok z f.w/\Γ.cL f/\aZ f H'/\aL f v z:=by
 unfold copyV at h
 split at h
 case h_2=>cases h
 rename_i el aa bytes zl a ab ad lo len L M
 split at h
 case h_2=>cases h
 rename_i z rows l
 split at h
 case isFalse=>cases h
 rename_i hc
 obtain⟨ae,rfl,D⟩:=hc
 simp only[ab1,aca]at h
 obtain⟨rfl,rfl⟩:=h
 have⟨p,i,zv,q,s,_,hz,af,_⟩:=jz L
 simp only[aB]at C
 obtain⟨ag,ah,ai,cap,E,_,rfl,u⟩:=C
 have⟨i2,F,aj,g2⟩:=g.obj l
 rw[E]at F
 cases F
 have u:=u rfl
 have N:=Am g K M
 have O:∃c,aY Γ (a.take len).flatten c/\c.length=min a.length len*z/\(akf yx).run P Γ.w= .ok a.length Γ.w/\(ai4 z (min a.length len) yx).run P Γ.w= .ok c.toArray Γ.w:=by
  have Q:∀r∈a.take len,r.length=z:=fun r y=>D r (ajA y)
  have m:(a.take len).length=min a.length len:=by simp[al6]
  rcases N with⟨rfl,rfl⟩|⟨R,G,rfl,ak,S⟩
  .exact ⟨[],by simp[aY],by simp,by simp[akf],by simp[ai4]⟩
  .rcases S with rfl|⟨b,al,sz,rfl,T⟩
   .refine ⟨[],by simp[aY],by simp,by simp[akf],?_⟩
    simpa using run_firstCells_some (P:=P) (w:=Γ.w) z 0 R 0 G [] (by simp) (by simp)
   .have ⟨c,n,I,k⟩:=tH (kJ T len)
    have e:c.length=min a.length len*z:=by rw[fI n,tg Q,m]
    exact⟨c,n,e,by simp[akf],run_firstCells_some (P:=P) (w:=Γ.w) z _ _ _ G c e (fun j v U=>by rw[jG];exact k j v U)⟩
 have⟨c,n,I,k,e⟩:=O
 have m:(a.take len).length=min a.length len:=by simp[al6]
 have V:∀r∈a.take len,r.length=z:=fun r y=>D r (ajA y)
 rcases u with⟨J,rfl,rfl,rfl,rfl⟩|⟨b,a',J,rfl,rfl,am,A⟩
 .refine ⟨.int .i64 ((min a.length 0:Nat):Int),Γ,?_,.refl Γ,?_,?_⟩
  .simp only[Nat.min_zero]at e
   simp[akH,run_underlying p,k,sizeOf,typeInfo,q,s,e,goInt]
  .rw[List.take_zero,Ef,Ee (eP l)]
   exact g
  .simp[aL,aB,aiw]
 .by_cases o:min a.length len=0
  .have W:c=[]:=ae4 (by rw[I,o];simp)
   have X:a.take len=[]:=ae4 (by rw[m,o])
   subst W
   refine⟨.int .i64 ((min a.length len:Nat):Int),Γ,?_,.refl Γ,?_,?_⟩
   .have B:Nat.min a.length len=0:=o
    rw[o]at e|-
    simp[akH,run_underlying p,k,sizeOf,typeInfo,q,s,B,e,storeCells,goInt]
   .rw[X,Ef,Ee (eP l)]
    exact g
   .simp[aL,aB,aiw]
  .have A:=A (by omega)
   subst A
   have⟨f,Y,Z,e3⟩:=J8 (P:=P) (lo:=lo) g l E J (new:=a.take len) (by rw[m];omega) V n
   refine⟨.int .i64 ((min a.length len:Nat):Int),f,?_,Z,e3,?_⟩
   .have B:(ai4 z (Nat.min a.length len) yx).run P Γ.w= .ok c.toArray Γ.w:=e
    have k6:Nat.min a.length len=min a.length len:=rfl
    simp[akH,run_underlying p,k,sizeOf,typeInfo,q,s,B,Y,goInt,k6]
   .simp[aL,aB,aiw]
def XK(e:aZ Γ H){v:aw}(l:aB Γ d yd)(h:rv P H t d=some (v,H')):
  ∃z c,(alo #[t] ty #[yd]).run P Γ.w= .ok z c.w/\Γ.cL c/\aZ c H'/\aL c v z:=by
 unfold rv at h
 split at h
 case h_2=>cases h
 rename_i el O bytes n Q R S len x
 split at h
 case h_2=>cases h
 rename_i z rows f
 split at h
 case isFalse=>cases h
 rename_i hc
 obtain⟨y,rfl,A⟩:=hc
 simp only[ab1,aca]at h
 obtain⟨rfl,rfl⟩:=h
 have⟨o,i,B,C,T,_,D,U,E⟩:=jz x
 simp only[aB]at l
 obtain⟨V,W,a,cap,p,_,rfl,g⟩:=l
 have⟨X,q,Y,Z⟩:=e.obj f
 rw[p]at q
 cases q
 have g:=g rfl
 have r:∀c,aL c unit (.tuple #[]):=fun c=>by simp only[aL,bT];exact⟨#[],rfl,rfl⟩
 by_cases s:len=0
 .subst s
  refine⟨_,Γ,?_,.refl Γ,?_,r Γ⟩
  .cases a<;>simp[alo,run_underlying o]
  .rw[alG,Ef,Ee (eP f)]
   exact e
 .rcases g with⟨u,rfl,rfl,rfl,F⟩|⟨b,a',u,rfl,rfl,aa,j⟩
  .exact absurd F s
  .have j:=j (by omega)
   subst j
   obtain⟨m,rfl⟩:∃m,len=m+1:=⟨len-1,by omega⟩
   have G:aY Γ (ahv (m+1) n).flatten (aiy B.cells (m+1)).toList:=by
    rw[Hz]
    have I:=oJ (Γ:=Γ) E
    generalize m+1=k
    induction k with
    |zero=>simp[aY]
    |succ k J=>
     rw[ajP,ajP,aiI,aiI]
     exact su I J
   obtain⟨c,K,L,M⟩:=J8 (P:=P) e f p u (new:=ahv (m+1) n) (by simpa using y) (fun ab N=>by rw[ala N];exact A) G
   exact⟨.tuple #[],c,by simp[alo,run_underlying o,zeroValue,typeInfo,C,D,K],L,M,r c⟩
end Go.Nx
namespace Go.Nx
variable{P:Program}{g b:Bool}{t e:TypeId}{Γ:az}{H:List Ob}{y:Value}{rows:List (List ab)}{w:World}{l:ab}{op:BinOp}{size:Nat}
def L7{s f c n:Nat}(h:fo P s f=some (c,n,g)):
  ∃b a,P.underlying s=some (.struct b)/\b[f]?=some a/\a.offset=c/\tk P a.type=some (g,n):=by
 unfold fo at h
 split at h
 .rename_i b d
  split at h
  .rename_i a e
   simp only[ab4,aca,Prod.exists]at h
   obtain⟨j,k,i,rfl,rfl,rfl⟩:=h
   exact⟨b,a,d,e,rfl,i⟩
  .cases h
 .cases h
def Al{t n s:Nat}(h:ar P t=some (n,s,g)):∃e,P.underlying t=some (.array n e)/\tk P e=some (g,s):=by
 unfold ar at h;split at h
 .rename_i c e a;simp only[ab4,aca,Prod.exists]at h;obtain⟨d,f,b,rfl,rfl,rfl⟩:=h;exact⟨e,a,b⟩
 .cases h
def wI(f:aZ Γ H){h c i k:Nat}(hc:aB Γ (.ptr h c i k) y){z:Nat}(g:obj H h c=some (z,rows)):
  ∃a b,Γ.hs[h]?=some (a,c)/\a.base=some b/\y= .pointer (some ⟨b,a.off+i*a.sz+k,none⟩):=by
 have⟨a,d,_,_⟩:=f.obj g
 simp only[aB]at hc
 obtain⟨m,n,p,e,_,rfl,j⟩:=hc
 rw[d]at e
 cases e
 obtain⟨b,l,rfl⟩:=j rfl
 exact⟨a,b,d,l,rfl⟩
def Il{h c i k b:Nat}{a:fm}{p:Option Addr}(d:Γ.hs[h]?=some (a,c))(e:a.base=some b)(hp:p=some ⟨b,a.off+i*a.sz+k,none⟩):aB Γ (.ptr h c i k) (.pointer p):=by simp only[aB];exact⟨a,c,p,d,ad3 _,rfl,fun _=>⟨b,e,hp⟩⟩
def Q0{s f a n b o:Nat}(h:fo P s f=some (a,n,g))(hn:n≠0):
  (ak3 s (.pointer (some ⟨b,o,none⟩)) f).run P w= .ok (.pointer (some ⟨b,o+a,none⟩)) w:=by
 obtain⟨j,k,c,d,rfl,e⟩:=L7 h
 have i:=(pt e w).2
 simp[ak3,ali,run_underlying c,d,fieldPlace,i,hn,jG]
def Pl(e:aZ Γ H){s f d n:Nat}(h:fo P s f=some (d,n,g))(hn:n≠0)(hc:aB Γ l y):
  (∀a c i k z rows,l= .ptr a c i k->obj H a c=some (z,rows)->∃v,(ak3 s y f).run P Γ.w= .ok v Γ.w/\aB Γ (.ptr a c i (k+d)) v)/\
  (∀rows i k,l= .aJ rows i k->∃v,(ak3 s y f).run P Γ.w= .ok v Γ.w/\aB Γ (.aJ rows i (k+d)) v):=by
 constructor
 .rintro a c i k z rows rfl j
  obtain⟨u,b,m,p,rfl⟩:=wI e hc j
  exact⟨_,Q0 h hn,Il m p (by rw[ajg])⟩
 .rintro rows i k rfl
  simp only[aB]at hc
  obtain⟨b,o,q,rfl,r,t⟩:=hc
  refine⟨_,Q0 h hn,?_⟩
  simp only[aB]
  exact⟨b,o,q,by rw[<-ajg],r,t⟩
def aeQ{k:IntKind}{m n:Int}(h:Dt op k m n=some l)(t:TypeId):
  ∃y,(binOp op t (.int k m) (.int k n)).run P Γ.w= .ok y Γ.w/\aB Γ l y:=by
 unfold Dt at h
 cases op<;>simp only[reduceCtorEq]at h
 all_goals first
  |(simp only[ab1]at h;subst h;exact⟨_,by simp[binOp,Op.intArith,Op.intCmp];rfl,by simp[aB,aiw]⟩)
  |(simp only[ab1]at h;subst h;exact⟨_,by simp[binOp,amc];rfl,by simp[aB,aiw]⟩)
  |(split at h
    .cases h
    .rename_i hn
     simp only[ab1]at h
     subst h
     exact⟨_,by simp[binOp,Op.shift,hn];rfl,by simp[aB,aiw]⟩)
  |(split at h
    .cases h
    .rename_i hn
     simp only[ab1]at h
     subst h
     exact⟨_,by simp[binOp,Op.intDiv,hn];rfl,by simp[aB,aiw]⟩)
def Pn(t:TypeId)(m n:Bool)(op:BinOp)(a:op= .eql\/op= .neq)(b:P.underlying t=some .bool):
  (binOp op t (.bool m) (.bool n)).run P w= .ok (.bool (if op= .eql then m==n else !(m==n))) w:=by
 have:=run_equalIn_bool' (P:=P) w 9999 t m n b
 rcases a with rfl|rfl<;>simp[binOp,Op.equal,Op.maxDepth,this]
def PV(b:P.underlying t=some (.slice e))(a:Option Addr)(n c:Nat)(op:BinOp)(f:op= .eql\/op= .neq):
  (binOp op t (.slice a n c) (.slice none 0 0)).run P w= .ok (.bool (if op= .eql then a.isNone else !a.isNone)) w:=by
 have h:∀d,(alu (d+1) t (.slice a n c) (.slice none 0 0)).run P w= .ok a.isNone w:=by
  intro d
  cases a<;>simp[alu,run_underlying b]
 have h:=h 9999
 rcases f with rfl|rfl<;>simp[binOp,Op.equal,Op.maxDepth,h]
def R8(f:aZ Γ H)(h:rj H l=some b)(hc:aB Γ l y):∃a n c,y= .slice a n c/\a.isNone=b:=by
 unfold rj at h;split at h
 .split at h
  .simp only[ab1]at h;subst h;simp only[aB]at hc;rcases hc with⟨_,d⟩|⟨a,cap,g,rfl,_⟩
   .cases d
   .exact ⟨some a,_,cap,rfl,rfl⟩
  .cases h
 .simp only[ab1]at h;subst h;simp only[aB]at hc;obtain⟨a,cap,g,rfl,_⟩:=hc;exact⟨some a,_,cap,rfl,rfl⟩
 .simp only[ab1]at h;subst h;simp only[aB]at hc;exact⟨none,0,0,hc.1,rfl⟩
 .rename_i p q r len;split at h
  .rename_i i j;have⟨z,rows⟩:=i;split at h
   .rename_i s;simp only[ab1]at h;subst h;have⟨t,k,_,_⟩:=f.obj j;simp only[aB]at hc;obtain⟨u,v,a,cap,e,_,rfl,m⟩:=hc;rw[k]at e;cases e;rcases m rfl with⟨_,_,_,_,d⟩|⟨b,o,_,rfl,_⟩
    .omega
    .exact ⟨some o,_,_,rfl,rfl⟩
   .cases h
  .cases h
 .cases h
def ab6{b:ab}(h:pG b=true):b= .v (.slice none 0 0):=by
 unfold pG at h;split at h
 .rfl
 .cases h
def Lt(op:BinOp)(t:TypeId)(x y:Operand)(a b:Option Addr)(n m c d:Nat):(eqGuard op t x y (.slice a n c) (.slice b m d)).run P w= .ok () w:=by cases op<;>simp[eqGuard]
def agY(op:BinOp)(t:TypeId)(x y:Operand)(k a:IntKind)(m n:Int):(eqGuard op t x y (.int k m) (.int a n)).run P w= .ok () w:=by cases op<;>simp[eqGuard]
def KQ(op:BinOp)(t:TypeId)(x y:Operand)(m n:Bool):(eqGuard op t x y (.bool m) (.bool n)).run P w= .ok () w:=by cases op<;>simp[eqGuard]
def KR{s:List Sh}(d:eqs P t=some s){e f:List ab}{a c:Array Value}(i:aY Γ e a.toList)(j:aY Γ f c.toList)(k:eL s e f=some b)(x y:Operand)(op:BinOp)(l:op= .eql\/op= .neq):
  (eqGuard op t x y (.agg a) (.agg c)).run P Γ.w= .ok () Γ.w/\(binOp op t (.agg a) (.agg c)).run P Γ.w= .ok (.bool (if op= .eql then b else !b)) Γ.w:=by
 unfold eqs at d
 split at d
 case h_2=>cases d
 rename_i p g
 split at d
 .cases d
 .rename_i m
  refine⟨run_eqGuard_agg (P:=P) Γ.w op t x y a c (by simpa using m),?_⟩
  have h:=Hf (P:=P) (w:=Γ.w) 8 t s d e f a.toList c.toList b i j k 10000 (by omega)
  have n:lu P t a.toList= .agg a:=by simp[lu,g]
  have o:lu P t c.toList= .agg c:=by simp[lu,g]
  rw[n,o]at h
  rcases l with rfl|rfl
  .rw[run_eql_struct,h];simp
  .rw[run_neq_struct,h];simp
def Yp(o:aZ Γ H){u v:aw}(h:oA P H op t u v=some l)(x y:Operand){a b:Value}(f:aL Γ u a)(g:aL Γ v b):
  (eqGuard op t x y a b).run P Γ.w= .ok () Γ.w/\∃z,(binOp op t a b).run P Γ.w= .ok z Γ.w/\aB Γ l z:=by
 unfold oA at h
 split at h
 .rename_i k m B n
  split at h
  .rename_i A
   subst A
   simp only[aL,aB]at f g
   obtain⟨rfl,_⟩:=f
   obtain⟨rfl,_⟩:=g
   exact⟨agY op t x y k k m n,aeQ h t⟩
  .cases h
 .rename_i m n
  simp only[aL,aB]at f g
  obtain⟨rfl,_⟩:=f
  obtain⟨rfl,_⟩:=g
  split at h
  case h_2=>cases h
  rename_i j
  split at h
  .simp only[ab1]at h
   subst h
   exact⟨KQ _ t x y m n,_,Pn t m n .eql (.inl rfl) j,by simp[aB,aiw]⟩
  .simp only[ab1]at h
   subst h
   exact⟨KQ _ t x y m n,_,Pn t m n .neq (.inr rfl) j,by simp[aB,aiw]⟩
  .cases h
 .rename_i C D
  split at h
  case h_2=>cases h
  rename_i s p
  simp only[aL]at f g
  obtain⟨E,rfl,q⟩:=f
  obtain⟨F,rfl,r⟩:=g
  split at h
  .simp only[ab4]at h
   obtain⟨e,i,rfl⟩:=h
   have:=KR p q r i x y .eql (.inl rfl)
   exact⟨this.1,_,this.2,by simp[aB,aiw]⟩
  .simp only[ab4]at h
   obtain⟨e,i,rfl⟩:=h
   have:=KR p q r i x y .neq (.inr rfl)
   exact⟨this.1,_,this.2,by simp[aB,aiw]⟩
  .cases h
 .rename_i c d _ _
  split at h
  case isFalse=>cases h
  rename_i hn
  have:=ab6 hn
  subst this
  simp only[aL]at f g
  simp only[aB]at g
  obtain⟨rfl,_⟩:=g
  split at h
  case h_2=>cases h
  rename_i e j
  split at h
  .simp only[ab4]at h
   obtain⟨e,i,rfl⟩:=h
   obtain⟨a,n,c,rfl,rfl⟩:=R8 o i f
   exact⟨Lt _ t x y _ _ _ _ _ _,_,PV j a n c .eql (.inl rfl),by simp[aB,aiw]⟩
  .simp only[ab4]at h
   obtain⟨e,i,rfl⟩:=h
   obtain⟨a,n,c,rfl,rfl⟩:=R8 o i f
   exact⟨Lt _ t x y _ _ _ _ _ _,_,PV j a n c .neq (.inr rfl),by simp[aB,aiw]⟩
  .cases h
 .cases h
def mi(k:IntKind)(i:Int)(y:Nat)(a:BoundsCode)(b:0<=i)(c:i<=y):(ama (.int k i) y a).run P w= .ok i.toNat w:=by simp[ama,asIntOf,b,c]
def wN(c:P.underlying t=some (.slice e))(d:(sizeOf e).run P w= .ok size w)(a:Option Addr)(n cap:Nat)(f g:Option Value)(l h:Int)
  (m:(f=none/\l=0)\/∃k,f=some (.int k l)) (o:(g=none/\h=n)\/∃k,g=some (.int k h)) (i:0<=l) (q:l<=h) (r:h<=n) (s:n<=cap):
  (ajy t (.slice a n cap) f g none).run P w= .ok (.slice (if cap=l.toNat then a else a.map (·.add (l.toNat*size))) (h.toNat-l.toNat) (cap-l.toNat)) w:=by
 have u:((h.toNat:Nat):Int)=h:=by omega
 rcases m with⟨rfl,rfl⟩|⟨k,rfl⟩<;>rcases o with⟨rfl,rfl⟩|⟨j,rfl⟩
 .simp[ajy,run_underlying c,akO,ajX,d]
 .have b:=mi (P:=P) (w:=w) j h cap .sliceAcap (by omega) (by omega)
  simp[ajy,run_underlying c,akO,ajX,d,b]
 .have b:=mi (P:=P) (w:=w) k l n .sliceB i (by omega)
  simp[ajy,run_underlying c,akO,ajX,d,b]
 .have p:=mi (P:=P) (w:=w) j h cap .sliceAcap (by omega) (by omega)
  have b:=mi (P:=P) (w:=w) k l h.toNat .sliceB i (by omega)
  simp[ajy,run_underlying c,akO,ajX,d,b,p]
def Yu{a:Addr}{cap d:Nat}(u:rows.length<=cap)(p:rows=[]\/(a.spot=none/\Γ.F a.block d/\bE Γ a.block d a.off rows))(q:∀r∈rows,r.length=size)
  (l h:Nat) (v:l<=h) (g:h<=rows.length):
  ∃c j k,Value.slice (if cap=l then some a else some (a.add (l*size))) (h-l) (cap-l)= .slice (some c) ((rows.take h).drop l).length j/\((rows.take h).drop l).length<=j/\
   ((rows.take h).drop l=[]\/(c.spot=none/\Γ.F c.block k/\bE Γ c.block k c.off ((rows.take h).drop l))):=by
 have e:((rows.take h).drop l).length=h-l:=by simp;omega
 refine⟨if cap=l then a else a.add (l*size),cap-l,d,?_,by rw[e];omega,?_⟩
 .rw[e];congr 1;split<;>rfl
 .by_cases w:h=l
  .left
   exact ae4 (by rw[e];omega)
  .right
   rcases p with rfl|⟨m,n,f⟩
   .simp at g;omega
   .have t:size=d:=by
     cases rows with
     |nil=>simp at g;omega
     |cons r x=>rw[<-q r (by simp),(jL f (i:=0) (r:=r) (by simp)).1]
    subst t
    rw[if_neg (by omega)]
    have⟨b,o,s⟩:=a
    simp only at m n f
    subst m
    rw[jG]
    exact⟨rfl,n,ml (kJ f h) l⟩
def Yb(W:aZ Γ H){x r:ab}{p q:Option Int}(c:qF P H t x p q=some r)(hc:aB Γ x y)(d f:Option Value)
  (L:(d=none/\p=none)\/∃k n,d=some (.int k n)/\p=some n) (M:(f=none/\q=none)\/∃k n,f=some (.int k n)/\q=some n):
  ∃z,(ajy t y d f none).run P Γ.w= .ok z Γ.w/\aB Γ r z:=by
 unfold qF at c
 split at c
 case h_2=>cases c
 rename_i e size X n Y hn
 have⟨bytes,zz⟩:=X
 obtain⟨u,i,zv,Z,rfl,_,_,_,_⟩:=jz Y
 have v:(sizeOf e).run P Γ.w= .ok i.size Γ.w:=by simp[sizeOf,typeInfo,Z]
 split at c
 case isFalse=>cases c
 rename_i hb
 have⟨N,O,Q⟩:=hb
 have A:(d=none/\p.getD 0=0)\/∃k,d=some (.int k (p.getD 0)):=by
  rcases L with⟨g,j⟩|⟨k,aa,g,j⟩
  .exact .inl ⟨g,by simp[j]⟩
  .exact .inr ⟨k,by simp[g,j]⟩
 have B:(f=none/\q.getD n=n)\/∃k,f=some (.int k (q.getD n)):=by
  rcases M with⟨g,j⟩|⟨k,aa,g,j⟩
  .exact .inl ⟨g,by simp[j]⟩
  .exact .inr ⟨k,by simp[g,j]⟩
 generalize p.getD 0=l at*
 generalize q.getD (n:Int)=h at*
 clear L M
 have frozen:∀rows:List (List ab),n=rows.length->(∀r∈rows,r.length=i.size)->(∃a cap J,y= .slice (some a) rows.length cap/\rows.length<=cap/\(rows=[]\/(a.spot=none/\Γ.F a.block J/\bE Γ a.block J a.off rows)))->
   ∃z,(ajy t y d f none).run P Γ.w= .ok z Γ.w/\∃o R S,z= .slice (some o) ((rows.take h.toNat).drop l.toNat).length R/\((rows.take h.toNat).drop l.toNat).length<=R/\
    ((rows.take h.toNat).drop l.toNat=[]\/(o.spot=none/\Γ.F o.block S/\bE Γ o.block S o.off ((rows.take h.toNat).drop l.toNat))):=by
  rintro rows rfl C⟨a,cap,J,rfl,T,h3⟩
  have m:=wN (P:=P) (w:=Γ.w) u v (some a) rows.length cap d f l h A B N O Q T
  simp only[ajO]at m
  exact⟨_,m,Yu T h3 C l.toNat h.toNat (by omega) (by omega)⟩
 split at c
 .rename_i rows
  split at c
  case isFalse=>cases c
  rename_i C
  cases c
  simp only[qd,ab1]at hn
  simp only[aB]at hc
  rcases hc with⟨rfl,rfl⟩|hc
  .simp at hn
   subst hn
   have D:l=0:=by omega
   have E:h=0:=by omega
   subst D E
   have m:=wN (P:=P) (w:=Γ.w) u v none 0 0 d f 0 0 A (by simpa using B) (by omega) (by omega) (by omega) (by omega)
   exact⟨_,m,by simp[aB]⟩
  .have ⟨z,s,K⟩:=frozen rows hn.symm C hc
   exact⟨z,s,by simp only[aB];exact .inr K⟩
 .rename_i rows
  split at c
  case isFalse=>cases c
  rename_i C
  cases c
  simp only[qd,ab1]at hn
  simp only[aB]at hc
  have⟨z,s,K⟩:=frozen rows hn.symm C hc
  exact⟨z,s,by simp only[aB];exact K⟩
 .rename_i hd U V len
  split at c
  case h_2=>cases c
  rename_i z rows ho
  split at c
  case isFalse=>cases c
  rename_i hz
  cases c
  simp only[qd,ab1]at hn
  subst hn
  have⟨G,g,hm,j⟩:=W.obj ho
  simp only[aB]at hc
  obtain⟨ae,af,a,cap,s,_,rfl,g3⟩:=hc
  rw[g]at s
  cases s
  rcases g3 rfl with⟨I,rfl,rfl,rfl,rfl⟩|⟨b,o,I,rfl,rfl,ag,ha⟩
  .have D:l=0:=by omega
   have E:h=0:=by omega
   subst D E
   have m:=wN (P:=P) (w:=Γ.w) u v none 0 0 d f 0 0 A (by simpa using B) (by omega) (by omega) (by omega) (by omega)
   refine⟨_,m,?_⟩
   simp only[aB]
   exact⟨G,U,none,0,g,ad3 _,by simp,fun _=> .inl ⟨I,rfl,rfl,by simp,by simp⟩⟩
  .simp only[I]at j
   have ad:G.sz=i.size:=by rw[j.1,hz]
   have m:=wN (P:=P) (w:=Γ.w) u v (some o) len (G.cap-V) d f l h A B N O Q (by omega)
   refine⟨_,m,?_⟩
   simp only[aB]
   refine⟨G,U,_,_,g,ad3 _,rfl,fun _=> .inr ⟨b,if G.cap-V=l.toNat then o else o.add (l.toNat*i.size),I,by split<;>rfl,by omega,by omega,fun ah=>?_⟩⟩
   rw[if_neg (by omega),ha (by omega),jG,ad,air,ajg]
 .cases c
  simp only[qd,ab1]at hn
  subst hn
  simp only[aB]at hc
  obtain⟨rfl,_⟩:=hc
  have D:l=0:=by omega
  have E:h=0:=by omega
  subst D E
  have m:=wN (P:=P) (w:=Γ.w) u v none 0 0 d f 0 0 A (by simpa using B) (by omega) (by omega) (by omega) (by omega)
  exact⟨_,m,by simp[aB,aiw]⟩
 .cases c
def RE(a:P.underlying t=some (.slice e))(c:(sizeOf e).run P w= .ok size w)(b o n cap:Nat)(k:IntKind)(i:Int)(d:0<=i)(f:i<n):
  (akI t (.slice (some ⟨b,o,none⟩) n cap) (.int k i)).run P w= .ok (.pointer (some ⟨b,o+i.toNat*size,none⟩)) w:=by
 simp[akI,asIntOf,run_underlying a,d,f,c,jG]
def Hu{n:TypeId}(a:P.underlying t=some (.array n e))(c:(sizeOf e).run P w= .ok size w)(b o:Nat)(k:IntKind)(i:Int)(d:0<=i)(f:i<n):
  (akI t (.pointer (some ⟨b,o,none⟩)) (.int k i)).run P w= .ok (.pointer (some ⟨b,o+i.toNat*size,none⟩)) w:=by
 simp[akI,ali,asIntOf,run_underlying a,d,f,c,jG]
def aae(I:aZ Γ H){x r:ab}{i:Int}(d:sO P H t x i=some r)(hc:aB Γ x y)(k:IntKind):
  ∃z,(akI t y (.int k i)).run P Γ.w= .ok z Γ.w/\aB Γ r z:=by
 unfold sO at d
 split at d
 .rename_i L M lo len
  split at d
  case h_2=>cases d
  rename_i e size A z rows B C
  have⟨bytes,N⟩:=A
  split at d
  case isFalse=>cases d
  rename_i f
  obtain⟨O,Q,rfl,b4⟩:=f
  cases d
  obtain⟨m,D,R,E,rfl,_,_,_,_⟩:=jz B
  have G:(sizeOf e).run P Γ.w= .ok D.size Γ.w:=by simp[sizeOf,typeInfo,E]
  have⟨S,j,hm,J⟩:=I.obj C
  simp only[aB]at hc
  obtain⟨ae,af,a,cap,n,_,rfl,p⟩:=hc
  rw[j]at n
  cases n
  rcases p rfl with⟨q,rfl,rfl,rfl,rfl⟩|⟨b,a',q,rfl,rfl,ag,T⟩
  .omega
  .simp only[q]at J
   rw[T (by omega)]
   refine⟨_,RE m G b _ len _ k i O Q,Il j q ?_⟩
   rw[J.1,air]
   simp[ajg]
 .rename_i L M ri k'
  split at d
  case h_2=>cases d
  rename_i ah size g U V C
  have⟨z,rows⟩:=U
  split at d
  case isFalse=>cases d
  rename_i f
  cases d
  have⟨e,m,W⟩:=Al V
  obtain⟨S,b,j,q,rfl⟩:=wI I hc C
  exact⟨_,Hu m (pt W Γ.w).2 b _ k i f.1 f.2,Il j q (by rw[ajg])⟩
 .rename_i X ai
  split at d
  case h_2=>cases d
  rename_i e size A rows B h
  have⟨bytes,N⟩:=A
  split at d
  case isFalse=>cases d
  rename_i f
  split at d
  case h_2=>cases d
  rename_i row Y
  split at d
  case isFalse=>cases d
  rename_i Z
  cases d
  obtain⟨m,D,R,E,rfl,_,_,_,_⟩:=jz B
  have G:(sizeOf e).run P Γ.w= .ok D.size Γ.w:=by simp[sizeOf,typeInfo,E]
  have hF:∃a cap l,y= .slice (some a) rows.length cap/\(rows=[]\/(a.spot=none/\Γ.F a.block l/\bE Γ a.block l a.off rows)):=by
   cases x with
   |aj rs=>
    simp only[view,ab1]at h
    subst h
    simp only[aB]at hc
    rcases hc with⟨_,rfl⟩|⟨a,cap,l,j,_,u⟩
    .simp at f;omega
    .exact ⟨a,cap,l,j,u⟩
   |eU rs=>
    simp only[view,ab1]at h
    subst h
    simp only[aB]at hc
    have⟨a,cap,l,j,_,u⟩:=hc
    exact⟨a,cap,l,j,u⟩
   |v w=>
    unfold view at h
    split at h<;>first|(rename_i aa;cases aa;done)|skip
    all_goals(try (simp only[ab1]at h;subst h;simp at f;omega))
    all_goals(try cases h)
   |sl a b c ad=>exact absurd rfl (X a b c ad)
   |_=>simp[view]at h
  obtain⟨a,cap,l,rfl,u⟩:=hF
  rcases u with rfl|⟨n,K,p⟩
  .simp at f;omega
  .have ⟨b,o,s⟩:=a
   simp only at n K p
   subst n
   refine⟨_,RE m G b o rows.length cap k i f.1 f.2,?_⟩
   simp only[aB]
   refine⟨b,o,l,?_,K,p⟩
   rw[<-Z,(jL p Y).1]
   simp
end Go.Nx
namespace Go.Nx
variable{Γ:az}{cs z:List ab}{vs:Array (Nat×Value)}{P:Program}{t e:TypeId}{parts:List (Nat×Option aw)}{size:Nat}{H:List Ob}
def RF{cells:List ab}{f vs:List Value}(h:aY Γ cells f)(g:aY Γ cs vs)(k:Nat)(i:k+cs.length<=cells.length):aY Γ (kK cells k cs) (kK f k vs):=by
 have m:=fI h;have n:=fI g;refine tW (by rw[yF,yF,m]) fun j l y c a=>?_;rw[vC _ _ _ _ i]at c;rw[vC _ _ _ _ (by omega)]at a;rw[n]at a;split at c
 .rename_i d;rw[if_pos d]at a;have⟨z,b,e⟩:=kX g c;rw[a]at b;cases b;exact e
 .rename_i d;rw[if_neg d]at a;have⟨z,b,e⟩:=kX h c;rw[a]at b;cases b;exact e
def Mq(a:Nat):∀(l:List Value) (k:Nat) (cs:Array Value),((l.zipIdx k).foldl (fun(cs:Array Value) (p:Value×Nat)=>cs.setIfInBounds (a+p.2) p.1) cs).toList=kK cs.toList (a+k) l
 |[],k,cs=>rfl
 |x::l,k,cs=>by
  simp only[List.zipIdx_cons,ai2]
  rw[Mq a l (k+1)]
  simp[kK,amE,ajg]
def LS(a:Nat)(v cs:Array Value):(v.zipIdx.foldl (fun cs (p:Value×Nat)=>cs.setIfInBounds (a+p.2) p.1) cs).toList=kK cs.toList a v.toList:=by rw[<-Array.foldl_toList,Array.toList_zipIdx];simpa using Mq a v.toList 0 cs
def mJ(Γ:az):List (Nat×Option aw)->List (Nat×Value)->Prop
 |[],b=>b=[]
 |(i,x)::r,b=>∃v c,b=(i,v)::c/\(∀a,x=some a->aL Γ a v)/\mJ Γ r c
def Bj{Γ:az}(d:Nat->Option (Nat×Nat))(e:List (Nat×Nat))(hp:∀(i:Nat) (p:Nat×Nat),e[i]?=some p->d i=some p):
  ∀(parts:List (Nat×Option aw)) (vs:List (Nat×Value)) (cells cs:List ab) (b:Array Value),mJ Γ parts vs->aY Γ cells b.toList->vH e cells parts=some cs->
   ∃out,ak7 d b vs=some out/\aY Γ cs out.toList
 |[],vs,cells,cs,b,c,hc,a=>by
  simp only[mJ]at c
  subst c
  simp only[vH,ab1]at a
  subst a
  exact⟨b,rfl,hc⟩
 |(i,x)::r,vs,cells,cs,b,c,hc,a=>by
  simp only[mJ]at c
  obtain⟨v,h,rfl,j,k⟩:=c
  simp only[vH]at a
  split at a
  case h_2=>cases a
  rename_i f size l m
  split at a
  case h_2=>cases a
  rename_i n o
  split at a
  case isFalse=>cases a
  rename_i y
  have g:=wM (j l rfl) o
  have q:=fI g
  have s:=fI hc
  simp only[aje]at q s
  have⟨out,t,u⟩:=Bj d e hp r h (kK cells f n) cs (v.cells.zipIdx.foldl (fun cs (p:Value×Nat)=>cs.setIfInBounds (f+p.2) p.1) b) k (by rw[LS];exact RF hc g f (by omega)) a
  refine⟨out,?_,u⟩
  have w:=hp i _ m
  simp only[ak7,w]
  rw[if_neg (by simp;omega)]
  exact t
def xu(h:zc P t=some z):∃i a,P.info? t=some i/\i.zero=some a/\a.cells.size=i.size/\leaves a=some z:=by
 unfold zc at h;split at h
 .rename_i i b;split at h
  .rename_i a c;split at h
   .rename_i d;exact⟨i,a,b,c,d,h⟩
   .cases h
  .cases h
 .cases h
def ZK{r:List (Nat×Nat)}(h:cm P t=some (z,r))(s:mJ Γ parts vs.toList)(u:vH r z parts=some cs):
  ∃out,(Instr.build t vs).run P Γ.w= .ok (.agg out) Γ.w/\aY Γ cs out.toList:=by
 unfold cm at h
 split at h
 .rename_i C b
  split at h
  case h_2=>cases h
  rename_i c v d y
  simp only[ab1,aca]at h
  obtain⟨rfl,rfl⟩:=h
  have⟨i,f,g,j,A,l⟩:=xu d
  have⟨out,o,q⟩:=Bj (Γ:=Γ) (v.toArray[·]?) v (fun i p hp=>by simpa using hp) parts vs.toList c cs f.cells s (oJ l) u
  refine⟨out,run_build Γ.w t vs out ?_,q⟩
  unfold amn
  simp only[g,b,j,y]
  exact o
 .rename_i n e b
  split at h
  case h_2=>cases h
  rename_i c x d B
  simp only[ab1,aca]at h
  obtain⟨rfl,rfl⟩:=h
  have⟨i,f,g,j,A,l⟩:=xu d
  have⟨out,o,q⟩:=Bj (Γ:=Γ) (fun k=>some (k*x.size,x.size)) _ (fun k p hp=>by
   simp only[adf,ab4]at hp
   obtain⟨m,a,rfl⟩:=hp
   have⟨D,a⟩:=abW.1 a
   simp at a
   rw[a]) parts vs.toList c cs f.cells s (oJ l) u
  refine⟨out,run_build Γ.w t vs out ?_,q⟩
  unfold amn
  simp only[g,b,j,B]
  exact o
 .cases h
def Mr{b:Type}(l:List b)(c:0<l.length):∀(n j:Nat),(ahv n l).flatten[j]?=if j<n*l.length then l[j % l.length]? else none
 |0,j=>by simp
 |n+1,j=>by
  rw[ajP,aiI]
  by_cases h:j<l.length
  .rw[abE h,if_pos (by rw[air];omega),amh h]
  .rw[aea (by omega),Mr l c n]
   rw[Nat.mod_eq_sub_mod (by omega:l.length<=j)]
   by_cases a:j< (n+1)*l.length
   .rw[if_pos (by rw[air]at a;omega),if_pos a]
   .rw[if_neg (by rw[air]at a;omega),if_neg a]
def LX(z:Array Value)(n size:Nat)(a:z.size=size)(b:0<size):(madeCells z (n*size)).toList=(ahv n z.toList).flatten:=by
 apply aju;intro j;rw[Mr z.toList (by simpa[a]using b) n j];simp only[madeCells,Array.toList_map,Array.toList_range,adf,aje,a];by_cases h:j<n*size
 .rw[if_pos h,ajF h];have c:j % size<z.size:=by rw[a];exact akE _ b
  simp[c]
 .rw[if_neg h];simp[h]
def PN{c:Type}{size:Nat}:∀(rows:List (List c)) (i:Nat) (cs:List c),(∀r∈rows,r.length=size)->cs.length=size->i<rows.length->(rows.set i cs).flatten=kK rows.flatten (i*size) cs
 |[],i,cs,_,_,b=>by simp at b
 |r::a,i,cs,d,e,b=>by
  have m:=d r (by simp)
  have n:∀(a:List (List c)),(∀r∈a,r.length=size)->a.flatten.length=a.length*size:=by
   intro a h
   induction a with
   |nil=>simp
   |cons x p f=>simp only[aiI,agc,aip,h x (by simp),f (fun y o=>h y (by simp[o])),air];omega
  have k:=n a (fun x g=>d x (by simp[g]))
  apply aju
  intro j
  rw[vC _ _ _ _ (by
   simp only[aiI,agc,m,k,e]
   have:(i+1)*size<=(a.length+1)*size:=aiN _ (by simp at b;omega)
   rw[air,air]at this
   omega)]
  cases i with
  |zero=>
   simp only[ajQ,aiI,akX,akg,true_and,aiW,Nat.sub_zero]
   by_cases h:j<cs.length
   .rw[if_pos h,abE h]
   .rw[if_neg h,aea (by omega),aea (by omega)]
    congr 1
    omega
  |succ i=>
   simp only[alV,aiI]
   have f:=PN a i cs (fun x g=>d x (by simp[g])) e (by simpa using b)
   by_cases h:j<r.length
   .rw[abE h,if_neg (by rw[air];omega),abE h]
   .rw[aea (by omega),f,vC _ _ _ _ (by
     rw[k,e]
     have:(i+1)*size<=a.length*size:=aiN _ (by simp at b;omega)
     rw[air]at this
     omega)]
    by_cases l:i*size<=j-r.length/\j-r.length<i*size+cs.length
    .rw[if_pos l,if_pos (by rw[air];omega)]
     congr 1
     rw[air]
     omega
    .rw[if_neg l,if_neg (by rw[air];omega),aea (by omega)]
def Sy{Γ:az}{size:Nat}:∀(parts:List (Nat×Option aw)) (vs:List (Nat×Value)) (rows out:List (List ab)) (b:Array Value),mJ Γ parts vs->(∀r∈rows,r.length=size)->aY Γ rows.flatten b.toList->tR size rows parts=some out->
   ∃cells,ak7 (fun i=>some (i*size,size)) b vs=some cells/\aY Γ out.flatten cells.toList/\(∀r∈out,r.length=size)/\out.length=rows.length
 |[],vs,rows,out,b,d,c,hc,a=>by
  simp only[mJ]at d
  subst d
  simp only[tR,ab1]at a
  subst a
  exact⟨b,rfl,hc,c,rfl⟩
 |(i,x)::r,vs,rows,out,b,d,c,hc,a=>by
  simp only[mJ]at d
  obtain⟨v,k,rfl,l,m⟩:=d
  simp only[tR]at a
  split at a
  case h_2=>cases a
  rename_i n
  split at a
  case h_2=>cases a
  rename_i f o
  split at a
  case isFalse=>cases a
  rename_i e
  have g:=wM (l n rfl) o
  have q:=fI g
  have j:=fI hc
  rw[tg c]at j
  simp only[aje]at q j
  have s:(i+1)*size<=rows.length*size:=aiN _ (by omega)
  rw[air]at s
  have t:=PN rows i f c e.1 e.2
  have⟨cells,u,w,z,A⟩:=Sy r k (rows.set i f) out (v.cells.zipIdx.foldl (fun cs (p:Value×Nat)=>cs.setIfInBounds (i*size+p.2) p.1) b) m
   (fun y B=>by
    rcases ak4 B with h|h
    .exact c y h
    .rw[h];exact e.1)
   (by rw[LS,t];exact RF hc g _ (by rw[tg c,e.1];omega)) a
  refine⟨cells,?_,w,z,by simpa using A⟩
  simp only[ak7]
  rw[if_neg (by simp;omega)]
  exact u
def Kg{Γ:az}{z:List ab}{a:List Value}(h:aY Γ z a):∀n,aY Γ (ahv n z).flatten (ahv n a).flatten
 |0=>by simp[aY]
 |n+1=>by simpa[ajP]using su h (Kg h n)
def Ml{n bytes:Nat}(h:se P t=some (e,size,bytes,z))(q:0<size)(hn:n*size<=16777216)(s:z.length=size)(I:n<=maxLen)(u:mJ Γ parts vs.toList){out:List (List ab)}(v:tR size (ahv n z) parts=some out):
  ∃cells,(ako t n vs).run P Γ.w= .ok (.slice (some ⟨Γ.w.heap.size,0,none⟩) n n) (Γ.w.alloc (.cells cells e))/\aY Γ out.flatten cells.toList/\(∀r∈out,r.length=size)/\out.length=n/\cells.size=n*size:=by
 obtain⟨d,i,a,f,rfl,_,x,y,A⟩:=jz h
 have B:=oJ (Γ:=Γ) A
 have C:aY Γ (ahv n z).flatten (madeCells a.cells (n*i.size)).toList:=by
  rw[LX a.cells n i.size y q]
  exact Kg B n
 have⟨cells,D,g,j,b⟩:=Sy parts vs.toList _ out _ u (fun r E=>by rw[(List.mem_replicate.1 E).2];exact s) C v
 have l:=fI g
 rw[tg j,b]at l
 simp only[als,aje]at l b
 have F:¬(16777216<n*i.size):=by omega
 have m:(sizeOf e).run P Γ.w= .ok i.size Γ.w:=by simp[sizeOf,typeInfo,f]
 have c:ak7 (fun k=>some (k*i.size,i.size)) ((amM (n*i.size)).map (a.cells[· % a.cells.size]!)) vs.toList=some cells:=D
 have G:(ako t n vs).run P Γ.w= .ok (.slice (some ⟨Γ.w.heap.size,0,none⟩) n n) (Γ.w.alloc (.cells cells e)):=by
  by_cases o:n*i.size=0
  .have H:n=0:=by
    rcases Nat.mul_eq_zero.1 o with h|h
    .exact h
    .omega
   subst H
   have p:amM 0= #[]:=rfl
   simp only[akX,p,Array.map_empty]at c
   simp[ako,run_underlying d,m,p,c,newRow]
  .simp[ako,run_underlying d,m,F,o,zeroValue,typeInfo,f,x,c,newRow]
 refine⟨cells,G,g,j,by simpa using b,?_⟩
 omega
def Ty(b:aZ Γ H){n bytes:Nat}(h:se P t=some (e,size,bytes,z))(c:0<size)(hn:n*size<=16777216)(f:z.length=size)(d:n<=maxLen)(g:mJ Γ parts vs.toList){out:List (List ab)}(i:tR size (ahv n z) parts=some out):
  ∃y a,(ako t n vs).run P Γ.w= .ok y a.w/\Γ.cL a/\aZ a (H++[.live 0 size out])/\aB a (.sl H.length 0 0 n) y:=by
 have⟨cells,j,l,m,p,q⟩:=Ml h c hn f d g i
 refine⟨_,Γ.alloc cells e ⟨some Γ.w.heap.size,0,n,size⟩,j,sL b _ _ _,rF b cells e n size out d (by omega) c (by omega) m cells.toList l (fun k y o=>by simpa using o),?_⟩
 simp only[aB]
 exact⟨⟨some Γ.w.heap.size,0,n,size⟩,0,_,n,by simp[az.alloc,b.len],ad3 _,rfl,fun _=> .inr ⟨Γ.w.heap.size,_,rfl,rfl,by simp,by simp,fun _=>by simp⟩⟩
def aaB(c:aZ Γ H){bytes:Nat}(h:se P t=some (e,size,bytes,z))(d:0<size)(j:z.length=size)(f g:IntKind)(n:Int)(l:0<=n)
  (m:(bytes:Int)*n<=281474976710656) (hm:n<=maxLen):
  ∃y a,(Instr.makeSlice t (.int f n) (.int g n)).run P Γ.w= .ok y a.w/\Γ.cL a/\aZ a (H++[.live 0 size (ahv n.toNat z)])/\aB a (.sl H.length 0 0 n.toNat) y:=by
 obtain⟨o,i,b,p,rfl,rfl,q,s,u⟩:=jz h
 have v:=run_make (P:=P) Γ.w t e i b o p q f g n n l (aka _) m (by unfold maxLen at hm;omega)
 refine⟨_,Γ.alloc (madeCells b.cells (n.toNat*i.size)) e ⟨some Γ.w.heap.size,0,n.toNat,i.size⟩,v,sL c _ _ _,?_,?_⟩
 .refine rF c _ e n.toNat i.size _ (by omega) (by simp) d (by simp[size_madeCells]) (fun r x=>by rw[(List.mem_replicate.1 x).2];exact j) (madeCells b.cells (n.toNat*i.size)).toList ?_ (fun k y A=>by simpa using A)
  rw[LX b.cells n.toNat i.size s d]
  exact Kg (oJ u) _
 .simp only[aB]
  exact⟨⟨some Γ.w.heap.size,0,n.toNat,i.size⟩,0,_,n.toNat,by simp[az.alloc,c.len],ad3 _,rfl,fun _=> .inr ⟨Γ.w.heap.size,_,rfl,rfl,by simp,by simp,fun _=>by simp⟩⟩
def QW(c:aZ Γ H)(T:TypeId){v:Value}{z:ab}{a:List ab}(hc:aY Γ (z::a) v.cells.toList):
  ∃b,(newVar T v).run P Γ.w= .ok ⟨Γ.w.heap.size,0,none⟩ b.w/\Γ.cL b/\aZ b (H++[.live 0 (a.length+1) [z::a]])/\aB b (.ptr H.length 0 0 0) (.pointer (some ⟨Γ.w.heap.size,0,none⟩)):=by
 have d:=fI hc
 simp only[aje,aip]at d
 refine⟨Γ.alloc v.cells T ⟨some Γ.w.heap.size,0,1,a.length+1⟩,by simp[newVar,newRow];rfl,sL c _ _ _,rF c v.cells T 1 (a.length+1) [z::a] (by simp[maxLen]) (by simp) (by omega) (by omega) (by simp) v.cells.toList (by simpa using hc) (fun k y e=>by simpa using e),?_⟩
 simp only[aB]
 exact⟨⟨some Γ.w.heap.size,0,1,a.length+1⟩,0,_,by simp[az.alloc,c.len],ad3 _,rfl,fun _=>⟨Γ.w.heap.size,rfl,by simp⟩⟩
def az.rB(Γ:az)(cells:Array Value)(T:TypeId)(z:Nat):az:=
 {w:=Γ.w.alloc (.cells cells T),F:=fun b s=>Γ.F b s\/(b=Γ.w.heap.size/\s=z),X:=Γ.X,hs:=Γ.hs}
def AE(c:aZ Γ H)(cells:Array Value)(T:TypeId)(z:Nat):Γ.cL (Γ.rB cells T z)where
 le:={F:=fun _ _ h=> .inl h,mem:=fun b z a=>lV Γ.w _ b (c.F b z a),hs:=fun h i v hh=>⟨i,v,hh,ad3 _,fun _=>rfl⟩}
 os:=rfl
 tape:=rfl
 output:=rfl
 size:=by simp[az.rB]
 frame b a _:=lV Γ.w _ b a
 mF b z a:=by
  rcases a with a|a
  .exact .inl a
  .exact .inr (.inr (by omega))
 lj b a:= .inl a
def Xu(a:aZ Γ H)(cells:Array Value)(T:TypeId)(z:Nat):aZ (Γ.rB cells T z) H where
 len:=a.len
 ob h o f:=(a.ob h o f).aK (AE a cells T z).le rfl (fun _ _ _ _ _ _ d c=>⟨lV Γ.w _ _ (a.X _ d),fun s e=>by
  rcases e with e|e
  .exact c s e
  .have:=a.X _ d;omega,d⟩)
 apart:=a.apart
 F b s c:=by
  rcases c with c|c
  .have:=a.F b s c;simp[az.rB];omega
  .simp[az.rB,c.1]
 X b d:=by have:=a.X b d;simp[az.rB];omega
 G:=a.G.le (AE a cells T z).le
def V4(b:aZ Γ H)(T:TypeId){v:Value}(hc:aY Γ cs v.cells.toList):
  ∃a,(newVar T v).run P Γ.w= .ok ⟨Γ.w.heap.size,0,none⟩ a.w/\Γ.cL a/\aZ a H/\aB a (.aJ [cs] 0 0) (.pointer (some ⟨Γ.w.heap.size,0,none⟩)):=by
 refine⟨Γ.rB v.cells T cs.length,by simp[newVar,newRow];rfl,AE b _ _ _,Xu b _ _ _,?_⟩
 simp only[aB,bE]
 refine⟨Γ.w.heap.size,0,cs.length,by simp,.inr ⟨rfl,rfl⟩,rfl,?_,trivial⟩
 have c:(Γ.rB v.cells T cs.length).w.heap[Γ.w.heap.size]?=some (.cells v.cells T (0,0)):=heap_alloc_new Γ.w _
 refine nS fun k l d=>?_
 have⟨y,e,f⟩:=kX (kw (AE b v.cells T cs.length).le _ _ hc) d
 exact⟨y,by rw[cell_of c];simpa using e,f⟩
end Go.Nx
namespace Go.Nx
variable{Γ:az}{e:Env}{a:Act}
def Mi{P:Program}{t:TypeId}{g:Bool}{n a:Nat}(d:tk P t=some (g,n)){cs:List ab}{b:Array Value}(hc:aY Γ cs b.toList){x:aw}(h:Az g cs a n=some x):
  ∃z,(part t b a).run P Γ.w= .ok z Γ.w/\aL Γ x z:=by
 have e:=fI hc
 simp only[aje]at e
 have⟨c,f⟩:=pt d Γ.w
 unfold Az at h
 cases g with
 |true=>
  simp only[if_true]at h
  split at h
  .simp only[ab1]at h
   subst h
   have i:=KM b.toList a n
   refine⟨.agg (b.extract a (a+n)),by simp[part,c,f],?_⟩
   simp only[aL]
   refine⟨_,rfl,?_⟩
   rw[show b.extract a (a+n)=((b.toList.drop a).take n).toArray from i]
   exact sQ (tx hc a) n
  .cases h
 |false=>
  simp only[aes,if_false,ab4]at h
  obtain⟨l,j,rfl⟩:=h
  have⟨y,k,m⟩:=kX hc j
  have o:b[a]?=some y:=by simpa using k
  exact⟨y,by simp[part,c,o],by simpa[aL]using m⟩
def MO{Γ:az}{e:Env}{a:Act}:∀(d:List Operand) (b:List ab),(∀p∈d,Good Γ e a p)->xa (d.map (aX e))=some b->aY Γ b (d.map a.eval)
 |[],b,_,h=>by
  simp[xa]at h
  subst h
  simp[aY]
 |p::g,b,f,h=>by
  simp only[ag9]at h
  unfold xa at h
  split at h
  .rename_i c;cases c
  .rename_i l r c
   simp only[aiA]at c
   obtain⟨i,rfl⟩:=c
   simp only[ab4]at h
   obtain⟨j,k,rfl⟩:=h
   simp only[ag9,aY]
   have:=f p (by simp) _ i
   simp only[aL]at this
   exact⟨_,_,rfl,this,MO g j (fun q m=>f q (by simp[m])) k⟩
  .cases h
def AX{Γ:az}{P:Program}{e:Env}{a:Act}(f:Int->Int->Int)(f2:Value->Value->Sem Value)(g:∀m k n w,(f2 (.int .i64 m) (.int k n)).run P w= .ok (.int .i64 (f m n)) w):
  ∀(d:List Operand) (b n:Int),(∀p∈d,Good Γ e a p)->foldI f b (d.map (aX e))=some n->((d.map a.eval).foldlM f2 (.int .i64 b)).run P Γ.w= .ok (.int .i64 n) Γ.w
 |[],b,n,_,h=>by
  simp[foldI]at h
  subst h
  simp
 |p::j,b,n,i,h=>by
  simp only[ag9]at h
  unfold foldI at h
  split at h
  .rename_i c;cases c
  .rename_i k m r c
   simp only[aiA]at c
   obtain⟨l,rfl⟩:=c
   have hp:=i p (by simp) _ l
   simp only[aL,aB]at hp
   have o:=AX f f2 g j (f b m) n (fun q s=>i q (by simp[s])) h
   simp only[ag9,List.foldlM_cons,aiT,hp.1,g,aiG,o]
  .cases h
def Ix(b:List (Nat×Operand))(c:∀p∈b.map (·.2),Good Γ e a p):mJ Γ (b.map fun(i,x)=>(i,aX e x)) (b.map fun(i,x)=>(i,a.eval x)):=by
 induction b with
 |nil=>simp[mJ]
 |cons p b d=>have⟨i,x⟩:=p;simp only[ag9,mJ];exact⟨_,_,rfl,fun v f=>c x (by simp) v f,d (fun q g=>c q (by simp only[ag9,aeM];exact .inr g))⟩
def afF{l:ab}{n:Nat}(h:qd l=some n){y:Value}(hc:aB Γ l y):∃a c,y= .slice a n c:=by
 unfold qd at h;split at h
 .simp only[ab1]at h;subst h;simp only[aB]at hc;rcases hc with⟨rfl,rfl⟩|⟨a,cap,b,rfl,_⟩
  .exact ⟨none,0,rfl⟩
  .exact ⟨_,_,rfl⟩
 .simp only[ab1]at h;subst h;simp only[aB]at hc;obtain⟨a,cap,b,rfl,_⟩:=hc;exact⟨_,_,rfl⟩
 .simp only[ab1]at h;subst h;simp only[aB]at hc;exact⟨none,0,hc.1⟩
 .simp only[ab1]at h;subst h;simp only[aB]at hc;obtain⟨d,e,a,cap,_,_,rfl,_⟩:=hc;exact⟨_,_,rfl⟩
 .cases h
def vV{o:Option Operand}{n:Option Int}(b:∀p,o=some p->Good Γ e a p)(h:nL e o=some n):(o.map a.eval=none/\n=none)\/∃k m,o.map a.eval=some (.int k m)/\n=some m:=by
 cases o with
 |none=>simp[nL]at h;exact .inl ⟨rfl,h.symm⟩
 |some p=>
  right;unfold nL at h;simp only at h;split at h
  .rename_i v c;have hc:=b p rfl v c;unfold Sz at h;split at h
   .rename_i k m;simp only[aL,aB]at hc;simp at h;exact⟨k,m,by simp[hc.1],h.symm⟩
   .simp at h
  .cases h
end Go.Nx
namespace Go.Nx
variable{P:Program}{Γ:az}{e:Env}{a:Act}{o:Oper}{x:aw}
def adT{H d:List Ob}(i:aZ Γ H){c p q:Operand}(f:o.op= .pick c p q)(h:bc P e H o.op=some (x,d))
  (hc:Good Γ e a c) (hp:aX e c=some (.c (.v (.bool true)))->Good Γ e a p) (j:aX e c=some (.c (.v (.bool false)))->Good Γ e a q):uf Γ ((execOp a.eval o).run P Γ.w) x d:=by
 rw[f]at h
 unfold bc at h
 simp only at h
 split at h
 case h_2=>cases h
 rename_i t u v b k l
 simp only[ab1,aca]at h
 obtain⟨rfl,rfl⟩:=h
 have g:=hc _ b
 simp only[aL,aB]at g
 refine .val (y:=if t then a.eval p else a.eval q) i (by simp[execOp,f,g.1,asBool]) ?_
 cases t with
 |true=>
  have:=hp b _ k
  unfold Dp
  split
  .simpa using this
  .simpa using this
 |false=>
  have:=j b _ l
  unfold Dp
  split
  .simpa using this
  .simpa using this
set_option maxHeartbeats 1000000 in
def adv{ag H':List Ob}(w:aZ Γ ag)(u:∀p∈o.op.operands,Good Γ e a p)(h:bc P e ag o.op=some (x,H')):uf Γ ((execOp a.eval o).run P Γ.w) x H':=by
 have⟨ak,X,ty,pos,al,guard⟩:=o;simp only at u h;cases X with
 |move y=>simp only[bc,ab4,aca]at h;obtain⟨v,d,rfl,rfl⟩:=h;exact .val w (by simp[execOp]) (u y (by simp[acH]) v d)
 |assign y=>simp only[bc,ab4,aca]at h;obtain⟨v,d,rfl,rfl⟩:=h;exact .val w (by simp[execOp]) (u y (by simp[acH]) v d)
 |pick c p q=>exact adT w (o:=⟨ak,.pick c p q,ty,pos,al,guard⟩) rfl h (u c (by simp[acH])) (fun _=>u p (by simp[acH])) (fun _=>u q (by simp[acH]))
 |alloc t=>
  simp only[bc]at h;split at h
  case h_2=>cases h
  rename_i z Y Z;simp only[ab1,aca]at h;obtain⟨rfl,rfl⟩:=h;have⟨i,zv,R,am,Q,hl⟩:=xu Z;have⟨F,A,B,E,I⟩:=QW (P:=P) w t (oJ hl);exact⟨.pointer (some ⟨Γ.w.heap.size,0,none⟩),F,.inl (by simp[execOp,Instr.alloc,zeroValue,typeInfo,R,am,A]),B,E,by simpa[aL]using I⟩
 |box t y=>
  simp only[bc]at h;split at h
  case h_2=>cases h
  rename_i v K;split at h
  case h_2=>cases h
  rename_i z Y Z;simp only[ab1,aca]at h;obtain⟨rfl,rfl⟩:=h;have hc:=wM (u y (by simp[acH]) v K) Z;have⟨F,A,B,E,I⟩:=QW (P:=P) w t hc;exact⟨.pointer (some ⟨Γ.w.heap.size,0,none⟩),F,.inl (by simp[execOp,Instr.box,A]),B,E,by simpa[aL]using I⟩
 |build t O=>
  simp only[bc]at h;split at h
  case h_2=>cases h
  rename_i z aH an;simp only[ab4,aca]at h;obtain⟨cs,d,rfl,rfl⟩:=h;have hP:=Ix (Γ:=Γ) (e:=e) (a:=a) O.toList (fun p hp=>u p (by simpa[acH]using hp));obtain⟨out,A,B⟩:=ZK (P:=P) (vs:=O.map fun(i,x)=>(i,a.eval x)) an (by simpa using hP) d;exact .val w (by simp[execOp,A]) ⟨out,rfl,B⟩
 |buildSlice t n O=>
  simp only[bc]at h;split at h
  case h_2=>cases h
  rename_i el ah bytes z aa;split at h
  case isFalse=>cases h
  rename_i L;have⟨b1,b2,b3,b4⟩:=L;simp only[ab4,aca]at h;obtain⟨rows,d,rfl,rfl⟩:=h;have hP:=Ix (Γ:=Γ) (e:=e) (a:=a) O.toList (fun p hp=>u p (by simpa[acH]using hp));have⟨y,F,A,B,E,I⟩:=Ty (P:=P) w (vs:=O.map fun(i,x)=>(i,a.eval x)) aa b1 b2 b3 b4 (by simpa using hP) d;exact⟨y,F,.inl (by simp[execOp,A]),B,E,by simpa[aL]using I⟩
 |makeSlice t l c=>
  simp only[bc]at h;split at h
  case h_2=>cases h
  rename_i el ah bytes z k n k' m aa hl ao;split at h
  case isFalse=>cases h
  rename_i L;obtain⟨b1,b2,b3,rfl,b5,b6⟩:=L;simp only[ab1,aca]at h;obtain⟨rfl,rfl⟩:=h;have d:=u l (by simp[acH]) _ hl;have G:=u c (by simp[acH]) _ ao;simp only[aL,aB]at d G;have⟨y,F,A,B,E,I⟩:=aaB (P:=P) w aa b1 b2 k k' n b3 b5 b6;exact⟨y,F,.inl (by simp[execOp,d.1,G.1,A]),B,E,by simpa[aL]using I⟩
 |load t y=>
  simp only[bc]at h;split at h
  .rename_i n p D hp;simp only[ab4,aca]at h;obtain⟨cs,d,rfl,rfl⟩:=h;have hc:=u y (by simp[acH]) _ hp;simp only[aL]at hc;have⟨M,A,B⟩:=(yg (P:=P) w hc).1 n cs D d;exact .val w (by simp[execOp,A]) ⟨M,rfl,B⟩
  .rename_i n p D hp;simp only[ab4,aca]at h;obtain⟨l,d,rfl,rfl⟩:=h;have hc:=u y (by simp[acH]) _ hp;simp only[aL]at hc;have⟨z,A,B⟩:=(yg (P:=P) w hc).2 n l D d;exact .val w (y:=z) (by simp[execOp,A]) (by simpa[aL]using B)
  .cases h
 |store t y v=>
  simp only[bc]at h;split at h
  case h_2=>cases h
  rename_i g n hd ab i k av D C K;split at h
  case h_2=>cases h
  rename_i cs z rows ap ho;split at h
  case isFalse=>cases h
  rename_i hn;split at h
  case h_2=>cases h
  rename_i r hr;split at h
  case isFalse=>cases h
  rename_i aq;simp only[ab1,aca]at h;obtain⟨rfl,rfl⟩:=h;have hc:=u y (by simp[acH]) _ C;simp only[aL]at hc;have⟨F,A,B,E⟩:=aeJ (P:=P) w hc D ho hr hn aq (wM (u v (by simp[acH]) _ K) ap);exact⟨undef,F,.inr ⟨by simp[execOp,A],rfl⟩,B,E,by simp[aL,bT,undef]⟩
 |nilCheck y=>
  simp only[bc]at h;split at h
  .rename_i hd ab i k C;simp only[ab4,aca]at h;obtain⟨zr,d,rfl,rfl⟩:=h;have⟨z,rows⟩:=zr;have hc:=u y (by simp[acH]) _ C;simp only[aL]at hc;have⟨aI,b,_,_,J⟩:=wI w hc d;refine .val w (y:=a.eval y) (by simp[execOp,J]) (by simpa[aL]using hc)
  .rename_i rows i k C;simp only[ab1,aca]at h;obtain⟨rfl,rfl⟩:=h;have hc:=u y (by simp[acH]) _ C;have ae:=hc;simp only[aL,aB]at hc;have⟨b,af,sz,J,_⟩:=hc;exact .val w (y:=a.eval y) (by simp[execOp,J]) ae
  .rename_i f cs C;simp only[ab1,aca]at h;obtain⟨rfl,rfl⟩:=h;have hc:=u y (by simp[acH]) _ C;have ae:=hc;simp only[aL,aB]at hc;have⟨M,J,_⟩:=hc;exact .val w (y:=a.eval y) (by simp[execOp,J]) ae
  .cases h
 |binOp X t y z t'=>
  simp only[bc]at h;split at h
  case h_2=>cases h
  rename_i ar v S K;simp only[ab4,aca]at h;obtain⟨l,d,rfl,rfl⟩:=h;have⟨A,r,B,E⟩:=Yp w d y z (u y (by simp[acH]) _ S) (u z (by simp[acH]) _ K);exact .val w (y:=r) (by simp[execOp,A,B]) (by simpa[aL]using E)
 |unOp X t y=>
  simp only[bc]at h;split at h
  .rename_i b L;simp only[ab1,aca]at h;obtain⟨rfl,rfl⟩:=h;have hc:=u y (by simp[acH]) _ L;simp only[aL,aB]at hc;exact .val w (y:= .bool (!b)) (by simp[execOp,hc.1,Op.unary]) (by simp[aL,aB,aiw])
  .rename_i k n L;simp only[ab1,aca]at h;obtain⟨rfl,rfl⟩:=h;have hc:=u y (by simp[acH]) _ L;simp only[aL,aB]at hc;exact .val w (y:= .int k (k.wrap (-n))) (by simp[execOp,hc.1,Op.unary,Op.intArith]) (by simp[aL,aB,aiw])
  .cases h
 |convert s aJ y=>
  simp only[bc]at h;split at h
  case h_2=>cases h
  rename_i k1 k2 k3 n d G h3;simp only[ab1,aca]at h;obtain⟨rfl,rfl⟩:=h;have hc:=u y (by simp[acH]) _ h3;simp only[aL,aB]at hc;unfold ik at d G;split at d
  case h_2=>cases d
  rename_i au;split at G
  case h_2=>cases G
  rename_i ax;cases d;cases G;refine .val w (y:= .int k2 (k2.wrap n)) ?_ (by simp[aL,aB,aiw]);simp[execOp,hc.1,convert,run_underlying au,run_underlying ax,Conv.intToInt]
 |makeFunc f first ai=>
  cases f with
  |func f=>
   simp only[bc]at h;split at h
   case isFalse=>cases h
   rename_i hf;simp only[ab4,aca]at h;obtain⟨cs,d,rfl,rfl⟩:=h;have ay:first= #[]:=Array.eq_empty_of_size_eq_zero hf
   subst ay;have hc:=MO (Γ:=Γ) (a:=a) ai.toList cs (fun p hp=>u p (by simpa[acH]using hp)) d;refine .val w (y:= .func (.func f) #[] (ai.map a.eval)) (by simp[execOp,Instr.makeFunc]) ?_;simp only[aL,aB];exact⟨_,rfl,by simpa using hc⟩
  |_=>simp[bc]at h
 |slice t y lo R mx=>
  cases mx with
  |some m=>simp[bc]at h
  |none=>
   simp only[bc]at h;split at h
   case h_2=>cases h
   rename_i l aK aM C az aA;simp only[ab4,aca]at h;obtain⟨r,d,rfl,rfl⟩:=h;have hc:=u y (by simp[acH]) _ C;simp only[aL]at hc;have⟨z,A,B⟩:=Yb (P:=P) w d hc (lo.map a.eval) (R.map a.eval) (vV (Γ:=Γ) (fun p hp=>u p (by simp[acH,hp])) az) (vV (Γ:=Γ) (fun p hp=>u p (by simp[acH,hp])) aA);exact .val w (y:=z) (by simp[execOp,A]) (by simpa[aL]using B)
 |fieldAddr s y f=>
  simp only[bc]at h;split at h
  .rename_i af n g hd ab i k U C;split at h
   .cases h
   .rename_i hn;simp only[ab4,aca]at h;obtain⟨zr,d,rfl,rfl⟩:=h;have⟨z,rows⟩:=zr;have hc:=u y (by simp[acH]) _ C;simp only[aL]at hc;have⟨v,A,B⟩:=(Pl (P:=P) w U hn hc).1 hd ab i k z rows rfl d;exact .val w (y:=v) (by simp[execOp,A]) (by simpa[aL]using B)
  .rename_i af n g rows i k U C;split at h
   .cases h
   .rename_i hn;simp only[ab1,aca]at h;obtain⟨rfl,rfl⟩:=h;have hc:=u y (by simp[acH]) _ C;simp only[aL]at hc;have⟨v,A,B⟩:=(Pl (P:=P) w U hn hc).2 rows i k rfl;exact .val w (y:=v) (by simp[execOp,A]) (by simpa[aL]using B)
  .cases h
 |field s y f=>
  simp only[bc]at h;split at h
  case h_2=>cases h
  rename_i af n g cs U C;simp only[ab4,aca]at h;obtain⟨v,d,rfl,rfl⟩:=h;obtain⟨fs,fd,S,hf,rfl,D⟩:=L7 U;have hc:=u y (by simp[acH]) _ C;simp only[aL]at hc;have⟨xs,J,hc⟩:=hc;have⟨z,A,B⟩:=Mi (P:=P) D hc d;exact .val w (by simp[execOp,J,Instr.field,run_underlying S,hf,asAgg,A]) B
 |indexAddr t y i=>
  simp only[bc]at h;split at h
  case h_2=>cases h
  rename_i l k n C R;simp only[ab4,aca]at h;obtain⟨r,d,rfl,rfl⟩:=h;have hc:=u y (by simp[acH]) _ C;have V:=u i (by simp[acH]) _ R;simp only[aL,aB]at hc V;have⟨z,A,B⟩:=aae (P:=P) w d hc k;exact .val w (y:=z) (by simp[execOp,V.1,A]) (by simpa[aL]using B)
 |index t y i=>
  simp only[bc]at h;split at h
  case h_2=>cases h
  rename_i n ah g cs k j aC C R;split at h
  case isFalse=>cases h
  rename_i L;simp only[ab4,aca]at h;obtain⟨v,d,rfl,rfl⟩:=h;have⟨el,D,aj⟩:=Al aC;have hc:=u y (by simp[acH]) _ C;have V:=u i (by simp[acH]) _ R;simp only[aL,aB]at hc V;have⟨xs,J,hc⟩:=hc;have⟨z,A,B⟩:=Mi (P:=P) aj hc d;exact .val w (by simp[execOp,J,V.1,Instr.index,asIntOf,run_underlying D,L.1,L.2,(pt aj Γ.w).2,A]) B
 |extract y i=>
  simp only[bc]at h;split at h
  case h_2=>cases h
  rename_i vs C;simp only[ab4,aca]at h;obtain⟨v,d,rfl,rfl⟩:=h;have hc:=u y (by simp[acH]) _ C;simp only[aL]at hc;have⟨M,J,hc⟩:=hc
  have aD:∀(vs:List aw) (M:List Value) (i:Nat) (v:aw),bT Γ vs M->vs[i]?=some v->∃z,M[i]?=some z/\aL Γ v z:=by
   intro vs;induction vs with
   |nil=>intro M i v _ K;simp at K
   |cons ar us ih=>
    intro M i v hc K;simp only[bT]at hc;obtain⟨z,Y,rfl,G,h3⟩:=hc;cases i with
    |zero=>simp at K;subst K;exact⟨z,by simp,G⟩
    |succ i=>simpa using ih Y i v h3 (by simpa using K)
  have⟨z,A,B⟩:=aD vs M.toList i v hc d;have aE:M[i]?=some z:=by simpa using A
  exact .val w (y:=z) (by simp[execOp,J,Instr.extract,aE]) B
 |call c=>
  have⟨aF,args,N⟩:=c;cases aF with
  |builtin b=>
   cases b with
   |len=>
    simp only[bc]at h;split at h
    case h_2=>cases h
    rename_i y t H D;split at h
    case h_2=>cases h
    rename_i el l S C;simp only[ab4,aca]at h;obtain⟨n,d,rfl,rfl⟩:=h;have⟨args⟩:=args;have⟨N⟩:=N;simp only at H D;subst H D;have hc:=u y (by simp[acH,aiM]) _ C;simp only[aL]at hc;have⟨ad,cap,J⟩:=afF d hc;exact .val w (y:= .int .i64 n) (by simp[execOp,resolve,invoke,builtin,Builtin.len_,run_underlying S,J,goInt]) (by simp[aL,aB,aiw])
   |append=>
    simp only[bc]at h;split at h
    case h_2=>cases h
    rename_i s y t t' H D;split at h
    case h_2=>cases h
    rename_i ls lx Q C;have⟨args⟩:=args;have⟨N⟩:=N;simp only at H D;subst H D;have d:=u s (by simp[acH,aiM]) _ Q;have G:=u y (by simp[acH,aiM]) _ C;simp only[aL]at d G;have⟨z,F,A,B,E,I⟩:=W9 (P:=P) (ty:=ty) w d G h;exact⟨z,F,.inl (by simp[execOp,resolve,invoke,builtin,A]),B,E,I⟩
   |cap=>
    simp only[bc]at h;split at h
    case h_2=>cases h
    rename_i s t H D;split at h
    case h_2=>cases h
    rename_i el S Q;simp only[ab1,aca]at h;obtain⟨rfl,rfl⟩:=h;have⟨args⟩:=args;have⟨N⟩:=N;simp only at H D;subst H D;have d:=u s (by simp[acH,aiM]) _ Q;simp only[aL,aB]at d;exact .val w (y:= .int .i64 0) (by simp[execOp,resolve,invoke,builtin,Builtin.cap_,run_underlying S,d.1,goInt]) (by simp[aL,aB,aiw])
   |copy=>
    simp only[bc]at h;split at h
    case h_2=>cases h
    rename_i s y t t' H D;split at h
    case h_2=>cases h
    rename_i ls lx Q C;have⟨args⟩:=args;have⟨N⟩:=N;simp only at H D;subst H D;have d:=u s (by simp[acH,aiM]) _ Q;have G:=u y (by simp[acH,aiM]) _ C;simp only[aL]at d G;have⟨z,F,A,B,E,I⟩:=abd (P:=P) (t':=t') (ty:=ty) w d G h;exact⟨z,F,.inl (by simp[execOp,resolve,invoke,builtin,A]),B,E,I⟩
   |clear=>
    simp only[bc]at h;split at h
    case h_2=>cases h
    rename_i s t H D;split at h
    case h_2=>cases h
    rename_i ls Q;have⟨args⟩:=args;have⟨N⟩:=N;simp only at H D;subst H D;have d:=u s (by simp[acH,aiM]) _ Q;simp only[aL]at d;have⟨z,F,A,B,E,I⟩:=XK (P:=P) (ty:=ty) w d h;exact⟨z,F,.inl (by simp[execOp,resolve,invoke,builtin,A]),B,E,I⟩
   |min=>
    simp only[bc,ab4,aca]at h;obtain⟨n,d,rfl,rfl⟩:=h;have⟨args⟩:=args;simp only at d;unfold zY at d;split at d
    case h_2=>cases d
    rename_i m r T;cases args with
    |nil=>simp at T
    |cons p O=>simp only[ag9,aiA]at T;obtain⟨hp,rfl⟩:=T;have W:=u p (by simp[acH,aiM]) _ hp;simp only[aL,aB]at W;have:=AX (P:=P) (Γ:=Γ) (a:=a) min amq (fun m k n aG=>by simp[amq];omega) O m n (fun q hq=>u q (by simp[acH,aiM,hq])) d;exact .val w (y:= .int .i64 n) (by simp[execOp,resolve,invoke,builtin,Builtin.min_,W.1,this]) (by simp[aL,aB,aiw])
   |max=>
    simp only[bc,ab4,aca]at h;obtain⟨n,d,rfl,rfl⟩:=h;have⟨args⟩:=args;simp only at d;unfold zY at d;split at d
    case h_2=>cases d
    rename_i m r T;cases args with
    |nil=>simp at T
    |cons p O=>simp only[ag9,aiA]at T;obtain⟨hp,rfl⟩:=T;have W:=u p (by simp[acH,aiM]) _ hp;simp only[aL,aB]at W;have:=AX (P:=P) (Γ:=Γ) (a:=a) max amr (fun m k n aG=>by simp[amr];omega) O m n (fun q hq=>u q (by simp[acH,aiM,hq])) d;exact .val w (y:= .int .i64 n) (by simp[execOp,resolve,invoke,builtin,Builtin.max_,W.1,this]) (by simp[aL,aB,aiw])
   |_=>simp[bc]at h
  |_=>simp[bc]at h
 |_=>simp[bc]at h
end Go.Nx
namespace Go.Nx
structure St where
 env:Env
 heap:List Ob
 bG:List (FuncId×List aw)
def ee(e:Env)(d:Option Nat)(x:aw):Env:=
 match d with
 |some t=>(t,x)::e
 |none=>e
def pT:List (Option aw)->Option (List aw)
 |[]=>some []
 |some x::r=>(pT r).map (x:: ·)
 |none::_=>none
def fP:Nat->List aw->Env
 |_,[]=>[]
 |k,x::a=>(k,x)::fP (k+1) a
mutual
def bC:ab->Bool
 | .v _=>true
 | .aj rows=>bA rows
 | .eU rows=>bA rows
 | .ptr _ _ _ _=>false
 | .sl _ _ _ _=>false
 | .aJ rows _ _=>bA rows
 | .bF _ a=>cy a
 | .mr _=>false
 | .ig _ l=>bC l
 | .mG _=>false
def bA:List (List ab)->Bool
 |[]=>true
 |r::a=>cy r&&bA a
def cy:List ab->Bool
 |[]=>true
 |l::a=>bC l&&cy a
end
def dZ(n:Nat):ab->ab
 | .ptr h v i k=> .ptr (n+h) v i k
 | .sl h v a len=> .sl (n+h) v a len
 | .mr h=> .mr (n+h)
 | .mG h=> .mG (n+h)
 |l=>l
def eN(n:Nat):aw->aw
 | .c l=> .c (dZ n l)
 | .agg cs=> .agg (cs.map (dZ n))
 | .aM a=> .aM (a.map fun| .c l=> .c (dZ n l)| .agg cs=> .agg (cs.map (dZ n))| .aM b=> .aM b)
def dX(n:Nat):Ob->Ob
 | .live v z rows=> .live v z (rows.map fun r=>r.map (dZ n))
 | .dead=> .dead
 | .mp a=> .mp (a.map fun p=>(p.1,dZ n p.2))
 | .it s p=> .it s p
abbrev Sg(s:List UInt8):ab:= .v (.string ⟨s.toArray⟩)
def jp(c:BinOp)(k:IntKind)(a b:Int):Int:=
 match c with
 | .or=>k.wrap ((aji k.bits a|||aji k.bits b).toNat)
 | .xor=>k.wrap ((aji k.bits a ^^^ aji k.bits b).toNat)
 |_=>k.wrap ((aji k.bits a&&&aji k.bits b).toNat)
def sr(k:IntKind)(n:Int):Int:=jp .xor k (if k.signed then -1 else k.max) n
def tj(g:Nat):Option ab:=
 match sK.find? (·.1==g)with
 |some (_,_,rows)=>some (.aJ rows 0 0)
 |none=>none
def pA(P:Program)(t:TypeId):Bool:=match P.underlying t with|some .string=>true|_=>false
def ry(P:Program)(t:TypeId):Bool:=match P.underlying t with|some (.pointer _)=>true|_=>false
def yL(P:Program)(t:TypeId):Bool:=match P.underlying t with|some (.interface _)=>true|_=>false
def Na:Operand->Bool
 | .const .nilIface=>true
 |_=>false
def ll(a:BinOp)(b:Bool):Option aw:=
 match a with
 | .eql=>some (.c (B b))
 | .neq=>some (.c (B (!b)))
 |_=>none
def gV(P:Program)(H:List Ob)(d:BinOp)(t:TypeId)(y:Operand)(e f:Option aw):Option aw:=
 match e,f with
 |some (.c (.v (.string a))),some (.c (.v (.string b)))=>match d with
  | .eql=>some (.c (B (decide (a.data.toList=b.data.toList))))
  | .neq=>some (.c (B (!decide (a.data.toList=b.data.toList))))
  | .add=>if a.data.toList.length+b.data.toList.length<=maxLen then some (.c (Sg (a.data.toList++b.data.toList)))else none
  |_=>none
 |some (.c (.v (.int k a))),some (.c (.v (.int g b)))=>match d with
  | .or| .xor| .and=>if k=g then some (.c (.v (.int k (jp d k a b))))else none
  | .shl=>if b<0 then none else some (.c (.v (.int k (k.wrap (a*2 ^ (min b.toNat k.bits))))))
  | .shr=>if b<0 then none else some (.c (.v (.int k (a.fdiv (2 ^ (min b.toNat k.bits))))))
  |_=>none
 |some (.c (.v (.pointer none))),some (.c (.v (.pointer none)))=>if ry P t then ll d true else none
 |some (.c (.ptr h i _ _)),some (.c (.v (.pointer none)))=>if ry P t then match obj H h i with
  |some _=>ll d false
  |none=>none
  else none
 |some (.c (.v .nilIface)),some (.c (.v .nilIface))=>if yL P t/\Na y then ll d true else none
 |some (.c (.ig _ _)),some (.c (.v .nilIface))=>if yL P t then ll d false else none
 |_,_=>none
def nB(P:Program)(t:TypeId)(a b:Option aw):Option aw:=
 match a,b with
 |some (.c (.v (.string s))),some (.c (.v (.int _ n)))=>if pA P t/\0<=n then match s.data.toList[n.toNat]? with
   |some c=>some (.c (.v (.int .u8 (c.toNat:Int))))
   |none=>none
  else none
 |_,_=>none
def pn(P:Program)(t:TypeId)(d:Option aw)(a b:Option (Option Int)):Option aw:=
 match d,a,b with
 |some (.c (.v (.string s))),some a,some b=>if pA P t/\0<=a.getD 0/\a.getD 0<=b.getD (s.data.toList.length:Int)/\b.getD (s.data.toList.length:Int)<=(s.data.toList.length:Int)then
   some (.c (Sg ((s.data.toList.take (b.getD (s.data.toList.length:Int)).toNat).drop (a.getD 0).toNat)))else none
 |_,_,_=>none
def sc(P:Program)(t:TypeId)(a b:Option aw):Option aw:=
 match a,b with
 |some (.c (.aJ rows r k)),some (.c (.v (.int _ j)))=>match ar P t with
  |some (n,d,_)=>if 0<=j/\j<n then some (.c (.aJ rows r (k+j.toNat*d)))else none
  |none=>none
 |_,_=>none
def fX(P:Program)(t:TypeId)(a:Option aw):Option aw:=
 match a with
 |some (.c (.v (.string s)))=>if pA P t then some (.c (I (s.data.toList.length:Int)))else none
 |_=>none
def E7(a:Option aw):Option aw:=
 match a with
 |some (.c (.v (.int k n)))=>some (.c (.v (.int k (sr k n))))
 |_=>none
def oD(P:Program)(t:TypeId)(a:Option aw):Option aw:=
 match P.underlying t,a with
 |some (.interface _),_=>none
 |some _,some (.c l)=>some (.c (.ig t l))
 |_,_=>none
def eE(P:Program)(e:Env)(H:List Ob):Op->Option aw
 | .binOp a t x y _=>gV P H a t y (aX e x) (aX e y)
 | .unOp .xor _ x=>E7 (aX e x)
 | .call {callee:= .builtin .len,args,argTypes}=>match args.toList,argTypes.toList with
  |[x],[t]=>fX P t (aX e x)
  |_,_=>none
 | .index t x i=>nB P t (aX e x) (aX e i)
 | .slice t x b c none=>pn P t (aX e x) (nL e b) (nL e c)
 | .indexAddr t x i=>sc P t (aX e x) (aX e i)
 | .makeInterface t x=>oD P t (aX e x)
 |_=>none
def eA(b:UInt8):List ab:=[.v (.int .u8 (b.toNat:Int))]
def bytesOf:List (List ab)->Option (List UInt8)
 |[]=>some []
 |[.v (.int .u8 n)]::r=>match bytesOf r with
  |some a=>some (al1 n.toNat::a)
  |none=>none
 |_=>none
def rT(P:Program)(t:TypeId):Bool:=
 match P.underlying t with
 |some (.slice e)=>match P.underlying e with
  |some (.int .u8)=>true
  |_=>false
 |_=>false
def nH(P:Program)(H:List Ob)(src a:TypeId)(b:Option aw):Option (aw×List Ob):=
 match b with
 |some (.c (.v (.string s)))=>if pA P src&&rT P a&&decide (s.data.toList.length<=maxLen)then some (.c (.sl H.length 0 0 s.data.toList.length),H++[.live 0 1 (s.data.toList.map eA)])else none
 |some (.c l)=>if rT P src&&pA P a then match view H l with
   |some rows=>match bytesOf rows with
    |some d=>some (.c (Sg d),H)
    |none=>none
   |none=>none
  else none
 |_=>none
def uP(P:Program)(H:List Ob)(t:TypeId)(s:ab)(a:List (List ab)):Option (aw×List Ob):=
 match se P t with
 |some (_,b,bytes,_)=>
  if 0<b/\(∀r∈a,r.length=b)then match s with
   | .v (.slice none 0 0)=>if a.length<=maxLen/\a.length*bytes<=140737488355328 then some (.c (.sl H.length 0 0 a.length),H++[.live 0 b a])else none
   | .sl h d e len=>match obj H h d with
    |some (z,rows)=>if e+len<=rows.length/\z=b/\len+a.length<=maxLen/\(len+a.length)*bytes<=140737488355328 then
      some (.c (.sl h (d+1) 0 (len+a.length)),H.set h (.live (d+1) b ((rows.drop e).take len++a)))else none
    |none=>none
   |_=>none
  else none
 |none=>none
def iF:List ab->Option (List Int)
 |[]=>some []
 | .v (.int .i64 n)::r=>match iF r with
  |some a=>some (n::a)
  |none=>none
 |_=>none
def yV(P:Program)(k:TypeId):Bool:=
 match P.underlying k with
 |some (.struct a)=>match a.toList with
  |[f,g]=>decide (f.offset=0)&&decide (g.offset=1)&&(ik P f.type).isSome&&(ik P g.type).isSome&&decide (tk P f.type=some (false,1))&&decide (tk P g.type=some (false,1))
  |_=>false
 |_=>false
def Me(P:Program)(e:TypeId):Bool:=
 match P.info? e with
 |some i=>match i.zero with
  |some (.pointer none)=>true
  |_=>false
 |none=>false
def sw(P:Program)(t:TypeId):Bool:=
 match P.underlying t with
 |some (.map k e)=>match eqs P k with
  |some [.int,.int]=>Me P e&&yV P k
  |_=>false
 |_=>false
def dY:List (List ab×ab)->List Int->Option ab
 |[],_=>none
 |(k,v)::r,a=>if iF k=some a then some v else dY r a
def gQ:List (List ab×ab)->List Int->ab->List (List ab×ab)
 |[],a,x=>[(a.map I,x)]
 |(k,v)::r,a,x=>if iF k=some a then(a.map I,x)::r else(k,v)::gQ r a x
def nz:List (List ab×ab)->Bool
 |[]=>true
 |p::r=>(match iF p.1 with|some [_,_]=>true|_=>false)&&nz r
def nK(P:Program)(H:List Ob)(t:TypeId)(e f:Option aw):Option (aw×List Ob):=
 match e,f with
 |some (.c (.mr h)),some (.agg k)=>match sw P t,H[h]?,iF k with
  |true,some (.mp d),some [a,b]=>if nz d then some (.c ((dY d [a,b]).getD (.v (.pointer none))),H)else none
  |_,_,_=>none
 |_,_=>none
def qW(P:Program)(H:List Ob)(t:TypeId)(e f g:Option aw):Option (aw×List Ob):=
 match e,f,g with
 |some (.c (.mr h)),some (.agg k),some (.c x)=>match sw P t,H[h]?,iF k with
  |true,some (.mp d),some [a,b]=>if nz d then some (unit,H.set h (.mp (gQ d [a,b] x)))else none
  |_,_,_=>none
 |_,_,_=>none
def yi(H:List Ob)(v:Option aw):Option (aw×List Ob):=
 match v with
 |some (.c (.mG h))=>match H[h]? with
  |some (.it s pos)=>if pos<s.data.toList.length then match s.data.toList[pos]? with
    |some c=>if c<128 then some (.aM [.c (B true),.c (I (pos:Int)),.c (.v (.int .i32 (c.toNat:Int)))],H.set h (.it s (pos+1)))else none
    |none=>none
   else some (.aM [.c (B false)],H)
  |_=>none
 |_=>none
def Np(P:Program)(t:TypeId):Bool:=
 match P.info? t with
 |some i=>match i.zero with
  |some (.agg _)=>true
  |_=>false
 |none=>false
def zG(P:Program)(t:TypeId)(v:Option aw):Option aw:=
 match P.underlying t,zc P t,Np P t,v with
 |some (.struct _),some z,true,some (.c (.v .nilIface))=>some (.aM [.agg z,.c (B false)])
 |_,_,_,_=>none
def sliceB(P:Program)(H:List Ob)(t:TypeId)(x:Option aw)(d e:Option (Option Int)):Option aw:=
 match se P t,x,d,e with
 |some (_,f,_),some (.c (.sl h a b len)),some (some l),some (some m)=>match obj H h a with
  |some (z,rows)=>if z=f/\0<=l/\l<=m/\(len:Int)<m/\(b:Int)+m<=rows.length then some (.c (.sl h a (b+l.toNat) (m.toNat-l.toNat)))else none
  |none=>none
 |_,_,_,_=>none
def uL(P:Program)(H:List Ob)(t:TypeId)(f g:Option aw):Option (aw×List Ob):=
 match se P t,f,g with
 |some (_,a,_),some (.c (.sl h b d k)),some (.c (.sl i j s l))=>match obj H h b,obj H i j with
  |some (z,rows),some (m,e)=>if z=a/\m=a/\0<min k l/\d<=rows.length/\s+min k l<=e.length then
    some (.c (.v (.int .i64 ((min k l:Nat):Int))),H.set h (.live b z (dT rows d ((e.drop s).take (min k l)))))else none
  |_,_=>none
 |_,_,_=>none
def cA(P:Program)(e:Env)(H:List Ob):Op->Option (aw×List Ob)
 | .slice t x f g none=>(sliceB P H t (aX e x) (nL e f) (nL e g)).map (·,H)
 | .call {callee:= .builtin .copy,args,argTypes}=>match args.toList,argTypes.toList with
  |[d,x],[t,a]=>if t=a then uL P H t (aX e d) (aX e x)else none
  |_,_=>none
 | .convert src h x=>nH P H src h (aX e x)
 | .call {callee:= .builtin .append,args,argTypes}=>match args.toList,argTypes.toList with
  |[s,x],[t,a]=>match aX e s,aX e x with
   |some (.c s),some (.c (.v (.string b)))=>if pA P a then uP P H t s (b.data.toList.map eA)else none
   |_,_=>none
  |_,_=>none
 | .makeMap t none=>if sw P t then some (.c (.mr H.length),H++[.mp []])else none
 | .lookup t m k false=>nK P H t (aX e m) (aX e k)
 | .mapUpdate t m k v=>qW P H t (aX e m) (aX e k) (aX e v)
 | .range t x=>match aX e x with
  |some (.c (.v (.string s)))=>if pA P t then some (.c (.mG H.length),H++[.it s 0])else none
  |_=>none
 | .next i true=>yi H (aX e i)
 | .typeAssert x _ t true=>(zG P t (aX e x)).map (·,H)
 |_=>none
def eX(g:ab->Option (ab×List Nat)):List ab->Option (List ab×List Nat)
 |[]=>some ([],[])
 |l::c=>match g l,eX g c with
  |some (a,x),some (b,y)=>some (a::b,x++y)
  |_,_=>none
def jR(g:ab->Option (ab×List Nat)):List (List ab)->Option (List (List ab)×List Nat)
 |[]=>some ([],[])
 |r::c=>match eX g r,jR g c with
  |some (a,x),some (b,y)=>some (a::b,x++y)
  |_,_=>none
def jb(g:ab->Option (ab×List Nat))(rows:List (List ab)):Option (List (List ab)×List Nat):=
 if bA rows then some (rows,[])else jR g rows
def bU(H:List Ob):Nat->ab->Option (ab×List Nat)
 |0,_=>none
 |n+1,l=>if bC l then some (l,[])else match l with
  | .sl h b d len=>match obj H h b,view H (.sl h b d len)with
   |some (z,_),some rows=>match jb (bU H n) rows with
    |some (c,a)=>some (.aj c,z::a)
    |none=>none
   |_,_=>none
  | .ptr h b i k=>match obj H h b with
   |some (z,rows)=>match jb (bU H n) rows with
    |some (c,a)=>some (.aJ c i k,z::a)
    |none=>none
   |none=>none
  | .bF f e=>match eX (bU H n) e with
   |some (g,a)=>some (.bF f g,a)
   |none=>none
  |_=>none
def da:ab->ab
 | .v (.slice none 0 0)=> .aj []
 |l=>l
def df(H:List Ob):aw->Option (aw×List Nat)
 | .c l=>match bU H 6 l with
  |some (b,a)=>some (.c b,a)
  |none=>none
 | .agg cs=>match eX (bU H 6) cs with
  |some (d,a)=>some (.agg (d.map da),a)
  |none=>none
 | .aM _=>none
def dy(H:List Ob):List aw->Option (List aw×List Nat)
 |[]=>some ([],[])
 |v::c=>match df H v,dy H c with
  |some (a,x),some (b,y)=>some (a::b,x++y)
  |_,_=>none
def fh(b:Bool)(H:List Ob)(p:List Nat×List Ob)(l:ab):Option (ab×List Nat×List Ob):=
 if bC l then some (l,p)else match l with
  | .sl h a c len=>match obj H h a,view H (.sl h a c len)with
   |some (z,_),some rows=>
    if b then match jb (bU H 6) rows with
     |some (d,_)=>some (.aj d,p)
     |none=>none
    else if bA rows&&!p.1.contains h then some (.sl p.2.length 0 0 len,h::p.1,p.2++[.live 0 z rows])else none
   |_,_=>none
  |_=>none
def qk(a:Bool)(H:List Ob):List Nat×List Ob->List ab->Option (List ab×List Nat×List Ob)
 |p,[]=>some ([],p)
 |p,l::b=>match fh a H p l with
  |some (c,d)=>match qk a H d b with
   |some (e,f)=>some (c::e,f)
   |none=>none
  |none=>none
def uo(b:Bool)(H:List Ob)(p:List Nat×List Ob):aw->Option (aw×List Nat×List Ob)
 | .c l=>match fh b H p l with
  |some (d,a)=>some (.c d,a)
  |none=>none
 | .agg cs=>match qk b H p cs with
  |some (e,a)=>some (.agg e,a)
  |none=>none
 | .aM _=>none
def outs(a:Bool)(H:List Ob):List Nat×List Ob->List aw->Option (List aw×List Nat×List Ob)
 |p,[]=>some ([],p)
 |p,v::b=>match uo a H p v with
  |some (c,d)=>match outs a H d b with
   |some (e,f)=>some (c::e,f)
   |none=>none
  |none=>none
def dI(a:Bool)(H:List Ob):aw->Option (aw×List Ob)
 | .aM b=>match outs a H ([],[]) b with
  |some (c,_,own)=>some (.aM c,own)
  |none=>none
 |v=>match uo a H ([],[]) v with
  |some (d,_,own)=>some (d,own)
  |none=>none
mutual
def fW(a:List Nat):ab->Bool
 | .v _=>true
 | .aj rows=>gZ a rows
 | .eU rows=>gZ a rows
 | .sl _ _ _ _=>true
 |_=>false
def gZ(a:List Nat):List (List ab)->Bool
 |[]=>true
 |r::b=>!a.contains r.length&&cW a r&&gZ a b
def cW(a:List Nat):List ab->Bool
 |[]=>true
 |l::b=>fW a l&&cW a b
end
def kj(a:List Nat):aw->Bool
 | .c l=>fW a l
 | .agg cs=>cW a cs
 | .aM b=>b.all fun| .c l=>fW a l| .agg cs=>cW a cs| .aM _=>false
def lH(a:List Nat):Ob->Bool
 | .live _ _ rows=>rows.all fun r=>cW a r
 |_=>false
structure RI where
 ord:List Nat
 fl:Option Nat
 rs:List (Nat×Nat)
 gc:List Nat
structure bu where
 P:Program
 md:FuncId->Nat
 kt:FuncId->Option (List (List Nat))
 ri:FuncId->Nat->RI
 dH:FuncId->Bool
 dF:FuncId->List aw->List Ob->Option (aw×List Ob)
 kR:FuncId->Bool
 bz:FuncId->Nat->Bool
abbrev cV:=FuncId->List aw->List Ob->Option (aw×List Ob)
def eO(C:bu):aw->Bool
 | .c (.bF g _)=>C.md g==3
 |_=>false
def aS(C:bu)(b:cV)(m:Nat)(f:FuncId)(args:List aw):Option (aw×List Ob):=
 match b f args []with
 |some (r,a)=>if m=2 then some (r,a)else dI (m==1) a r
 |none=>none
def jm:ab->Bool
 | .ptr _ _ _ _=>true
 | .sl _ _ _ _=>true
 | .mr _=>true
 | .mG _=>true
 |l=>bC l
def pB:aw->Bool
 | .c l=>jm l
 | .agg cs=>cs.all jm
 | .aM a=>a.all fun| .c l=>jm l| .agg cs=>cs.all jm| .aM _=>false
def rq(rows:List (List ab)):Bool:=bA rows||rows.all fun r=>r.all jm
def nT:Ob->Bool
 | .live _ _ rows=>rq rows
 | .dead=>true
 | .mp a=>a.all fun p=>cy p.1&&jm p.2
 | .it _ _=>true
def ei(b:Bool)(a:List Nat)(r:aw)(own:List Ob):Bool:=
 match b with
 |true=>a.isEmpty&&pB r&&own.all nT
 |false=>a.isEmpty||(kj a r&&own.all (lH a))
def aO(C:bu)(a:cV):cV:=fun f args H=>
 if C.md f=3\/args.any (eO C)then a f args H else
 match dy H args with
 |some (b,c)=>match aS C a (C.md f) f b with
  |some (r,own)=>if ei (C.md f==2) c r own=true then some (eN H.length r,H++own.map (dX H.length))else none
  |none=>none
 |none=>none
def nI(all:List Oper)(e:Env):Option (Nat×Bool)->Option Bool
 |none=>some true
 |some (j,w)=>match(all[j]?).bind (·.dst)with
  |some t=>match e.get t with
   |some (.c (.v (.bool b)))=>some (b==w)
   |some (.aM [])=>some false
   |_=>none
  |none=>none
def eV(C:bu)(a:cV)(o:Op)(e:Env)(H:List Ob):Option (aw×List Ob):=
 match o with
 | .call {callee:= .value f,args,.. }=>match aX e f,pT (args.toList.map (aX e))with
  |some (.c (.bF g b)),some d=>a g (d++b.map .c) H
  |_,_=>none
 | .move (.global g)=>(tj g).map fun l=>(.c l,H)
 |o=>match bc C.P e H o with
  |some r=>some r
  |none=>match eE C.P e H o with
   |some x=>some (x,H)
   |none=>cA C.P e H o
def mh(b:Nat->Bool)(C:bu)(a:cV)(o:Op)(e:Env)(H:List Ob):Option (aw×List Ob):=
 match o with
 | .box t (.tmp k)=>if b k=true then(match e.get k with
   |some v=>match v.cells with
    |some (z::d)=>some (.c (.aJ [z::d] 0 0),H)
    |_=>none
   |none=>none)else eV C a (.box t (.tmp k)) e H
 | .indexAddr t (.global g) i=>(sc C.P t ((tj g).map .c) (aX e i)).map (·,H)
 |o=>eV C a o e H
def fH(a:Nat->Bool)(C:bu)(b:cV)(all:List Oper):List Oper->Env->List Ob->Option (Env×List Ob)
 |[],e,H=>some (e,H)
 |o::d,e,H=>match nI all e o.guard with
  |some c=>if c=true then(match mh a C b o.op e H with
    |some (x,f)=>fH a C b all d (ee e o.dst x) f
    |none=>none)else fH a C b all d (ee e o.dst unit) H
  |none=>none
def iQ(n:Nat):aw->aw
 | .c (.ptr _ _ i k)=> .c (.ptr n 1 i k)
 | .c (.sl _ _ a len)=> .c (.sl n 1 a len)
 |v=>v
def gO(P:Program)(o:Op)(e:Env)(H:List Ob)(a:Nat):Option (aw×List Ob):=
 match H[a]?,bc P e [] o with
 |some .dead,some (x,[.live 0 z rows])=>if bA rows=true then some (iQ a x,H.set a (.live 1 z rows))else none
 |_,_=>none
def iG:ab->List Nat
 | .ptr h _ _ _=>[h]
 | .sl h _ _ _=>[h]
 | .mr h=>[h]
 | .mG h=>[h]
 |_=>[]
def lS:aw->List Nat
 | .c l=>iG l
 |_=>[]
def uG(e:Env)(a:Op):List Nat:=a.operands.toList.flatMap fun p=>match aX e p with
 |some v=>lS v
 |none=>[]
def zE:Op->Option Operand
 | .store _ p _=>some p
 | .call {callee:= .builtin .append,args,.. }=>args.toList.head?
 |_=>none
def vM(e:Env)(a:Op):Option (List Nat):=
 match zE a with
 |some p=>match aX e p with
  |some (.c l)=>some (iG l)
  |some (.aM [])=>some []
  |_=>none
 |none=>none
def qp(e:Env)(a i:Op):Bool:=
 match uG e a,vM e i with
 |[],_=>true
 |hs,some b=>hs.all fun h=>!b.contains h
 |_,none=>false
def qU(all:List Oper)(b:List (Nat×Nat))(e:Env):Bool:=
 b.all fun p=>match all[p.1]?,all[p.2]? with
  |some a,some i=>qp e a.op i.op
  |_,_=>false
def re(C:bu)(e:Env):Op->Bool
 | .call {callee:= .value f,args,.. }=>match aX e f,pT (args.toList.map (aX e))with
  |some (.c (.bF g a)),some b=>C.md g !=3&&!(b++a.map aw.c).any (eO C)
  |_,_=>false
 |_=>false
def jH(C:bu)(b:cV)(r:RI)(c i:Nat)(a:Op)(e:Env)(H:List Ob):Option (aw×List Ob):=
 if r.fl=some i then gO C.P a e H c else if(!r.gc.contains i||re C e a)=true then eV C b a e H else none
def fA(C:bu)(a:cV)(r:RI)(all:List Oper)(b i:Nat)(o:Oper)(e:Env)(H:List Ob):Option (aw×List Ob):=
 match nI all e o.guard with
 |some c=>if c=true then jH C a r b i o.op e H else some (unit,H)
 |none=>none
def fZ(C:bu)(a:cV)(r:RI)(all:List Oper)(b:Nat):List (Nat×Oper)->Env->List Ob->Option (Env×List Ob)
 |[],e,H=>some (e,H)
 |p::c,e,H=>match fA C a r all b p.1 p.2 e H with
  |some (x,d)=>fZ C a r all b c (ee e p.2.dst x) d
  |none=>none
def qz(r:RI)(n:Nat):List Nat:=
 match r.ord with
 |[]=>aiZ n
 |l=>l
def tag(all:List Oper)(a:List Nat):List (Nat×Oper):=a.filterMap fun k=>(all[k]?).map (k, ·)
def jy(C:bu)(a:cV)(r:RI)(all:List Oper)(e:Env)(H:List Ob):Option (Env×List Ob):=
 fZ C a r all H.length (tag all (qz r all.length)) e (match r.fl with|none=>H|some _=>H++[.dead])
def eI:List Nat->Env->Env
 |[],_=>[]
 |t::a,e=>match e.get t with
  |some x=>(t,x)::eI a e
  |none=>eI a e
def pI(a:Option (List Nat))(b c:Env):Env:=
 match a with
 |some a=>eI a b++c
 |none=>b
def pE:List (List Nat)->Nat->List Nat
 |[],_=>[]
 |l::_,0=>l
 |_::r,k+1=>pE r k
def nu(C:bu)(f id:Nat):Option (List Nat):=
 match C.kt f with
 |some l=>some (pE l id)
 |none=>none
abbrev ji:=FuncId->Code->St->Option (Exit×St)
def ox(k:Option (List Nat))(S:St)(ok:Env->Bool):Option (Env×List Ob)->Option (Exit×St)
 |some (e,H)=>if ok e=true then some (.normal,⟨pI k e S.env,H,S.bG⟩)else none
 |none=>none
def sq(r:Option (Exit×St))(k:St->Option (Exit×St)):Option (Exit×St):=
 match r with
 |some (.normal,S)=>k S
 |r=>r
def bl(id:Nat)(r:Option (Exit×St)):Option (Exit×St):=
 match r with
 |some (.exit a,S)=>if a=id then some (.normal,S)else some (.exit a,S)
 |r=>r
def wy(v:Option aw)(x y:Option (Exit×St)):Option (Exit×St):=
 match v with
 |some (.c (.v (.bool b)))=>if b=true then x else y
 |_=>none
def vr:Env->List Nat->List Nat
 |[],a=>a
 |(t,_)::r,a=>if a.contains t=true then vr r a else vr r (a++[t])
def iJ(e:Env):List Nat:=vr e []
def qx(C:bu)(all:List Oper)(e:Env):Option (FuncId×List aw):=
 match all.getLast? with
 |some {op:= .defer {callee:= .value f,args,.. },dst:=none,guard:=none,.. }=>match aX e f,pT (args.toList.map (aX e))with
  |some (.c (.bF g a)),some b=>some (g,b++a.map .c)
  |_,_=>none
 |_=>none
def ui(all:List Oper):Bool:=
 match all.getLast? with
 |some {op:= .defer _,.. }=>true
 |_=>false
def lE(C:bu)(a:cV)(f id:Nat)(all:List Oper)(b:Bool)(S:St):Option (Exit×St):=
 if ui all=true then match b,fH (C.bz f) C a all all.dropLast S.env S.heap with
  |false,some (e,H)=>match qx C all e with
   |some d=>some (.normal,⟨pI (nu C f id) e S.env,H,d::S.bG⟩)
   |none=>none
  |_,_=>none
 else match b with
  |false=>ox (nu C f id) S (fun _=>true) (fH (C.bz f) C a all all S.env S.heap)
  |true=>ox (nu C f id) S (fun e=>qU all (C.ri f id).rs e) (jy C a (C.ri f id) all S.env S.heap)
def qc(b:ji)(f:FuncId)(c:Code)(d:List Nat)(k:St->Option (Exit×St))(S:St):Option (Exit×St):=
 match b f c S with
 |some (.normal,a)=>k ⟨eI d a.env,a.heap,a.bG⟩
 |r=>r
def uM(b:ji)(f:FuncId)(c:Code)(d:List Nat)(k:St->Option (Exit×St))(S:St):Option (Exit×St):=
 match b f c S with
 |some (.goto l,a)=>match findLabel c l with
  |none=>some (.goto l,a)
  |some _=>match c with
   | .seq (.label e) _=>if l=e then k ⟨eI d a.env,a.heap,a.bG⟩else none
   |_=>none
 |r=>r
def CH(P:Program)(e:Env)(H:List Ob):ResultVar->Option aw
 | .tmp t=>e.get t
 | .cell t a=>match tk P a,e.get t with
  |some (true,n),some (.c p)=>(qR H n p).map .agg
  |some (false,_),some (.c p)=>(qP H p).map .c
  |_,_=>none
def CE:aw->aw
 | .agg cs=> .agg (cs.map da)
 |v=>v
def uO(P:Program)(e:Env)(H:List Ob):List ResultVar->Option (List aw)
 |[]=>some []
 |r::a=>match CH P e H r,uO P e H a with
  |some x,some b=>some (CE x::b)
  |_,_=>none
def gY(P:Program)(e:Env)(H:List Ob)(a:List ResultVar):Option aw:=
 match uO P e H a with
 |some [x]=>some x
 |some b=>some (.aM b)
 |none=>none
def lW(C:bu)(d:ji):cV:=fun f args H=>
 if C.dH f=true then C.dF f args H else
 match C.P.funcs[f]? with
 |some a=>match a.body with
  |some c=>if args.length<=a.ntmps/\args.length<=a.params.size+a.nfree then match d f c ⟨fP 0 args,H,[]⟩with
    |some (.normal,⟨e,b,[]⟩)|some (.ret,⟨e,b,[]⟩)=>(gY C.P e b a.results.toList).map (·,b)
    |_=>none
   else none
  |none=>none
 |none=>none
def iX(C:bu)(a:ji):List (FuncId×List aw)->List Ob->Option (List Ob)
 |[],H=>some H
 |(g,c)::b,H=>if C.kR g=true then iX C a b H else if C.dH g=true then none else match lW C a g c H with
  |some (_,d)=>iX C a b d
  |none=>none
def bB(C:bu)(b:ji):cV:=fun f args H=>
 if C.dH f=true then C.dF f args H else
 match C.P.funcs[f]? with
 |some a=>match a.body with
  |some c=>if args.length<=a.ntmps/\args.length<=a.params.size+a.nfree then match b f c ⟨fP 0 args,H,[]⟩with
    |some (.normal,S)|some (.ret,S)=>match iX C b S.bG S.heap with
     |some d=>(gY C.P S.env d a.results.toList).map (·,d)
     |none=>none
    |_=>none
   else none
  |none=>none
 |none=>none
def fG(C:bu)(d:ji):ji:=fun f c S=>match c with
 | .skip=>some (.normal,S)
 | .label _=>some (.normal,S)
 | .region id e g=>lE C (aO C (bB C d)) f id e.toList g S
 | .seq a b=>sq (d f a S) (d f b)
 | .cond (.tmp t) a b=>wy (S.env.get t) (d f a S) (d f b S)
 | .block id c=>bl id (d f c S)
 | .loop c=>qc d f c (iJ S.env) (d f (.loop c)) ⟨eI (iJ S.env) S.env,S.heap,S.bG⟩
 | .exit id=>some (.exit id,S)
 | .goto l=>some (.goto l,S)
 | .ret=>some (.ret,S)
 | .scope c=>uM d f c (iJ S.env) (d f (.scope c)) ⟨eI (iJ S.env) S.env,S.heap,S.bG⟩
 |_=>none
def run(C:bu):Nat->ji
 |0=>fun _ _ _=>none
 |n+1=>fG C (run C n)
variable{P:Program}{a:Act}{d:Option Nat}{Γ:az}{e:Env}
def Env.nO(e:Env)(d:Option Nat)(x:aw)(t:Nat):(ee e d x).get t=if d=some t then some x else e.get t:=by
 cases d with
 |none=>simp[ee]
 |some s=>simp[ee,Env.get]
def enters(P:Program)(f:FuncId):Bool:=
 match P.funcs[f]? with
 |some a=>a.name != "runtime.NumGoroutine" &&a.body.isSome
 |none=>false
def Call(P:Program)(f:FuncId)(args:List aw)(H:List Ob)(r:aw)(c:List Ob):Prop:=
 enters P f=true/\∀Γ,aZ Γ H->∀b:Array Value,bT Γ args b.toList->Calls P f b Γ.w fun e d=>
  ∃y a,e= .returned y/\a.w=d/\Γ.cL a/\aZ a c/\aL a r y
def Qa{f:FuncId}(h:enters P f=true)(args:Array Value)(w:World):(callFunc f args).run P w= .ok (.enter f args) w:=by
 unfold enters at h;split at h
 .rename_i a d;simp only[abR,bne_iff_ne,ne_eq,Option.isSome_iff_ne_none]at h
  have c:a.body.isNone=false:=by
   cases c:a.body with
   |none=>exact absurd c h.2
   |some b=>rfl
  simp only[callFunc,aiT,run_program,aiG,d];simp[h.1,h.2]
 .cases h
def agA{w:World}{o:Oper}{f:Operand}{args:Array Operand}{d:Array TypeId}(e:o.op= .call {callee:= .value f,args:=args,argTypes:=d}){a:Operand->Value}{c:FuncId}{b:Array Value}
  (g:a f= .func (.func c) #[] b) (h:enters P c=true):(execOp a o).run P w= .ok (.enter c (args.map a++b)) w:=by
 simp[execOp,e,resolve,g,Deferred.ofValue,invoke,Qa h]
def CX{Γ:az}:∀ {e b:List aw} {c d:List Value},bT Γ e c->bT Γ b d->bT Γ (e++b) (c++d)
 |[],b,c,d,h,f=>by
  simp only[bT]at h
  subst h
  simpa using f
 |a::e,b,c,d,h,f=>by
  simp only[bT]at h
  obtain⟨y,j,rfl,g,i⟩:=h
  simp only[ai7,bT]
  exact⟨y,_,rfl,g,CX i f⟩
def BT{Γ:az}:∀ {b:List ab} {a:List Value},aY Γ b a->bT Γ (b.map .c) a
 |[],a,h=>by simpa[aY,bT]using h
 |l::b,a,h=>by
  simp only[aY]at h
  obtain⟨y,f,rfl,d,e⟩:=h
  simp only[ag9,bT,aL]
  exact⟨y,_,rfl,d,BT e⟩
def C0{Γ:az}{e:Env}{a:Act}:∀(d:List Operand) (b:List aw),(∀p∈d,Good Γ e a p)->pT (d.map (aX e))=some b->bT Γ b (d.map a.eval)
 |[],b,_,h=>by
  simp[pT]at h
  subst h
  simp[bT]
 |p::g,b,f,h=>by
  simp only[ag9]at h
  unfold pT at h
  split at h
  .rename_i c;cases c
  .rename_i x r c
   simp only[aiA]at c
   obtain⟨i,rfl⟩:=c
   simp only[ab4]at h
   obtain⟨j,k,rfl⟩:=h
   simp only[ag9,bT]
   exact⟨_,_,rfl,f p (by simp) _ i,C0 g j (fun q l=>f q (by simp[l])) k⟩
  .cases h
def OM{v:Value}{t:Nat}(b:d≠some t):(a.put d v).tmps[t]?=a.tmps[t]?:=by
 cases d with
 |none=>rfl
 |some s=>simp only[Act.put];rw[akG];intro e;exact b (by rw[e])
def agk{s:Nat}{v:Value}(h:s<a.tmps.size):(a.put (some s) v).tmps[s]?=some v:=by simp[Act.put,h]
def vB{v:Value}:(a.put d v).tmps.size=a.tmps.size:=by cases d<;>simp[Act.put]
def put_defers{v:Value}:(a.put d v).defers=a.defers:=by cases d<;>rfl
def adq(Γ:az)(d:FuncId×List aw)(c:Deferred):Prop:= ∃cap:Array Value,c.target= .fn (.func d.1) cap/\bT Γ d.2 (c.args.toList++cap.toList)
def tO(Γ:az):List (FuncId×List aw)->List Deferred->Prop
 |[],cs=>cs=[]
 |d::b,cs=>∃c a,cs=c::a/\adq Γ d c/\tO Γ b a
def tO.mono{Γ b:az}(h:Γ.Le b):∀ {a:List (FuncId×List aw)} {cs:List Deferred},tO Γ a cs->tO b a cs
 |[],cs,hc=>hc
 |d::a,cs,hc=>by
  obtain⟨c,e,rfl,⟨cap,f,g⟩,i⟩:=hc
  exact⟨c,e,rfl,⟨cap,f,Ei h _ _ g⟩,tO.mono h i⟩
def mm(Γ:az)(e:Env)(a:Act):Prop:= ∀t x,e.get t=some x->∃y,a.tmps[t]?=some y/\aL Γ x y
def Sat(n:Nat)(b:az)(S:St)(a:Act)(w:World):Prop:=
 a.tmps.size=n/\∃Γ,Γ.w=w/\b.cL Γ/\aZ Γ S.heap/\mm Γ S.env a/\tO Γ S.bG a.defers
def mm.mono{b:az}(h:Γ.Le b)(c:mm Γ e a):mm b e a:=fun t x d=>by have⟨y,f,g⟩:=c t x d;exact⟨y,f,DB h _ _ g⟩
def mm.put(f:mm Γ e a)(g:∀t,d=some t->t<a.tmps.size){x:aw}{y:Value}(hc:aL Γ x y):mm Γ (ee e d x) (a.put d y):=by
 intro t z b;rw[Env.nO]at b;split at b
 .rename_i c;cases b;exact⟨y,by rw[c];exact agk (g t c),hc⟩
 .rename_i c;have⟨h,i,j⟩:=f t z b;exact⟨h,by rw[OM c];exact i,j⟩
def uD(b:mm Γ e a)(p:Operand):Good Γ e a p:=by
 cases p with
 |tmp t=>
  intro x c;have⟨y,d,h⟩:=b t x c;have:a.eval (.tmp t)=y:=by simp[Act.eval,aiR,d]
  rw[this];exact h
 |const v=>exact U1
 |global g=>exact acz
 |func f=>exact acW
end Go.Nx
namespace Go.Nx
variable{k:IntKind}{n:Int}{x:aw}{b:Bool}{t:TypeId}{op:BinOp}{H:List Ob}
section
variable{P:Program}{e:Env}{y z:Operand}{ts ts':TypeId}{s r:ByteArray}{Γ:az}{a:Act}
def Good.str(h:Good Γ e a y)(b:aX e y=some (.c (.v (.string s)))):a.eval y= .string s:=by have:=h _ b;simp only[aL,aB]at this;exact this.1
def Good.int(h:Good Γ e a y)(b:aX e y=some (.c (.v (.int k n)))):a.eval y= .int k n:=by have:=h _ b;simp only[aL,aB]at this;exact this.1
def Good.v{x:Value}(h:Good Γ e a y)(b:aX e y=some (.c (.v x))):a.eval y=x:=by have:=h _ b;simp only[aL,aB]at this;exact this.1
def rH:aL Γ (.c (.v (.int k n))) (.int k n):=⟨rfl,rfl⟩
def uH:aL Γ (.c (B b)) (.bool b):=⟨rfl,rfl⟩
def xm(s:ByteArray):s.size=s.data.toList.length:=by cases s;rfl
def HH{a b:ByteArray}(h:a.data.toList=b.data.toList):a=b:=by cases a;cases b;congr 1;simpa using h
def tQ(h:pA P t=true):P.underlying t=some .string:=by
 unfold pA at h;split at h
 .assumption
 .cases h
def Qt(h:ry P t=true):∃u,P.underlying t=some (.pointer u):=by
 unfold ry at h;split at h
 .exact ⟨_,by assumption⟩
 .cases h
def Se(h:yL P t=true):∃u,P.underlying t=some (.interface u):=by
 unfold yL at h;split at h
 .exact ⟨_,by assumption⟩
 .cases h
def DJ(s:ByteArray):s.toList=s.data.toList:=by have:=ByteArray.toList_mk s.data.toList;rw[show(⟨s.data.toList.toArray⟩:ByteArray)=s from HH (by simp)]at this;exact this
def QB(s r:List UInt8):(s==r)=decide (s=r):=by rw[aj3];simp
def AC(h:ll op b=some x){w:World}{u v:Value}(f:binOp .eql t u v=alO Value.bool (Op.equal t u v))(g:binOp .neq t u v=alO (fun a=>Value.bool !a) (Op.equal t u v))
  (i:∀d,(alu (d+1) t u v).run P w= .ok b w):∃c,x= .c (B c)/\(binOp op t u v).run P w= .ok (.bool c) w:=by
 have e:(Op.equal t u v).run P w= .ok b w:=i 9999
 unfold ll at h
 split at h
 .cases h
  exact⟨b,rfl,by rw[f,Sem.run_map,e];rfl⟩
 .cases h
  exact⟨!b,rfl,by rw[g,Sem.run_map,e];rfl⟩
 .cases h
def XJ(D:aZ Γ H){A o:Operand}(h:gV P H op t o (aX e A) (aX e o)=some x)(r:Good Γ e a A)(s:Good Γ e a o):
  ∃y,((do eqGuard op t A o (a.eval A) (a.eval o);binOp op t (a.eval A) (a.eval o):Sem Value)).run P Γ.w= .ok y Γ.w/\aL Γ x y:=by
 unfold gV at h
 split at h
 .rename_i p q hp m
  have f:=r.str hp;have g:=s.str m
  split at h
  .cases h
   exact⟨.bool (decide (p.data.toList=q.data.toList)),by simp only[f,g,eqGuard, <-QB, <-DJ];simp[binOp,al8],uH⟩
  .cases h
   exact⟨.bool (!decide (p.data.toList=q.data.toList)),by simp only[f,g,eqGuard, <-QB, <-DJ];simp[binOp,al8],uH⟩
  .split at h
   .rename_i L
    cases h
    refine⟨.string (p++q),?_,?_⟩
    .have n:(p.size:Int)+(q.size:Int)<=9223372036854775807:=by
      rw[xm,xm]
      have:maxLen<=9223372036854775807:=by decide
      omega
     simp[f,g,binOp,eqGuard,al8,n]
    .simp only[aL,aB]
     refine⟨?_,rfl⟩
     exact congrArg amD (HH (by simp))
   .cases h
  .cases h
 .rename_i k p M q hp m
  have f:=r.int hp;have g:=s.int m
  split at h
  .split at h
   .rename_i B;subst B;cases h
    exact⟨.int k (jp _ k p q),by simp[f,g,binOp,eqGuard,amc,jp],rH⟩
   .cases h
  .split at h
   .rename_i B;subst B;cases h
    exact⟨.int k (jp _ k p q),by simp[f,g,binOp,eqGuard,amc,jp],rH⟩
   .cases h
  .split at h
   .rename_i B;subst B;cases h
    exact⟨.int k (jp _ k p q),by simp[f,g,binOp,eqGuard,amc,jp],rH⟩
   .cases h
  .split at h
   .cases h
   .rename_i hn;cases h
    exact⟨_,by simp[f,g,binOp,eqGuard,Op.shift,hn],rH⟩
  .split at h
   .cases h
   .rename_i hn;cases h
    exact⟨_,by simp[f,g,binOp,eqGuard,Op.shift,hn],rH⟩
  .cases h
 .rename_i hp m
  have f:=r.v hp;have g:=s.v m
  split at h
  .rename_i j
   have⟨u,j⟩:=Qt j
   obtain⟨c,rfl,n⟩:=AC (P:=P) (w:=Γ.w) (t:=t) (u:= .pointer none) (v:= .pointer none) h rfl rfl (fun d=>by simp[alu,run_underlying j])
   exact⟨_,by rw[f,g];simp[eqGuard,n],uH⟩
  .cases h
 .rename_i N O i k hp m
  have f:=r _ hp;have g:=s.v m
  split at h
  .rename_i j
   have⟨u,j⟩:=Qt j
   split at h
   .rename_i p E
    simp only[aL]at f
    have⟨C,b,_,_,F⟩:=wI D f E
    .obtain ⟨c,rfl,n⟩:=AC (P:=P) (w:=Γ.w) (t:=t) (u:= .pointer (some ⟨b,C.off+i*C.sz+k,none⟩)) (v:= .pointer none) h rfl rfl (fun d=>by simp[alu,run_underlying j])
     exact⟨_,by rw[F,g];simp[eqGuard,n],uH⟩
   .cases h
  .cases h
 .rename_i hp m
  have f:=r.v hp;have g:=s.v m
  split at h
  .rename_i j
   have⟨u,G⟩:=Se j.1
   obtain⟨c,rfl,n⟩:=AC (P:=P) (w:=Γ.w) (t:=t) (u:= .nilIface) (v:= .nilIface) h rfl rfl (fun d=>by simp[alu,run_underlying G])
   have I:o= .const .nilIface:=by
    have:=j.2
    unfold Na at this
    split at this
    .rfl
    .cases this
   subst I
   exact⟨_,by rw[f,g];simp[eqGuard,n],uH⟩
  .cases h
 .rename_i J l hp m
  have f:=r _ hp;have g:=s.v m
  simp only[aL,aB]at f
  have⟨z,K,_⟩:=f
  split at h
  .rename_i j
   have⟨u,j⟩:=Se j
   obtain⟨c,rfl,n⟩:=AC (P:=P) (w:=Γ.w) (t:=t) (u:= .iface J z) (v:= .nilIface) h rfl rfl (fun d=>by simp[alu,run_underlying j])
   exact⟨_,by rw[K,g];simp[eqGuard,n],uH⟩
  .cases h
 .cases h
def afx(Q:aZ Γ H){op:Op}(h:eE P e H op=some x){o:Oper}(K:o.op=op)(l:∀p∈op.operands,Good Γ e a p):
  ∃y,(execOp a.eval o).run P Γ.w= .ok (.value y) Γ.w/\aL Γ x y:=by
 have⟨ag,ah,ty,pos,ai,guard⟩:=o
 simp only at K
 subst K
 unfold eE at h
 split at h
 .rename_i op t d B t'
  have⟨y,q,C⟩:=XJ Q h (l d (by simp[acH])) (l B (by simp[acH]))
  refine⟨y,?_,C⟩
  rw[aiT]at q
  cases v:(eqGuard op t d B (a.eval d) (a.eval B)).run P Γ.w with
  |ok aj R=>
   rw[v]at q
   simp only[aiG]at q
   simp[execOp,v,q]
  |halt hh R=>
   rw[v]at q
   cases q
 .rename_i t d
  have u:=l d (by simp[acH])
  unfold E7 at h
  split at h
  .rename_i k n hp
   cases h
   have g:=u.int hp
   exact⟨_,by simp[execOp,g,Op.unary,amc,jp,sr],rH⟩
  .cases h
 .rename_i args ts
  split at h
  .rename_i d t q C
   have u:=l d (by simp[acH,aiM];have:d∈args.toList:=(by rw[q];simp);simpa using this)
   unfold fX at h
   split at h
   .rename_i s hp
    split at h
    .rename_i f
     cases h
     have g:=u.str hp
     have f:=tQ f
     have S:args= #[d]:=by rw[<-amm,q]
     have i:ts= #[t]:=by rw[<-amm,C]
     subst S i
     refine⟨.int .i64 (s.size:Int),?_,by rw[<-xm];exact rH⟩
     simp[execOp,resolve,invoke,builtin,g,Builtin.len_,run_underlying f,goInt]
    .cases h
   .cases h
  .cases h
 .rename_i t d D
  have u:=l d (by simp[acH]);have E:=l D (by simp[acH])
  unfold nB at h
  split at h
  .rename_i s k n hp v
   have g:=u.str hp;have F:=E.int v
   split at h
   .rename_i f
    have T:=f.2
    have f:=tQ f.1
    split at h
    .rename_i c hc
     cases h
     refine⟨.int .u8 c.toNat,?_,rH⟩
     have i:s[n.toNat]?=some c:=by
      rw[abW]at hc
      have⟨U,q⟩:=hc
      have L:n.toNat<s.size:=by rw[xm];exact U
      rw[getElem?_pos s n.toNat L]
      exact congrArg some q
     simp[execOp,g,F,Instr.index,asIntOf,run_underlying f,T,i]
    .cases h
   .cases h
  .cases h
 .rename_i t d lo hi
  have u:=l d (by simp[acH])
  unfold pn at h
  split at h
  .rename_i s V W hp X Y
   split at h
   .rename_i i
    have⟨f,Z,b2,b3⟩:=i
    have f:=tQ f
    cases h
    have g:=u.str hp
    refine⟨.string (s.extract (V.getD 0).toNat (W.getD (s.data.toList.length:Int)).toNat),?_,?_⟩
    .have aa:=vV (Γ:=Γ) (a:=a) (fun p hp=>l p (by subst hp;simp[acH])) X
     have ab:=vV (Γ:=Γ) (a:=a) (fun p hp=>l p (by subst hp;simp[acH])) Y
     have L:=xm s
     rcases aa with⟨z,rfl⟩|⟨k,m,z,rfl⟩<;>rcases ab with⟨A,rfl⟩|⟨M,G,A,rfl⟩<;>simp only[ajm,ai0]at Z b2 b3|-
     .simp[execOp,g,z,A,ajy,run_underlying f,akO,ajX]
     .have i:=mi (P:=P) (w:=Γ.w) M G s.data.toList.length .sliceAlen (by omega) (by omega)
      simp at i
      simp[execOp,g,z,A,ajy,run_underlying f,akO,ajX,i]
     .have i:=mi (P:=P) (w:=Γ.w) k m s.data.toList.length .sliceB (by omega) (by omega)
      simp at i
      simp[execOp,g,z,A,ajy,run_underlying f,akO,ajX,i]
     .have N:=mi (P:=P) (w:=Γ.w) M G s.data.toList.length .sliceAlen (by omega) (by omega)
      have i:=mi (P:=P) (w:=Γ.w) k m G.toNat .sliceB (by omega) (by omega)
      simp at N
      simp[execOp,g,z,A,ajy,run_underlying f,akO,ajX,i,N]
    .simp only[aL,aB]
     refine⟨congrArg amD (HH ?_),rfl⟩
     rw[Lib.extract_data]
     simp[alC]
   .cases h
  .cases h
 .rename_i t d D
  have u:=l d (by simp[acH]);have E:=l D (by simp[acH])
  unfold sc at h
  split at h
  .rename_i rows r k kk j hp v
   have F:=E.int v
   have g:=u _ hp
   simp only[aL,aB]at g
   have⟨b,I,J,g,hF,hr⟩:=g
   split at h
   .rename_i n ad ak ae
    split at h
    .rename_i O
     cases h
     have⟨el,f,af⟩:=Al ae
     have hs:=(pt af Γ.w).2
     have:=Hu (P:=P) (w:=Γ.w) f hs b (I+r*J+k) kk j O.1 O.2
     refine⟨.pointer (some ⟨b,I+r*J+k+j.toNat*ad,none⟩),by simp[execOp,g,F,this],?_⟩
     simp only[aL,aB]
     exact⟨b,I,J,by rw[ajg],hF,hr⟩
    .cases h
   .cases h
  .cases h
 .rename_i t d
  have u:=l d (by simp[acH])
  unfold oD at h
  split at h
  .cases h
  .rename_i al am hn f hp
   cases h
   have g:=u _ hp
   simp only[aL]at g
   refine⟨.iface t (a.eval d),?_,?_⟩
   .have:(alZ t (a.eval d)).run P Γ.w= .ok (.iface t (a.eval d)) Γ.w:=by
     simp only[alZ,aiT,run_underlying f,aiG]
     simp
    simp[execOp,this]
   .simp only[aL,aB]
    exact⟨_,rfl,g⟩
  .cases h
 .cases h
end
end Go.Nx
namespace Go.Nx
open Go.Lib
def Bw(a:List Int):List UInt8:=a.map fun n=>al1 n.toNat
def rS(s:List UInt8):List Int:=s.map fun b=>(b.toNat:Int)
abbrev rp(x:Int):List ab:=[.v (.int .u8 x)]
def acK(s:List UInt8):s.map eA=(rS s).map rp:=by simp[rS,eA,rp]
def Pu:∀ {rows:List (List ab)} {a:List UInt8},bytesOf rows=some a->∃b,rows=b.map rp/\a=Bw b
 |[],a,h=>by
  simp only[bytesOf,ab1]at h
  exact⟨[],rfl,h.symm⟩
 |r::e,a,h=>by
  unfold bytesOf at h
  split at h
  .rename_i c;cases c
  .rename_i n f c
   simp only[aiA]at c
   obtain⟨rfl,rfl⟩:=c
   split at h
   .rename_i g d
    cases h
    obtain⟨b,rfl,rfl⟩:=Pu d
    exact⟨n::b,rfl,rfl⟩
   .cases h
  .cases h
def NJ{P:Program}{t:TypeId}(h:rT P t=true):∃a,P.underlying t=some (.slice a)/\P.underlying a=some (.int .u8):=by
 unfold rT at h;split at h
 .rename_i e b;split at h
  .rename_i c;exact⟨e,b,c⟩
  .cases h
 .cases h
def ZG{P:Program}{a:az}{H N:List Ob}(g:aZ a H){src q:TypeId}{v x:aw}{D:Value}(E:aL a v D)(h:nH P H src q (some v)=some (x,N)):
  ∃y e,(convert src q D).run P a.w= .ok y e.w/\a.cL e/\aZ e N/\aL e x y:=by
 unfold nH at h
 split at h
 .
  rename_i s G
  cases G
  split at h
  case isFalse=>cases h
  rename_i d
  simp only[abR,decide_eq_true_eq]at d
  have⟨⟨I,o⟩,p⟩:=d
  have hs:=tQ I
  have⟨f,u,A⟩:=NJ o
  cases h
  simp only[aL,aB]at E
  obtain⟨rfl,_⟩:=E
  have J:s.size=s.data.toList.length:=rfl
  obtain⟨cap,C⟩:∃cap,cap=grownCap a.w s.size 0 f:=⟨_,rfl⟩
  have O:s.size<=cap:=by rw[C];exact grownCap_ge a.w s.size 0 f
  have U:cap<=maxLen:=by rw[C];exact grownCap_le_maxLen a.w s.size 0 f (by rw[J];exact p)
  have V:(bytesCells a.w f s).size=cap:=by
   have:s.data.size=s.size:=rfl
   simp[bytesCells, <-C]
   omega
  let e:az:={w:=ak0 a.w f s,F:=a.F,X:=fun b=>a.X b\/b=a.w.heap.size,hs:=a.hs++[(⟨some a.w.heap.size,0,cap,1⟩,0)]}
  have K:∀b,b<a.w.heap.size->e.w.heap[b]?=a.w.heap[b]?:=fun b d=>Lib.bytesWorld_at_old a.w f s b d
  have ag:e.w.heap.size=a.w.heap.size+1:=Lib.bytesWorld_size a.w f s
  have ah:=g.len
  have Q:a.Le e:=⟨fun b z d=>d,fun b z d=>K b (g.F b z d),fun n i v hn=>⟨i,v,by
   have W:n<a.hs.length:=(abW.1 hn).1
   simp only[e]
   rw[abE W];exact hn,ad3 _,fun _=>rfl⟩⟩
  have L:e.hs[H.length]?=some (⟨some a.w.heap.size,0,cap,1⟩,0):=by simp[e,g.len]
  have Y:dE 1 e.w a.w.heap.size (bytesCells a.w f s) f:=⟨_,Lib.bytesWorld_at_new a.w f s,.inr ⟨rfl,ad3 _⟩⟩
  have Z:bE e a.w.heap.size 1 0 (s.data.toList.map eA):=by
   refine mY fun i r t=>?_
   rw[adf]at t
   simp only[ab4]at t
   obtain⟨c,hc,rfl⟩:=t
   have ai:=(abW.1 hc).1
   refine⟨rfl,?_⟩
   simp only[eA,cR,and_true]
   refine⟨.int .u8 (c.toNat:Int),?_,by simp[aB,aiw]⟩
   have:=Lib.bytesWorld_cell a.w f s i (by omega)
   simp only[aiW,Nat.mul_one]
   have e1:e.w.cell? ⟨a.w.heap.size,i,none⟩=some (.int .u8 ((s.data.toList.getD i 0).toNat:Int)):=this
   rw[e1]
   simp[List.getD,hc]
  refine⟨.slice (some ⟨a.w.heap.size,0,none⟩) s.size cap,e,?_,⟨Q,?_,?_,?_,by omega,fun b d _=>K b d,fun b z d=> .inl d,fun b d=>d.imp id fun d=>by omega⟩,?_,?_⟩
  .rw[Lib.run_convert_string_bytes a.w src q f s hs u A,C]
  .simp[e,ak0,alE];rfl
  .simp[e,ak0,alE]
  .simp[e,ak0,alE];rfl
  .refine g.put Q H.length (by simp[e,g.len]) (fun n hn=>⟨ot _ _ _ hn,by simp only[e];exact ot _ _ _ (by omega)⟩) (fun aa M=>?_) (fun aa aj v b M _ hs d=>?_) (fun b d _=>K b d)
    (fun b z B=> .inl B) (fun b j=> .inl j) (fun b z B=>?_) (fun b j=>?_)
   .simp at M
    subst M
    refine⟨⟨some a.w.heap.size,0,cap,1⟩,L,U,?_⟩
    refine⟨rfl,.inr rfl,fun z B=>?_,by rw[aio, <-J];exact O,by simp,_,f,Y,by simp[V],Z⟩
    have:=g.F _ _ B
    omega
   .rw[L]at hs
    cases hs
    cases d
    exact .inl (ad3 _)
   .have:=g.F _ _ B
    omega
   .rcases j with j|j
    .have:=g.X _ j
     omega
    .omega
  .simp only[aL,aB]
   refine⟨_,0,some ⟨a.w.heap.size,0,none⟩,cap,L,ad3 _,by rw[J],fun _=> .inr ⟨a.w.heap.size,_,rfl,rfl,by simp,by simp;exact O,fun _=>by simp⟩⟩
 .rename_i l ak G
  cases G
  split at h
  case isFalse=>cases h
  rename_i d
  simp only[abR]at d
  have⟨I,o⟩:=d
  have⟨f,hs,A⟩:=NJ I
  have u:=tQ o
  split at h
  case h_2=>cases h
  rename_i rows ab
  split at h
  case h_2=>cases h
  rename_i bs ad
  cases h
  obtain⟨m,rfl,rfl⟩:=Pu ad
  have hc:aB a l D:=by simpa[aL]using E
  refine⟨.string ⟨(Bw m).toArray⟩,a,?_,.refl a,g,by simp[aL,aB,aiw]⟩
  have ae:strOfNums m=⟨(Bw m).toArray⟩:=rfl
  rcases Am g hc ab with⟨rfl,o⟩|⟨b,cap,rfl,o,p⟩
  .have j:m=[]:=by simpa using o
   subst j
   rw[run_convert_bytes_nil a.w src f hs A 0 0 q u]
   rfl
  .simp only[aio]at o|-
   rcases p with p|⟨c,af,sz,rfl,p⟩
   .have j:m=[]:=by simpa using p
    subst j
    have⟨bb,bo,bs⟩:=b
    rw[run_convert_bytes_string a.w src q f _ _ _ hs A u,run_bytesToString a.w _ _ _ [] (by simp[loadCells,loadCellsFrom])]
    rfl
   .rw[run_convert_bytes_arg a.w src f hs A c af m.length cap m rfl (fun i t=>?_) q u,ae]
    have⟨R,g2⟩:=jL p (i:=i) (r:=rp (m[i])) (by simp[t])
    simp only[rp,ajS]at R
    subst R
    have⟨z,S,T⟩:=uT g2 (k:=0) (l:= .v (.int .u8 m[i])) rfl
    simp only[aB]at T
    rw[T.1]at S
    simpa[List.getD,t]using S
 .cases h
def ya(w:World)(m:Nat)(a:List Value)(x:Value):Prop:= ∃s:ByteArray,x= .string s/\m=s.size/\a=strCells s
def QK{P:Program}{w:World}{m b:Nat}{c:List Value}{x:Value}(d:ya w m c x)(e:c.length=m*b):
  (akf x).run P w= .ok m w/\∀a,a.heap=w.heap->(ai4 b m x).run P a= .ok c.toArray a:=by
 obtain⟨s,rfl,rfl,rfl⟩:=d
 exact⟨by simp[akf],fun a _=>run_firstCells_string a b s⟩
def zO{zz:Nat}{P:Program}{w:World}{t r ty e:TypeId}{i:TypeInfo}(h:P.underlying t=some (.slice e))(j:P.underlying r=some .string)(k:P.info? e=some i){m:Nat}{d:List Value}{x:Value}(A:ya w m d x)
  (s:d.length=m*i.size) (B:∀v∈d,v.oneCell'=true) (f:Option Addr) (n c:Nat) (g:n+m<=c)
  (C:m=0\/∃b o cells T,f=some ⟨b,o,none⟩/\dE zz w b cells T/\o+n*i.size+d.length<=cells.size):
  ∃l,(aiL #[t,r] ty #[.slice f n c,x]).run P w= .ok (.slice f (n+m) c) l/\
   ((m=0/\l=w)\/∃b o cells T,f=some ⟨b,o,none⟩/\dE zz w b cells T/\o+n*i.size+d.length<=cells.size/\l=w.setRow b (spliced cells.toList (o+n*i.size) d).toArray):=by
 have⟨p,D⟩:=QK (P:=P) A s
 have q:=D w rfl
 rcases C with rfl|⟨b,o,cells,T,rfl,u,y⟩
 .have hn:d=[]:=ae4 (by simpa using s)
  subst hn
  refine⟨w,?_,.inl ⟨rfl,rfl⟩⟩
  cases f with
  |none=>
   simp only[aiB]at g
   simp[aiL,run_underlying h,run_underlying j,sizeOf,typeInfo,k,p,g,q]
  |some a=>
   simp only[aiB]at g
   simp[aiL,run_underlying h,run_underlying j,sizeOf,typeInfo,k,p,g,q,storeCells]
 .refine ⟨_,?_,.inr ⟨b,o,cells,T,rfl,u,y,rfl⟩⟩
  have z:=vS (P:=P) (o+n*i.size) d 0 cells w u (by simpa using y) B
  simp only[aiB]at z
  simp[aiL,run_underlying h,run_underlying j,sizeOf,typeInfo,k,p,g,q,jG,z]
def Mc{P:Program}{w:World}{t g ty e:TypeId}{i:TypeInfo}{z:Value}(k:P.underlying t=some (.slice e))(l:P.underlying g=some .string)(o:P.info? e=some i)(p:i.zero=some z){m:Nat}{f:List Value}{x:Value}(q:ya w m f x)
  (r:f.length=m*i.size) (d:Option Addr) (n c:Nat) (b:List Value) (h:b.length=n*i.size) (s:b=[]\/∃a,d=some a/\∀(j:Nat) (v:Value),b[j]?=some v->w.cell? (a.add j)=some v)
  (u:c<n+m) (y:n+m<=maxLen) (A:(n+m)*i.bytes<=140737488355328):
  (aiL #[t,g] ty #[.slice d n c,x]).run P w= .ok (.slice (some ⟨w.heap.size,0,none⟩) (n+m) (grownCap w (n+m) c e))
   (w.drew.alloc (.cells ((b++f).toArray++aiy z.cells (grownCap w (n+m) c e-(n+m))) e)):=by
 have⟨B,C⟩:=QK (P:=P) q r
 have D:=C w.drew rfl
 have hn:¬(n+m<=c):=by omega
 have E:¬(9223372036854775807< ((n:Int)+(m:Int))):=by unfold maxLen at y;omega
 have I:=growslice_fits u A
 have F:¬(281474976710656<alN (n+m) c*i.bytes):=by omega
 have G:(ai4 i.size n (.slice d n c)).run P w.drew= .ok b.toArray w.drew:=by
  rcases s with rfl|⟨a,rfl,hc⟩
  .have H:n*i.size=0:=by simpa using h.symm
   cases d with
   |none=>simp[ai4]
   |some a=>simp[ai4,loadCells,H,loadCellsFrom]
  .exact run_firstCells_some (P:=P) w.drew i.size n a n c b h (by simpa using hc)
 simp[aiL,run_underlying k,run_underlying l,sizeOf,typeInfo,zeroValue,o,p,B,hn,E,F,al0,D,G,newRow,grownCap]
 congr 2
 apply akF
 simp[aiu]
def afV(a:List UInt8):((rS a).map rp).flatten=a.map fun b=>(.v (.int .u8 (b.toNat:Int)):ab):=by
 induction a with
 |nil=>rfl
 |cons b a c=>have:rS (b::a)=(b.toNat:Int)::rS a:=rfl;rw[this,ag9,aiI,c];rfl
def Vp{P:Program}{d:az}{aj H':List Ob}(z:aZ d aj){ax t' ty:TypeId}{s:ab}{ys:Value}{v:aw}{H:List UInt8}(L:P.underlying t'=some .string)(hs:aB d s ys)(h:uP P aj ax s ((rS H).map rp)=some (v,H')):
  ∃y Γ',(aiL #[ax,t'] ty #[ys,.string ⟨H.toArray⟩]).run P d.w= .ok y Γ'.w/\d.cL Γ'/\aZ Γ' H'/\aL Γ' v y:=by
 unfold uP at h
 split at h
 case h_2=>cases h
 rename_i e bj bytes ay aW
 split at h
 case isFalse=>cases h
 rename_i aX
 obtain⟨aA,E⟩:=aX
 obtain⟨new,ad⟩:∃new,new=(rS H).map rp:=⟨_,rfl⟩
 rw[<-ad]at h E
 obtain⟨M,i,zv,N,rfl,rfl,hz,aC,bk⟩:=jz aW
 have aD:new.length=H.length:=by rw[ad];simp[rS]
 obtain⟨yx,aE⟩:∃yx:Value,yx= .string ⟨H.toArray⟩:=⟨_,rfl⟩
 obtain⟨g,aF⟩:∃g,g=strCells ⟨H.toArray⟩:=⟨_,rfl⟩
 have O:aY d new.flatten g:=by
  rw[ad,aF,afV]
  refine tW (by simp[strCells]) fun k l y F Q=>?_
  simp only[adf,ab4]at F
  obtain⟨c,h3,rfl⟩:=F
  simp[strCells,h3]at Q
  subst Q
  simp[aB,aiw]
 have u:g.length=new.length*i.size:=by
  have:=fI O
  rw[this]
  clear h
  rw[List.length_flatten]
  have:∀l:List (List ab),(∀r∈l,r.length=i.size)->(l.map List.length).sum=l.length*i.size:=by
   intro l
   induction l with
   |nil=>intro _;simp
   |cons ae l ih=>intro B;simp[ih (fun r m=>B r (by simp[m])),B ae (by simp),air,alr]
  exact this new E
 have I:ya d.w new.length g yx:=⟨⟨H.toArray⟩,aE,by rw[aD];rfl,aF⟩
 rw[<-aE]
 have F:=uZ O
 have aG:∀(need ak:Nat),need<=maxLen->grownCap d.w need ak e<=maxLen:=fun need ak hm=>grownCap_le_maxLen d.w need ak e hm
 split at h
 .
  split at h
  case isFalse=>cases h
  rename_i W
  cases h
  simp only[aB]at hs
  obtain⟨rfl,_⟩:=hs
  by_cases hm:new.length=0
  .have Y:new=[]:=ae4 hm
   subst Y
   obtain⟨J,m,n⟩:=zO (zz:=0) (P:=P) (ty:=ty) M L N I u F none 0 0 (by simp) (.inl rfl)
   have:J=d.w:=by
    rcases n with⟨_,n⟩|⟨b,o,cells,T,p,_⟩
    .exact n
    .cases p
   subst this
   refine⟨_,d.lT,m,JJ d,A3 z _,?_⟩
   simp only[aL,aB]
   exact⟨⟨none,0,0,0⟩,0,none,0,by simp[az.lT,z.len],ad3 _,by simp,fun _=> .inl (by simp)⟩
  .have m:=Mc (P:=P) (ty:=ty) M L N hz I u none 0 0 [] (by simp) (.inl rfl) (by omega) (by simpa using W.1) (by simpa using W.2)
   simp only[aiW,aiD]at m
   have Z:=grownCap_ge d.w new.length 0 e
   have af:=sR z
   have a3:=(tc d).trans (sL af (g.toArray++aiy zv.cells (grownCap d.w new.length 0 e-new.length)) e ⟨some d.w.heap.size,0,grownCap d.w new.length 0 e,i.size⟩)
   refine⟨_,_,m,a3,rF af _ e (grownCap d.w new.length 0 e) i.size new (aG _ _ W.1) Z aA ?_ E g (kw (pg d) _ _ O) (Ab (zs:=(aiy zv.cells (grownCap d.w new.length 0 e-new.length)).toList) (by simp)),?_⟩
   .simp only[aj5,ajt,size_zeroCells,aC,u, <-air]
    exact aj8 (by congr 1;omega)
   .simp only[aL,aB]
    refine⟨_,0,some ⟨d.w.heap.size,0,none⟩,grownCap d.w new.length 0 e,by simp[az.alloc,az.drew,z.len];rfl,ad3 _,rfl,fun _=> .inr ⟨d.w.heap.size,_,rfl,rfl,by simp,by simpa using Z,fun _=>by simp⟩⟩
 .
  rename_i h q f len
  split at h
  case h_2=>cases h
  rename_i zz rows R
  split at h
  case isFalse=>cases h
  rename_i W
  obtain⟨bl,rfl,al,aH⟩:=W
  cases h
  have a4:=z.obj R
  obtain⟨a,G,hm,p⟩:=a4
  have a5:h<aj.length:=(abW.1 (eP R)).1
  have ag:h<d.hs.length:=by rw[<-z.len];exact a5
  simp only[aB]at hs
  obtain⟨bm,bn,ae,cap,aI,_,rfl,hv⟩:=hs
  rw[G]at aI
  cases aI
  have hv:=hv rfl
  have K:((rows.drop f).take len).length=len:=by simp;omega
  by_cases ah:len+new.length<=cap
  .
   rcases hv with⟨t,rfl,rfl,rfl,rfl⟩|⟨b,a',t,rfl,rfl,a6,S⟩
   .
    have Y:new=[]:=ae4 (by omega)
    subst Y
    simp only[t]at p
    subst p
    obtain⟨J,m,n⟩:=zO (zz:=0) (P:=P) (ty:=ty) M L N I u F none 0 0 (by simp) (.inl rfl)
    have:J=d.w:=by
     rcases n with⟨_,n⟩|⟨b,o,cells,T,p,_⟩
     .exact n
     .cases p
    subst this
    refine⟨_,d.bump h a (q+1),m,⟨zy G (by omega),rfl,rfl,rfl,ad3 _,fun _ _ _=>rfl,fun _ _ h=> .inl h,fun _ h=> .inl h⟩,by simpa using Q2 z (eP R) G t,?_⟩
    simp only[aL,aB]
    exact⟨a,q+1,none,0,by simp[az.bump,ag],ad3 _,by simp,fun _=> .inl (by simp[t])⟩
   .simp only[t]at p
    obtain⟨x,hX,hF,a7,am,cells,T,B,aJ,U⟩:=p
    have aK:=z.X b hX
    have aM:a.off+f*a.sz+(a.cap-f)*a.sz<=cells.size:=by
     rw[ajg, <-air,show f+(a.cap-f)=a.cap by omega];exact aJ
    by_cases an:new.length=0
    .
     have Y:new=[]:=ae4 an
     subst Y
     obtain⟨J,m,n⟩:=zO (zz:=0) (P:=P) (ty:=ty) M L N I u F (some a') len (a.cap-f) (by simpa using ah) (.inl rfl)
     have ao:J=d.w:=by
      rcases n with⟨_,n⟩|⟨b2,o2,ap,T2,_,aq,_,n⟩
      .exact n
      .have a8:g=[]:=ae4 (by simpa using u)
       subst a8
       rw[n]
       have:(spliced ap.toList (o2+len*i.size) []).toArray=ap:=by simp[spliced]
       rw[this]
       exact aq.self
     subst ao
     have C:d.Le (d.bH d.w h ⟨some b,a.off+f*a.sz,a.cap-f,a.sz⟩ (q+1) b):=pQ G (.inl (by omega)) (fun _ _ _=>rfl)
     refine⟨_,d.bH d.w h ⟨some b,a.off+f*a.sz,a.cap-f,a.sz⟩ (q+1) b,m,⟨C,rfl,rfl,rfl,ad3 _,fun _ _ _=>rfl,fun _ _ h=> .inl h,fun c hc=>?_⟩,?_,?_⟩
     .rcases hc with hc|hc
      .exact .inl hc
      .exact .inl (hc▸hX)
     .refine qb (Γ':=d.bH d.w h ⟨some b,a.off+f*a.sz,a.cap-f,a.sz⟩ (q+1) b) z (eP R) G C rfl rfl (fun c=>alc) (ad3 _) rfl (fun _ _ _=>rfl) (.inl t) aK (by simp only;omega) ?_ am x cells T B aM ?_
      .simp only[aeU,K];omega
      .simp only[aeU]
       exact mY fun k r D=>by
        have:=jL (kJ (ml U f) len) D
        exact⟨this.1,tq C b _ r (fun _ _ _=>rfl) this.2⟩
     .simp only[aL,aB]
      refine⟨⟨some b,a.off+f*a.sz,a.cap-f,a.sz⟩,q+1,some a',a.cap-f,by simp[az.bH,ag],ad3 _,by simp,fun _=> .inr ⟨b,a',rfl,rfl,by simp,by simp;omega,fun a9=>?_⟩⟩
      simp only at a9
      rw[S (by omega)]
      simp
    .have S:=S (by omega)
     subst S
     have aa:a.off+f*a.sz+len*i.size+g.length<=cells.size:=by
      have Q:(len+new.length)*a.sz<=(a.cap-f)*a.sz:=aiN _ ah
      rw[air]at Q
      rw[u, <-x]
      omega
     obtain⟨J,m,n⟩:=zO (P:=P) (ty:=ty) M L N I u F (some ⟨b,a.off+f*a.sz,none⟩) len (a.cap-f) ah (.inr ⟨b,_,cells,T,rfl,B,aa⟩)
     have ao:J=d.w.setRow b (spliced cells.toList (a.off+f*a.sz+len*i.size) g).toArray:=by
      rcases n with⟨h0,_⟩|⟨b2,o2,ap,T2,aN,aq,_,n⟩
      .exact absurd h0 an
      .simp only[ab1,Addr.mk.injEq,and_true]at aN
       obtain⟨rfl,rfl⟩:=aN
       obtain⟨rfl,rfl⟩:=B.Mf aq
       exact n
     subst ao
     have ar:dE a.sz (d.w.setRow b (spliced cells.toList (a.off+f*a.sz+len*i.size) g).toArray) b (spliced cells.toList (a.off+f*a.sz+len*i.size) g).toArray T:=B.set (by simp only[ajt];rw[pV (by simpa using aa)];simp)
     have ai:∀c,c≠b->(d.w.setRow b (spliced cells.toList (a.off+f*a.sz+len*i.size) g).toArray).heap[c]?=d.w.heap[c]?:=fun c au=>setRow_other d.w b c _ au
     have C:d.Le (d.bH (d.w.setRow b (spliced cells.toList (a.off+f*a.sz+len*i.size) g).toArray) h ⟨some b,a.off+f*a.sz,a.cap-f,a.sz⟩ (q+1) b):=
      pQ G (.inl (by omega)) (fun c ay ba=>ai c (fun e=>hF ay (e▸ba)))
     have aO:(spliced cells.toList (a.off+f*a.sz+len*i.size) g).length=cells.size:=by rw[pV (by simpa using aa)];simp
     refine⟨_,d.bH (d.w.setRow b (spliced cells.toList (a.off+f*a.sz+len*i.size) g).toArray) h ⟨some b,a.off+f*a.sz,a.cap-f,a.sz⟩ (q+1) b,m,⟨C,rfl,rfl,rfl,by simp[az.bH],fun c _ bb=>ai c (fun e=>bb (e▸hX)),fun _ _ h=> .inl h,fun c hc=>?_⟩,?_,?_⟩
     .rcases hc with hc|hc
      .exact .inl hc
      .exact .inl (hc▸hX)
     .refine qb (Γ':=d.bH (d.w.setRow b (spliced cells.toList (a.off+f*a.sz+len*i.size) g).toArray) h ⟨some b,a.off+f*a.sz,a.cap-f,a.sz⟩ (q+1) b) z (eP R) G C rfl rfl (fun c=>alc) (by simp[az.bH]) rfl (fun c _ au=>ai c au) (.inl t) (by simpa[az.bH]using aK) (by simp only;omega) ?_ am x _ T ar (by simp[aO];exact aM) ?_
      .simp only[agc,K];omega
      .have av:∀j,(d.bH (d.w.setRow b (spliced cells.toList (a.off+f*a.sz+len*i.size) g).toArray) h ⟨some b,a.off+f*a.sz,a.cap-f,a.sz⟩ (q+1) b).w.cell? ⟨b,j,none⟩=if a.off+f*a.sz+len*i.size<=j/\j<a.off+f*a.sz+len*i.size+g.length then g[j-(a.off+f*a.sz+len*i.size)]? else cells[j]?:=by
        intro j
        rw[show(d.bH (d.w.setRow b (spliced cells.toList (a.off+f*a.sz+len*i.size) g).toArray) h ⟨some b,a.off+f*a.sz,a.cap-f,a.sz⟩ (q+1) b).w=d.w.setRow b (spliced cells.toList (a.off+f*a.sz+len*i.size) g).toArray from rfl,dE.cell ar]
        have:=wS (cur:=cells.toList) (o:=a.off+f*a.sz+len*i.size) (vs:=g) (by simpa using aa) j
        simpa using this
       refine wm ?_ ?_
       .have Q:=kJ (ml U f) len
        refine rM C b a.sz _ _ (fun j a1 a2=>?_) Q
        rw[K]at a2
        rw[av,if_neg ?_,dE.cell B]
        simp only at a1 a2
        rw[x]at a2
        rw[x]
        omega
       .rw[K]
        refine mY fun k r D=>⟨by rw[x];exact E r (aiJ D),nS fun V l aP=>?_⟩
        have bc:k<new.length:=(abW.1 D).1
        have aQ:r.length=i.size:=E r (aiJ D)
        have bo:V<r.length:=(abW.1 aP).1
        have bd:new.flatten[k*i.size+V]?=some l:=by
         clear O m I ad aD u F aa n ar ai C aO av aH al ah an
         induction new generalizing k with
         |nil=>simp at D
         |cons aR xs ih=>
          simp only[aiI]
          have aS:aR.length=i.size:=E aR (by simp)
          cases k with
          |zero=>
           simp at D
           subst D
           rw[abE (by omega)]
           simpa using aP
          |succ k=>
           rw[aea (by rw[aS,air];omega),aS,show(k+1)*i.size+V-i.size=k*i.size+V by rw[air];omega]
           exact ih (fun y hy=>E y (by simp[hy])) k (by simpa using D) (by simpa using bc)
        obtain⟨v',g1,g2⟩:=kX O bd
        refine⟨v',?_,lI C _ _ g2⟩
        have be:(k+1)*i.size<=new.length*i.size:=aiN _ (by omega)
        rw[air]at be
        rw[av,if_pos ?_]
        .rw[<-x]at g1|-
         rw[show a.off+f*a.sz+len*a.sz+k*a.sz+V-(a.off+f*a.sz+len*a.sz)=k*a.sz+V by omega]
         exact g1
        .simp only
         rw[u,x]
         omega
     .simp only[aL,aB]
      refine⟨⟨some b,a.off+f*a.sz,a.cap-f,a.sz⟩,q+1,some ⟨b,a.off+f*a.sz,none⟩,a.cap-f,by simp[az.bH,ag],ad3 _,by simp,fun _=> .inr ⟨b,_,rfl,rfl,by simp,by simp;omega,fun _=>by simp⟩⟩
  .
   have bf:∃A,aY d ((rows.drop f).take len).flatten A/\A.length=len*i.size/\(A=[]\/∃a0,ae=some a0/\∀(j:Nat) (v:Value),A[j]?=some v->d.w.cell? (a0.add j)=some v):=by
    rcases hv with⟨t,rfl,rfl,rfl,rfl⟩|⟨b,a',t,rfl,rfl,a6,S⟩
    .exact ⟨[],by simp[aY],by simp,.inl rfl⟩
    .simp only[t]at p
     obtain⟨x,hX,hF,a7,am,cells,T,B,aJ,U⟩:=p
     obtain⟨A,g1,g2,g3⟩:=tH (kJ (ml U f) len)
     refine⟨A,g1,by rw[g2,K,x],?_⟩
     by_cases bg:len=0
     .left
      exact ae4 (by rw[g2,K,bg];simp)
     .right
      refine⟨a',rfl,fun j v hj=>?_⟩
      rw[S (by omega),jG]
      exact g3 j v hj
   obtain⟨A,bh,aT,bi⟩:=bf
   have m:=Mc (P:=P) (ty:=ty) M L N hz I u ae len cap A aT bi (by omega) al aH
   have Z:=grownCap_ge d.w (len+new.length) cap e
   have af:=sR z
   have aQ:∀r∈(rows.drop f).take len,r.length=i.size:=by
    intro r m
    have aU:r∈rows:=ajY (ajA m)
    cases t:a.base with
    |none=>
     simp only[t]at p
     subst p
     cases aU
    |some b=>
     simp only[t]at p
     obtain⟨x,_,_,_,_,_,_,_,_,U⟩:=p
     rw[<-x]
     exact Oh U r aU
   have aV:=NO (new:=(rows.drop f).take len++new) af (eP R) G ((A++g).toArray++aiy zv.cells (grownCap d.w (len+new.length) cap e-(len+new.length))) e (grownCap d.w (len+new.length) cap e) i.size
    (aG _ _ al) (by simp only[agc,K];exact Z) aA ?_ ?_ (A++g) ?_ ?_
   .exact ⟨_,_,m,(tc d).trans aV.1,aV.2,by
     simp only[aL,aB]
     refine⟨_,q+1,some ⟨d.w.heap.size,0,none⟩,grownCap d.w (len+new.length) cap e,by simp[az.bH,az.drew,ag];rfl,ad3 _,rfl,fun _=> .inr ⟨d.w.heap.size,_,rfl,rfl,by simp,by simpa using Z,fun _=>by simp⟩⟩⟩
   .simp only[aj5,ajt,agc,size_zeroCells,aC,u,aT, <-air]
    exact aj8 (by congr 1;omega)
   .intro r m
    rcases ain.1 m with m|m
    .exact aQ r m
    .exact E r m
   .rw[alI]
    exact kw (pg d) _ _ (su bh O)
   .exact Ab (zs:=(aiy zv.cells (grownCap d.w (len+new.length) cap e-(len+new.length))).toList) (by simp)
 .cases h
end Go.Nx
namespace Go.Nx
variable{P:Program}{t k:TypeId}{Γ:az}{w:World}{H:List Ob}
def LN(h:sw P t=true):∃k e i,P.underlying t=some (.map k e)/\P.info? e=some i/\i.zero=some (.pointer none)/\eqs P k=some [.int,.int]/\yV P k=true:=by
 unfold sw at h;split at h
 .rename_i k e b;split at h
  .rename_i c;simp only[abR]at h;have⟨a,d⟩:=h;unfold Me at a;split at a
   .rename_i i f;split at a
    .rename_i g;exact⟨k,e,i,b,f,g,c,d⟩
    .cases a
   .cases a
  .cases h
 .cases h
def GL{f:List ab}{a b:Int}(h:iF f=some [a,b]):f=[I a,I b]:=by
 match f,h with
 |[],h=>simp[iF]at h
 |l::r,h=>
  unfold iF at h;split at h
  .rename_i e;cases e
  .rename_i n g e;simp only[aiA]at e;obtain⟨rfl,rfl⟩:=e;split at h
   .rename_i i c;simp only[ab1,aiA]at h;obtain⟨rfl,rfl⟩:=h;unfold iF at c;split at c
    .cases c
    .rename_i m j;split at c
     .rename_i k d;simp only[ab1,aiA]at c;obtain⟨rfl,rfl⟩:=c;unfold iF at d;split at d
      .rfl
      .split at d
       .cases d
       .cases d
      .cases d
     .cases c
    .cases c
   .cases h
  .cases h
def yN{a b:Int}{c:Array Value}(h:aY Γ [I a,I b] c.toList):c= #[.int .i64 a,.int .i64 b]:=by simp only[aY,aB]at h;obtain⟨y,e,d,⟨rfl,_⟩,z,f,rfl,⟨rfl,_⟩,rfl⟩:=h;apply akF;simpa using d
def PJ(h:yV P k=true)(em:Bool)(a b:Int):(akU em 10000 k (.agg #[.int .i64 a,.int .i64 b])).run P w= .ok () w:=by
 unfold yV at h;split at h
 .rename_i j l;split at h
  .rename_i f g m;simp only[abR,decide_eq_true_eq]at h;obtain⟨⟨⟨⟨⟨o,p⟩,q⟩,r⟩,s⟩,u⟩:=h;have v:j= #[f,g]:=by apply akF;simpa using m
   subst v
   have d:∀t (n:Int),(ik P t).isSome=true->(akU em 9999 t (.int .i64 n)).run P w= .ok () w:=by
    intro t n c;unfold ik at c;split at c
    .rename_i y x;rw[show(9999:Nat)=9998+1 from rfl,akU];simp only[aiT,run_underlying x,aiG,akW]
    .cases c
   have e:=AJ (P:=P) (w:=w) s [.int .i64 a,.int .i64 b] 0 (by simp) (fun _=>rfl);have i:=AJ (P:=P) (w:=w) u [.int .i64 a,.int .i64 b] 1 (by simp) (fun _=>rfl);simp only[aes,if_false,akn,List.drop_succ_cons,alF,List.take_zero,List.headD_cons]at e i;rw[show(10000:Nat)=9999+1 from rfl,akU];simp only[aiT,run_underlying l,aiG];simp[o,p,e,i,d _ _ q,d _ _ r]
  .cases h
 .cases h
def U2{Γ:az}(h:eqs P k=some [.int,.int])(a b c d:Int):(Op.equal k (.agg #[.int .i64 a,.int .i64 b]) (.agg #[.int .i64 c,.int .i64 d])).run P w= .ok ((a==c)&&(b==d)) w:=by
 unfold eqs at h;split at h
 case h_2=>cases h
 rename_i g e;split at h
 case isTrue=>cases h
 have f:=Hf (P:=P) (w:=w) (Γ:=Γ) 8 k [.int,.int] h [I a,I b] [I c,I d] [.int .i64 a,.int .i64 b] [.int .i64 c,.int .i64 d] ((a==c)&&(b==d)) (by simp[aY,aB,aiw]) (by simp[aY,aB,aiw]) (by simp[eL,lR]) 10000 (by omega);simpa[lu,e,Op.equal,Op.maxDepth]using f
def Jt{P:Program}{Γ:az}{w:World}{k:TypeId}(h:eqs P k=some [.int,.int])(a b:Int)(x:ab):∀(f:List (List ab×ab)) (g:List MapEntry) (i:Nat),nz f=true->f.length=g.length->
  (∀(j:Nat) (p:List ab×ab) (e:MapEntry),f[j]?=some p->g[j]?=some e->wQ Γ e p)->
  (dY f [a,b]=none/\(ajL k (.agg #[.int .i64 a,.int .i64 b]) g i).run P w= .ok none w/\gQ f [a,b] x=f++[([I a,I b],x)])\/
  (∃j v e,dY f [a,b]=some v/\f[j]?=some ([I a,I b],v)/\g[j]?=some e/\(ajL k (.agg #[.int .i64 a,.int .i64 b]) g i).run P w= .ok (some (i+j,e.val)) w/\gQ f [a,b] x=f.set j ([I a,I b],x))
 |[],g,i,_,l,_=>by
  have:g=[]:=ae4 (by simpa using l.symm)
  subst this
  exact .inl ⟨rfl,by simp[ajL],rfl⟩
 |p::r,[],i,_,l,_=>by simp at l
 |(M,v)::r,e::g,i,y,l,z=>by
  simp only[nz,abR]at y
  have⟨A,B⟩:=y
  split at A
  case h_2=>cases A
  rename_i c d C
  have:=GL C
  subst this
  have⟨⟨N,D,E⟩,O⟩:=z 0 _ e rfl rfl
  have F:=yN E
  subst F
  have m:=U2 (P:=P) (Γ:=Γ) (w:=w) h a b c d
  rw[<-D]at m
  by_cases o:a=c/\b=d
  .obtain ⟨rfl,rfl⟩:=o
   refine .inr ⟨0,v,e,by simp[dY,iF],rfl,rfl,?_,by simp[gQ,iF,I]⟩
   simp only[ajL,aiT,m,aiG]
   simp
  .have n:¬(iF [I c,I d]=some [a,b]):=by
    simp only[iF,ab1,aiA,and_true]
    rintro⟨rfl,rfl⟩
    exact o ⟨rfl,rfl⟩
   have G:((a==c)&&(b==d))=false:=by
    rw[Bool.eq_false_iff]
    intro hc
    simp only[abR,beq_iff_eq]at hc
    exact o hc
   rw[G]at m
   rcases Jt h a b x r g (i+1) B (by simpa using l) (fun j p q hp H=>z (j+1) p q (by simpa using hp) (by simpa using H))with⟨s,t,u⟩|⟨j,J,q,s,t,u,K,L⟩
   .refine .inl ⟨by simp only[dY];rw[if_neg n];exact s,?_,by simp only[gQ];rw[if_neg n,u];rfl⟩
    simp only[ajL,aiT,m,aiG,aes,if_false]
    exact t
   .refine .inr ⟨j+1,J,q,by simp only[dY];rw[if_neg n];exact s,by simpa using t,by simpa using u,?_,by simp only[gQ];rw[if_neg n,L];rfl⟩
    simp only[ajL,aiT,m,aiG,aes,if_false]
    rw[K,show i+1+j=i+(j+1)by omega]
def N0(h:eqs P k=some [.int,.int])(x:Value)(a:List MapEntry):(amA k x a).run P w=(ajL k x a 0).run P w:=by
 unfold eqs at h;split at h
 case h_2=>cases h
 rename_i b c;simp only[amA,aiT,run_underlying c,aiG];cases a with
 |nil=>simp[amz,ajL]
 |cons e a=>
  have:Instr.sameNow (.struct b) x e.key=none:=by cases x<;>cases e.key<;>rfl
  simp[amz,this]
def T7{l:List Ob}(F:aZ Γ H){m n x:aw}{o q:Value}(hm:aL Γ m o)(r:aL Γ n q)(h:nK P H t (some m) (some n)=some (x,l)):
  l=H/\∃y,(alM t o q false).run P Γ.w= .ok y Γ.w/\aL Γ x y:=by
 unfold nK at h
 split at h
 case h_2=>cases h
 rename_i hd kl G I
 cases G
 cases I
 split at h
 case h_2=>cases h
 rename_i J a b K L M
 split at h
 case isFalse=>cases h
 rename_i N
 cases h
 refine⟨rfl,?_⟩
 have⟨k,e,i,s,O,Q,u,R⟩:=LN K
 have:=GL M
 subst this
 simp only[aL,aB]at hm r
 obtain⟨ks,rfl,S⟩:=r
 have T:=yN S
 subst T
 obtain⟨aa,ab,ad,z,rfl,U⟩:=hm
 have⟨ae,b',V,W,hX,hF,d,af,A,X,B⟩:=F.ob _ _ L
 rw[V]at z
 cases z
 obtain⟨b2,C,rfl⟩:=U rfl
 rw[W]at C
 cases C
 have D:=PJ (P:=P) (w:=Γ.w) R d.isEmpty a b
 have c:=N0 (P:=P) (w:=Γ.w) u (.agg #[.int .i64 a,.int .i64 b]) d.toList
 rcases Jt (P:=P) (Γ:=Γ) (w:=Γ.w) u a b (.v .nilIface) J d.toList 0 N (by simpa using X.symm) (fun j p e hp Y=>B j p e hp (by simpa using Y))with⟨f,g,_⟩|⟨j,v,E,f,g,Z,g4,_⟩
 .rw[g]at c
  refine⟨.pointer none,?_,by rw[f];simp[aL,aB,aiw]⟩
  simp[alM,run_underlying s,akD A,D,c,zeroValue,typeInfo,O,Q,ajd]
 .rw[g4]at c
  refine⟨E.val,?_,?_⟩
  .simp[alM,run_underlying s,akD A,D,c,ajd]
  .rw[f]
   simp only[ai0,aL]
   exact(B j _ E g (by simpa using Z)).2
def aZ.inPlace(g:aZ Γ H){f b:Nat}{o o':Ob}{k:fm}{c:Obj}(l:H[f]?=some o)(x:o.there=true)(m:Γ.hs[f]?=some (k,0))(p:k.base=some b)(hc:∃C,Γ.w.heap[b]?=some C)
  (hn:∀a,Γ.Le a->a.hs=Γ.hs->a.X b->(∀z, ¬a.F b z)->a.w.heap[b]?=some c->nY a f o'):
  ∃a,a.w={Γ.w with heap:=Γ.w.heap.setIfInBounds b c}/\Γ.cL a/\aZ a (H.set f o')/\a.hs=Γ.hs:=by
 have⟨r,y⟩:=(g.ob _ _ l).own x m p
 have D:f<H.length:=(abW.1 l).1
 have E:=g.X b r
 let a:az:={Γ with w:={Γ.w with heap:=Γ.w.heap.setIfInBounds b c}}
 have s:∀j,j≠b->a.w.heap[j]?=Γ.w.heap[j]?:=fun j d=>by
  simp only[a]
  rw[akG (fun e=>d e.symm)]
 have t:Γ.Le a:=⟨fun _ _ h=>h,fun j z d=>s j (fun e=>y z (e▸d)),fun n i v G=>⟨i,v,G,ad3 _,fun _=>rfl⟩⟩
 have I:a.w.heap[b]?=some c:=by
  simp only[a]
  rw[Array.getElem?_setIfInBounds_self_of_lt E]
 have A:uW Γ H f b:= .inr ⟨o,k,0,l,x,m,p⟩
 refine⟨a,rfl,⟨t,rfl,rfl,rfl,by simp[a],fun j _ d=>s j (fun e=>d (e▸r)),fun _ _ h=> .inl h,fun _ h=> .inl h⟩,?_,rfl⟩
 refine g.put t f (by simp[a,g.len]) (fun n J=>⟨aat (fun e=>J e.symm),rfl⟩) (fun q u=>?_) (fun q K v M u _ L B=>?_) (fun j d hm=>s j (fun e=>hm (e▸A)))
  (fun _ _ h=> .inl h) (fun _ h=>h) (fun j z d=>by have:=g.F j z d;simpa[a]using this) (fun j d=>by have:=g.X j d;simpa[a]using this)
 .rw[ahr D]at u
  cases u
  exact hn a t rfl r y I
 .have:Γ.hs[f]?=some (K,v):=L
  rw[m]at this
  cases this
  rw[p]at B
  cases B
  exact A
def T1(a b:Int):amp 10000 (.agg #[.int .i64 a,.int .i64 b]) (.agg #[.int .i64 a,.int .i64 b])=true:=by rw[show(10000:Nat)=9999+1 from rfl];simp[amp]
def wQ.mono{a:az}(b:Γ.Le a){e:MapEntry}{p:List ab×ab}(h:wQ Γ e p):wQ a e p:=by have⟨⟨c,d,f⟩,g⟩:=h;exact⟨⟨c,d,kw b _ _ f⟩,lI b _ _ g⟩
def UY{R:List Ob}(y:aZ Γ H){S T U x:aw}{V W z:Value}(hm:aL Γ S V)(Y:aL Γ T W)(D:aL Γ U z)(h:qW P H t (some S) (some T) (some U)=some (x,R)):
  x=unit/\∃d,(aln t V W z).run P Γ.w= .ok () d.w/\Γ.cL d/\aZ d R:=by
 unfold qW at h
 split at h
 case h_2=>cases h
 rename_i hd kl E e1 e2 e3
 cases e1
 cases e2
 cases e3
 split at h
 case h_2=>cases h
 rename_i m a b ht F ag
 split at h
 case isFalse=>cases h
 rename_i ah
 cases h
 refine⟨rfl,?_⟩
 have⟨k,e,i,Z,hi,an,aa,ai⟩:=LN ht
 have:=GL ag
 subst this
 simp only[aL,aB]at hm Y D
 obtain⟨ks,rfl,G⟩:=Y
 have aj:=yN G
 subst aj
 obtain⟨ab,ao,ap,m1,rfl,m2⟩:=hm
 have⟨aq,b',n,o,hX,hF,r,I,l,A,B⟩:=y.ob _ _ F
 rw[n]at m1
 cases m1
 obtain⟨b2,n1,rfl⟩:=m2 rfl
 rw[o]at n1
 cases n1
 have ar:=y.X _ hX
 have ad:=PJ (P:=P) (w:=Γ.w) ai false a b
 have s:=N0 (P:=P) (w:=Γ.w) aa (.agg #[.int .i64 a,.int .i64 b]) r.toList
 rcases Jt (P:=P) (Γ:=Γ) (w:=Γ.w) aa a b E m r.toList 0 ah (by simpa using A.symm) (fun j p e hp he=>B j p e hp (by simpa using he))with⟨g1,C,u⟩|⟨j,v,e',g1,C,u,g4,g5⟩
 .rw[C]at s
  have⟨d,J,K,L,r4⟩:=y.inPlace (o':= .mp (gQ m [a,b] E)) (c:= .map (r.push ⟨.agg #[.int .i64 a,.int .i64 b],z,I⟩) (I+1)) F rfl n o ⟨_,l⟩ (fun d g M N O Q=>by
   refine⟨ab,b',by rw[M];exact n,o,N,O,_,_,Q,by rw[u];simp[A],fun j p q hp f=>?_⟩
   rw[u]at hp
   by_cases hj:j<m.length
   .rw[abE hj]at hp
    rw[Array.getElem?_push_lt (by omega)]at f
    exact(B j p q hp (by rw[Array.getElem?_eq_getElem (by omega)];exact f)).mono g
   .have ak:j=m.length:=by
     have:=(abW.1 hp).1
     simp at this
     omega
    subst ak
    rw[aea (ad3 _)]at hp
    simp only[ajB,ale,ab1]at hp
    subst hp
    rw[<-A,Array.getElem?_push_size]at f
    cases f
    exact⟨⟨_,rfl,kw g _ _ G⟩,lI g _ _ D⟩)
  refine⟨d,?_,K,L⟩
  rw[J]
  simp[aln,run_underlying Z,akD l,ad,s,MapKept.run_setObj_map _ l,ajd]
 .rw[g4]at s
  simp only[aiW]at s
  have⟨⟨au,q1,q2⟩,q3⟩:=B j _ e' C (by simpa using u)
  have al:=yN q2
  subst al
  have ae:r[j]?=some e':=by simpa using u
  have⟨d,J,K,L,r4⟩:=y.inPlace (o':= .mp (gQ m [a,b] E)) (c:= .map (r.modify j fun e=>{e with key:= .agg #[.int .i64 a,.int .i64 b],val:=z}) I) F rfl n o ⟨_,l⟩ (fun d g M N O Q=>by
   refine⟨ab,b',by rw[M];exact n,o,N,O,_,_,Q,by rw[g5];simp[A],fun af p q hp f=>?_⟩
   rw[g5]at hp
   by_cases hm:j=af
   .subst hm
    rw[ahr (abW.1 C).1]at hp
    rw[ajT,if_pos rfl,ae]at f
    cases hp
    cases f
    exact⟨⟨_,rfl,kw g _ _ G⟩,lI g _ _ D⟩
   .rw[aat hm]at hp
    rw[ajT,if_neg hm]at f
    exact(B af p q hp f).mono g)
  refine⟨d,?_,K,L⟩
  rw[J]
  have am:=T1 a b
  simp[aln,run_underlying Z,akD l,ad,s,ae,q1,Instr.keyThatStays,am,MapKept.run_setObj_map _ l,ajd]
end Go.Nx
namespace Go.Nx
def az.fresh(a:az)(c:Obj):az:=
 {w:=a.w.alloc c,F:=a.F,X:=fun b=>a.X b\/b=a.w.heap.size,hs:=a.hs++[(⟨some a.w.heap.size,0,0,0⟩,0)]}
def QD{a:az}{H:List Ob}(e:aZ a H)(c:Obj)(o:Ob)(hn:(a.fresh c).hs[H.length]?=some (⟨some a.w.heap.size,0,0,0⟩,0)->(a.fresh c).X a.w.heap.size->(∀z, ¬(a.fresh c).F a.w.heap.size z)->(a.fresh c).w.heap[a.w.heap.size]?=some c->nY (a.fresh c) H.length o):
  a.cL (a.fresh c)/\aZ (a.fresh c) (H++[o])/\(a.fresh c).hs[H.length]?=some (⟨some a.w.heap.size,0,0,0⟩,0):=by
 have l:a.Le (a.fresh c):=⟨fun _ _ h=>h,fun b z d=>lV a.w _ b (e.F b z d),fun h i v m=>⟨i,v,by
  have r:h<a.hs.length:=(abW.1 m).1
  simp only[az.fresh]
  rw[abE r];exact m,ad3 _,fun _=>rfl⟩⟩
 have t:=e.len
 have j:(a.fresh c).hs[H.length]?=some (⟨some a.w.heap.size,0,0,0⟩,0):=by simp[az.fresh,e.len]
 have s:∀z, ¬(a.fresh c).F a.w.heap.size z:=fun z g=>by have:=e.F _ _ g;omega
 refine⟨⟨l,rfl,rfl,rfl,by simp[az.fresh],fun b d _=>lV a.w _ b d,fun b z d=> .inl d,fun b d=>d.imp id fun d=>by omega⟩,?_,j⟩
 refine e.put l H.length (by simp[az.fresh,e.len]) (fun n hn=>⟨ot _ _ _ hn,by simp only[az.fresh];exact ot _ _ _ (by omega)⟩) (fun q k=>?_) (fun q u v b k _ p d=>?_) (fun b d _=>lV a.w _ b d)
  (fun b z g=> .inl g) (fun b f=> .inl f) (fun b z g=>?_) (fun b f=>?_)
 .simp at k
  subst k
  exact hn j (.inr rfl) s (heap_alloc_new a.w _)
 .rw[j]at p
  cases p
  cases d
  exact .inl (ad3 _)
 .have:=e.F _ _ g
  simp[az.fresh];omega
 .rcases f with f|f
  .have:=e.X _ f
   simp[az.fresh];omega
  .simp[az.fresh];omega
def decode_ascii{s:ByteArray}{pos:Nat}{c:UInt8}(h:s.data.toList[pos]?=some c)(hc:c<128):Utf8.decode s pos=(c.toNat,1):=by
 have a:s.get! pos=c:=by
  have:s.data[pos]?=some c:=by simpa using h
  simp[ByteArray.get!,getElem!_def,this]
 have b:c.toNat<128:=by simpa[UInt8.lt_iff_toNat_lt]using hc
 simp[Utf8.decode,a,b]
def ae3{P:Program}{a:az}{H l:List Ob}(e:aZ a H){v x:aw}{y:Value}(m:aL a v y)(h:yi H (some v)=some (x,l))(t:TypeId):
  ∃z d,(al4 y true t).run P a.w= .ok z d.w/\a.cL d/\aZ d l/\aL d x z:=by
 unfold yi at h
 split at h
 case h_2=>cases h
 rename_i M u
 cases u
 split at h
 case h_2=>cases h
 rename_i s pos n
 simp only[aL,aB]at m
 obtain⟨A,N,p,o,rfl,B⟩:=m
 have⟨O,b,f,g,Q,R,i⟩:=e.ob _ _ n
 rw[f]at o
 cases o
 obtain⟨S,q,rfl⟩:=B rfl
 rw[g]at q
 cases q
 have r:(getObj b).run P a.w= .ok (.stringIter s pos) a.w:=by simp[getObj,Sem.run,i]
 split at h
 .rename_i j
  split at h
  case h_2=>cases h
  rename_i c hc
  split at h
  case isFalse=>cases h
  rename_i C
  cases h
  have⟨d,D,E,F,T⟩:=e.inPlace (o':= .it s (pos+1)) (c:= .stringIter s (pos+1)) n rfl f g ⟨_,i⟩ (fun d U G I J K=>⟨A,b,by rw[G];exact f,g,I,J,K⟩)
  have L:(setObj b (.stringIter s (pos+1))).run P a.w= .ok () {a.w with heap:=a.w.heap.setIfInBounds b (.stringIter s (pos+1))}:=by
   simp[setObj,Sem.run,i]
  have k:pos<s.size:=j
  refine⟨.tuple #[.bool true,.int .i64 (pos:Int),.int .i32 (c.toNat:Int)],d,?_,E,F,?_⟩
  .rw[D]
   simp[al4,r,k,decode_ascii hc C,L,goInt,ajd]
  .simp only[aL,bT,aB]
   exact⟨_,rfl,_,_,rfl,⟨rfl,rfl⟩,_,_,rfl,⟨rfl,rfl⟩,_,_,rfl,⟨rfl,rfl⟩,rfl⟩
 .rename_i j
  cases h
  have k:¬pos<s.size:=j
  refine⟨.tuple #[.bool false],a,?_,.refl a,e,?_⟩
  .simp[al4,r,k,ajd]
  .simp only[aL,bT,aB]
   exact⟨_,rfl,_,_,rfl,⟨rfl,rfl⟩,rfl⟩
def TK{P:Program}{Γ:az}{t xt:TypeId}{v x:aw}{y:Value}(b:aL Γ v y)(h:zG P t (some v)=some x):∃z,(alv y xt t true).run P Γ.w= .ok z Γ.w/\aL Γ x z:=by
 unfold zG at h;split at h
 .rename_i l z e f a g;cases g;cases h;simp only[aL,aB]at b;obtain⟨rfl,_⟩:=b;have⟨i,m,c,d,n,j⟩:=xu f;have hc:=oJ (Γ:=Γ) j;unfold Np at a;rw[c]at a;simp only[d]at a;split at a
  case h_2=>cases a
  rename_i cs k;cases k;refine⟨.tuple #[.agg cs,.bool false],?_,?_⟩
  .simp[alv,run_underlying e,zeroValue,typeInfo,c,d,ajd]
  .simp only[aL,bT,aB];exact⟨_,rfl,.agg cs,[.bool false],rfl,⟨cs,rfl,hc⟩,_,_,rfl,⟨rfl,rfl⟩,rfl⟩
 .cases h
variable{P:Program}{Γ:az}{H:List Ob}{rows:List (List ab)}
def N2{w:World}{t e:TypeId}{b:Nat}(d:P.underlying t=some (.slice e))(f:(sizeOf e).run P w= .ok b w)(a:Option Addr)(n cap:Nat)(k c:IntKind)(l h:Int)(g:0<=l)(m:l<=h)(o:h<=cap):
  (ajy t (.slice a n cap) (some (.int k l)) (some (.int c h)) none).run P w= .ok (.slice (if cap=l.toNat then a else a.map (·.add (l.toNat*b))) (h.toNat-l.toNat) (cap-l.toNat)) w:=by
 have p:((h.toNat:Nat):Int)=h:=by omega
 have i:=mi (P:=P) (w:=w) c h cap .sliceAcap (by omega) (by omega)
 have j:=mi (P:=P) (w:=w) k l h.toNat .sliceB g (by omega)
 simp[ajy,run_underlying d,akO,ajX,f,j,i]
def adB(x:aZ Γ H){t e q:Nat}{r:Nat×List ab}{h d f len:Nat}{y:Value}(A:se P t=some (e,q,r))(hc:aB Γ (.sl h d f len) y)(B:obj H h d=some (q,rows))(k n:IntKind)(l m:Int)(C:0<=l)(D:l<=m)(E:(f:Int)+m<=rows.length):
  ∃z,(ajy t y (some (.int k l)) (some (.int n m)) none).run P Γ.w= .ok z Γ.w/\aB Γ (.sl h d (f+l.toNat) (m.toNat-l.toNat)) z:=by
 have⟨bytes,M⟩:=r
 obtain⟨s,i,N,F,rfl,_,_,_,_⟩:=jz A
 have u:(sizeOf e).run P Γ.w= .ok i.size Γ.w:=by simp[sizeOf,typeInfo,F]
 have⟨c,o,hm,g⟩:=x.obj B
 simp only[aB]at hc
 obtain⟨O,Q,a,cap,v,_,rfl,G⟩:=hc
 rw[o]at v
 cases v
 rcases G rfl with⟨j,rfl,rfl,rfl,rfl⟩|⟨b,p,j,rfl,rfl,R,I⟩
 .simp only[j]at g
  subst g
  simp at E
  have J:l=0:=by omega
  have K:m=0:=by omega
  subst J K
  refine⟨_,N2 (P:=P) (w:=Γ.w) s u none 0 0 k n 0 0 (by omega) (by omega) (by omega),?_⟩
  simp only[aB]
  exact⟨c,d,none,0,o,ad3 _,by simp,fun _=> .inl (by simp[j])⟩
 .simp only[j]at g
  have L:c.sz=i.size:=g.1
  have S:rows.length<=c.cap:=g.2.2.2.1
  refine⟨_,N2 (P:=P) (w:=Γ.w) s u (some p) len (c.cap-f) k n l m C D (by omega),?_⟩
  simp only[aB]
  refine⟨c,d,_,_,o,ad3 _,rfl,fun _=> .inr ⟨b,if c.cap-f=l.toNat then p else p.add (l.toNat*i.size),j,by split<;>rfl,by omega,by omega,fun T=>?_⟩⟩
  rw[if_neg (by omega),I (by omega),jG,L,air,ajg]
def Zc(m:aZ Γ H){h f lo z b:Nat}{new:List (List ab)}{a:fm}(y:obj H h f=some (z,rows))(n:Γ.hs[h]?=some (a,f))(p:a.base=some b)(Z:lo<=rows.length)(L:lo+new.length<=a.cap)(A:∀r∈new,r.length=z){d:List Value}(hn:aY Γ new.flatten d):
  ∃Γ',(storeCells ⟨b,a.off+lo*a.sz,none⟩ d).run P Γ.w= .ok () Γ'.w/\Γ.cL Γ'/\aZ Γ' (H.set h (.live f z (dT rows lo new))):=by
 have⟨i2,B,M,C⟩:=m.obj y
 rw[n]at B
 cases B
 simp only[p]at C
 have⟨i,q,N,aa,O,cells,T,k,Q,D⟩:=C
 have R:=m.X b q
 have E:d.length=new.length*z:=by rw[fI hn,tg A]
 have l:a.off+lo*a.sz+d.length<=cells.size:=by
  have S:(lo+new.length)*a.sz<=a.cap*a.sz:=aiN _ L
  rw[air]at S
  rw[E, <-i]
  omega
 have F:=vS (P:=P) (a.off+lo*a.sz) d 0 cells Γ.w k (by simpa using l) (uZ hn)
 simp only[aiB]at F
 have G:dE a.sz (Γ.w.setRow b (spliced cells.toList (a.off+lo*a.sz) d).toArray) b (spliced cells.toList (a.off+lo*a.sz) d).toArray T:=k.set (by simp only[ajt];rw[pV (by simpa using l)];simp)
 have s:∀c,c≠b->(Γ.w.setRow b (spliced cells.toList (a.off+lo*a.sz) d).toArray).heap[c]?=Γ.w.heap[c]?:=fun c t=>setRow_other Γ.w b c _ t
 have g:Γ.Le (Γ.bH (Γ.w.setRow b (spliced cells.toList (a.off+lo*a.sz) d).toArray) h a f b):=
  pQ n (.inr ⟨rfl,rfl⟩) (fun c z U=>s c (fun e=>N z (e▸U)))
 have V:(spliced cells.toList (a.off+lo*a.sz) d).length=cells.size:=by rw[pV (by simpa using l)];simp
 refine⟨Γ.bH (Γ.w.setRow b (spliced cells.toList (a.off+lo*a.sz) d).toArray) h a f b,F,⟨g,rfl,rfl,rfl,by simp[az.bH],fun c _ W=>s c (fun e=>W (e▸q)),fun _ _ h=> .inl h,fun c hc=>?_⟩,?_⟩
 .rcases hc with hc|hc
  .exact .inl hc
  .exact .inl (hc▸q)
 .have Y:(dT rows lo new).length<=a.cap:=by simp[dT];omega
  refine qb (Γ':=Γ.bH (Γ.w.setRow b (spliced cells.toList (a.off+lo*a.sz) d).toArray) h a f b) m (eP y) n g rfl rfl (fun c=>alc) (by simp[az.bH]) p (fun c _ t=>s c t) (.inl p) (by simpa[az.bH]using R) M Y O i _ T G (by simp[V];exact Q) ?_
  have u:∀j,(Γ.bH (Γ.w.setRow b (spliced cells.toList (a.off+lo*a.sz) d).toArray) h a f b).w.cell? ⟨b,j,none⟩=if a.off+lo*a.sz<=j/\j<a.off+lo*a.sz+d.length then d[j-(a.off+lo*a.sz)]? else cells[j]?:=by
   intro j
   rw[show(Γ.bH (Γ.w.setRow b (spliced cells.toList (a.off+lo*a.sz) d).toArray) h a f b).w=Γ.w.setRow b (spliced cells.toList (a.off+lo*a.sz) d).toArray from rfl,dE.cell G]
   have:=wS (cur:=cells.toList) (o:=a.off+lo*a.sz) (vs:=d) (by simpa using l) j
   simpa using this
  have x:(rows.take lo).length=lo:=by simp;omega
  unfold dT
  refine wm (wm ?_ ?_) ?_
  .refine rM g b a.sz _ _ (fun j I J=>?_) (kJ D lo)
   rw[x]at J
   rw[u,if_neg (by omega),dE.cell k]
  .rw[x]
   refine Bi g (by rw[i];exact A) hn (fun j v K=>?_)
   have ad:=(abW.1 K).1
   rw[u,if_pos (by omega),show a.off+lo*a.sz+j-(a.off+lo*a.sz)=j by omega]
   exact K
  .rw[agc,x]
   refine rM g b a.sz _ _ (fun j I J=>?_) (ml D (lo+new.length))
   rw[u,if_neg ?_,dE.cell k]
   rw[E, <-i]
   rw[air]at I
   omega
def Ya{g:List Ob}(c:aZ Γ H){t ty:TypeId}{m n:aw}{o p:Value}{v:aw}(q:aL Γ m o)(u:aL Γ n p)(h:uL P H t (some m) (some n)=some (v,g)):
  ∃z a,(akH #[t,t] ty #[o,p]).run P Γ.w= .ok z a.w/\Γ.cL a/\aZ a g/\aL a v z:=by
 unfold uL at h
 split at h
 case h_2=>cases h
 rename_i el ab M hh ad d k h2 ae s l N O Q
 cases O
 cases Q
 split at h
 case h_2=>cases h
 rename_i z rows e b x R
 split at h
 case isFalse=>cases h
 rename_i hc
 obtain⟨rfl,rfl,y,S,af⟩:=hc
 simp only[ab1,aca]at h
 obtain⟨rfl,rfl⟩:=h
 have⟨bytes,zl⟩:=M
 have⟨T,i,zv,U,V,_,hz,ag,_⟩:=jz N
 simp only[aL,aB]at q u
 obtain⟨ah,ai,aj,cap,A,_,rfl,W⟩:=q
 have⟨i2,B,ak,g2⟩:=c.obj x
 rw[A]at B
 cases B
 obtain⟨f,al,a2,am,j1,_,rfl,j3⟩:=u
 have⟨i3,C,an,D⟩:=c.obj R
 rw[j1]at C
 cases C
 rcases W rfl with⟨E,rfl,rfl,rfl,rfl⟩|⟨ao,a',E,rfl,rfl,ap,X⟩
 .simp at y
 rcases j3 rfl with⟨F,rfl,rfl,rfl,rfl⟩|⟨Y,aq,F,rfl,rfl,ar,Z⟩
 .simp at y
 simp only[F]at D
 have⟨G,au,av,ax,ay,az,T2,aA,aC,I⟩:=D
 obtain rfl:=X (by omega)
 obtain rfl:=Z (by omega)
 have hk:(b.drop s).take (min k l)=(b.drop s).take (min k l):=rfl
 have⟨J,u1,K,u3⟩:=tH (kJ (ml I s) (min k l))
 have L:((b.drop s).take (min k l)).length=min k l:=by simp;omega
 rw[L,G]at K
 have aa:∀r∈(b.drop s).take (min k l),r.length=e:=by
  intro r hr
  obtain⟨aD,hn,rfl⟩:=alH hr
  have:=(jL (kJ (ml I s) (min k l)) (abM hn)).1
  rw[this,G]
 have⟨a,e1,e2,e3⟩:=Zc (P:=P) (lo:=d) c x A E (new:=(b.drop s).take (min k l)) S (by rw[L];omega) aa u1
 have k4:(ai4 e (min k l) (.slice (some ⟨Y,f.off+s*f.sz,none⟩) l (f.cap-s))).run P Γ.w= .ok J.toArray Γ.w:=
  run_firstCells_some (P:=P) (w:=Γ.w) e (min k l) _ l _ J K (fun j v hj=>by rw[jG];exact u3 j v hj)
 refine⟨.int .i64 ((min k l:Nat):Int),a,?_,e2,e3,by simp[aL,aB,aiw]⟩
 have k5:Nat.min l k=min k l:=al6 l k
 have k6:min l k=min k l:=al6 l k
 simp[akH,run_underlying T,akf,sizeOf,typeInfo,U,V,goInt,k5,k4,e1]
def aci{S:List Ob}(w:aZ Γ H){e:Env}{a:Act}{o:Oper}{x:aw}(l:∀p∈o.op.operands,Good Γ e a p)(h:cA P e H o.op=some (x,S)):uf Γ ((execOp a.eval o).run P Γ.w) x S:=by
 have⟨ah,V,ty,pos,ai,guard⟩:=o;simp only at l h;cases V with
 |convert s d y=>
  simp only[cA]at h;cases n:aX e y with
  |none=>rw[n]at h;simp[nH]at h
  |some v=>rw[n]at h;have⟨z,A,f,g,q,C⟩:=ZG w (l y (by simp[acH]) v n) h;exact⟨z,A,.inl (by simp[execOp,f]),g,q,C⟩
 |lookup t m k c=>
  cases c with
  |true=>simp[cA]at h
  |false=>
   simp only[cA]at h;cases hm:aX e m with
   |none=>rw[hm]at h;simp[nK]at h
   |some W=>
    cases B:aX e k with
    |none=>rw[hm,B]at h;simp[nK]at h
    |some X=>rw[hm,B]at h;obtain⟨rfl,z,f,g⟩:=T7 w (l m (by simp[acH]) _ hm) (l k (by simp[acH]) _ B) h;exact .val w (y:=z) (by simp[execOp,f]) g
 |mapUpdate t m k v=>
  simp only[cA]at h;cases hm:aX e m with
  |none=>rw[hm]at h;simp[qW]at h
  |some W=>
   cases B:aX e k with
   |none=>rw[hm,B]at h;simp[qW]at h
   |some X=>
    cases I:aX e v with
    |none=>rw[hm,B,I]at h;simp[qW]at h
    |some vx=>rw[hm,B,I]at h;obtain⟨rfl,A,f,g,q⟩:=UY w (l m (by simp[acH]) _ hm) (l k (by simp[acH]) _ B) (l v (by simp[acH]) _ I) h;exact⟨undef,A,.inr ⟨by simp[execOp,f],rfl⟩,g,q,by simp only[aL,bT];exact⟨#[],rfl,rfl⟩⟩
 |makeMap t r=>
  cases r with
  |some r=>simp[cA]at h
  |none=>
   simp only[cA]at h;split at h
   .cases h;have⟨f,g,q⟩:=QD w (.map #[] 0) (.mp []) (fun f g q C=>⟨_,_,f,rfl,g,q, #[],0,C,rfl,fun j p e hp=>by simp at hp⟩);refine⟨.map (some Γ.w.heap.size),Γ.fresh (.map #[] 0),.inl (by simp[execOp,Instr.makeMap,newObj,Sem.run,az.fresh,ajd]),f,g,?_⟩;simp only[aL,aB];exact⟨_,0,_,q,rfl,fun _=>⟨_,rfl,rfl⟩⟩
   .cases h
 |range t y=>
  simp only[cA]at h;split at h
  .rename_i s n;split at h
   .rename_i J;cases h;have K:=tQ J;have hc:=l y (by simp[acH]) _ n;simp only[aL,aB]at hc;have⟨f,g,q⟩:=QD w (.stringIter s 0) (.it s 0) (fun f g q C=>⟨_,_,f,rfl,g,q,C⟩);refine⟨.pointer (some ⟨Γ.w.heap.size,0,none⟩),Γ.fresh (.stringIter s 0),.inl (by simp[execOp,Instr.range,hc.1,run_underlying K,newObj,Sem.run,az.fresh,ajd]),f,g,?_⟩;simp only[aL,aB];exact⟨_,0,_,q,rfl,fun _=>⟨_,rfl,rfl⟩⟩
   .cases h
  .cases h
 |next i s=>
  cases s with
  |false=>simp[cA]at h
  |true=>
   simp only[cA]at h;cases n:aX e i with
   |none=>rw[n]at h;simp[yi]at h
   |some v=>rw[n]at h;have⟨z,A,f,g,q,C⟩:=ae3 (P:=P) w (l i (by simp[acH]) v n) h ty;exact⟨z,A,.inl (by simp[execOp,f]),g,q,C⟩
 |typeAssert y xt t c=>
  cases c with
  |false=>simp[cA]at h
  |true=>
   simp only[cA,ab4,aca]at h;obtain⟨x',u,rfl,rfl⟩:=h;cases n:aX e y with
   |none=>rw[n]at u;simp[zG]at u
   |some v=>rw[n]at u;have⟨z,f,g⟩:=TK (P:=P) (xt:=xt) (l y (by simp[acH]) v n) u;exact .val w (y:=z) (by simp[execOp,f]) g
 |call c=>
  have⟨Y,args,T⟩:=c;cases Y with
  |builtin b=>
   cases b with
   |append=>
    simp only[cA]at h;split at h
    .rename_i s y t L f g;have M:args= #[s,y]:=by apply akF;simpa using f
     have N:T= #[t,L]:=by apply akF;simpa using g
     subst M;subst N;split at h
     .rename_i sl b Z D;split at h
      .rename_i J;have K:=tQ J;have c1:=l s (by simp[acH,aiM]) _ Z;have c2:=l y (by simp[acH,aiM]) _ D;simp only[aL]at c1 c2;simp only[aB]at c2;rw[acK]at h;have⟨z,A,E,F,O,Q⟩:=Vp (P:=P) (ty:=ty) w K c1 h;refine⟨z,A,.inl ?_,F,O,Q⟩;have hb:(⟨b.data.toList.toArray⟩:ByteArray)=b:=by simp
       rw[hb]at E;simp[execOp,resolve,invoke,builtin,c2.1,E]
      .cases h
     .cases h
    .cases h
   |copy=>
    simp only[cA]at h;split at h
    .rename_i d y t L f g;have M:args= #[d,y]:=by apply akF;simpa using f
     have N:T= #[t,L]:=by apply akF;simpa using g
     subst M;subst N;split at h
     .rename_i aa;subst aa;cases G:aX e d with
      |none=>rw[G]at h;simp[uL]at h
      |some vd=>
       cases D:aX e y with
       |none=>rw[G,D]at h;simp[uL]at h
       |some vy=>rw[G,D]at h;have⟨z,A,E,F,O,Q⟩:=Ya (P:=P) (ty:=ty) w (l d (by simp[acH,aiM]) _ G) (l y (by simp[acH,aiM]) _ D) h;exact⟨z,A,.inl (by simp[execOp,resolve,invoke,builtin,E]),F,O,Q⟩
     .cases h
    .cases h
   |_=>simp[cA]at h
  |_=>simp[cA]at h
 |slice t y lo hi mx=>
  cases mx with
  |some m=>simp[cA]at h
  |none=>
   simp only[cA,ab4,aca]at h;obtain⟨r,u,rfl,rfl⟩:=h;unfold sliceB at u;split at u
   case h_2=>cases u
   rename_i el aj ak hh al am len ab m ad D ae af;split at u
   case h_2=>cases u
   rename_i z rows ho;split at u
   case isFalse=>cases u
   rename_i hc;obtain⟨rfl,c0,c1,_,c2⟩:=hc;cases u;have U:=l y (by simp[acH]) _ D;simp only[aL]at U;rcases vV (Γ:=Γ) (a:=a) (fun p hp=>l p (by simp[acH,hp])) ae with⟨_,hn⟩|⟨k1,m1,e1,hn⟩
   .cases hn
   rcases vV (Γ:=Γ) (a:=a) (fun p hp=>l p (by simp[acH,hp])) af with⟨_,R⟩|⟨k2,m2,e2,R⟩
   .cases R
   cases hn;cases R;have⟨ag,E,F⟩:=adB (P:=P) w ad U ho k1 k2 ab m c0 c1 c2;exact .val w (y:=ag) (by simp[execOp,e1,e2,E]) (by simpa[aL]using F)
 |_=>simp[cA]at h
end Go.Nx
namespace Go.Nx
variable{P:Program}{e:Env}{H H':List Ob}{o:Oper}{x:aw}{Γ:az}{C:bu}{ce:cV}{ops:Array Oper}
def lq(P:Program)(e:Env)(H:List Ob)(o:Op)(x:aw)(H':List Ob):Prop:=
 ∀(Γ:az) (a:Act) (c:Oper),c.op=o->aZ Γ H->(∀p∈o.operands,Good Γ e a p)->∀(next:Act->World->Prop) (Q:Exit->Act->World->Prop),
  (∀y b,Γ.cL b->aZ b H'->aL b x y->next (a.put c.dst y) b.w)->c.wp P a Γ.w next Q
def lq.tJ{o:Op}(h:∀(Γ:az) (a:Act) (c:Oper),c.op=o->aZ Γ H->(∀p∈o.operands,Good Γ e a p)->uf Γ ((execOp a.eval c).run P Γ.w) x H'):lq P e H o x H':=by
 intro Γ a c d f g next Q hn;have⟨y,i,b,j,k,l⟩:=h Γ a c d f g;have:=hn y i j k l;unfold Oper.wp;rcases b with b|⟨b,m⟩
 .rw[b,aky];exact this
 .rw[b,Oper.upon_skip, <-m];exact this
def lq.aax{f:Operand}{args:Array Operand}{j:Array TypeId}{g:FuncId}{h:List ab}{d:List aw}(k:aX e f=some (.c (.bF g h)))(l:pT (args.toList.map (aX e))=some d)
  (hc:Call P g (d++h.map .c) H x H'):lq P e H (.call {callee:= .value f,args:=args,argTypes:=j}) x H':=by
 intro Γ a z m n i next Q hn
 have b:=i f (by simp[acH,aiM]) _ k
 simp only[aL,aB]at b
 have⟨o,b,q⟩:=b
 have r:=C0 args.toList d (fun p hp=>i p (by simp[acH,aiM];right;simpa using hp)) l
 unfold Oper.wp
 rw[agA m b hc.1,Oper.upon_enter]
 refine(hc.2 Γ n (args.map a.eval++o) ?_).mono fun A B s=>?_
 .have:=CX r (BT q)
  simpa using this
 .obtain ⟨y,t,rfl,rfl,u,v,w⟩:=s
  exact hn y t u v w
def my(P:Program)(ce:cV):Prop:= ∀g a H r H',ce g a H=some (r,H')->Call P g a H r H'
def LU(c:aZ Γ H){g:Nat}{l:ab}(h:tj g=some l):aB Γ l (.pointer (some ⟨g,0,none⟩)):=by
 unfold tj at h;split at h
 .rename_i a d rows b;cases h;have hm:=ajU b;have hp:=akS b;have e:a=g:=by simpa using hp
  subst e;have:=c.G _ hm;simp only[aB];exact⟨a,0,d,by simp,this.1,this.2⟩
 .cases h
def AQ(k:my C.P ce){o:Op}(h:eV C ce o e H=some (x,H')):lq C.P e H o x H':=by
 unfold eV at h;split at h
 .rename_i f args t;split at h
  .rename_i g u v m j;exact lq.aax m j (k _ _ _ _ _ h)
  .cases h
 .rename_i g;simp only[ab4,aca]at h;obtain⟨l,n,rfl,rfl⟩:=h;refine lq.tJ fun Γ a i c b d=>?_;have⟨w,z,A,pos,B,guard⟩:=i;simp only at c;subst c;exact .val b (y:= .pointer (some ⟨g,0,none⟩)) (by simp[execOp,Act.eval]) (LU b n)
 .split at h
  .rename_i r p;cases h;exact lq.tJ fun Γ a i c b d=>by subst c;exact adv b d p
  .split at h
   .rename_i j;cases h;exact lq.tJ fun Γ a i c b d=>by have⟨y,q,s⟩:=afx b j c d;exact .val b q s
   .exact lq.tJ fun Γ a i c b d=>by subst c;exact aci b d h
def agI{i:Nat}{a:List Oper}(h:ops.toList.drop i=o::a):ops[i]?=some o/\ops.toList.drop (i+1)=a/\o∈ops.toList:=by
 have b:(ops.toList.drop i)[0]?=some o:=by rw[h];rfl
 rw[ai3]at b
 have c:ops.toList.drop (i+1)=a:=by
  have:(ops.toList.drop i).drop 1=a:=by rw[h];rfl
  rw[akd]at this;exact this
 refine⟨by simpa using b,c,aiJ (by simpa using b)⟩
def yn{a:Act}(i:mm Γ e a){b:Bool}(h:nI ops.toList e o.guard=some b):ak5 o (yielded ops a.tmps)=b:=by
 unfold nI at h;split at h
 .rename_i d;cases h;simp[ak5,d]
 .rename_i j w d;split at h
  .rename_i s l;have k:((ops[j]?).bind (·.dst))=some s:=by simpa using l
   split at h
   .rename_i v f;cases h;have⟨y,g,c⟩:=i s _ f;simp only[aL,aB]at c;obtain⟨rfl,_⟩:=c;simp only[ak5,d,yielded,k,alg,g];simp
   .rename_i f;cases h;have⟨y,g,c⟩:=i s _ f;simp only[aL,bT]at c;obtain⟨m,rfl,n⟩:=c;simp only[ak5,d,yielded,k,alg,g];simp
   .cases h
  .cases h
def oZ(n:Nat)(l:List Oper):Bool:=l.all fun o=>match o.dst with|some t=>decide (t<n)|none=>true
def F3{n:Nat}{l:List Oper}(h:oZ n l=true)(a:o∈l):∀t,o.dst=some t->t<n:=by intro t b;unfold oZ at h;rw[ahI]at h;have:=h o a;rw[b]at this;simpa using this
def NX:aL Γ unit undef:=by simp only[aL,bT];exact⟨#[],rfl,rfl⟩
def ab2(s:my C.P ce){z:Nat->Bool}{o:Op}(h:mh z C ce o e H=some (x,H')):lq C.P e H o x H':=by
 unfold mh at h;split at h
 .rename_i t k;split at h
  .split at h
   .rename_i v A;split at h
    .rename_i aa zs B;cases h;refine lq.tJ fun Γ a p d f q=>?_;have⟨D,E,F,pos,G,guard⟩:=p;simp only at d;subst d;have hc:=wM (q (.tmp k) (by simp[acH]) v A) B;have⟨I,J,K,L,M⟩:=V4 (P:=C.P) f t hc;exact⟨.pointer (some ⟨Γ.w.heap.size,0,none⟩),I,.inl (by simp[execOp,Instr.box,J]),K,L,by simpa[aL]using M⟩
    .cases h
   .cases h
  .exact AQ s h
 .rename_i t g i;simp only[ab4,aca]at h;obtain⟨x',h,rfl,rfl⟩:=h;refine lq.tJ fun Γ a p d f q=>?_;have⟨D,E,F,pos,G,guard⟩:=p;simp only at d;subst d;have N:=q i (by simp[acH]);unfold sc at h;split at h
  .rename_i rows r k O j hp Q;have R:=N.int Q;simp only[ab4,aw.c.injEq]at hp;obtain⟨ab,S,rfl⟩:=hp;have l:=LU f S;simp only[aB]at l;have⟨b,m,n,l,T,U⟩:=l;split at h
   .rename_i ad V gg W;split at h
    .rename_i u;cases h;have⟨el,X,Y⟩:=Al W;have Z:=(pt Y Γ.w).2;have:=Hu (P:=C.P) (w:=Γ.w) X Z b (m+r*n+k) O j u.1 u.2;have e3:a.eval (.global g)= .pointer (some ⟨b,m+r*n+k,none⟩):=by rw[<-l];rfl
     refine .val f (y:= .pointer (some ⟨b,m+r*n+k+j.toNat*V,none⟩)) (by simp[execOp,e3,R,this]) ?_;simp only[aL,aB];exact⟨b,m,n,by rw[ajg],T,U⟩
    .cases h
   .cases h
  .cases h
 .exact AQ s h
def uq{C:bu}{ce:cV}(k:my C.P ce){ops:Array Oper}{n:Nat}(m:oZ n ops.toList=true){F:Nat->Bool}{Γ0:az}{ds:List (FuncId×List aw)}{Q:Exit->Act->World->Prop}:
  ∀(l:List Oper) (i:Nat),(∃r,ops.toList.drop i=l++r)->∀(e d:Env) (H H':List Ob),fH F C ce ops.toList l e H=some (d,H')->
   ∀(b:List Nat),(∀a w,Sat n Γ0 ⟨d,H',ds⟩ a w->wpOps C.P ops Q b a w)->∀a w,Sat n Γ0 ⟨e,H,ds⟩ a w->wpOps C.P ops Q (List.range' i l.length++b) a w
 |[],i,_,e,d,H,H',h,b,f,a,w,q=>by
  simp only[fH,ab1,aca]at h
  obtain⟨rfl,rfl⟩:=h
  simpa using f a w q
 |o::v,i,⟨r,G⟩,e,d,H,H',h,b,f,a,w,q=>by
  have⟨I,z,hm⟩:=agI G
  rw[aip,ami,ai7,wpOps_cons]
  obtain⟨g,Γ,rfl,A,B,j,D⟩:=q
  unfold wpOp
  simp only[I]
  have E:=F3 m hm
  simp only[fH]at h
  split at h
  .rename_i c J
   rw[yn j J]
   cases c with
   |true=>
    simp only[if_true]at h
    rw[if_pos rfl]
    left
    split at h
    .rename_i x O K
     refine ab2 k K Γ a o rfl B (fun p _=>uD j p) _ _ (fun y L s M N=>?_)
     exact uq k m v (i+1) ⟨r,z⟩ _ _ _ _ h b f _ _ ⟨by rw[vB];exact g,L,rfl,A.trans s,M,(j.mono s.le).put (fun t u=>by rw[g];exact E t u) N,by rw[put_defers];exact D.mono s.le⟩
    .cases h
   |false=>
    simp only[aes,if_false]at h
    rw[if_neg (by simp)]
    exact uq k m v (i+1) ⟨r,z⟩ _ _ _ _ h b f _ _ ⟨by rw[vB];exact g,Γ,rfl,A,B,j.put (fun t u=>by rw[g];exact E t u) NX,by rw[put_defers];exact D⟩
  .cases h
end Go.Nx
namespace Go.Nx
def yb:∀(a:List Nat) (e:Env) (t:Nat) (x:aw),(eI a e).get t=some x->t∈a/\e.get t=some x
 |[],e,t,x,h=>by simp[eI,Env.get]at h
 |k::a,e,t,x,h=>by
  simp only[eI]at h
  split at h
  .rename_i v c
   simp only[Env.get]at h
   split at h
   .rename_i b
    cases h
    exact⟨by simp[b],by rw[<-b];exact c⟩
   .have:=yb a e t x h
    exact⟨by simp[this.1],this.2⟩
  .have:=yb a e t x h
   exact⟨by simp[this.1],this.2⟩
def J4:∀(a:List Nat) (e:Env) (t:Nat) (x:aw),t∈a->e.get t=some x->(eI a e).get t=some x
 |[],e,t,x,h,_=>by simp at h
 |k::a,e,t,x,h,c=>by
  simp only[eI]
  by_cases b:k=t
  .subst b
   simp[c,Env.get]
  .have hm:t∈a:=by
    rcases aeM.1 h with h|h
    .exact absurd h.symm b
    .exact h
   have:=J4 a e t x hm c
   split
   .simp only[Env.get]
    rw[if_neg b]
    exact this
   .exact this
def get_append(a b:Env)(t:Nat):(a++b).get t=match a.get t with|some x=>some x|none=>b.get t:=by
 induction a with
 |nil=>rfl
 |cons p r c=>
  have⟨s,x⟩:=p;simp only[ai7,Env.get];split
  .rfl
  .exact c
def xD(a e:Env):Prop:= ∀t x,a.get t=some x->e.get t=some x
def mm.sub{b:az}{e c:Env}{a:Act}(h:mm b e a)(d:xD c e):mm b c a:=fun t x f=>h t x (d t x f)
def Sat.sub{n:Nat}{Γ0:az}{e b:Env}{H:List Ob}{c:List (FuncId×List aw)}{a:Act}{w:World}(h:Sat n Γ0 ⟨e,H,c⟩ a w)(d:xD b e):Sat n Γ0 ⟨b,H,c⟩ a w:=by have⟨f,g,i,j,k,l,m⟩:=h;exact⟨f,g,i,j,k,l.sub d,m⟩
def uN(C:bu)(f:FuncId)(a:Nat)(t:Nat):Bool:=
 match C.kt f with
 |some l=>decide (t<a)||l.any fun p=>p.contains t
 |none=>true
def iT(C:bu)(f:FuncId)(a:Nat)(e:Env):Prop:= ∀t x,e.get t=some x->uN C f a t=true
def GP(C:bu)(f:FuncId)(a id:Nat)(l:List Oper):Bool:=
 match C.kt f with
 |some b=>l.all fun o=>match o.dst with|some d=>(pE b id).contains d||!uN C f a d|none=>true
 |none=>true
def QS:∀(a:List (List Nat)) (id t:Nat),t∈pE a id->∃p∈a,t∈p
 |[],id,t,h=>by simp[pE]at h
 |l::r,0,t,h=>⟨l,by simp,h⟩
 |l::r,k+1,t,h=>by
  have⟨p,b,c⟩:=QS r k t h
  exact⟨p,by simp[b],c⟩
def af5{C:bu}{f b id t:Nat}{a:List (List Nat)}(c:C.kt f=some a)(h:t∈pE a id):uN C f b t=true:=by have⟨p,d,e⟩:=QS a id t h;simp only[uN,c,ai9,akq];exact .inr ⟨p,d,by simpa using e⟩
def Fb{g:Nat->Bool}{C:bu}{i:cV}{all:List Oper}:∀(l:List Oper) (e a:Env) (H d:List Ob),fH g C i all l e H=some (a,d)->
  (∀t,(∀o∈l,o.dst≠some t)->a.get t=e.get t)/\(∀t,(∃o∈l,o.dst=some t)->a.get t≠none)
 |[],e,a,H,d,h=>by
  simp only[fH,ab1,aca]at h
  obtain⟨rfl,rfl⟩:=h
  exact⟨fun _ _=>rfl,fun t ⟨o,s,_⟩=>by simp at s⟩
 |o::b,e,a,H,d,h=>by
  have j:∀x k,fH g C i all b (ee e o.dst x) k=some (a,d)->(∀t,(∀p∈o::b,p.dst≠some t)->a.get t=e.get t)/\(∀t,(∃p∈o::b,p.dst=some t)->a.get t≠none):=by
   intro x k u
   have⟨m,v⟩:=Fb b _ _ _ _ u
   refine⟨fun t n=>?_,fun t ⟨p,hp,r⟩=>?_⟩
   .rw[m t (fun p hp=>n p (by simp[hp])),Env.nO,if_neg (n o (by simp))]
   .by_cases f:∃q∈b,q.dst=some t
    .exact v t f
    .rcases aeM.1 hp with rfl|hp
     .rw[m t (fun q w y=>f ⟨q,w,y⟩),Env.nO,if_pos r]
      simp
     .exact absurd ⟨p,hp,r⟩ f
  simp only[fH]at h
  split at h
  .rename_i c z
   split at h
   .split at h
    .exact j _ _ h
    .cases h
   .exact j _ _ h
  .cases h
def CL{C:bu}{f i id:Nat}{l:List Oper}(b:GP C f i id l=true){a e':Env}(k:iT C f i a)(q:∀t,(∀o∈l,o.dst≠some t)->e'.get t=a.get t)(r:∀t,(∃o∈l,o.dst=some t)->e'.get t≠none):
  xD (pI (nu C f id) e' a) e'/\iT C f i (pI (nu C f id) e' a):=by
 unfold GP at b
 unfold nu
 cases j:C.kt f with
 |none=>
  simp only[pI]
  exact⟨fun t x h=>h,fun t x h=>by simp[uN,j]⟩
 |some c=>
  rw[j]at b
  simp only[pI]
  have m:∀t x,(eI (pE c id) e'++a).get t=some x->(t∈pE c id/\e'.get t=some x)\/((eI (pE c id) e').get t=none/\a.get t=some x):=by
   intro t x h
   rw[get_append]at h
   cases hp:(eI (pE c id) e').get t with
   |some y=>
    rw[hp]at h
    cases h
    exact .inl (yb _ _ _ _ hp)
   |none=>
    rw[hp]at h
    exact .inr ⟨rfl,h⟩
  refine⟨fun t x h=>?_,fun t x h=>?_⟩
  .rcases m t x h with h|⟨h,d⟩
   .exact h.2
   .by_cases n:∃o∈l,o.dst=some t
    .exfalso
     have⟨o,e,g⟩:=n
     rw[ahI]at b
     have:=b o e
     rw[g]at this
     simp only[ai9,afa]at this
     rcases this with hc|hc
     .cases p:e'.get t with
      |none=>exact r t ⟨o,e,g⟩ p
      |some y=>
       rw[J4 _ _ t y (by simpa using hc) p]at h
       cases h
     .rw[k t x d]at hc
      cases hc
    .rw[q t (fun o e g=>n ⟨o,e,g⟩)]
     exact d
  .rcases m t x h with h|⟨h,d⟩
   .exact af5 j h.1
   .exact k t x d
def bP(P:Program)(n:Nat)(Γ0:az)(c:Code)(S:St)(ex:Exit)(S':St):Prop:=
 ∀a w,Sat n Γ0 S a w->c.wp P (fun b d e=>b=ex/\Sat n Γ0 S' d e) a w
section
variable{P:Program}{n:Nat}{Γ0:az}{S S' S1:St}{ex:Exit}{x y c:Code}
def bP.skip:bP P n Γ0 .skip S .normal S:=fun a w b=>wp_skip ⟨rfl,b⟩
def bP.label{l:Nat}:bP P n Γ0 (.label l) S .normal S:=fun a w b=>wp_label ⟨rfl,b⟩
def bP.ret:bP P n Γ0 .ret S .ret S:=fun a w b=>wp_ret ⟨rfl,b⟩
def bP.exit{id:Nat}:bP P n Γ0 (.exit id) S (.exit id) S:=fun a w b=>wp_exit ⟨rfl,b⟩
def bP.goto{l:Nat}:bP P n Γ0 (.goto l) S (.goto l) S:=fun a w b=>wp_goto ⟨rfl,b⟩
def bP.GO(h:bP P n Γ0 x S .normal S1)(b:bP P n Γ0 y S1 ex S'):bP P n Γ0 (.seq x y) S ex S':=fun a w c=>
 wp_seq (wp_mono (h a w c) fun e d f ⟨g,i⟩=>by subst g;exact b d f i)
def bP.wX(h:bP P n Γ0 x S ex S')(b:ex≠ .normal):bP P n Γ0 (.seq x y) S ex S':=fun a w c=>
 wp_seq (wp_mono (h a w c) fun e g i ⟨d,f⟩=>by
  subst d
  cases e with
  |normal=>exact absurd rfl b
  |_=>exact⟨rfl,f⟩)
def bP.T4{id:Nat}(h:bP P n Γ0 c S (.exit id) S'):bP P n Γ0 (.block id c) S .normal S':=fun a w b=>
 wp_block (wp_mono (h a w b) fun e g i ⟨d,f⟩=>by
  subst d
  simpa[amL]using f)
def bP.Qm{id:Nat}(h:bP P n Γ0 c S ex S')(d:ex≠ .exit id):bP P n Γ0 (.block id c) S ex S':=fun a w f=>
 wp_block (wp_mono (h a w f) fun e j k ⟨g,b⟩=>by
  subst g
  cases e with
  |exit i=>
   have hid:i≠id:=fun e=>d (by rw[e])
   simpa[amL,hid]using b
  |_=>exact⟨rfl,b⟩)
def bP.cond{t:Nat}{b:Bool}(k:S.env.get t=some (.c (.v (.bool b))))(l:b=true->bP P n Γ0 x S ex S')(m:b=false->bP P n Γ0 y S ex S'):bP P n Γ0 (.cond (.tmp t) x y) S ex S':=by
 intro a w o;obtain⟨s,e,rfl,f,g,d,i⟩:=o;have⟨v,p,j⟩:=d t _ k;simp only[aL,aB]at j;have q:a.eval (.tmp t)= .bool b:=by simp[Act.eval,aiR,p,j.1]
 exact wp_cond_split q (fun h=>l h a _ ⟨s,e,rfl,f,g,d,i⟩) (fun h=>m h a _ ⟨s,e,rfl,f,g,d,i⟩)
def bP.pre{b:St}(d:∀a w,Sat n Γ0 b a w->Sat n Γ0 S a w)(h:bP P n Γ0 c S ex S'):bP P n Γ0 c b ex S':=fun a w e=>h a w (d a w e)
def nj(P:Program)(n:Nat)(Γ0:az)(c:Code)(S:St)(ex:Exit)(S':St):Prop:=
 ∀a w,Sat n Γ0 S a w->∀(b:Frame) (k:List Item) (cs:List Frame), ∃d e,Sat n Γ0 S' d e/\Arrives P (lone (b.at a (.code c:: .inLoop c::k)) cs w) b k cs ex d e
def nj.JY(h:nj P n Γ0 c S ex S'):bP P n Γ0 (.loop c) S ex S':=fun a w d b k cs=>by have⟨e,f,g,i⟩:=h a w d b k cs;exact⟨ex,e,f,⟨rfl,g⟩,.of_steps (.one step_loop) i⟩
def nj.more{d:St}(h:bP P n Γ0 c S .normal S1)(f:∀a w,Sat n Γ0 S1 a w->Sat n Γ0 d a w)(g:nj P n Γ0 c d ex S'):nj P n Γ0 c S ex S':=fun a w i b k cs=>by have⟨e,j,w1,⟨l,m⟩,o⟩:=h a w i b (.inLoop c::k) cs;subst l;have⟨p,q,r,s⟩:=g j w1 (f _ _ m) b k cs;exact⟨p,q,r,.of_steps (Steps.trans o (.one step_inLoop)) s⟩
def nj.out(h:bP P n Γ0 c S ex S')(d:ex≠ .normal):nj P n Γ0 c S ex S':=fun a w f b k cs=>by have⟨e,g,w1,⟨i,j⟩,l⟩:=h a w f b (.inLoop c::k) cs;subst i;exact⟨g,w1,j,.pass (x:= .inLoop c) rfl (fun _ _=> .inl d) l⟩
def mv(P:Program)(n:Nat)(Γ0:az)(c f:Code)(S:St)(ex:Exit)(S':St):Prop:=
 ∀a w,Sat n Γ0 S a w->∀(b:Frame) (k:List Item) (cs:List Frame), ∃d e,Sat n Γ0 S' d e/\Arrives P (lone (b.at a (.code f:: .inScope c::k)) cs w) b k cs ex d e
def mv.JY(h:mv P n Γ0 c c S ex S'):bP P n Γ0 (.scope c) S ex S':=fun a w d b k cs=>by have⟨e,f,g,i⟩:=h a w d b k cs;exact⟨ex,e,f,⟨rfl,g⟩,.of_steps (.one step_scope) i⟩
def mv.more{d:St}{l:Nat}{f g:Code}(h:bP P n Γ0 f S (.goto l) S1)(i:findLabel c l=some g)(j:∀a w,Sat n Γ0 S1 a w->Sat n Γ0 d a w)(m:mv P n Γ0 c g d ex S'):mv P n Γ0 c f S ex S':=fun a w o b k cs=>by have⟨e,p,w1,⟨q,r⟩,s⟩:=h a w o b (.inScope c::k) cs;subst q;have⟨t,u,v,x⟩:=m p w1 (j _ _ r) b k cs;exact⟨t,u,v,.of_steps (s _ (by simp[gotoIn,i])) x⟩
def mv.out{i:Code}(h:bP P n Γ0 i S ex S')(j:∀l,ex= .goto l->findLabel c l=none):mv P n Γ0 c i S ex S':=fun a w m b k cs=>by
 have⟨e,o,w1,⟨p,q⟩,d⟩:=h a w m b (.inScope c::k) cs;subst p;refine⟨o,w1,q,?_⟩;cases e with
 |normal=>exact Steps.trans d (.one step_inScope)
 |exit id=>exact fun f g=>d f (by simp[exitTo,g])
 |goto l=>exact fun f g=>d f (by simp[gotoIn,j l rfl,g])
 |ret=>exact d
 |panic r=>exact d
 |outgrown=>exact d
end
end Go.Nx
namespace Go.Nx
variable{Γ:az}{y:Value}{x r:aw}{H H':List Ob}{C:bu}{f:FuncId}{rc:ji}
def Nn{Γ:az}:∀(k:Nat) (b:List aw) (c:List Value) (t:Nat) (x:aw),bT Γ b c->(fP k b).get t=some x->k<=t/\t<k+b.length/\∃y,c[t-k]?=some y/\aL Γ x y
 |k,[],c,t,x,_,h=>by simp[fP,Env.get]at h
 |k,a::b,c,t,x,hc,h=>by
  simp only[bT]at hc
  obtain⟨y,d,rfl,e,f⟩:=hc
  simp only[fP,Env.get]at h
  split at h
  .rename_i g
   subst g
   cases h
   exact⟨ad3 _,by simp,y,by simp,e⟩
  .have ⟨l,m,z,i,j⟩:=Nn (k+1) b d t x f h
   refine⟨by omega,by simp;omega,z,?_,j⟩
   rw[show t-k=(t-(k+1))+1 by omega]
   simpa using i
def Rx:∀(k:Nat) (b:List aw) (t:Nat) (x:aw),(fP k b).get t=some x->t<k+b.length
 |k,[],t,x,h=>by simp[fP,Env.get]at h
 |k,a::b,t,x,h=>by
  simp only[fP,Env.get]at h
  split at h
  .rename_i c;subst c;simp
  .have:=Rx (k+1) b t x h
   simp;omega
def MA{Γ:az}:∀ {b:List aw} {a:List Value},bT Γ b a->a.length=b.length
 |[],a,h=>by simp only[bT]at h;subst h;rfl
 |x::b,a,h=>by simp only[bT]at h;obtain⟨y,d,rfl,_,c⟩:=h;simp[MA c]
def abH{l:ab}(h:aB Γ l y):aB Γ (da l) y:=by
 unfold da;split
 .simp only[aB]at h|-;exact .inl ⟨h.1,trivial⟩
 .exact h
def E3{Γ:az}:∀ {b:List ab} {a:List Value},aY Γ b a->aY Γ (b.map da) a
 |[],a,h=>h
 |l::b,a,h=>by
  simp only[ag9,aY]at h|-
  obtain⟨y,c,rfl,d,e⟩:=h
  exact⟨y,c,rfl,abH d,E3 e⟩
def aaA(h:aL Γ x y):aL Γ (CE x) y:=by
 cases x with
 |agg cs=>simp only[CE,aL]at h|-;have⟨a,b,c⟩:=h;exact⟨a,b,E3 c⟩
 |_=>exact h
def Hy{P:Program}{e:Env}(A:aZ Γ H){a:Act}(C:mm Γ e a){q:Func}(h:gY P e H q.results.toList=some x):
  ∃v,(results q a.tmps).run P Γ.w= .ok v Γ.w/\aL Γ x v:=by
 have one:∀(r:ResultVar) (x:aw),CH P e H r=some x->∃v,((match r with| .tmp t=>pure (a.tmps.getD t undef)| .cell t B=>do loadVar B (<-asAddr (a.tmps.getD t undef)):Sem Value)).run P Γ.w= .ok v Γ.w/\aL Γ x v:=by
  intro r x g
  cases r with
  |tmp t=>
   have⟨y,f,D⟩:=C t x g
   exact⟨y,by simp[aiR,f],D⟩
  |cell t B=>
   have K:∀p y,aB Γ p y->(∃n cs,qR H n p=some cs)\/(∃l,qP H p=some l)->∃E,y= .pointer (some E):=by
    intro p y hc h
    rcases h with⟨n,cs,h⟩|⟨l,h⟩
    .have ⟨r,k,hp,_⟩:=PW h
     obtain⟨b,o,rfl,_⟩:=readable A hc hp
     exact⟨_,rfl⟩
    .have ⟨r,k,hp,_⟩:=LY h
     obtain⟨b,o,rfl,_⟩:=readable A hc hp
     exact⟨_,rfl⟩
   simp only[CH]at g
   split at g
   .rename_i n p F hp
    simp only[ab4]at g
    obtain⟨cs,f,rfl⟩:=g
    have⟨y,i,c⟩:=C t _ hp
    simp only[aL]at c
    have⟨L,j,s⟩:=(yg (P:=P) A c).1 n cs F f
    obtain⟨E,rfl⟩:=K p y c (.inl ⟨n,cs,f⟩)
    refine⟨.agg L,?_,⟨L,rfl,s⟩⟩
    simp only[akT,ali,aiT,akW,aiG]at j
    simp[aiR,i,asAddr,j]
   .rename_i n p F hp
    simp only[ab4]at g
    obtain⟨l,f,rfl⟩:=g
    have⟨y,i,c⟩:=C t _ hp
    simp only[aL]at c
    have⟨z,j,s⟩:=(yg (P:=P) A c).2 n l F f
    obtain⟨E,rfl⟩:=K p y c (.inr ⟨l,f⟩)
    refine⟨z,?_,by simpa[aL]using s⟩
    simp only[akT,ali,aiT,akW,aiG]at j
    simp[aiR,i,asAddr,j]
   .cases g
 have all:∀(u:List ResultVar) (m:List aw),uO P e H u=some m->∃d,(u.mapM (fun r=>(match r with| .tmp t=>pure (a.tmps.getD t undef)| .cell t B=>do loadVar B (<-asAddr (a.tmps.getD t undef)):Sem Value))).run P Γ.w= .ok d Γ.w/\bT Γ m d:=by
  intro u
  induction u with
  |nil=>intro m h;simp[uO]at h;subst h;exact⟨[],by simp,by simp[bT]⟩
  |cons r u M=>
   intro m h
   simp only[uO]at h
   split at h
   .rename_i x N f D
    cases h
    have⟨v,i,c⟩:=one r x f
    have⟨d,j,s⟩:=M N D
    refine⟨v::d,?_,?_⟩
    .simp only[List.mapM_cons,aiT,i,aiG,j,akW]
    .simp only[bT]
     exact⟨v,d,rfl,aaA c,s⟩
   .cases h
 unfold gY at h
 cases hm:uO P e H q.results.toList with
 |none=>rw[hm]at h;simp at h
 |some m=>
  rw[hm]at h
  have⟨d,i,c⟩:=all _ m hm
  have G:(results q a.tmps).run P Γ.w= .ok (if h:d.toArray.size=1 then d.toArray[0]else .tuple d.toArray) Γ.w:=by
   unfold results
   rw[Array.mapM_eq_mapM_toList]
   simp only[aiT,Sem.run_map]
   have O:(q.results.toList.mapM (fun x=>match x with|ResultVar.tmp t=>(pure (a.tmps.getD t undef):Sem Value)|ResultVar.cell Q t=>do loadVar t (<-asAddr (a.tmps.getD Q undef)))).run P Γ.w= .ok d Γ.w:=by
    rw[<-i]
   have I:=congrArg (fun r=>(ajd r fun a J=>Result.ok a.toArray J).andThen fun a J=>Sem.run P (pure (if h:a.size=1 then a[0]else Value.tuple a)) J) O
   refine Eq.trans ?_ (I.trans (by simp))
   congr 3
  match m,h with
  |[],h=>
   simp only[bT]at c
   subst c
   simp only[ab1]at h
   subst h
   exact⟨_,G,by simp[aL,bT]⟩
  |[y],h=>
   simp only[bT]at c
   obtain⟨z,_,rfl,c,rfl⟩:=c
   simp only[ab1]at h
   subst h
   exact⟨_,G,by simpa using c⟩
  |y::z::r,h=>
   simp only[ab1]at h
   subst h
   have I:=c
   simp only[bT]at c
   obtain⟨R,_,rfl,_,S,_,rfl,_,_⟩:=c
   refine⟨_,G,?_⟩
   rw[dif_neg (by simp)]
   exact⟨_,rfl,I⟩
def Fa(C:bu)(rc:ji):Prop:= ∀f a c S b d,C.P.funcs[f]?=some a->a.body=some c->C.dH f=false->iT C f (a.params.size+a.nfree) S.env->rc f c S=some (b,d)->∀e,bP C.P a.ntmps e c S b d
structure Good1(C:bu):Prop where
 enters:∀f fn c,C.P.funcs[f]?=some fn->fn.body=some c->enters C.P f=true
 qS:∀f vs H r H',C.dH f=true->C.dF f vs H=some (r,H')->Call C.P f vs H r H'
 kR:∀g vs,C.kR g=true->Nx.enters C.P g=true/\∀Γ H,aZ Γ H->∀args:Array Value,bT Γ vs args.toList->CallsD C.P g args .returning Γ.w fun e u w'=>u= .returning/\∃y Γ',e= .returned y/\Γ'.w=w'/\Γ.cL Γ'/\aZ Γ' H
def OG{f a:Nat}{args:List aw}(h:args.length<=a):iT C f a (fP 0 args):=by
 intro t x b;have:=Rx 0 args t x b;unfold uN;split
 .simp;left;omega
 .rfl
def KB{n:Nat}(c:aZ Γ H){args:List aw}{a:Array Value}(hc:bT Γ args a.toList)(h:args.length<=n):
  Sat n Γ ⟨fP 0 args,H,[]⟩ {tmps:=a++ak1 (n-a.size) undef,defers:=[]} Γ.w:=by
 have d:=MA hc
 simp only[aje]at d
 refine⟨by simp;omega,Γ,rfl,.refl Γ,c,fun t x e=>?_,rfl⟩
 have⟨_,_,y,b,f⟩:=Nn 0 args a.toList t x hc e
 refine⟨y,?_,f⟩
 have g:t<a.size:=by
  have:=(abW.1 b).1
  simpa using this
 rw[akV g]
 simpa using b
def X2{args:List aw}(l:C.dH f=false)(h:lW C rc f args H=some (r,H')):
  ∃a c d e,C.P.funcs[f]?=some a/\a.body=some c/\args.length<=a.ntmps/\args.length<=a.params.size+a.nfree/\rc f c ⟨fP 0 args,H,[]⟩=some (d,⟨e,H',[]⟩)/\(d= .normal\/d= .ret)/\gY C.P e H' a.results.toList=some r:=by
 unfold lW at h
 rw[l]at h
 simp only[aes,if_false]at h
 split at h
 .rename_i a j
  split at h
  .rename_i c k
   split at h
   .rename_i b
    split at h
    .rename_i e m g
     simp only[ab4,aca]at h
     obtain⟨x,i,rfl,rfl⟩:=h
     exact⟨a,c,_,e,j,k,b.1,b.2,g,.inl rfl,i⟩
    .rename_i e m g
     simp only[ab4,aca]at h
     obtain⟨x,i,rfl,rfl⟩:=h
     exact⟨a,c,_,e,j,k,b.1,b.2,g,.inr rfl,i⟩
    .cases h
   .cases h
  .cases h
 .cases h
def aaE(p:Good1 C)(q:Fa C rc){args:List aw}(k:C.dH f=false)(h:lW C rc f args H=some (r,H')):
  enters C.P f=true/\∀Γ,aZ Γ H->∀d:Array Value,bT Γ args d.toList->CallsD C.P f d .returning Γ.w fun e u b=>u= .returning/\∃y a,e= .returned y/\a.w=b/\Γ.cL a/\aZ a H':=by
 have⟨l,c,J,e,g,i,s,t,x,hex,z⟩:=X2 k h
 refine⟨p.enters f l c g i,fun Γ A d hc=>?_⟩
 have B:=q f l c _ _ _ g i k (OG t) x Γ
 refine(callsD_of_wp (R:=fun e b=>∃y a,e= .returned y/\a.w=b/\Γ.cL a/\aZ a H') g i (wp_mono (B _ _ (KB A hc s)) fun D E b F=>?_)).mono fun D K b h=>h
 obtain⟨rfl,L,a,rfl,m,j,G,I⟩:=F
 have n:E.defers=[]:=I
 have⟨v,o,M⟩:=Hy j G z
 rcases hex with rfl|rfl
 .exact ⟨n,v,o,v,a,rfl,rfl,m,j⟩
 .exact ⟨n,v,o,v,a,rfl,rfl,m,j⟩
def MV{C:bu}{rc:ji}(i:Good1 C)(m:Fa C rc){fn:Func}{tmps:Array Value}{R:Ending->World->Prop}:
  ∀(d:List (FuncId×List aw)) (H H':List Ob),iX C rc d H=some H'->∀(cs:List Deferred) (Γ:az),aZ Γ H->tO Γ d cs->(∀a,Γ.cL a->aZ a H'->∃v,(results fn tmps).run C.P a.w= .ok v a.w/\R (.returned v) a.w)->Leaves C.P fn tmps R cs .returning Γ.w
 |[],H,H',h,cs,Γ,f,hc,j=>by
  simp only[iX,ab1]at h
  subst h
  have hc:cs=[]:=hc
  subst hc
  exact j Γ (.refl Γ) f
 |(g,n)::d,H,H',h,cs,Γ,f,hc,j=>by
  obtain⟨c,o,rfl,⟨cap,p,x⟩,z⟩:=hc
  have fin:enters C.P g=true->∀b,iX C rc d b=some H'->(CallsD C.P g (c.args++cap) .returning Γ.w fun e u q=>u= .returning/\∃y a,e= .returned y/\a.w=q/\Γ.cL a/\aZ a b)->Leaves C.P fn tmps R (c::o) .returning Γ.w:=by
   intro A b B D
   refine⟨by simp,.func g,cap,g,c.args++cap,p,?_,?_⟩
   .rw[p]
    exact Qa A _ _
   .refine D.mono fun e u q E=>?_
    obtain⟨rfl,y,a,rfl,rfl,s,F⟩:=E
    exact MV i m d b H' B o a F (z.mono s.le) (fun G I J=>j G (s.trans I) J)
  simp only[iX]at h
  have t:bT Γ n (c.args++cap).toList:=by simpa using x
  split at h
  .rename_i hn
   have⟨k,l⟩:=i.kR g n hn
   exact fin k H h (l Γ H f _ t)
  .split at h
   .cases h
   .rename_i K
    split at h
    .rename_i r b L
     have⟨k,l⟩:=aaE i m (by simpa using K) L
     exact fin k b h (l Γ f _ t)
    .cases h
def Ns(g:Good1 C)(l:Fa C rc){args:List aw}(h:bB C rc f args H=some (r,H')):Call C.P f args H r H':=by
 unfold bB at h;split at h
 .rename_i i;exact g.qS f args H r H' i h
 .rename_i i;have z:C.dH f=false:=by simpa using i
  split at h
  .rename_i fn j;split at h
   .rename_i c k;split at h
    .rename_i m
     have n:∀d S,rc f c ⟨fP 0 args,H,[]⟩=some (d,S)->(d= .normal\/d= .ret)->(match iX C rc S.bG S.heap with|some H'=>(gY C.P S.env H' fn.results.toList).map (·,H')|none=>none)=some (r,H')->Call C.P f args H r H':=by
      intro d S b hex h;split at h
      .rename_i o A;simp only[ab4,aca]at h;obtain⟨x,B,rfl,rfl⟩:=h;refine⟨g.enters f fn c j k,fun Γ D O hc=>?_⟩;have E:=l f fn c _ _ _ j k z (OG m.2) b Γ;refine calls_of_wp_defers j k (wp_mono (E _ _ (KB D hc m.1)) fun Q p q F=>?_);obtain⟨rfl,T,a,rfl,G,I,J,K⟩:=F;have s:=MV (R:=fun e q=>∃y a,e= .returned y/\a.w=q/\Γ.cL a/\aZ a o/\aL a x y) (fn:=fn) (tmps:=p.tmps) g l S.bG S.heap o A p.defers a I K (fun L t u=>by have⟨v,M,N⟩:=Hy u (J.mono t.le) B;exact⟨v,M,v,L,rfl,rfl,G.trans t,u,N⟩)
       rcases hex with rfl|rfl
       .exact s
       .exact s
      .cases h
     split at h
     .rename_i S b;exact n _ S b (.inl rfl) h
     .rename_i S b;exact n _ S b (.inr rfl) h
     .cases h
    .cases h
   .cases h
  .cases h
end Go.Nx
namespace Go.Nx
open Go.ChangeShapes Go.WideShapes Go.ChangeAt Go.RowKit
variable{P:Program}{α β H:Type}{T:TypeId}{n base:Nat}{cs:List Value}{Γ:az}{fs:Array Field}{p:List MemPlace}
def az.of(W:World):az:={w:=W,F:=fun b _=>b<W.heap.size,X:=fun _=>False,hs:=[]}
def az.WH{W:World}(c:ug (az.of W)):aZ (az.of W) []:=⟨rfl,fun h o d=>by simp at d,fun h f v g o i j k b e=>by simp at e,fun b z a=>a,fun b a=>a.elim,c⟩
def WW{f:FuncId}{g:List aw}{W:World}{d:Array Value}{b:Bool}{j:List Ob}(h:Nx.Call P f g [] (.c (B b)) j)(l:ug (az.of W))(hc:bT (az.of W) g d.toList):
  Calls P f d W fun e m=>e= .returned (.bool b)/\Below W.heap.size W m:=by
 refine(h.2 (az.of W) (az.WH l) d hc).mono fun e p n=>?_
 obtain⟨y,q,rfl,rfl,a,r,i⟩:=n
 simp only[aL,aB]at i
 exact⟨by rw[i.1],a.os,a.tape,a.output,a.size,fun k o=>a.frame k o (fun h=>h)⟩
def Reads(P:Program)(T:TypeId)(e:α->List ab)(ok:α->Prop):Prop:=
 ∀(H:Type) (b:TypeId×Value->H) (W:World) (c:Nat->Bool) (d:Bool) (n:Nat) (cs:List Value) (x:DataW H×List MemPlace),ak8 b P W 0 c d n T cs=some x->∃a,ok a/\aY (az.of W) (e a) cs
def RQ{k:IntKind}(a:P.underlying T=some (.int k)):Reads P T (fun n:Int=>[.v (.int k n)]) (fun n=>(Lit.int k n).wf=true):=by
 intro H c W d e n cs x h;cases n with
 |zero=>simp[ak8]at h
 |succ n=>unfold ak8 at h;rw[a]at h;split at h<;>simp_all;obtain⟨⟨rfl,b⟩,rfl⟩:=h;exact⟨_,b,by simp[aY,aB,aiw]⟩
def M8{W:World}{a:Addr}(h:W.cells? 0 a n=some cs):cs.length=n/\∀i,i<n->W.cell? (a.add i)=cs[i]?:=by unfold amC at h;rw[if_pos (akg _)]at h;have b:=mapM_some_length h;simp at b;exact⟨b,fun i c=>mapM_some_get h i i (by simp[c])⟩
def SK{p:Nat->β->Prop}(h:∀i,i<n->∃b,p i b):∃l:List β,l.length=n/\∀i b,l[i]?=some b->p i b:=by
 induction n with
 |zero=>exact⟨[],rfl,fun i b a=>by simp at a⟩
 |succ n e=>
  have⟨l,d,hp⟩:=e (fun i f=>h i (by omega));have⟨b,a⟩:=h n (by omega);refine⟨l++[b],by simp[d],fun i c hc=>?_⟩;by_cases f:i<n
  .rw[abE (by omega)]at hc;exact hp i c hc
  .have g:=(abW.1 hc).1;simp at g;have:i=n:=by omega
   subst this;rw[aea (by omega),d]at hc;simp at hc;subst hc;exact a
def Ri{Γ:az}{b:Nat}:∀ {off:Nat} {r:List ab} {cs:List Value},aY Γ r cs->(∀i,i<r.length->Γ.w.cell? ⟨b,off+i,none⟩=cs[i]?)->cR Γ b off r
 |off,[],_,_,_=>by simp[cR]
 |off,l::d,cs,h,hc=>by
  simp only[aY]at h
  obtain⟨y,e,rfl,a,c⟩:=h
  simp only[cR]
  refine⟨⟨y,by simpa using hc 0 (by simp),a⟩,Ri c (fun i f=>?_)⟩
  rw[show off+1+i=off+(i+1)by omega]
  simpa using hc (i+1) (by simp;omega)
def I4{E:TypeId}{d:Nat}{f:β->List ab}{ok:β->Prop}(D:P.underlying T=some (.slice E))(F:Reads P E f ok)(G:P.cellsOf E=d)(I:0<d)(v:∀x,(f x).length=d):
  Reads P T (fun l:List β=>[.aj (l.map f)]) (fun l=>l.length<=maxLen/\∀x∈l,ok x):=by
 intro H J W K L n cs x h
 cases n with
 |zero=>simp[ak8]at h
 |succ n=>
  rw[DataW.trod_step]at h
  unfold DataW.trodStep at h
  rw[D]at h
  split at h<;>try (simp_all;done)
  .exact ⟨[],⟨akg _,by simp⟩,by simp[aY,aB]⟩
  .rename_i a len cap q
   obtain rfl:E=_:=by simpa using q
   simp only at h
   split at h
   case isFalse=>cases h
   rename_i M
   have⟨_,ad,ae⟩:=M
   rw[akB]at h
   have⟨N,y,_⟩:=h
   have O:=mapM_some_length y
   simp at O
   have Q:∀i,i<len->∃c:β×List Value,ok c.1/\aY (az.of W) (f c.1) c.2/\W.cells? 0 (a.add (i*d)) d=some c.2:=fun i e=>by
    have r:=mapM_some_get y i i (by simp[e])
    have R:i<N.length:=by omega
    rw[abM R]at r
    rw[akB]at r
    have⟨cs,m,S⟩:=r
    have⟨c,U,V⟩:=F H J W K L n cs _ S
    rw[G]at m
    refine⟨(c,cs),U,V,?_⟩
    unfold amC at m|-
    rw[if_pos (akg _)]
    split at m
    .exact m
    .cases m
   have⟨l,X,hp⟩:=SK Q
   refine⟨l.map (·.1),⟨by simp;omega,fun x Y=>?_⟩,?_⟩
   .obtain ⟨c,hc,rfl⟩:=aiK.1 Y
    have⟨i,e⟩:=List.mem_iff_getElem?.1 hc
    exact(hp i c e).1
   .simp only[aY]
    refine⟨_,[],rfl,?_,rfl⟩
    simp only[aB]
    right
    refine⟨a,cap,d,by simp[X],by simp;omega,?_⟩
    by_cases z:l=[]
    .left;simp[z]
    .right
     have af:0<len:=by
      rcases akZ len with p|p
      .exact absurd (ae4 (by omega)) z
      .exact p
     have A:∀(i:Nat) (c:β×List Value),l[i]?=some c->∀j,j<d->W.cell? ((a.add (i*d)).add j)=c.2[j]?:=fun i c hc j t=>(M8 (hp i c hc).2.2).2 j t
     have Z:∀(i:Nat) (c:β×List Value),l[i]?=some c->c.2.length=d:=fun i c hc=>(M8 (hp i c hc).2.2).1
     have p:∃c,l[0]?=some c:=⟨_,abM (by omega)⟩
     have⟨B,C⟩:=p
     have g:=A 0 B C 0 I
     have ag:=Z 0 B C
     rw[abM (by omega)]at g
     simp only[akX,Addr.add,if_true]at g
     have u:a.spot=none:=World.cell?_spot g
     have hF:a.block<W.heap.size:=by
      unfold World.cell? at g
      split at g
      .rename_i q
       exact(ajC.1 q).1
      .cases g
     refine⟨u,hF,mY fun i ah e=>?_⟩
     simp only[ajc,adf,ab4]at e
     obtain⟨c,hc,rfl⟩:=e
     refine⟨v _,Ri (hp i c hc).2.1 (fun j t=>?_)⟩
     have aa:j<d:=by rw[<-v c.1];exact t
     rw[<-A i c hc j aa]
     have⟨b,o,s⟩:=a
     simp only at u
     subst u
     have e1:∀k,(⟨b,o,none⟩:Addr).add k=⟨b,o+k,none⟩:=jG b o
     show(az.of W).w.cell? _=_
     rw[e1,jG]
     simp[az.of]
def jw{a b:List ab}{o k:Nat}(c:aY Γ a ((cs.drop o).take k))(d:aY Γ b (cs.drop (o+k))):aY Γ (a++b) (cs.drop o):=by have:=su c d;rwa [show(cs.drop o).take k++cs.drop (o+k)=cs.drop o by rw[<-akd];exact ajI k (cs.drop o)]at this
def xz(h:cs.length=n):aY Γ [] (cs.drop n):=by simp[aY, <-h]
def xb{e:α->List ab}{ok:α->Prop}(j:P.underlying T=some (.struct fs))(hn:P.cellsOf T=n)
  (h:∀(H:Type) (b:TypeId×Value->H) (W:World) (c:Nat->Bool) (d:Bool) (m:Nat) (cs:List Value),cs.length=n->(∀(i:Nat) (f:Field),fs[i]?=some f->∃x,ak8 b P W 0 c d m f.type ((cs.drop f.offset).take (P.cellsOf f.type))=some x)->∃a,ok a/\aY (az.of W) (e a) cs):Reads P T e ok:=by
 intro H b W c d k cs x l
 obtain⟨o,m,rfl,rfl,p,q,r⟩:=DataW.trod_struct j l
 refine h H b W c d m cs (by rw[p,hn]) (fun i f g=>?_)
 have s:i<o.length:=by rw[q];exact(ajC.1 g).1
 exact⟨_,(r i f g).trans (abM s)⟩
def adM{e:TypeId×Value->H}{W:World}{g:α->ab}{ok:α->Prop}(i:Reads P T (fun a=>[g a]) ok){v:Value}{d:DataW H}(j:∀cs,v≠ .agg cs)(h:DataW.Trod e P W 0 (fun _=>true) true T v d p):∃a,ok a/\aL (az.of W) (.c (g a)) v:=by
 have⟨n,hn⟩:=h;have⟨a,k,b⟩:=i H e W _ _ n _ _ hn;refine⟨a,k,?_⟩;have l:v.cells= #[v]:=by cases v<;>first|rfl|exact absurd rfl (j _)
 rw[l]at b;simp only[aY]at b;have⟨y,o,f,m,q⟩:=b;simp at f;simp only[aL];rw[f.1];exact m
def QO{b:TypeId×Value->H}{W:World}{e:α->List ab}{ok:α->Prop}(c:Reads P T e ok){v:Value}{d:DataW H}(f:∃cs,v= .agg cs)(h:DataW.Trod b P W 0 (fun _=>true) true T v d p):∃a,ok a/\aL (az.of W) (.agg (e a)) v:=by have⟨n,hn⟩:=h;have⟨a,g,i⟩:=c H b W _ _ n _ _ hn;obtain⟨cs,rfl⟩:=f;exact⟨a,g,cs,rfl,i⟩
def Ld{W:World}{v:Value}(a:P.underlying T=some (.struct fs))(h:alj P W .any base T v):∃cs,v= .agg cs:=by unfold alj at h;rw[a]at h;have⟨cs,b,_⟩:=h;exact⟨cs,b⟩
def acA{W:World}{E:TypeId}{v:Value}(a:P.underlying T=some (.slice E))(h:alj P W .any base T v):∀cs,v≠ .agg cs:=by rintro cs rfl;simp[alj,a,Cell.okWide,Cell.ok]at h
end Go.Nx
namespace Go.Nx
section
variable{Γ1 Γ2:az}{bs:List Nat}(hw:Γ2.w=Γ1.w)(hF:∀b z,Γ1.F b z->Γ2.F b z\/z∈bs)
include hw hF
mutual
theorem oC:∀(l:ab) (y:Value),bC l=true->(bs=[]\/fW bs l=true)->aB Γ1 l y->aB Γ2 l y
 | .v x,y,_,_,hc=>by simpa[aB]using hc
 | .aj rows,y,h,hn,hc=>by
  simp only[bC]at h
  simp only[aB]at hc|-
  rcases hc with hc|⟨a,cap,e,g,j,c⟩
  .exact .inl hc
  .refine .inr ⟨a,cap,e,g,j,?_⟩
   rcases c with c|⟨c,m,n⟩
   .exact .inl c
   .rcases xS a.block e a.off rows h (hn.imp id fun h=>by simpa[fW]using h) m n with d|d
    .exact .inl d
    .exact .inr ⟨c,d⟩
 | .eU rows,y,h,hn,hc=>by
  simp only[bC]at h
  simp only[aB]at hc|-
  have⟨a,cap,e,g,j,c⟩:=hc
  refine⟨a,cap,e,g,j,?_⟩
  rcases c with c|⟨c,m,n⟩
  .exact .inl c
  .rcases xS a.block e a.off rows h (hn.imp id fun h=>by simpa[fW]using h) m n with d|d
   .exact .inl d
   .exact .inr ⟨c,d⟩
 | .ptr _ _ _ _,y,h,_,_=>by simp[bC]at h
 | .sl _ _ _ _,y,h,_,_=>by simp[bC]at h
 | .mr _,y,h,_,_=>by simp[bC]at h
 | .mG _,y,h,_,_=>by simp[bC]at h
 | .aJ rows i k,y,h,hn,hc=>by
  simp only[bC]at h
  simp only[aB]at hc|-
  have⟨b,o,e,g,j,c⟩:=hc
  rcases hn with hn|hn
  .rcases xS b e o rows h (.inl hn) j c with d|d
   .subst d
    refine⟨b,o,e,g,(hF b e j).resolve_right (by simp[hn]),by simp[bE]⟩
   .exact ⟨b,o,e,g,d.1,d.2⟩
  .simp[fW]at hn
 | .bF f p,y,h,hn,hc=>by
  simp only[bC]at h
  simp only[aB]at hc|-
  have⟨q,g,j⟩:=hc
  rcases hn with hn|hn
  .exact ⟨q,g,IG p _ h (.inl hn) j⟩
  .simp[fW]at hn
 | .ig t l,y,h,hn,hc=>by
  simp only[bC]at h
  simp only[aB]at hc|-
  have⟨z,g,j⟩:=hc
  rcases hn with hn|hn
  .exact ⟨z,g,oC l z h (.inl hn) j⟩
  .simp[fW]at hn
theorem xS(b a:Nat):∀(off:Nat) (rows:List (List ab)),bA rows=true->(bs=[]\/gZ bs rows=true)->Γ1.F b a->bE Γ1 b a off rows->rows=[]\/(Γ2.F b a/\bE Γ2 b a off rows)
 |_,[],_,_,_,_=> .inl rfl
 |off,r::d,h,hn,e,hc=>by
  right
  simp only[bA,abR]at h
  simp only[bE]at hc|-
  have f:Γ2.F b a:=by
   refine(hF b a e).resolve_right fun hm=>?_
   rcases hn with hn|hn
   .rw[hn]at hm;simp at hm
   .simp only[gZ,abR,afa]at hn
    have:=hn.1.1
    rw[hc.1]at this
    simp[hm]at this
  have g:bs=[]\/cW bs r=true:=hn.imp id fun h=>by simp only[gZ,abR]at h;exact h.1.2
  have i:bs=[]\/gZ bs d=true:=hn.imp id fun h=>by simp only[gZ,abR]at h;exact h.2
  refine⟨f,hc.1,Ap b off r h.1 g hc.2.1,?_⟩
  rcases xS b a (off+a) d h.2 i e hc.2.2 with c|c
  .subst c;simp[bE]
  .exact c.2
theorem Ap(b:Nat):∀(off:Nat) (r:List ab),cy r=true->(bs=[]\/cW bs r=true)->cR Γ1 b off r->cR Γ2 b off r
 |_,[],_,_,_=>by simp[cR]
 |off,l::a,h,hn,hc=>by
  simp only[cy,abR]at h
  simp only[cR]at hc|-
  have⟨⟨y,c,d⟩,e⟩:=hc
  have f:bs=[]\/fW bs l=true:=hn.imp id fun h=>by simp only[cW,abR]at h;exact h.1
  have g:bs=[]\/cW bs a=true:=hn.imp id fun h=>by simp only[cW,abR]at h;exact h.2
  exact⟨⟨y,by rw[hw];exact c,oC l y h.1 f d⟩,Ap b _ a h.2 g e⟩
theorem IG:∀(a:List ab) (b:List Value),cy a=true->(bs=[]\/cW bs a=true)->aY Γ1 a b->aY Γ2 a b
 |[],b,_,_,hc=>by simpa[aY]using hc
 |l::a,b,h,hn,hc=>by
  simp only[cy,abR]at h
  simp only[aY]at hc|-
  have⟨y,c,d,e,f⟩:=hc
  have g:bs=[]\/fW bs l=true:=hn.imp id fun h=>by simp only[cW,abR]at h;exact h.1
  have i:bs=[]\/cW bs a=true:=hn.imp id fun h=>by simp only[cW,abR]at h;exact h.2
  exact⟨y,c,d,oC l y h.1 g e,IG a c h.2 i f⟩
end
end
def l8(Γ1 Γ2:az)(bs0 bs:List Nat)(g:ab->Option (ab×List Nat)):Prop:=
 ∀l a b,g l=some (a,b)->(∀z∈b,z∈bs)->(bs0=[]\/fW bs0 a=true)->∀y,aB Γ1 l y->aB Γ2 a y
section
variable{Γ1 Γ2:az}{bs0 bs:List Nat}{g:ab->Option (ab×List Nat)}
theorem l8.all(k:l8 Γ1 Γ2 bs0 bs g):∀(d c:List ab) (e:List Nat),eX g d=some (c,e)->(∀z∈e,z∈bs)->(bs0=[]\/cW bs0 c=true)->∀f,aY Γ1 d f->aY Γ2 c f
 |[],c,e,h,i,hn,f,hc=>by
  simp only[eX,ab1,aca]at h
  obtain⟨rfl,rfl⟩:=h
  simpa[aY]using hc
 |l::d,c,e,h,i,hn,f,hc=>by
  simp only[eX]at h
  split at h
  .rename_i a x b y n o
   cases h
   simp only[aY]at hc|-
   obtain⟨v,m,rfl,p,q⟩:=hc
   refine⟨v,m,rfl,k l a x n (fun z j=>i z (by simp[j])) (hn.imp id fun h=>by simp only[cW,abR]at h;exact h.1) v p,
    l8.all k d b y o (fun z j=>i z (by simp[j])) (hn.imp id fun h=>by simp only[cW,abR]at h;exact h.2) m q⟩
  .cases h
theorem l8.row(hw:Γ2.w=Γ1.w)(k:l8 Γ1 Γ2 bs0 bs g)(b:Nat):∀(d c:List ab) (f:List Nat) (e:Nat),eX g d=some (c,f)->(∀z∈f,z∈bs)->(bs0=[]\/cW bs0 c=true)->cR Γ1 b e d->cR Γ2 b e c/\c.length=d.length
 |[],c,f,e,h,i,hn,hc=>by
  simp only[eX,ab1,aca]at h
  obtain⟨rfl,rfl⟩:=h
  simp[cR]
 |l::d,c,f,e,h,i,hn,hc=>by
  simp only[eX]at h
  split at h
  .rename_i a x m y n o
   cases h
   simp only[cR]at hc|-
   have⟨⟨v,p,q⟩,r⟩:=hc
   have:=l8.row hw k b d m y (e+1) o (fun z j=>i z (by simp[j])) (hn.imp id fun h=>by simp only[cW,abR]at h;exact h.2) r
   exact⟨⟨⟨v,by rw[hw];exact p,k l a x n (fun z j=>i z (by simp[j])) (hn.imp id fun h=>by simp only[cW,abR]at h;exact h.1) v q⟩,this.1⟩,by simp[this.2]⟩
  .cases h
theorem l8.Pm(hw:Γ2.w=Γ1.w)(l:l8 Γ1 Γ2 bs0 bs g)(b f:Nat):∀(e c:List (List ab)) (i:List Nat) (d:Nat),jR g e=some (c,i)->(∀z∈i,z∈bs)->(bs0=[]\/gZ bs0 c=true)->bE Γ1 b f d e->bE Γ2 b f d c/\c.length=e.length
 |[],c,i,d,h,j,hn,hc=>by
  simp only[jR,ab1,aca]at h
  obtain⟨rfl,rfl⟩:=h
  simp[bE]
 |r::e,c,i,d,h,j,hn,hc=>by
  simp only[jR]at h
  split at h
  .rename_i a x m y n o
   cases h
   simp only[bE]at hc|-
   have⟨p,s,t⟩:=hc
   have q:=l8.row hw l b r a x d n (fun z k=>j z (by simp[k])) (hn.imp id fun h=>by simp only[gZ,abR]at h;exact h.1.2) s
   have:=l8.Pm hw l b f e m y (d+f) o (fun z k=>j z (by simp[k])) (hn.imp id fun h=>by simp only[gZ,abR]at h;exact h.2) t
   exact⟨⟨by rw[q.2];exact p,q.1,this.1⟩,by simp[this.2]⟩
  .cases h
end
section
variable{Γ1 Γ2:az}{bs0 bs:List Nat}{H:List Ob}(hw:Γ2.w=Γ1.w)(hok:aZ Γ1 H)(hF:∀b z,Γ1.F b z->Γ2.F b z\/z∈bs0)
 (hB:∀(h ver z:Nat) (rows:List (List ab)) (inf:fm) (b:Nat),H[h]?=some (.live ver z rows)->Γ1.hs[h]?=some (inf,ver)->inf.base=some b->z∈bs->Γ2.F b z)
include hw hok hF hB
theorem Ph{g:ab->Option (ab×List Nat)}(i:l8 Γ1 Γ2 bs0 bs g){b d c:Nat}(n:Γ2.F b d){a e:List (List ab)}{f:List Nat}(h:jb g a=some (e,f))(j:∀z∈f,z∈bs)(hn:bs0=[]\/gZ bs0 e=true)
  (hc:bE Γ1 b d c a):bE Γ2 b d c e/\e.length=a.length:=by
 unfold jb at h
 split at h
 .rename_i k
  cases h
  refine⟨?_,rfl⟩
  have l:∀(a:List (List ab)) (c:Nat),bA a=true->(bs0=[]\/gZ bs0 a=true)->bE Γ1 b d c a->bE Γ2 b d c a:=by
   intro a
   induction a with
   |nil=>intro c _ _ _;simp[bE]
   |cons r a m=>
    intro c h hn hc
    simp only[bA,abR]at h
    simp only[bE]at hc|-
    exact⟨hc.1,Ap hw hF b c r h.1 (hn.imp id fun h=>by simp only[gZ,abR]at h;exact h.1.2) hc.2.1,
     m (c+d) h.2 (hn.imp id fun h=>by simp only[gZ,abR]at h;exact h.2) hc.2.2⟩
  exact l a c k hn hc
 .exact l8.Pm hw i b d a e f c h j hn hc
theorem yB:∀n,l8 Γ1 Γ2 bs0 bs (bU H n)
 |0=>fun l C D h=>by simp[bU]at h
 |n+1=>fun l C D h f hn y hc=>by
  have r:=yB n
  simp only[bU]at h
  split at h
  .rename_i E
   cases h
   exact oC hw hF l y E hn hc
  .split at h
   .rename_i s ver g len v
    split at h
    .rename_i z t rows c j
     split at h
     .rename_i w x a
      cases h
      have X:=j
      simp only[view,c]at j
      split at j
      .rename_i Y
       cases j
       have⟨inf,k,F,d⟩:=hok.obj c
       simp only[aB]at hc
       obtain⟨G,Z,aa,cap,c1,c2,rfl,c3⟩:=hc
       rw[k]at c1
       cases c1
       have e:z∈bs:=f z (by simp)
       have u:((t.drop g).take len).length=len:=by simp;omega
       rcases c3 rfl with⟨d1,rfl,rfl,rfl,rfl⟩|⟨b,I,d1,rfl,rfl,d2,d3⟩
       .simp only[d1]at d
        subst d
        simp only[List.drop_nil,List.take_nil]at a
        have:w=[]:=by
         unfold jb at a
         simp[bA]at a
         exact a.1
        subst this
        simp only[aB]
        exact .inl (by simp)
       .simp only[d1]at d
        have⟨m,J,K,L,M,cells,T,N,O,o⟩:=d
        have p:=hB s ver z t inf b (eP c) k d1 e
        have P:bE Γ1 b z (inf.off+g*z) ((t.drop g).take len):=by
         rw[m]at o
         exact kJ (ml o g) len
        have q:=Ph hw hok hF hB r p a (fun z e=>f z (by simp[e])) (hn.imp id fun h=>by simpa[fW]using h) P
        simp only[aB]
        refine .inr ⟨I,inf.cap-g,z,by rw[q.2,u],by rw[q.2,u];omega,?_⟩
        by_cases Q:len=0
        .left
         exact ae4 (by rw[q.2,u,Q])
        .right
         have:=d3 (by omega)
         subst this
         refine⟨rfl,p,?_⟩
         rw[m]
         exact q.1
      .cases j
     .cases h
    .cases h
   .rename_i s ver i ab v
    split at h
    .rename_i z rows c
     split at h
     .rename_i w x a
      cases h
      have⟨inf,k,F,d⟩:=hok.obj c
      obtain⟨G,b,A,B,rfl⟩:=wI hok hc c
      rw[k]at A
      cases A
      simp only[B]at d
      have⟨m,J,K,L,M,cells,T,N,O,o⟩:=d
      have e:z∈bs:=f z (by simp)
      have p:=hB s ver z rows inf b (eP c) k B e
      rw[m]at o
      rcases hn with hn|hn
      .have q:=Ph hw hok hF hB r p a (fun z e=>f z (by simp[e])) (.inl hn) o
       simp only[aB]
       exact⟨b,inf.off,z,by rw[m],p,q.1⟩
      .simp[fW]at hn
     .cases h
    .cases h
   .rename_i ad R v
    split at h
    .rename_i S x a
     cases h
     simp only[aB]at hc|-
     have⟨U,V,W⟩:=hc
     rcases hn with hn|hn
     .exact ⟨U,V,l8.all r R S _ a f (.inl hn) _ W⟩
     .simp[fW]at hn
    .cases h
   .cases h
theorem TB{v b:aw}{c:List Nat}(h:df H v=some (b,c))(d:∀z∈c,z∈bs)(e:bs0=[]){y:Value}(hc:aL Γ1 v y):aL Γ2 b y:=by
 unfold df at h;split at h
 .split at h
  .rename_i k f a;cases h;simp only[aL]at hc|-;exact yB hw hok hF hB 6 _ _ _ a d (.inl e) y hc
  .cases h
 .split at h
  .rename_i l f a;cases h;simp only[aL]at hc|-;have⟨g,i,j⟩:=hc;exact⟨g,i,E3 (l8.all (yB hw hok hF hB 6) _ _ _ a d (.inl e) _ j)⟩
  .cases h
 .cases h
theorem It:∀(c d:List aw) (e:List Nat),dy H c=some (d,e)->(∀z∈e,z∈bs)->bs0=[]->∀f,bT Γ1 c f->bT Γ2 d f
 |[],d,e,h,g,i,f,hc=>by
  simp only[dy,ab1,aca]at h
  obtain⟨rfl,rfl⟩:=h
  simpa[bT]using hc
 |v::c,d,e,h,g,i,f,hc=>by
  simp only[dy]at h
  split at h
  .rename_i a x b y l m
   cases h
   simp only[bT]at hc|-
   obtain⟨u,k,rfl,n,o⟩:=hc
   exact⟨u,k,rfl,TB hw hok hF hB l (fun z j=>g z (by simp[j])) i n,It c b y m (fun z j=>g z (by simp[j])) i k o⟩
  .cases h
end
end Go.Nx
namespace Go.Nx
def af2(H:List Ob)(s:Nat×Nat)(o:Ob):Prop:= ∃b len z a,o= .live 0 z ((a.drop s.2).take len)/\obj H s.1 b=some (z,a)/\s.2+len<=a.length/\bA ((a.drop s.2).take len)=true
structure oL(H:List Ob)(sel:List (Nat×Nat))(p:List Nat×List Ob):Prop where
 len:p.2.length=sel.length
 at_:∀(k:Nat) (o:Ob),p.2[k]?=some o->∃s,sel[k]?=some s/\af2 H s o
 used:∀h,h∈p.1↔h∈sel.map (·.1)
 nodup:(sel.map (·.1)).Nodup
def tK(c:Bool)(H:List Ob)(f:List (Nat×Nat))(l a:ab):Prop:=
 (bC l=true/\a=l)\/(c=true/\∃g,bU H 7 l=some (a,g))\/
 (c=false/\∃h d b len k z e,l= .sl h d b len/\a= .sl k 0 0 len/\f[k]?=some (h,b)/\obj H h d=some (z,e)/\b+len<=e.length)
def tK.mono{a:Bool}{H:List Ob}{b e:List (Nat×Nat)}{l c:ab}(h:tK a H b l c):tK a H (b++e) l c:=by
 rcases h with h|h|⟨f,h,g,i,len,k,z,j,m,n,d,o,p⟩
 .exact .inl h
 .exact .inr (.inl h)
 .refine .inr (.inr ⟨f,h,g,i,len,k,z,j,m,n,?_,o,p⟩);rw[abE (abW.1 d).1];exact d
def rU(b:Bool)(H:List Ob)(c:List (Nat×Nat)):List ab->List ab->Prop
 |[],a=>a=[]
 |l::f,a=>∃d e,a=d::e/\tK b H c l d/\rU b H c f e
def rU.mono{c:Bool}{H:List Ob}{d e:List (Nat×Nat)}:∀ {b a:List ab},rU c H d b a->rU c H (d++e) b a
 |[],a,h=>h
 |l::b,a,h=>by
  obtain⟨f,g,rfl,i,j⟩:=h
  exact⟨f,g,rfl,i.mono,rU.mono j⟩
def uQ(a:Bool)(H:List Ob)(b:List (Nat×Nat))(v d:aw):Prop:=
 (∃l e,v= .c l/\d= .c e/\tK a H b l e)\/(∃f g,v= .agg f/\d= .agg g/\rU a H b f g)
def uQ.mono{e:Bool}{H:List Ob}{f i:List (Nat×Nat)}{v g:aw}(h:uQ e H f v g):uQ e H (f++i) v g:=by
 rcases h with⟨l,a,b,c,d⟩|⟨l,a,b,c,d⟩
 .exact .inl ⟨l,a,b,c,d.mono⟩
 .exact .inr ⟨l,a,b,c,d.mono⟩
def JR(b:Bool)(H:List Ob)(c:List (Nat×Nat)):List aw->List aw->Prop
 |[],a=>a=[]
 |v::f,a=>∃d e,a=d::e/\uQ b H c v d/\JR b H c f e
def O9(a:Bool)(H:List Ob)(b:List (Nat×Nat))(v c:aw):Prop:=
 uQ a H b v c\/∃d e,v= .aM d/\c= .aM e/\JR a H b d e
def NI{v:Bool}{H:List Ob}{m:List (Nat×Nat)}{p w:List Nat×List Ob}{l x:ab}(hp:oL H m p)(h:fh v H p l=some (x,w)):∃y,oL H (m++y) w/\tK v H (m++y) l x:=by
 unfold fh at h;split at h
 .rename_i E;cases h;exact⟨[],by simpa using hp,.inl ⟨E,rfl⟩⟩
 .rename_i F;split at h
  .rename_i g q c len;split at h
   .rename_i z r rows i d;have G:=d;simp only[view,i]at d;split at d
    .rename_i A;cases d;split at h
     .rename_i t;split at h
      .rename_i B u I;cases h;refine⟨[],by simpa using hp,.inr (.inl ⟨t,z::u,?_⟩)⟩;have e:∀n,jb (bU H n) ((r.drop c).take len)=some (B,u)->bU H (n+1) (.sl g q c len)=some (.aj B,z::u):=fun n hn=>by rw[bU,if_neg F];simp only[i,G,hn]
       exact e 6 I
      .cases h
     .rename_i t;split at h
      .rename_i hc;cases h;simp only[abR,afa]at hc;refine⟨[(g,c)],⟨by simp[hp.len],fun k o f=>?_,fun h=>?_,?_⟩,?_⟩
       .by_cases C:k<p.2.length
        .rw[abE C]at f;have⟨s,J,j⟩:=hp.at_ k o f;exact⟨s,by rw[abE (by rw[<-hp.len];exact C)];exact J,j⟩
        .have K:k=p.2.length:=by have:=(abW.1 f).1;simp at this;omega
         subst K;simp at f;subst f;exact⟨(g,c),by rw[hp.len];simp,q,len,z,r,rfl,i,A,hc.1⟩
       .simp only[aeM,aid,ag9,aiU,ain,aiV,or_false];rw[hp.used h];exact Or.comm
       .rw[aid,ak9];refine⟨hp.nodup,by simp,fun a L b D=>?_⟩;simp at D;subst D;intro e;subst e;have:=(hp.used a).2 L;have j:=hc.2;rw[List.contains_eq_mem]at j;simp[this]at j
       .refine .inr (.inr ⟨by simpa using t,g,q,c,len,p.2.length,z,r,rfl,rfl,?_,i,A⟩);rw[hp.len];simp
      .cases h
    .cases d
   .cases h
  .cases h
def Sj{e:Bool}{H:List Ob}:∀ {d b:List ab} {a:List (Nat×Nat)} {p c:List Nat×List Ob},oL H a p->qk e H p d=some (b,c)->∃f,oL H (a++f) c/\rU e H (a++f) d b
 |[],b,a,p,c,hp,h=>by
  simp only[qk,ab1,aca]at h
  obtain⟨rfl,rfl⟩:=h
  exact⟨[],by simpa using hp,rfl⟩
 |l::d,b,a,p,c,hp,h=>by
  simp only[qk]at h
  split at h
  .rename_i g t i
   split at h
   .rename_i j u k
    cases h
    have⟨m,n,o⟩:=NI hp i
    have⟨q,r,s⟩:=Sj n k
    exact⟨m++q,by rw[<-aiu];exact r,g,j,rfl,by rw[<-aiu];exact o.mono,by rw[<-aiu];exact s⟩
   .cases h
  .cases h
def OX{f:Bool}{H:List Ob}{v g:aw}{a:List (Nat×Nat)}{p i:List Nat×List Ob}(hp:oL H a p)(h:uo f H p v=some (g,i)):∃j,oL H (a++j) i/\uQ f H (a++j) v g:=by
 unfold uo at h;split at h
 .split at h
  .rename_i k l b;cases h;have⟨c,d,e⟩:=NI hp b;exact⟨c,d,.inl ⟨_,_,rfl,rfl,e⟩⟩
  .cases h
 .split at h
  .rename_i k l b;cases h;have⟨c,d,e⟩:=Sj hp b;exact⟨c,d,.inr ⟨_,_,rfl,rfl,e⟩⟩
  .cases h
 .cases h
def Qq{e:Bool}{H:List Ob}:∀ {d b:List aw} {a:List (Nat×Nat)} {p c:List Nat×List Ob},oL H a p->outs e H p d=some (b,c)->∃f,oL H (a++f) c/\JR e H (a++f) d b
 |[],b,a,p,c,hp,h=>by
  simp only[outs,ab1,aca]at h
  obtain⟨rfl,rfl⟩:=h
  exact⟨[],by simpa using hp,rfl⟩
 |v::d,b,a,p,c,hp,h=>by
  simp only[outs]at h
  split at h
  .rename_i g s i
   split at h
   .rename_i j t k
    cases h
    have⟨l,m,n⟩:=OX hp i
    have⟨o,q,r⟩:=Qq m k
    exact⟨l++o,by rw[<-aiu];exact q,g,j,rfl,by rw[<-aiu];exact n.mono,by rw[<-aiu];exact r⟩
   .cases h
  .cases h
def Y4{e:Bool}{H:List Ob}{v f:aw}{own:List Ob}(h:dI e H v=some (f,own)):∃g a,oL H g (a,own)/\O9 e H g v f:=by
 have i:oL H [] ([],[]):=⟨rfl,fun k o j=>by simp at j,fun h=>by simp,by simp⟩;unfold dI at h;split at h
 .split at h
  .rename_i l a m b;cases h;have⟨s,c,d⟩:=Qq i b;exact⟨_,_,c,.inr ⟨_,_,rfl,rfl,d⟩⟩
  .cases h
 .split at h
  .rename_i l a m b;cases h;have⟨s,c,d⟩:=OX i b;exact⟨_,_,c,.inl d⟩
  .cases h
end Go.Nx
