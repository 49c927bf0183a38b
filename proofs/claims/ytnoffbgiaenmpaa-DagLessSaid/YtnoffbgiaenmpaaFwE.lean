/- Rules of the walk. -/
import Derived.Test.YtnoffbgiaenmpaaFwD
import Derived.Shelf.Sort.Plain
import Derived.Shelf.Slices.In.SortNone
import Derived.Shelf.Slices.CompactI
import Derived.Shelf.Slices.Cells
import Derived.Shelf.Slices.Reverse
/- The library's sort, and what drops repeats, at integers of the call's own. -/
namespace Go.Nx
open Go.Sort Go.Shelf
set_option linter.unusedVariables false
set_option linter.unusedSimpArgs false

instance fix_rv {h ver : Nat} : Fix (rvL h ver) := ⟨fun _ _ => rfl, fun _ => rfl, fun _ => rfl⟩
instance okp_rv {h ver : Nat} : Okp (rvK h ver) := ⟨fun _ _ => rfl, fun _ => rfl, fun _ => rfl⟩

theorem gAnd {a b : Bool} (h : a = true) (h' : b = true) : (a && b) = true := by rw [h, h']; rfl
theorem TextR.dcallG {P : Program} {N : Nat} {Γ0 : Ctx} {A os : List Oper} {e : Env} {H : List Ob} {ty : TypeId} {pos : String} {after : Array Edge} {guard : Option (Nat × Bool)} {K : Env → List Ob → Prop} {d : Option Nat} {f : Operand} {args : Array Operand} {ts : Array TypeId} {c : FuncId} {caps : List Leaf} {fs : List AVal} {x : AVal} (hg : wantE A e guard = some true)
    (hf : evO e f = some (.c (.clo c caps))) (has : allV (args.toList.map (evO e)) = some fs) (hc : DCall P c (fs ++ caps.map .c) H x) (hr : TextR P N Γ0 A os (putE e d x) H K) : TextR P N Γ0 A (⟨d, .call { callee := .value f, args := args, argTypes := ts }, ty, pos, after, guard⟩ :: os) e H K :=
  .callG hg hf has hc (by rintro _ _ ⟨rfl, rfl⟩; exact hr)
theorem rv_self {α : Type} {E : α → List Leaf} {h ver : Nat} (hp : ∀ x, (E x).all (rvK h ver) = true) (hf : ∀ x, (E x).map (rvL h ver) = E x) (xs : List α) : ∀ r ∈ xs.map E, r.all (rvK h ver) = true ∧ r.map (rvL h ver) = r := by
  intro r hr
  obtain ⟨x, _, rfl⟩ := List.mem_map.1 hr
  exact ⟨hp x, hf x⟩
def ins (x : Int) : List Int → List Int
  | [] => [x]
  | y :: ys => if x ≤ y then x :: y :: ys else y :: ins x ys
def isort : List Int → List Int
  | [] => []
  | x :: xs => ins x (isort xs)
theorem ins_perm (x : Int) : ∀ l, (ins x l).Perm (x :: l)
  | [] => .refl _
  | y :: ys => by
    unfold ins
    split
    · exact .refl _
    · exact ((ins_perm x ys).cons y).trans (.swap x y ys)
theorem isort_perm : ∀ l, (isort l).Perm l
  | [] => .refl _
  | x :: xs => (ins_perm x _).trans ((isort_perm xs).cons x)
theorem ins_sorted (x : Int) : ∀ {l : List Int}, l.Pairwise (· ≤ ·) → (ins x l).Pairwise (· ≤ ·)
  | [], _ => by simp [ins]
  | y :: ys, h => by
    rw [List.pairwise_cons] at h
    unfold ins
    split
    · rename_i hxy
      rw [List.pairwise_cons, List.pairwise_cons]
      exact ⟨fun z hz => by
        rcases List.mem_cons.1 hz with rfl | hz
        · exact hxy
        · exact Int.le_trans hxy (h.1 z hz), h⟩
    · rename_i hxy
      rw [List.pairwise_cons]
      refine ⟨fun z hz => ?_, ins_sorted x h.2⟩
      rcases List.mem_cons.1 ((ins_perm x ys).mem_iff.1 hz) with rfl | hz
      · omega
      · exact h.1 z hz
theorem isort_sorted : ∀ l, (isort l).Pairwise (· ≤ ·)
  | [] => .nil
  | x :: xs => ins_sorted x (isort_sorted xs)
theorem length_isort (l : List Int) : (isort l).length = l.length := (isort_perm l).length_eq
theorem isort_eq (l : List Int) : (l.mergeSort fun x y => decide (x ≤ y)) = isort l := by
  refine List.Perm.eq_of_pairwise (le := (· ≤ ·)) (fun a b _ _ h1 h2 => Int.le_antisymm h1 h2) ?_ (isort_sorted l) ((List.mergeSort_perm l _).trans (isort_perm l).symm)
  have := List.pairwise_mergeSort (le := fun x y : Int => decide (x ≤ y)) (fun a b c h1 h2 => by simp at *; omega) (fun a b => by simp; omega) l
  simpa using this

def dedG (p : Int) : List Int → List Int
  | [] => []
  | y :: ys => if y = p then dedG y ys else y :: dedG y ys
def dedup : List Int → List Int
  | [] => []
  | x :: xs => x :: dedG x xs
theorem dedG_snoc (y : Int) : ∀ (p : Int) (l : List Int), dedG p (l ++ [y]) = dedG p l ++ (if y = l.getLast?.getD p then [] else [y])
  | p, [] => by
    simp only [List.nil_append, dedG, List.getLast?_nil, Option.getD_none]
    by_cases h : y = p <;> simp [h]
  | p, z :: l => by
    have hl : (z :: l).getLast?.getD p = l.getLast?.getD z := by
      cases l with
      | nil => rfl
      | cons a l => simp [List.getLast?_cons_cons, List.getLast?_cons]
    rw [hl, List.cons_append]
    unfold dedG
    split
    · exact dedG_snoc y z l
    · rw [dedG_snoc y z l]; rfl
theorem dedup_snoc (y : Int) : ∀ l : List Int, dedup (l ++ [y]) = dedup l ++ (if l.getLast? = some y then [] else [y])
  | [] => by simp [dedup, dedG]
  | x :: xs => by
    have hl : (x :: xs).getLast? = some (xs.getLast?.getD x) := by
      cases xs with
      | nil => rfl
      | cons a l => simp [List.getLast?_cons_cons, List.getLast?_cons]
    rw [hl, List.cons_append, dedup, dedup, dedG_snoc]
    simp [eq_comm]
theorem dedup_take (zs : List Int) : ∀ m, m ≤ zs.length → Lib.compactUpTo zs.toArray m = dedup (zs.take m)
  | 0, _ => by simp [Lib.compactUpTo, dedup]
  | m + 1, hm => by
    have ih := dedup_take zs m (by omega)
    have hz : zs.take (m + 1) = zs.take m ++ [zs[m]] := by simp
    rw [hz, dedup_snoc, ← ih]
    have h1 : Lib.compactUpTo zs.toArray (m + 1) = Lib.compactUpTo zs.toArray m ++ (if Lib.keeps zs.toArray m then [zs.toArray[m]!] else []) := by
      unfold Lib.compactUpTo
      rw [List.range_succ, List.filter_append, List.map_append]
      congr 1
      by_cases hk : Lib.keeps zs.toArray m = true <;> simp [hk]
    rw [h1]
    congr 1
    have hg : zs.toArray[m]! = zs[m] := by simp [show m < zs.length by omega]
    rcases Nat.eq_zero_or_pos m with rfl | h0
    · simp [Lib.keeps, show 0 < zs.length by omega]
    · have hgl : (zs.take m).getLast? = some zs[m - 1] := by
        rw [List.getLast?_eq_getElem?, List.length_take, Nat.min_eq_left (by omega), List.getElem?_take_of_lt (by omega), List.getElem?_eq_getElem (by omega)]
      have hg1 : zs.toArray[m - 1]! = zs[m - 1] := by simp [show m - 1 < zs.length by omega]
      rw [hgl, hg]
      by_cases he : zs[m] = zs[m - 1]
      · rw [Lib.keeps_neg h0 (by rw [hg, hg1]; exact he)]
        simp [he]
      · rw [Lib.keeps_pos (by rw [hg, hg1]; exact he)]
        simp [fun h => he (Eq.symm h), Ne.symm he]
theorem dedup_eq (zs : List Int) : Lib.compact zs = dedup zs := by
  have := dedup_take zs zs.length (Nat.le_refl _)
  rwa [List.take_length] at this
theorem dedup_le (zs : List Int) : (dedup zs).length ≤ zs.length := by
  rw [← dedup_eq]
  exact Lib.compact_length_le zs

def sort? (l : List Int) : Option (List Int) := if l.length ≤ 10000000000 then some (isort l) else none
def ded? (l : List Int) : Option (List Int) := if l.length ≤ 10000000000 then some (dedup l) else none
def rev? {α : Type} (l : List α) : Option (List α) := if l.length ≤ 10000000000 then some l.reverse else none
theorem length_sort {l r : List Int} (h : sort? l = some r) : r.length = l.length := by
  unfold sort? at h
  split at h
  · cases h; exact length_isort l
  · cases h
theorem length_rev {α : Type} {l r : List α} (h : rev? l = some r) : r.length = l.length := by
  unfold rev? at h
  split at h
  · cases h; simp
  · cases h

theorem Call.narrow {P : Program} {f : FuncId} {args : List AVal} {H H1 H2 : List Ob} {h ver z m : Nat} {rows rows' : List (List Leaf)} (hc : Nx.Call P f args H fun r' H' => r' = .c (.sl h ver 0 m) ∧ H' = H1) (ho : obj H1 h ver = some (z, rows)) (hle : m ≤ rows.length) (hrows : rows.take m = rows') (hs : H1.set h (.live (ver + 1) z rows') = H2) :
    Nx.Call P f args H fun r' H' => r' = .c (.sl h (ver + 1) 0 m) ∧ H' = H2 := by
  subst hs
  refine ⟨hc.1, fun Γ hok args' ha => (hc.2 Γ hok args' ha).mono fun e w' ⟨y, r, Γ', H', he, ⟨hr, hH⟩, hw, hE, hok', hcv⟩ => ?_⟩
  subst hr hH
  obtain ⟨Γ2, k1, k2, k3, k4⟩ := narrow_ctx hok' (lo := 0) (by simpa only [concV] using hcv) ho (by omega) (by simpa using hrows)
  exact ⟨y, _, Γ2, _, he, ⟨rfl, rfl⟩, by rw [k1, hw], hE.trans k2, k3, by simpa only [concV] using k4⟩

section
variable {P : Program} {ρ : Ren} {f : FuncId} {H H1 : List Ob} {h ver : Nat} {xs ys : List Int}
theorem call_sort (L : Go.Proofs.Lays.n189 P ρ) (hf : ρ.f 189 = f) (hent : enters P f = true) (hx : sort? xs = some ys) (ho : H[h]? = some (.live ver 1 (xs.map rI))) (hs : SetAt (.live ver 1 (ys.map rI)) H h H1) :
    Nx.Call P f [.c (.sl h ver 0 xs.length)] H fun r' H' => r' = .tup [] ∧ H' = H1 := by
  subst hf
  have hl := length_sort hx
  unfold sort? at hx
  split at hx
  case isFalse => cases hx
  rename_i hb
  cases hx
  refine Call.turns hent ho hl hs.eq (fun _ blk off cap w hH hblk _ => ?_) (fun _ p cap w => Go.Proofs.Any.slices_Sort_int_none L p cap w)
  have := Go.Proofs.Any.slices_Sort_int L blk off cap xs w hH hblk (by omega)
  rwa [isort_eq] at this
theorem call_rev (L : Go.Proofs.Lays.n112 P ρ) (hf : ρ.f 112 = f) (hent : enters P f = true) (hx : rev? xs = some ys) (ho : H[h]? = some (.live ver 1 (xs.map rI))) (hs : SetAt (.live ver 1 (ys.map rI)) H h H1) :
    Nx.Call P f [.c (.sl h ver 0 xs.length)] H fun r' H' => r' = .tup [] ∧ H' = H1 := by
  subst hf
  have hl := length_rev hx
  unfold rev? at hx
  split at hx
  case isFalse => cases hx
  rename_i hb
  cases hx
  refine Call.turns hent ho hl hs.eq (fun _ blk off cap w hH hblk _ => ?_) (fun _ p cap w => Go.Proofs.Any.slices_Reverse_int_empty L p cap w)
  refine (Go.Proofs.Any.slices_Reverse_int L blk off cap xs w hH (by omega)).mono fun e w' ⟨he, q, hw⟩ => ?_
  exact ⟨he, q, #[], by rw [hw, grow_empty]⟩
theorem call_ded (L : Go.Proofs.Lays2.n20 P ρ) (hf : ρ.f 20 = f) (hent : enters P f = true) (hx : ded? xs = some ys) (ho : H[h]? = some (.live ver 1 (xs.map rI))) (hs : SetAt (.live (ver + 1) 1 (ys.map rI)) H h H1) :
    Nx.Call P f [.c (.sl h ver 0 xs.length)] H fun r' H' => r' = .c (.sl h (ver + 1) 0 ys.length) ∧ H' = H1 := by
  subst hf
  unfold ded? at hx
  split at hx
  case isFalse => cases hx
  rename_i hb
  cases hx
  have hd := dedup_le xs
  have hlt : h < H.length := (List.getElem?_eq_some_iff.1 ho).1
  have hc := Call.turnsCut (P := P) (f := ρ.f 20) (xs := xs) (ys := dedup xs ++ List.replicate (xs.length - (dedup xs).length) 0) (m := (dedup xs).length) hent ho (by simp; omega) hd rfl (fun _ blk off cap w hH hblk hcap => by
    refine (Go.Proofs.Any.slices_Compact_int L blk off cap xs w hH (by omega) hcap).mono fun e w' ⟨he, q, hw⟩ => ?_
    rw [dedup_eq] at he hw
    exact ⟨he, q, #[], by rw [hw, grow_empty]⟩) (fun _ p cap w => by
    have := Go.Proofs.Any.slices_Compact_int_empty L p cap w
    exact this)
  refine Call.narrow (z := 1) (rows' := (dedup xs).map rI) hc (obj_of (by rw [List.getElem?_set_self hlt])) (by simp) ?_ (by rw [List.set_set]; exact hs.eq)
  rw [List.map_append, List.take_left' (by simp)]
end
end Go.Nx
/- A piece of code that may be left in any way; a callee that hands back an array of its own, while it reads arrays that are lent to it. -/
namespace Go.Nx
set_option linter.unusedVariables false
set_option linter.unusedSimpArgs false
section
variable {F : Fr} {Q : Exit → St → Prop} {S : St}
abbrev Exit.frG (I J : St → Prop) (X G : Nat → St → Prop) : Exit → St → Prop
  | .normal, S => I S
  | .ret, S => J S
  | .exit k, S => X k S
  | .goto l, S => G l S
  | _, _ => False
theorem Wp.fragG {c : Code} (I J : St → Prop) (X G : Nat → St → Prop) (h1 : Wp F c (Exit.frG I J X G) S) (h2 : ∀ S', I S' → Q .normal S') (h3 : ∀ S', J S' → Q .ret S') (h4 : ∀ k S', X k S' → Q (.exit k) S') (h5 : ∀ l S', G l S' → Q (.goto l) S') : Wp F c Q S :=
  .mono h1 fun e S' h => by cases e <;> first | exact h2 _ h | exact h3 _ h | exact h4 _ _ h | exact h5 _ _ h | exact h.elim
end

/-- Rows of plain numbers and the like. -/
def flR (rows : List (List Leaf)) : Bool := rows.all fun r => r.all fun | .v _ => true | _ => false
theorem concRow_fl {Γ Γ' : Ctx} (hw : Γ'.w = Γ.w) {b : Nat} : ∀ {off : Nat} {r : List Leaf}, (r.all fun | .v _ => true | _ => false) = true → concRow Γ b off r → concRow Γ' b off r
  | _, [], _, _ => by simp [concRow]
  | off, l :: ls, hf, h => by
    simp only [List.all_cons, Bool.and_eq_true] at hf
    simp only [concRow] at h ⊢
    obtain ⟨⟨y, h1, h2⟩, h3⟩ := h
    refine ⟨⟨y, by rw [hw]; exact h1, ?_⟩, concRow_fl hw hf.2 h3⟩
    cases l with
    | v x => simpa [conc] using h2
    | _ => simp at hf
theorem concRows_fl {Γ Γ' : Ctx} (hw : Γ'.w = Γ.w) {b sz : Nat} : ∀ {off : Nat} {rows : List (List Leaf)}, flR rows = true → concRows Γ b sz off rows → concRows Γ' b sz off rows
  | _, [], _, _ => by simp [concRows]
  | off, r :: rs, hf, h => by
    simp only [flR, List.all_cons, Bool.and_eq_true] at hf
    simp only [concRows] at h ⊢
    exact ⟨h.1, concRow_fl hw hf.1 h.2.1, concRows_fl hw (by simpa [flR] using hf.2) h.2.2⟩
theorem flR_map {α : Type} {f : α → List Leaf} (h : ∀ x, ((f x).all fun | .v _ => true | _ => false) = true) (xs : List α) : flR (xs.map f) = true := by
  simp only [flR, List.all_map, List.all_eq_true]
  intro x _
  exact h x

theorem DCall.borrowO {P : Program} {f : FuncId} {args fs : List AVal} {H : List Ob} {sz n : Nat} {rows : List (List Leaf)} (hb : mpVs (bwL H) args = fs) (ha : hfVs fs = true) (hr : flR rows = true) (hn : n = rows.length)
    (h : Nx.Call P f fs [] fun r' H' => r' = .c (.sl 0 0 0 n) ∧ ∃ junk, H' = [.live 0 sz rows] ++ junk) : DCall P f args H (.c (.slv rows)) := by
  subst hb
  subst hn
  refine ⟨h.1, fun Γ hok args' hc => ?_⟩
  let Fb : Nat → Prop := fun b => ∃ (h : Nat) (v z : Nat) (rows : List (List Leaf)) (inf : Info), H[h]? = some (.live v z rows) ∧ Γ.hs[h]? = some (inf, v) ∧ inf.base = some b
  have hFb : ∀ b, Fb b → b < Γ.w.heap.size := fun b ⟨h, v, z, rows, inf, h1, h2, h3⟩ => by
    obtain ⟨i2, g1, _, g2⟩ := hok.ob h _ h1
    rw [h2] at g1
    cases g1
    simp only [h3] at g2
    exact hok.X b g2.2.1
  let Γ0 : Ctx := { w := Γ.w, F := fun b => Γ.F b ∨ Fb b, X := fun _ => False, hs := Γ.hs }
  let Γ1 : Ctx := { w := Γ.w, F := fun b => Γ.F b ∨ Fb b, X := fun _ => False, hs := [] }
  have hle0 : Γ.Le Γ0 := ⟨fun b hb => .inl hb, fun _ _ => rfl, fun n i v hn => ⟨i, v, hn, Nat.le_refl _, fun _ => rfl⟩⟩
  have hg : ∀ l y, conc Γ l y → conc Γ0 (bwL H l) y := by
    intro l y hc
    cases l with
    | sl h ver lo len =>
      simp only [bwL]
      split
      · rename_i z rows ho
        split
        · rename_i hlen
          have hH := obj_some ho
          obtain ⟨inf, hi, hcap, hbase⟩ := hok.ob h _ hH
          simp only [conc] at hc ⊢
          obtain ⟨inf', v', a', cap, g1, g2, rfl, g3⟩ := hc
          rw [hi] at g1
          cases g1
          have hll : ((rows.drop lo).take len).length = len := by simp; omega
          rcases g3 rfl with ⟨e1, rfl, rfl, rfl, rfl⟩ | ⟨b, a'', e1, rfl, e2, e3, e4⟩
          · left
            simp
          · right
            simp only [e1] at hbase
            obtain ⟨b1, b2, b3, b4, b5, cells, T, b6, b7, b8⟩ := hbase
            refine ⟨a'', cap, inf.sz, by rw [hll], by rw [hll]; omega, ?_⟩
            by_cases hz : (rows.drop lo).take len = []
            · exact .inl hz
            · right
              have hpos : 0 < len := by
                rcases Nat.eq_zero_or_pos len with h0 | h0
                · subst h0; simp at hz
                · exact h0
              have hlt : lo < inf.cap := by omega
              have := e4 hlt
              subst this
              have hrt := concRows_take (concRows_drop b8 lo) len
              exact ⟨rfl, .inr ⟨h, ver, z, rows, inf, hH, hi, e1⟩, concRows_le (Γ := Γ) (Γ' := Γ0) rfl hle0 hrt⟩
        · exact conc_mono hle0 _ _ hc
      · exact conc_mono hle0 _ _ hc
    | ptr h ver i k =>
      simp only [bwL]
      split
      · rename_i z rows ho
        have hH := obj_some ho
        obtain ⟨inf, hi, hcap, hbase⟩ := hok.ob h _ hH
        simp only [conc] at hc ⊢
        obtain ⟨inf', v', p, g1, g2, rfl, g3⟩ := hc
        rw [hi] at g1
        cases g1
        obtain ⟨b, e1, rfl⟩ := g3 rfl
        simp only [e1] at hbase
        obtain ⟨b1, b2, b3, b4, b5, cells, T, b6, b7, b8⟩ := hbase
        exact ⟨b, inf.off, inf.sz, rfl, .inr ⟨h, ver, z, rows, inf, hH, hi, e1⟩, concRows_le (Γ := Γ) (Γ' := Γ0) rfl hle0 b8⟩
      · exact conc_mono hle0 _ _ hc
    | v x => exact conc_mono hle0 _ _ hc
    | slv r => exact conc_mono hle0 _ _ hc
    | slq r => exact conc_mono hle0 _ _ hc
    | fptr r i k => exact conc_mono hle0 _ _ hc
    | clo f cs => exact conc_mono hle0 _ _ hc
  have hc0 := concVs_mp hg _ _ hc
  have hc1 : concVs Γ1 (mpVs (bwL H) args) args'.toList := concVs_hf (Γ := Γ0) (Γ' := Γ1) rfl (fun _ h => h) _ _ ha hc0
  have hok1 : HeapOk Γ1 [] := ⟨rfl, fun h o hh => by simp at hh, fun h h' v v' z z' rows rows' inf inf' b h1 => by simp at h1, fun b hb => by
    rcases hb with hb | hb
    · exact hok.F b hb
    · exact hFb b hb, fun b hb => hb.elim⟩
  refine (h.2 Γ1 hok1 args' hc1).mono fun e w' he => ?_
  obtain ⟨y, r', Γ1', H', rfl, ⟨rfl, junk, rfl⟩, rfl, hext, hok', hcv⟩ := he
  have hold : ∀ b, b < Γ.w.heap.size → Γ1'.w.heap[b]? = Γ.w.heap[b]? := fun b hb => hext.frame b hb (fun h => h)
  obtain ⟨inf, hi, hcap, hbase⟩ := hok'.ob 0 _ rfl
  have hX0 : ∀ b, inf.base = some b → Γ.w.heap.size ≤ b ∧ b < Γ1'.w.heap.size := fun b hb => by
    simp only [hb] at hbase
    have hx := hbase.2.1
    rcases hext.Xnew b hx with h1 | h1
    · exact h1.elim
    · exact ⟨h1, hok'.X b hx⟩
  let Γ' : Ctx := { w := Γ1'.w, F := fun b => Γ.F b ∨ inf.base = some b, X := Γ.X, hs := Γ.hs }
  have hle : Γ.Le Γ' := ⟨fun b hb => .inl hb, fun b hb => hold b (hok.F b hb), fun n i v hn => ⟨i, v, hn, Nat.le_refl _, fun _ => rfl⟩⟩
  refine ⟨y, _, Γ', H, rfl, ⟨rfl, rfl⟩, rfl, ⟨hle, hext.os, hext.tape, hext.output, hext.size, fun b hb _ => hold b hb, fun b hb => ?_, fun b hb => .inl hb⟩, ⟨hok.len, fun h o ho => ?_, hok.apart, fun b hb => ?_, fun b hb => Nat.lt_of_lt_of_le (hok.X b hb) hext.size⟩, ?_⟩
  · rcases hb with hb | hb
    · exact .inl hb
    · exact .inr (.inr (hX0 b hb).1)
  · refine (hok.ob h o ho).keep hle (fun _ _ _ _ => rfl) (fun ver z rows inf' b _ _ _ hx hf => ⟨hold b (hok.X b hx), fun hf' => ?_, hx⟩)
    rcases hf' with hf' | hf'
    · exact hf hf'
    · have := (hX0 b hf').1
      have := hok.X b hx
      omega
  · rcases hb with hb | hb
    · exact Nat.lt_of_lt_of_le (hok.F b hb) hext.size
    · exact (hX0 b hb).2
  · simp only [concV, conc] at hcv ⊢
    obtain ⟨inf', v', a', cap, g1, g2, rfl, g3⟩ := hcv
    rw [hi] at g1
    cases g1
    rcases g3 rfl with ⟨e1, rfl, rfl, _, e2⟩ | ⟨b, a'', e1, rfl, e2, e3, e4⟩
    · left
      exact ⟨by rw [e2], List.eq_nil_of_length_eq_zero e2⟩
    · right
      simp only [e1] at hbase
      obtain ⟨b1, b2, b3, b4, b5, cells, T, b6, b7, b8⟩ := hbase
      refine ⟨a'', cap, inf.sz, rfl, by omega, ?_⟩
      by_cases hz : rows = []
      · exact .inl hz
      · right
        have hpos : 0 < rows.length := List.length_pos_iff.2 hz
        have := e4 (by omega)
        subst this
        refine ⟨rfl, .inr e1, ?_⟩
        have := concRows_fl (Γ := Γ1') (Γ' := Γ') rfl hr b8
        simpa using this
instance fix_bw {H : List Ob} : Fix (bwL H) := ⟨fun _ _ => rfl, fun _ => rfl, fun _ => rfl⟩

/-- Two heaps that are alike but at what may be turned. -/
inductive AgL (W : List Nat) : Nat → List Ob → List Ob → Prop
  | nil {i} : AgL W i [] []
  | same {i o H H'} (h : AgL W (i + 1) H H') : AgL W i (o :: H) (o :: H')
  | turn {i o o' H H'} (hw : W.contains i = true) (h : AgL W (i + 1) H H') : AgL W i (o :: H) (o' :: H')
  | more {i o' H'} (hw : W.contains i = true) (h : AgL W (i + 1) [] H') : AgL W i [] (o' :: H')
theorem AgL.at {W : List Nat} {i : Nat} {H H' : List Ob} (h : AgL W i H H') : ∀ k, W.contains (i + k) = false → H'[k]? = H[k]? := by
  induction h with
  | nil => intro k _; rfl
  | same h ih =>
    intro k hk
    cases k with
    | zero => rfl
    | succ k => simpa using ih k (by rw [Nat.add_assoc, Nat.add_comm 1 k]; exact hk)
  | turn hw h ih =>
    intro k hk
    cases k with
    | zero => rw [Nat.add_zero, hw] at hk; cases hk
    | succ k => simpa using ih k (by rw [Nat.add_assoc, Nat.add_comm 1 k]; exact hk)
  | more hw h ih =>
    intro k hk
    cases k with
    | zero => rw [Nat.add_zero, hw] at hk; cases hk
    | succ k => simpa using ih k (by rw [Nat.add_assoc, Nat.add_comm 1 k]; exact hk)
theorem AgL.agree {W : List Nat} {H H' : List Ob} (h : AgL W 0 H H') : Agree W H H' := fun n ver hn => by
  unfold obj
  rw [h.at n (by simpa using hn)]
theorem Frz.of_weak {P : Program} {x0 x : AVal} {H0 H' : List Ob} (h : ∀ Γ, St.Weak ⟨P, 1, Γ⟩ ⟨[(0, x0)], H0⟩ ⟨[(0, x)], H'⟩) : Frz x0 H0 x H' := fun Γ y hk hc => by
  obtain ⟨_, _, Γ', h1, h2, h3, h4⟩ := h Γ ⟨#[y], []⟩ Γ.w ⟨rfl, rfl, Γ, rfl, .refl Γ, hk, fun t z hz => by
    simp only [Env.get] at hz
    split at hz
    · rename_i ht
      subst ht
      cases hz
      exact ⟨y, rfl, hc⟩
    · cases hz⟩
  obtain ⟨y', g1, g2⟩ := h4 0 x rfl
  cases g1
  exact ⟨Γ', h1, h2, h3, g2⟩
section
variable {P : Program} {W : WW} {os : List Oper} {gs : List (List (Nat × Bool))} {ex : List Bool} {e : Env} {H H1 : List Ob} {ty : TypeId} {pos : String} {after : Array Edge} {guard : Option (Nat × Bool)} {K : Env → List Ob → Prop} {x : AVal} {d : Option Nat}
/-- A call, in a drawn region, that turns the heap. -/
theorem RunR.turn {c : FuncId} {args : Array Operand} {ts : Array TypeId} {vs : List AVal}
    (ha : actE e (gs.headD []) = some true) (hx : ex.headD false = false) (how : W.ow.contains c = true) (has : allV (args.toList.map (evO e)) = some vs) (hag : AgL W.hs 0 H H1)
    (hc : Nx.Call P c vs H fun r' H' => r' = x ∧ H' = H1) (hr : RunR P (some W) os gs.tail ex.tail (putE e d x) H1 K) : RunR P (some W) (⟨d, .call { callee := .value (.func c), args := args, argTypes := ts }, ty, pos, after, guard⟩ :: os) gs ex e H K := by
  obtain ⟨e', H', hr1, hr2⟩ := hr
  exact ⟨e', H', .cons (b := true) (x := x) (H1 := H1) ⟨ha, .inr (.inr (.inr (.inl ⟨rfl, hx, c, args, ts, vs, rfl, how, has, fun W0 hW => by cases hW; exact hag.agree, hc⟩)))⟩ hr1, hr2⟩
/-- What an operation has made is only read from there on. -/
theorem RunR.frz {op : Op} {t : Nat} {x0 : AVal} {H0 : List Ob} (h : RunR P (some W) [⟨some t, op, ty, pos, after, guard⟩] gs ex e H fun e' H' => e' = (t, x0) :: e ∧ H' = H0) (ha : actE e (gs.headD []) = some true) (hc : isCall op = false) (hf : fixed op = true) (hw : wOk (some W) (ex.headD false) e H op = true)
    (hz : Frz x0 H0 x H1) (hag : AgL W.hs 0 H H1) (hr : RunR P (some W) os gs.tail ex.tail ((t, x) :: e) H1 K) : RunR P (some W) (⟨some t, op, ty, pos, after, guard⟩ :: os) gs ex e H K := by
  obtain ⟨e', H', hr1, hr2⟩ := hr
  obtain ⟨e2, H2, hs, rfl, rfl⟩ := h
  have key : ∃ x00 H00, stp P e H op = some (x00, H00) ∧ Frz x00 H00 x0 H2 := by
    cases hs with
    | @cons _ _ _ _ _ _ b x' H1' _ _ hstep hrest =>
      cases hrest
      obtain ⟨hact, hs⟩ := hstep
      rw [ha] at hact
      cases hact
      rcases hs with ⟨hb, _⟩ | ⟨f, args, ts, c, caps, vs, hop, _⟩ | ⟨_, _, hg⟩ | ⟨_, _, c, args, ts, vs, hop, _⟩ | ⟨_, _, _, x00, H00, _, h1, h2, _⟩
      · cases hb
      · rw [show op = _ from hop] at hc; cases hc
      · unfold gE at hg
        split at hg
        · rename_i y Hy hst
          simp only [cond_true, Option.some.injEq, Prod.mk.injEq] at hg
          obtain ⟨rfl, rfl⟩ := hg
          exact ⟨_, _, hst, .refl _ _⟩
        · simp at hg
      · rw [show op = _ from hop] at hc; cases hc
      · exact ⟨_, _, h1, h2⟩
  obtain ⟨x00, H00, k1, k2⟩ := key
  exact ⟨e', H', .cons (b := true) (x := x) (H1 := H1) ⟨ha, .inr (.inr (.inr (.inr ⟨rfl, hc, hf, x00, H00, hw, k1, k2.trans hz, fun W0 hW => by cases hW; exact hag.agree⟩)))⟩ hr1, hr2⟩
end

/-! Division by what is no literal. -/
def rem? (a b : Int) : Option Int := if b = 0 then none else some (a.tmod b)
def quo? (k : IntKind) (a b : Int) : Option Int := if b = 0 then none else some (k.wrap (a.tdiv b))
theorem rem_eq {k : IntKind} {m n r : Int} (h : rem? m n = some r) : intBin .rem k m n = some (.v (.int k r)) := by
  unfold rem? at h
  split at h
  · cases h
  · cases h
    rename_i h0
    simp [intBin, h0]
theorem quo_eq {k : IntKind} {m n r : Int} (h : quo? k m n = some r) : intBin .quo k m n = some (.v (.int k r)) := by
  unfold quo? at h
  split at h
  · cases h
  · cases h
    rename_i h0
    simp [intBin, h0]
end Go.Nx
