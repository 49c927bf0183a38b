/- Rules of the walk. -/
import Derived.Test.YtdhhkpjbfkbcjaaFwD
import Derived.Shelf.Sort.Plain
import Derived.Shelf.Slices.In.SortNone
import Derived.Shelf.Slices.CompactI
import Derived.Shelf.Slices.Cells
import Derived.Shelf.Slices.Reverse
import Derived.Lib.AppendZerosOnto
import Derived.Lib.Overlaps
import Derived.Laws.Externs
import Derived.MapKept
import Derived.Carry
/- The library's sort, and what drops repeats, at integers of the call's own. -/
namespace Go.Nx
open Go.Sort Go.Shelf
set_option linter.unusedVariables false
set_option linter.unusedSimpArgs false

instance fix_rv {h ver : Nat} : Fix (rvL h ver) := ⟨fun _ _ => rfl, fun _ => rfl, fun _ => rfl⟩
instance okp_rv {h ver : Nat} : Okp (rvK h ver) := ⟨fun _ _ => rfl, fun _ => rfl, fun _ => rfl⟩

theorem gAnd {a b : Bool} (h : a = true) (h' : b = true) : (a && b) = true := by rw [h, h']; rfl
theorem TextR.dcallG {P : Program} {N : Nat} {Γ0 : Ctx} {A os : List Oper} {e : Env} {H : List Ob} {ty : TypeId} {pos : String} {after : Array Edge} {guard : Option (Nat × Bool)} {K : Env → List Ob → Prop} {d : Option Nat} {f : Operand} {args : Array Operand} {ts : Array TypeId} {c : FuncId} {caps : List Leaf} {fs : List AVal} {x : AVal} (hg : wantE A e guard = some true)
    (hf : evO e f = some (.c (.clo c caps))) (has : allV (args.toList.map (evO e)) = some fs) (hc : DCall P c (fs ++ caps.map .c) H x) (hr : TextR P N Γ0 A os (putE e d x) H K) : TextR P N Γ0 A (⟨d, .call { callee := .value f, args := args, argTypes := ts }, ty, pos, after, guard⟩ :: os) e H K :=
  .callG hg hf has hc (by rintro _ _ ⟨rfl, rfl⟩; exact hr)
def ins (x : Int) : List Int → List Int
  | [] => [x]
  | y :: ys => if x ≤ y then x :: y :: ys else y :: ins x ys
def isort : List Int → List Int
  | [] => []
  | x :: xs => ins x (isort xs)
theorem ins_perm (x : Int) : ∀ l, (ins x l).Perm (x :: l)
  | [] => .refl _
  | y :: ys => by
    unfold ins
    split
    · exact .refl _
    · exact ((ins_perm x ys).cons y).trans (.swap x y ys)
theorem isort_perm : ∀ l, (isort l).Perm l
  | [] => .refl _
  | x :: xs => (ins_perm x _).trans ((isort_perm xs).cons x)
theorem ins_sorted (x : Int) : ∀ {l : List Int}, l.Pairwise (· ≤ ·) → (ins x l).Pairwise (· ≤ ·)
  | [], _ => by simp [ins]
  | y :: ys, h => by
    rw [List.pairwise_cons] at h
    unfold ins
    split
    · rename_i hxy
      rw [List.pairwise_cons, List.pairwise_cons]
      exact ⟨fun z hz => by
        rcases List.mem_cons.1 hz with rfl | hz
        · exact hxy
        · exact Int.le_trans hxy (h.1 z hz), h⟩
    · rename_i hxy
      rw [List.pairwise_cons]
      refine ⟨fun z hz => ?_, ins_sorted x h.2⟩
      rcases List.mem_cons.1 ((ins_perm x ys).mem_iff.1 hz) with rfl | hz
      · omega
      · exact h.1 z hz
theorem isort_sorted : ∀ l, (isort l).Pairwise (· ≤ ·)
  | [] => .nil
  | x :: xs => ins_sorted x (isort_sorted xs)
theorem length_isort (l : List Int) : (isort l).length = l.length := (isort_perm l).length_eq
theorem isort_eq (l : List Int) : (l.mergeSort fun x y => decide (x ≤ y)) = isort l := by
  refine List.Perm.eq_of_pairwise (le := (· ≤ ·)) (fun a b _ _ h1 h2 => Int.le_antisymm h1 h2) ?_ (isort_sorted l) ((List.mergeSort_perm l _).trans (isort_perm l).symm)
  have := List.pairwise_mergeSort (le := fun x y : Int => decide (x ≤ y)) (fun a b c h1 h2 => by simp at *; omega) (fun a b => by simp; omega) l
  simpa using this

def dedG (p : Int) : List Int → List Int
  | [] => []
  | y :: ys => if y = p then dedG y ys else y :: dedG y ys
def dedup : List Int → List Int
  | [] => []
  | x :: xs => x :: dedG x xs
theorem dedG_snoc (y : Int) : ∀ (p : Int) (l : List Int), dedG p (l ++ [y]) = dedG p l ++ (if y = l.getLast?.getD p then [] else [y])
  | p, [] => by
    simp only [List.nil_append, dedG, List.getLast?_nil, Option.getD_none]
    by_cases h : y = p <;> simp [h]
  | p, z :: l => by
    have hl : (z :: l).getLast?.getD p = l.getLast?.getD z := by
      cases l with
      | nil => rfl
      | cons a l => simp [List.getLast?_cons_cons, List.getLast?_cons]
    rw [hl, List.cons_append]
    unfold dedG
    split
    · exact dedG_snoc y z l
    · rw [dedG_snoc y z l]; rfl
theorem dedup_snoc (y : Int) : ∀ l : List Int, dedup (l ++ [y]) = dedup l ++ (if l.getLast? = some y then [] else [y])
  | [] => by simp [dedup, dedG]
  | x :: xs => by
    have hl : (x :: xs).getLast? = some (xs.getLast?.getD x) := by
      cases xs with
      | nil => rfl
      | cons a l => simp [List.getLast?_cons_cons, List.getLast?_cons]
    rw [hl, List.cons_append, dedup, dedup, dedG_snoc]
    simp [eq_comm]
theorem dedup_take (zs : List Int) : ∀ m, m ≤ zs.length → Lib.compactUpTo zs.toArray m = dedup (zs.take m)
  | 0, _ => by simp [Lib.compactUpTo, dedup]
  | m + 1, hm => by
    have ih := dedup_take zs m (by omega)
    have hz : zs.take (m + 1) = zs.take m ++ [zs[m]] := by simp
    rw [hz, dedup_snoc, ← ih]
    have h1 : Lib.compactUpTo zs.toArray (m + 1) = Lib.compactUpTo zs.toArray m ++ (if Lib.keeps zs.toArray m then [zs.toArray[m]!] else []) := by
      unfold Lib.compactUpTo
      rw [List.range_succ, List.filter_append, List.map_append]
      congr 1
      by_cases hk : Lib.keeps zs.toArray m = true <;> simp [hk]
    rw [h1]
    congr 1
    have hg : zs.toArray[m]! = zs[m] := by simp [show m < zs.length by omega]
    rcases Nat.eq_zero_or_pos m with rfl | h0
    · simp [Lib.keeps, show 0 < zs.length by omega]
    · have hgl : (zs.take m).getLast? = some zs[m - 1] := by
        rw [List.getLast?_eq_getElem?, List.length_take, Nat.min_eq_left (by omega), List.getElem?_take_of_lt (by omega), List.getElem?_eq_getElem (by omega)]
      have hg1 : zs.toArray[m - 1]! = zs[m - 1] := by simp [show m - 1 < zs.length by omega]
      rw [hgl, hg]
      by_cases he : zs[m] = zs[m - 1]
      · rw [Lib.keeps_neg h0 (by rw [hg, hg1]; exact he)]
        simp [he]
      · rw [Lib.keeps_pos (by rw [hg, hg1]; exact he)]
        simp [fun h => he (Eq.symm h), Ne.symm he]
theorem dedup_eq (zs : List Int) : Lib.compact zs = dedup zs := by
  have := dedup_take zs zs.length (Nat.le_refl _)
  rwa [List.take_length] at this
theorem dedup_le (zs : List Int) : (dedup zs).length ≤ zs.length := by
  rw [← dedup_eq]
  exact Lib.compact_length_le zs

def sort? (l : List Int) : Option (List Int) := if l.length ≤ 10000000000 then some (isort l) else none
def ded? (l : List Int) : Option (List Int) := if l.length ≤ 10000000000 then some (dedup l) else none
def rev? {α : Type} (l : List α) : Option (List α) := if l.length ≤ 10000000000 then some l.reverse else none
theorem length_sort {l r : List Int} (h : sort? l = some r) : r.length = l.length := by
  unfold sort? at h
  split at h
  · cases h; exact length_isort l
  · cases h
theorem Call.narrow {P : Program} {f : FuncId} {args : List AVal} {H H1 H2 : List Ob} {h ver z m : Nat} {rows rows' : List (List Leaf)} (hc : Nx.Call P f args H fun r' H' => r' = .c (.sl h ver 0 m) ∧ H' = H1) (ho : obj H1 h ver = some (z, rows)) (hle : m ≤ rows.length) (hrows : rows.take m = rows') (hs : H1.set h (.live (ver + 1) z rows') = H2) :
    Nx.Call P f args H fun r' H' => r' = .c (.sl h (ver + 1) 0 m) ∧ H' = H2 := by
  subst hs
  refine ⟨hc.1, fun Γ hok args' ha => (hc.2 Γ hok args' ha).mono fun e w' ⟨y, r, Γ', H', he, ⟨hr, hH⟩, hw, hE, hok', hcv⟩ => ?_⟩
  subst hr hH
  obtain ⟨Γ2, k1, k2, k3, k4⟩ := narrow_ctx hok' (lo := 0) (by simpa only [concV] using hcv) ho (by omega) (by simpa using hrows)
  exact ⟨y, _, Γ2, _, he, ⟨rfl, rfl⟩, by rw [k1, hw], hE.trans k2, k3, by simpa only [concV] using k4⟩

section
variable {P : Program} {ρ : Ren} {f : FuncId} {H H1 : List Ob} {h ver : Nat} {xs ys : List Int}
theorem call_sort (L : Go.Proofs.Lays.n189 P ρ) (hf : ρ.f 189 = f) (hent : enters P f = true) (hx : sort? xs = some ys) (ho : H[h]? = some (.live ver 1 (xs.map rI))) (hs : SetAt (.live ver 1 (ys.map rI)) H h H1) :
    Nx.Call P f [.c (.sl h ver 0 xs.length)] H fun r' H' => r' = .tup [] ∧ H' = H1 := by
  subst hf
  have hl := length_sort hx
  unfold sort? at hx
  split at hx
  case isFalse => cases hx
  rename_i hb
  cases hx
  refine Call.turns hent ho hl hs.eq (fun _ blk off cap w hH hblk _ => ?_) (fun _ p cap w => Go.Proofs.Any.slices_Sort_int_none L p cap w)
  have := Go.Proofs.Any.slices_Sort_int L blk off cap xs w hH hblk (by omega)
  rwa [isort_eq] at this
theorem call_ded (L : Go.Proofs.Lays2.n20 P ρ) (hf : ρ.f 20 = f) (hent : enters P f = true) (hx : ded? xs = some ys) (ho : H[h]? = some (.live ver 1 (xs.map rI))) (hs : SetAt (.live (ver + 1) 1 (ys.map rI)) H h H1) :
    Nx.Call P f [.c (.sl h ver 0 xs.length)] H fun r' H' => r' = .c (.sl h (ver + 1) 0 ys.length) ∧ H' = H1 := by
  subst hf
  unfold ded? at hx
  split at hx
  case isFalse => cases hx
  rename_i hb
  cases hx
  have hd := dedup_le xs
  have hlt : h < H.length := (List.getElem?_eq_some_iff.1 ho).1
  have hc := Call.turnsCut (P := P) (f := ρ.f 20) (xs := xs) (ys := dedup xs ++ List.replicate (xs.length - (dedup xs).length) 0) (m := (dedup xs).length) hent ho (by simp; omega) hd rfl (fun _ blk off cap w hH hblk hcap => by
    refine (Go.Proofs.Any.slices_Compact_int L blk off cap xs w hH (by omega) hcap).mono fun e w' ⟨he, q, hw⟩ => ?_
    rw [dedup_eq] at he hw
    exact ⟨he, q, #[], by rw [hw, grow_empty]⟩) (fun _ p cap w => by
    have := Go.Proofs.Any.slices_Compact_int_empty L p cap w
    exact this)
  refine Call.narrow (z := 1) (rows' := (dedup xs).map rI) hc (obj_of (by rw [List.getElem?_set_self hlt])) (by simp) ?_ (by rw [List.set_set]; exact hs.eq)
  rw [List.map_append, List.take_left' (by simp)]
end
end Go.Nx
/- A piece of code that may be left in any way; a callee that hands back an array of its own, while it reads arrays that are lent to it. -/
namespace Go.Nx
set_option linter.unusedVariables false
set_option linter.unusedSimpArgs false
section
variable {F : Fr} {Q : Exit → St → Prop} {S : St}
abbrev Exit.frG (I J : St → Prop) (X G : Nat → St → Prop) : Exit → St → Prop
  | .normal, S => I S
  | .ret, S => J S
  | .exit k, S => X k S
  | .goto l, S => G l S
  | _, _ => False
end

/-- Rows of plain numbers and the like. -/
def flR (rows : List (List Leaf)) : Bool := rows.all fun r => r.all fun | .v _ => true | _ => false
instance fix_bw {H : List Ob} : Fix (bwL H) := ⟨fun _ _ => rfl, fun _ => rfl, fun _ => rfl⟩

/-- Two heaps that are alike but at what may be turned. -/
inductive AgL (W : List Nat) : Nat → List Ob → List Ob → Prop
  | nil {i} : AgL W i [] []
  | same {i o H H'} (h : AgL W (i + 1) H H') : AgL W i (o :: H) (o :: H')
  | turn {i o o' H H'} (hw : W.contains i = true) (h : AgL W (i + 1) H H') : AgL W i (o :: H) (o' :: H')
  | more {i o' H'} (hw : W.contains i = true) (h : AgL W (i + 1) [] H') : AgL W i [] (o' :: H')
theorem AgL.at {W : List Nat} {i : Nat} {H H' : List Ob} (h : AgL W i H H') : ∀ k, W.contains (i + k) = false → H'[k]? = H[k]? := by
  induction h with
  | nil => intro k _; rfl
  | same h ih =>
    intro k hk
    cases k with
    | zero => rfl
    | succ k => simpa using ih k (by rw [Nat.add_assoc, Nat.add_comm 1 k]; exact hk)
  | turn hw h ih =>
    intro k hk
    cases k with
    | zero => rw [Nat.add_zero, hw] at hk; cases hk
    | succ k => simpa using ih k (by rw [Nat.add_assoc, Nat.add_comm 1 k]; exact hk)
  | more hw h ih =>
    intro k hk
    cases k with
    | zero => rw [Nat.add_zero, hw] at hk; cases hk
    | succ k => simpa using ih k (by rw [Nat.add_assoc, Nat.add_comm 1 k]; exact hk)
theorem AgL.agree {W : List Nat} {H H' : List Ob} (h : AgL W 0 H H') : Agree W H H' := fun n ver hn => by
  unfold obj
  rw [h.at n (by simpa using hn)]
section
variable {P : Program} {W : WW} {os : List Oper} {gs : List (List (Nat × Bool))} {ex : List Bool} {e : Env} {H H1 : List Ob} {ty : TypeId} {pos : String} {after : Array Edge} {guard : Option (Nat × Bool)} {K : Env → List Ob → Prop} {x : AVal} {d : Option Nat}
/-- A call, in a drawn region, that turns the heap. -/
theorem RunR.turn {c : FuncId} {args : Array Operand} {ts : Array TypeId} {vs : List AVal}
    (ha : actE e (gs.headD []) = some true) (hx : ex.headD false = false) (how : W.ow.contains c = true) (has : allV (args.toList.map (evO e)) = some vs) (hag : AgL W.hs 0 H H1)
    (hc : Nx.Call P c vs H fun r' H' => r' = x ∧ H' = H1) (hr : RunR P (some W) os gs.tail ex.tail (putE e d x) H1 K) : RunR P (some W) (⟨d, .call { callee := .value (.func c), args := args, argTypes := ts }, ty, pos, after, guard⟩ :: os) gs ex e H K := by
  obtain ⟨e', H', hr1, hr2⟩ := hr
  exact ⟨e', H', .cons (b := true) (x := x) (H1 := H1) ⟨ha, .inr (.inr (.inr (.inl ⟨rfl, hx, c, args, ts, vs, rfl, how, has, fun W0 hW => by cases hW; exact hag.agree, hc⟩)))⟩ hr1, hr2⟩
end

theorem Call.nz {P : Program} {f : FuncId} {vs vs' : List AVal} {H : List Ob} {K : AVal → List Ob → Prop} (he : mpVs nzL vs = vs') (h : Nx.Call P f vs' H K) : Nx.Call P f vs H K := by
  subst he
  exact Call.args (fun Γ ys hc => concVs_mp (g := nzL) (Γ' := Γ) (fun l y => nzL_sound Γ l y) vs ys hc) h

/-! Division by what is no literal. -/
def rem? (a b : Int) : Option Int := if b = 0 then none else some (a.tmod b)
def quo? (k : IntKind) (a b : Int) : Option Int := if b = 0 then none else some (k.wrap (a.tdiv b))
theorem rem_eq {k : IntKind} {m n r : Int} (h : rem? m n = some r) : intBin .rem k m n = some (.v (.int k r)) := by
  unfold rem? at h
  split at h
  · cases h
  · cases h
    rename_i h0
    simp [intBin, h0]
end Go.Nx
/- A variable array, read at any place. -/
namespace Go.Nx
set_option linter.unusedVariables false
set_option linter.unusedSimpArgs false
section
variable {F : Fr} {Q : Exit → St → Prop} {S S1 : St}
/-- Where the code ends what is known may be known less well. -/
abbrev Exit.endw (F : Fr) (Q : Exit → St → Prop) : Exit → St → Prop
  | .normal, S => ∃ S', S.Weak F S' ∧ Q .normal S'
  | .ret, S => Q .ret S
  | .exit k, S => Q (.exit k) S
  | .goto l, S => Q (.goto l) S
  | e, S => Q e S
theorem Endw.step {Q : St → Prop} (hw : S.Weak F S1) (h : ∃ S', S1.Weak F S' ∧ Q S') : ∃ S', S.Weak F S' ∧ Q S' := by
  obtain ⟨S', h1, h2⟩ := h; exact ⟨S', hw.trans h1, h2⟩
theorem Endw.done {Q : St → Prop} (h : Q S) : ∃ S', S.Weak F S' ∧ Q S' := ⟨S, .refl, h⟩
end
section
variable {P : Program} {N : Nat} {Γ0 : Ctx} {A os : List Oper} {e : Env} {H H1 : List Ob} {ty : TypeId} {pos : String} {after : Array Edge} {t : Nat} {K : Env → List Ob → Prop}
end
section
variable {P : Program} {W : Option WW} {os : List Oper} {gs : List (List (Nat × Bool))} {ex : List Bool} {e : Env} {H H1 : List Ob} {ty : TypeId} {pos : String} {after : Array Edge} {guard : Option (Nat × Bool)} {t : Nat} {b : Bool} {K : Env → List Ob → Prop}
end
end Go.Nx
/- An append that fits, told as a copy; a piece taken beyond a piece's end. -/
namespace Go.Nx
set_option linter.unusedVariables false
set_option linter.unusedSimpArgs false
/-- A piece with both bounds, told by the capacity. -/
theorem slice_run2 {P : Program} {w : World} {t e : TypeId} {size : Nat} (ht : P.underlying t = some (.slice e)) (hs : (sizeOf e).run P w = .ok size w) (a : Option Addr) (n cap : Nat) (k k' : IntKind) (l h : Int) (h0 : 0 ≤ l) (h1 : l ≤ h) (h2 : h ≤ cap) :
    (Instr.sliceAt t (.slice a n cap) (some (.int k l)) (some (.int k' h)) none).run P w = .ok (.slice (if cap = l.toNat then a else a.map (·.add (l.toNat * size))) (h.toNat - l.toNat) (cap - l.toNat)) w := by
  have e1 : ((h.toNat : Nat) : Int) = h := by omega
  have hb' := sliceBound_run (P := P) (w := w) k' h cap .sliceAcap (by omega) (by omega)
  have hb := sliceBound_run (P := P) (w := w) k l h.toNat .sliceB h0 (by omega)
  simp [Instr.sliceAt, run_underlying ht, Instr.slice, Instr.sliceBounds, hs, hb, hb']
theorem sliceB_sound {P : Program} {Γ : Ctx} {H : List Ob} (hok : HeapOk Γ H) {t e size : Nat} {rest : Nat × List Leaf} {h ver lo0 len : Nat} {rows : List (List Leaf)} {y : Value} (hse : se P t = some (e, size, rest)) (hc : conc Γ (.sl h ver lo0 len) y) (ho : obj H h ver = some (size, rows)) (k k' : IntKind) (l m : Int) (h0 : 0 ≤ l) (h1 : l ≤ m) (h2 : (lo0 : Int) + m ≤ rows.length) :
    ∃ z, (Instr.sliceAt t y (some (.int k l)) (some (.int k' m)) none).run P Γ.w = .ok z Γ.w ∧ conc Γ (.sl h ver (lo0 + l.toNat) (m.toNat - l.toNat)) z := by
  obtain ⟨bytes, zz⟩ := rest
  obtain ⟨ht, i, zv, hi, rfl, _, _, _, _⟩ := se_spec hse
  have hs : (sizeOf e).run P Γ.w = .ok i.size Γ.w := by simp [sizeOf, typeInfo, hi]
  obtain ⟨inf, k1, hm, k2⟩ := hok.obj ho
  simp only [conc] at hc
  obtain ⟨inf', ver', a, cap, g1, _, rfl, g3⟩ := hc
  rw [k1] at g1
  cases g1
  rcases g3 rfl with ⟨hb0, rfl, rfl, rfl, rfl⟩ | ⟨b, a', hb0, rfl, rfl, hlc, ha⟩
  · simp only [hb0] at k2
    subst k2
    simp at h2
    have e1 : l = 0 := by omega
    have e2 : m = 0 := by omega
    subst e1 e2
    refine ⟨_, slice_run2 (P := P) (w := Γ.w) ht hs none 0 0 k k' 0 0 (by omega) (by omega) (by omega), ?_⟩
    simp only [conc]
    exact ⟨inf, ver, none, 0, k1, Nat.le_refl _, by simp, fun _ => .inl (by simp [hb0])⟩
  · simp only [hb0] at k2
    have hsz : inf.sz = i.size := k2.1
    have hrc : rows.length ≤ inf.cap := k2.2.2.2.1
    refine ⟨_, slice_run2 (P := P) (w := Γ.w) ht hs (some a') len (inf.cap - lo0) k k' l m h0 h1 (by omega), ?_⟩
    simp only [conc]
    refine ⟨inf, ver, _, _, k1, Nat.le_refl _, rfl, fun _ => .inr ⟨b, if inf.cap - lo0 = l.toNat then a' else a'.add (l.toNat * i.size), hb0, by split <;> rfl, by omega, by omega, fun hlt => ?_⟩⟩
    rw [if_neg (by omega), ha (by omega), add_off, hsz, Nat.add_mul, Nat.add_assoc]

theorem SemO.sliceB {P : Program} {e : Env} {H : List Ob} {α : Type} {ts : TypeId} {y p q : Operand} {el size h ver lo len : Nat} {rest : Nat × List Leaf} {k k' : IntKind} {m n : Int} {xs : List α} {f : α → List Leaf} (ht : se P ts = some (el, size, rest)) (hy : evO e y = some (.c (.sl h ver lo len))) (ho : obj H h ver = some (size, xs.map f)) (hp : evO e p = some (.c (.v (.int k m)))) (hq : evO e q = some (.c (.v (.int k' n)))) (h0 : 0 ≤ m ∧ m ≤ n ∧ (lo : Int) + n ≤ xs.length) : SemO P e H (.slice ts y (some p) (some q) none) (.c (.sl h ver (lo + m.toNat) (n.toNat - m.toNat))) H := by
  refine ⟨fun c y z h => (by cases h), fun Γ a o hop hok hg => ?_⟩
  obtain ⟨dst, op, ty, pos, after, guard⟩ := o
  simp only at hop
  subst hop
  have h1 := hg y (by simp [Op.operands]) _ hy
  have h2 := hg p (by simp [Op.operands]) _ hp
  have h3 := hg q (by simp [Op.operands]) _ hq
  simp only [concV, conc] at h2 h3
  have h1 : conc Γ (.sl h ver lo len) (a.eval y) := by simpa only [concV] using h1
  obtain ⟨v, g1, g2⟩ := sliceB_sound (P := P) hok ht h1 ho k k' m n h0.1 h0.2.1 (by simpa using h0.2.2)
  exact .val hok (y := v) (by simp [execOp, h2.1, h3.1, g1]) (by simpa only [concV] using g2)
section
variable {P : Program} {W : WW} {os : List Oper} {gs : List (List (Nat × Bool))} {ex : List Bool} {e : Env} {H H1 : List Ob} {ty : TypeId} {pos : String} {after : Array Edge} {guard : Option (Nat × Bool)} {K : Env → List Ob → Prop} {x : AVal} {d : Option Nat}
theorem RunR.sem {op : Op} (ha : actE e (gs.headD []) = some true) (hw : wOk (some W) (ex.headD false) e H op = true) (hc : isCall op = false) (hf : fixed op = true) (hag : AgL W.hs 0 H H1) (hs : SemO P e H op x H1) (hr : RunR P (some W) os gs.tail ex.tail (putE e d x) H1 K) : RunR P (some W) (⟨d, op, ty, pos, after, guard⟩ :: os) gs ex e H K := by
  obtain ⟨e', H', hr1, hr2⟩ := hr
  exact ⟨e', H', .cons (b := true) (x := x) (H1 := H1) ⟨ha, .inr (.inr (.inr (.inr ⟨rfl, hc, hf, hw, hs, fun W0 hW => by cases hW; exact hag.agree⟩)))⟩ hr1, hr2⟩
end
section
variable {P : Program} {N : Nat} {Γ0 : Ctx} {A os : List Oper} {e : Env} {H H1 : List Ob} {ty : TypeId} {pos : String} {after : Array Edge} {t : Nat} {d : Option Nat} {x : AVal} {K : Env → List Ob → Prop} {op : Op}
theorem TextR.sem (hs : SemO P e H op x H1) (hr : TextR P N Γ0 A os (putE e d x) H1 K) : TextR P N Γ0 A (⟨d, op, ty, pos, after, none⟩ :: os) e H K := by
  intro ops Q hA hd hQ i hl a w hsat
  obtain ⟨hi, hl', hmem⟩ := drop_next hl
  rw [List.length_cons, List.range'_succ, wpOps_cons]
  obtain ⟨df, sz, Γ, rfl, hext, hok, henv⟩ := hsat
  unfold wpOp
  simp only [hi]
  have hg0 : wantE A e (⟨d, op, ty, pos, after, none⟩ : Oper).guard = some true := rfl
  rw [wanted_eq hA henv hg0, if_pos rfl]
  left
  obtain ⟨y, Γ', hr', hext', hok', hcv⟩ := hs.2 Γ a ⟨d, op, ty, pos, after, none⟩ rfl hok (fun p _ => good_env henv p)
  have hnx := hr ops Q hA hd hQ (i + 1) hl' (a.put d y) Γ'.w ⟨by rw [put_defers]; exact df, by rw [put_size]; exact sz, Γ', rfl, hext.trans hext', hok', put_sat sz henv hext'.le (hd _ hmem) hcv⟩
  unfold Oper.wp
  rcases hr' with hr' | ⟨hr', rfl⟩
  · rw [hr', Oper.upon_value]; exact hnx
  · rw [hr', Oper.upon_skip]; exact hnx
end
/-- Bounds of a piece with a capacity; of a piece beyond a piece's end. -/
def sub3? (len : Nat) (m n u : Int) : Option Unit := if 0 ≤ m ∧ m ≤ n ∧ n ≤ u ∧ u ≤ (len : Int) then some () else none
def subB? (len lo : Nat) (m n : Int) : Option Unit := if 0 ≤ m ∧ m ≤ n ∧ (lo : Int) + n ≤ (len : Int) then some () else none
end Go.Nx
/- A piece made nought, of rows that hold a slice. -/
namespace Go.Nx
set_option linter.unusedVariables false
set_option linter.unusedSimpArgs false
section
variable {P : Program} {N : Nat} {Γ0 : Ctx} {A os : List Oper} {e : Env} {H H1 : List Ob} {ty : TypeId} {pos : String} {after : Array Edge} {d : Option Nat} {K : Env → List Ob → Prop}
end
end Go.Nx
/- What an insertion into an own array asks: its capacity, a piece up to it, an append that must move, a copy beyond the end. -/
namespace Go.Nx
set_option linter.unusedVariables false
set_option linter.unusedSimpArgs false
/-- An own array's capacity, by the context that the walk began with. -/
def CapIs (Γ0 : Ctx) (h ver c : Nat) : Prop := ∃ inf, Γ0.hs[h]? = some (inf, ver) ∧ inf.cap = c
theorem capIs_of {Γ : Ctx} {H : List Ob} (hok : HeapOk Γ H) {h ver z : Nat} {rows : List (List Leaf)} (ho : obj H h ver = some (z, rows)) : ∃ c, CapIs Γ h ver c ∧ c ≤ maxLen ∧ rows.length ≤ c := by
  obtain ⟨inf, h1, h2, h3⟩ := hok.obj ho
  refine ⟨inf.cap, ⟨inf, h1, rfl⟩, h2, ?_⟩
  cases hb : inf.base with
  | none => simp only [hb] at h3; subst h3; simp
  | some b => simp only [hb] at h3; exact h3.2.2.2.1
theorem CapIs.at {Γ0 Γ : Ctx} {H : List Ob} {h ver c z : Nat} {rows : List (List Leaf)} (hc : CapIs Γ0 h ver c) (hext : Γ0.Ext Γ) (hok : HeapOk Γ H) (ho : obj H h ver = some (z, rows)) : ∃ inf, Γ.hs[h]? = some (inf, ver) ∧ inf.cap = c := by
  obtain ⟨inf, h1, h2⟩ := hc
  obtain ⟨inf', ver', g1, g2, g3⟩ := hext.le.hs h inf ver h1
  obtain ⟨inf2, k1, _⟩ := hok.obj ho
  rw [g1] at k1
  cases k1
  exact ⟨inf', g1, by rw [g3 rfl, h2]⟩
def SemG (P : Program) (Γ0 : Ctx) (e : Env) (H : List Ob) (op : Op) (x : AVal) (H' : List Ob) : Prop :=
  ∀ (Γ : Ctx) (a : Act) (o : Oper), Γ0.Ext Γ → o.op = op → HeapOk Γ H → (∀ p ∈ op.operands, Good Γ e a p) → OpRes Γ ((execOp a.eval o).run P Γ.w) x H'
section
variable {P : Program} {N : Nat} {Γ0 : Ctx} {A os : List Oper} {e : Env} {H H1 : List Ob} {ty : TypeId} {pos : String} {after : Array Edge} {t : Nat} {d : Option Nat} {x : AVal} {K : Env → List Ob → Prop} {op : Op}
theorem TextR.semG (hs : SemG P Γ0 e H op x H1) (hr : TextR P N Γ0 A os (putE e d x) H1 K) : TextR P N Γ0 A (⟨d, op, ty, pos, after, none⟩ :: os) e H K := by
  intro ops Q hA hd hQ i hl a w hsat
  obtain ⟨hi, hl', hmem⟩ := drop_next hl
  rw [List.length_cons, List.range'_succ, wpOps_cons]
  obtain ⟨df, sz, Γ, rfl, hext, hok, henv⟩ := hsat
  unfold wpOp
  simp only [hi]
  have hg0 : wantE A e (⟨d, op, ty, pos, after, none⟩ : Oper).guard = some true := rfl
  rw [wanted_eq hA henv hg0, if_pos rfl]
  left
  obtain ⟨y, Γ', hr', hext', hok', hcv⟩ := hs Γ a ⟨d, op, ty, pos, after, none⟩ hext rfl hok (fun p _ => good_env henv p)
  have hnx := hr ops Q hA hd hQ (i + 1) hl' (a.put d y) Γ'.w ⟨by rw [put_defers]; exact df, by rw [put_size]; exact sz, Γ', rfl, hext.trans hext', hok', put_sat sz henv hext'.le (hd _ hmem) hcv⟩
  unfold Oper.wp
  rcases hr' with hr' | ⟨hr', rfl⟩
  · rw [hr', Oper.upon_value]; exact hnx
  · rw [hr', Oper.upon_skip]; exact hnx
end
theorem SemG.cap {P : Program} {Γ0 : Ctx} {e : Env} {H : List Ob} {y : Operand} {ts el : TypeId} {h ver len c z : Nat} {rows : List (List Leaf)} (ht : P.underlying ts = some (.slice el)) (hy : evO e y = some (.c (.sl h ver 0 len))) (ho : obj H h ver = some (z, rows)) (hne : 0 < rows.length) (hc : CapIs Γ0 h ver c) :
    SemG P Γ0 e H (.call { callee := .builtin .cap, args := #[y], argTypes := #[ts] }) (.c (I c)) H := fun Γ a o hext hop hok hg => by
  obtain ⟨dst, op, ty, pos, after, guard⟩ := o
  simp only at hop
  subst hop
  have h1 := hg y (by simp [Op.operands, Call.operands]) _ hy
  simp only [concV, conc] at h1
  obtain ⟨inf, k1, k2⟩ := hc.at hext hok ho
  obtain ⟨inf', ver', a', cap, g1, _, g2, g3⟩ := h1
  rw [k1] at g1
  cases g1
  obtain ⟨inf2, q1, _, q2⟩ := hok.obj ho
  rw [k1] at q1
  cases q1
  rcases g3 rfl with ⟨hb0, _⟩ | ⟨b, a'', hb0, rfl, rfl, hlc, ha⟩
  · simp only [hb0] at q2
    subst q2
    simp at hne
  · refine .val hok (y := .int .i64 ((inf.cap - 0 : Nat) : Int)) ?_ (by simp [concV, conc, Value.oneCell', ← k2])
    simp [execOp, resolve, invoke, builtin, g2, Builtin.cap_, run_underlying ht, goInt]
theorem SemG.upto {P : Program} {Γ0 : Ctx} {e : Env} {H : List Ob} {y q : Operand} {ts el size h ver len c z : Nat} {rest : Nat × List Leaf} {k : IntKind} {m : Int} {rows : List (List Leaf)} (ht : se P ts = some (el, size, rest)) (hy : evO e y = some (.c (.sl h ver 0 len))) (hq : evO e q = some (.c (.v (.int k m)))) (ho : obj H h ver = some (z, rows)) (hne : 0 < rows.length) (hc : CapIs Γ0 h ver c) (h0 : 0 ≤ m ∧ m ≤ (c : Int)) :
    SemG P Γ0 e H (.slice ts y none (some q) none) (.c (.sl h ver 0 m.toNat)) H := fun Γ a o hext hop hok hg => by
  obtain ⟨dst, op, ty, pos, after, guard⟩ := o
  simp only at hop
  subst hop
  have h1 := hg y (by simp [Op.operands]) _ hy
  have h2 := hg q (by simp [Op.operands]) _ hq
  simp only [concV, conc] at h1 h2
  obtain ⟨inf, k1, k2⟩ := hc.at hext hok ho
  obtain ⟨inf', ver', a', cap, g1, _, g2, g3⟩ := h1
  rw [k1] at g1
  cases g1
  obtain ⟨inf2, q1, _, q2⟩ := hok.obj ho
  rw [k1] at q1
  cases q1
  obtain ⟨bytes, zz⟩ := rest
  obtain ⟨htt, i, zv, hi, rfl, _, _, _, _⟩ := se_spec ht
  have hs : (sizeOf el).run P Γ.w = .ok i.size Γ.w := by simp [sizeOf, typeInfo, hi]
  rcases g3 rfl with ⟨hb0, _⟩ | ⟨b, a'', hb0, rfl, rfl, hlc, ha⟩
  · simp only [hb0] at q2
    subst q2
    simp at hne
  · simp only [hb0] at q2
    have hrc := q2.2.2.2.1
    have hcp : 0 < inf.cap := by omega
    obtain rfl := ha hcp
    have hb' := sliceBound_run (P := P) (w := Γ.w) k m inf.cap .sliceAcap (by omega) (by omega)
    have hrun : (Instr.sliceAt ts (.slice (some ⟨b, inf.off + 0 * inf.sz, none⟩) len (inf.cap - 0)) none (some (.int k m)) none).run P Γ.w = .ok (.slice (some ⟨b, inf.off + 0 * inf.sz, none⟩) m.toNat (inf.cap - 0)) Γ.w := by
      have hc0 : ¬ (inf.cap = 0) := by omega
      simp [Instr.sliceAt, run_underlying htt, Instr.slice, Instr.sliceBounds, hs, hb', hc0, add_off]
    refine .val hok (y := .slice (some ⟨b, inf.off + 0 * inf.sz, none⟩) m.toNat (inf.cap - 0)) (by simp only [execOp, g2, h2.1, Option.map_some, Option.map_none, Sem.run_bind, hrun]; rfl) ?_
    simp only [concV, conc]
    exact ⟨inf, ver, some _, inf.cap - 0, k1, Nat.le_refl _, rfl, fun _ => .inr ⟨b, _, hb0, rfl, rfl, by omega, ha⟩⟩
/-- An append of so many zero values that must move. -/
theorem SemG.appendOnto {P : Program} {Γ0 : Ctx} {e : Env} {H H1 : List Ob} {α : Type} {y q : Operand} {ts ti el size by' i c h ver : Nat} {z0 : List Leaf} {k0 k' : IntKind} {m : Int} (f : α → List Leaf) (xs : List α) (zv : α) (ht : se P ts = some (el, size, by', z0)) (hti : ik P ti = some k') (hy : evO e y = some (.c (.sl h ver 0 i))) (hq : evO e q = some (.c (.v (.int k0 m)))) (ho : obj H h ver = some (size, xs.map f)) (hi : i ≤ xs.length) (hc : CapIs Γ0 h ver c) (h0 : 0 < m) (hg : (c : Int) < i + m) (h1 : (i : Int) + m ≤ 10000000) (hby : by' ≤ 10000)
    (hfz : f zv = z0) (hf : ∀ x, (f x).length = size) (hsz : 0 < size) (hs : H1 = H ++ [.live 0 size ((xs.take i ++ List.replicate m.toNat zv).map f)]) :
    SemG P Γ0 e H (.call { callee := .builtin .append, args := #[y, q], argTypes := #[ts, ti] }) (.c (.sl H.length 0 0 (i + m.toNat))) H1 := fun Γ a o hext hop hok hgd => by
  obtain ⟨dst, op, ty, pos, after, guard⟩ := o
  simp only at hop
  subst hop hs
  have g1 := hgd y (by simp [Op.operands, Call.operands]) _ hy
  have g2 := hgd q (by simp [Op.operands, Call.operands]) _ hq
  simp only [concV, conc] at g1 g2
  obtain ⟨inf, k1, k2⟩ := hc.at hext hok ho
  obtain ⟨inf', ver', a', cap, j1, _, j2, j3⟩ := g1
  rw [k1] at j1
  cases j1
  obtain ⟨inf2, q1, q3, q2⟩ := hok.obj ho
  rw [k1] at q1
  cases q1
  obtain ⟨htt, ii, zz, hii, rfl, hbb, hz, hzs, hzl⟩ := se_spec ht
  have hu := ik_under hti
  obtain ⟨mn, rfl⟩ : ∃ mn : Nat, m = (mn : Int) := ⟨m.toNat, by omega⟩
  have hmn : ((mn : Int)).toNat = mn := by simp
  rw [hmn]
  have hz0 : z0.length = ii.size := by rw [← hfz]; exact hf zv
  -- what the slice held
  have hold : ∃ olds, concAll Γ ((xs.take i).map f).flatten olds ∧ olds.length = i * ii.size ∧ cap < i + mn ∧ (Builtin.firstCells ii.size i (.slice a' i cap)).run P Γ.w.drew = .ok olds.toArray Γ.w.drew := by
    have hcap' : cap < i + mn := by
      rcases j3 rfl with ⟨_, _, rfl, _, _⟩ | ⟨b, a'', hb0, rfl, rfl, hlc, ha⟩
      · omega
      · omega
    rcases j3 rfl with ⟨hb0, rfl, rfl, _, rfl⟩ | ⟨b, a'', hb0, rfl, rfl, hlc, ha⟩
    · exact ⟨[], by simp [concAll], by simp, hcap', by simp [Builtin.firstCells]⟩
    · simp only [hb0] at q2
      obtain ⟨hzz, hX, hF, hrc, hisz, cells, T, hh, hcs, hrows⟩ := q2
      obtain ⟨news, u1, u2, u3⟩ := concRows_cells (concRows_take hrows i)
      rw [← List.map_take] at u1 u2
      have hl : ((xs.take i).map f).length = i := by simp; omega
      rw [hl] at u2
      refine ⟨news, u1, by rw [u2, hzz], hcap', ?_⟩
      by_cases hi0 : i = 0
      · subst hi0
        have : news = [] := List.eq_nil_of_length_eq_zero (by rw [u2]; simp)
        subst this
        simpa using run_firstCells_some (P := P) (w := Γ.w.drew) ii.size 0 a'' 0 (inf.cap - 0) [] (by simp) (by simp)
      · have hlt : 0 < inf.cap := by
          simp at hrc
          omega
        obtain rfl := ha hlt
        exact run_firstCells_some (P := P) (w := Γ.w.drew) ii.size i _ i _ news (by rw [u2, hzz]) (fun j v hj => by
          rw [add_off]
          have := u3 j v hj
          simpa using this)
  obtain ⟨olds, u1, u2, hcap, u3⟩ := hold
  have hb1 : (i + mn) * ii.bytes ≤ 140737488355328 := Nat.le_trans (Nat.mul_le_mul (show i + mn ≤ 10000000 by omega) (show ii.bytes ≤ 10000 by omega)) (by decide)
  have hb2 : mn * ii.bytes ≤ 281474976710656 := Nat.le_trans (Nat.mul_le_mul (show mn ≤ 10000000 by omega) (show ii.bytes ≤ 10000 by omega)) (by decide)
  have hr := Lib.run_append_grow_zeros (P := P) Γ.w ts ti ty el ii zz k0 k' htt hu hii hz a' i cap olds u3 mn (by omega) hsz hcap (by omega) hb2 (growslice_fits (need := i + mn) (old := cap) hcap hb1)
  generalize hG : grownCap Γ.w (i + mn) cap el = G at hr
  have hge : i + mn ≤ G := by rw [← hG]; exact grownCap_ge Γ.w (i + mn) cap el
  have hGm : G ≤ maxLen := by rw [← hG]; exact grownCap_le_maxLen Γ.w (i + mn) cap el (by unfold maxLen; omega)
  have hokd := HeapOk_drew hok
  have hext' := (Ext_drew Γ).trans (Ext_alloc hokd (olds.toArray ++ Builtin.zeroCells zz.cells mn ++ Builtin.zeroCells zz.cells (G - (i + mn))) el ⟨some Γ.w.heap.size, 0, G, ii.size⟩)
  have hrl : ((xs.take i ++ List.replicate mn zv).map f).length = i + mn := by simp; omega
  refine ⟨.slice (some ⟨Γ.w.heap.size, 0, none⟩) (i + mn) G, Γ.drew.alloc (olds.toArray ++ Builtin.zeroCells zz.cells mn ++ Builtin.zeroCells zz.cells (G - (i + mn))) el ⟨some Γ.w.heap.size, 0, G, ii.size⟩, .inl ?_, hext', HeapOk_alloc hokd _ el G ii.size ((xs.take i ++ List.replicate mn zv).map f) hGm (by rw [hrl]; exact hge) hsz ?_ ?_ (olds ++ (Builtin.zeroCells zz.cells mn).toList) ?_ ?_, ?_⟩
  · simp only [execOp, resolve, invoke, builtin, Sem.run_bind, Sem.run_pure, Result.andThen_ok, List.map_toArray, List.map_cons, List.map_nil, j2, g2.1, hr]
    rfl
  · simp only [Array.size_append, List.size_toArray, size_zeroCells, hzs, u2, ← Nat.add_mul]
    exact Nat.le_of_eq (by congr 1; omega)
  · intro r hr
    obtain ⟨x, _, rfl⟩ := List.mem_map.1 hr
    exact hf x
  · rw [List.map_append, List.flatten_append, List.map_replicate, hfz, zeroCells_rows]
    exact concAll_append (concAll_mono (Le_drew Γ) _ _ u1) (concAll_rep (conc_leaves hzl) _)
  · intro k v hk
    rw [Array.getElem?_append_left (by
      have := (List.getElem?_eq_some_iff.1 hk).1
      simp at this ⊢
      omega)]
    have e : olds.toArray ++ Builtin.zeroCells zz.cells mn = (olds ++ (Builtin.zeroCells zz.cells mn).toList).toArray := by simp
    rw [e, List.getElem?_toArray]
    exact hk
  · simp only [concV, conc]
    refine ⟨_, 0, some ⟨Γ.w.heap.size, 0, none⟩, G, by simp [Ctx.alloc, Ctx.drew, hok.len]; rfl, Nat.le_refl _, rfl, fun _ => .inr ⟨Γ.w.heap.size, _, rfl, rfl, by simp, by simpa using hge, fun _ => by simp⟩⟩
/-- A segment that reaches beyond the rows, within the capacity. -/
theorem segOver_sound {P : Program} {Γ : Ctx} {H : List Ob} (hok : HeapOk Γ H) {h ver lo z b : Nat} {rows new : List (List Leaf)} {inf : Info} (ho : obj H h ver = some (z, rows)) (hin : Γ.hs[h]? = some (inf, ver)) (hb : inf.base = some b) (hlo : lo ≤ rows.length) (hcapl : lo + new.length ≤ inf.cap) (hnl : ∀ r ∈ new, r.length = z) {news : List Value} (hn : concAll Γ new.flatten news) :
    ∃ Γ', (storeCells ⟨b, inf.off + lo * inf.sz, none⟩ news).run P Γ.w = .ok () Γ'.w ∧ Γ.Ext Γ' ∧ HeapOk Γ' (H.set h (.live ver z (segRows rows lo new))) := by
  obtain ⟨i2, g1, hcap, g2⟩ := hok.obj ho
  rw [hin] at g1
  cases g1
  simp only [hb] at g2
  obtain ⟨hzz, hX, hF, hrc, hisz, cells, T, hh, hcs, hrows⟩ := g2
  have hbl := hok.X b hX
  have hnews : news.length = new.length * z := by rw [concAll_length hn, flatten_length hnl]
  have hfit : inf.off + lo * inf.sz + news.length ≤ cells.size := by
    have h2 : (lo + new.length) * inf.sz ≤ inf.cap * inf.sz := Nat.mul_le_mul_right _ hcapl
    rw [Nat.add_mul] at h2
    rw [hnews, ← hzz]
    omega
  have hst := run_storeCells_at P b (inf.off + lo * inf.sz) T news 0 cells Γ.w hh (by simpa using hfit) (concAll_one hn)
  simp only [Nat.add_zero] at hst
  have hheap' : (Γ.w.setRow b (spliced cells.toList (inf.off + lo * inf.sz) news).toArray).heap[b]? = some (.cells (spliced cells.toList (inf.off + lo * inf.sz) news).toArray T (0, 0)) := setRow_heap Γ.w b cells _ T (0, 0) hh
  have hoth : ∀ c, c ≠ b → (Γ.w.setRow b (spliced cells.toList (inf.off + lo * inf.sz) news).toArray).heap[c]? = Γ.w.heap[c]? := fun c hcb => setRow_other Γ.w b c _ hcb
  have hle' : Γ.Le (Γ.turn (Γ.w.setRow b (spliced cells.toList (inf.off + lo * inf.sz) news).toArray) h inf ver b) :=
    Le_turn hin (.inr ⟨rfl, rfl⟩) (fun c hFc => hoth c (fun e => hF (e ▸ hFc)))
  have hsl : (spliced cells.toList (inf.off + lo * inf.sz) news).length = cells.size := by rw [spliced_length (by simpa using hfit)]; simp
  refine ⟨Γ.turn (Γ.w.setRow b (spliced cells.toList (inf.off + lo * inf.sz) news).toArray) h inf ver b, hst, ⟨hle', rfl, rfl, rfl, by simp [Ctx.turn], fun c _ hXc => hoth c (fun e => hXc (e ▸ hX)), fun _ h => .inl h, fun c hc => ?_⟩, ?_⟩
  · rcases hc with hc | hc
    · exact .inl hc
    · exact .inl (hc ▸ hX)
  · have hlen : (segRows rows lo new).length ≤ inf.cap := by simp [segRows]; omega
    refine HeapOk_turn (Γ' := Γ.turn (Γ.w.setRow b (spliced cells.toList (inf.off + lo * inf.sz) news).toArray) h inf ver b) hok (obj_some ho) hin hle' rfl rfl (fun c => Iff.rfl) (by simp [Ctx.turn]) hb (fun c _ hcb => hoth c hcb) (.inl hb) (by simpa [Ctx.turn] using hbl) hcap hlen hisz hzz _ T hheap' (by simp [hsl]; exact hcs) ?_
    have hcell : ∀ j, (Γ.turn (Γ.w.setRow b (spliced cells.toList (inf.off + lo * inf.sz) news).toArray) h inf ver b).w.cell? ⟨b, j, none⟩ = if inf.off + lo * inf.sz ≤ j ∧ j < inf.off + lo * inf.sz + news.length then news[j - (inf.off + lo * inf.sz)]? else cells[j]? := by
      intro j
      rw [show (Γ.turn (Γ.w.setRow b (spliced cells.toList (inf.off + lo * inf.sz) news).toArray) h inf ver b).w = Γ.w.setRow b (spliced cells.toList (inf.off + lo * inf.sz) news).toArray from rfl, cell_of hheap']
      have := spliced_get (cur := cells.toList) (o := inf.off + lo * inf.sz) (vs := news) (by simpa using hfit) j
      simpa using this
    have htl : (rows.take lo).length = lo := by simp; omega
    unfold segRows
    refine concRows_append (concRows_append ?_ ?_) ?_
    · refine concRows_of hle' b inf.sz _ _ (fun j a1 a2 => ?_) (concRows_take hrows lo)
      rw [htl] at a2
      rw [hcell, if_neg (by omega), cell_of hh]
    · rw [htl]
      refine concRows_new hle' (by rw [hzz]; exact hnl) hn (fun j v hj => ?_)
      have hjl := (List.getElem?_eq_some_iff.1 hj).1
      rw [hcell, if_pos (by omega), show inf.off + lo * inf.sz + j - (inf.off + lo * inf.sz) = j by omega]
      exact hj
    · rw [List.length_append, htl]
      refine concRows_of hle' b inf.sz _ _ (fun j a1 a2 => ?_) (concRows_drop hrows (lo + new.length))
      rw [hcell, if_neg ?_, cell_of hh]
      rw [hnews, ← hzz]
      rw [Nat.add_mul] at a1
      omega
/-- A copy within an own array that reaches beyond its rows. -/
theorem SemO.copyOver {P : Program} {e : Env} {H H1 : List Ob} {α : Type} {y q : Operand} {ts el size by' h ver d s k l : Nat} {z0 : List Leaf} (f : α → List Leaf) (xs : List α) (ht : se P ts = some (el, size, by', z0)) (hy : evO e y = some (.c (.sl h ver d k))) (hq : evO e q = some (.c (.sl h ver s l))) (ho : obj H h ver = some (size, xs.map f)) (hd : d ≤ xs.length) (hk : s + k = xs.length) (hk0 : 0 < k) (hkl : k ≤ l) (hf : ∀ x, (f x).length = size)
    (hs : H1 = H.set h (.live ver size ((xs.take d ++ xs.drop s ++ xs.drop (d + k)).map f))) : SemO P e H (.call { callee := .builtin .copy, args := #[y, q], argTypes := #[ts, ts] }) (.c (I k)) H1 := by
  refine ⟨fun c y z h => (by cases h), fun Γ a o hop hok hg => ?_⟩
  obtain ⟨dst, op, ty, pos, after, guard⟩ := o
  simp only at hop
  subst hop hs
  have g1 := hg y (by simp [Op.operands, Call.operands]) _ hy
  have g2 := hg q (by simp [Op.operands, Call.operands]) _ hq
  simp only [concV, conc] at g1 g2
  obtain ⟨inf, k1, hcapm, k2⟩ := hok.obj ho
  obtain ⟨inf', ver', a', cap, j1, _, j2, j3⟩ := g1
  rw [k1] at j1
  cases j1
  obtain ⟨inf', ver', a2, cap2, i1, _, i2, i3⟩ := g2
  rw [k1] at i1
  cases i1
  obtain ⟨htt, ii, zz, hii, rfl, hbb, hz, hzs, hzl⟩ := se_spec ht
  have j3 := j3 rfl
  have i3 := i3 rfl
  rcases j3 with ⟨hb0, rfl, rfl, _, rfl⟩ | ⟨b, b', hb0, rfl, rfl, hlc, ha⟩
  · omega
  rcases i3 with ⟨hb1, _⟩ | ⟨b2, b3, hb1, rfl, rfl, hlc2, ha2⟩
  · rw [hb0] at hb1; cases hb1
  rw [hb0] at hb1
  cases hb1
  have k2' := k2
  simp only [hb0] at k2'
  obtain ⟨hzz, hX, hF, hrc, hisz, cells, T, hh, hcs, hrows⟩ := k2'
  simp only [List.length_map] at hrc
  obtain rfl := ha (by omega)
  obtain rfl := ha2 (by omega)
  obtain ⟨news, u1, u2, u3⟩ := concRows_cells (concRows_drop hrows s)
  have hdl : ((xs.map f).drop s).length = k := by simp; omega
  rw [hdl, hzz] at u2
  have hnl : ∀ r ∈ (xs.map f).drop s, r.length = ii.size := by
    intro r hr
    obtain ⟨x, _, rfl⟩ := List.mem_map.1 (List.mem_of_mem_drop hr)
    exact hf x
  obtain ⟨Γ', e1, e2, e3⟩ := segOver_sound (P := P) (lo := d) hok ho k1 hb0 (new := (xs.map f).drop s) (by simpa using hd) (by rw [hdl]; exact hlc) hnl u1
  have k4 : (Builtin.firstCells ii.size k (.slice (some ⟨b, inf.off + s * inf.sz, none⟩) l (inf.cap - s))).run P Γ.w = .ok news.toArray Γ.w :=
    run_firstCells_some (P := P) (w := Γ.w) ii.size k _ l _ news u2 (fun j v hj => by rw [add_off]; exact u3 j v hj)
  have k5 : Nat.min l k = k := Nat.min_eq_right hkl
  refine ⟨.int .i64 (k : Int), Γ', .inl ?_, e2, ?_, by simp [concV, conc, Value.oneCell']⟩
  · have k6 : Nat.min k l = k := Nat.min_eq_left hkl
    simp [execOp, resolve, invoke, builtin, j2, i2, Builtin.copy_, run_underlying htt, Builtin.lenOf, sizeOf, typeInfo, hii, k5, k6, k4, e1, goInt]
  · have e4 : segRows (xs.map f) d ((xs.map f).drop s) = (xs.take d ++ xs.drop s ++ xs.drop (d + k)).map f := by
      unfold segRows
      rw [hdl]
      simp [List.map_take, List.map_drop]
    rw [← e4]
    exact e3
/-- Two arrays that are the call's own do not overlap. -/
theorem SemO.apart {P : Program} {e : Env} {H : List Ob} {g y q : Operand} {f : FuncId} {ts tr ta tb el size h ver lo len h2 ver2 lo2 len2 z z2 : Nat} {rest : Nat × List Leaf} {rows rows2 : List (List Leaf)} (ht : se P ts = some (el, size, rest)) (hf : evO e g = some (.c (.clo f []))) (hx : ∀ (args : Array Value) (w : World), (callFunc f args).run P w = ((Extern.SlicesOverlaps.overlaps #[ts, ts] #[tr] args).run P w).andThen fun v w' => .ok (.value v) w') (hy : evO e y = some (.c (.sl h ver lo len))) (hq : evO e q = some (.c (.sl h2 ver2 lo2 len2))) (ho : obj H h ver = some (z, rows)) (ho2 : obj H h2 ver2 = some (z2, rows2)) (hne : h ≠ h2) (hr : 0 < rows.length) (hr2 : 0 < rows2.length) (hl : 0 < len) (hl2 : 0 < len2) :
    SemO P e H (.call { callee := .value g, args := #[y, q], argTypes := #[ta, tb] }) (.c (B false)) H := by
  refine ⟨fun c y z h => (by cases h), fun Γ a o hop hok hg => ?_⟩
  obtain ⟨dst, op, ty, pos, after, guard⟩ := o
  simp only at hop
  subst hop
  have g0 := hg g (by simp [Op.operands, Call.operands]) _ hf
  have g1 := hg y (by simp [Op.operands, Call.operands]) _ hy
  have g2 := hg q (by simp [Op.operands, Call.operands]) _ hq
  simp only [concV, conc, concAll] at g0 g1 g2
  obtain ⟨ys, g0, g0'⟩ := g0
  have hys : ys = #[] := by simpa using g0'
  subst hys
  obtain ⟨inf, k1, hcapm, k2⟩ := hok.obj ho
  obtain ⟨inf2, m1, hcapm2, m2⟩ := hok.obj ho2
  obtain ⟨inf', ver', a', cap, j1, _, j2, j3⟩ := g1
  rw [k1] at j1
  cases j1
  obtain ⟨inf', ver', a2, cap2, i1, _, i2, i3⟩ := g2
  rw [m1] at i1
  cases i1
  rcases j3 rfl with ⟨_, _, _, _, rfl⟩ | ⟨b, b', hb0, rfl, rfl, hlc, ha⟩
  · omega
  rcases i3 rfl with ⟨_, _, _, _, rfl⟩ | ⟨c, c', hc0, rfl, rfl, hlc2, ha2⟩
  · omega
  obtain rfl := ha (by omega)
  obtain rfl := ha2 (by omega)
  have hbc : b ≠ c := by
    intro he
    subst he
    exact hne (hok.apart h h2 ver ver2 z z2 rows rows2 inf inf2 b (obj_some ho) (obj_some ho2) k1 m1 hb0 hc0)
  simp only [hb0] at k2
  simp only [hc0] at m2
  obtain ⟨hzz, hX, hF, hrc, hisz, cells, T, hh, hcs, hrows⟩ := k2
  obtain ⟨hzz2, hX2, hF2, hrc2, hisz2, cells2, T2, hh2, hcs2, hrows2⟩ := m2
  obtain ⟨bytes, zl⟩ := rest
  obtain ⟨htt, ii, zz, hii, rfl, hbb, hz, hzs, hzl⟩ := se_spec ht
  have hpos : 0 < inf2.cap * inf2.sz := Nat.mul_pos (by omega) hisz2
  have hrun := Lib.run_overlaps_apart (P := P) Γ.w ts tr el htt ii.size (fun w => by simp [sizeOf, typeInfo, hii]) ⟨b, inf.off + lo * inf.sz, none⟩ ⟨c, inf2.off + lo2 * inf2.sz, none⟩ len (inf.cap - lo) len2 (inf2.cap - lo2) hbc T T2 cells.size cells2.size (by simp [World.shape?, hh]) (by simp [World.shape?, hh2]) (by omega) (by simp [World.frozen?, hh]) (by simp [World.frozen?, hh])
  refine .val hok (y := .bool false) ?_ (by simp [concV, conc, Value.oneCell'])
  have hxx := hx #[a.eval y, a.eval q] Γ.w
  rw [j2, i2, hrun] at hxx
  simp only [execOp, resolve, invoke, Sem.run_bind, Sem.run_pure, Result.andThen_ok, List.map_toArray, List.map_cons, List.map_nil, g0, j2, i2]
  simp at hxx
  simp [Deferred.ofValue, hxx]
/-- An own array takes another one's place. -/
theorem moveW {F : Fr} {H H1 : List Ob} {t h0 h1 v0 v1 z0 sz len : Nat} {rows0 rows : List (List Leaf)} (ho0 : obj H h0 v0 = some (z0, rows0)) (ho : obj H h1 v1 = some (sz, rows)) (hne : h0 ≠ h1) (hs : (H.set h0 (.live (v0 + 1) sz rows)).set h1 .dead = H1) : St.Weak F ⟨[(t, .c (.sl h1 v1 0 len))], H⟩ ⟨[(t, .c (.sl h0 (v0 + 1) 0 len))], H1⟩ := by
  subst hs
  intro a w hsat
  obtain ⟨d, s, Γ, rfl, hext, hok, henv⟩ := hsat
  obtain ⟨y, hy1, hy2⟩ := henv t (.c (.sl h1 v1 0 len)) (by simp [Env.get])
  obtain ⟨inf0, k1, k2, k3⟩ := hok.obj ho0
  obtain ⟨inf, m1, m2, m3⟩ := hok.obj ho
  have hl0 : h0 < Γ.hs.length := (List.getElem?_eq_some_iff.1 k1).1
  have hH0 : h0 < H.length := by rw [hok.len]; exact hl0
  have hH1 : h1 < H.length := by rw [hok.len]; exact (List.getElem?_eq_some_iff.1 m1).1
  let Γ' : Ctx := { Γ with hs := Γ.hs.set h0 (inf, v0 + 1) }
  have hget : ∀ n, n ≠ h0 → Γ'.hs[n]? = Γ.hs[n]? := fun n hn => by
    show (Γ.hs.set h0 (inf, v0 + 1))[n]? = _
    rw [List.getElem?_set_ne (fun h => hn h.symm)]
  have hget0 : Γ'.hs[h0]? = some (inf, v0 + 1) := by
    show (Γ.hs.set h0 (inf, v0 + 1))[h0]? = _
    simp [hl0]
  have hle : Γ.Le Γ' := ⟨fun _ h => h, fun _ _ => rfl, fun n i v hn => by
    by_cases he : n = h0
    · subst he
      rw [k1] at hn
      cases hn
      exact ⟨inf, v0 + 1, hget0, by omega, fun h => by omega⟩
    · exact ⟨i, v, by rw [hget n he]; exact hn, Nat.le_refl _, fun _ => rfl⟩⟩
  have hE : Γ.Ext Γ' := ⟨hle, rfl, rfl, rfl, Nat.le_refl _, fun _ _ _ => rfl, fun _ h => .inl h, fun _ h => .inl h⟩
  have hob : ∀ n o, ((H.set h0 (.live (v0 + 1) sz rows)).set h1 .dead)[n]? = some o → (o = .dead) ∨ (n = h0 ∧ o = .live (v0 + 1) sz rows) ∨ (n ≠ h0 ∧ n ≠ h1 ∧ H[n]? = some o) := by
    intro n o hn
    by_cases hn1 : h1 = n
    · subst hn1
      have e : ((H.set h0 (.live (v0 + 1) sz rows)).set h1 .dead)[h1]? = some .dead := by simp [hH1]
      rw [e] at hn
      exact .inl (Option.some.inj hn).symm
    · rw [List.getElem?_set_ne hn1] at hn
      by_cases hn0 : h0 = n
      · subst hn0
        have e : (H.set h0 (.live (v0 + 1) sz rows))[h0]? = some (.live (v0 + 1) sz rows) := by simp [hH0]
        rw [e] at hn
        exact .inr (.inl ⟨rfl, (Option.some.inj hn).symm⟩)
      · rw [List.getElem?_set_ne hn0] at hn
        exact .inr (.inr ⟨fun h => hn0 h.symm, fun h => hn1 h.symm, hn⟩)
  refine ⟨d, s, Γ', rfl, hext.trans hE, ⟨by simp [Γ', hok.len], fun n o hn => ?_, fun n n' v v' z1 z2 r r' i1 i2 b e1 e2 e3 e4 e5 e6 => ?_, hok.F, hok.X⟩, fun t' x hx => ?_⟩
  · rcases hob n o hn with rfl | ⟨rfl, rfl⟩ | ⟨q1, q2, q3⟩
    · trivial
    · refine ⟨inf, hget0, m2, ?_⟩
      cases hb : inf.base with
      | none => simp only [hb] at m3; exact m3
      | some b =>
        simp only [hb] at m3
        obtain ⟨c1, c2, c3, c4, c5, cells, T, c6, c7, c8⟩ := m3
        exact ⟨c1, c2, c3, c4, c5, cells, T, c6, c7, concRows_mk fun k r hk => by
          have := concRows_get c8 hk
          exact ⟨this.1, concRow_of hle b _ r (fun _ _ _ => rfl) this.2⟩⟩
    · have := hok.ob n o q3
      exact this.keep hle (fun ver z rows hlive => by rw [hget n q1]) (fun _ _ _ _ _ _ _ _ hx hf => ⟨rfl, hf, hx⟩)
  · have key : ∀ n v z r i, ((H.set h0 (.live (v0 + 1) sz rows)).set h1 .dead)[n]? = some (Ob.live v z r) → Γ'.hs[n]? = some (i, v) → (n = h0 ∧ i = inf) ∨ (n ≠ h0 ∧ n ≠ h1 ∧ H[n]? = some (Ob.live v z r) ∧ Γ.hs[n]? = some (i, v)) := by
      intro n v z r i hn hi
      rcases hob n _ hn with h | ⟨rfl, h⟩ | ⟨q1, q2, q3⟩
      · cases h
      · rw [hget0] at hi
        cases hi
        exact .inl ⟨rfl, rfl⟩
      · rw [hget n q1] at hi
        exact .inr ⟨q1, q2, q3, hi⟩
    rcases key _ _ _ _ _ e1 e3 with ⟨a1, a2⟩ | ⟨a1, a2, a3, a4⟩
    · rcases key _ _ _ _ _ e2 e4 with ⟨b1, b2⟩ | ⟨b1, b2, b3, b4⟩
      · rw [a1, b1]
      · exfalso
        subst a2
        exact b2 (hok.apart n' h1 v' v1 z2 sz r' rows i2 i1 b b3 (obj_some ho) b4 m1 e6 e5)
    · rcases key _ _ _ _ _ e2 e4 with ⟨b1, b2⟩ | ⟨b1, b2, b3, b4⟩
      · exfalso
        subst b2
        exact a2 (hok.apart n h1 v v1 z1 sz r rows i1 i2 b a3 (obj_some ho) a4 m1 e5 e6)
      · exact hok.apart n n' v v' z1 z2 r r' i1 i2 b a3 b3 a4 b4 e5 e6
  · simp only [Env.get] at hx
    split at hx
    · rename_i he
      subst he
      cases hx
      refine ⟨y, hy1, ?_⟩
      simp only [concV, conc] at hy2 ⊢
      obtain ⟨i, v, p, cap, q1, q2, q3, q4⟩ := hy2
      rw [m1] at q1
      cases q1
      exact ⟨inf, v0 + 1, p, cap, hget0, Nat.le_refl _, q3, fun _ => q4 rfl⟩
    · cases hx
theorem stp_from {P : Program} {e : Env} {H : List Ob} {ts : TypeId} {y p : Operand} {el size h ver lo len : Nat} {rest : Nat × List Leaf} {rows : List (List Leaf)} {k : IntKind} {m : Int} (ht : se P ts = some (el, size, rest)) (hy : evO e y = some (.c (.sl h ver lo len))) (ho : obj H h ver = some (size, rows)) (hp : evO e p = some (.c (.v (.int k m)))) (h0 : 0 ≤ m ∧ m ≤ (len : Int)) :
    stp P e H (.slice ts y (some p) none none) = some (.c (.sl h ver (lo + m.toNat) (len - m.toNat)), H) := by
  have hb : 0 ≤ (some m).getD 0 ∧ (some m).getD 0 ≤ (none : Option Int).getD (len : Int) ∧ (none : Option Int).getD (len : Int) ≤ (len : Int) := ⟨h0.1, h0.2, Int.le_refl _⟩
  simp only [stp, hy, optInt, hp, intL, Option.map_some, sliceV, ht, lenL, ho]
  rw [if_pos hb]
  simp
section
variable {P : Program} {W : Option WW} {N : Nat} {Γ0 : Ctx} {A os : List Oper} {gs : List (List (Nat × Bool))} {ex : List Bool} {e : Env} {H H1 : List Ob} {ty : TypeId} {pos : String} {after : Array Edge} {guard : Option (Nat × Bool)} {b : Bool} {t : Nat} {K : Env → List Ob → Prop}
theorem RunR.sliceFrom {ts : TypeId} {y p : Operand} {el size h ver lo len : Nat} {rest : Nat × List Leaf} {rows : List (List Leaf)} {k : IntKind} {m : Int} (ht : se P ts = some (el, size, rest)) (ha : actE e (gs.headD []) = some b) (hw : wOk W (ex.headD false) e H (.slice ts y (some p) none none) = true) (hy : evO e y = some (.c (.sl h ver lo len))) (ho : obj H h ver = some (size, rows)) (hp : evO e p = some (.c (.v (.int k m)))) (h0 : 0 ≤ m ∧ m ≤ (len : Int))
    (hr : RunR P W os gs.tail ex.tail ((t, .c (.sl h ver (lo + m.toNat) (len - m.toNat))) :: e) H K) : RunR P W (⟨some t, .slice ts y (some p) none none, ty, pos, after, guard⟩ :: os) gs ex e H K :=
  .mob rfl rfl ha hw (stp_from ht hy ho hp h0) hr
theorem TextR.sliceFrom {ts : TypeId} {y p : Operand} {el size h ver lo len : Nat} {rest : Nat × List Leaf} {rows : List (List Leaf)} {k : IntKind} {m : Int} (ht : se P ts = some (el, size, rest)) (hy : evO e y = some (.c (.sl h ver lo len))) (ho : obj H h ver = some (size, rows)) (hp : evO e p = some (.c (.v (.int k m)))) (h0 : 0 ≤ m ∧ m ≤ (len : Int))
    (hr : TextR P N Γ0 A os ((t, .c (.sl h ver (lo + m.toNat) (len - m.toNat))) :: e) H K) : TextR P N Γ0 A (⟨some t, .slice ts y (some p) none none, ty, pos, after, none⟩ :: os) e H K :=
  .op (stp_from ht hy ho hp h0) hr
end
theorem cpy_all {α : Type} {xs ys : List α} {lo len : Nat} (h : lo + len = xs.length) (h2 : ys.length = len) : cpy xs lo len ys = xs.take lo ++ ys := by
  unfold cpy
  have e1 : ys.take len = ys := List.take_of_length_le (by omega)
  have e2 : xs.drop (lo + min len ys.length) = [] := List.drop_eq_nil_of_le (by omega)
  rw [e1, e2, List.append_nil]
theorem cpy_one {α : Type} {xs : List α} {x : α} {lo len : Nat} (h2 : 0 < len) : cpy xs lo len [x] = xs.take lo ++ x :: xs.drop (lo + 1) := by
  unfold cpy
  have e1 : [x].take len = [x] := List.take_of_length_le (by simp only [List.length_singleton]; omega)
  have e2 : min len [x].length = 1 := by simp only [List.length_singleton]; omega
  rw [e1, e2]
  simp
theorem cpy_one_take {α : Type} {xs : List α} {x : α} {lo len : Nat} (h2 : 0 < len) (h : lo ≤ xs.length) : (cpy xs lo len [x]).take (lo + 1) = xs.take lo ++ [x] := by
  rw [cpy_one h2, List.take_append, List.length_take, Nat.min_eq_left h, List.take_take, Nat.min_eq_right (by omega), Nat.add_sub_cancel_left]
  simp
/-- What an insertion answers. -/
def ins? {α : Type} (xs : List α) (i : Int) (x : α) : Option (List α) :=
  if 0 ≤ i ∧ i ≤ xs.length ∧ xs.length ≤ 1000000 then some (xs.take i.toNat ++ x :: xs.drop i.toNat) else none
theorem ins_is {α : Type} {xs r : List α} {i : Int} {x : α} (h : ins? xs i x = some r) : (∃ n : Nat, i = (n : Int) ∧ n ≤ xs.length ∧ xs.length ≤ 1000000 ∧ r = xs.take n ++ x :: xs.drop n) := by
  unfold ins? at h
  split at h
  · rename_i h0
    exact ⟨i.toNat, by omega, by omega, h0.2.2, by cases h; rfl⟩
  · cases h
theorem w64_small {m n : Int} (h : m = n) (h0 : -10000000 ≤ n) (h1 : n ≤ 10000000) : IntKind.i64.wrap m = n := by
  subst h
  exact wrap_i64 (by omega) (by omega)
end Go.Nx
/- A map of integers that a function makes for itself: beside the heap that is known, its entries are carried along. -/
namespace Go.Nx
set_option linter.unusedVariables false
set_option linter.unusedSimpArgs false
/-- The map's keys, by age; all of them stand for 'true'. -/
def MapIs (w : World) (r : Nat) (ks : List Int) : Prop := ∃ es clock, w.heap[r]? = some (.map es clock) ∧ es.toList.map (·.key) = ks.map (fun k => Value.int .i64 k) ∧ ∀ e ∈ es.toList, e.val = .bool true
def mapTy (P : Program) (T : TypeId) : Prop := ∃ kt et i, P.underlying T = some (.map kt et) ∧ P.underlying kt = some (.int .i64) ∧ P.info? et = some i ∧ i.zero = some (.bool false)
def mapTyB (P : Program) (T : TypeId) : Bool :=
  match P.underlying T with
  | some (.map kt et) => (match P.underlying kt with | some (.int .i64) => true | _ => false) && (match P.info? et with | some i => (match i.zero with | some (.bool false) => true | _ => false) | none => false)
  | _ => false
theorem mapTy_of {P : Program} {T : TypeId} (h : mapTyB P T = true) : mapTy P T := by
  unfold mapTyB at h
  split at h
  · rename_i kt et h1
    rw [Bool.and_eq_true] at h
    obtain ⟨h2, h3⟩ := h
    split at h2
    · rename_i h4
      split at h3
      · rename_i i h5
        split at h3
        · rename_i h6
          exact ⟨kt, et, i, h1, h4, h5, h6⟩
        · cases h3
      · cases h3
    · cases h2
  · cases h
structure SM where
  env : Env
  heap : List Ob
  ks : List Int
def SatM (F : Fr) (r : Nat) (S : SM) (a : Act) (w : World) : Prop :=
  ∃ Γ1, HeapOk Γ1 [] ∧ F.Γ.Ext Γ1 ∧ F.Γ.w.heap.size ≤ r ∧ r < Γ1.w.heap.size ∧ ¬ Γ1.F r ∧ ¬ Γ1.X r ∧ MapIs Γ1.w r S.ks ∧ Sat F.n Γ1 ⟨S.env, S.heap⟩ a w
def WpM (F : Fr) (r : Nat) (c : Code) (Q : Exit → SM → Prop) (S : SM) : Prop :=
  ∀ a w, SatM F r S a w → c.wp F.P (fun ex a' w' => ∃ S', Q ex S' ∧ SatM F r S' a' w') a w
abbrev Exit.andThenM (k : SM → Prop) (Q : Exit → SM → Prop) : Exit → SM → Prop
  | .normal, S => k S
  | e, S => Q e S
abbrev Exit.ofBlockM (id : Nat) (Q : Exit → SM → Prop) : Exit → SM → Prop
  | .exit id', S => match Nat.beq id' id with
    | true => Q .normal S
    | false => Q (.exit id') S
  | e, S => Q e S
abbrev QM (Q : Exit → SM → Prop) (ks : List Int) : Exit → St → Prop := fun e S => Q e ⟨S.env, S.heap, ks⟩
section
variable {F : Fr} {r : Nat} {Q : Exit → SM → Prop} {S : SM}
/-- Code that does not know of the map leaves it alone. -/
theorem WpM.lift {c : Code} {e : Env} {H : List Ob} {ks : List Int} (h : ∀ Γ, HeapOk Γ [] → Wp ⟨F.P, F.n, Γ⟩ c (QM Q ks) ⟨e, H⟩) : WpM F r c Q ⟨e, H, ks⟩ := by
  intro a w ⟨Γ1, h1, h2, h3, h4, h5, h6, h7, h8⟩
  exact wp_mono (h Γ1 h1 a w h8) fun e a' w' ⟨S', hq, hs'⟩ => ⟨⟨S'.env, S'.heap, ks⟩, hq, Γ1, h1, h2, h3, h4, h5, h6, h7, hs'⟩
theorem WpM.seq {x y : Code} (h : WpM F r x (Exit.andThenM (WpM F r y Q) Q) S) : WpM F r (.seq x y) Q S := by
  intro a w hs
  refine wp_seq (wp_mono (h a w hs) fun e a' w' he => ?_)
  obtain ⟨S', hq, hs'⟩ := he
  cases e with
  | normal => exact hq a' w' hs'
  | _ => exact ⟨S', hq, hs'⟩
theorem WpM.skip (h : Q .normal S) : WpM F r .skip Q S := fun a w hs => wp_skip ⟨S, h, hs⟩
theorem WpM.ret (h : Q .ret S) : WpM F r .ret Q S := fun a w hs => wp_ret ⟨S, h, hs⟩
theorem WpM.exit {id : Nat} (h : Q (.exit id) S) : WpM F r (.exit id) Q S := fun a w hs => wp_exit ⟨S, h, hs⟩
theorem WpM.block {id : Nat} {c : Code} (h : WpM F r c (Exit.ofBlockM id Q) S) : WpM F r (.block id c) Q S := by
  intro a w hs
  refine wp_block (wp_mono (h a w hs) fun e a' w' he => ?_)
  obtain ⟨S', hq, hs'⟩ := he
  cases e with
  | exit id' =>
    simp only [Exit.ofBlockM] at hq
    simp only [Exit.inBlock]
    split
    · rename_i hid
      subst hid
      simp only [Nat.beq_refl] at hq
      exact ⟨S', hq, hs'⟩
    · rename_i hid
      have : Nat.beq id' id = false := by
        cases h : Nat.beq id' id with
        | true => exact absurd (Nat.eq_of_beq_eq_true h) hid
        | false => rfl
      simp only [this] at hq
      exact ⟨S', hq, hs'⟩
  | _ => exact ⟨S', hq, hs'⟩
theorem WpM.cond {t : Nat} {x y : Code} {b : Bool} (hb : S.env.get t = some (.c (.v (.bool b)))) (ht : b = true → WpM F r x Q S) (hf : b = false → WpM F r y Q S) : WpM F r (.cond (.tmp t) x y) Q S := by
  intro a w hs
  have hs' := hs
  obtain ⟨Γ1, h1, h2, h3, h4, h5, h6, h7, d, s, Γ, rfl, hext, hok, henv⟩ := hs'
  obtain ⟨v, g1, g2⟩ := henv t _ hb
  simp only [concV, conc] at g2
  have he : a.eval (.tmp t) = .bool b := by simp [Act.eval, Array.getD_eq_getD_getElem?, g1, g2.1]
  exact wp_cond_split he (fun h => ht h a _ hs) (fun h => hf h a _ hs)
theorem WpM.condM {α : Type} {t : Nat} {x y : Code} {b : Bool} {A B : Option α} {z : α} (h : (if b = true then A else B) = some z) (hb : S.env.get t = some (.c (.v (.bool b)))) (ht : b = true → A = some z → WpM F r x Q S) (hf : b = false → B = some z → WpM F r y Q S) : WpM F r (.cond (.tmp t) x y) Q S :=
  .cond hb (fun hc => ht hc (by rw [if_pos hc] at h; exact h)) (fun hc => hf hc (by rw [if_neg (by simp [hc])] at h; exact h))
theorem WpM.mono {c : Code} {Q' : Exit → SM → Prop} (h : WpM F r c Q S) (hq : ∀ e S', Q e S' → Q' e S') : WpM F r c Q' S :=
  fun a w hs => wp_mono (h a w hs) fun e a' w' ⟨S', h1, h2⟩ => ⟨S', hq e S' h1, h2⟩
theorem WpM.weak {c : Code} {e e' : Env} {H H' : List Ob} {ks : List Int} (hw : ∀ Γ, HeapOk Γ [] → St.Weak ⟨F.P, F.n, Γ⟩ ⟨e, H⟩ ⟨e', H'⟩) (h : WpM F r c Q ⟨e', H', ks⟩) : WpM F r c Q ⟨e, H, ks⟩ := fun a w ⟨Γ1, h1, h2, h3, h4, h5, h6, h7, h8⟩ =>
  h a w ⟨Γ1, h1, h2, h3, h4, h5, h6, h7, hw Γ1 h1 a w h8⟩
def WeakM (F : Fr) (S S' : SM) : Prop := S'.ks = S.ks ∧ ∀ Γ, HeapOk Γ [] → St.Weak ⟨F.P, F.n, Γ⟩ ⟨S.env, S.heap⟩ ⟨S'.env, S'.heap⟩
theorem WeakM.of {e e' : Env} {H H' : List Ob} {ks : List Int} (h : ∀ Γ, HeapOk Γ [] → St.Weak ⟨F.P, F.n, Γ⟩ ⟨e, H⟩ ⟨e', H'⟩) : WeakM F ⟨e, H, ks⟩ ⟨e', H', ks⟩ := ⟨rfl, h⟩
theorem WeakM.sat {S S' : SM} {a : Act} {w : World} (h : WeakM F S S') (hs : SatM F r S a w) : SatM F r S' a w := by
  obtain ⟨Γ1, h1, h2, h3, h4, h5, h6, h7, h8⟩ := hs
  exact ⟨Γ1, h1, h2, h3, h4, h5, h6, by rw [h.1]; exact h7, h.2 Γ1 h1 a w h8⟩
abbrev Exit.frM (I : SM → Prop) : Exit → SM → Prop
  | .normal, S => I S
  | _, _ => False
/-- A piece of code that ends in one way. -/
theorem WpM.frag {c : Code} (I : SM → Prop) (h1 : WpM F r c (Exit.frM I) S) (h2 : ∀ S, I S → Q .normal S) : WpM F r c Q S :=
  h1.mono fun e S' h => by
    cases e with
    | normal => exact h2 S' h
    | _ => exact h.elim
/-- A loop. -/
theorem WpM.loop {c : Code} (I : Nat → SM → Prop) (m : Nat) (h0 : I m S) (round : ∀ m S, I m S → WpM F r c (Exit.andThenM (fun S' => ∃ m', m' < m ∧ ∃ S'', WeakM F S' S'' ∧ I m' S'') Q) S) : WpM F r (.loop c) Q S := by
  intro a w hs b k cs
  have key : ∀ m S a w, I m S → SatM F r S a w →
      ∃ e a' w', (∃ S', Q e S' ∧ SatM F r S' a' w') ∧ Arrives F.P (lone (b.at a (.code c :: .inLoop c :: k)) cs w) b k cs e a' w' := by
    intro m
    induction m using Nat.strongRecOn with
    | _ m ih =>
      intro S a w hI hs
      obtain ⟨e, a₁, w₁, ⟨S', hq, hs'⟩, harr⟩ := round m S hI a w hs b (.inLoop c :: k) cs
      cases e with
      | normal =>
        obtain ⟨m', hlt, S'', hweak, hI'⟩ := hq
        obtain ⟨e₂, a₂, w₂, hq₂, harr₂⟩ := ih m' hlt S'' a₁ w₁ hI' (hweak.sat hs')
        exact ⟨e₂, a₂, w₂, hq₂, .of_steps (Steps.trans harr (.one step_inLoop)) harr₂⟩
      | exit id => exact ⟨_, a₁, w₁, ⟨S', hq, hs'⟩, .pass (x := .inLoop c) rfl (fun _ _ => .inl (by simp)) harr⟩
      | goto l => exact ⟨_, a₁, w₁, ⟨S', hq, hs'⟩, .pass (x := .inLoop c) rfl (fun _ _ => .inl (by simp)) harr⟩
      | ret => exact ⟨_, a₁, w₁, ⟨S', hq, hs'⟩, .pass (x := .inLoop c) rfl (fun _ _ => .inl (by simp)) harr⟩
      | panic ch => exact ⟨_, a₁, w₁, ⟨S', hq, hs'⟩, .pass (x := .inLoop c) rfl (fun _ _ => .inl (by simp)) harr⟩
      | outgrown => exact ⟨_, a₁, w₁, ⟨S', hq, hs'⟩, .pass (x := .inLoop c) rfl (fun _ _ => .inl (by simp)) harr⟩
  obtain ⟨e, a', w', hq, harr⟩ := key m S a w h0 hs
  exact ⟨e, a', w', hq, .of_steps (.one step_loop) harr⟩
/-- What is left of a region, in the text's order. -/
def TextM (F : Fr) (r : Nat) (A : List Oper) (l : List Oper) (S : SM) (K : SM → Prop) : Prop :=
  ∀ (ops : Array Oper) (Q : Exit → Act → World → Prop), ops.toList = A → (∀ o ∈ ops.toList, ∀ t, o.dst = some t → t < F.n) → (∀ S', K S' → ∀ a w, SatM F r S' a w → Q .normal a w) →
    ∀ i, ops.toList.drop i = l → ∀ a w, SatM F r S a w → wpOps F.P ops Q (List.range' i l.length) a w
theorem WpM.text {id : Nat} {l : List Oper} {e : Env} {H : List Ob} {ks : List Int} (live : List Nat) {n : Nat} (hn : F.n = n) (hd : (l.all fun o => match o.dst with | some t => Nat.blt t n | none => true) = true)
    (h : TextM F r l l ⟨e, H, ks⟩ (fun S' => ∃ r', Keeps S'.env live r' ∧ Q .normal ⟨r', S'.heap, S'.ks⟩)) : WpM F r (.region id l.toArray false) Q ⟨e, H, ks⟩ := by
  intro a w hs
  subst hn
  refine wp_region ?_
  rw [List.range_eq_range']
  refine h l.toArray (fun ex a' w' => ∃ S', Q ex S' ∧ SatM F r S' a' w') (by simp) (fun o ho t hot => ?_) (fun S' ⟨r', h1, h2⟩ a w ⟨Γ1, g1, g2, g3, g4, g5, g6, g7, g8⟩ => ⟨⟨r', S'.heap, S'.ks⟩, h2, Γ1, g1, g2, g3, g4, g5, g6, g7, sat_sub h1.get g8⟩) 0 (by simp) a w hs
  rw [List.all_eq_true] at hd
  have := hd o (by simpa using ho)
  rw [hot] at this
  simpa using this
variable {A os : List Oper} {e : Env} {H H1 : List Ob} {ks : List Int} {ty : TypeId} {pos : String} {after : Array Edge} {t : Nat} {d : Option Nat} {x : AVal} {K : SM → Prop} {o1 : Op}
theorem TextM.done {live : List Nat} {r' : Env} (h : Keeps e live r') (h2 : Q .normal ⟨r', H, ks⟩) : TextM F r A [] ⟨e, H, ks⟩ (fun S' => ∃ r', Keeps S'.env live r' ∧ Q .normal ⟨r', S'.heap, S'.ks⟩) := by
  intro ops Q' hA hd hQ i hl a w hs
  simp only [List.length_nil, List.range'_zero, wpOps]
  exact hQ ⟨e, H, ks⟩ ⟨r', h, h2⟩ a w hs
theorem TextM.op (hs : stp F.P e H o1 = some (x, H1)) (hr : TextM F r A os ⟨putE e d x, H1, ks⟩ K) : TextM F r A (⟨d, o1, ty, pos, after, none⟩ :: os) ⟨e, H, ks⟩ K := by
  intro ops Q hA hd hQ i hl a w hsat
  obtain ⟨hi, hl', hmem⟩ := drop_next hl
  rw [List.length_cons, List.range'_succ, wpOps_cons]
  obtain ⟨Γ1, g1, g2, g3, g4, g5, g6, g7, df, sz, Γ, rfl, hext, hok, henv⟩ := hsat
  unfold wpOp
  simp only [hi]
  have hg0 : wantE A e (⟨d, o1, ty, pos, after, none⟩ : Oper).guard = some true := rfl
  rw [wanted_eq hA henv hg0, if_pos rfl]
  left
  obtain ⟨y, Γ', hr', hext', hok', hcv⟩ := stp_sound (P := F.P) (o := ⟨d, o1, ty, pos, after, none⟩) hok (fun p _ => good_env henv p) hs
  have hnx := hr ops Q hA hd hQ (i + 1) hl' (a.put d y) Γ'.w ⟨Γ1, g1, g2, g3, g4, g5, g6, g7, by rw [put_defers]; exact df, by rw [put_size]; exact sz, Γ', rfl, hext.trans hext', hok', put_sat sz henv hext'.le (hd _ hmem) hcv⟩
  unfold Oper.wp
  rcases hr' with hr' | ⟨hr', rfl⟩
  · rw [hr', Oper.upon_value]; exact hnx
  · rw [hr', Oper.upon_skip]; exact hnx
theorem TextM.move {y : Operand} (h : evO e y = some x) (hr : TextM F r A os ⟨(t, x) :: e, H, ks⟩ K) : TextM F r A (⟨some t, .move y, ty, pos, after, none⟩ :: os) ⟨e, H, ks⟩ K := .op (by simp [stp, h]) hr
theorem TextM.assign {y : Operand} (h : evO e y = some x) (hr : TextM F r A os ⟨(t, x) :: e, H, ks⟩ K) : TextM F r A (⟨some t, .assign y, ty, pos, after, none⟩ :: os) ⟨e, H, ks⟩ K := .op (by simp [stp, h]) hr
/-- An operation that reads the map. -/
theorem TextM.reads (hs : ∀ (Γ : Ctx) (a : Act) (o : Oper), o.op = o1 → HeapOk Γ H → MapIs Γ.w r ks → (∀ p ∈ o1.operands, Good Γ e a p) → ∃ y, (execOp a.eval o).run F.P Γ.w = .ok (.value y) Γ.w ∧ concV Γ x y) (hr : TextM F r A os ⟨putE e d x, H, ks⟩ K) : TextM F r A (⟨d, o1, ty, pos, after, none⟩ :: os) ⟨e, H, ks⟩ K := by
  intro ops Q hA hd hQ i hl a w hsat
  obtain ⟨hi, hl', hmem⟩ := drop_next hl
  rw [List.length_cons, List.range'_succ, wpOps_cons]
  obtain ⟨Γ1, g1, g2, g3, g4, g5, g6, g7, df, sz, Γ, rfl, hext, hok, henv⟩ := hsat
  unfold wpOp
  simp only [hi]
  have hg0 : wantE A e (⟨d, o1, ty, pos, after, none⟩ : Oper).guard = some true := rfl
  rw [wanted_eq hA henv hg0, if_pos rfl]
  left
  have hm : MapIs Γ.w r ks := by
    obtain ⟨es, clock, m1, m2⟩ := g7
    exact ⟨es, clock, by rw [hext.frame r g4 g6]; exact m1, m2⟩
  obtain ⟨y, hy, hcv⟩ := hs Γ a ⟨d, o1, ty, pos, after, none⟩ rfl hok hm (fun p _ => good_env henv p)
  have hnx := hr ops Q hA hd hQ (i + 1) hl' (a.put d y) Γ.w ⟨Γ1, g1, g2, g3, g4, g5, g6, g7, by rw [put_defers]; exact df, by rw [put_size]; exact sz, Γ, rfl, hext, hok, put_sat sz henv (.refl Γ) (hd _ hmem) hcv⟩
  unfold Oper.wp
  rw [hy, Oper.upon_value]
  exact hnx
theorem TextM.lookup {y k : Operand} {T : TypeId} {n : Int} (hT : mapTy F.P T) (hy : evO e y = some (.c (.v (.map (some r))))) (hk : evO e k = some (.c (I n))) (hr : TextM F r A os ⟨(t, .c (B (ks.contains n))) :: e, H, ks⟩ K) : TextM F r A (⟨some t, .lookup T y k false, ty, pos, after, none⟩ :: os) ⟨e, H, ks⟩ K :=
  .reads (x := .c (B (ks.contains n))) (fun Γ a o hop hok hm hg => by
    obtain ⟨dst, op, ty, pos, after, guard⟩ := o
    simp only at hop
    subst hop
    have h1 := hg y (by simp [Op.operands]) _ hy
    have h2 := hg k (by simp [Op.operands]) _ hk
    simp only [concV, conc] at h1 h2
    obtain ⟨kt, et, i, t1, t2, t3, t4⟩ := hT
    obtain ⟨es, clock, m1, m2, m3⟩ := hm
    have hkey : ∀ x ∈ es.toList, MapKept.IsKey (.int .i64) x.key := fun x hx => by
      have : x.key ∈ es.toList.map (·.key) := List.mem_map.2 ⟨x, hx, rfl⟩
      rw [m2] at this
      obtain ⟨z, _, hz⟩ := List.mem_map.1 this
      rw [← hz]
      rfl
    have hmem : ∀ z : Int, (∃ x ∈ es.toList, x.key = .int .i64 z) ↔ z ∈ ks := fun z => by
      have : (Value.int .i64 z) ∈ es.toList.map (·.key) ↔ (Value.int .i64 z) ∈ ks.map (fun k => Value.int .i64 k) := by rw [m2]
      simpa using this
    have hck := MapKept.run_checkKey (P := F.P) (w := Γ.w) (d := .int .i64) (k := .int .i64 n) t2 rfl es.isEmpty 9999
    rcases MapKept.findNow_spec (d := .int .i64) (k := .int .i64 n) rfl es.toList 0 hkey with ⟨f1, f2⟩ | ⟨j, x, f1, f2, f3⟩
    · refine ⟨.bool false, ?_, ?_⟩
      · have hf := MapKept.run_findKey (P := F.P) (w := Γ.w) t2 f1
        simp [execOp, Instr.lookup, h1.1, h2.1, run_underlying t1, MapKept.run_getObj_map m1, hck, hf, zeroValue, typeInfo, t3, t4, Result.andThen]
      · have : ks.contains n = false := by
          rw [Bool.eq_false_iff]
          intro hc
          obtain ⟨x, hx, he⟩ := (hmem n).2 (by simpa using hc)
          exact f2 x hx he
        rw [this]
        exact ⟨rfl, rfl⟩
    · refine ⟨.bool true, ?_, ?_⟩
      · have hf := MapKept.run_findKey (P := F.P) (w := Γ.w) t2 f1
        have hx : x.val = .bool true := m3 x (List.mem_of_getElem? f2)
        simp [execOp, Instr.lookup, h1.1, h2.1, run_underlying t1, MapKept.run_getObj_map m1, hck, hf, hx, Result.andThen]
      · have : ks.contains n = true := by
          have := (hmem n).1 ⟨x, List.mem_of_getElem? f2, f3⟩
          simpa using this
        rw [this]
        exact ⟨rfl, rfl⟩) hr
/-- The map with a key more. -/
theorem TextM.update {y k : Operand} {T : TypeId} {n : Int} (hT : mapTy F.P T) (hy : evO e y = some (.c (.v (.map (some r))))) (hk : evO e k = some (.c (I n))) (hn : ks.contains n = false) (hr : TextM F r A os ⟨putE e d unit, H, ks ++ [n]⟩ K) : TextM F r A (⟨d, .mapUpdate T y k (.const (.bool true)), ty, pos, after, none⟩ :: os) ⟨e, H, ks⟩ K := by
  intro ops Q hA hd hQ i hl a w hsat
  obtain ⟨hi, hl', hmem⟩ := drop_next hl
  rw [List.length_cons, List.range'_succ, wpOps_cons]
  obtain ⟨Γ1, g1, g2, g3, g4, g5, g6, g7, df, sz, Γ, rfl, hext, hok, henv⟩ := hsat
  unfold wpOp
  simp only [hi]
  have hg0 : wantE A e (⟨d, .mapUpdate T y k (.const (.bool true)), ty, pos, after, none⟩ : Oper).guard = some true := rfl
  rw [wanted_eq hA henv hg0, if_pos rfl]
  left
  obtain ⟨es, clock, m1, m2, m3⟩ := g7
  have m1' : Γ.w.heap[r]? = some (.map es clock) := by rw [hext.frame r g4 g6]; exact m1
  have h1 := good_env henv y _ hy
  have h2 := good_env henv k _ hk
  simp only [concV, conc] at h1 h2
  obtain ⟨kt, et, i0, t1, t2, t3, t4⟩ := hT
  have hkey : ∀ x ∈ es.toList, MapKept.IsKey (.int .i64) x.key := fun x hx => by
    have : x.key ∈ es.toList.map (·.key) := List.mem_map.2 ⟨x, hx, rfl⟩
    rw [m2] at this
    obtain ⟨z, _, hz⟩ := List.mem_map.1 this
    rw [← hz]
    rfl
  have hck := MapKept.run_checkKey (P := F.P) (w := Γ.w) (d := .int .i64) (k := .int .i64 n) t2 rfl false 9999
  rcases MapKept.findNow_spec (d := .int .i64) (k := .int .i64 n) rfl es.toList 0 hkey with ⟨f1, f2⟩ | ⟨j, x, f1, f2, f3⟩
  · have hf := MapKept.run_findKey (P := F.P) (w := Γ.w) t2 f1
    obtain ⟨u1, u2⟩ := MapKept.heap_set (o' := .map (es.push ⟨.int .i64 n, .bool true, clock⟩) (clock + 1)) m1'
    let w' : World := { Γ.w with heap := Γ.w.heap.setIfInBounds r (.map (es.push ⟨.int .i64 n, .bool true, clock⟩) (clock + 1)) }
    let Γ' : Ctx := { Γ with w := w' }
    have hFr : ¬ Γ.F r := fun h => by
      rcases hext.Fnew r h with h | h | h
      · exact g5 h
      · exact g6 h
      · omega
    have hXr : ¬ Γ.X r := fun h => by
      rcases hext.Xnew r h with h | h
      · exact g6 h
      · omega
    have hle : Γ.Le Γ' := ⟨fun _ h => h, fun b hb => u2 b (fun e => hFr (e ▸ hb)), fun n inf ver h => ⟨inf, ver, h, Nat.le_refl _, fun _ => rfl⟩⟩
    have hsz : Γ'.w.heap.size = Γ.w.heap.size := by simp [Γ', w']
    have hok' : HeapOk Γ' H := ⟨hok.len, fun h o ho => (hok.ob h o ho).keep hle (fun _ _ _ _ => rfl) (fun _ _ _ _ b _ _ _ hx hf => ⟨u2 b (fun e => hXr (e ▸ hx)), hf, hx⟩), hok.apart, fun b hb => by rw [hsz]; exact hok.F b hb, fun b hb => by rw [hsz]; exact hok.X b hb⟩
    have hbase : HeapOk { Γ' with hs := [] } [] := ⟨rfl, fun h o ho => by simp at ho, fun h h' v v' z z' rows rows' inf inf' b e1 => by simp at e1, hok'.F, hok'.X⟩
    have h0 : F.Γ.Ext { Γ' with hs := [] } := by
      have hx := g2.trans hext
      refine ⟨⟨hx.le.F, fun b hb => ?_, fun h inf ver hh => ?_⟩, hx.os, hx.tape, hx.output, ?_, fun b hb hX => ?_, hx.Fnew, hx.Xnew⟩
      · rw [← hx.le.mem b hb]
        exact u2 b (fun e => hFr (e ▸ hx.le.F b hb))
      · obtain ⟨inf', ver', q1, _⟩ := g2.le.hs h inf ver hh
        have := g1.len
        have hlt := (List.getElem?_eq_some_iff.1 q1).1
        simp at this
        omega
      · show F.Γ.w.heap.size ≤ Γ'.w.heap.size
        rw [hsz]; exact hx.size
      · rw [← hx.frame b hb hX]
        exact u2 b (by omega)
    have hbe : Ctx.Ext { Γ' with hs := [] } Γ' := ⟨⟨fun _ h => h, fun _ _ => rfl, fun n inf ver h => by simp at h⟩, rfl, rfl, rfl, Nat.le_refl _, fun _ _ _ => rfl, fun _ h => .inl h, fun _ h => .inl h⟩
    have hmi : MapIs w' r (ks ++ [n]) := ⟨_, _, u1, by simp [m2], fun x hx => by
      simp only [Array.toList_push, List.mem_append, List.mem_singleton] at hx
      rcases hx with hx | rfl
      · exact m3 x hx
      · rfl⟩
    have hnx := hr ops Q hA hd hQ (i + 1) hl' (a.put d undef) Γ'.w ⟨{ Γ' with hs := [] }, hbase, h0, g3, by show r < Γ'.w.heap.size; rw [hsz]; exact Nat.lt_of_lt_of_le g4 hext.size, hFr, hXr, hmi, by rw [put_defers]; exact df, by rw [put_size]; exact sz, Γ', rfl, hbe, hok', put_sat sz henv hle (hd _ hmem) (by simp [concV, concVs, undef])⟩
    unfold Oper.wp
    have hrun : (execOp a.eval (⟨d, .mapUpdate T y k (.const (.bool true)), ty, pos, after, none⟩ : Oper)).run F.P Γ.w = .ok .skip w' := by
      have hc : a.eval (.const (.bool true)) = .bool true := rfl
      simp [execOp, Instr.mapUpdate, h1.1, h2.1, run_underlying t1, MapKept.run_getObj_map m1', hck, hf, MapKept.run_setObj_map _ m1', Result.andThen, hc, w']
    rw [hrun, Oper.upon_skip]
    exact hnx
  · exfalso
    have : Value.int .i64 n ∈ es.toList.map (·.key) := List.mem_map.2 ⟨x, List.mem_of_getElem? f2, f3⟩
    rw [m2] at this
    obtain ⟨z, hz, hz2⟩ := List.mem_map.1 this
    cases hz2
    simp [hz] at hn
end
theorem wpOp_take {P : Program} {ops : Array Oper} {Q : Exit → Act → World → Prop} {i : Nat} {o : Oper} {K : Act → World → Prop} {a : Act} {w : World} (hi : ops[i]? = some o) (hg : o.guard = none) (h : o.wp P a w K Q) : wpOp P ops Q i K a w := by
  unfold wpOp
  simp only [hi]
  rw [if_pos (by simp [Region.wanted, hg])]
  exact .inl h
/-- From where the map is made. -/
theorem Wp.makeMap {F : Fr} {Q : Exit → St → Prop} {e r0 : Env} {H : List Ob} {id t t2 T : Nat} {ty ty2 : TypeId} {pos pos2 : String} {after after2 : Array Edge} {y : Code} (live : List Nat) {n : Nat} (hn : F.n = n) (hok0 : HeapOk F.Γ []) (ht : Nat.blt t n = true) (ht2 : Nat.blt t2 n = true) (hk : ∀ r, Keeps ((t2, .c (.v (.map (some r)))) :: (t, .c (.v (.map (some r)))) :: e) live ((t2, .c (.v (.map (some r)))) :: r0))
    (h : ∀ r, WpM F r y (fun ex S' => Q ex ⟨S'.env, S'.heap⟩) ⟨(t2, .c (.v (.map (some r)))) :: r0, H, []⟩) : Wp F (.seq (.region id #[⟨some t, .makeMap T none, ty, pos, after, none⟩, ⟨some t2, .assign (.tmp t), ty2, pos2, after2, none⟩] false) y) Q ⟨e, H⟩ := by
  subst hn
  intro a w hs
  obtain ⟨df, sz, Γ, rfl, hext, hok, henv⟩ := hs
  let w' : World := Γ.w.alloc (.map #[] 0)
  let Γ' : Ctx := { Γ with w := w' }
  have hold : ∀ b, b < Γ.w.heap.size → w'.heap[b]? = Γ.w.heap[b]? := fun b hb => (MapKept.heap_alloc Γ.w (.map #[] 0)).2 b hb
  have hsz : w'.heap.size = Γ.w.heap.size + 1 := by simp [w']
  have hle : Γ.Le Γ' := ⟨fun _ h => h, fun b hb => hold b (hok.F b hb), fun n inf ver h => ⟨inf, ver, h, Nat.le_refl _, fun _ => rfl⟩⟩
  have hok' : HeapOk Γ' H := ⟨hok.len, fun h o ho => (hok.ob h o ho).keep hle (fun _ _ _ _ => rfl) (fun _ _ _ _ b _ _ _ hx hf => ⟨hold b (hok.X b hx), hf, hx⟩), hok.apart, fun b hb => by show b < w'.heap.size; have := hok.F b hb; omega, fun b hb => by show b < w'.heap.size; have := hok.X b hb; omega⟩
  have hbase : HeapOk { Γ' with hs := [] } [] := ⟨rfl, fun h o ho => by simp at ho, fun h h' v v' z z' rows rows' inf inf' b e1 => by simp at e1, hok'.F, hok'.X⟩
  have h0 : F.Γ.Ext { Γ' with hs := [] } := by
    refine ⟨⟨hext.le.F, fun b hb => ?_, fun h inf ver hh => ?_⟩, hext.os, hext.tape, hext.output, ?_, fun b hb hX => ?_, hext.Fnew, hext.Xnew⟩
    · rw [← hext.le.mem b hb]
      exact hold b (hok.F b (hext.le.F b hb))
    · have := hok0.len
      have hlt := (List.getElem?_eq_some_iff.1 hh).1
      simp at this
      omega
    · show F.Γ.w.heap.size ≤ w'.heap.size
      have := hext.size
      omega
    · rw [← hext.frame b hb hX]
      exact hold b (Nat.lt_of_lt_of_le hb hext.size)
  have hbe : Ctx.Ext { Γ' with hs := [] } Γ' := ⟨⟨fun _ h => h, fun _ _ => rfl, fun n inf ver h => by simp at h⟩, rfl, rfl, rfl, Nat.le_refl _, fun _ _ _ => rfl, fun _ h => .inl h, fun _ h => .inl h⟩
  have hmi : MapIs w' Γ.w.heap.size [] := ⟨#[], 0, (MapKept.heap_alloc Γ.w (.map #[] 0)).1, by simp, by simp⟩
  have ht' : t < F.n := by simpa using ht
  have ht2' : t2 < F.n := by simpa using ht2
  have hv : ∀ Γ : Ctx, concV Γ (.c (.v (.map (some Γ'.w.heap.size)))) (.map (some Γ'.w.heap.size)) := fun Γ => ⟨rfl, rfl⟩
  have hv2 : concV Γ' (.c (.v (.map (some Γ.w.heap.size)))) (.map (some Γ.w.heap.size)) := ⟨rfl, rfl⟩
  have hp1 : ∀ t0 x, Env.get ((t, .c (.v (.map (some Γ.w.heap.size)))) :: e) t0 = some x → ∃ y, (a.put (some t) (.map (some Γ.w.heap.size))).tmps[t0]? = some y ∧ concV Γ' x y := put_sat (d := some t) sz henv hle (fun t' ht' => by cases ht'; assumption) hv2
  have sz1 : (a.put (some t) (.map (some Γ.w.heap.size))).tmps.size = F.n := by rw [put_size]; exact sz
  have hev : (a.put (some t) (.map (some Γ.w.heap.size))).eval (.tmp t) = .map (some Γ.w.heap.size) := by
    obtain ⟨y, q1, q2⟩ := hp1 t (.c (.v (.map (some Γ.w.heap.size)))) (by simp [Env.get])
    have q2 : y = .map (some Γ.w.heap.size) ∧ True := ⟨q2.1, trivial⟩
    simp [Act.eval, Array.getD_eq_getD_getElem?, q1, q2.1]
  have hp2 : ∀ t0 x, Env.get ((t2, .c (.v (.map (some Γ.w.heap.size)))) :: (t, .c (.v (.map (some Γ.w.heap.size)))) :: e) t0 = some x → ∃ y, ((a.put (some t) (.map (some Γ.w.heap.size))).put (some t2) (.map (some Γ.w.heap.size))).tmps[t0]? = some y ∧ concV Γ' x y := put_sat (d := some t2) sz1 hp1 (.refl Γ') (fun t' ht' => by cases ht'; assumption) hv2
  have hfin : SatM F Γ.w.heap.size ⟨(t2, .c (.v (.map (some Γ.w.heap.size)))) :: r0, H, []⟩ ((a.put (some t) (.map (some Γ.w.heap.size))).put (some t2) (.map (some Γ.w.heap.size))) w' :=
    ⟨{ Γ' with hs := [] }, hbase, h0, hext.size, by show _ < w'.heap.size; omega, fun h => absurd (hok.F _ h) (by omega), fun h => absurd (hok.X _ h) (by omega), hmi, sat_sub (hk Γ.w.heap.size).get ⟨by rw [put_defers, put_defers]; exact df, by rw [put_size]; exact sz1, Γ', rfl, hbe, hok', hp2⟩⟩
  have hwp := h Γ.w.heap.size _ _ hfin
  have hrun1 : (execOp a.eval (⟨some t, .makeMap T none, ty, pos, after, none⟩ : Oper)).run F.P Γ.w = .ok (.value (.map (some Γ.w.heap.size))) w' := by
    rfl
  have hrun2 : (execOp (a.put (some t) (.map (some Γ.w.heap.size))).eval (⟨some t2, .assign (.tmp t), ty2, pos2, after2, none⟩ : Oper)).run F.P w' = .ok (.value (.map (some Γ.w.heap.size))) w' := by
    simp [execOp, hev]
  refine wp_seq (wp_region ?_)
  rw [List.range_eq_range']
  show wpOps F.P #[_, _] _ [0, 1] a Γ.w
  rw [wpOps_cons]
  refine wpOp_take (o := ⟨some t, .makeMap T none, ty, pos, after, none⟩) rfl rfl ?_
  unfold Oper.wp
  rw [hrun1, Oper.upon_value, wpOps_cons]
  refine wpOp_take (o := ⟨some t2, .assign (.tmp t), ty2, pos2, after2, none⟩) rfl rfl ?_
  unfold Oper.wp
  rw [hrun2, Oper.upon_value]
  refine wp_mono hwp fun ex a' w'' ⟨S', q1, Γ1, q2, q3, _, _, _, _, _, df', sz', Γ2, q4, q5, q6, q7⟩ => ⟨⟨S'.env, S'.heap⟩, q1, df', sz', Γ2, q4, q3.trans q5, q6, q7⟩
end Go.Nx
