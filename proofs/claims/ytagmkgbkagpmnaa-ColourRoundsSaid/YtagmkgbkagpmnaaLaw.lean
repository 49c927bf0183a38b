/- The plain laws: what the models come to. -/
import Derived.Test.YtagmkgbkagpmnaaMod
namespace Go.Proofs.Ytagmkgbkagpmnaa
open Go Go.Nx
set_option linter.unusedVariables false
set_option linter.unusedSimpArgs false
set_option linter.unnecessarySimpa false
set_option maxRecDepth 8000
theorem w64_nat {i : Nat} (h : i < 1000000000) : w64 ((i : Int) + 1) = ((i + 1 : Nat) : Int) := by
  have : IntKind.i64.wrap ((i : Int) + 1) = (i : Int) + 1 := wrap_i64 (by omega) (by omega)
  simpa using this
theorem w64_is {n : Int} (h1 : -9223372036854775808 ≤ n) (h2 : n < 9223372036854775808) : w64 n = n := wrap_i64 h1 h2
theorem at_nat {α : Type} {xs : List α} {i : Nat} : at? xs (i : Int) = xs[i]? := by
  simp [at?]
theorem drop_at {α : Type} {xs : List α} {i : Nat} {x : α} (h : xs[i]? = some x) : xs.drop i = x :: xs.drop (i + 1) := by
  obtain ⟨hl, rfl⟩ := List.getElem?_eq_some_iff.1 h
  exact List.drop_eq_getElem_cons hl
theorem take_at {α : Type} {xs : List α} {i : Nat} {x : α} (h : xs[i]? = some x) : xs.take (i + 1) = xs.take i ++ [x] := by
  obtain ⟨hl, rfl⟩ := List.getElem?_eq_some_iff.1 h
  simp
theorem some_at {α : Type} {xs : List α} {i : Nat} (h : i < xs.length) : ∃ x, xs[i]? = some x := ⟨_, List.getElem?_eq_getElem h⟩
theorem app_ok {α : Type} {xs ys : List α} (h : xs.length + ys.length ≤ 1000000) : app? xs ys = some (xs ++ ys) := by
  simp [app?]
  omega
/-! Loops, as folds and searches. -/
/-- A loop: from what holds at each head. -/
theorem loopI {σ ρ : Type} (L : Nat → σ → Option ρ) (I : σ → Prop) (μ : σ → Nat) (R : ρ → Prop) (h : ∀ n s, I s → (∃ s', I s' ∧ μ s' < μ s ∧ L (n + 1) s = L n s') ∨ ∃ r, L (n + 1) s = some r ∧ R r) : ∀ (n : Nat) (s : σ), I s → μ s < n → ∃ r, L n s = some r ∧ R r
  | 0, s, _, hm => by omega
  | n + 1, s, hs, hm => by
    rcases h n s hs with ⟨s', h1, h2, h3⟩ | ⟨r, h1, h2⟩
    · rw [h3]
      exact loopI L I μ R h n s' h1 (by omega)
    · exact ⟨r, h1, h2⟩
/-- A search by place. -/
theorem findR {ρ : Type} {L : Nat → Int → Option (ρ ⊕ Unit)} {len : Nat} {p : Nat → Bool} {r : ρ} (h1 : ∀ n i, i < len → L (n + 1) (i : Int) = if p i = true then some (.inl r) else L n ((i + 1 : Nat) : Int)) (h2 : ∀ n, L (n + 1) (len : Int) = some (.inr ())) :
    ∀ (n i k : Nat), k < n → i + k = len → L n (i : Int) = some (if (List.range' i k).any p = true then .inl r else .inr ())
  | 0, i, k, h, hi => by omega
  | n + 1, i, 0, h, hi => by
    obtain rfl : i = len := by omega
    rw [h2]
    simp
  | n + 1, i, k + 1, h, hi => by
    rw [h1 n i (by omega), List.range'_succ, List.any_cons]
    cases hp : p i with
    | true => simp
    | false =>
      rw [if_neg (by simp), findR h1 h2 n (i + 1) k (by omega) (by omega), Bool.false_or]
theorem findR0 {ρ : Type} {L : Nat → Int → Option (ρ ⊕ Unit)} {len : Nat} {p : Nat → Bool} {r : ρ} (h1 : ∀ n i, i < len → L (n + 1) (i : Int) = if p i = true then some (.inl r) else L n ((i + 1 : Nat) : Int)) (h2 : ∀ n, L (n + 1) (len : Int) = some (.inr ())) {N : Nat} (hN : len < N) :
    L N 0 = some (if (List.range len).any p = true then .inl r else .inr ()) := by
  have h := findR h1 h2 N 0 len hN (by omega)
  rw [show ((0 : Nat) : Int) = 0 from rfl, ← List.range_eq_range'] at h
  exact h
/-- A search by what stands there. -/
theorem anyR {α ρ : Type} {L : Nat → Int → Option (ρ ⊕ Unit)} {xs : List α} {q : α → Bool} {r : ρ} (h1 : ∀ n (i : Nat) x, xs[i]? = some x → L (n + 1) (i : Int) = if q x = true then some (.inl r) else L n ((i + 1 : Nat) : Int)) (h2 : ∀ n, L (n + 1) (xs.length : Int) = some (.inr ())) {N : Nat} (hN : xs.length < N) :
    L N 0 = some (if xs.any q = true then .inl r else .inr ()) := by
  have h := findR0 (L := L) (len := xs.length) (p := fun i => match xs[i]? with | some x => q x | none => false) (r := r) (fun n i hi => by
    have hx : xs[i]? = some xs[i] := List.getElem?_eq_getElem hi
    rw [h1 n i _ hx]
    simp only [hx]) h2 hN
  rw [h]
  have : ((List.range xs.length).any fun i => match xs[i]? with | some x => q x | none => false) = xs.any q := by
    rw [Bool.eq_iff_iff, List.any_eq_true, List.any_eq_true]
    constructor
    · rintro ⟨j, hj, hq⟩
      rw [List.mem_range] at hj
      rw [List.getElem?_eq_getElem hj] at hq
      exact ⟨_, List.getElem_mem hj, hq⟩
    · rintro ⟨x, hx, hq⟩
      obtain ⟨j, hj, rfl⟩ := List.getElem_of_mem hx
      exact ⟨j, List.mem_range.2 hj, by rw [List.getElem?_eq_getElem hj]; exact hq⟩
  rw [this]
/-- A search that tells the place. -/
theorem placeR {α : Type} {L : Nat → Int → Option (Int ⊕ Unit)} {xs : List α} {q : α → Bool} (h1 : ∀ n (i : Nat) x, xs[i]? = some x → L (n + 1) (i : Int) = if q x = true then some (.inl (i : Int)) else L n ((i + 1 : Nat) : Int)) (h2 : ∀ n, L (n + 1) (xs.length : Int) = some (.inr ())) :
    ∀ (n i : Nat), xs.length < n + i → i ≤ xs.length → (∀ x ∈ xs.take i, q x = false) → L n (i : Int) = some (match xs.findIdx? q with | some j => .inl (j : Int) | none => .inr ())
  | 0, i, h, hi, _ => by omega
  | n + 1, i, h, hi, ht => by
    rcases Nat.lt_or_ge i xs.length with hlt | hge
    · have hx : xs[i]? = some xs[i] := List.getElem?_eq_getElem hlt
      rw [h1 n i _ hx]
      cases hq : q xs[i] with
      | true =>
        have : xs.findIdx? q = some i := by
          rw [List.findIdx?_eq_some_iff_getElem]
          refine ⟨hlt, hq, fun j hj => ?_⟩
          have := ht xs[j] (by rw [List.mem_take_iff_getElem]; exact ⟨j, by omega, rfl⟩)
          simp [this]
        rw [if_pos rfl, this]
      | false =>
        rw [if_neg (by simp)]
        refine placeR h1 h2 n (i + 1) (by omega) (by omega) (fun x hx' => ?_)
        rw [List.take_succ_eq_append_getElem hlt, List.mem_append, List.mem_singleton] at hx'
        rcases hx' with h | rfl
        · exact ht x h
        · exact hq
    · have : i = xs.length := by omega
      subst this
      have : xs.findIdx? q = none := by
        rw [List.findIdx?_eq_none_iff]
        intro x hx
        exact ht x (by simpa using hx)
      rw [h2, this]
/-- A fold. -/
theorem foldR {α σ ρ : Type} {L : Nat → σ → Int → Option ρ} {xs : List α} {f : σ → α → σ} {fin : σ → Option ρ} (I : Nat → σ → Prop) (h1 : ∀ n (i : Nat) s x, I i s → xs[i]? = some x → L (n + 1) s (i : Int) = L n (f s x) ((i + 1 : Nat) : Int) ∧ I (i + 1) (f s x)) (h2 : ∀ n s, I xs.length s → L (n + 1) s (xs.length : Int) = fin s) :
    ∀ (n i : Nat) (s : σ), xs.length < n + i → i ≤ xs.length → I i s → L n s (i : Int) = fin ((xs.drop i).foldl f s) ∧ I xs.length ((xs.drop i).foldl f s)
  | 0, i, s, h, hi, _ => by omega
  | n + 1, i, s, h, hi, hs => by
    rcases Nat.lt_or_ge i xs.length with hlt | hge
    · have hx : xs[i]? = some xs[i] := List.getElem?_eq_getElem hlt
      obtain ⟨e1, e2⟩ := h1 n i s _ hs hx
      rw [e1, List.drop_eq_getElem_cons hlt, List.foldl_cons]
      exact foldR I h1 h2 n (i + 1) _ (by omega) (by omega) e2
    · have : i = xs.length := by omega
      subst this
      rw [h2 n s hs, List.drop_length]
      exact ⟨rfl, hs⟩
theorem foldR0 {α σ ρ : Type} {L : Nat → σ → Int → Option ρ} {xs : List α} {f : σ → α → σ} {fin : σ → Option ρ} (I : Nat → σ → Prop) (h1 : ∀ n (i : Nat) s x, I i s → xs[i]? = some x → L (n + 1) s (i : Int) = L n (f s x) ((i + 1 : Nat) : Int) ∧ I (i + 1) (f s x)) (h2 : ∀ n s, I xs.length s → L (n + 1) s (xs.length : Int) = fin s) {N : Nat} {s : σ} (hN : xs.length < N) (hs : I 0 s) :
    L N s 0 = fin (xs.foldl f s) ∧ I xs.length (xs.foldl f s) := by
  have h := foldR I h1 h2 N 0 s (by omega) (by omega) hs
  rw [show ((0 : Nat) : Int) = 0 from rfl, List.drop_zero] at h
  exact h
/-- A scan: the first place where it stops. -/
theorem scanR' {ρ : Type} {L : Nat → Int → Option ρ} {len : Nat} {p : Nat → Bool} {r : Nat → ρ} {e : ρ} (h1 : ∀ n i, i < len → L (n + 1) (i : Int) = if p i = true then some (r i) else L n ((i + 1 : Nat) : Int)) (h2 : ∀ n, L (n + 1) (len : Int) = some e) :
    ∀ (n i k : Nat), k < n → i + k = len → L n (i : Int) = some (match (List.range' i k).find? p with | some j => r j | none => e)
  | 0, i, k, h, hi => by omega
  | n + 1, i, 0, h, hi => by
    obtain rfl : i = len := by omega
    rw [h2]
    simp
  | n + 1, i, k + 1, h, hi => by
    rw [h1 n i (by omega), List.range'_succ, List.find?_cons]
    cases hp : p i with
    | true => simp
    | false =>
      rw [if_neg (by simp), scanR' h1 h2 n (i + 1) k (by omega) (by omega)]
theorem scanR {ρ : Type} {L : Nat → Int → Option ρ} {len : Nat} {p : Nat → Bool} {r : Nat → ρ} {e : ρ} (h1 : ∀ n i, i < len → L (n + 1) (i : Int) = if p i = true then some (r i) else L n ((i + 1 : Nat) : Int)) (h2 : ∀ n, L (n + 1) (len : Int) = some e) {N : Nat} (hN : len < N) :
    L N 0 = some (match (List.range len).find? p with | some j => r j | none => e) := by
  have h := scanR' h1 h2 N 0 len hN (by omega)
  rw [show ((0 : Nat) : Int) = 0 from rfl, ← List.range_eq_range'] at h
  exact h
theorem any_place {α : Type} (q : α → Bool) (l : List α) : (Option.bind (match (match l.findIdx? q with | some j => (.inl (j : Int) : Int ⊕ Unit) | none => .inr ()) with | .inl r => some r | .inr _ => some (-1)) fun y1 => some (decide (y1 ≥ 0))) = some (l.any q) := by
  cases h : l.findIdx? q with
  | none =>
    rw [List.findIdx?_eq_none_iff] at h
    have : l.any q = false := by
      rw [List.any_eq_false]
      intro x hx
      simp [h x hx]
    simp [this]
  | some j =>
    rw [List.findIdx?_eq_some_iff_getElem] at h
    obtain ⟨h1, h2, _⟩ := h
    have : l.any q = true := List.any_eq_true.2 ⟨_, List.getElem_mem h1, h2⟩
    simp [this]
theorem refhas_eq {N : Nat} {l : List Int} {x : Int} (hN : 1000 < N) (hb : l.length ≤ 1000) : narthexref01_Has N l x = some (decide (x ∈ l)) := by
  unfold narthexref01_Has
  rw [anyR (L := narthexref01_Has_L1 N l x) (xs := l) (q := fun y => y == x) (r := true) (fun n i y hy => by
    have hl := (List.getElem?_eq_some_iff.1 hy).1
    rw [narthexref01_Has_L1, if_pos (by simpa using hl), at_nat, hy, Option.bind_some, w64_nat (by omega)]) (fun n => by rw [narthexref01_Has_L1, if_neg (by simp)]) (by omega), Option.bind_some]
  have : l.any (fun y => y == x) = decide (x ∈ l) := by
    rw [Bool.eq_iff_iff]; simp
  rw [this]
  by_cases h : x ∈ l <;> simp [h]
theorem index_eq {N : Nat} {l : List Int} {x : Int} (hN : 1000 < N) (hb : l.length ≤ 1000) : slices_Index_int N l x = some (match l.findIdx? (fun y => x == y) with | some j => (j : Int) | none => -1) := by
  unfold slices_Index_int
  have h := placeR (L := slices_Index_int_L1 N l x) (xs := l) (q := fun y => x == y) (fun n i y hy => by
    have hl := (List.getElem?_eq_some_iff.1 hy).1
    rw [slices_Index_int_L1, if_pos (by simpa using hl), at_nat, hy, Option.bind_some, w64_nat (by omega)]) (fun n => by rw [slices_Index_int_L1, if_neg (by simp)]) N 0 (by omega) (by omega) (by simp)
  rw [show ((0 : Nat) : Int) = 0 from rfl] at h
  rw [h, Option.bind_some]
  cases l.findIdx? (fun y => x == y) <;> rfl
theorem contains_eq {N : Nat} {l : List Int} {x : Int} (hN : 1000 < N) (hb : l.length ≤ 1000) : slices_Contains_int N l x = some (decide (x ∈ l)) := by
  unfold slices_Contains_int
  rw [index_eq hN hb, Option.bind_some]
  congr 1
  rw [Bool.eq_iff_iff]
  cases h : l.findIdx? (fun y => x == y) with
  | none =>
    rw [List.findIdx?_eq_none_iff] at h
    simp only [decide_eq_true_eq]
    constructor
    · intro h1; omega
    · intro h1; have := h x h1; simp at this
  | some j =>
    rw [List.findIdx?_eq_some_iff_getElem] at h
    obtain ⟨h1, h2, _⟩ := h
    simp only [decide_eq_true_eq]
    have : x = l[j] := by simpa using h2
    exact ⟨fun _ => this ▸ List.getElem_mem h1, fun _ => by omega⟩
theorem ext_at {α : Type} {a b : List α} (hl : a.length = b.length) (h : ∀ (i : Nat) x y, a[i]? = some x → b[i]? = some y → x = y) : a = b := by
  refine List.ext_getElem hl fun i h1 h2 => h i _ _ (List.getElem?_eq_getElem h1) (List.getElem?_eq_getElem h2)
theorem sameI_eq {N : Nat} {a b : List Int} (hN : 1000 < N) (hb : a.length ≤ 1000) : narthexref01_Same N a b = some (decide (a = b)) := by
  unfold narthexref01_Same
  by_cases hl : a.length = b.length
  · rw [if_neg (by simp [hl]), findR0 (L := narthexref01_Same_L1 N a b) (len := a.length) (p := fun i => a[i]? != b[i]?) (r := false) (fun n i hi => by
      obtain ⟨x, hx⟩ := some_at hi
      obtain ⟨y, hy⟩ := some_at (xs := b) (i := i) (by omega)
      rw [narthexref01_Same_L1, if_pos (by simpa using hi), at_nat, at_nat, hx, hy, Option.bind_some, Option.bind_some, w64_nat (by omega)]
      simp [bne]) (fun n => by rw [narthexref01_Same_L1, if_neg (by simp)]) (by omega), Option.bind_some]
    by_cases he : a = b
    · subst he
      simp
    · have : ((List.range a.length).any fun i => a[i]? != b[i]?) = true := by
        rw [List.any_eq_true]
        apply Classical.byContradiction
        intro hn
        refine he (ext_at hl fun i x y hx hy => ?_)
        apply Classical.byContradiction
        intro hxy
        exact hn ⟨i, List.mem_range.2 (List.getElem?_eq_some_iff.1 hx).1, by rw [hx, hy]; simpa using hxy⟩
      rw [this]
      simp [he]
  · rw [if_pos (by simpa using fun e => hl (by omega))]
    simp [show a ≠ b from fun e => hl (by rw [e])]
theorem sub_take {α : Type} {xs : List α} {i : Nat} (h : i ≤ xs.length) : sub? xs 0 (i : Int) = some (xs.take i) := by
  rw [sub?, if_pos (by omega)]; simp
theorem sub_drop {α : Type} {xs : List α} {i : Nat} (h : i ≤ xs.length) : sub? xs (i : Int) (xs.length : Int) = some (xs.drop i) := by
  rw [sub?, if_pos (by omega)]; simp
theorem dedG_mem {p : Int} : ∀ {l : List Int}, (p :: l).Pairwise (· ≤ ·) → (dedG p l).Pairwise (· < ·) ∧ (∀ x, x ∈ dedG p l ↔ x ∈ l ∧ x ≠ p) ∧ ∀ x ∈ dedG p l, p < x
  | [], _ => by simp [dedG]
  | y :: ys, h => by
    rw [List.pairwise_cons] at h
    have h2 := h.2
    rw [List.pairwise_cons] at h2
    obtain ⟨i1, i2, i3⟩ := dedG_mem (p := y) (l := ys) h.2
    have hpy := h.1 y (by simp)
    unfold dedG
    split
    · rename_i he
      subst he
      refine ⟨i1, fun x => ?_, i3⟩
      rw [i2]
      constructor
      · rintro ⟨a, b⟩; exact ⟨List.mem_cons_of_mem _ a, b⟩
      · rintro ⟨a, b⟩
        rcases List.mem_cons.1 a with a | a
        · exact absurd a b
        · exact ⟨a, b⟩
    · rename_i he
      refine ⟨List.pairwise_cons.2 ⟨i3, i1⟩, fun x => ?_, fun x hx => ?_⟩
      · rw [List.mem_cons, List.mem_cons, i2]
        constructor
        · rintro (rfl | ⟨a, b⟩)
          · exact ⟨.inl rfl, he⟩
          · refine ⟨.inr a, fun e => ?_⟩
            have := h2.1 x a
            omega
        · rintro ⟨a | a, b⟩
          · exact .inl a
          · by_cases hxy : x = y
            · exact .inl hxy
            · exact .inr ⟨a, hxy⟩
      · rcases List.mem_cons.1 hx with rfl | hx
        · omega
        · have := i3 x hx
          omega
def S (l : List Int) : List Int := dedup (isort l)
theorem dedup_mem {l : List Int} (h : l.Pairwise (· ≤ ·)) : (dedup l).Pairwise (· < ·) ∧ ∀ x, x ∈ dedup l ↔ x ∈ l := by
  cases l with
  | nil => simp [dedup]
  | cons p l =>
    obtain ⟨i1, i2, i3⟩ := dedG_mem h
    refine ⟨List.pairwise_cons.2 ⟨i3, i1⟩, fun x => ?_⟩
    rw [dedup, List.mem_cons, List.mem_cons, i2]
    constructor
    · rintro (a | ⟨a, _⟩)
      · exact .inl a
      · exact .inr a
    · rintro (a | a)
      · exact .inl a
      · by_cases hx : x = p
        · exact .inl hx
        · exact .inr ⟨a, hx⟩
theorem S_strict (l : List Int) : (S l).Pairwise (· < ·) := (dedup_mem (isort_sorted l)).1
theorem S_mem {l : List Int} {x : Int} : x ∈ S l ↔ x ∈ l := ((dedup_mem (isort_sorted l)).2 x).trans (isort_perm l).mem_iff
theorem S_len (l : List Int) : (S l).length ≤ l.length := by
  have := dedup_le (isort l)
  rwa [length_isort] at this
theorem strict_ext : ∀ {s t : List Int}, s.Pairwise (· < ·) → t.Pairwise (· < ·) → (∀ x, x ∈ s ↔ x ∈ t) → s = t := by
  intro s t hs ht h
  refine List.Perm.eq_of_pairwise (le := (· < ·)) (fun a b _ _ h1 h2 => by omega) hs ht ?_
  have hn : ∀ {u : List Int}, u.Pairwise (· < ·) → u.Nodup := fun hu => hu.imp (fun h => by omega)
  exact (List.perm_ext_iff_of_nodup (hn hs) (hn ht)).2 h
theorem S_eq {l s : List Int} (hs : s.Pairwise (· < ·)) (h : ∀ x, x ∈ s ↔ x ∈ l) : S l = s := strict_ext (S_strict l) hs fun x => S_mem.trans (h x).symm
theorem S_self {s : List Int} (hs : s.Pairwise (· < ·)) : S s = s := S_eq hs fun _ => Iff.rfl
theorem of_eq {N : Nat} {l : List Int} (h : l.length ≤ 1000) : set_Of N l = some (S l) := by
  have h1 : slices_Clone_int N l = some l := by simp [slices_Clone_int, app_ok (xs := ([] : List Int)) (ys := l) (by simp; omega)]
  have h2 : sort? l = some (isort l) := by rw [sort?, if_pos (by omega)]
  have h3 : ded? (isort l) = some (S l) := by rw [ded?, if_pos (by rw [length_isort]; omega)]; rfl
  simp [set_Of, h1, h2, h3]
def tab (m : Nat) (d : Int → Int) : List Int := (List.range m).map fun i : Nat => d (i : Int)
def upd (d : Int → Int) (t v : Int) : Int → Int := fun a => if a = t then v else d a
theorem tab_len (m : Nat) (d : Int → Int) : (tab m d).length = m := by simp [tab]
theorem tab_at {m : Nat} {d : Int → Int} {a : Int} (h0 : 0 ≤ a) (h1 : a < m) : at? (tab m d) a = some (d a) := by
  obtain ⟨k, rfl⟩ : ∃ k : Nat, a = (k : Int) := ⟨a.toNat, by omega⟩
  rw [at_nat, tab, List.getElem?_map, List.getElem?_range (by omega)]
  rfl
theorem tab_set {m : Nat} {d : Int → Int} {a v : Int} (h0 : 0 ≤ a) : (tab m d).set a.toNat v = tab m (upd d a v) := by
  obtain ⟨k, rfl⟩ : ∃ k : Nat, a = (k : Int) := ⟨a.toNat, by omega⟩
  refine List.ext_getElem? fun i => ?_
  rw [Int.toNat_natCast, List.getElem?_set]
  simp only [tab, List.length_map, List.length_range, List.getElem?_map]
  by_cases hik : k = i
  · subst hik
    rw [if_pos rfl]
    by_cases hl : k < m
    · rw [if_pos hl, List.getElem?_range hl]
      simp [upd]
    · rw [if_neg hl]
      simp [hl]
  · rw [if_neg hik]
    by_cases hl : i < m
    · rw [List.getElem?_range hl]
      simp [upd]
      intro e
      exact absurd (Int.ofNat.inj e).symm hik
    · simp [hl]
theorem tab_zero (m : Nat) : List.replicate m (0 : Int) = tab m fun _ => 0 := by
  refine List.ext_getElem? fun i => ?_
  simp only [tab, List.getElem?_map, List.getElem?_replicate]
  by_cases hl : i < m
  · simp [hl]
  · simp [hl]
/-- Each depth is one more than the deepest one's that points to it. -/
theorem foldl_filter {p : Nat → Bool} : ∀ (m : Nat), ((List.range m).filter p).map Int.ofNat = (List.range m).foldl (fun out i => if p i = true then out ++ [(i : Int)] else out) []
  | 0 => rfl
  | m + 1 => by
    rw [List.range_succ, List.filter_append, List.map_append, foldl_filter m, List.foldl_append]
    cases h : p m <;> simp [h]
theorem range_at {m i x : Nat} (h : (List.range m)[i]? = some x) : x = i ∧ i < m := by
  obtain ⟨h1, h2⟩ := List.getElem?_eq_some_iff.1 h
  simp at h1 h2
  exact ⟨h2.symm, h1⟩

/-! Graphs. -/
theorem ownG_eq {N : Nat} {g : TGraph} (h : g.Edges.length ≤ 1000) : narthexlaw03_Own N g = some g := by
  simp [narthexlaw03_Own, app_ok (xs := ([] : List TEdge)) (ys := g.Edges) (by simp; omega)]
def ltE (x y : TEdge) : Prop := x.A < y.A ∨ (x.A = y.A ∧ x.B < y.B)
instance (x y : TEdge) : Decidable (ltE x y) := inferInstanceAs (Decidable (_ ∨ _))
structure GoodG (g : TGraph) : Prop where
  lo : 0 ≤ g.N
  hi : g.N ≤ 64
  len : g.Edges.length ≤ 400
  edge : ∀ e ∈ g.Edges, 0 ≤ e.A ∧ e.A < e.B ∧ e.B < g.N
  sorted : ∀ (i : Nat) x y, g.Edges[i]? = some x → g.Edges[i + 1]? = some y → ltE x y
theorem GoodG.nat {g : TGraph} (h : GoodG g) : ∃ m : Nat, g.N = (m : Int) ∧ m ≤ 64 := ⟨g.N.toNat, by have := h.lo; omega, by have := h.hi; omega⟩
theorem compare_eq {N : Nat} {x y : Int} : cmp_Compare_int N x y = some (if x < y then -1 else if x > y then 1 else 0) := by
  simp only [cmp_Compare_int, cmp_isNaN_int, Option.bind_some, bne_self_eq_false, Bool.false_eq_true, if_false, decide_eq_true_eq]
  split
  · rfl
  · split <;> rfl
theorem rank_eq {N : Nat} {x y : TEdge} (hN : 2 < N) : ∃ r, graph_rank N x y = some r ∧ (r ≥ 0 ↔ ¬ ltE x y) ∧ (r = 0 ↔ x = y) ∧ (r < 0 ↔ ltE x y) := by
  obtain ⟨M, rfl⟩ : ∃ M, N = M + 3 := ⟨N - 3, by omega⟩
  have e3 : w64 (0 + 1) = 1 := by decide
  have e4 : w64 (1 + 1) = 2 := by decide
  have hor0 : ∀ q : Int, cmp_Or_int (M + 3) [0, q] = some q := by
    intro q
    unfold cmp_Or_int
    rw [cmp_Or_int_L1, if_pos (by simp), show at? [0, q] 0 = some 0 from rfl, Option.bind_some, if_neg (by simp), e3, cmp_Or_int_L1, if_pos (by simp), show at? [0, q] 1 = some q from rfl, Option.bind_some]
    by_cases hq : q = 0
    · rw [if_neg (by simp [hq]), e4, cmp_Or_int_L1, if_neg (by simp), Option.bind_some, hq]
    · rw [if_pos (by simp [hq]), Option.bind_some]
  have hor1 : ∀ p q : Int, p ≠ 0 → cmp_Or_int (M + 3) [p, q] = some p := by
    intro p q hp
    unfold cmp_Or_int
    rw [cmp_Or_int_L1, if_pos (by simp), show at? [p, q] 0 = some p from rfl, Option.bind_some, if_pos (by simp [hp]), Option.bind_some]
  have hor : ∀ p q : Int, cmp_Or_int (M + 3) [p, q] = some (if p ≠ 0 then p else q) := by
    intro p q
    by_cases hp : p = 0
    · subst hp
      rw [hor0]
      rfl
    · rw [hor1 p q hp, if_pos hp]
  unfold graph_rank
  rw [compare_eq, Option.bind_some, compare_eq, Option.bind_some, hor, Option.bind_some]
  refine ⟨_, rfl, ?_⟩
  obtain ⟨xa, xb⟩ := x
  obtain ⟨ya, yb⟩ := y
  simp only [ltE, TEdge.mk.injEq]
  refine ⟨?_, ?_, ?_⟩ <;> split <;> (try split) <;> (try split) <;> (try split) <;> omega
def oddE (n : Int) (e : TEdge) : Bool := (decide (e.A < 0)) || (decide (e.A ≥ e.B)) || (decide (e.B ≥ n))
theorem gcheck_any {N : Nat} {l : List TEdge} {n : Int} {u : List TEdge} (hN : 1000 < N) (hl : l.length ≤ 400) : slices_ContainsFunc_Edge N l n u = some (l.any (oddE n)) := by
  unfold slices_ContainsFunc_Edge slices_IndexFunc_Edge
  have h := placeR (L := slices_IndexFunc_Edge_L1 N l n u) (xs := l) (q := oddE n) (fun k i y hy => by
    have hl' := (List.getElem?_eq_some_iff.1 hy).1
    rw [slices_IndexFunc_Edge_L1, if_pos (by simpa using hl'), at_nat, hy, Option.bind_some, w64_nat (by omega)]
    rfl) (fun k => by rw [slices_IndexFunc_Edge_L1, if_neg (by simp)]) N 0 (by omega) (by omega) (by simp)
  rw [show ((0 : Nat) : Int) = 0 from rfl] at h
  rw [h, Option.bind_some]
  exact any_place _ _

theorem sub_one {i : Nat} (h : 0 < i) (h2 : i < 100000) : w64 ((i : Int) - 1) = ((i - 1 : Nat) : Int) := by
  rw [w64_is (by omega) (by omega)]; omega
def oddAt (g : TGraph) (i : Nat) : Bool := match g.Edges[i]? with | some x => oddE g.N x | none => false
def outAt (g : TGraph) (i : Nat) : Bool := match i with
  | 0 => false
  | k + 1 => match g.Edges[k]?, g.Edges[k + 1]? with | some x, some y => !decide (ltE x y) | _, _ => false
theorem goodG_iff {g : TGraph} (h1 : 0 ≤ g.N) (h2 : g.N ≤ 64) (h3 : g.Edges.length ≤ 400) : (g.Edges.any (oddE g.N) = false ∧ (List.range g.Edges.length).any (outAt g) = false) ↔ GoodG g := by
  rw [List.any_eq_false, List.any_eq_false]
  constructor
  · rintro ⟨h, h'⟩
    refine ⟨h1, h2, h3, fun e he => ?_, fun i x y hx hy => ?_⟩
    · have := h e he
      simp only [oddE, Bool.or_eq_true, decide_eq_true_eq] at this
      omega
    · have := h' (i + 1) (List.mem_range.2 (List.getElem?_eq_some_iff.1 hy).1)
      simpa [outAt, hx, hy] using this
  · intro hg
    refine ⟨fun e he => ?_, fun i hi => ?_⟩
    · have := hg.edge e he
      simp only [oddE, Bool.or_eq_true, decide_eq_true_eq]
      omega
    · rw [List.mem_range] at hi
      cases i with
      | zero => simp [outAt]
      | succ k =>
        obtain ⟨x, hx⟩ := some_at (xs := g.Edges) (i := k) (by omega)
        obtain ⟨y, hy⟩ := some_at hi
        have := hg.sorted k x y hx hy
        simp [outAt, hx, hy, this]
theorem gcheck_eq {N : Nat} {g : TGraph} (hN : 1000 < N) : (GoodG g ∧ graph_Check N g = some 0) ∨ (¬ GoodG g ∧ graph_Check N g = some 30) := by
  unfold graph_Check
  by_cases h : g.N < 0 ∨ g.N > 64 ∨ g.Edges.length > 400
  · have e : ((decide (g.N < 0)) || (decide (g.N > 64)) || (decide ((g.Edges.length : Int) > 400))) = true := by simp; omega
    rw [e, if_neg (by simp), Option.bind_some, if_pos (by simp)]
    exact .inr ⟨fun g' => by have := g'.lo; have := g'.hi; have := g'.len; omega, rfl⟩
  · have e : ((decide (g.N < 0)) || (decide (g.N > 64)) || (decide ((g.Edges.length : Int) > 400))) = false := by simp; omega
    have hg := goodG_iff (g := g) (by omega) (by omega) (by omega)
    rw [e, if_pos (by simp), gcheck_any hN (by omega), Option.bind_some, Bool.false_or]
    cases ho : g.Edges.any (oddE g.N) with
    | true => exact .inr ⟨fun g' => (by have := (hg.2 g').1; rw [ho] at this; cases this), rfl⟩
    | false =>
      have hs := findR0 (L := graph_Check_L1 N g) (len := g.Edges.length) (p := outAt g) (r := 30) (fun n i hi => by
        rw [graph_Check_L1, if_pos (by simpa using hi), w64_nat (by omega)]
        cases i with
        | zero => simp [outAt]
        | succ k =>
          obtain ⟨x, hx⟩ := some_at (xs := g.Edges) (i := k) (by omega)
          obtain ⟨y, hy⟩ := some_at hi
          obtain ⟨r, hr, hr1, _⟩ := rank_eq (N := N) (x := x) (y := y) (by omega)
          have e0 : decide (((k + 1 : Nat) : Int) > 0) = true := by simp only [decide_eq_true_eq]; omega
          rw [e0, if_pos rfl, sub_one (by omega) (by omega), Nat.add_sub_cancel, at_nat, hx, Option.bind_some, if_pos rfl, at_nat, hy, Option.bind_some, if_pos rfl, hr, Option.bind_some]
          have e1 : decide (r ≥ 0) = !decide (ltE x y) := by
            rw [Bool.eq_iff_iff]
            simpa using hr1
          rw [e1]
          simp [outAt, hx, hy]) (fun n => by rw [graph_Check_L1, if_neg (by simp)]) (N := N) (by omega)
      rw [ho] at hg
      rw [if_neg (by simp), hs, Option.bind_some]
      cases hb : (List.range g.Edges.length).any (outAt g) with
      | true => exact .inr ⟨fun g' => (by have := (hg.2 g').2; rw [hb] at this; cases this), rfl⟩
      | false => exact .inl ⟨hg.1 ⟨rfl, hb⟩, rfl⟩
theorem refgcheck_eq {N : Nat} {g : TGraph} (hN : 1000 < N) : (GoodG g ∧ narthexref03_Check N g = some true) ∨ (¬ GoodG g ∧ narthexref03_Check N g = some false) := by
  unfold narthexref03_Check
  by_cases h : g.N < 0 ∨ g.N > 64 ∨ g.Edges.length > 400
  · rw [if_pos (by simp; omega)]
    exact .inr ⟨fun g' => by have := g'.lo; have := g'.hi; have := g'.len; omega, rfl⟩
  · have hg := goodG_iff (g := g) (by omega) (by omega) (by omega)
    rw [if_neg (by simp; omega), findR0 (L := narthexref03_Check_L1 N g) (len := g.Edges.length) (p := fun i => oddAt g i || outAt g i) (r := false) (fun n i hi => by
      obtain ⟨y, hy⟩ := some_at hi
      rw [narthexref03_Check_L1, if_pos (by simpa using hi), at_nat, hy, Option.bind_some, w64_nat (by omega)]
      change (Option.bind (if (!(oddE g.N y) && (decide ((i : Int) > 0))) = true then _ else _) fun x5 => Option.bind (if (!(oddE g.N y) && (decide ((i : Int) > 0))) = true then _ else _) fun y6 => if (oddE g.N y || ((decide ((i : Int) > 0)) && (!y6))) = true then _ else _) = _
      have ho : oddAt g i = oddE g.N y := by simp [oddAt, hy]
      simp only [ho]
      by_cases hb : oddE g.N y = true
      · simp [hb]
      · have hb : oddE g.N y = false := by simpa using hb
        simp only [hb]
        cases i with
        | zero => simp [outAt]
        | succ k =>
          obtain ⟨x, hx⟩ := some_at (xs := g.Edges) (i := k) (by omega)
          have e0 : decide (((k + 1 : Nat) : Int) > 0) = true := by simp only [decide_eq_true_eq]; omega
          rw [e0, if_pos (by simp), sub_one (by omega) (by omega), Nat.add_sub_cancel, at_nat, hx, Option.bind_some, if_pos (by simp)]
          simp only [narthexref03_ahead, Option.bind_some, Bool.false_or, Bool.true_and]
          have e1 : (decide (x.A < y.A) || x.A == y.A && decide (x.B < y.B)) = decide (ltE x y) := by
            rw [Bool.eq_iff_iff, decide_eq_true_iff (p := ltE x y)]
            simp [ltE]
          rw [e1]
          simp [outAt, hx, hy]) (fun n => by rw [narthexref03_Check_L1, if_neg (by simp)]) (N := N) (by omega), Option.bind_some]
    have e : ((List.range g.Edges.length).any fun i => oddAt g i || outAt g i) = (g.Edges.any (oddE g.N) || (List.range g.Edges.length).any (outAt g)) := by
      rw [Bool.eq_iff_iff]
      simp only [List.any_eq_true, Bool.or_eq_true, List.mem_range]
      constructor
      · rintro ⟨i, hi, h | h⟩
        · rw [oddAt, List.getElem?_eq_getElem hi] at h
          exact .inl ⟨_, List.getElem_mem hi, h⟩
        · exact .inr ⟨i, hi, h⟩
      · rintro (⟨x, hx, h⟩ | ⟨i, hi, h⟩)
        · obtain ⟨i, hi, rfl⟩ := List.getElem_of_mem hx
          exact ⟨i, hi, .inl (by rw [oddAt, List.getElem?_eq_getElem hi]; exact h)⟩
        · exact ⟨i, hi, .inr h⟩
    rw [e]
    cases ha : g.Edges.any (oddE g.N) with
    | true => exact .inr ⟨fun g' => (by have := (hg.2 g').1; rw [ha] at this; cases this), rfl⟩
    | false =>
      cases hb : (List.range g.Edges.length).any (outAt g) with
      | true => exact .inr ⟨fun g' => (by have := (hg.2 g').2; rw [hb] at this; cases this), rfl⟩
      | false => exact .inl ⟨hg.1 ⟨ha, hb⟩, rfl⟩
/-! Who is near. -/
def adj (g : TGraph) (a b : Int) : Bool := g.Edges.any fun e => decide (e.A = a ∧ e.B = b) || decide (e.A = b ∧ e.B = a)
def near (m : Nat) (g : TGraph) (a : Int) : List Int := ((List.range m).filter fun b : Nat => adj g a (b : Int)).map Int.ofNat
theorem adj_iff {g : TGraph} {a b : Int} : adj g a b = true ↔ ∃ e ∈ g.Edges, (e.A = a ∧ e.B = b) ∨ (e.A = b ∧ e.B = a) := by simp [adj]
theorem adj_comm {g : TGraph} {a b : Int} : adj g a b = adj g b a := by
  rw [Bool.eq_iff_iff, adj_iff, adj_iff]
  constructor
  · rintro ⟨e, he, h | h⟩
    · exact ⟨e, he, .inr h⟩
    · exact ⟨e, he, .inl h⟩
  · rintro ⟨e, he, h | h⟩
    · exact ⟨e, he, .inr h⟩
    · exact ⟨e, he, .inl h⟩
theorem adj_ok {g : TGraph} (hg : GoodG g) {a b : Int} (h : adj g a b = true) : 0 ≤ a ∧ a < g.N ∧ 0 ≤ b ∧ b < g.N ∧ a ≠ b := by
  obtain ⟨e, he, h⟩ := adj_iff.1 h
  have := hg.edge e he
  omega
theorem mem_near {m : Nat} {g : TGraph} (hg : GoodG g) (hm : g.N = (m : Int)) {a b : Int} : b ∈ near m g a ↔ adj g a b = true := by
  unfold near
  rw [List.mem_map]
  constructor
  · rintro ⟨k, hk, rfl⟩
    exact (List.mem_filter.1 hk).2
  · intro h
    have := adj_ok hg h
    refine ⟨b.toNat, List.mem_filter.2 ⟨List.mem_range.2 (by omega), ?_⟩, by simp; omega⟩
    rwa [show ((b.toNat : Nat) : Int) = b by omega]
theorem near_strict (m : Nat) (g : TGraph) (a : Int) : (near m g a).Pairwise (· < ·) := by
  unfold near
  rw [List.pairwise_map]
  exact (List.pairwise_lt_range.filter _).imp fun h => by simpa using h
theorem near_len (m : Nat) (g : TGraph) (a : Int) : (near m g a).length ≤ m := by
  have := List.length_filter_le (fun b : Nat => adj g a (b : Int)) (List.range m)
  simp [near] at this ⊢
  omega
theorem refhasE_eq {N : Nat} {g : TGraph} {a b : Int} (hN : 1000 < N) (hl : g.Edges.length ≤ 400) (h1 : a ≤ b ∨ b < a) : narthexref03_Has N g a b = some (g.Edges.any fun e => ((e.A == a) && (e.B == b) && decide (a ≤ b)) || ((e.A == b) && (e.B == a) && decide (b < a))) := by
  unfold narthexref03_Has
  rw [anyR (L := narthexref03_Has_L1 N g a b) (xs := g.Edges) (q := fun e => ((e.A == a) && (e.B == b) && decide (a ≤ b)) || ((e.A == b) && (e.B == a) && decide (b < a))) (r := true) (fun n i y hy => by
    have hl' := (List.getElem?_eq_some_iff.1 hy).1
    rw [narthexref03_Has_L1, if_pos (by simpa using hl'), at_nat, hy, Option.bind_some, w64_nat (by omega)]) (fun n => by rw [narthexref03_Has_L1, if_neg (by simp)]) (by omega), Option.bind_some]
  cases g.Edges.any fun e => ((e.A == a) && (e.B == b) && decide (a ≤ b)) || ((e.A == b) && (e.B == a) && decide (b < a)) <;> rfl
theorem refhas_adj {N : Nat} {g : TGraph} {a b : Int} (hN : 1000 < N) (hg : GoodG g) : narthexref03_Has N g a b = some (adj g a b) := by
  rw [refhasE_eq hN hg.len (by omega)]
  congr 1
  rw [Bool.eq_iff_iff, adj_iff]
  simp only [List.any_eq_true, Bool.or_eq_true, Bool.and_eq_true, beq_iff_eq, decide_eq_true_eq]
  constructor
  · rintro ⟨e, he, ⟨⟨h1, h2⟩, _⟩ | ⟨⟨h1, h2⟩, _⟩⟩
    · exact ⟨e, he, .inl ⟨h1, h2⟩⟩
    · exact ⟨e, he, .inr ⟨h1, h2⟩⟩
  · rintro ⟨e, he, ⟨h1, h2⟩ | ⟨h1, h2⟩⟩
    · have := hg.edge e he
      exact ⟨e, he, .inl ⟨⟨h1, h2⟩, by omega⟩⟩
    · have := hg.edge e he
      exact ⟨e, he, .inr ⟨⟨h1, h2⟩, by omega⟩⟩
theorem refnear_eq {N m : Nat} {g : TGraph} {a : Int} (hN : 1000 < N) (hg : GoodG g) (hm : g.N = (m : Int)) : narthexref03_Near N g a = some (near m g a) := by
  have hm2 := hg.hi
  unfold narthexref03_Near
  rcases refgcheck_eq (g := g) hN with ⟨_, h⟩ | ⟨hn, _⟩
  · have h2 := foldR0 (L := narthexref03_Near_L1 N g a) (xs := List.range m) (f := fun out i => if adj g a (i : Int) = true then out ++ [(i : Int)] else out) (fin := some) (I := fun i out => out.length ≤ i) (fun n i out x ho hx => by
      obtain ⟨rfl, hi⟩ := range_at hx
      refine ⟨?_, ?_⟩
      · rw [narthexref03_Near_L1, hm, if_pos (by simpa using hi), h, Option.bind_some, if_pos (by simpa using hi), refhas_adj hN hg, Option.bind_some, w64_nat (by omega)]
        split
        · rw [app_ok (by simp; omega), Option.bind_some]
        · rfl
      · split
        · simp
          omega
        · omega) (fun n out ho => by rw [narthexref03_Near_L1, List.length_range, hm, if_neg (by simp), Option.bind_some, if_neg (by simp)]) (N := N) (s := []) (by simp; omega) (by simp)
    rw [h2.1, Option.bind_some, near, foldl_filter]
  · exact absurd hg hn
theorem gnear_eq {N m : Nat} {g : TGraph} {a : Int} (hN : 1000 < N) (hg : GoodG g) (hm : g.N = (m : Int)) : graph_Near N g a = some (near m g a) := by
  have hl := hg.len
  unfold graph_Near
  rcases gcheck_eq (g := g) hN with ⟨_, h⟩ | ⟨hn, _⟩
  · have h2 := foldR0 (L := graph_Near_L1 N g a) (xs := g.Edges) (f := fun out e => if a = e.A then out ++ [e.B] else if a = e.B then out ++ [e.A] else out) (fin := some) (I := fun i out => out.length ≤ i ∧ ∀ b, b ∈ out ↔ ∃ e ∈ g.Edges.take i, (e.A = a ∧ e.B = b) ∨ (e.A = b ∧ e.B = a)) (fun n i out e ho he => by
      have hil := (List.getElem?_eq_some_iff.1 he).1
      have hb := hg.edge e (List.mem_of_getElem? he)
      refine ⟨?_, ?_, ?_⟩
      · rw [graph_Near_L1, if_pos (by simpa using hil), at_nat, he, Option.bind_some, w64_nat (by omega)]
        by_cases h1 : a = e.A
        · rw [if_pos (by simpa using h1), if_pos h1, app_ok (by simp; omega), Option.bind_some]
        · rw [if_neg (by simpa using h1), if_neg h1]
          by_cases h2 : a = e.B
          · rw [if_pos (by simpa using h2), if_pos h2, app_ok (by simp; omega), Option.bind_some]
          · rw [if_neg (by simpa using h2), if_neg h2]
      · split
        · simp
          omega
        · split
          · simp
            omega
          · omega
      · intro b
        rw [take_at he]
        simp only [List.mem_append, List.mem_singleton]
        constructor
        · intro hb'
          split at hb'
          · rename_i h1
            rw [List.mem_append, List.mem_singleton] at hb'
            rcases hb' with hb' | rfl
            · obtain ⟨e', he', h⟩ := (ho.2 b).1 hb'
              exact ⟨e', .inl he', h⟩
            · exact ⟨e, .inr rfl, .inl ⟨h1.symm, rfl⟩⟩
          · split at hb'
            · rename_i h1
              rw [List.mem_append, List.mem_singleton] at hb'
              rcases hb' with hb' | rfl
              · obtain ⟨e', he', h⟩ := (ho.2 b).1 hb'
                exact ⟨e', .inl he', h⟩
              · exact ⟨e, .inr rfl, .inr ⟨rfl, h1.symm⟩⟩
            · obtain ⟨e', he', h⟩ := (ho.2 b).1 hb'
              exact ⟨e', .inl he', h⟩
        · rintro ⟨e', he' | rfl, h⟩
          · have := (ho.2 b).2 ⟨e', he', h⟩
            split
            · exact List.mem_append_left _ this
            · split
              · exact List.mem_append_left _ this
              · exact this
          · rcases h with ⟨h1, h2⟩ | ⟨h1, h2⟩
            · rw [if_pos h1.symm, ← h2]
              simp
            · rw [if_neg (by omega), if_pos h2.symm, ← h1]
              simp) (fun n out ho => by rw [graph_Near_L1, if_neg (by simp)]) (N := N) (s := []) (by omega) (by simp)
    obtain ⟨h3, h4, h5⟩ := h2
    rw [List.take_length] at h5
    rw [h, Option.bind_some, if_neg (by simp), h3, Option.bind_some, of_eq (by omega), Option.bind_some]
    congr 1
    refine S_eq (near_strict m g a) fun b => ?_
    rw [mem_near hg hm, h5, adj_iff]
  · exact absurd hg hn

/-! The least colour that isn't used. -/
structure IsMex (u : List Int) (k : Int) : Prop where
  pos : 1 ≤ k
  out : k ∉ u
  all : ∀ j, 1 ≤ j → j < k → j ∈ u
theorem IsMex.uniq {u : List Int} {k k' : Int} (h : IsMex u k) (h' : IsMex u k') : k = k' := by
  rcases Int.lt_trichotomy k k' with hl | hl | hl
  · exact absurd (h'.all k h.pos hl) h.out
  · exact hl
  · exact absurd (h.all k' h'.pos hl) h'.out
def mexv (u : List Int) : Int := match (List.range (u.length + 1)).find? (fun k : Nat => !decide ((k : Int) + 1 ∈ u)) with
  | some k => (k : Int) + 1
  | none => 0
theorem mexv_is (u : List Int) : IsMex u (mexv u) ∧ mexv u ≤ u.length + 1 := by
  unfold mexv
  cases h : (List.range (u.length + 1)).find? (fun k : Nat => !decide ((k : Int) + 1 ∈ u)) with
  | some k =>
    rw [List.find?_range_eq_some] at h
    obtain ⟨h1, h2, h3⟩ := h
    rw [List.mem_range] at h2
    simp only
    refine ⟨⟨by omega, by simpa using h1, fun j hj1 hj2 => ?_⟩, by omega⟩
    have := h3 (j - 1).toNat (by omega)
    rw [show (((j - 1).toNat : Nat) : Int) + 1 = j by omega] at this
    simpa using this
  | none =>
    rw [List.find?_eq_none] at h
    have hn : ((List.range (u.length + 1)).map fun k : Nat => (k : Int) + 1).Nodup := by
      rw [List.nodup_iff_pairwise_ne, List.pairwise_map]
      exact (List.nodup_iff_pairwise_ne.1 List.nodup_range).imp fun h e => h (by omega)
    have := hn.length_le_of_subset (l₂ := u) (fun a ha => by
      obtain ⟨k, hk, rfl⟩ := List.mem_map.1 ha
      simpa using h k hk)
    simp at this
    omega
theorem IsMex.congr {u v : List Int} {k : Int} (h : IsMex u k) (huv : ∀ j, 1 ≤ j → (j ∈ u ↔ j ∈ v)) : IsMex v k :=
  ⟨h.pos, fun hv => h.out ((huv k h.pos).2 hv), fun j h1 h2 => (huv j h1).1 (h.all j h1 h2)⟩
theorem mexv_pos (u : List Int) : 1 ≤ mexv u := (mexv_is u).1.pos

/-! A round. -/
def trn (m : Nat) (g : TGraph) (d : Int → Int) (a : Int) : Bool := (d a == 0) && !((near m g a).any fun b => (d b == 0) && decide (b > a))
def rnd (m : Nat) (g : TGraph) (d : Int → Int) (a : Int) : Int := if trn m g d a = true then mexv ((near m g a).map d) else d a
theorem near_ok {m : Nat} {g : TGraph} (hg : GoodG g) (hm : g.N = (m : Int)) {a b : Int} (h : b ∈ near m g a) : 0 ≤ b ∧ b < (m : Int) := by
  have := adj_ok hg ((mem_near hg hm).1 h)
  omega
theorem later_eq {N m : Nat} {g : TGraph} {d : Int → Int} {a : Int} {u : List TEdge} {n : Int} {l3 : List Int} (hN : 1000 < N) (hg : GoodG g) (hm : g.N = (m : Int)) : slices_ContainsFunc_int_3 N (near m g a) n u (tab m d) l3 a = some ((near m g a).any fun b => (d b == 0) && decide (b > a)) := by
  have hl := near_len m g a
  have hm2 := hg.hi
  unfold slices_ContainsFunc_int_3 slices_IndexFunc_int_3
  have h := placeR (L := slices_IndexFunc_int_3_L1 N (near m g a) n u (tab m d) l3 a) (xs := near m g a) (q := fun b => (d b == 0) && decide (b > a)) (fun k i y hy => by
    have hl' := (List.getElem?_eq_some_iff.1 hy).1
    have hb := near_ok hg hm (List.mem_of_getElem? hy)
    rw [slices_IndexFunc_int_3_L1, if_pos (by simpa using hl'), at_nat, hy, Option.bind_some, w64_nat (by omega)]
    simp only [colour_Round_2_2, tab_at hb.1 hb.2, Option.bind_some]) (fun k => by rw [slices_IndexFunc_int_3_L1, if_neg (by simp)]) N 0 (by omega) (by omega) (by simp)
  rw [show ((0 : Nat) : Int) = 0 from rfl] at h
  rw [h, Option.bind_some]
  exact any_place _ _
theorem usedP_eq {N m : Nat} {g : TGraph} {d e : Int → Int} {a : Int} {u : List TEdge} {n : Int} (hN : 1000 < N) (hg : GoodG g) (hm : g.N = (m : Int)) (ha : 0 ≤ a ∧ a < m) : slices_ContainsFunc_int_4 N (near m g a) n u (tab m d) (tab m e) a = some (decide (e a ∈ (near m g a).map d)) := by
  have hl := near_len m g a
  have hm2 := hg.hi
  unfold slices_ContainsFunc_int_4 slices_IndexFunc_int_4
  have h := placeR (L := slices_IndexFunc_int_4_L1 N (near m g a) n u (tab m d) (tab m e) a) (xs := near m g a) (q := fun b => d b == e a) (fun k i y hy => by
    have hl' := (List.getElem?_eq_some_iff.1 hy).1
    have hb := near_ok hg hm (List.mem_of_getElem? hy)
    rw [slices_IndexFunc_int_4_L1, if_pos (by simpa using hl'), at_nat, hy, Option.bind_some, w64_nat (by omega)]
    simp only [colour_Round_3, tab_at hb.1 hb.2, tab_at ha.1 ha.2, Option.bind_some]) (fun k => by rw [slices_IndexFunc_int_4_L1, if_neg (by simp)]) N 0 (by omega) (by omega) (by simp)
  rw [show ((0 : Nat) : Int) = 0 from rfl] at h
  rw [h, Option.bind_some]
  refine (any_place _ _).trans ?_
  congr 1
  rw [Bool.eq_iff_iff]
  simp only [List.any_eq_true, beq_iff_eq, decide_eq_true_eq, List.mem_map]
theorem upd_upd (e : Int → Int) (a x y : Int) : upd (upd e a x) a y = upd e a y := by
  funext b
  simp only [upd]
  split <;> rfl
theorem mexP_loop {N m : Nat} {g : TGraph} {d e : Int → Int} {a : Int} (hN : 1000 < N) (hg : GoodG g) (hm : g.N = (m : Int)) (ha : 0 ≤ a ∧ a < m) : ∀ (n : Nat) (k : Int), mexv ((near m g a).map d) < n + k → 1 ≤ k → k ≤ mexv ((near m g a).map d) →
    colour_Round_L2 N g (tab m d) a (near m g a) n (tab m (upd e a k)) = some (tab m (upd e a (mexv ((near m g a).map d))))
  | 0, k, h, h1, h2 => by omega
  | n + 1, k, h, h1, h2 => by
    obtain ⟨hx, hx2⟩ := mexv_is ((near m g a).map d)
    have hl := near_len m g a
    have hm2 := hg.hi
    rw [List.length_map] at hx2
    rw [colour_Round_L2, usedP_eq hN hg hm ha, Option.bind_some]
    have hu : upd e a k a = k := by simp [upd]
    rw [hu]
    by_cases hk : k = mexv ((near m g a).map d)
    · rw [if_neg (by rw [hk]; simpa using hx.out), ← hk]
    · have := hx.all k h1 (by omega)
      rw [if_pos (by simpa using this), tab_at ha.1 ha.2, Option.bind_some, Option.bind_some, hu, w64_is (by omega) (by omega), tab_set ha.1, upd_upd]
      exact mexP_loop hN hg hm ha n (k + 1) (by omega) (by omega) (by omega)
theorem cround_good {N m : Nat} {g : TGraph} {d : Int → Int} (hN : 1000 < N) (hg : GoodG g) (hm : g.N = (m : Int)) (hd : ∀ a : Int, 0 ≤ a → a < m → 0 ≤ d a) : colour_Round N g (tab m d) = some (tab m (rnd m g d), 0) := by
  have hm2 := hg.hi
  unfold colour_Round
  rcases gcheck_eq (g := g) hN with ⟨_, hc⟩ | ⟨hn, _⟩
  · have hneg : slices_ContainsFunc_int N (tab m d) = some false := by
      unfold slices_ContainsFunc_int slices_IndexFunc_int
      have h := placeR (L := slices_IndexFunc_int_L1 N (tab m d)) (xs := tab m d) (q := fun x => decide (x < 0)) (fun k i y hy => by
        have hl' := (List.getElem?_eq_some_iff.1 hy).1
        have : (tab m d).length = m := tab_len m d
        rw [slices_IndexFunc_int_L1, if_pos (by simpa using hl'), at_nat, hy, Option.bind_some, w64_nat (by omega)]
        rfl) (fun k => by rw [slices_IndexFunc_int_L1, if_neg (by simp)]) N 0 (by rw [tab_len]; omega) (by omega) (by simp)
      rw [show ((0 : Nat) : Int) = 0 from rfl] at h
      rw [h, Option.bind_some]
      refine (any_place _ _).trans ?_
      congr 1
      rw [List.any_eq_false]
      intro x hx
      unfold tab at hx
      rw [List.mem_map] at hx
      obtain ⟨i, hi, rfl⟩ := hx
      rw [List.mem_range] at hi
      have := hd i (by omega) (by omega)
      simp only [decide_eq_true_eq]
      omega
    have e0 : (((tab m d).length : Int) != g.N) = false := by rw [tab_len, hm]; simp
    rw [hc, Option.bind_some, if_neg (by simp), e0, if_pos (by simp), hneg, Option.bind_some, if_neg (by simp)]
    unfold slices_Clone_int
    rw [app_ok (by rw [tab_len]; simp; omega), Option.bind_some, List.nil_append]
    have h := foldR0 (L := fun n (e : Int → Int) i => colour_Round_L1 N g (tab m d) n (tab m e) i) (xs := List.range m) (f := fun e i => if trn m g d (i : Int) = true then upd e (i : Int) (mexv ((near m g i).map d)) else e) (fin := fun e => some (tab m e)) (I := fun i e => ∀ b, 0 ≤ b → e b = if b < (i : Int) then rnd m g d b else d b) (fun n i e x he hx => by
      obtain ⟨rfl, hi⟩ := range_at hx
      have hmx := (mexv_is ((near m g (x : Int)).map d)).2
      have hl := near_len m g (x : Int)
      rw [List.length_map] at hmx
      refine ⟨?_, fun b hb => ?_⟩
      · rw [colour_Round_L1, hm, if_pos (by simpa using hi), gnear_eq hN hg hm, Option.bind_some, tab_at (by omega) (by omega), Option.bind_some, w64_nat (by omega)]
        by_cases h0 : d x = 0
        · have hd0 : (!(d x != 0)) = true := by simp [h0]
          rw [hd0, if_pos rfl, later_eq hN hg hm, Option.bind_some]
          cases hany : (near m g (x : Int)).any fun b => (d b == 0) && decide (b > (x : Int)) with
          | true =>
            rw [if_pos (by simp), if_neg (by simp [trn, hany])]
          | false =>
            rw [if_neg (by simp [h0]), if_pos (by simp [trn, hany, h0]), tab_at (by omega) (by omega), Option.bind_some, tab_set (by omega), mexP_loop hN hg hm ⟨by omega, by omega⟩ N 1 (by omega) (by omega) (mexv_pos _), Option.bind_some]
        · have hd0 : (!(d x != 0)) = false := by simp [h0]
          rw [hd0, if_neg (by simp), Option.bind_some, if_pos (by simp [h0]), if_neg (by simp [trn, h0])]
      · have hbx := he b hb
        by_cases hbe : b = (x : Int)
        · subst hbe
          have hlt : (x : Int) < ((x + 1 : Nat) : Int) := by omega
          rw [if_pos hlt]
          unfold rnd
          by_cases ht : trn m g d (x : Int) = true
          · rw [if_pos ht, if_pos ht]
            simp [upd]
          · rw [if_neg ht, if_neg ht, hbx, if_neg (by omega)]
        · have : (if trn m g d (x : Int) = true then upd e (x : Int) (mexv ((near m g (x : Int)).map d)) else e) b = e b := by
            split
            · simp [upd, hbe]
            · rfl
          rw [this, hbx]
          by_cases hlt : b < (x : Int)
          · rw [if_pos hlt, if_pos (by omega)]
          · rw [if_neg hlt, if_neg (by omega)]) (fun n e he => by rw [colour_Round_L1, List.length_range, hm, if_neg (by simp)]) (N := N) (s := d) (by simp; omega) (fun b hb => by rw [if_neg (by simp; omega)])
    rw [h.1, Option.bind_some]
    congr 2
    have h2 := h.2
    rw [List.length_range] at h2
    unfold tab
    refine List.map_congr_left fun i hi => ?_
    rw [List.mem_range] at hi
    rw [h2 i (by omega), if_pos (by omega)]
  · exact absurd hg hn
theorem cround_bad {N : Nat} {g : TGraph} {c : List Int} (hN : 1000 < N) (hg : ¬ GoodG g) : colour_Round N g c = some ([], 30) := by
  unfold colour_Round
  rcases gcheck_eq (g := g) hN with ⟨h, _⟩ | ⟨_, h⟩
  · exact absurd h hg
  · rw [h, Option.bind_some, if_pos (by simp)]
theorem cround_odd {N : Nat} {g : TGraph} {c : List Int} (hN : 1000 < N) (hg : GoodG g) (hl : c.length ≤ 1000) (hc : ¬ ((c.length : Int) = g.N ∧ ∀ x ∈ c, 0 ≤ x)) : colour_Round N g c = some ([], 110) := by
  unfold colour_Round
  rcases gcheck_eq (g := g) hN with ⟨_, h⟩ | ⟨hn, _⟩
  · rw [h, Option.bind_some, if_neg (by simp)]
    by_cases hlen : (c.length : Int) = g.N
    · have hneg : slices_ContainsFunc_int N c = some true := by
        unfold slices_ContainsFunc_int slices_IndexFunc_int
        have h := placeR (L := slices_IndexFunc_int_L1 N c) (xs := c) (q := fun x => decide (x < 0)) (fun k i y hy => by
          have hl' := (List.getElem?_eq_some_iff.1 hy).1
          rw [slices_IndexFunc_int_L1, if_pos (by simpa using hl'), at_nat, hy, Option.bind_some, w64_nat (by omega)]
          rfl) (fun k => by rw [slices_IndexFunc_int_L1, if_neg (by simp)]) N 0 (by omega) (by omega) (by simp)
        rw [show ((0 : Nat) : Int) = 0 from rfl] at h
        rw [h, Option.bind_some]
        refine (any_place _ _).trans ?_
        congr 1
        rw [List.any_eq_true]
        apply Classical.byContradiction
        intro hn
        refine hc ⟨hlen, fun x hx => ?_⟩
        apply Classical.byContradiction
        intro hx0
        exact hn ⟨x, hx, by simp; omega⟩
      rw [if_pos (by simp [hlen]), hneg, Option.bind_some, if_pos (by simp)]
    · rw [if_neg (by simp [hlen]), Option.bind_some, if_pos (by simp [hlen])]
  · exact absurd hg hn
/-! The document's round. -/
theorem refturn_eq {N m : Nat} {g : TGraph} {d : Int → Int} {a : Int} (hN : 1000 < N) (hg : GoodG g) (hm : g.N = (m : Int)) (ha : 0 ≤ a ∧ a < m) : narthexref11_turn N (tab m d) (near m g a) a = some (trn m g d a) := by
  have hl := near_len m g a
  have hm2 := hg.hi
  unfold narthexref11_turn
  rw [anyR (L := narthexref11_turn_L1 N (tab m d) (near m g a) a) (xs := near m g a) (q := fun b => (d b == 0) && decide (b > a)) (r := false) (fun n i y hy => by
    have hl' := (List.getElem?_eq_some_iff.1 hy).1
    have hb := near_ok hg hm (List.mem_of_getElem? hy)
    rw [narthexref11_turn_L1, if_pos (by simpa using hl'), at_nat, hy, Option.bind_some, w64_nat (by omega)]
    by_cases h : y > a
    · have e : decide (y > a) = true := by simpa using h
      rw [e, if_pos rfl, Option.bind_some, if_pos rfl, tab_at hb.1 hb.2, Option.bind_some]
      simp only [Bool.true_and, Bool.and_true]
    · have e : decide (y > a) = false := by simpa using h
      rw [e, if_neg (by simp), Option.bind_some, if_neg (by simp), Option.bind_some]
      simp only [Bool.false_and, Bool.and_false]) (fun n => by rw [narthexref11_turn_L1, if_neg (by simp)]) (by omega), Option.bind_some]
  unfold trn
  cases (near m g a).any fun b => (d b == 0) && decide (b > a) with
  | true => simp
  | false =>
    simp only [Bool.false_eq_true, if_false, Bool.not_false, Bool.and_true]
    rw [tab_at ha.1 ha.2, Option.bind_some]
theorem refused_eq {N m : Nat} {g : TGraph} {d : Int → Int} {a k : Int} (hN : 1000 < N) (hg : GoodG g) (hm : g.N = (m : Int)) : narthexref11_used N (tab m d) (near m g a) k = some (decide (k ∈ (near m g a).map d)) := by
  have hl := near_len m g a
  have hm2 := hg.hi
  unfold narthexref11_used
  rw [anyR (L := narthexref11_used_L1 N (tab m d) (near m g a) k) (xs := near m g a) (q := fun b => d b == k) (r := true) (fun n i y hy => by
    have hl' := (List.getElem?_eq_some_iff.1 hy).1
    have hb := near_ok hg hm (List.mem_of_getElem? hy)
    rw [narthexref11_used_L1, if_pos (by simpa using hl'), at_nat, hy, Option.bind_some, w64_nat (by omega), tab_at hb.1 hb.2, Option.bind_some]) (fun n => by rw [narthexref11_used_L1, if_neg (by simp)]) (by omega), Option.bind_some]
  have e : (near m g a).any (fun b => d b == k) = decide (k ∈ (near m g a).map d) := by
    rw [Bool.eq_iff_iff]
    simp only [List.any_eq_true, beq_iff_eq, decide_eq_true_eq, List.mem_map]
  rw [e]
  cases decide (k ∈ (near m g a).map d) <;> rfl
theorem refmex_loop {N m : Nat} {g : TGraph} {d : Int → Int} {a : Int} (hN : 1000 < N) (hg : GoodG g) (hm : g.N = (m : Int)) : ∀ (n : Nat) (k : Int), mexv ((near m g a).map d) < n + k → 1 ≤ k → k ≤ mexv ((near m g a).map d) →
    narthexref11_Round_L2 N (tab m d) (near m g a) n k = some (mexv ((near m g a).map d))
  | 0, k, h, h1, h2 => by omega
  | n + 1, k, h, h1, h2 => by
    obtain ⟨hx, hx2⟩ := mexv_is ((near m g a).map d)
    have hl := near_len m g a
    have hm2 := hg.hi
    rw [List.length_map] at hx2
    rw [narthexref11_Round_L2, refused_eq hN hg hm, Option.bind_some]
    by_cases hk : k = mexv ((near m g a).map d)
    · rw [if_neg (by rw [hk]; simpa using hx.out), hk]
    · have := hx.all k h1 (by omega)
      rw [if_pos (by simpa using this), w64_is (by omega) (by omega)]
      exact refmex_loop hN hg hm n (k + 1) (by omega) (by omega) (by omega)
theorem refround_eq {N m : Nat} {g : TGraph} {d : Int → Int} (hN : 1000 < N) (hg : GoodG g) (hm : g.N = (m : Int)) : narthexref11_Round N g (tab m d) = some (tab m (rnd m g d)) := by
  have hm2 := hg.hi
  unfold narthexref11_Round
  have h := foldR0 (L := narthexref11_Round_L1 N g (tab m d)) (xs := List.range m) (f := fun out i => out ++ [rnd m g d (i : Int)]) (fin := some) (I := fun i out => out = tab i (rnd m g d)) (fun n i out x ho hx => by
    obtain ⟨rfl, hi⟩ := range_at hx
    have hmx := (mexv_is ((near m g (x : Int)).map d)).2
    have hl := near_len m g (x : Int)
    rw [List.length_map] at hmx
    have hol : out.length ≤ 64 := by rw [ho, tab_len]; omega
    refine ⟨?_, by rw [ho]; simp [tab, List.range_succ]⟩
    rw [narthexref11_Round_L1, hm, if_pos (by simpa using hi), refnear_eq hN hg hm, Option.bind_some, tab_at (by omega) (by omega), Option.bind_some, refturn_eq hN hg hm ⟨by omega, by omega⟩, Option.bind_some, w64_nat (by omega)]
    unfold rnd
    cases trn m g d (x : Int) with
    | true => rw [if_pos rfl, if_pos rfl, refmex_loop hN hg hm N 1 (by omega) (by omega) (mexv_pos _), Option.bind_some, app_ok (by simp; omega), Option.bind_some]
    | false => rw [if_neg (by simp), if_neg (by simp), app_ok (by simp; omega), Option.bind_some]) (fun n out ho => by rw [narthexref11_Round_L1, List.length_range, hm, if_neg (by simp)]) (N := N) (s := []) (by simp; omega) (by simp [tab])
  rw [h.1, Option.bind_some]
  have h2 := h.2
  rw [List.length_range] at h2
  rw [h2]

theorem filter_lt {α : Type} {p q : α → Bool} : ∀ {l : List α}, (∀ x ∈ l, p x = true → q x = true) → (∃ x ∈ l, q x = true ∧ p x = false) → (l.filter p).length < (l.filter q).length
  | [], _, h => by obtain ⟨x, hx, _⟩ := h; simp at hx
  | y :: l, h1, h2 => by
    have hle : ∀ {l : List α}, (∀ x ∈ l, p x = true → q x = true) → (l.filter p).length ≤ (l.filter q).length := by
      intro l h
      rw [← List.countP_eq_length_filter, ← List.countP_eq_length_filter]
      exact List.countP_mono_left h
    have h1' : ∀ x ∈ l, p x = true → q x = true := fun x hx => h1 x (List.mem_cons_of_mem _ hx)
    obtain ⟨x, hx, hq, hp⟩ := h2
    rcases List.mem_cons.1 hx with rfl | hx
    · have := hle h1'
      simp [hp, hq]
      omega
    · have := filter_lt h1' ⟨x, hx, hq, hp⟩
      have hy := h1 y (by simp)
      cases hpy : p y with
      | true => simp [hpy, hy hpy, this]
      | false => cases hqy : q y <;> simp [hpy, hqy] <;> omega
/-! Till all have a colour. -/
def zc (m : Nat) (d : Int → Int) : Nat := ((List.range m).filter fun i : Nat => d (i : Int) == 0).length
theorem greatest {p : Nat → Prop} : ∀ (m : Nat), (∃ a, a < m ∧ p a) → ∃ a, a < m ∧ p a ∧ ∀ b, b < m → p b → b ≤ a
  | 0, h => by obtain ⟨a, ha, _⟩ := h; omega
  | m + 1, h => by
    by_cases hm : p m
    · exact ⟨m, by omega, hm, fun b hb _ => by omega⟩
    · obtain ⟨a, h1, h2⟩ := h
      have hne : a ≠ m := fun e => hm (e ▸ h2)
      obtain ⟨a', g1, g2, g3⟩ := greatest m ⟨a, by omega, h2⟩
      refine ⟨a', by omega, g2, fun b hb hpb => ?_⟩
      have : b ≠ m := fun e => hm (e ▸ hpb)
      exact g3 b (by omega) hpb
theorem trn_zero {m : Nat} {g : TGraph} {d : Int → Int} {a : Int} (h : trn m g d a = true) : d a = 0 := by
  simp only [trn, Bool.and_eq_true, beq_iff_eq] at h
  exact h.1
theorem trn_near {m : Nat} {g : TGraph} {d : Int → Int} {a b : Int} (h : trn m g d a = true) (hb : b ∈ near m g a) (hab : b > a) : d b ≠ 0 := by
  simp only [trn, Bool.and_eq_true, Bool.not_eq_true', List.any_eq_false, beq_iff_eq, decide_eq_true_eq, not_and] at h
  exact fun e => h.2 b hb e hab
theorem trn_of {m : Nat} {g : TGraph} {d : Int → Int} {a : Int} (h0 : d a = 0) (h : ∀ b ∈ near m g a, b > a → d b ≠ 0) : trn m g d a = true := by
  simp only [trn, Bool.and_eq_true, Bool.not_eq_true', List.any_eq_false, beq_iff_eq, decide_eq_true_eq, not_and]
  exact ⟨h0, fun b hb e hab => h b hb hab e⟩
theorem rnd_keep {m : Nat} {g : TGraph} {d : Int → Int} {a : Int} (h : d a ≠ 0) : rnd m g d a = d a := by
  unfold rnd
  rw [if_neg]
  exact fun ht => h (trn_zero ht)
theorem rnd_zero {m : Nat} {g : TGraph} {d : Int → Int} {a : Int} (h : rnd m g d a = 0) : d a = 0 := by
  unfold rnd at h
  split at h
  · have := mexv_pos ((near m g a).map d)
    omega
  · exact h
theorem somebody {m : Nat} {g : TGraph} (hg : GoodG g) (hm : g.N = (m : Int)) {d : Int → Int} (h : ∃ a : Nat, a < m ∧ d a = 0) : ∃ a : Nat, a < m ∧ d a = 0 ∧ rnd m g d a ≠ 0 := by
  obtain ⟨a, h1, h2, h3⟩ := greatest (p := fun a : Nat => d (a : Int) = 0) m h
  refine ⟨a, h1, h2, ?_⟩
  have ht : trn m g d (a : Int) = true := trn_of h2 fun b hb hab e => by
    have := near_ok hg hm hb
    have := h3 b.toNat (by omega) (by rw [show ((b.toNat : Nat) : Int) = b by omega]; exact e)
    omega
  unfold rnd
  rw [if_pos ht]
  have := mexv_pos ((near m g (a : Int)).map d)
  omega
theorem zc_lt {m : Nat} {g : TGraph} (hg : GoodG g) (hm : g.N = (m : Int)) {d : Int → Int} (h : ∃ a : Nat, a < m ∧ d a = 0) : zc m (rnd m g d) < zc m d := by
  obtain ⟨a, h1, h2, h3⟩ := somebody hg hm h
  refine filter_lt (fun x _ hx => ?_) ⟨a, List.mem_range.2 h1, by simpa using h2, by simpa using h3⟩
  simp only [beq_iff_eq] at hx ⊢
  exact rnd_zero hx
structure Col (m : Nat) (g : TGraph) (d : Int → Int) : Prop where
  pos : ∀ a : Int, 0 ≤ a → a < m → 0 ≤ d a
  late : ∀ a : Int, 0 ≤ a → a < m → d a ≠ 0 → ∀ b ∈ near m g a, b > a → d b ≠ 0
  mex : ∀ a : Int, 0 ≤ a → a < m → d a ≠ 0 → IsMex (((near m g a).filter fun b => decide (b > a)).map d) (d a)
theorem rnd_pos {m : Nat} {g : TGraph} {d : Int → Int} (h : ∀ a : Int, 0 ≤ a → a < m → 0 ≤ d a) : ∀ a : Int, 0 ≤ a → a < m → 0 ≤ rnd m g d a := by
  intro a h0 h1
  unfold rnd
  split
  · have := mexv_pos ((near m g a).map d)
    omega
  · exact h a h0 h1
theorem col_rnd {m : Nat} {g : TGraph} (hg : GoodG g) (hm : g.N = (m : Int)) {d : Int → Int} (h : Col m g d) : Col m g (rnd m g d) := by
  refine ⟨rnd_pos h.pos, fun a h0 h1 ha b hb hab hz => ?_, fun a h0 h1 ha => ?_⟩
  · have hbz := rnd_zero hz
    by_cases hd : d a = 0
    · have ht : trn m g d a = true := by
        apply Classical.byContradiction
        intro hn
        unfold rnd at ha
        rw [if_neg hn] at ha
        exact ha hd
      exact trn_near ht hb hab hbz
    · exact h.late a h0 h1 hd b hb hab hbz
  · by_cases hd : d a = 0
    · have ht : trn m g d a = true := by
        apply Classical.byContradiction
        intro hn
        unfold rnd at ha
        rw [if_neg hn] at ha
        exact ha hd
      have e : rnd m g d a = mexv ((near m g a).map d) := by
        unfold rnd
        rw [if_pos ht]
      rw [e]
      refine (mexv_is _).1.congr fun j hj => ?_
      simp only [List.mem_map, List.mem_filter, decide_eq_true_eq]
      constructor
      · rintro ⟨b, hb, rfl⟩
        have hbo := near_ok hg hm hb
        have hadj := (mem_near hg hm).1 hb
        have hne := (adj_ok hg hadj).2.2.2.2
        have hbz : d b ≠ 0 := by omega
        refine ⟨b, ⟨hb, ?_⟩, rnd_keep hbz⟩
        apply Classical.byContradiction
        intro hlt
        exact h.late b hbo.1 hbo.2 hbz a ((mem_near hg hm).2 (by rw [adj_comm]; exact hadj)) (by omega) hd
      · rintro ⟨b, ⟨hb, hab⟩, rfl⟩
        exact ⟨b, hb, (rnd_keep (trn_near ht hb hab)).symm⟩
    · rw [rnd_keep hd]
      have e : ((near m g a).filter fun b => decide (b > a)).map (rnd m g d) = ((near m g a).filter fun b => decide (b > a)).map d := List.map_congr_left fun b hb => by
        simp only [List.mem_filter, decide_eq_true_eq] at hb
        exact rnd_keep (h.late a h0 h1 hd b hb.1 hb.2)
      rw [e]
      exact h.mex a h0 h1 hd
theorem zero_in {m : Nat} {d : Int → Int} : (0 : Int) ∈ tab m d ↔ ∃ a : Nat, a < m ∧ d a = 0 := by
  unfold tab
  rw [List.mem_map]
  constructor
  · rintro ⟨a, ha, h⟩
    exact ⟨a, List.mem_range.1 ha, h⟩
  · rintro ⟨a, ha, h⟩
    exact ⟨a, List.mem_range.2 ha, h⟩
theorem zc_le (m : Nat) (d : Int → Int) : zc m d ≤ m := by
  have := List.length_filter_le (fun i : Nat => d (i : Int) == 0) (List.range m)
  simpa [zc] using this
theorem zc_pos {m : Nat} {d : Int → Int} (h : ∃ a : Nat, a < m ∧ d a = 0) : 0 < zc m d := by
  obtain ⟨a, h1, h2⟩ := h
  unfold zc
  exact List.length_pos_iff.2 (List.ne_nil_of_mem (List.mem_filter.2 ⟨List.mem_range.2 h1, by simpa using h2⟩))
theorem run_loop {N m : Nat} {g : TGraph} (hN : 1000 < N) (hg : GoodG g) (hm : g.N = (m : Int)) : ∀ (n k : Nat) (d : Int → Int), zc m d < n → k + zc m d ≤ 1000 → Col m g d →
    ∃ (d' : Int → Int) (k' : Nat), colour_Run_L1 N g n (tab m d) k = some (tab m d', (k' : Int)) ∧ narthexref11_Run_L2 N g n (tab m d) k = some (tab m d', (k' : Int)) ∧ Col m g d' ∧ (∀ a : Int, 0 ≤ a → a < m → d' a ≠ 0) ∧ k' ≤ k + zc m d ∧ (0 < zc m d → k < k')
  | 0, k, d, h, _, _ => by omega
  | n + 1, k, d, h, hk, hc => by
    have hm2 := hg.hi
    rw [colour_Run_L1, narthexref11_Run_L2, contains_eq hN (by rw [tab_len]; omega), Option.bind_some, refhas_eq hN (by rw [tab_len]; omega), Option.bind_some]
    by_cases hz : ∃ a : Nat, a < m ∧ d a = 0
    · have hlt := zc_lt hg hm hz
      have hd : decide ((0 : Int) ∈ tab m d) = true := by simpa using zero_in.2 hz
      rw [hd, if_pos rfl, if_pos rfl, cround_good hN hg hm hc.pos, Option.bind_some, refround_eq hN hg hm, Option.bind_some, w64_nat (by omega)]
      obtain ⟨d', k', h1, h2, h3, h4, h5, h6⟩ := run_loop hN hg hm n (k + 1) (rnd m g d) (by omega) (by omega) (col_rnd hg hm hc)
      refine ⟨d', k', h1, h2, h3, h4, by omega, fun _ => ?_⟩
      by_cases h0 : 0 < zc m (rnd m g d)
      · have := h6 h0
        omega
      · have h7 : k + 1 ≤ k' := by
          rcases Nat.lt_or_ge k' (k + 1) with hlt' | hge
          · exfalso
            have hz0 : zc m (rnd m g d) = 0 := by omega
            have hnz : ¬ ∃ a : Nat, a < m ∧ rnd m g d a = 0 := fun hx => by have := zc_pos hx; omega
            cases n with
            | zero => omega
            | succ n =>
              rw [colour_Run_L1, contains_eq hN (by rw [tab_len]; omega), Option.bind_some, if_neg (by simpa using fun hx => hnz (zero_in.1 hx))] at h1
              have := congrArg (fun o => o.map Prod.snd) h1
              simp at this
              omega
          · exact hge
        omega
    · have hd : decide ((0 : Int) ∈ tab m d) = false := by simpa using fun hx => hz (zero_in.1 hx)
      rw [hd, if_neg (by simp), if_neg (by simp)]
      refine ⟨d, k, rfl, rfl, hc, fun a h0 h1 e => hz ⟨a.toNat, by omega, by rw [show ((a.toNat : Nat) : Int) = a by omega]; exact e⟩, by omega, fun h0 => ?_⟩
      exfalso
      have : zc m d = 0 := by
        unfold zc
        rw [List.length_eq_zero_iff, List.filter_eq_nil_iff]
        intro a ha
        simp only [beq_iff_eq]
        exact fun e => hz ⟨a, List.mem_range.1 ha, e⟩
      omega
theorem refzero {N : Nat} {m : Nat} {g : TGraph} (hm : g.N = (m : Int)) (hm2 : m ≤ 64) : ∀ (n i : Nat), m < n + i → i ≤ m → narthexref11_Run_L1 N g n (List.replicate i 0) i = some (List.replicate m 0)
  | 0, i, h, hi => by omega
  | n + 1, i, h, hi => by
    rw [narthexref11_Run_L1, hm]
    by_cases hlt : i < m
    · rw [if_pos (by simpa using hlt), app_ok (by simp; omega), Option.bind_some, w64_nat (by omega), ← List.replicate_succ']
      exact refzero hm hm2 n (i + 1) (by omega) (by omega)
    · rw [if_neg (by simpa using hlt), show i = m by omega]
theorem col_zero (m : Nat) (g : TGraph) : Col m g fun _ => 0 := ⟨fun _ _ _ => Int.le_refl _, fun _ _ _ h => absurd rfl h, fun _ _ _ h => absurd rfl h⟩
theorem zc_zero (m : Nat) : zc m (fun _ => 0) = m := by
  unfold zc
  rw [List.filter_eq_self.2 (by simp)]
  simp
theorem run_good {N m : Nat} {g : TGraph} (hN : 1000 < N) (hg : GoodG g) (hm : g.N = (m : Int)) : ∃ (d : Int → Int) (k : Nat), colour_Run N g = some (tab m d, (k : Int), 0) ∧ narthexref11_Run N g = some (tab m d, (k : Int)) ∧ Col m g d ∧ (∀ a : Int, 0 ≤ a → a < m → d a ≠ 0) ∧ k ≤ m ∧ (0 < m → 0 < k) := by
  have hm2 := hg.hi
  obtain ⟨d, k, h1, h2, h3, h4, h5, h6⟩ := run_loop hN hg hm N 0 (fun _ => 0) (by rw [zc_zero]; omega) (by rw [zc_zero]; omega) (col_zero m g)
  rw [zc_zero] at h5 h6
  rw [show ((0 : Nat) : Int) = 0 from rfl] at h1 h2
  refine ⟨d, k, ?_, ?_, h3, h4, by omega, h6⟩
  · unfold colour_Run
    rcases gcheck_eq (g := g) hN with ⟨_, h⟩ | ⟨hn, _⟩
    · rw [h, Option.bind_some, if_neg (by simp), hm, mk?, if_pos (by omega), Option.bind_some, Int.toNat_natCast, tab_zero, h1, Option.bind_some]
    · exact absurd hg hn
  · unfold narthexref11_Run
    have hz := refzero (N := N) hm (by omega) N 0 (by omega) (by omega)
    rw [show ((0 : Nat) : Int) = 0 from rfl, List.replicate_zero] at hz
    rw [hz, Option.bind_some, tab_zero, h2, Option.bind_some]
theorem run_bad {N : Nat} {g : TGraph} (hN : 1000 < N) (hg : ¬ GoodG g) : colour_Run N g = some ([], 0, 30) := by
  unfold colour_Run
  rcases gcheck_eq (g := g) hN with ⟨h, _⟩ | ⟨_, h⟩
  · exact absurd h hg
  · rw [h, Option.bind_some, if_pos (by simp)]
/-! Are they right? -/
def sameE (d : Int → Int) (e : TEdge) : Bool := d e.A == d e.B
theorem right_good {N m : Nat} {g : TGraph} {d : Int → Int} (hN : 1000 < N) (hg : GoodG g) (hm : g.N = (m : Int)) : colour_Right N g (tab m d) = some (!((tab m d).any fun x => decide (x < 1)) && !g.Edges.any (sameE d)) := by
  have hm2 := hg.hi
  have hl := hg.len
  unfold colour_Right
  rcases gcheck_eq (g := g) hN with ⟨_, hc⟩ | ⟨hn, _⟩
  · have h1 : slices_ContainsFunc_int_5 N (tab m d) = some ((tab m d).any fun x => decide (x < 1)) := by
      unfold slices_ContainsFunc_int_5 slices_IndexFunc_int_5
      have h := placeR (L := slices_IndexFunc_int_5_L1 N (tab m d)) (xs := tab m d) (q := fun x => decide (x < 1)) (fun k i y hy => by
        have hl' := (List.getElem?_eq_some_iff.1 hy).1
        have : (tab m d).length = m := tab_len m d
        rw [slices_IndexFunc_int_5_L1, if_pos (by simpa using hl'), at_nat, hy, Option.bind_some, w64_nat (by omega)]
        rfl) (fun k => by rw [slices_IndexFunc_int_5_L1, if_neg (by simp)]) N 0 (by rw [tab_len]; omega) (by omega) (by simp)
      rw [show ((0 : Nat) : Int) = 0 from rfl] at h
      rw [h, Option.bind_some]
      exact any_place _ _
    have h2 : slices_ContainsFunc_Edge_2 N g.Edges g.N g.Edges (tab m d) = some (g.Edges.any (sameE d)) := by
      unfold slices_ContainsFunc_Edge_2 slices_IndexFunc_Edge_2
      have h := placeR (L := slices_IndexFunc_Edge_2_L1 N g.Edges g.N g.Edges (tab m d)) (xs := g.Edges) (q := sameE d) (fun k i y hy => by
        have hl' := (List.getElem?_eq_some_iff.1 hy).1
        have hb := hg.edge y (List.mem_of_getElem? hy)
        rw [slices_IndexFunc_Edge_2_L1, if_pos (by simpa using hl'), at_nat, hy, Option.bind_some, w64_nat (by omega)]
        unfold colour_Right_2
        rw [tab_at (by omega) (by omega), Option.bind_some, tab_at (by omega) (by omega), Option.bind_some, Option.bind_some]
        rfl) (fun k => by rw [slices_IndexFunc_Edge_2_L1, if_neg (by simp)]) N 0 (by omega) (by omega) (by simp)
      rw [show ((0 : Nat) : Int) = 0 from rfl] at h
      rw [h, Option.bind_some]
      exact any_place _ _
    have e0 : (((tab m d).length : Int) != g.N) = false := by rw [tab_len, hm]; simp
    rw [hc, Option.bind_some, e0, if_pos (by simp), h1, Option.bind_some]
    cases (tab m d).any fun x => decide (x < 1) with
    | true => rw [if_pos (by simp)]; rfl
    | false => rw [if_neg (by simp), h2, Option.bind_some]; simp
  · exact absurd hg hn
theorem right_no {N : Nat} {g : TGraph} {c : List Int} (hN : 1000 < N) (hc : ¬ (GoodG g ∧ (c.length : Int) = g.N)) : colour_Right N g c = some false := by
  unfold colour_Right
  rcases gcheck_eq (g := g) hN with ⟨h, h'⟩ | ⟨_, h'⟩
  · have : ((c.length : Int) != g.N) = true := by simpa using fun e => hc ⟨h, e⟩
    rw [h', Option.bind_some, this, if_neg (by simp), Option.bind_some, if_pos (by simp)]
  · rw [h', Option.bind_some, if_neg (by simp), Option.bind_some, if_pos (by simp)]
theorem refccheck_eq {N : Nat} {g : TGraph} {c : List Int} (hN : 1000 < N) (hl : c.length ≤ 1000) : narthexref11_Check N g c = some (!(c.any fun x => decide (x < 0)) && ((c.length : Int) == g.N)) := by
  unfold narthexref11_Check
  rw [anyR (L := narthexref11_Check_L1 N c) (xs := c) (q := fun x => decide (x < 0)) (r := false) (fun n i y hy => by
    have hl' := (List.getElem?_eq_some_iff.1 hy).1
    rw [narthexref11_Check_L1, if_pos (by simpa using hl'), at_nat, hy, Option.bind_some, w64_nat (by omega)]) (fun n => by rw [narthexref11_Check_L1, if_neg (by simp)]) (by omega), Option.bind_some]
  cases c.any fun x => decide (x < 0) with
  | true => rfl
  | false => simp
theorem refright_good {N m : Nat} {g : TGraph} {d : Int → Int} (hN : 1000 < N) (hg : GoodG g) (hm : g.N = (m : Int)) : narthexref11_Right N g (tab m d) = some (!((tab m d).any fun x => decide (x < 1)) && !g.Edges.any (sameE d)) := by
  have hm2 := hg.hi
  have hl := hg.len
  unfold narthexref11_Right
  rcases refgcheck_eq (g := g) hN with ⟨_, hc⟩ | ⟨hn, _⟩
  · have e0 : (((tab m d).length : Int) == g.N) = true := by rw [tab_len, hm]; simp
    have e1 : (tab m d).any (fun x => decide (x < 1)) = ((tab m d).any (fun x => decide (x < 0)) || decide ((0 : Int) ∈ tab m d)) := by
      rw [Bool.eq_iff_iff]
      simp only [List.any_eq_true, Bool.or_eq_true, decide_eq_true_eq]
      constructor
      · rintro ⟨x, hx, h⟩
        by_cases h0 : x = 0
        · exact .inr (h0 ▸ hx)
        · exact .inl ⟨x, hx, by omega⟩
      · rintro (⟨x, hx, h⟩ | h)
        · exact ⟨x, hx, by omega⟩
        · exact ⟨0, h, by omega⟩
    rw [hc, Option.bind_some, if_pos (by simp), refccheck_eq hN (by rw [tab_len]; omega), Option.bind_some, e0, e1, Bool.and_true]
    cases (tab m d).any fun x => decide (x < 0) with
    | true => rw [if_neg (by simp), Option.bind_some, if_pos (by simp)]; rfl
    | false =>
      rw [if_pos (by simp), refhas_eq hN (by rw [tab_len]; omega), Option.bind_some]
      cases decide ((0 : Int) ∈ tab m d) with
      | true => rw [if_pos (by simp)]; rfl
      | false =>
        rw [if_neg (by simp), anyR (L := narthexref11_Right_L1 N g (tab m d)) (xs := g.Edges) (q := sameE d) (r := false) (fun n i y hy => by
          have hl' := (List.getElem?_eq_some_iff.1 hy).1
          have hb := hg.edge y (List.mem_of_getElem? hy)
          rw [narthexref11_Right_L1, if_pos (by simpa using hl'), at_nat, hy, Option.bind_some, tab_at (by omega) (by omega), Option.bind_some, Option.bind_some, tab_at (by omega) (by omega), Option.bind_some, w64_nat (by omega)]
          rfl) (fun n => by rw [narthexref11_Right_L1, if_neg (by simp)]) (by omega), Option.bind_some]
        cases g.Edges.any (sameE d) <;> rfl
  · exact absurd hg hn
theorem refright_no {N : Nat} {g : TGraph} {c : List Int} (hN : 1000 < N) (hl : c.length ≤ 1000) (hc : ¬ (GoodG g ∧ (c.length : Int) = g.N)) : narthexref11_Right N g c = some false := by
  unfold narthexref11_Right
  rcases refgcheck_eq (g := g) hN with ⟨h, h'⟩ | ⟨_, h'⟩
  · have : ((c.length : Int) == g.N) = false := by simpa using fun e => hc ⟨h, e⟩
    rw [h', Option.bind_some, if_pos (by simp), refccheck_eq hN hl, this, Option.bind_some, if_neg (by simp), Option.bind_some, if_pos (by simp)]
  · rw [h', Option.bind_some, if_neg (by simp), Option.bind_some, if_neg (by simp), Option.bind_some, if_pos (by simp)]
/-! The greatest colour. -/
theorem max0 : ∀ (c : List Int) (k : Int), 0 ≤ k → 0 ≤ c.foldl max k
  | [], k, h => h
  | x :: c, k, h => max0 c _ (by omega)
theorem most_eq {N : Nat} {c : List Int} (hN : 1000 < N) (hl : c.length ≤ 900) : colour_Most N c = some (c.foldl max 0) := by
  unfold colour_Most slices_Max_int
  rw [app_ok (by simp; omega), Option.bind_some, List.singleton_append, if_neg (by simp; omega), show at? (0 :: c) 0 = some 0 from rfl, Option.bind_some]
  have h := foldR (L := fun n k i => slices_Max_int_L1 N (0 :: c) n k i) (xs := 0 :: c) (f := max) (fin := some) (I := fun _ _ => True) (fun n i k x _ hx => by
    have hil := (List.getElem?_eq_some_iff.1 hx).1
    simp only [List.length_cons] at hil
    refine ⟨?_, trivial⟩
    rw [slices_Max_int_L1, if_pos (by simp; omega), at_nat, hx, Option.bind_some, w64_nat (by omega)]) (fun n k _ => by rw [slices_Max_int_L1, if_neg (by simp)]) N 1 0 (by simp; omega) (by simp) trivial
  rw [show ((1 : Nat) : Int) = 1 from rfl] at h
  rw [h.1, Option.bind_some]
  have := max0 c 0 (Int.le_refl _)
  simp only [List.drop_succ_cons, List.drop_zero]
  rw [Option.bind_some]
  congr 1
  omega

/-! The laws. -/
theorem awake_ok : ∃ N, 1000 < N ∧ narthexlaw11_awake N = some true := ⟨1001, by omega, by decide +kernel⟩
theorem few_eq {N : Nat} {g : TGraph} {c : List Int} : narthexlaw11_few N g c = some (decide (g.Edges.length ≤ 60) && decide (c.length ≤ 70)) := by
  simp [narthexlaw11_few]
  rw [Bool.eq_iff_iff]
  simp
  omega
theorem own_eq {N : Nat} {l : List Int} (h : l.length ≤ 1000) : narthexlaw11_own N l = some l := by
  simp [narthexlaw11_own, app_ok (xs := ([] : List Int)) (ys := l) (by simp; omega)]
def fn (c : List Int) (a : Int) : Int := (c[a.toNat]?).getD 0
theorem list_tab (c : List Int) : c = tab c.length (fn c) := by
  refine List.ext_getElem? fun i => ?_
  simp only [tab, List.getElem?_map]
  by_cases hl : i < c.length
  · rw [List.getElem?_range hl, List.getElem?_eq_getElem hl]
    simp [fn, List.getElem?_eq_getElem hl]
  · rw [List.getElem?_eq_none (by omega), List.getElem?_eq_none (by simp; omega)]
    rfl
theorem tab_mem {m : Nat} {d : Int → Int} {x : Int} : x ∈ tab m d ↔ ∃ a : Nat, a < m ∧ d a = x := by
  unfold tab
  rw [List.mem_map]
  constructor
  · rintro ⟨a, ha, h⟩
    exact ⟨a, List.mem_range.1 ha, h⟩
  · rintro ⟨a, ha, h⟩
    exact ⟨a, List.mem_range.2 ha, h⟩
theorem law_ColourRuns (a0 : TGraph) (o0 : kGraph a0) : ∃ N, narthexlaw11_ColourRuns N a0 = some true := by
  obtain ⟨N, hN, hA⟩ := awake_ok
  refine ⟨N, ?_⟩
  unfold narthexlaw11_ColourRuns
  rw [hA, Option.bind_some, if_pos (by simp), few_eq, Option.bind_some]
  by_cases hl : a0.Edges.length ≤ 60
  · have hf : (decide (a0.Edges.length ≤ 60) && decide (([] : List Int).length ≤ 70)) = true := by simpa using hl
    rw [hf, if_neg (by simp), ownG_eq (by omega), Option.bind_some]
    by_cases hg : GoodG a0
    · obtain ⟨m, hm, hm2⟩ := hg.nat
      obtain ⟨d, k, h1, h2, _⟩ := run_good hN hg hm
      rcases refgcheck_eq (g := a0) hN with ⟨_, hc⟩ | ⟨hn, _⟩
      · rw [h1, Option.bind_some, hc, Option.bind_some, if_neg (by simp), h2, Option.bind_some]
        simp only
        rw [sameI_eq hN (by rw [tab_len]; omega), Option.bind_some]
        simp
      · exact absurd hg hn
    · rcases refgcheck_eq (g := a0) hN with ⟨h, _⟩ | ⟨_, hc⟩
      · exact absurd h hg
      · rw [run_bad hN hg, Option.bind_some, hc, Option.bind_some, if_pos (by simp)]
        rfl
  · have hf : (decide (a0.Edges.length ≤ 60) && decide (([] : List Int).length ≤ 70)) = false := by simp; omega
    rw [hf, if_pos (by simp), Option.bind_some]
theorem law_ColourRounds (a0 : TGraph) (o0 : kGraph a0) (a1 : List Int) (o1 : (a1.length ≤ maxLen ∧ ∀ y ∈ a1, (Lit.int .i64 y).wf = true)) : ∃ N, narthexlaw11_ColourRounds N a0 a1 = some true := by
  obtain ⟨N, hN, hA⟩ := awake_ok
  refine ⟨N, ?_⟩
  unfold narthexlaw11_ColourRounds
  rw [hA, Option.bind_some, if_pos (by simp), few_eq, Option.bind_some]
  by_cases hl : a0.Edges.length ≤ 60 ∧ a1.length ≤ 70
  · have hf : (decide (a0.Edges.length ≤ 60) && decide (a1.length ≤ 70)) = true := by simpa using hl
    obtain ⟨hl1, hl2⟩ := hl
    have hmost := (foldR0 (L := narthexlaw11_ColourRounds_L1 N a1) (xs := a1) (f := max) (fin := some) (I := fun _ _ => True) (fun n i k x _ hx => by
      have hil := (List.getElem?_eq_some_iff.1 hx).1
      refine ⟨?_, trivial⟩
      rw [narthexlaw11_ColourRounds_L1, if_pos (by simpa using hil), at_nat, hx, Option.bind_some, w64_nat (by omega)]) (fun n k _ => by rw [narthexlaw11_ColourRounds_L1, if_neg (by simp)]) (N := N) (s := 0) (by omega) trivial).1
    rw [hf, if_neg (by simp), ownG_eq (by omega), Option.bind_some, own_eq (by omega), Option.bind_some]
    have hround : ∃ r e, colour_Round N a0 a1 = some (r, e) ∧ ((¬ GoodG a0 ∧ r = [] ∧ e = 30) ∨ (GoodG a0 ∧ ¬ ((a1.length : Int) = a0.N ∧ ∀ x ∈ a1, 0 ≤ x) ∧ r = [] ∧ e = 110) ∨ (GoodG a0 ∧ ((a1.length : Int) = a0.N ∧ ∀ x ∈ a1, 0 ≤ x) ∧ narthexref11_Round N a0 a1 = some r ∧ r.length ≤ 70 ∧ e = 0)) := by
      by_cases hg : GoodG a0
      · by_cases hc : (a1.length : Int) = a0.N ∧ ∀ x ∈ a1, 0 ≤ x
        · have hd : ∀ a : Int, 0 ≤ a → a < a1.length → 0 ≤ fn a1 a := fun a h0 h1 => by
            refine hc.2 _ ?_
            rw [list_tab a1, tab_mem]
            exact ⟨a.toNat, by omega, by rw [show ((a.toNat : Nat) : Int) = a by omega, ← list_tab]⟩
          have h1 := cround_good (m := a1.length) (d := fn a1) hN hg hc.1.symm hd
          have h2 := refround_eq (m := a1.length) (d := fn a1) hN hg hc.1.symm
          rw [← list_tab] at h1 h2
          exact ⟨_, _, h1, .inr (.inr ⟨hg, hc, h2, by rw [tab_len]; omega, rfl⟩)⟩
        · exact ⟨_, _, cround_odd hN hg (by omega) hc, .inr (.inl ⟨hg, hc, rfl, rfl⟩)⟩
      · exact ⟨_, _, cround_bad hN hg, .inl ⟨hg, rfl, rfl⟩⟩
    obtain ⟨r, e, hr, hcase⟩ := hround
    have hright : ∃ b, colour_Right N a0 a1 = some b ∧ narthexref11_Right N a0 a1 = some b := by
      by_cases hc : GoodG a0 ∧ (a1.length : Int) = a0.N
      · have h1 := right_good (m := a1.length) (d := fn a1) hN hc.1 hc.2.symm
        have h2 := refright_good (m := a1.length) (d := fn a1) hN hc.1 hc.2.symm
        rw [← list_tab] at h1 h2
        exact ⟨_, h1, h2⟩
      · exact ⟨_, right_no hN hc, refright_no hN (by omega) hc⟩
    obtain ⟨b, hb1, hb2⟩ := hright
    rw [hr, Option.bind_some, hmost, Option.bind_some, Option.bind_some, Option.bind_some, hb1, Option.bind_some, hb2, Option.bind_some, if_pos (by simp), Option.bind_some, if_pos (by simp), most_eq hN (by omega), Option.bind_some, if_neg (by simp)]
    rcases refgcheck_eq (g := a0) hN with ⟨hg, hc⟩ | ⟨hg, hc⟩
    · rw [hc, Option.bind_some, if_neg (by simp), refccheck_eq hN (by omega), Option.bind_some]
      rcases hcase with ⟨hn, _⟩ | ⟨_, hn, rfl, rfl⟩ | ⟨_, hok, hrr, hrl, rfl⟩
      · exact absurd hg hn
      · have e1 : (!(a1.any fun x => decide (x < 0)) && ((a1.length : Int) == a0.N)) = false := by
          rw [Bool.eq_false_iff]
          intro h
          simp only [Bool.and_eq_true, Bool.not_eq_true', List.any_eq_false, decide_eq_true_eq, beq_iff_eq] at h
          exact hn ⟨h.2, fun x hx => by have := h.1 x hx; omega⟩
        rw [e1, if_pos (by simp)]
        rfl
      · have e1 : (!(a1.any fun x => decide (x < 0)) && ((a1.length : Int) == a0.N)) = true := by
          simp only [Bool.and_eq_true, Bool.not_eq_true', List.any_eq_false, decide_eq_true_eq, beq_iff_eq]
          exact ⟨fun x hx => by have := hok.2 x hx; omega, hok.1⟩
        rw [e1, if_neg (by simp), hrr, Option.bind_some]
        simp only
        rw [sameI_eq hN (by omega), Option.bind_some]
        simp
    · rw [hc, Option.bind_some, if_pos (by simp)]
      rcases hcase with ⟨_, rfl, rfl⟩ | ⟨hg', _⟩ | ⟨hg', _⟩
      · rfl
      · exact absurd hg' hg
      · exact absurd hg' hg
  · have hf : (decide (a0.Edges.length ≤ 60) && decide (a1.length ≤ 70)) = false := by
      rw [Bool.eq_false_iff]
      simpa using hl
    rw [hf, if_pos (by simp), Option.bind_some]
theorem mex_le {u : List Int} {k : Int} (h : IsMex u k) : k ≤ u.length + 1 := by
  have h1 := mexv_is u
  rw [h.uniq h1.1]
  exact h1.2
theorem col_edge {m : Nat} {g : TGraph} (hg : GoodG g) (hm : g.N = (m : Int)) {d : Int → Int} (h : Col m g d) (hz : ∀ a : Int, 0 ≤ a → a < m → d a ≠ 0) : g.Edges.any (sameE d) = false := by
  rw [List.any_eq_false]
  intro e he
  have hb := hg.edge e he
  simp only [sameE, beq_iff_eq]
  intro heq
  have hx := h.mex e.A (by omega) (by omega) (hz _ (by omega) (by omega))
  refine hx.out ?_
  rw [List.mem_map]
  refine ⟨e.B, List.mem_filter.2 ⟨(mem_near hg hm).2 (adj_iff.2 ⟨e, he, .inl ⟨rfl, rfl⟩⟩), by simp; omega⟩, heq.symm⟩
theorem law_ColourRight (a0 : TGraph) (o0 : kGraph a0) : ∃ N, narthexlaw11_ColourRight N a0 = some true := by
  obtain ⟨N, hN, hA⟩ := awake_ok
  refine ⟨N, ?_⟩
  unfold narthexlaw11_ColourRight
  rw [hA, Option.bind_some, if_pos (by simp), few_eq, Option.bind_some]
  by_cases hl : a0.Edges.length ≤ 60
  · have hf : (decide (a0.Edges.length ≤ 60) && decide (([] : List Int).length ≤ 70)) = true := by simpa using hl
    rw [hf, if_neg (by simp), ownG_eq (by omega), Option.bind_some]
    by_cases hg : GoodG a0
    · obtain ⟨m, hm, hm2⟩ := hg.nat
      obtain ⟨d, k, h1, _, h3, h4, h5, h6⟩ := run_good hN hg hm
      rw [h1, Option.bind_some, if_neg (by simp)]
      have hs := findR0 (L := narthexlaw11_ColourRight_L1 N a0 (tab m d, (k : Int), 0)) (len := m) (p := fun _ => false) (r := false) (fun n i hi => by
        have hp := h3.pos (i : Int) (by omega) (by omega)
        have hz := h4 (i : Int) (by omega) (by omega)
        have hx := mex_le (h3.mex (i : Int) (by omega) (by omega) hz)
        have hfl := List.length_filter_le (fun b => decide (b > (i : Int))) (near m a0 (i : Int))
        have hnl := near_len m a0 (i : Int)
        rw [List.length_map] at hx
        have e0 : decide (d (i : Int) < 1) = false := by simp; omega
        rw [narthexlaw11_ColourRight_L1]
        simp only
        rw [if_pos (by rw [tab_len]; simpa using hi), tab_at (by omega) (by omega), Option.bind_some, e0, if_pos (by simp), Option.bind_some, if_pos (by simp), refnear_eq hN hg hm, Option.bind_some, w64_is (by omega) (by omega), if_neg (by simp; omega), w64_nat (by omega)]
        simp) (fun n => by rw [narthexlaw11_ColourRight_L1]; simp only; rw [tab_len, if_neg (by simp)]) (N := N) (by omega)
      rw [hs, Option.bind_some]
      have e : ((List.range m).any fun _ => false) = false := by rw [List.any_eq_false]; simp
      rw [e, if_neg (by simp)]
      simp only
      rw [Option.bind_some, own_eq (by rw [tab_len]; omega), Option.bind_some, right_good hN hg hm, Option.bind_some, col_edge hg hm h3 h4]
      have e2 : (tab m d).any (fun x => decide (x < 1)) = false := by
        rw [List.any_eq_false]
        intro x hx
        obtain ⟨a, ha, rfl⟩ := tab_mem.1 hx
        have hp := h3.pos (a : Int) (by omega) (by omega)
        have hz := h4 (a : Int) (by omega) (by omega)
        simp
        omega
      rw [e2, hm]
      have e3 : decide ((k : Int) ≤ (m : Int)) = true := by simp; omega
      have e4 : (decide ((k : Int) > 0) || ((m : Int) == 0)) = true := by
        simp only [Bool.or_eq_true, decide_eq_true_eq, beq_iff_eq]
        omega
      rw [e3, e4]
      rfl
    · rw [run_bad hN hg, Option.bind_some, if_pos (by simp)]
      rfl
  · have hf : (decide (a0.Edges.length ≤ 60) && decide (([] : List Int).length ≤ 70)) = false := by simp; omega
    rw [hf, if_pos (by simp), Option.bind_some]
theorem law_ColourGreedy (a0 : TGraph) (o0 : kGraph a0) : ∃ N, narthexlaw11_ColourGreedy N a0 = some true := by
  obtain ⟨N, hN, hA⟩ := awake_ok
  refine ⟨N, ?_⟩
  unfold narthexlaw11_ColourGreedy
  rw [hA, Option.bind_some, if_pos (by simp), few_eq, Option.bind_some]
  by_cases hl : a0.Edges.length ≤ 60
  · have hf : (decide (a0.Edges.length ≤ 60) && decide (([] : List Int).length ≤ 70)) = true := by simpa using hl
    rw [hf, if_neg (by simp), ownG_eq (by omega), Option.bind_some]
    by_cases hg : GoodG a0
    · obtain ⟨m, hm, hm2⟩ := hg.nat
      obtain ⟨d, k, h1, _, h3, h4, h5, h6⟩ := run_good hN hg hm
      rw [h1, Option.bind_some, if_neg (by simp)]
      have hs := findR0 (L := narthexlaw11_ColourGreedy_L1 N a0 (tab m d, (k : Int), 0)) (len := m) (p := fun _ => false) (r := false) (fun n i hi => by
        have hp := h3.pos (i : Int) (by omega) (by omega)
        have hz := h4 (i : Int) (by omega) (by omega)
        have hx := h3.mex (i : Int) (by omega) (by omega) hz
        have hxl := mex_le hx
        have hfl := List.length_filter_le (fun b => decide (b > (i : Int))) (near m a0 (i : Int))
        have hnl := near_len m a0 (i : Int)
        rw [List.length_map] at hxl
        rw [narthexlaw11_ColourGreedy_L1]
        simp only
        rw [if_pos (by rw [tab_len]; simpa using hi), refnear_eq hN hg hm, Option.bind_some]
        have ht := foldR0 (L := narthexlaw11_ColourGreedy_L2 N (tab m d, (k : Int), 0) (i : Int) (near m a0 (i : Int))) (xs := near m a0 (i : Int)) (f := fun out b => if b > (i : Int) then out ++ [d b] else out) (fin := some) (I := fun j out => out.length ≤ j ∧ out = (((near m a0 (i : Int)).take j).filter fun b => decide (b > (i : Int))).map d) (fun n j out b ho hb => by
          have hjl := (List.getElem?_eq_some_iff.1 hb).1
          have hbo := near_ok hg hm (List.mem_of_getElem? hb)
          refine ⟨?_, ?_, ?_⟩
          · rw [narthexlaw11_ColourGreedy_L2, if_pos (by simpa using hjl), at_nat, hb, Option.bind_some, w64_nat (by omega)]
            by_cases hbi : b > (i : Int)
            · rw [if_pos (by simpa using hbi), if_pos hbi, Option.bind_some]
              simp only
              rw [tab_at hbo.1 hbo.2, Option.bind_some, app_ok (by simp; omega), Option.bind_some]
            · rw [if_neg (by simpa using hbi), if_neg hbi]
          · split
            · simp
              omega
            · omega
          · rw [take_at hb, List.filter_append, List.map_append, ← ho.2]
            by_cases hbi : b > (i : Int)
            · rw [if_pos hbi]
              simp [hbi]
            · rw [if_neg hbi]
              simp [hbi]) (fun n out ho => by rw [narthexlaw11_ColourGreedy_L2, if_neg (by simp)]) (N := N) (s := []) (by omega) (by simp)
        obtain ⟨t1, t2, t3⟩ := ht
        rw [List.take_length] at t3
        rw [t1, Option.bind_some, t3]
        obtain ⟨K, hK⟩ : ∃ K : Nat, d (i : Int) = (K : Int) := ⟨(d (i : Int)).toNat, by omega⟩
        have hs := findR (L := narthexlaw11_ColourGreedy_L3 N (tab m d, (k : Int), 0) (i : Int) (((near m a0 (i : Int)).filter fun b => decide (b > (i : Int))).map d)) (len := K) (p := fun j => !decide ((j : Int) ∈ (((near m a0 (i : Int)).filter fun b => decide (b > (i : Int))).map d))) (r := false) (fun n j hj => by
          rw [narthexlaw11_ColourGreedy_L3]
          simp only
          rw [tab_at (by omega) (by omega), Option.bind_some, hK, if_pos (by simpa using hj), refhas_eq hN (by rw [List.length_map]; omega), Option.bind_some, w64_nat (by omega)]) (fun n => by
          rw [narthexlaw11_ColourGreedy_L3]
          simp only
          rw [tab_at (by omega) (by omega), Option.bind_some, hK, if_neg (by simp)]) N 1 (K - 1) (by omega) (by omega)
        have e : ((List.range' 1 (K - 1)).any fun j => !decide ((j : Int) ∈ (((near m a0 (i : Int)).filter fun b => decide (b > (i : Int))).map d))) = false := by
          rw [List.any_eq_false]
          intro j hj
          rw [List.mem_range'] at hj
          obtain ⟨j', hj', rfl⟩ := hj
          have := hx.all ((1 + 1 * j' : Nat) : Int) (by omega) (by omega)
          simp only [Bool.not_eq_true', decide_eq_false_iff_not, Classical.not_not]
          exact this
        rw [e, show ((1 : Nat) : Int) = 1 from rfl] at hs
        have e2 : decide (d (i : Int) ∈ (((near m a0 (i : Int)).filter fun b => decide (b > (i : Int))).map d)) = false := decide_eq_false_iff_not.2 hx.out
        rw [hs, Option.bind_some, if_neg (by simp)]
        simp only
        rw [tab_at (by omega) (by omega), Option.bind_some, refhas_eq hN (by rw [List.length_map]; omega), Option.bind_some, e2, w64_nat (by omega)]) (fun n => by rw [narthexlaw11_ColourGreedy_L1]; simp only; rw [tab_len, if_neg (by simp)]) (N := N) (by omega)
      rw [hs, Option.bind_some]
      have e : ((List.range m).any fun _ => false) = false := by rw [List.any_eq_false]; simp
      rw [e, if_neg (by simp)]
      simp only
      rw [tab_len, hm]
      simp
    · rw [run_bad hN hg, Option.bind_some, if_pos (by simp)]
      rfl
  · have hf : (decide (a0.Edges.length ≤ 60) && decide (([] : List Int).length ≤ 70)) = false := by simp; omega
    rw [hf, if_pos (by simp), Option.bind_some]
theorem law_ColourStays (a0 : TGraph) (o0 : kGraph a0) (a1 : List Int) (o1 : (a1.length ≤ maxLen ∧ ∀ y ∈ a1, (Lit.int .i64 y).wf = true)) : ∃ N, narthexlaw11_ColourStays N a0 a1 = some true := by
  obtain ⟨N, hN, hA⟩ := awake_ok
  refine ⟨N, ?_⟩
  unfold narthexlaw11_ColourStays
  rw [hA, Option.bind_some, if_pos (by simp), few_eq, Option.bind_some]
  by_cases hl : a0.Edges.length ≤ 60 ∧ a1.length ≤ 70
  · have hf : (decide (a0.Edges.length ≤ 60) && decide (a1.length ≤ 70)) = true := by simpa using hl
    obtain ⟨hl1, hl2⟩ := hl
    rw [hf, if_neg (by simp), ownG_eq (by omega), Option.bind_some, own_eq (by omega), Option.bind_some]
    by_cases hg : GoodG a0
    · by_cases hc : (a1.length : Int) = a0.N ∧ ∀ x ∈ a1, 0 ≤ x
      · obtain ⟨m, hml⟩ : ∃ m, a1.length = m := ⟨_, rfl⟩
        have hm : a0.N = (m : Int) := by rw [← hc.1, hml]
        obtain ⟨d, hd⟩ : ∃ d, a1 = tab m d := ⟨fn a1, by rw [← hml]; exact list_tab a1⟩
        have hdp : ∀ a : Int, 0 ≤ a → a < m → 0 ≤ d a := fun a h0 h1 => by
          refine hc.2 _ ?_
          rw [hd, tab_mem]
          exact ⟨a.toNat, by omega, by rw [show ((a.toNat : Nat) : Int) = a by omega]⟩
        clear hc o1
        subst hd
        rw [cround_good hN hg hm hdp, Option.bind_some]
        simp only
        rw [if_neg (by simp [tab_len])]
        have hs := foldR0 (L := narthexlaw11_ColourStays_L1 N (tab m d) (tab m (rnd m a0 d), 0)) (xs := List.range m) (f := fun k i => if d (i : Int) = 0 ∧ rnd m a0 d (i : Int) ≠ 0 then k + 1 else k) (fin := fun k => some (.inr k)) (I := fun i k => 0 ≤ k ∧ k ≤ i ∧ ((∃ a : Nat, a < i ∧ d a = 0 ∧ rnd m a0 d a ≠ 0) → 0 < k)) (fun n i k x hk hx => by
          obtain ⟨rfl, hi⟩ := range_at hx
          refine ⟨?_, ?_, ?_, ?_⟩
          · rw [narthexlaw11_ColourStays_L1, tab_len, if_pos (by simpa using hi), tab_at (by omega) (by omega), Option.bind_some, Option.bind_some, w64_nat (by omega)]
            simp only
            rw [tab_at (by omega) (by omega)]
            by_cases h0 : d (x : Int) = 0
            · have e1 : (d (x : Int) != 0) = false := by simp [h0]
              have e2 : (d (x : Int) == 0) = true := by simp [h0]
              rw [e1, if_neg (by simp), Option.bind_some, if_neg (by simp), Option.bind_some, if_neg (by simp), e2, if_pos rfl, Option.bind_some]
              by_cases hr : rnd m a0 d (x : Int) = 0
              · rw [if_neg (by simp [hr]), if_neg (fun h => h.2 hr)]
              · rw [if_pos (by simp [hr]), if_pos ⟨h0, hr⟩, w64_is (by omega) (by omega)]
            · have e1 : (d (x : Int) != 0) = true := by simp [h0]
              have e2 : (d (x : Int) == 0) = false := by simp [h0]
              rw [e1, if_pos rfl, Option.bind_some, if_pos rfl, Option.bind_some, rnd_keep h0, if_neg (by simp), e2, if_neg (by simp), Option.bind_some, if_neg (by simp), if_neg (fun h => h0 h.1)]
          · split <;> omega
          · split <;> omega
          · rintro ⟨a, ha, h1, h2⟩
            by_cases hax : a = x
            · subst hax
              rw [if_pos ⟨h1, h2⟩]
              omega
            · have := hk.2.2 ⟨a, by omega, h1, h2⟩
              split <;> omega) (fun n k hk => by rw [narthexlaw11_ColourStays_L1, tab_len, List.length_range, if_neg (by simp)]) (N := N) (s := 0) (by simp; omega) ⟨by omega, by omega, by rintro ⟨a, ha, _⟩; omega⟩
        obtain ⟨s1, s2, s3, s4⟩ := hs
        rw [List.length_range] at s3 s4
        rw [s1, Option.bind_some]
        simp only
        generalize (List.range m).foldl (fun (k : Int) (i : Nat) => if d (i : Int) = 0 ∧ rnd m a0 d (i : Int) ≠ 0 then k + 1 else k) (0 : Int) = K at s2 s3 s4 ⊢
        rw [anyR (L := narthexlaw11_ColourStays_L2 N a0 (tab m d) (tab m (rnd m a0 d), 0)) (xs := a0.Edges) (q := fun _ => false) (r := false) (fun n i e he => by
          have hil := (List.getElem?_eq_some_iff.1 he).1
          have hb := hg.edge e (List.mem_of_getElem? he)
          rw [narthexlaw11_ColourStays_L2, if_pos (by simpa using hil), at_nat, he, Option.bind_some, tab_at (by omega) (by omega), Option.bind_some, tab_at (by omega) (by omega), w64_nat (by omega)]
          simp only
          rw [tab_at (by omega) (by omega), tab_at (by omega) (by omega)]
          by_cases hA0 : d e.A = 0
          · by_cases hB0 : d e.B = 0
            · have ht : rnd m a0 d e.A = 0 := by
                unfold rnd
                rw [if_neg, hA0]
                intro ht
                exact trn_near ht ((mem_near hg hm).2 (adj_iff.2 ⟨e, List.mem_of_getElem? he, .inl ⟨rfl, rfl⟩⟩)) (by omega) hB0
              simp [hA0, hB0, ht]
            · simp [hA0, hB0]
          · simp [hA0]) (fun n => by rw [narthexlaw11_ColourStays_L2, if_neg (by simp)]) (by omega), Option.bind_some]
        have e : (a0.Edges.any fun _ => false) = false := by rw [List.any_eq_false]; simp
        rw [e, if_neg (by simp)]
        simp only
        by_cases hK : K > 0
        · have e1 : decide (K > 0) = true := by simpa using hK
          rw [e1, if_neg (by simp), Option.bind_some]
          rfl
        · have e1 : decide (K > 0) = false := by simpa using hK
          have hno : ¬ ∃ a : Nat, a < m ∧ d a = 0 := fun hz => hK (s4 (somebody hg hm hz))
          have e2 : decide ((0 : Int) ∈ tab m d) = false := decide_eq_false_iff_not.2 fun h => hno (zero_in.1 h)
          rw [e1, if_pos (by simp), refhas_eq hN (by rw [tab_len]; omega), Option.bind_some, e2]
          rfl
      · rw [cround_odd hN hg (by omega) hc, Option.bind_some, if_pos (by simp)]
        rfl
    · rw [cround_bad hN hg, Option.bind_some, if_pos (by simp)]
      rfl
  · have hf : (decide (a0.Edges.length ≤ 60) && decide (a1.length ≤ 70)) = false := by
      rw [Bool.eq_false_iff]
      simpa using hl
    rw [hf, if_pos (by simp), Option.bind_some]
theorem alonezero {N : Nat} {m : Nat} {g : TGraph} (hm : g.N = (m : Int)) (hm2 : m ≤ 64) : ∀ (n i : Nat), m < n + i → i ≤ m → narthexlaw11_ColourAlone_L1 N g n (List.replicate i 0) i = some (List.replicate m 0)
  | 0, i, h, hi => by omega
  | n + 1, i, h, hi => by
    rw [narthexlaw11_ColourAlone_L1, hm]
    by_cases hlt : i < m
    · rw [if_pos (by simpa using hlt), app_ok (by simp; omega), Option.bind_some, w64_nat (by omega), ← List.replicate_succ']
      exact alonezero hm hm2 n (i + 1) (by omega) (by omega)
    · rw [if_neg (by simpa using hlt), show i = m by omega]
theorem law_ColourAlone (a0 : TGraph) (o0 : kGraph a0) : ∃ N, narthexlaw11_ColourAlone N a0 = some true := by
  obtain ⟨N, hN, hA⟩ := awake_ok
  refine ⟨N, ?_⟩
  unfold narthexlaw11_ColourAlone
  rw [hA, Option.bind_some, if_pos (by simp), few_eq, Option.bind_some]
  by_cases hl : a0.Edges.length ≤ 60
  · have hf : (decide (a0.Edges.length ≤ 60) && decide (([] : List Int).length ≤ 70)) = true := by simpa using hl
    rw [hf, if_pos (by simp)]
    rcases refgcheck_eq (g := a0) hN with ⟨hg, hc⟩ | ⟨hg, hc⟩
    · obtain ⟨m, hm, hm2⟩ := hg.nat
      have hz := alonezero (N := N) hm (by omega) N 0 (by omega) (by omega)
      rw [show ((0 : Nat) : Int) = 0 from rfl, List.replicate_zero] at hz
      rw [hc, Option.bind_some, if_neg (by simp), hz, Option.bind_some, ownG_eq (by omega), Option.bind_some, tab_zero, cround_good hN hg hm (fun _ _ _ => Int.le_refl _), Option.bind_some]
      have hone : ∀ u : List Int, (∀ x ∈ u, x = 0) → mexv u = 1 := fun u hu => by
        refine (mexv_is u).1.uniq ⟨by omega, fun h => ?_, fun j h1 h2 => by omega⟩
        have := hu 1 h
        omega
      have hval : ∀ a : Int, rnd m a0 (fun _ => 0) a = 0 ∨ rnd m a0 (fun _ => 0) a = 1 := fun a => by
        unfold rnd
        split
        · right
          exact hone _ (fun x hx => by simp at hx; exact hx.2.symm)
        · exact .inl rfl
      have hs := findR0 (L := narthexlaw11_ColourAlone_L2 N a0 (tab m (rnd m a0 fun _ => 0), 0)) (len := m) (p := fun _ => false) (r := false) (fun n i hi => by
        rw [narthexlaw11_ColourAlone_L2]
        simp only
        rw [if_pos (by rw [tab_len]; simpa using hi), refnear_eq hN hg hm, Option.bind_some, tab_at (by omega) (by omega), hm, w64_is (by omega) (by omega), w64_nat (by omega)]
        have e2 : decide (rnd m a0 (fun _ => 0) (i : Int) > 1) = false := by
          have := hval (i : Int)
          simp
          omega
        by_cases hcnd : (near m a0 (i : Int)).length = 0 ∨ (i : Int) = (m : Int) - 1
        · have e1 : ((((near m a0 (i : Int)).length : Int) == 0) || ((i : Int) == (m : Int) - 1)) = true := by
            simp only [Bool.or_eq_true, beq_iff_eq]
            omega
          have ht : trn m a0 (fun _ => 0) (i : Int) = true := trn_of rfl fun b hb hab => by
            exfalso
            rcases hcnd with h | h
            · rw [List.length_eq_zero_iff] at h
              rw [h] at hb
              simp at hb
            · have := near_ok hg hm hb
              omega
          have hr : rnd m a0 (fun _ => 0) (i : Int) = 1 := by
            unfold rnd
            rw [if_pos ht]
            exact hone _ (fun x hx => by simp at hx; exact hx.2.symm)
          rw [e1, if_pos rfl, Option.bind_some, if_pos (by simp [hr]), Option.bind_some, e2]
          simp [hr]
        · have e1 : ((((near m a0 (i : Int)).length : Int) == 0) || ((i : Int) == (m : Int) - 1)) = false := by
            rw [Bool.eq_false_iff]
            simp only [ne_eq, Bool.or_eq_true, beq_iff_eq]
            omega
          rw [e1, if_neg (by simp), Option.bind_some, if_pos (by simp), Option.bind_some, e2]
          simp) (fun n => by rw [narthexlaw11_ColourAlone_L2]; simp only; rw [tab_len, if_neg (by simp)]) (N := N) (by omega)
      rw [hs, Option.bind_some]
      have e : ((List.range m).any fun _ => false) = false := by rw [List.any_eq_false]; simp
      rw [e, if_neg (by simp)]
      simp only
      rw [tab_len, hm]
      simp
    · rw [hc, Option.bind_some, if_pos (by simp), Option.bind_some]
  · have hf : (decide (a0.Edges.length ≤ 60) && decide (([] : List Int).length ≤ 70)) = false := by simp; omega
    rw [hf, if_neg (by simp), Option.bind_some, if_pos (by simp), Option.bind_some]

end Go.Proofs.Ytagmkgbkagpmnaa
