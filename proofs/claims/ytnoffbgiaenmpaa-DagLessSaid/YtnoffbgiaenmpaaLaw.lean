/- The plain laws: what the models come to. -/
import Derived.Test.YtnoffbgiaenmpaaMod
namespace Go.Proofs.Ytnoffbgiaenmpaa
open Go Go.Nx
set_option linter.unusedVariables false
set_option linter.unusedSimpArgs false
set_option linter.unnecessarySimpa false
set_option maxRecDepth 8000
theorem w64_nat {i : Nat} (h : i < 1000000000) : w64 ((i : Int) + 1) = ((i + 1 : Nat) : Int) := by
  have : IntKind.i64.wrap ((i : Int) + 1) = (i : Int) + 1 := wrap_i64 (by omega) (by omega)
  simpa using this
theorem w64_is {n : Int} (h1 : -9223372036854775808 ≤ n) (h2 : n < 9223372036854775808) : w64 n = n := wrap_i64 h1 h2
theorem at_nat {α : Type} {xs : List α} {i : Nat} : at? xs (i : Int) = xs[i]? := by
  simp [at?]
theorem drop_at {α : Type} {xs : List α} {i : Nat} {x : α} (h : xs[i]? = some x) : xs.drop i = x :: xs.drop (i + 1) := by
  obtain ⟨hl, rfl⟩ := List.getElem?_eq_some_iff.1 h
  exact List.drop_eq_getElem_cons hl
theorem take_at {α : Type} {xs : List α} {i : Nat} {x : α} (h : xs[i]? = some x) : xs.take (i + 1) = xs.take i ++ [x] := by
  obtain ⟨hl, rfl⟩ := List.getElem?_eq_some_iff.1 h
  simp
theorem some_at {α : Type} {xs : List α} {i : Nat} (h : i < xs.length) : ∃ x, xs[i]? = some x := ⟨_, List.getElem?_eq_getElem h⟩
theorem app_ok {α : Type} {xs ys : List α} (h : xs.length + ys.length ≤ 1000000) : app? xs ys = some (xs ++ ys) := by
  simp [app?]
  omega
/-! Loops, as folds and searches. -/
/-- A loop: from what holds at each head. -/
theorem loopI {σ ρ : Type} (L : Nat → σ → Option ρ) (I : σ → Prop) (μ : σ → Nat) (R : ρ → Prop) (h : ∀ n s, I s → (∃ s', I s' ∧ μ s' < μ s ∧ L (n + 1) s = L n s') ∨ ∃ r, L (n + 1) s = some r ∧ R r) : ∀ (n : Nat) (s : σ), I s → μ s < n → ∃ r, L n s = some r ∧ R r
  | 0, s, _, hm => by omega
  | n + 1, s, hs, hm => by
    rcases h n s hs with ⟨s', h1, h2, h3⟩ | ⟨r, h1, h2⟩
    · rw [h3]
      exact loopI L I μ R h n s' h1 (by omega)
    · exact ⟨r, h1, h2⟩
/-- A search by place. -/
theorem findR {ρ : Type} {L : Nat → Int → Option (ρ ⊕ Unit)} {len : Nat} {p : Nat → Bool} {r : ρ} (h1 : ∀ n i, i < len → L (n + 1) (i : Int) = if p i = true then some (.inl r) else L n ((i + 1 : Nat) : Int)) (h2 : ∀ n, L (n + 1) (len : Int) = some (.inr ())) :
    ∀ (n i k : Nat), k < n → i + k = len → L n (i : Int) = some (if (List.range' i k).any p = true then .inl r else .inr ())
  | 0, i, k, h, hi => by omega
  | n + 1, i, 0, h, hi => by
    obtain rfl : i = len := by omega
    rw [h2]
    simp
  | n + 1, i, k + 1, h, hi => by
    rw [h1 n i (by omega), List.range'_succ, List.any_cons]
    cases hp : p i with
    | true => simp
    | false =>
      rw [if_neg (by simp), findR h1 h2 n (i + 1) k (by omega) (by omega), Bool.false_or]
theorem findR0 {ρ : Type} {L : Nat → Int → Option (ρ ⊕ Unit)} {len : Nat} {p : Nat → Bool} {r : ρ} (h1 : ∀ n i, i < len → L (n + 1) (i : Int) = if p i = true then some (.inl r) else L n ((i + 1 : Nat) : Int)) (h2 : ∀ n, L (n + 1) (len : Int) = some (.inr ())) {N : Nat} (hN : len < N) :
    L N 0 = some (if (List.range len).any p = true then .inl r else .inr ()) := by
  have h := findR h1 h2 N 0 len hN (by omega)
  rw [show ((0 : Nat) : Int) = 0 from rfl, ← List.range_eq_range'] at h
  exact h
/-- A search by what stands there. -/
theorem anyR {α ρ : Type} {L : Nat → Int → Option (ρ ⊕ Unit)} {xs : List α} {q : α → Bool} {r : ρ} (h1 : ∀ n (i : Nat) x, xs[i]? = some x → L (n + 1) (i : Int) = if q x = true then some (.inl r) else L n ((i + 1 : Nat) : Int)) (h2 : ∀ n, L (n + 1) (xs.length : Int) = some (.inr ())) {N : Nat} (hN : xs.length < N) :
    L N 0 = some (if xs.any q = true then .inl r else .inr ()) := by
  have h := findR0 (L := L) (len := xs.length) (p := fun i => match xs[i]? with | some x => q x | none => false) (r := r) (fun n i hi => by
    have hx : xs[i]? = some xs[i] := List.getElem?_eq_getElem hi
    rw [h1 n i _ hx]
    simp only [hx]) h2 hN
  rw [h]
  have : ((List.range xs.length).any fun i => match xs[i]? with | some x => q x | none => false) = xs.any q := by
    rw [Bool.eq_iff_iff, List.any_eq_true, List.any_eq_true]
    constructor
    · rintro ⟨j, hj, hq⟩
      rw [List.mem_range] at hj
      rw [List.getElem?_eq_getElem hj] at hq
      exact ⟨_, List.getElem_mem hj, hq⟩
    · rintro ⟨x, hx, hq⟩
      obtain ⟨j, hj, rfl⟩ := List.getElem_of_mem hx
      exact ⟨j, List.mem_range.2 hj, by rw [List.getElem?_eq_getElem hj]; exact hq⟩
  rw [this]
/-- A search that tells the place. -/
theorem placeR {α : Type} {L : Nat → Int → Option (Int ⊕ Unit)} {xs : List α} {q : α → Bool} (h1 : ∀ n (i : Nat) x, xs[i]? = some x → L (n + 1) (i : Int) = if q x = true then some (.inl (i : Int)) else L n ((i + 1 : Nat) : Int)) (h2 : ∀ n, L (n + 1) (xs.length : Int) = some (.inr ())) :
    ∀ (n i : Nat), xs.length < n + i → i ≤ xs.length → (∀ x ∈ xs.take i, q x = false) → L n (i : Int) = some (match xs.findIdx? q with | some j => .inl (j : Int) | none => .inr ())
  | 0, i, h, hi, _ => by omega
  | n + 1, i, h, hi, ht => by
    rcases Nat.lt_or_ge i xs.length with hlt | hge
    · have hx : xs[i]? = some xs[i] := List.getElem?_eq_getElem hlt
      rw [h1 n i _ hx]
      cases hq : q xs[i] with
      | true =>
        have : xs.findIdx? q = some i := by
          rw [List.findIdx?_eq_some_iff_getElem]
          refine ⟨hlt, hq, fun j hj => ?_⟩
          have := ht xs[j] (by rw [List.mem_take_iff_getElem]; exact ⟨j, by omega, rfl⟩)
          simp [this]
        rw [if_pos rfl, this]
      | false =>
        rw [if_neg (by simp)]
        refine placeR h1 h2 n (i + 1) (by omega) (by omega) (fun x hx' => ?_)
        rw [List.take_succ_eq_append_getElem hlt, List.mem_append, List.mem_singleton] at hx'
        rcases hx' with h | rfl
        · exact ht x h
        · exact hq
    · have : i = xs.length := by omega
      subst this
      have : xs.findIdx? q = none := by
        rw [List.findIdx?_eq_none_iff]
        intro x hx
        exact ht x (by simpa using hx)
      rw [h2, this]
/-- A fold. -/
theorem foldR {α σ ρ : Type} {L : Nat → σ → Int → Option ρ} {xs : List α} {f : σ → α → σ} {fin : σ → Option ρ} (I : Nat → σ → Prop) (h1 : ∀ n (i : Nat) s x, I i s → xs[i]? = some x → L (n + 1) s (i : Int) = L n (f s x) ((i + 1 : Nat) : Int) ∧ I (i + 1) (f s x)) (h2 : ∀ n s, I xs.length s → L (n + 1) s (xs.length : Int) = fin s) :
    ∀ (n i : Nat) (s : σ), xs.length < n + i → i ≤ xs.length → I i s → L n s (i : Int) = fin ((xs.drop i).foldl f s) ∧ I xs.length ((xs.drop i).foldl f s)
  | 0, i, s, h, hi, _ => by omega
  | n + 1, i, s, h, hi, hs => by
    rcases Nat.lt_or_ge i xs.length with hlt | hge
    · have hx : xs[i]? = some xs[i] := List.getElem?_eq_getElem hlt
      obtain ⟨e1, e2⟩ := h1 n i s _ hs hx
      rw [e1, List.drop_eq_getElem_cons hlt, List.foldl_cons]
      exact foldR I h1 h2 n (i + 1) _ (by omega) (by omega) e2
    · have : i = xs.length := by omega
      subst this
      rw [h2 n s hs, List.drop_length]
      exact ⟨rfl, hs⟩
theorem foldR0 {α σ ρ : Type} {L : Nat → σ → Int → Option ρ} {xs : List α} {f : σ → α → σ} {fin : σ → Option ρ} (I : Nat → σ → Prop) (h1 : ∀ n (i : Nat) s x, I i s → xs[i]? = some x → L (n + 1) s (i : Int) = L n (f s x) ((i + 1 : Nat) : Int) ∧ I (i + 1) (f s x)) (h2 : ∀ n s, I xs.length s → L (n + 1) s (xs.length : Int) = fin s) {N : Nat} {s : σ} (hN : xs.length < N) (hs : I 0 s) :
    L N s 0 = fin (xs.foldl f s) ∧ I xs.length (xs.foldl f s) := by
  have h := foldR I h1 h2 N 0 s (by omega) (by omega) hs
  rw [show ((0 : Nat) : Int) = 0 from rfl, List.drop_zero] at h
  exact h
/-- A scan: the first place where it stops. -/
theorem scanR' {ρ : Type} {L : Nat → Int → Option ρ} {len : Nat} {p : Nat → Bool} {r : Nat → ρ} {e : ρ} (h1 : ∀ n i, i < len → L (n + 1) (i : Int) = if p i = true then some (r i) else L n ((i + 1 : Nat) : Int)) (h2 : ∀ n, L (n + 1) (len : Int) = some e) :
    ∀ (n i k : Nat), k < n → i + k = len → L n (i : Int) = some (match (List.range' i k).find? p with | some j => r j | none => e)
  | 0, i, k, h, hi => by omega
  | n + 1, i, 0, h, hi => by
    obtain rfl : i = len := by omega
    rw [h2]
    simp
  | n + 1, i, k + 1, h, hi => by
    rw [h1 n i (by omega), List.range'_succ, List.find?_cons]
    cases hp : p i with
    | true => simp
    | false =>
      rw [if_neg (by simp), scanR' h1 h2 n (i + 1) k (by omega) (by omega)]
theorem scanR {ρ : Type} {L : Nat → Int → Option ρ} {len : Nat} {p : Nat → Bool} {r : Nat → ρ} {e : ρ} (h1 : ∀ n i, i < len → L (n + 1) (i : Int) = if p i = true then some (r i) else L n ((i + 1 : Nat) : Int)) (h2 : ∀ n, L (n + 1) (len : Int) = some e) {N : Nat} (hN : len < N) :
    L N 0 = some (match (List.range len).find? p with | some j => r j | none => e) := by
  have h := scanR' h1 h2 N 0 len hN (by omega)
  rw [show ((0 : Nat) : Int) = 0 from rfl, ← List.range_eq_range'] at h
  exact h

/-! Chapter 04: the small ones. -/
theorem own_eq {N : Nat} {l : List TArc} (h : l.length ≤ 1000) : narthexlaw04_own N l = some l := by
  simp [narthexlaw04_own, app_ok (xs := ([] : List TArc)) (ys := l) (by simp; omega)]
theorem few_eq {N : Nat} {n : Int} {l : List TArc} : narthexlaw04_few N n l = some (decide (l.length ≤ 60) && (decide (n ≤ 24) || decide (n > 64))) := by
  simp [narthexlaw04_few]
  rw [Bool.eq_iff_iff]
  simp
  omega
theorem refhas_eq {N : Nat} {l : List Int} {x : Int} (hN : 1000 < N) (hb : l.length ≤ 1000) : narthexref01_Has N l x = some (decide (x ∈ l)) := by
  unfold narthexref01_Has
  rw [anyR (L := narthexref01_Has_L1 N l x) (xs := l) (q := fun y => y == x) (r := true) (fun n i y hy => by
    have hl := (List.getElem?_eq_some_iff.1 hy).1
    rw [narthexref01_Has_L1, if_pos (by simpa using hl), at_nat, hy, Option.bind_some, w64_nat (by omega)]) (fun n => by rw [narthexref01_Has_L1, if_neg (by simp)]) (by omega), Option.bind_some]
  have : l.any (fun y => y == x) = decide (x ∈ l) := by
    rw [Bool.eq_iff_iff]; simp
  rw [this]
  by_cases h : x ∈ l <;> simp [h]
theorem index_eq {N : Nat} {l : List Int} {x : Int} (hN : 1000 < N) (hb : l.length ≤ 1000) : slices_Index_int N l x = some (match l.findIdx? (fun y => x == y) with | some j => (j : Int) | none => -1) := by
  unfold slices_Index_int
  have h := placeR (L := slices_Index_int_L1 N l x) (xs := l) (q := fun y => x == y) (fun n i y hy => by
    have hl := (List.getElem?_eq_some_iff.1 hy).1
    rw [slices_Index_int_L1, if_pos (by simpa using hl), at_nat, hy, Option.bind_some, w64_nat (by omega)]) (fun n => by rw [slices_Index_int_L1, if_neg (by simp)]) N 0 (by omega) (by omega) (by simp)
  rw [show ((0 : Nat) : Int) = 0 from rfl] at h
  rw [h, Option.bind_some]
  cases l.findIdx? (fun y => x == y) <;> rfl
theorem contains_eq {N : Nat} {l : List Int} {x : Int} (hN : 1000 < N) (hb : l.length ≤ 1000) : slices_Contains_int N l x = some (decide (x ∈ l)) := by
  unfold slices_Contains_int
  rw [index_eq hN hb, Option.bind_some]
  congr 1
  rw [Bool.eq_iff_iff]
  cases h : l.findIdx? (fun y => x == y) with
  | none =>
    rw [List.findIdx?_eq_none_iff] at h
    simp only [decide_eq_true_eq]
    constructor
    · intro h1; omega
    · intro h1; have := h x h1; simp at this
  | some j =>
    rw [List.findIdx?_eq_some_iff_getElem] at h
    obtain ⟨h1, h2, _⟩ := h
    simp only [decide_eq_true_eq]
    have : x = l[j] := by simpa using h2
    exact ⟨fun _ => this ▸ List.getElem_mem h1, fun _ => by omega⟩
theorem has_eq {N : Nat} {l : List Int} {x : Int} (hN : 1000 < N) (hb : l.length ≤ 1000) : set_Has N l x = some (decide (x ∈ l)) := by
  unfold set_Has
  rw [contains_eq hN hb, Option.bind_some]
theorem ext_at {α : Type} {a b : List α} (hl : a.length = b.length) (h : ∀ (i : Nat) x y, a[i]? = some x → b[i]? = some y → x = y) : a = b := by
  refine List.ext_getElem hl fun i h1 h2 => h i _ _ (List.getElem?_eq_getElem h1) (List.getElem?_eq_getElem h2)
theorem sameI_eq {N : Nat} {a b : List Int} (hN : 1000 < N) (hb : a.length ≤ 1000) : narthexref01_Same N a b = some (decide (a = b)) := by
  unfold narthexref01_Same
  by_cases hl : a.length = b.length
  · rw [if_neg (by simp [hl]), findR0 (L := narthexref01_Same_L1 N a b) (len := a.length) (p := fun i => a[i]? != b[i]?) (r := false) (fun n i hi => by
      obtain ⟨x, hx⟩ := some_at hi
      obtain ⟨y, hy⟩ := some_at (xs := b) (i := i) (by omega)
      rw [narthexref01_Same_L1, if_pos (by simpa using hi), at_nat, at_nat, hx, hy, Option.bind_some, Option.bind_some, w64_nat (by omega)]
      simp [bne]) (fun n => by rw [narthexref01_Same_L1, if_neg (by simp)]) (by omega), Option.bind_some]
    by_cases he : a = b
    · subst he
      simp
    · have : ((List.range a.length).any fun i => a[i]? != b[i]?) = true := by
        rw [List.any_eq_true]
        apply Classical.byContradiction
        intro hn
        refine he (ext_at hl fun i x y hx hy => ?_)
        apply Classical.byContradiction
        intro hxy
        exact hn ⟨i, List.mem_range.2 (List.getElem?_eq_some_iff.1 hx).1, by rw [hx, hy]; simpa using hxy⟩
      rw [this]
      simp [he]
  · rw [if_pos (by simpa using fun e => hl (by omega))]
    simp [show a ≠ b from fun e => hl (by rw [e])]
theorem sameA_eq {N : Nat} {a b : List TArc} (hN : 1000 < N) (hb : a.length ≤ 1000) : narthexref04_Same N a b = some (decide (a = b)) := by
  unfold narthexref04_Same
  by_cases hl : a.length = b.length
  · rw [if_neg (by simp [hl]), findR0 (L := narthexref04_Same_L1 N a b) (len := a.length) (p := fun i => a[i]? != b[i]?) (r := false) (fun n i hi => by
      obtain ⟨x, hx⟩ := some_at hi
      obtain ⟨y, hy⟩ := some_at (xs := b) (i := i) (by omega)
      rw [narthexref04_Same_L1, if_pos (by simpa using hi), at_nat, at_nat, hx, hy, Option.bind_some, Option.bind_some, w64_nat (by omega)]
      by_cases hxy : x = y <;> simp [hxy]) (fun n => by rw [narthexref04_Same_L1, if_neg (by simp)]) (by omega), Option.bind_some]
    by_cases he : a = b
    · subst he
      simp
    · have : ((List.range a.length).any fun i => a[i]? != b[i]?) = true := by
        rw [List.any_eq_true]
        apply Classical.byContradiction
        intro hn
        refine he (ext_at hl fun i x y hx hy => ?_)
        apply Classical.byContradiction
        intro hxy
        exact hn ⟨i, List.mem_range.2 (List.getElem?_eq_some_iff.1 hx).1, by rw [hx, hy]; simpa using hxy⟩
      rw [this]
      simp [he]
  · rw [if_pos (by simpa using fun e => hl (by omega))]
    simp [show a ≠ b from fun e => hl (by rw [e])]

/-! May the arcs be? -/
structure Good (n : Int) (l : List TArc) : Prop where
  lo : 0 ≤ n
  hi : n ≤ 64
  len : l.length ≤ 400
  arc : ∀ x ∈ l, 0 ≤ x.From ∧ x.From < n ∧ 0 ≤ x.To ∧ x.To < n ∧ x.From ≠ x.To
  nodup : l.Nodup
theorem nodup_take {α : Type} {l : List α} : l.Nodup ↔ ∀ (i : Nat) x, l[i]? = some x → x ∉ l.take i := by
  rw [List.nodup_iff_pairwise_ne, List.pairwise_iff_getElem]
  constructor
  · intro h i x hx hm
    obtain ⟨hi, rfl⟩ := List.getElem?_eq_some_iff.1 hx
    rw [List.mem_take_iff_getElem] at hm
    obtain ⟨j, hj, he⟩ := hm
    exact h j i (by omega) hi (by omega) he
  · intro h i j hi hj hij he
    exact h j _ (List.getElem?_eq_getElem hj) (by rw [List.mem_take_iff_getElem]; exact ⟨i, by omega, he⟩)
def badArc (n : Int) (x : TArc) : Bool := decide (x.From < 0) || decide (x.From ≥ n) || decide (x.To < 0) || decide (x.To ≥ n) || (x.From == x.To)
def badAt (n : Int) (l : List TArc) (i : Nat) : Bool := match l[i]? with | some x => badArc n x || decide (x ∈ l.take i) | none => false
theorem good_iff {n : Int} {l : List TArc} (h1 : 0 ≤ n) (h2 : n ≤ 64) (h3 : l.length ≤ 400) : ((List.range l.length).any (badAt n l) = false) ↔ Good n l := by
  rw [List.any_eq_false]
  constructor
  · intro h
    refine ⟨h1, h2, h3, fun x hx => ?_, nodup_take.2 fun i x hx hm => ?_⟩
    · obtain ⟨i, hi, rfl⟩ := List.getElem_of_mem hx
      have := h i (List.mem_range.2 hi)
      simp only [badAt, List.getElem?_eq_getElem hi, badArc, Bool.or_eq_true, decide_eq_true_eq, beq_iff_eq] at this
      omega
    · have := h i (List.mem_range.2 (List.getElem?_eq_some_iff.1 hx).1)
      simp [badAt, hx, hm] at this
  · intro hg i hi
    rw [List.mem_range] at hi
    have hx := List.getElem?_eq_getElem hi
    have ha := hg.arc _ (List.getElem_mem hi)
    have hn := nodup_take.1 hg.nodup i _ hx
    simp only [badAt, hx, badArc, Bool.or_eq_true, decide_eq_true_eq, beq_iff_eq]
    rintro (h | h)
    · omega
    · exact hn h
theorem containsA_eq {N : Nat} {l : List TArc} {x : TArc} (hN : 1000 < N) (hb : l.length ≤ 1000) : slices_Contains_Arc N l x = some (decide (x ∈ l)) := by
  unfold slices_Contains_Arc slices_Index_Arc
  have h := placeR (L := slices_Index_Arc_L1 N l x) (xs := l) (q := fun y => decide (x = y)) (fun n i y hy => by
    have hl := (List.getElem?_eq_some_iff.1 hy).1
    rw [slices_Index_Arc_L1, if_pos (by simpa using hl), at_nat, hy, Option.bind_some, w64_nat (by omega)]) (fun n => by rw [slices_Index_Arc_L1, if_neg (by simp)]) N 0 (by omega) (by omega) (by simp)
  rw [show ((0 : Nat) : Int) = 0 from rfl] at h
  rw [h, Option.bind_some]
  cases h : l.findIdx? (fun y => decide (x = y)) with
  | none =>
    rw [List.findIdx?_eq_none_iff] at h
    have : x ∉ l := fun h1 => by have := h x h1; simp at this
    simp [this]
  | some j =>
    rw [List.findIdx?_eq_some_iff_getElem] at h
    obtain ⟨h1, h2, _⟩ := h
    have : x = l[j] := by simpa using h2
    have : x ∈ l := this ▸ List.getElem_mem h1
    simp [this]
theorem hasA_eq {N : Nat} {l : List TArc} {x : TArc} (hN : 1000 < N) (hb : l.length ≤ 1000) : narthexlaw04_has N l x = some (decide (x ∈ l)) := by
  unfold narthexlaw04_has
  rw [anyR (L := narthexlaw04_has_L1 N l x) (xs := l) (q := fun y => decide (y = x)) (r := true) (fun n i y hy => by
    have hl := (List.getElem?_eq_some_iff.1 hy).1
    rw [narthexlaw04_has_L1, if_pos (by simpa using hl), at_nat, hy, Option.bind_some, w64_nat (by omega)]) (fun n => by rw [narthexlaw04_has_L1, if_neg (by simp)]) (by omega), Option.bind_some]
  have : l.any (fun y => decide (y = x)) = decide (x ∈ l) := by
    rw [Bool.eq_iff_iff]; simp
  rw [this]
  by_cases h : x ∈ l <;> simp [h]
theorem sub_take {α : Type} {xs : List α} {i : Nat} (h : i ≤ xs.length) : sub? xs 0 (i : Int) = some (xs.take i) := by
  rw [sub?, if_pos (by omega)]; simp
theorem sub_drop {α : Type} {xs : List α} {i : Nat} (h : i ≤ xs.length) : sub? xs (i : Int) (xs.length : Int) = some (xs.drop i) := by
  rw [sub?, if_pos (by omega)]; simp
theorem check_eq {N : Nat} {n : Int} {l : List TArc} (hN : 1000 < N) : (Good n l ∧ dag_Check N n l = some 0) ∨ (¬ Good n l ∧ dag_Check N n l = some 40) := by
  unfold dag_Check
  by_cases h : n < 0 ∨ n > 64 ∨ l.length > 400
  · rw [if_pos (by simp; omega)]
    exact .inr ⟨fun g => by have := g.lo; have := g.hi; have := g.len; omega, rfl⟩
  · rw [if_neg (by simp; omega), findR0 (L := dag_Check_L1 N n l) (len := l.length) (p := badAt n l) (r := 40) (fun m i hi => by
      obtain ⟨x, hx⟩ := some_at hi
      rw [dag_Check_L1, if_pos (by simpa using hi), at_nat, hx, Option.bind_some]
      simp only [dag_Check_1, Option.bind_some]
      have hc : ∀ b : Bool, (if b = true then (some (decide (0 ≤ x.To) && decide (x.To < n)) : Option Bool) else some default).bind (fun y => some (!b || !y)) = some (!b || !(decide (0 ≤ x.To) && decide (x.To < n))) := by intro b; cases b <;> rfl
      by_cases hF : 0 ≤ x.From ∧ x.From < n
      · have e1 : (decide (0 ≤ x.From) && decide (x.From < n)) = true := by simp [hF]
        simp only [e1, Bool.not_true, Bool.not_false, if_true, Option.bind_some, Bool.false_or]
        by_cases hT : (0 ≤ x.To ∧ x.To < n) ∧ x.From ≠ x.To
        · have e2 : (decide (0 ≤ x.To) && decide (x.To < n)) = true := by simp [hT]
          have e3 : (x.From == x.To) = false := by simp [hT]
          simp only [e2, e3, Bool.not_true, Bool.false_or, Bool.not_false, if_true]
          rw [sub_take (by omega), Option.bind_some, containsA_eq hN (by rw [List.length_take]; omega), Option.bind_some, w64_nat (by omega)]
          have : badAt n l i = decide (x ∈ l.take i) := by
            have : badArc n x = false := by simp [badArc]; omega
            simp [badAt, hx, this]
          rw [this]
        · have e2 : (!(decide (0 ≤ x.To) && decide (x.To < n)) || (x.From == x.To)) = true := by
            simp only [Bool.or_eq_true, Bool.not_eq_true', Bool.and_eq_false_imp, decide_eq_true_eq, decide_eq_false_iff_not, beq_iff_eq]
            omega
          have : badAt n l i = true := by
            have : badArc n x = true := by simp [badArc]; omega
            simp [badAt, hx, this]
          simp only [e2, this, Bool.not_true, Bool.false_eq_true, if_false, Option.bind_some, Bool.true_or, if_true]
      · have e1 : (decide (0 ≤ x.From) && decide (x.From < n)) = false := by
          simp only [Bool.and_eq_false_imp, decide_eq_true_eq, decide_eq_false_iff_not]; omega
        have : badAt n l i = true := by
          have : badArc n x = true := by simp [badArc]; omega
          simp [badAt, hx, this]
        simp only [e1, this, Bool.not_false, Bool.not_true, Bool.false_eq_true, if_false, Option.bind_some, Bool.true_or, if_true]) (fun m => by rw [dag_Check_L1, if_neg (by simp)]) (by omega), Option.bind_some]
    have hg := good_iff (n := n) (l := l) (by omega) (by omega) (by omega)
    cases hb : (List.range l.length).any (badAt n l) with
    | true => exact .inr ⟨fun g => (by have := hg.2 g; rw [hb] at this; cases this), rfl⟩
    | false => exact .inl ⟨hg.1 hb, rfl⟩
theorem refcheck_eq {N : Nat} {n : Int} {l : List TArc} (hN : 1000 < N) : (Good n l ∧ narthexref04_Check N n l = some true) ∨ (¬ Good n l ∧ narthexref04_Check N n l = some false) := by
  unfold narthexref04_Check
  by_cases h : n < 0 ∨ n > 64 ∨ l.length > 400
  · rw [if_pos (by simp; omega)]
    exact .inr ⟨fun g => by have := g.lo; have := g.hi; have := g.len; omega, rfl⟩
  · rw [if_neg (by simp; omega), findR0 (L := narthexref04_Check_L1 N n l) (len := l.length) (p := badAt n l) (r := false) (fun m i hi => by
      obtain ⟨x, hx⟩ := some_at hi
      rw [narthexref04_Check_L1, if_pos (by simpa using hi), at_nat, hx, Option.bind_some]
      cases hb : badArc n x with
      | true =>
        have : badAt n l i = true := by simp [badAt, hx, hb]
        rw [if_pos (by simpa only [badArc] using hb), if_pos this]
      | false =>
        have ht : badAt n l i = decide (x ∈ l.take i) := by simp [badAt, hx, hb]
        rw [if_neg (by simp only [badArc] at hb; simp only [hb, Bool.false_eq_true, not_false_eq_true])]
        rw [findR0 (L := narthexref04_Check_L2 N l (i : Int) x) (len := i) (p := fun k => match l[k]? with | some y => decide (y = x) | none => false) (r := false) (fun m k hk => by
          obtain ⟨y, hy⟩ := some_at (xs := l) (i := k) (by omega)
          rw [narthexref04_Check_L2, if_pos (by simpa using hk), at_nat, hy, Option.bind_some, w64_nat (by omega)]) (fun m => by rw [narthexref04_Check_L2, if_neg (by simp)]) (by omega), Option.bind_some]
        have hm : ((List.range i).any fun k => match l[k]? with | some y => decide (y = x) | none => false) = decide (x ∈ l.take i) := by
          rw [Bool.eq_iff_iff, List.any_eq_true, decide_eq_true_eq, List.mem_take_iff_getElem]
          constructor
          · rintro ⟨k, hk, he⟩
            rw [List.mem_range] at hk
            rw [List.getElem?_eq_getElem (by omega)] at he
            exact ⟨k, by omega, by simpa using he⟩
          · rintro ⟨k, hk, he⟩
            refine ⟨k, List.mem_range.2 (by omega), ?_⟩
            rw [List.getElem?_eq_getElem (by omega)]
            simpa using he
        rw [hm, ht, w64_nat (by omega)]
        by_cases hxm : x ∈ l.take i <;> simp [hxm]) (fun m => by rw [narthexref04_Check_L1, if_neg (by simp)]) (by omega), Option.bind_some]
    have hg := good_iff (n := n) (l := l) (by omega) (by omega) (by omega)
    cases hb : (List.range l.length).any (badAt n l) with
    | true => exact .inr ⟨fun g => (by have := hg.2 g; rw [hb] at this; cases this), rfl⟩
    | false => exact .inl ⟨hg.1 hb, rfl⟩

/-! Who is told, one by one. -/
def free (l : List TArc) (out : List Int) (a : Int) : Bool := !l.any fun x => (x.To == a) && !decide (x.From ∈ out)
def rdy (l : List TArc) (out : List Int) (a : Nat) : Bool := !decide ((a : Int) ∈ out) && free l out a
def nxt (m : Nat) (l : List TArc) (out : List Int) : Option Nat := (List.range m).find? (rdy l out)
def tell (m : Nat) (l : List TArc) : Nat → List Int → List Int
  | 0, out => out
  | k + 1, out => match nxt m l out with
    | some a => tell m l k (out ++ [(a : Int)])
    | none => out
def told (m : Nat) (l : List TArc) : List Int := tell m l m []

/-- Nodes, each once. -/
structure Nds (m : Nat) (out : List Int) : Prop where
  nodup : out.Nodup
  lt : ∀ a ∈ out, 0 ≤ a ∧ a < (m : Int)
theorem Nds.len {m : Nat} {out : List Int} (h : Nds m out) : out.length ≤ m := by
  have := h.nodup.length_le_of_subset (l₂ := (List.range m).map Int.ofNat) (fun a ha => by
    rw [List.mem_map]
    have := h.lt a ha
    exact ⟨a.toNat, List.mem_range.2 (by omega), by simp <;> omega⟩)
  simpa using this
theorem nxt_some {m : Nat} {l : List TArc} {out : List Int} {a : Nat} (h : nxt m l out = some a) : a < m ∧ (a : Int) ∉ out ∧ free l out a = true ∧ ∀ b, b < a → rdy l out b = false := by
  unfold nxt at h
  rw [List.find?_range_eq_some] at h
  obtain ⟨h1, h2, h3⟩ := h
  simp only [rdy, Bool.and_eq_true, Bool.not_eq_true', decide_eq_false_iff_not] at h1
  exact ⟨List.mem_range.1 h2, h1.1, h1.2, fun b hb => by simpa using h3 b hb⟩
theorem nxt_none {m : Nat} {l : List TArc} {out : List Int} (h : nxt m l out = none) : ∀ a : Nat, a < m → (a : Int) ∈ out ∨ free l out a = false := by
  intro a ha
  unfold nxt at h
  rw [List.find?_eq_none] at h
  have := h a (List.mem_range.2 ha)
  simp only [rdy, Bool.and_eq_true, Bool.not_eq_true', decide_eq_false_iff_not, not_and, Bool.not_eq_true] at this
  by_cases hm : (a : Int) ∈ out
  · exact .inl hm
  · exact .inr (this hm)
theorem Nds.next {m : Nat} {l : List TArc} {out : List Int} (h : Nds m out) {a : Nat} (hn : nxt m l out = some a) : Nds m (out ++ [(a : Int)]) := by
  obtain ⟨h1, h2, _⟩ := nxt_some hn
  refine ⟨List.nodup_append.2 ⟨h.nodup, by simp, fun x hx y hy => ?_⟩, fun x hx => ?_⟩
  · rw [List.mem_singleton] at hy
    subst hy
    exact fun e => h2 (e ▸ hx)
  · rcases List.mem_append.1 hx with hx | hx
    · exact h.lt x hx
    · rw [List.mem_singleton] at hx
      omega
theorem nds_tell {m : Nat} {l : List TArc} : ∀ (k : Nat) {out : List Int}, Nds m out → Nds m (tell m l k out)
  | 0, out, h => h
  | k + 1, out, h => by
    unfold tell
    split
    · rename_i a ha
      exact nds_tell k (h.next ha)
    · exact h
theorem told_nds (m : Nat) (l : List TArc) : Nds m (told m l) := nds_tell m ⟨by simp, by simp⟩
/-- Nobody more can be told. -/
theorem tell_end {m : Nat} {l : List TArc} : ∀ (k : Nat) {out : List Int}, Nds m out → m ≤ out.length + k → nxt m l (tell m l k out) = none
  | 0, out, h, hk => by
    cases hn : nxt m l out with
    | none => unfold tell; exact hn
    | some a =>
      have := (h.next hn).len
      simp at this
      omega
  | k + 1, out, h, hk => by
    unfold tell
    split
    · rename_i a ha
      exact tell_end k (h.next ha) (by simp <;> omega)
    · assumption
theorem told_end (m : Nat) (l : List TArc) : nxt m l (told m l) = none := tell_end m ⟨by simp, by simp⟩ (by simp)
theorem tell_more {m : Nat} {l : List TArc} {out : List Int} (hn : nxt m l out = none) : ∀ k, tell m l k out = out
  | 0 => rfl
  | k + 1 => by unfold tell; rw [hn]

/-! So many trues. -/
theorem mul_eq {N m : Nat} (h : m < 65) : math_bits_Mul N 1 (m : Int) = some (0, (m : Int)) := by
  have key : ∀ m : Nat, m < 65 → math_bits_Mul 0 1 (m : Int) = some (0, (m : Int)) := by decide +kernel
  exact key m h
theorem repeat_eq {N m : Nat} (hN : 1000 < N) (h : m < 65) : slices_Repeat_bool N [true] (m : Int) = some (List.replicate m true) := by
  unfold slices_Repeat_bool
  have e0 : IntKind.u64.wrap (([true].length : Nat) : Int) = 1 := by decide +kernel
  have e1 : IntKind.u64.wrap (m : Int) = (m : Int) := by
    have key : ∀ m : Nat, m < 65 → IntKind.u64.wrap (m : Int) = (m : Int) := by decide +kernel
    exact key m h
  rw [if_neg (by simp <;> omega), e0, e1, mul_eq h, Option.bind_some, if_neg (by simp <;> omega), w64_is (by omega) (by omega), mk?, if_pos (by omega), Option.bind_some, Int.toNat_natCast]
  obtain ⟨r, h1, h2⟩ := loopI (L := fun n (s : List Bool × Int) => slices_Repeat_bool_L1 N n s.1 s.2) (I := fun s => ∃ k, k ≤ m ∧ (m = 0 ∨ 1 ≤ k) ∧ s = (List.replicate k true ++ List.replicate (m - k) false, (k : Int))) (μ := fun s => m - s.2.toNat) (R := fun r => r = List.replicate m true) (fun n s hs => by
    obtain ⟨k, k1, k2, rfl⟩ := hs
    simp only
    by_cases hk : k < m
    · left
      refine ⟨(List.replicate (k + min k (m - k)) true ++ List.replicate (m - (k + min k (m - k))) false, ((k + min k (m - k) : Nat) : Int)), ⟨_, by omega, by omega, rfl⟩, by simp <;> omega, ?_⟩
      rw [slices_Repeat_bool_L1, if_pos (by simp <;> omega), sub_drop (by simp <;> omega), Option.bind_some, sub_take (by simp <;> omega), Option.bind_some]
      have l1 : ((List.replicate k true ++ List.replicate (m - k) false).drop k).length = m - k := by simp <;> omega
      have l2 : ((List.replicate k true ++ List.replicate (m - k) false).take k) = List.replicate k true := by simp
      have l3 : (((List.replicate k true ++ List.replicate (m - k) false).drop 0).take ((List.replicate k true ++ List.replicate (m - k) false).take k).length) = List.replicate k true := by simp
      rw [l1, l3, List.length_replicate, Int.toNat_natCast]
      have l4 : cpy (List.replicate k true ++ List.replicate (m - k) false) k (m - k) (List.replicate k true) = List.replicate (k + min k (m - k)) true ++ List.replicate (m - (k + min k (m - k))) false := by
        simp only [cpy, List.length_replicate]
        rw [l2, List.take_replicate, List.drop_append]
        simp only [List.length_replicate, List.drop_replicate]
        rw [show k - (k + min (m - k) k) = 0 by omega, show k + min (m - k) k - k = min (m - k) k by omega, show m - k - min (m - k) k = m - (k + min k (m - k)) by omega, List.replicate_zero, List.nil_append, List.replicate_append_replicate, Nat.min_comm]
      rw [l4]
      congr 1
      rw [w64_is (by omega) (by omega)]
      omega
    · right
      obtain rfl : k = m := by omega
      refine ⟨_, ?_, rfl⟩
      rw [slices_Repeat_bool_L1, if_neg (by simp)]
      simp) N (cpy (List.replicate m false) 0 (List.replicate m false).length [true], ((min [true].length (List.replicate m false).length : Nat) : Int)) ⟨min 1 m, by omega, by omega, by
        cases m with
        | zero => rfl
        | succ m =>
          have : min 1 (m + 1) = 1 := by omega
          simp [cpy, this, List.replicate_succ]⟩ (by simp <;> omega)
  simp only at h1
  rw [h1, Option.bind_some, h2]

/-! The code's way, and the document's. -/
theorem blocked_eq {N m : Nat} {l : List TArc} {out : List Int} {left : List Bool} (hN : 1000 < N) (hg : Good m l) (hl : ∀ i : Nat, i < m → left[i]? = some (!decide ((i : Int) ∈ out))) (a : Int) : slices_ContainsFunc_Arc_3 N l out left a = some (!free l out a) := by
  have hlen := hg.len
  unfold slices_ContainsFunc_Arc_3 slices_IndexFunc_Arc_3
  have h := placeR (L := slices_IndexFunc_Arc_3_L1 N l out left a) (xs := l) (q := fun x => (x.To == a) && !decide (x.From ∈ out)) (fun n i y hy => by
    have hl' := (List.getElem?_eq_some_iff.1 hy).1
    have ha := hg.arc y (List.mem_of_getElem? hy)
    rw [slices_IndexFunc_Arc_3_L1, if_pos (by simpa using hl'), at_nat, hy, Option.bind_some, w64_nat (by omega)]
    have : dag_run_1_3 N y out left a = some ((y.To == a) && !decide (y.From ∈ out)) := by
      unfold dag_run_1_3
      by_cases hy2 : y.To = a
      · obtain ⟨k, hk⟩ : ∃ k : Nat, y.From = (k : Int) := ⟨y.From.toNat, by omega⟩
        rw [if_pos (by simpa using hy2), hk, at_nat, hl k (by omega), Option.bind_some]
      · rw [if_neg (by simpa using hy2), Option.bind_some]
        simp [hy2]
    rw [this, Option.bind_some]) (fun n => by rw [slices_IndexFunc_Arc_3_L1, if_neg (by simp)]) N 0 (by omega) (by omega) (by simp)
  rw [show ((0 : Nat) : Int) = 0 from rfl] at h
  rw [h, Option.bind_some]
  cases h : l.findIdx? (fun x => (x.To == a) && !decide (x.From ∈ out)) with
  | none =>
    rw [List.findIdx?_eq_none_iff] at h
    have : l.any (fun x => (x.To == a) && !decide (x.From ∈ out)) = false := by
      rw [List.any_eq_false]
      intro x hx
      simp [h x hx]
    simp [free, this]
  | some j =>
    rw [List.findIdx?_eq_some_iff_getElem] at h
    obtain ⟨h1, h2, _⟩ := h
    have : l.any (fun x => (x.To == a) && !decide (x.From ∈ out)) = true := List.any_eq_true.2 ⟨_, List.getElem_mem h1, h2⟩
    simp [free, this]
theorem scan_eq {N m : Nat} {l : List TArc} {out : List Int} {left : List Bool} (hN : 1000 < N) (hg : Good m l) (ho : Nds m out) (hlen : left.length = m) (hl : ∀ i : Nat, i < m → left[i]? = some (!decide ((i : Int) ∈ out))) :
    dag_run_L2 N m l out left N 0 = some (match nxt m l out with | some a => .inl (out ++ [(a : Int)], left.set a false) | none => .inr ()) := by
  have hm := hg.hi
  have hol := ho.len
  refine scanR (L := dag_run_L2 N m l out left) (len := m) (p := rdy l out) (r := fun a => .inl (out ++ [(a : Int)], left.set a false)) (fun n i hi => ?_) (fun n => by rw [dag_run_L2, if_neg (by simp)]) (by omega)
  rw [dag_run_L2, if_pos (by simpa using hi), at_nat, hl i hi, Option.bind_some, blocked_eq hN hg hl, w64_nat (by omega)]
  by_cases hm' : (i : Int) ∈ out
  · rw [if_neg (by simp [hm']), Option.bind_some, if_neg (by simp [hm']), if_neg (by simp [rdy, hm'])]
  · rw [if_pos (by simp [hm']), Option.bind_some]
    cases hf : free l out i with
    | true =>
      rw [if_pos (by simp [hm']), if_pos (by simp [rdy, hm', hf]), Option.bind_some, app_ok (by simp <;> omega), Option.bind_some, Int.toNat_natCast]
    | false => rw [if_neg (by simp), if_neg (by simp [rdy, hf])]
theorem run_loop {N m : Nat} {l : List TArc} (hN : 1000 < N) (hg : Good m l) : ∀ (n : Nat) (out : List Int) (left : List Bool), m < n + out.length → Nds m out → left.length = m → (∀ i : Nat, i < m → left[i]? = some (!decide ((i : Int) ∈ out))) →
    ∃ left', dag_run_J1 N m l n out left = some (tell m l (m - out.length) out, left') ∧ left'.length = m ∧ ∀ i : Nat, i < m → left'[i]? = some (!decide ((i : Int) ∈ tell m l (m - out.length) out))
  | 0, out, left, h, ho, hlen, hl => by have := ho.len; omega
  | n + 1, out, left, h, ho, hlen, hl => by
    rw [dag_run_J1, scan_eq hN hg ho hlen hl, Option.bind_some]
    cases hn : nxt m l out with
    | none =>
      rw [tell_more hn]
      exact ⟨left, rfl, hlen, hl⟩
    | some a =>
      obtain ⟨a1, a2, _⟩ := nxt_some hn
      have ho' := ho.next hn
      have hl' := ho'.len
      simp only [List.length_append, List.length_singleton] at hl'
      obtain ⟨left', e1, e2, e3⟩ := run_loop hN hg n (out ++ [(a : Int)]) (left.set a false) (by simp <;> omega) ho' (by simpa using hlen) (fun i hi => by
        by_cases hia : i = a
        · subst hia
          rw [List.getElem?_set_self (by omega)]
          simp
        · rw [List.getElem?_set_ne (fun e => hia e.symm), hl i hi]
          have : (i : Int) ≠ (a : Int) := by omega
          simp [this])
      have hk : m - out.length = (m - (out ++ [(a : Int)]).length) + 1 := by simp <;> omega
      refine ⟨left', ?_, e2, ?_⟩
      · simp only
        rw [e1, hk]
        conv => rhs; unfold tell
        rw [hn]
      · rw [hk]
        unfold tell
        rw [hn]
        exact e3
theorem run_eq {N m : Nat} {l : List TArc} (hN : 1000 < N) (hg : Good m l) : ∃ left, dag_run N m l = some (told m l, left) ∧ left.length = m ∧ ∀ i : Nat, i < m → left[i]? = some (!decide ((i : Int) ∈ told m l)) := by
  have hm := hg.hi
  unfold dag_run
  rw [repeat_eq hN (by omega), Option.bind_some]
  obtain ⟨left, h1, h2, h3⟩ := run_loop hN hg N [] (List.replicate m true) (by simp <;> omega) ⟨by simp, by simp⟩ (by simp) (fun i hi => by simp [hi])
  rw [h1, Option.bind_some]
  exact ⟨left, rfl, h2, h3⟩
theorem free_eq {N : Nat} {l : List TArc} {out : List Int} {a : Int} (hN : 1000 < N) (hl : l.length ≤ 1000) (ho : out.length ≤ 1000) : narthexref04_free N l out a = some (free l out a) := by
  unfold narthexref04_free
  rw [anyR (L := narthexref04_free_L1 N l out a) (xs := l) (q := fun x => (x.To == a) && !decide (x.From ∈ out)) (r := false) (fun n i y hy => by
    have hl' := (List.getElem?_eq_some_iff.1 hy).1
    rw [narthexref04_free_L1, if_pos (by simpa using hl'), at_nat, hy, Option.bind_some, w64_nat (by omega)]
    by_cases hy2 : y.To = a
    · rw [if_pos (by simpa using hy2), Option.bind_some, if_pos (by simpa using hy2), refhas_eq hN ho, Option.bind_some]
    · rw [if_neg (by simpa using hy2), Option.bind_some, if_neg (by simpa using hy2), Option.bind_some]
      simp [hy2]) (fun n => by rw [narthexref04_free_L1, if_neg (by simp)]) (by omega), Option.bind_some]
  unfold free
  cases l.any (fun x => (x.To == a) && !decide (x.From ∈ out)) <;> rfl
theorem refscan_eq {N m : Nat} {l : List TArc} {out : List Int} (hN : 1000 < N) (hm : m ≤ 64) (hl : l.length ≤ 1000) (ho : out.length ≤ 1000) : narthexref04_Told_L2 N m l out N 0 = some (match nxt m l out with | some a => (a : Int) | none => (m : Int)) := by
  refine scanR (L := narthexref04_Told_L2 N m l out) (len := m) (p := rdy l out) (r := fun a => (a : Int)) (fun n i hi => ?_) (fun n => by
    rw [narthexref04_Told_L2, if_neg (by simp), Option.bind_some, if_neg (by simp), Option.bind_some, if_neg (by simp)]) (by omega)
  have hd : decide ((i : Int) < (m : Int)) = true := by simpa using hi
  rw [narthexref04_Told_L2, hd, if_pos rfl, refhas_eq hN ho, Option.bind_some, free_eq hN hl ho, w64_nat (by omega)]
  by_cases hm' : (i : Int) ∈ out
  · rw [if_neg (by simp [hm']), Option.bind_some, if_pos (by simp [hm']), if_neg (by simp [rdy, hm'])]
  · rw [if_pos (by simp [hm']), Option.bind_some]
    cases hf : free l out i with
    | true => rw [if_neg (by simp [hm']), if_pos (by simp [rdy, hm', hf])]
    | false => rw [if_pos (by simp), if_neg (by simp [rdy, hf])]
theorem reftold_loop {N m : Nat} {l : List TArc} (hN : 1000 < N) (hm : m ≤ 64) (hl : l.length ≤ 1000) : ∀ (n i : Nat) (out : List Int), m < n + i → i ≤ m → Nds m out → ∃ z, narthexref04_Told_L1 N m l n out i = some z ∧ (match z with | .inl r => r | .inr r => r) = tell m l (m - i) out
  | 0, i, out, h, hi, ho => by omega
  | n + 1, i, out, h, hi, ho => by
    have hol := ho.len
    rw [narthexref04_Told_L1]
    by_cases hlt : i < m
    · rw [if_pos (by simpa using hlt), refscan_eq hN hm hl (by omega), Option.bind_some, w64_nat (by omega)]
      cases hn : nxt m l out with
      | none => exact ⟨.inl out, by simp, by rw [tell_more hn]⟩
      | some a =>
        have ha := (nxt_some hn).1
        simp only
        rw [if_neg (by simp <;> omega), app_ok (by simp <;> omega), Option.bind_some]
        obtain ⟨z, e1, e2⟩ := reftold_loop hN hm hl n (i + 1) _ (by omega) (by omega) (ho.next hn)
        refine ⟨z, e1, ?_⟩
        rw [e2, show m - i = (m - (i + 1)) + 1 by omega]
        conv => rhs; unfold tell
        rw [hn]
    · rw [if_neg (by simpa using hlt)]
      exact ⟨.inr out, rfl, by rw [show m - i = 0 by omega]; rfl⟩
theorem reftold_eq {N m : Nat} {l : List TArc} (hN : 1000 < N) (hm : m ≤ 64) (hl : l.length ≤ 1000) : narthexref04_Told N m l = some (told m l) := by
  unfold narthexref04_Told
  obtain ⟨z, h1, h2⟩ := reftold_loop hN hm hl N 0 [] (by omega) (by omega) ⟨by simp, by simp⟩
  rw [show ((0 : Nat) : Int) = 0 from rfl] at h1
  rw [h1, Option.bind_some]
  rw [show told m l = tell m l (m - 0) [] from rfl, ← h2]
  cases z <;> rfl
/-! The order. -/
theorem order_good {N m : Nat} {l : List TArc} (hN : 1000 < N) (hg : Good m l) : dag_Order N m l = some (if (told m l).length < m then ([], false) else (told m l, true)) := by
  unfold dag_Order
  rcases check_eq (n := m) (l := l) hN with ⟨_, h⟩ | ⟨hn, _⟩
  · obtain ⟨left, h1, _⟩ := run_eq hN hg
    rw [h, Option.bind_some, if_neg (by simp), h1, Option.bind_some]
    simp only [decide_eq_true_eq, Int.ofNat_lt]
    split <;> rfl
  · exact absurd hg hn
theorem order_bad {N : Nat} {n : Int} {l : List TArc} (hN : 1000 < N) (hg : ¬ Good n l) : dag_Order N n l = some ([], false) := by
  unfold dag_Order
  rcases check_eq (n := n) (l := l) hN with ⟨h, _⟩ | ⟨_, h⟩
  · exact absurd h hg
  · rw [h, Option.bind_some, if_pos (by simp)]
theorem reforder_good {N m : Nat} {l : List TArc} (hN : 1000 < N) (hg : Good m l) : narthexref04_Order N m l = some (if (told m l).length < m then ([], false) else (told m l, true)) := by
  unfold narthexref04_Order
  have hm := hg.hi
  have hl := hg.len
  rcases refcheck_eq (n := m) (l := l) hN with ⟨_, h⟩ | ⟨hn, _⟩
  · rw [h, Option.bind_some, if_neg (by simp), reftold_eq hN (by omega) (by omega), Option.bind_some]
    simp only [decide_eq_true_eq, Int.ofNat_lt]
    split <;> rfl
  · exact absurd hg hn
theorem reforder_bad {N : Nat} {n : Int} {l : List TArc} (hN : 1000 < N) (hg : ¬ Good n l) : narthexref04_Order N n l = some ([], false) := by
  unfold narthexref04_Order
  rcases refcheck_eq (n := n) (l := l) hN with ⟨h, _⟩ | ⟨_, h⟩
  · exact absurd h hg
  · rw [h, Option.bind_some, if_pos (by simp)]
theorem Good.nat {n : Int} {l : List TArc} (h : Good n l) : ∃ m : Nat, n = (m : Int) ∧ m ≤ 64 := ⟨n.toNat, by have := h.lo; omega, by have := h.hi; omega⟩

/-! What is told is in order; all are told where there is a rank. -/
theorem free_iff {l : List TArc} {s : List Int} {a : Int} : free l s a = true ↔ ∀ x ∈ l, x.To = a → x.From ∈ s := by
  simp only [free, Bool.not_eq_true', List.any_eq_false, Bool.and_eq_true, beq_iff_eq, decide_eq_false_iff_not, not_and, Classical.not_not]
theorem free_false {l : List TArc} {s : List Int} {a : Int} (h : free l s a = false) : ∃ x ∈ l, x.To = a ∧ x.From ∉ s := by
  apply Classical.byContradiction
  intro hn
  have : free l s a = true := free_iff.2 fun x hx ht => Classical.byContradiction fun hm => hn ⟨x, hx, ht, hm⟩
  rw [h] at this
  cases this
def Seq (l : List TArc) (T : List Int) : Prop := ∀ s a t, T = s ++ a :: t → free l s a = true ∧ a ∉ s
theorem Seq.next {m : Nat} {l : List TArc} {out : List Int} (h : Seq l out) {a : Nat} (hn : nxt m l out = some a) : Seq l (out ++ [(a : Int)]) := by
  obtain ⟨_, h2, h3, _⟩ := nxt_some hn
  intro s b t e
  rcases List.append_eq_append_iff.1 e with ⟨u, e1, e2⟩ | ⟨u, e1, e2⟩
  · cases u with
    | nil =>
      simp at e2
      obtain ⟨rfl, rfl⟩ := e2
      rw [List.append_nil] at e1
      subst e1
      exact ⟨h3, h2⟩
    | cons c u =>
      simp at e2
  · cases u with
    | nil =>
      simp at e2
      obtain ⟨rfl, rfl⟩ := e2
      rw [List.append_nil] at e1
      subst e1
      exact ⟨h3, h2⟩
    | cons c u =>
      simp only [List.cons_append, List.cons.injEq] at e2
      obtain ⟨rfl, rfl⟩ := e2
      exact h s b u e1
theorem seq_tell {m : Nat} {l : List TArc} : ∀ (k : Nat) {out : List Int}, Seq l out → Seq l (tell m l k out)
  | 0, out, h => h
  | k + 1, out, h => by
    unfold tell
    split
    · rename_i a ha
      exact seq_tell k (h.next ha)
    · exact h
theorem told_seq (m : Nat) (l : List TArc) : Seq l (told m l) := seq_tell m (fun s a t e => by simp at e)
def Rank (l : List TArc) (f : Int → Nat) : Prop := ∀ x ∈ l, f x.From < f x.To
def Full (m : Nat) (l : List TArc) : Prop := ∀ a : Int, 0 ≤ a → a < m → a ∈ told m l
theorem full_of_rank {m : Nat} {l : List TArc} (hg : Good m l) {f : Int → Nat} (hf : Rank l f) : Full m l := by
  have key : ∀ (k : Nat) (a : Int), f a = k → 0 ≤ a → a < m → a ∈ told m l := by
    intro k
    induction k using Nat.strongRecOn with
    | _ k ih =>
      intro a hk h0 h1
      rcases nxt_none (told_end m l) a.toNat (by omega) with h | h
      · rwa [show ((a.toNat : Nat) : Int) = a by omega] at h
      · rw [show ((a.toNat : Nat) : Int) = a by omega] at h
        obtain ⟨x, hx, ht, hm⟩ := free_false h
        have := hf x hx
        have hb := hg.arc x hx
        exact absurd (ih (f x.From) (by rw [ht] at this; omega) x.From rfl (by omega) (by omega)) hm
  exact fun a h0 h1 => key _ a rfl h0 h1
theorem Full.len {m : Nat} {l : List TArc} (h : Full m l) : (told m l).length = m := by
  have h1 := (told_nds m l).len
  have hn : ((List.range m).map Int.ofNat).Nodup := by
    rw [List.nodup_iff_pairwise_ne, List.pairwise_map]
    exact (List.nodup_iff_pairwise_ne.1 List.nodup_range).imp fun h e => h (Int.ofNat.inj e)
  have := hn.length_le_of_subset (l₂ := told m l) (fun a ha => by
    rw [List.mem_map] at ha
    obtain ⟨b, hb, rfl⟩ := ha
    rw [List.mem_range] at hb
    exact h b (by omega) (by simp; omega))
  simp at this
  omega
theorem full_iff {m : Nat} {l : List TArc} : Full m l ↔ (told m l).length = m := by
  refine ⟨Full.len, fun h a h0 h1 => ?_⟩
  apply Classical.byContradiction
  intro hm
  have : Nds m (told m l ++ [a]) := ⟨List.nodup_append.2 ⟨(told_nds m l).nodup, by simp, fun x hx y hy => by
    rw [List.mem_singleton] at hy
    subst hy
    exact fun e => hm (e ▸ hx)⟩, fun x hx => by
    rcases List.mem_append.1 hx with hx | hx
    · exact (told_nds m l).lt x hx
    · rw [List.mem_singleton] at hx
      omega⟩
  have := this.len
  simp at this
  omega
theorem mem_split {α : Type} {a : α} {l : List α} (h : a ∈ l) : ∃ s t, l = s ++ a :: t := List.append_of_mem h
/-- Where one stands in what is told. -/
def pos (T : List Int) (a : Int) : Nat := T.idxOf a
theorem rank_of_full {m : Nat} {l : List TArc} (hg : Good m l) (h : Full m l) : Rank l (pos (told m l)) := by
  intro x hx
  have hb := hg.arc x hx
  obtain ⟨s, t, e⟩ := mem_split (h x.To (by omega) (by omega))
  obtain ⟨h1, h2⟩ := told_seq m l s x.To t e
  have h3 := free_iff.1 h1 x hx rfl
  unfold pos
  rw [e, List.idxOf_append, if_pos h3, List.idxOf_append, if_neg h2]
  have := List.idxOf_lt_length_of_mem h3
  omega
theorem pos_le {T : List Int} (a : Int) : pos T a ≤ T.length := List.idxOf_le_length

/-! Reach. -/
def stepR (a : Int) (out : List Int) (x : TArc) : List Int := if (x.From = a ∨ x.From ∈ out) ∧ x.To ∉ out then out ++ [x.To] else out
def passR (l : List TArc) (a : Int) (out : List Int) : List Int := l.foldl (stepR a) out
def Closed (l : List TArc) (a : Int) (out : List Int) : Prop := ∀ x ∈ l, (x.From = a ∨ x.From ∈ out) → x.To ∈ out
theorem stepR_len (a : Int) (out : List Int) (x : TArc) : out.length ≤ (stepR a out x).length := by
  unfold stepR; split <;> simp
theorem passR_len (a : Int) : ∀ (l : List TArc) (out : List Int), out.length ≤ (l.foldl (stepR a) out).length
  | [], out => Nat.le_refl _
  | x :: l, out => Nat.le_trans (stepR_len a out x) (passR_len a l _)
theorem passR_same (a : Int) : ∀ (l : List TArc) (out : List Int), (l.foldl (stepR a) out).length = out.length → Closed l a out
  | [], out, _ => by intro x hx; simp at hx
  | x :: l, out, h => by
    rw [List.foldl_cons] at h
    have h1 := stepR_len a out x
    have h2 := passR_len a l (stepR a out x)
    have hs : stepR a out x = out := by
      unfold stepR at *
      split
      · rename_i hc
        rw [if_pos hc] at h1 h2 h
        simp at *
        omega
      · rfl
    rw [hs] at h
    intro y hy hc
    rcases List.mem_cons.1 hy with rfl | hy
    · apply Classical.byContradiction
      intro hm
      unfold stepR at hs
      rw [if_pos ⟨hc, hm⟩] at hs
      have := congrArg List.length hs
      simp at this
    · exact passR_same a l out h y hy hc
theorem passR_closed (a : Int) : ∀ (l : List TArc) (out : List Int), Closed l a out → l.foldl (stepR a) out = out
  | [], out, _ => rfl
  | x :: l, out, h => by
    have : stepR a out x = out := by
      unfold stepR
      rw [if_neg]
      rintro ⟨h1, h2⟩
      exact h2 (h x (by simp) h1)
    rw [List.foldl_cons, this]
    exact passR_closed a l out fun y hy hc => h y (List.mem_cons_of_mem _ hy) hc
theorem passR_nds {m : Nat} (a : Int) : ∀ (l : List TArc) (out : List Int), (∀ x ∈ l, 0 ≤ x.To ∧ x.To < m) → Nds m out → Nds m (l.foldl (stepR a) out)
  | [], out, _, h => h
  | x :: l, out, hl, h => by
    rw [List.foldl_cons]
    refine passR_nds a l _ (fun y hy => hl y (List.mem_cons_of_mem _ hy)) ?_
    unfold stepR
    split
    · rename_i hc
      refine ⟨List.nodup_append.2 ⟨h.nodup, by simp, fun y hy z hz => ?_⟩, fun y hy => ?_⟩
      · rw [List.mem_singleton] at hz
        subst hz
        exact fun e => hc.2 (e ▸ hy)
      · rcases List.mem_append.1 hy with hy | hy
        · exact h.lt y hy
        · rw [List.mem_singleton] at hy
          subst hy
          exact hl x (by simp)
    · exact h
theorem passR_rank {f : Int → Nat} {L : List TArc} (hf : Rank L f) (a : Int) : ∀ (l : List TArc) (out : List Int), (∀ x ∈ l, x ∈ L) → (∀ b ∈ out, f a < f b) → ∀ b ∈ l.foldl (stepR a) out, f a < f b
  | [], out, _, h => h
  | x :: l, out, hl, h => by
    rw [List.foldl_cons]
    refine passR_rank hf a l _ (fun y hy => hl y (List.mem_cons_of_mem _ hy)) ?_
    unfold stepR
    split
    · rename_i hc
      intro b hb
      rcases List.mem_append.1 hb with hb | hb
      · exact h b hb
      · rw [List.mem_singleton] at hb
        subst hb
        have := hf x (hl x (by simp))
        rcases hc.1 with e | e
        · rw [e] at this; exact this
        · have := h _ e; omega
    · exact h
/-- So many passes. -/
def reachK (l : List TArc) (a : Int) : Nat → List Int → List Int
  | 0, out => out
  | k + 1, out => reachK l a k (passR l a out)
def reach (m : Nat) (l : List TArc) (a : Int) : List Int := reachK l a (m + 1) []
theorem reachK_closed {m : Nat} {l : List TArc} (hl : ∀ x ∈ l, 0 ≤ x.To ∧ x.To < m) (a : Int) : ∀ (k : Nat) (out : List Int), Nds m out → (Closed l a out ∨ m < out.length + k) → Closed l a (reachK l a k out) ∧ Nds m (reachK l a k out)
  | 0, out, h, hc => by
    have := h.len
    rcases hc with hc | hc
    · exact ⟨hc, h⟩
    · omega
  | k + 1, out, h, hc => by
    unfold reachK
    have h1 := passR_len a l out
    have h2 := passR_nds a l out hl h
    refine reachK_closed hl a k _ h2 ?_
    unfold passR
    rcases hc with hc | hc
    · left; rw [passR_closed a l out hc]; exact hc
    · rcases Nat.eq_or_lt_of_le h1 with e | e
      · left
        have hcl := passR_same a l out e.symm
        rw [passR_closed a l out hcl]; exact hcl
      · right; omega
theorem reachK_rank {f : Int → Nat} {l : List TArc} (hf : Rank l f) (a : Int) : ∀ (k : Nat) (out : List Int), (∀ b ∈ out, f a < f b) → ∀ b ∈ reachK l a k out, f a < f b
  | 0, out, h => h
  | k + 1, out, h => reachK_rank hf a k _ (passR_rank hf a l out (fun _ h => h) h)
theorem filter_lt {α : Type} {p q : α → Bool} : ∀ {l : List α}, (∀ x ∈ l, p x = true → q x = true) → (∃ x ∈ l, q x = true ∧ p x = false) → (l.filter p).length < (l.filter q).length
  | [], _, h => by obtain ⟨x, hx, _⟩ := h; simp at hx
  | y :: l, h1, h2 => by
    have hle : ∀ {l : List α}, (∀ x ∈ l, p x = true → q x = true) → (l.filter p).length ≤ (l.filter q).length := by
      intro l h
      rw [← List.countP_eq_length_filter, ← List.countP_eq_length_filter]
      exact List.countP_mono_left h
    have h1' : ∀ x ∈ l, p x = true → q x = true := fun x hx => h1 x (List.mem_cons_of_mem _ hx)
    obtain ⟨x, hx, hq, hp⟩ := h2
    rcases List.mem_cons.1 hx with rfl | hx
    · have := hle h1'
      simp [hp, hq]
      omega
    · have := filter_lt h1' ⟨x, hx, hq, hp⟩
      have hy := h1 y (by simp)
      cases hpy : p y with
      | true => simp [hpy, hy hpy, this]
      | false => cases hqy : q y <;> simp [hpy, hqy] <;> omega
/-- Arcs lead round where not all are told. -/
theorem round_iff {m : Nat} {l : List TArc} (hg : Good m l) : (∃ a : Nat, a < m ∧ (a : Int) ∈ reach m l a) ↔ ¬ Full m l := by
  have hl : ∀ x ∈ l, 0 ≤ x.To ∧ x.To < (m : Int) := fun x hx => by have := hg.arc x hx; omega
  constructor
  · rintro ⟨a, _, h⟩ hf
    have := reachK_rank (rank_of_full hg hf) (a : Int) (m + 1) [] (by simp) a h
    omega
  · intro hn
    apply Classical.byContradiction
    intro hr
    refine hn (full_of_rank hg (f := fun b => ((List.range m).filter fun c : Nat => decide (b ∈ reach m l (c : Int))).length) fun x hx => ?_)
    have hb := hg.arc x hx
    have cl : ∀ c : Int, Closed l c (reach m l c) := fun c => (reachK_closed hl c (m + 1) [] ⟨by simp, by simp⟩ (.inr (by simp))).1
    refine filter_lt (fun c hc h => ?_) ⟨x.From.toNat, List.mem_range.2 (by omega), ?_, ?_⟩
    · simp only [decide_eq_true_eq] at *
      exact cl _ x hx (.inr h)
    · simp only [decide_eq_true_eq]
      exact cl _ x hx (.inl (by omega))
    · simp only [decide_eq_false_iff_not]
      intro h
      exact hr ⟨x.From.toNat, by omega, by rwa [show ((x.From.toNat : Nat) : Int) = x.From by omega] at *⟩
theorem refpass_eq {N : Nat} {l : List TArc} {a : Int} {m : Nat} (hN : 1000 < N) (hm : m ≤ 64) (hl : l.length ≤ 400) (hlt : ∀ x ∈ l, 0 ≤ x.To ∧ x.To < (m : Int)) {out : List Int} (ho : Nds m out) : narthexref04_Reach_L2 N l a N out 0 = some (passR l a out) := by
  have h := (foldR0 (L := narthexref04_Reach_L2 N l a) (xs := l) (f := stepR a) (fin := some) (I := fun _ s => Nds m s) (fun n i s x hs hx => by
    have hil := (List.getElem?_eq_some_iff.1 hx).1
    have hsl := hs.len
    refine ⟨?_, ?_⟩
    · rw [narthexref04_Reach_L2, if_pos (by simpa using hil), at_nat, hx, Option.bind_some, w64_nat (by omega)]
      have e : ∃ y5, (if (!(x.From == a)) = true then some x else some default : Option TArc).bind (fun x4 => (if (!(x.From == a)) = true then narthexref01_Has N s x4.From else some default)) = some y5 ∧ ((x.From == a) || y5) = decide (x.From = a ∨ x.From ∈ s) := by
        by_cases hx' : x.From = a
        · exact ⟨default, by simp [hx'], by simp [hx']⟩
        · refine ⟨decide (x.From ∈ s), by simp [hx', refhas_eq hN (l := s) (by omega)], ?_⟩
          rw [Bool.eq_iff_iff]; simp
      obtain ⟨y5, e1, e2⟩ := e
      have hb : ∀ (K : Bool → Option (List Int)), ((if (!(x.From == a)) = true then some x else some default : Option TArc).bind fun x4 => (if (!(x.From == a)) = true then narthexref01_Has N s x4.From else some default).bind K) = K y5 := by
        intro K
        rw [← Option.bind_assoc, e1, Option.bind_some]
      rw [hb, e2]
      by_cases hc : x.From = a ∨ x.From ∈ s
      · rw [if_pos (by simpa using hc), Option.bind_some, refhas_eq hN (by omega), Option.bind_some]
        by_cases ht : x.To ∈ s
        · rw [if_neg (by simp [ht]), stepR, if_neg (by simp [ht])]
        · rw [if_pos (by simp [ht]), Option.bind_some, app_ok (by simp; omega), Option.bind_some, stepR, if_pos ⟨hc, ht⟩]
      · rw [if_neg (by simpa using hc), stepR, if_neg (fun h => hc h.1)]
    · exact passR_nds (m := m) a [x] s (fun y hy => by rw [List.mem_singleton] at hy; subst hy; exact hlt _ (List.mem_of_getElem? hx)) hs) (fun n s hs => by rw [narthexref04_Reach_L2, if_neg (by simp)]) (N := N) (s := out) (by omega) ho).1
  exact h
theorem refreach_loop {N : Nat} {l : List TArc} {a : Int} {m : Nat} (hN : 1000 < N) (hm : m ≤ 64) (hl : l.length ≤ 400) (hlt : ∀ x ∈ l, 0 ≤ x.To ∧ x.To < (m : Int)) : ∀ (n i : Nat) (out : List Int), m + 1 < n + i → i ≤ m + 1 → Nds m out → narthexref04_Reach_L1 N m l a n out i = some (reachK l a (m + 1 - i) out)
  | 0, i, out, h, hi, ho => by omega
  | n + 1, i, out, h, hi, ho => by
    rw [narthexref04_Reach_L1]
    by_cases hlt' : i ≤ m
    · rw [if_pos (by simp; omega), refpass_eq hN hm hl hlt ho, Option.bind_some, w64_nat (by omega), refreach_loop hN hm hl hlt n (i + 1) (passR l a out) (by omega) (by omega) (passR_nds a l out hlt ho), show m + 1 - i = (m + 1 - (i + 1)) + 1 by omega]
      rfl
    · rw [if_neg (by simp; omega), show m + 1 - i = 0 by omega]
      rfl
theorem refreach_eq {N : Nat} {l : List TArc} {a : Int} {m : Nat} (hN : 1000 < N) (hm : m ≤ 64) (hl : l.length ≤ 400) (hlt : ∀ x ∈ l, 0 ≤ x.To ∧ x.To < (m : Int)) : narthexref04_Reach N m l a = some (reach m l a) ∧ Nds m (reach m l a) := by
  have h := refreach_loop (a := a) hN hm hl hlt N 0 [] (by omega) (by omega) ⟨by simp, by simp⟩
  rw [show ((0 : Nat) : Int) = 0 from rfl] at h
  refine ⟨?_, (reachK_closed hlt a (m + 1) [] ⟨by simp, by simp⟩ (.inr (by simp))).2⟩
  unfold narthexref04_Reach
  rw [h, Option.bind_some]
  rfl
theorem refround_eq {N : Nat} {l : List TArc} {m : Nat} (hN : 1000 < N) (hg : Good m l) : narthexref04_Round N m l = some (decide ((told m l).length ≠ m)) := by
  have hlt : ∀ x ∈ l, 0 ≤ x.To ∧ x.To < (m : Int) := fun x hx => by have := hg.arc x hx; omega
  have hm := hg.hi
  unfold narthexref04_Round
  rw [findR0 (L := narthexref04_Round_L1 N m l) (len := m) (p := fun i => decide ((i : Int) ∈ reach m l i)) (r := true) (fun n i hi => by
    obtain ⟨h1, h2⟩ := refreach_eq (a := (i : Int)) hN (by omega) hg.len hlt
    have := h2.len
    rw [narthexref04_Round_L1, if_pos (by simpa using hi), h1, Option.bind_some, refhas_eq hN (by omega), Option.bind_some, w64_nat (by omega)]) (fun n => by rw [narthexref04_Round_L1, if_neg (by simp)]) (by omega), Option.bind_some]
  have hr := round_iff hg
  rw [full_iff] at hr
  by_cases hf : (told m l).length = m
  · have : (List.range m).any (fun i => decide ((i : Int) ∈ reach m l i)) = false := by
      rw [List.any_eq_false]
      intro i hi
      simp only [decide_eq_true_eq]
      exact fun h => (hr.1 ⟨i, List.mem_range.1 hi, h⟩) hf
    rw [this]
    simp [hf]
  · have : (List.range m).any (fun i => decide ((i : Int) ∈ reach m l i)) = true := by
      obtain ⟨a, h1, h2⟩ := hr.2 hf
      exact List.any_eq_true.2 ⟨a, List.mem_range.2 h1, by simpa using h2⟩
    rw [this]
    simp [hf]

/-! Depths. -/
def tab (m : Nat) (d : Int → Int) : List Int := (List.range m).map fun i : Nat => d (i : Int)
def upd (d : Int → Int) (t v : Int) : Int → Int := fun a => if a = t then v else d a
theorem tab_len (m : Nat) (d : Int → Int) : (tab m d).length = m := by simp [tab]
theorem tab_at {m : Nat} {d : Int → Int} {a : Int} (h0 : 0 ≤ a) (h1 : a < m) : at? (tab m d) a = some (d a) := by
  obtain ⟨k, rfl⟩ : ∃ k : Nat, a = (k : Int) := ⟨a.toNat, by omega⟩
  rw [at_nat, tab, List.getElem?_map, List.getElem?_range (by omega)]
  rfl
theorem tab_set {m : Nat} {d : Int → Int} {a v : Int} (h0 : 0 ≤ a) : (tab m d).set a.toNat v = tab m (upd d a v) := by
  obtain ⟨k, rfl⟩ : ∃ k : Nat, a = (k : Int) := ⟨a.toNat, by omega⟩
  refine List.ext_getElem? fun i => ?_
  rw [Int.toNat_natCast, List.getElem?_set]
  simp only [tab, List.length_map, List.length_range, List.getElem?_map]
  by_cases hik : k = i
  · subst hik
    rw [if_pos rfl]
    by_cases hl : k < m
    · rw [if_pos hl, List.getElem?_range hl]
      simp [upd]
    · rw [if_neg hl]
      simp [hl]
  · rw [if_neg hik]
    by_cases hl : i < m
    · rw [List.getElem?_range hl]
      simp [upd]
      intro e
      exact absurd (Int.ofNat.inj e).symm hik
    · simp [hl]
theorem tab_zero (m : Nat) : List.replicate m (0 : Int) = tab m fun _ => 0 := by
  refine List.ext_getElem? fun i => ?_
  simp only [tab, List.getElem?_map, List.getElem?_replicate]
  by_cases hl : i < m
  · simp [hl]
  · simp [hl]
/-- Each depth is one more than the deepest one's that points to it. -/
def Sat (A : TArc → Prop) (d : Int → Int) : Prop := ∀ a, 0 ≤ d a ∧ (∀ x, A x → x.To = a → d x.From + 1 ≤ d a) ∧ (d a = 0 ∨ ∃ x, A x ∧ x.To = a ∧ d a = d x.From + 1)
theorem Sat.congr {A A' : TArc → Prop} {d : Int → Int} (h : Sat A d) (hA : ∀ x, A' x ↔ A x) : Sat A' d := by
  have : A' = A := funext fun x => propext (hA x)
  rw [this]; exact h
theorem Sat.le {A : TArc → Prop} {d : Int → Int} {f : Int → Nat} (h : Sat A d) (hf : ∀ x, A x → f x.From < f x.To) : ∀ a, d a ≤ f a := by
  have key : ∀ (k : Nat) a, f a = k → d a ≤ f a := by
    intro k
    induction k using Nat.strongRecOn with
    | _ k ih =>
      intro a hk
      obtain ⟨_, _, h3⟩ := h a
      rcases h3 with h3 | ⟨x, hx, ht, h3⟩
      · omega
      · have h4 := hf x hx
        rw [ht] at h4
        have := ih (f x.From) (by omega) x.From rfl
        omega
  exact fun a => key _ a rfl
theorem Sat.uniq {A : TArc → Prop} {d e : Int → Int} {f : Int → Nat} (h : Sat A d) (h' : Sat A e) (hf : ∀ x, A x → f x.From < f x.To) : ∀ a, d a = e a := by
  have key : ∀ (k : Nat) a, f a = k → d a = e a := by
    intro k
    induction k using Nat.strongRecOn with
    | _ k ih =>
      intro a hk
      obtain ⟨h1, h2, h3⟩ := h a
      obtain ⟨g1, g2, g3⟩ := h' a
      have le : d a ≤ e a := by
        rcases h3 with h3 | ⟨x, hx, ht, h3⟩
        · omega
        · have h4 := hf x hx
          rw [ht] at h4
          have := ih (f x.From) (by omega) x.From rfl
          have := g2 x hx ht
          omega
      have ge : e a ≤ d a := by
        rcases g3 with h3 | ⟨x, hx, ht, h3⟩
        · omega
        · have h4 := hf x hx
          rw [ht] at h4
          have := ih (f x.From) (by omega) x.From rfl
          have := h2 x hx ht
          omega
      omega
  exact fun a => key _ a rfl
theorem Sat.add {A A' : TArc → Prop} {d : Int → Int} {y : TArc} (h : Sat A d) (hA : ∀ x, A' x ↔ A x ∨ x = y) (h1 : ∀ x, A x → x.From ≠ y.To) (hy : y.From ≠ y.To) : Sat A' (upd d y.To (max (d y.To) (d y.From + 1))) := by
  have hd : ∀ a, a ≠ y.To → upd d y.To (max (d y.To) (d y.From + 1)) a = d a := fun a ha => by simp [upd, ha]
  have hd' : upd d y.To (max (d y.To) (d y.From + 1)) y.To = max (d y.To) (d y.From + 1) := by simp [upd]
  intro a
  obtain ⟨g1, g2, g3⟩ := h a
  by_cases ha : a = y.To
  · subst ha
    rw [hd']
    refine ⟨by omega, fun x hx ht => ?_, ?_⟩
    · rcases (hA x).1 hx with hx | rfl
      · rw [hd _ (h1 x hx)]
        have := g2 x hx ht
        omega
      · rw [hd _ hy]
        omega
    · by_cases hm : d y.To < d y.From + 1
      · refine .inr ⟨y, (hA y).2 (.inr rfl), rfl, ?_⟩
        rw [hd _ hy]
        clear g3 g2
        omega
      · rcases g3 with g3 | ⟨x, hx, ht, g3⟩
        · left; clear hd hd' h1 h g2; omega
        · refine .inr ⟨x, (hA x).2 (.inl hx), ht, ?_⟩
          rw [hd _ (h1 x hx)]
          omega
  · rw [hd a ha]
    refine ⟨g1, fun x hx ht => ?_, ?_⟩
    · rcases (hA x).1 hx with hx | rfl
      · rw [hd _ (h1 x hx)]
        exact g2 x hx ht
      · exact absurd ht.symm ha
    · rcases g3 with g3 | ⟨x, hx, ht, g3⟩
      · exact .inl g3
      · refine .inr ⟨x, (hA x).2 (.inl hx), ht, ?_⟩
        rw [hd _ (h1 x hx)]
        exact g3
def relax (l : List TArc) (a : Int) (d : Int → Int) : Int → Int := l.foldl (fun d x => if x.From = a then upd d x.To (max (d x.To) (d x.From + 1)) else d) d
theorem seq_notin {l : List TArc} {T : List Int} (h : Seq l T) {s t : List Int} {a : Int} (e : T = s ++ a :: t) {y : TArc} (hy : y ∈ l) (hya : y.From = a) : y.To ∉ s := by
  intro hm
  obtain ⟨s1, s2, rfl⟩ := mem_split hm
  obtain ⟨h1, _⟩ := h s1 y.To (s2 ++ a :: t) (by rw [e]; simp)
  have := free_iff.1 h1 y hy rfl
  obtain ⟨_, h3⟩ := h _ a t e
  exact h3 (by rw [← hya]; simp [this])
theorem relax_eq {N m : Nat} {l : List TArc} (hN : 1000 < N) (hg : Good m l) {T s t : List Int} {a : Int} (hT : Seq l T) (e : T = s ++ a :: t) {d : Int → Int} {f : Int → Nat} (hf : Rank l f) (hf2 : ∀ a, f a ≤ 1000) (hd : Sat (fun x => x ∈ l ∧ x.From ∈ s) d) :
    dag_Depths_L2 N l a N (tab m d) 0 = some (tab m (relax l a d)) ∧ Sat (fun x => x ∈ l ∧ x.From ∈ s ++ [a]) (relax l a d) := by
  have hl := hg.len
  have h := foldR0 (L := fun n (d : Int → Int) i => dag_Depths_L2 N l a n (tab m d) i) (xs := l) (f := fun d x => if x.From = a then upd d x.To (max (d x.To) (d x.From + 1)) else d) (fin := fun d => some (tab m d)) (I := fun i d => Sat (fun x => x ∈ l ∧ x.From ∈ s ∨ x ∈ l.take i ∧ x.From = a) d) (fun n i d x hs hx => by
    have hil := (List.getElem?_eq_some_iff.1 hx).1
    have hxl := List.mem_of_getElem? hx
    have hb := hg.arc x hxl
    refine ⟨?_, ?_⟩
    · rw [dag_Depths_L2, if_pos (by simpa using hil), at_nat, hx, Option.bind_some, w64_nat (by omega)]
      by_cases hxa : x.From = a
      · have g1 := hs.le (f := f) (fun y hy => hy.elim (fun h => hf y h.1) (fun h => hf y (List.mem_of_mem_take h.1))) a
        have g2 := (hs a).1
        have g3 := hf2 a
        rw [if_pos (by simpa using hxa), if_pos hxa, tab_at (by omega) (by omega), Option.bind_some, ← hxa, tab_at (by omega) (by omega), Option.bind_some, Option.bind_some, hxa, w64_is (by omega) (by omega), tab_set (by omega)]
      · rw [if_neg (by simpa using hxa), if_neg hxa]
    · by_cases hxa : x.From = a
      · rw [if_pos hxa]
        refine hs.add (fun y => ?_) (fun y hy he => ?_) hb.2.2.2.2
        · rw [take_at hx, List.mem_append, List.mem_singleton]
          constructor
          · rintro (h | ⟨h | h, h'⟩)
            · exact .inl (.inl h)
            · exact .inl (.inr ⟨h, h'⟩)
            · exact .inr h
          · rintro ((h | h) | rfl)
            · exact .inl h
            · exact .inr ⟨.inl h.1, h.2⟩
            · exact .inr ⟨.inr rfl, hxa⟩
        · rcases hy with hy | hy
          · exact seq_notin hT e hxl hxa (he ▸ hy.2)
          · rw [hy.2] at he
            exact hb.2.2.2.2 (hxa.trans he)
      · rw [if_neg hxa]
        refine hs.congr fun y => ?_
        rw [take_at hx, List.mem_append, List.mem_singleton]
        constructor
        · rintro (h | ⟨h | h, h'⟩)
          · exact .inl h
          · exact .inr ⟨h, h'⟩
          · subst h; exact absurd h' hxa
        · rintro (h | h)
          · exact .inl h
          · exact .inr ⟨.inl h.1, h.2⟩) (fun n d hd => by rw [dag_Depths_L2, if_neg (by simp)]) (N := N) (s := d) (by omega) (hd.congr fun x => by simp)
  refine ⟨h.1, h.2.congr fun x => ?_⟩
  rw [List.take_length, List.mem_append, List.mem_singleton]
  constructor
  · rintro ⟨h, h' | h'⟩
    · exact .inl ⟨h, h'⟩
    · exact .inr ⟨h, h'⟩
  · rintro (h | h)
    · exact ⟨h.1, .inl h.2⟩
    · exact ⟨h.1, .inr h.2⟩
theorem depths_good {N m : Nat} {l : List TArc} (hN : 1000 < N) (hg : Good m l) (hF : Full m l) : ∃ d, dag_Depths N m l = some (tab m d, true) ∧ Sat (fun x => x ∈ l) d := by
  have hm := hg.hi
  have hr := rank_of_full hg hF
  have hTl := hF.len
  unfold dag_Depths
  rw [order_good hN hg, if_neg (by omega), Option.bind_some, if_neg (by simp), mk?, if_pos (by omega), Option.bind_some, Int.toNat_natCast, tab_zero]
  have h := foldR0 (L := fun n (d : Int → Int) i => dag_Depths_L1 N l (told m l, true) n (tab m d) i) (xs := told m l) (f := fun d a => relax l a d) (fin := fun d => some (tab m d)) (I := fun i d => Sat (fun x => x ∈ l ∧ x.From ∈ (told m l).take i) d) (fun n i d a hs ha => by
    have hil := (List.getElem?_eq_some_iff.1 ha).1
    have e : told m l = (told m l).take i ++ a :: (told m l).drop (i + 1) := by rw [← drop_at ha, List.take_append_drop]
    obtain ⟨g1, g2⟩ := relax_eq hN hg (told_seq m l) e hr (fun b => by have := pos_le (T := told m l) b; omega) hs
    refine ⟨?_, ?_⟩
    · rw [dag_Depths_L1, if_pos (by simpa using hil), at_nat, ha, Option.bind_some, g1, Option.bind_some, w64_nat (by omega)]
    · rw [take_at ha]
      exact g2) (fun n d hd => by rw [dag_Depths_L1, if_neg (by simp)]) (N := N) (s := fun _ => 0) (by omega) (fun a => ⟨Int.le_refl _, fun x hx => by simp at hx, .inl rfl⟩)
  rw [h.1, Option.bind_some]
  refine ⟨_, rfl, h.2.congr fun x => ?_⟩
  rw [List.take_length]
  constructor
  · intro hx
    have hb := hg.arc x hx
    exact ⟨hx, hF x.From (by omega) (by omega)⟩
  · exact fun h => h.1
theorem depths_round {N m : Nat} {l : List TArc} (hN : 1000 < N) (hg : Good m l) (hF : (told m l).length ≠ m) : dag_Depths N m l = some ([], false) := by
  have := (told_nds m l).len
  unfold dag_Depths
  rw [order_good hN hg, if_pos (by omega), Option.bind_some, if_pos (by simp)]
theorem depths_bad {N : Nat} {n : Int} {l : List TArc} (hN : 1000 < N) (hg : ¬ Good n l) : dag_Depths N n l = some ([], false) := by
  unfold dag_Depths
  rw [order_bad hN hg, Option.bind_some, if_pos (by simp)]
/-! The document's depths. -/
theorem refzero {N m : Nat} (hN : 1000 < N) (hm : m ≤ 64) : ∀ (n i : Nat), m < n + i → i ≤ m → narthexref04_Depths_L1 N m n (List.replicate i 0) i = some (List.replicate m 0)
  | 0, i, h, hi => by omega
  | n + 1, i, h, hi => by
    rw [narthexref04_Depths_L1]
    by_cases hlt : i < m
    · rw [if_pos (by simpa using hlt), app_ok (by simp; omega), Option.bind_some, w64_nat (by omega), ← List.replicate_succ']
      exact refzero hN hm n (i + 1) (by omega) (by omega)
    · rw [if_neg (by simpa using hlt), show i = m by omega]
theorem refpassd_eq {N m : Nat} {l : List TArc} (hN : 1000 < N) (hg : Good m l) {D e0 : Int → Int} {f : Int → Nat} (hD : Sat (fun x => x ∈ l) D) (hf : Rank l f) (hf2 : ∀ a, f a ≤ 1000) (h0 : ∀ a, 0 ≤ e0 a ∧ e0 a ≤ D a) :
    ∃ e, narthexref04_Depths_L3 N l N (tab m e0) 0 = some (tab m e) ∧ (∀ a, e0 a ≤ e a ∧ e a ≤ D a) ∧ ∀ x ∈ l, e0 x.From + 1 ≤ e x.To := by
  have hl := hg.len
  have hDl : ∀ a, D a ≤ f a := hD.le hf
  have h := foldR0 (L := fun n (d : Int → Int) i => narthexref04_Depths_L3 N l n (tab m d) i) (xs := l) (f := fun d x => upd d x.To (max (d x.To) (d x.From + 1))) (fin := fun d => some (tab m d)) (I := fun i e => (∀ a, e0 a ≤ e a ∧ e a ≤ D a) ∧ ∀ x ∈ l.take i, e0 x.From + 1 ≤ e x.To) (fun n i d x hs hx => by
    have hil := (List.getElem?_eq_some_iff.1 hx).1
    have hxl := List.mem_of_getElem? hx
    have hb := hg.arc x hxl
    have g1 := hs.1 x.From
    have g2 := h0 x.From
    have g3 := hDl x.From
    have g4 := hf2 x.From
    have g5 := (hD x.To).2.1 x hxl rfl
    have g6 := hs.1 x.To
    refine ⟨?_, ?_, ?_⟩
    · rw [narthexref04_Depths_L3, if_pos (by simpa using hil), at_nat, hx, Option.bind_some, Option.bind_some, tab_at (by omega) (by omega), Option.bind_some, Option.bind_some, tab_at (by omega) (by omega), Option.bind_some, Option.bind_some, w64_is (by omega) (by omega), tab_set (by omega), w64_nat (by omega)]
    · intro a
      have := hs.1 a
      simp only [upd]
      split
      · rename_i ha
        subst ha
        omega
      · exact this
    · rw [take_at hx]
      intro y hy
      rcases List.mem_append.1 hy with hy | hy
      · have := hs.2 y hy
        simp only [upd]
        split
        · rename_i ha
          rw [ha] at this
          omega
        · exact this
      · rw [List.mem_singleton] at hy
        subst hy
        simp only [upd, if_true]
        omega) (fun n d hd => by rw [narthexref04_Depths_L3, if_neg (by simp)]) (N := N) (s := e0) (by omega) ⟨fun a => ⟨Int.le_refl _, (h0 a).2⟩, by simp⟩
  refine ⟨_, h.1, h.2.1, ?_⟩
  have := h.2.2
  rwa [List.take_length] at this
theorem refrounds_eq {N m : Nat} {l : List TArc} (hN : 1000 < N) (hg : Good m l) {D : Int → Int} {f : Int → Nat} (hD : Sat (fun x => x ∈ l) D) (hf : Rank l f) (hf2 : ∀ a, f a ≤ m) : ∀ (n i : Nat) (e : Int → Int), m < n + i → i ≤ m → (∀ a, 0 ≤ e a ∧ e a ≤ D a ∧ min (D a) i ≤ e a) → narthexref04_Depths_L2 N m l n (tab m e) i = some (tab m D)
  | 0, i, e, h, hi, _ => by omega
  | n + 1, i, e, h, hi, he => by
    have hm := hg.hi
    rw [narthexref04_Depths_L2]
    by_cases hlt : i < m
    · obtain ⟨e', h1, h2, h3⟩ := refpassd_eq (e0 := e) hN hg hD hf (fun a => by have := hf2 a; omega) (fun a => ⟨(he a).1, (he a).2.1⟩)
      rw [if_pos (by simpa using hlt), h1, Option.bind_some, w64_nat (by omega)]
      refine refrounds_eq hN hg hD hf hf2 n (i + 1) e' (by omega) (by omega) (fun a => ?_)
      have g1 := he a
      have g2 := h2 a
      refine ⟨by omega, g2.2, ?_⟩
      rcases (hD a).2.2 with g3 | ⟨x, hx, ht, g3⟩
      · omega
      · have g4 := h3 x hx
        have g5 := he x.From
        rw [ht] at g4
        omega
    · rw [if_neg (by simpa using hlt)]
      obtain rfl : i = m := by omega
      have : e = D := funext fun a => by
        have g1 := he a
        have g2 := hD.le hf a
        have g3 := hf2 a
        omega
      rw [this]
theorem refdepths_good {N m : Nat} {l : List TArc} (hN : 1000 < N) (hg : Good m l) (hF : Full m l) {D : Int → Int} (hD : Sat (fun x => x ∈ l) D) : narthexref04_Depths N m l = some (tab m D, true) := by
  have hm := hg.hi
  have hTl := hF.len
  rcases refcheck_eq (n := m) (l := l) hN with ⟨_, h⟩ | ⟨hn, _⟩
  · unfold narthexref04_Depths
    have hz := refzero (N := N) (m := m) hN (by omega) N 0 (by omega) (by omega)
    rw [show ((0 : Nat) : Int) = 0 from rfl, List.replicate_zero] at hz
    have hr := refrounds_eq hN hg hD (rank_of_full hg hF) (fun a => by have := pos_le (T := told m l) a; omega) N 0 (fun _ => 0) (by omega) (by omega) (fun a => by have := (hD a).1; simp; omega)
    rw [show ((0 : Nat) : Int) = 0 from rfl] at hr
    rw [h, Option.bind_some, if_pos (by simp), refround_eq hN hg, Option.bind_some, if_neg (by simp [hTl]), hz, Option.bind_some, tab_zero, hr, Option.bind_some]
  · exact absurd hg hn
theorem refdepths_round {N m : Nat} {l : List TArc} (hN : 1000 < N) (hg : Good m l) (hF : (told m l).length ≠ m) : narthexref04_Depths N m l = some ([], false) := by
  rcases refcheck_eq (n := m) (l := l) hN with ⟨_, h⟩ | ⟨hn, _⟩
  · unfold narthexref04_Depths
    rw [h, Option.bind_some, if_pos (by simp), refround_eq hN hg, Option.bind_some, if_pos (by simp [hF])]
  · exact absurd hg hn
theorem refdepths_bad {N : Nat} {n : Int} {l : List TArc} (hN : 1000 < N) (hg : ¬ Good n l) : narthexref04_Depths N n l = some ([], false) := by
  rcases refcheck_eq (n := n) (l := l) hN with ⟨h, _⟩ | ⟨_, h⟩
  · exact absurd h hg
  · unfold narthexref04_Depths
    rw [h, Option.bind_some, if_neg (by simp), Option.bind_some, if_pos (by simp)]

/-! Sinks and flips. -/
theorem awake_ok : ∃ N, 1000 < N ∧ narthexlaw04_awake N = some true := ⟨1001, by omega, by decide +kernel⟩
theorem foldl_filter {p : Nat → Bool} : ∀ (m : Nat), ((List.range m).filter p).map Int.ofNat = (List.range m).foldl (fun out i => if p i = true then out ++ [(i : Int)] else out) []
  | 0 => rfl
  | m + 1 => by
    rw [List.range_succ, List.filter_append, List.map_append, foldl_filter m, List.foldl_append]
    cases h : p m <;> simp [h]
def sink (l : List TArc) (i : Nat) : Bool := !l.any fun x => x.From == (i : Int)
def sinks (m : Nat) (l : List TArc) : List Int := (List.range m).foldl (fun out i => if sink l i = true then out ++ [(i : Int)] else out) []
theorem range_at {m i x : Nat} (h : (List.range m)[i]? = some x) : x = i ∧ i < m := by
  obtain ⟨h1, h2⟩ := List.getElem?_eq_some_iff.1 h
  simp at h1 h2
  exact ⟨h2.symm, h1⟩
theorem sinkscan_eq {N : Nat} {l : List TArc} {a : Int} (hN : 1000 < N) (hl : l.length ≤ 1000) : dag_Sinks_L2 N l a N 0 = some (if l.any (fun x => x.From == a) = true then .inl () else .inr ()) := by
  refine anyR (L := dag_Sinks_L2 N l a) (xs := l) (q := fun x => x.From == a) (r := ()) (fun n i y hy => ?_) (fun n => by rw [dag_Sinks_L2, if_neg (by simp)]) (by omega)
  have hl' := (List.getElem?_eq_some_iff.1 hy).1
  rw [dag_Sinks_L2, if_pos (by simpa using hl'), at_nat, hy, Option.bind_some, w64_nat (by omega)]
theorem sinks_eq {N m : Nat} {l : List TArc} (hN : 1000 < N) (hg : Good m l) : dag_Sinks N m l = some (sinks m l) := by
  have hm := hg.hi
  have hl := hg.len
  unfold dag_Sinks
  rcases check_eq (n := m) (l := l) hN with ⟨_, h⟩ | ⟨hn, _⟩
  · have h2 := foldR0 (L := dag_Sinks_L1 N m l) (xs := List.range m) (f := fun out i => if sink l i = true then out ++ [(i : Int)] else out) (fin := some) (I := fun i out => out.length ≤ i) (fun n i out x ho hx => by
      obtain ⟨rfl, hi⟩ := range_at hx
      refine ⟨?_, ?_⟩
      · rw [dag_Sinks_L1, if_pos (by simpa using hi), sinkscan_eq hN (by omega), Option.bind_some, w64_nat (by omega)]
        unfold sink
        cases l.any (fun y => y.From == (x : Int)) with
        | true => rfl
        | false =>
          simp only [Bool.false_eq_true, if_false, Bool.not_false, if_true]
          rw [app_ok (by simp; omega), Option.bind_some]
      · split
        · simp
          omega
        · omega) (fun n out ho => by rw [dag_Sinks_L1, List.length_range, if_neg (by simp)]) (N := N) (s := []) (by simp; omega) (by simp)
    rw [h, Option.bind_some, if_neg (by simp), h2.1, Option.bind_some]
    rfl
  · exact absurd hg hn
theorem sinks_bad {N : Nat} {n : Int} {l : List TArc} (hN : 1000 < N) (hg : ¬ Good n l) : dag_Sinks N n l = some [] := by
  unfold dag_Sinks
  rcases check_eq (n := n) (l := l) hN with ⟨h, _⟩ | ⟨_, h⟩
  · exact absurd h hg
  · rw [h, Option.bind_some, if_pos (by simp)]
theorem refsinkscan {N : Nat} {l : List TArc} {a : Int} (hl : l.length ≤ 1000) : ∀ (n i : Nat) (b : Bool), l.length < n + i → i ≤ l.length → narthexref04_Sinks_L2 N l a n b i = some (b || (l.drop i).any fun x => x.From == a)
  | 0, i, b, h, hi => by omega
  | n + 1, i, b, h, hi => by
    rw [narthexref04_Sinks_L2]
    by_cases hlt : i < l.length
    · obtain ⟨x, hx⟩ := some_at hlt
      rw [if_pos (by simpa using hlt), at_nat, hx, w64_nat (by omega), drop_at hx, List.any_cons]
      cases b with
      | true =>
        rw [if_neg (by simp), Option.bind_some, Bool.true_or, refsinkscan hl n (i + 1) true (by omega) (by omega)]
        simp
      | false => rw [if_pos (by simp), Option.bind_some, Bool.false_or, refsinkscan hl n (i + 1) _ (by omega) (by omega), Bool.false_or]
    · rw [if_neg (by simpa using hlt), List.drop_eq_nil_of_le (by omega)]
      simp
theorem refsinks_eq {N m : Nat} {l : List TArc} (hN : 1000 < N) (hg : Good m l) : narthexref04_Sinks N m l = some (sinks m l) := by
  have hm := hg.hi
  have hl := hg.len
  unfold narthexref04_Sinks
  rcases refcheck_eq (n := m) (l := l) hN with ⟨_, h⟩ | ⟨hn, _⟩
  · have h2 := foldR0 (L := narthexref04_Sinks_L1 N m l) (xs := List.range m) (f := fun out i => if sink l i = true then out ++ [(i : Int)] else out) (fin := some) (I := fun i out => out.length ≤ i) (fun n i out x ho hx => by
      obtain ⟨rfl, hi⟩ := range_at hx
      refine ⟨?_, ?_⟩
      · have hs := refsinkscan (N := N) (a := (x : Int)) (l := l) (by omega) N 0 false (by omega) (by omega)
        rw [show ((0 : Nat) : Int) = 0 from rfl, List.drop_zero, Bool.false_or] at hs
        rw [narthexref04_Sinks_L1, if_pos (by simpa using hi), h, Option.bind_some, if_pos (by simpa using hi), hs, Option.bind_some, w64_nat (by omega)]
        unfold sink
        cases l.any (fun y => y.From == (x : Int)) with
        | true => rfl
        | false =>
          simp only [Bool.not_false, if_true]
          rw [app_ok (by simp; omega), Option.bind_some]
      · split
        · simp
          omega
        · omega) (fun n out ho => by rw [narthexref04_Sinks_L1, List.length_range, if_neg (by simp), Option.bind_some, if_neg (by simp)]) (N := N) (s := []) (by simp; omega) (by simp)
    rw [h2.1, Option.bind_some]
    rfl
  · exact absurd hg hn
theorem refsinks_bad {N : Nat} {n : Int} {l : List TArc} (hN : 1000 < N) (hg : ¬ Good n l) : narthexref04_Sinks N n l = some [] := by
  unfold narthexref04_Sinks
  obtain ⟨M, rfl⟩ : ∃ M, N = M + 1 := ⟨N - 1, by omega⟩
  rcases refcheck_eq (N := M + 1) (n := n) (l := l) hN with ⟨h, _⟩ | ⟨_, h⟩
  · exact absurd h hg
  · rw [narthexref04_Sinks_L1, h]
    by_cases h0 : (0 : Int) < n
    · rw [if_pos (by simpa using h0), Option.bind_some, if_neg (by simp), Option.bind_some]
    · rw [if_neg (by simpa using h0), Option.bind_some, if_neg (by simp), Option.bind_some]
def flip1 (v : Int) (x : TArc) : TArc := if x.From = v then ⟨x.To, v⟩ else x
theorem flip_eq {N : Nat} {l : List TArc} {v : Int} (hN : 1000 < N) (hl : l.length ≤ 400) : dag_Flip N l v = some (l.map (flip1 v)) := by
  unfold dag_Flip slices_Clone_Arc
  rw [app_ok (by simp; omega), Option.bind_some, List.nil_append]
  have h := foldR0 (L := dag_Flip_L1 N l v) (xs := List.range l.length) (f := fun out i => match l[i]? with | some x => if x.From = v then out.set i ⟨x.To, v⟩ else out | none => out) (fin := some) (I := fun i out => out = (l.take i).map (flip1 v) ++ l.drop i) (fun n i out x ho hx => by
    obtain ⟨rfl, hi⟩ := range_at hx
    obtain ⟨y, hy⟩ := some_at hi
    have hol : out[x]? = some y := by
      rw [ho, List.getElem?_append_right (by simp; omega), List.getElem?_drop]
      simp only [List.length_map, List.length_take]
      rw [show x + (x - min x l.length) = x by omega, hy]
    refine ⟨?_, ?_⟩
    · rw [dag_Flip_L1, if_pos (by simpa using hi), at_nat, hy, Option.bind_some, w64_nat (by omega), at_nat, hol]
      simp only
      by_cases hv : y.From = v
      · rw [if_pos (by simpa using hv), if_pos hv, Option.bind_some, Int.toNat_natCast]
      · rw [if_neg (by simpa using hv), if_neg hv]
    · simp only [hy]
      rw [take_at hy, List.map_append, ho, drop_at hy]
      by_cases hv : y.From = v
      · rw [if_pos hv, List.set_append_right _ _ (by simp; omega)]
        simp only [List.length_map, List.length_take]
        rw [show x - min x l.length = 0 by omega]
        simp [flip1, hv]
      · rw [if_neg hv]
        simp [flip1, hv]) (fun n out ho => by rw [dag_Flip_L1, List.length_range, if_neg (by simp)]) (N := N) (s := l) (by simp; omega) (by simp)
  rw [h.1, Option.bind_some]
  have h2 := h.2
  rw [List.length_range, List.take_length, List.drop_length, List.append_nil] at h2
  rw [h2]
theorem refflip_eq {N : Nat} {l : List TArc} {v : Int} (hN : 1000 < N) (hl : l.length ≤ 400) : narthexref04_Flip N l v = some (l.map (flip1 v)) := by
  unfold narthexref04_Flip
  have h := foldR0 (L := narthexref04_Flip_L1 N l v) (xs := l) (f := fun out x => out ++ [flip1 v x]) (fin := some) (I := fun i out => out = (l.take i).map (flip1 v)) (fun n i out x ho hx => by
    have hil := (List.getElem?_eq_some_iff.1 hx).1
    refine ⟨?_, by rw [take_at hx, List.map_append, ho]; rfl⟩
    rw [narthexref04_Flip_L1, if_pos (by simpa using hil), at_nat, hx, Option.bind_some, w64_nat (by omega)]
    unfold flip1
    have hol : out.length ≤ 400 := by rw [ho]; simp; omega
    by_cases hv : x.From = v
    · rw [if_pos (by simpa using hv), if_pos hv, app_ok (by simp; omega), Option.bind_some, hv]
    · rw [if_neg (by simpa using hv), if_neg hv, app_ok (by simp; omega), Option.bind_some]) (fun n out ho => by rw [narthexref04_Flip_L1, if_neg (by simp)]) (N := N) (s := []) (by omega) (by simp)
  rw [h.1, Option.bind_some]
  have h2 := h.2
  rw [List.take_length] at h2
  rw [h2]

/-! The laws. -/
theorem law_DagFlips (a0 : Int) (o0 : (Lit.int .i64 a0).wf = true) (a1 : List TArc) (o1 : (a1.length ≤ maxLen ∧ ∀ y ∈ a1, kArc y)) (a2 : Int) (o2 : (Lit.int .i64 a2).wf = true) : ∃ N, narthexlaw04_DagFlips N a0 a1 a2 = some true := by
  obtain ⟨N, hN, hA⟩ := awake_ok
  refine ⟨N, ?_⟩
  unfold narthexlaw04_DagFlips
  rw [hA, Option.bind_some, if_pos (by simp), few_eq, Option.bind_some]
  by_cases hf : (decide (a1.length ≤ 60) && (decide (a0 ≤ 24) || decide (a0 > 64))) = true
  · have hl : a1.length ≤ 60 := by simp at hf; exact hf.1
    rw [hf, if_neg (by simp), own_eq (by omega), Option.bind_some, flip_eq hN (by omega), Option.bind_some, refflip_eq hN (by omega), Option.bind_some, sameA_eq hN (by simp; omega), Option.bind_some]
    have hs : ∃ r, r.length ≤ 64 ∧ dag_Sinks N a0 a1 = some r ∧ narthexref04_Sinks N a0 a1 = some r := by
      by_cases hg : Good a0 a1
      · obtain ⟨m, rfl, hm⟩ := hg.nat
        refine ⟨_, ?_, sinks_eq hN hg, refsinks_eq hN hg⟩
        rw [sinks, ← foldl_filter]
        have := List.length_filter_le (sink a1) (List.range m)
        simp at this ⊢
        omega
      · exact ⟨[], by simp, sinks_bad hN hg, refsinks_bad hN hg⟩
    obtain ⟨r, h0, h1, h2⟩ := hs
    simp only [decide_true, if_true, Option.bind_some, h1, h2, sameI_eq hN (show r.length ≤ 1000 by omega), Bool.and_self]
  · have hf' : (decide (a1.length ≤ 60) && (decide (a0 ≤ 24) || decide (a0 > 64))) = false := by simpa using hf
    rw [hf', if_pos (by simp), Option.bind_some]
theorem law_DagOrders (a0 : Int) (o0 : (Lit.int .i64 a0).wf = true) (a1 : List TArc) (o1 : (a1.length ≤ maxLen ∧ ∀ y ∈ a1, kArc y)) : ∃ N, narthexlaw04_DagOrders N a0 a1 = some true := by
  obtain ⟨N, hN, hA⟩ := awake_ok
  refine ⟨N, ?_⟩
  unfold narthexlaw04_DagOrders
  rw [hA, Option.bind_some, if_pos (by simp), few_eq, Option.bind_some]
  by_cases hf : (decide (a1.length ≤ 60) && (decide (a0 ≤ 24) || decide (a0 > 64))) = true
  · have hl : a1.length ≤ 60 := by simp at hf; exact hf.1
    rw [hf, if_neg (by simp), own_eq (by omega), Option.bind_some]
    have hs : ∃ o b, o.length ≤ 64 ∧ dag_Order N a0 a1 = some (o, b) ∧ narthexref04_Order N a0 a1 = some (o, b) := by
      by_cases hg : Good a0 a1
      · obtain ⟨m, rfl, hm⟩ := hg.nat
        have := (told_nds m a1).len
        rw [order_good hN hg, reforder_good hN hg]
        split
        · exact ⟨[], false, by simp, rfl, rfl⟩
        · exact ⟨_, _, by omega, rfl, rfl⟩
      · exact ⟨[], false, by simp, order_bad hN hg, reforder_bad hN hg⟩
    have hd : ∃ o b, o.length ≤ 64 ∧ dag_Depths N a0 a1 = some (o, b) ∧ narthexref04_Depths N a0 a1 = some (o, b) := by
      by_cases hg : Good a0 a1
      · obtain ⟨m, rfl, hm⟩ := hg.nat
        by_cases hF : (told m a1).length = m
        · obtain ⟨d, h1, h2⟩ := depths_good hN hg (full_iff.2 hF)
          exact ⟨_, _, by rw [tab_len]; exact hm, h1, refdepths_good hN hg (full_iff.2 hF) h2⟩
        · exact ⟨[], false, by simp, depths_round hN hg hF, refdepths_round hN hg hF⟩
      · exact ⟨[], false, by simp, depths_bad hN hg, refdepths_bad hN hg⟩
    have hc : ∃ (e : Int) (b : Bool), dag_Check N a0 a1 = some e ∧ narthexref04_Check N a0 a1 = some b ∧ ((e = 0 ∧ b = true) ∨ (e = 40 ∧ b = false)) := by
      rcases check_eq (n := a0) (l := a1) hN with ⟨hg, h⟩ | ⟨hg, h⟩
      · rcases refcheck_eq (n := a0) (l := a1) hN with ⟨_, h'⟩ | ⟨hg', _⟩
        · exact ⟨_, _, h, h', .inl ⟨rfl, rfl⟩⟩
        · exact absurd hg hg'
      · rcases refcheck_eq (n := a0) (l := a1) hN with ⟨hg', _⟩ | ⟨_, h'⟩
        · exact absurd hg' hg
        · exact ⟨_, _, h, h', .inr ⟨rfl, rfl⟩⟩
    obtain ⟨o, b, h0, h1, h2⟩ := hs
    obtain ⟨d, b', g0, g1, g2⟩ := hd
    obtain ⟨e, c, c1, c2, c3⟩ := hc
    rw [h1, Option.bind_some, h2, Option.bind_some, Option.bind_some, g1, Option.bind_some, g2, Option.bind_some, sameI_eq hN (show o.length ≤ 1000 by omega), Option.bind_some]
    simp only [decide_true, beq_self_eq_true, Bool.and_self, if_true, sameI_eq hN (show d.length ≤ 1000 by omega), Option.bind_some, c1, c2]
    rcases c3 with ⟨rfl, rfl⟩ | ⟨rfl, rfl⟩ <;> simp [c1]
  · have hf' : (decide (a1.length ≤ 60) && (decide (a0 ≤ 24) || decide (a0 > 64))) = false := by simpa using hf
    rw [hf', if_pos (by simp), Option.bind_some]
theorem deep_eq {N m : Nat} {l : List TArc} {d : Int → Int} (hN : 1000 < N) (hg : Good m l) (hF : Full m l) (hd : Sat (fun x => x ∈ l) d) (a : Int) : narthexlaw04_DagDeep_L2 N l (tab m d, true) a N 0 0 = some (d a) := by
  have hl := hg.len
  have hm := hg.hi
  have hTl := hF.len
  have hdl : ∀ b, d b ≤ 64 := fun b => by
    have := hd.le (rank_of_full hg hF) b
    have := pos_le (T := told m l) b
    omega
  have h := foldR0 (L := narthexlaw04_DagDeep_L2 N l (tab m d, true) a) (xs := l) (f := fun k x => if x.To = a then max k (d x.From + 1) else k) (fin := some) (I := fun i k => 0 ≤ k ∧ k ≤ d a ∧ ∀ x ∈ l.take i, x.To = a → d x.From + 1 ≤ k) (fun n i k x hk hx => by
    have hil := (List.getElem?_eq_some_iff.1 hx).1
    have hxl := List.mem_of_getElem? hx
    have hb := hg.arc x hxl
    have g1 := hdl x.From
    have g2 := (hd x.From).1
    refine ⟨?_, ?_⟩
    · rw [narthexlaw04_DagDeep_L2, if_pos (by simpa using hil), at_nat, hx, Option.bind_some, Option.bind_some, w64_nat (by omega)]
      simp only
      rw [tab_at (by omega) (by omega), Option.bind_some, w64_is (by omega) (by omega)]
      by_cases ht : x.To = a
      · rw [if_pos (by simpa using ht), if_pos ht]
      · rw [if_neg (by simpa using ht), if_neg ht]
    · rw [take_at hx]
      by_cases ht : x.To = a
      · rw [if_pos ht]
        have g3 := (hd a).2.1 x hxl ht
        refine ⟨by omega, by omega, fun y hy hya => ?_⟩
        rcases List.mem_append.1 hy with hy | hy
        · have := hk.2.2 y hy hya
          omega
        · rw [List.mem_singleton] at hy
          subst hy
          omega
      · rw [if_neg ht]
        refine ⟨hk.1, hk.2.1, fun y hy hya => ?_⟩
        rcases List.mem_append.1 hy with hy | hy
        · exact hk.2.2 y hy hya
        · rw [List.mem_singleton] at hy
          subst hy
          exact absurd hya ht) (fun n k hk => by rw [narthexlaw04_DagDeep_L2, if_neg (by simp)]) (N := N) (s := 0) (by omega) ⟨Int.le_refl _, (hd a).1, by simp⟩
  rw [h.1]
  obtain ⟨h1, h2, h3⟩ := h.2
  rw [List.take_length] at h3
  congr 1
  rcases (hd a).2.2 with h4 | ⟨x, hx, ht, h4⟩
  · omega
  · have := h3 x hx ht
    omega
theorem law_DagDeep (a0 : Int) (o0 : (Lit.int .i64 a0).wf = true) (a1 : List TArc) (o1 : (a1.length ≤ maxLen ∧ ∀ y ∈ a1, kArc y)) : ∃ N, narthexlaw04_DagDeep N a0 a1 = some true := by
  obtain ⟨N, hN, hA⟩ := awake_ok
  refine ⟨N, ?_⟩
  unfold narthexlaw04_DagDeep
  rw [hA, Option.bind_some, if_pos (by simp), few_eq, Option.bind_some]
  by_cases hf : (decide (a1.length ≤ 60) && (decide (a0 ≤ 24) || decide (a0 > 64))) = true
  · have hl : a1.length ≤ 60 := by simp at hf; exact hf.1
    rw [hf, if_neg (by simp), own_eq (by omega), Option.bind_some]
    by_cases hg : Good a0 a1
    · obtain ⟨m, rfl, hm⟩ := hg.nat
      by_cases hF : (told m a1).length = m
      · have hF' := full_iff.2 hF
        obtain ⟨d, h1, h2⟩ := depths_good hN hg hF'
        rw [h1, Option.bind_some, if_neg (by simp)]
        have h := foldR0 (L := narthexlaw04_DagDeep_L1 N m a1 (tab m d, true)) (xs := List.range m) (f := fun out i => out ++ [d (i : Int)]) (fin := some) (I := fun i out => out = tab i d) (fun n i out x ho hx => by
          obtain ⟨rfl, hi⟩ := range_at hx
          refine ⟨?_, ?_⟩
          · have : out.length ≤ 64 := by rw [ho, tab_len]; omega
            rw [narthexlaw04_DagDeep_L1, if_pos (by simpa using hi), deep_eq hN hg hF' h2, Option.bind_some, app_ok (by simp; omega), Option.bind_some, w64_nat (by omega)]
          · rw [ho]
            simp [tab, List.range_succ]) (fun n out ho => by rw [narthexlaw04_DagDeep_L1, List.length_range, if_neg (by simp)]) (N := N) (s := []) (by simp; omega) (by simp [tab])
        have e := h.2
        rw [List.length_range] at e
        rw [h.1, Option.bind_some, e, sameI_eq hN (by rw [tab_len]; omega), Option.bind_some]
        simp
      · rw [depths_round hN hg hF, Option.bind_some, if_pos (by simp)]
        rfl
    · rw [depths_bad hN hg, Option.bind_some, if_pos (by simp)]
      rfl
  · have hf' : (decide (a1.length ≤ 60) && (decide (a0 ≤ 24) || decide (a0 > 64))) = false := by simpa using hf
    rw [hf', if_pos (by simp), Option.bind_some]

/-! Nodes that arcs lead round. -/
def ptr (l : List TArc) (T : List Int) (a : Int) (b : Nat) : Bool := !decide ((b : Int) ∈ T) && l.any fun x => (x.From == (b : Int)) && (x.To == a)
def nx (m : Nat) (l : List TArc) (T : List Int) (a : Int) : Int := match (List.range m).find? (ptr l T a) with | some b => (b : Int) | none => (m : Int)
theorem nx_is {m : Nat} {l : List TArc} {T : List Int} {a K : Int} (hl : ∀ x ∈ l, 0 ≤ x.From ∧ x.From < (m : Int)) (h1 : ∀ x ∈ l, x.To = a → x.From ∉ T → K ≤ x.From) (h2 : K = m ∨ ∃ x ∈ l, x.To = a ∧ x.From ∉ T ∧ x.From = K) (h3 : K ≤ m) : nx m l T a = K := by
  unfold nx
  cases h : (List.range m).find? (ptr l T a) with
  | some b =>
    rw [List.find?_range_eq_some] at h
    obtain ⟨g1, g2, g3⟩ := h
    simp only [ptr, Bool.and_eq_true, Bool.not_eq_true', decide_eq_false_iff_not, List.any_eq_true, beq_iff_eq] at g1
    obtain ⟨gb, x, gx, gx1, gx2⟩ := g1
    have := h1 x gx gx2 (gx1 ▸ gb)
    rw [List.mem_range] at g2
    simp only
    rcases h2 with h2 | ⟨y, hy, hy1, hy2, hy3⟩
    · omega
    · have hyl := hl y hy
      apply Classical.byContradiction
      intro hne
      have := g3 y.From.toNat (by omega)
      simp only [ptr, Bool.not_eq_true', Bool.and_eq_false_iff, Bool.not_eq_false', decide_eq_true_eq, List.any_eq_false, Bool.and_eq_true, beq_iff_eq, not_and] at this
      rw [show ((y.From.toNat : Nat) : Int) = y.From by omega] at this
      rcases this with h | h
      · exact hy2 h
      · exact h y hy rfl hy1
  | none =>
    rw [List.find?_eq_none] at h
    simp only
    rcases h2 with h2 | ⟨y, hy, hy1, hy2, hy3⟩
    · omega
    · have hyl := hl y hy
      refine absurd ?_ (h y.From.toNat (List.mem_range.2 (by omega)))
      simp only [ptr, Bool.and_eq_true, Bool.not_eq_true', decide_eq_false_iff_not, List.any_eq_true, beq_iff_eq]
      rw [show ((y.From.toNat : Nat) : Int) = y.From by omega]
      exact ⟨hy2, y, hy, rfl, hy1⟩
/-- One who isn't told is pointed to by one who isn't. -/
theorem nx_arc {m : Nat} {l : List TArc} (hg : Good m l) {a : Int} (h0 : 0 ≤ a) (h1 : a < m) (ha : a ∉ told m l) : 0 ≤ nx m l (told m l) a ∧ nx m l (told m l) a < m ∧ nx m l (told m l) a ∉ told m l ∧ (⟨nx m l (told m l) a, a⟩ : TArc) ∈ l := by
  have hn := nxt_none (told_end m l) a.toNat (by omega)
  rw [show ((a.toNat : Nat) : Int) = a by omega] at hn
  rcases hn with hn | hn
  · exact absurd hn ha
  · obtain ⟨x, hx, hx1, hx2⟩ := free_false hn
    have hb := hg.arc x hx
    unfold nx
    cases h : (List.range m).find? (ptr l (told m l) a) with
    | some b =>
      rw [List.find?_range_eq_some] at h
      obtain ⟨g1, g2, _⟩ := h
      simp only [ptr, Bool.and_eq_true, Bool.not_eq_true', decide_eq_false_iff_not, List.any_eq_true, beq_iff_eq] at g1
      obtain ⟨gb, y, gy, gy1, gy2⟩ := g1
      rw [List.mem_range] at g2
      refine ⟨by simp, by simpa using g2, gb, ?_⟩
      simp only
      rw [← gy1, ← gy2]
      exact gy
    | none =>
      rw [List.find?_eq_none] at h
      refine absurd ?_ (h x.From.toNat (List.mem_range.2 (by omega)))
      simp only [ptr, Bool.and_eq_true, Bool.not_eq_true', decide_eq_false_iff_not, List.any_eq_true, beq_iff_eq]
      rw [show ((x.From.toNat : Nat) : Int) = x.From by omega]
      exact ⟨hx2, x, hx, rfl, hx1⟩
theorem minscan_eq {N m : Nat} {l : List TArc} {T : List Int} {left : List Bool} (hN : 1000 < N) (hg : Good m l) (hl : ∀ i : Nat, i < m → left[i]? = some (!decide ((i : Int) ∈ T))) (a : Int) : dag_Cycle_L2 N l (T, left) a N (m : Int) 0 = some (nx m l T a) := by
  have hlen := hg.len
  have h := foldR0 (L := dag_Cycle_L2 N l (T, left) a) (xs := l) (f := fun k x => if x.To = a ∧ x.From ∉ T then min k x.From else k) (fin := some) (I := fun i k => k ≤ m ∧ (∀ x ∈ l.take i, x.To = a → x.From ∉ T → k ≤ x.From) ∧ (k = m ∨ ∃ x ∈ l, x.To = a ∧ x.From ∉ T ∧ x.From = k)) (fun n i k x hk hx => by
    have hil := (List.getElem?_eq_some_iff.1 hx).1
    have hxl := List.mem_of_getElem? hx
    have hb := hg.arc x hxl
    refine ⟨?_, ?_⟩
    · rw [dag_Cycle_L2, if_pos (by simpa using hil), at_nat, hx, Option.bind_some, w64_nat (by omega)]
      obtain ⟨j, hj⟩ : ∃ j : Nat, x.From = (j : Int) := ⟨x.From.toNat, by omega⟩
      by_cases ht : x.To = a
      · rw [if_pos (by simpa using ht), hj, at_nat]
        simp only
        rw [hl j (by omega), Option.bind_some, ← hj]
        by_cases hm : x.From ∈ T
        · rw [if_neg (by simp [hm]), if_neg (fun h => h.2 hm)]
        · rw [if_pos (by simp [hm, ht]), if_pos ⟨ht, hm⟩]
      · rw [if_neg (by simpa using ht), Option.bind_some, if_neg (by simp [ht]), if_neg (fun h => ht h.1)]
    · obtain ⟨k1, k2, k3⟩ := hk
      rw [take_at hx]
      by_cases hc : x.To = a ∧ x.From ∉ T
      · rw [if_pos hc]
        refine ⟨by omega, fun y hy hy1 hy2 => ?_, ?_⟩
        · rcases List.mem_append.1 hy with hy | hy
          · have := k2 y hy hy1 hy2
            omega
          · rw [List.mem_singleton] at hy
            subst hy
            omega
        · by_cases hkx : k ≤ x.From
          · rw [Int.min_eq_left hkx]
            exact k3
          · rw [Int.min_eq_right (by omega)]
            exact .inr ⟨x, hxl, hc.1, hc.2, rfl⟩
      · rw [if_neg hc]
        refine ⟨k1, fun y hy hy1 hy2 => ?_, k3⟩
        rcases List.mem_append.1 hy with hy | hy
        · exact k2 y hy hy1 hy2
        · rw [List.mem_singleton] at hy
          subst hy
          exact absurd ⟨hy1, hy2⟩ hc) (fun n k hk => by rw [dag_Cycle_L2, if_neg (by simp)]) (N := N) (s := (m : Int)) (by omega) ⟨Int.le_refl _, by simp, .inl rfl⟩
  obtain ⟨h1, h2, h3, h4⟩ := h
  rw [List.take_length] at h3
  rw [h1, nx_is (fun x hx => by have := hg.arc x hx; omega) h3 h4 h2]
theorem arcscan_eq {N : Nat} {l : List TArc} {a b : Int} (hl : l.length ≤ 400) : ∀ (n i : Nat) (c : Bool), l.length < n + i → i ≤ l.length → narthexref04_Cycle_L4 N l a b n c i = some (c || (l.drop i).any fun x => (x.From == b) && (x.To == a))
  | 0, i, c, h, hi => by omega
  | n + 1, i, c, h, hi => by
    rw [narthexref04_Cycle_L4]
    by_cases hlt : i < l.length
    · obtain ⟨x, hx⟩ := some_at hlt
      rw [if_pos (by simpa using hlt), at_nat, hx, w64_nat (by omega), drop_at hx, List.any_cons]
      cases c with
      | true =>
        rw [if_neg (by simp), Option.bind_some, if_neg (by simp), Option.bind_some, Bool.true_or, arcscan_eq hl n (i + 1) true (by omega) (by omega)]
        simp
      | false =>
        rw [if_pos (by simp), Option.bind_some]
        by_cases hb : x.From = b
        · rw [if_pos (by simpa using hb), Option.bind_some, arcscan_eq hl n (i + 1) _ (by omega) (by omega)]
          simp
        · rw [if_neg (by simpa using hb), Option.bind_some, arcscan_eq hl n (i + 1) _ (by omega) (by omega)]
          have hb' : (x.From == b) = false := by simpa using hb
          simp only [hb', Bool.false_and, Bool.false_or]
    · rw [if_neg (by simpa using hlt), List.drop_eq_nil_of_le (by omega)]
      simp
theorem refmin_eq {N m : Nat} {l : List TArc} {T : List Int} (hN : 1000 < N) (hm : m ≤ 64) (hl : l.length ≤ 400) (hT : T.length ≤ 1000) (a : Int) : narthexref04_Cycle_L3 N m l T a N 0 = some (nx m l T a) := by
  refine scanR (L := narthexref04_Cycle_L3 N m l T a) (len := m) (p := ptr l T a) (r := fun b => (b : Int)) (e := (m : Int)) (fun n i hi => ?_) (fun n => by rw [narthexref04_Cycle_L3, if_neg (by simp)]) (by omega)
  have hs := arcscan_eq (N := N) (a := a) (b := (i : Int)) hl N 0 false (by omega) (by omega)
  rw [show ((0 : Nat) : Int) = 0 from rfl, List.drop_zero, Bool.false_or] at hs
  rw [narthexref04_Cycle_L3, if_pos (by simpa using hi), refhas_eq hN hT, Option.bind_some, hs, Option.bind_some, w64_nat (by omega)]
  rfl
/-- The way back: both go the same one. -/
structure Way (m : Nat) (l : List TArc) (w : List Int) (a : Int) : Prop where
  nodup : w.Nodup
  node : ∀ b ∈ a :: w, 0 ≤ b ∧ b < (m : Int) ∧ b ∉ told m l
  chain : ∀ (i : Nat) x, w[i]? = some x → (w ++ [a])[i + 1]? = some (nx m l (told m l) x)
theorem Way.len {m : Nat} {l : List TArc} {w : List Int} {a : Int} (h : Way m l w a) : w.length ≤ m := Nds.len (m := m) ⟨h.nodup, fun b hb => by have := h.node b (by simp [hb]); omega⟩
theorem Way.next {m : Nat} {l : List TArc} (hg : Good m l) {w : List Int} {a : Int} (h : Way m l w a) (ha : a ∉ w) : Way m l (w ++ [a]) (nx m l (told m l) a) := by
  have hna := h.node a (by simp)
  refine ⟨List.nodup_append.2 ⟨h.nodup, by simp, fun x hx y hy => ?_⟩, fun b hb => ?_, fun i x hx => ?_⟩
  · rw [List.mem_singleton] at hy
    subst hy
    exact fun e => ha (e ▸ hx)
  · rcases List.mem_cons.1 hb with rfl | hb
    · have := nx_arc hg hna.1 hna.2.1 hna.2.2
      exact ⟨this.1, this.2.1, this.2.2.1⟩
    · rcases List.mem_append.1 hb with hb | hb
      · exact h.node b (by simp [hb])
      · rw [List.mem_singleton] at hb
        subst hb
        exact hna
  · by_cases hi : i < w.length
    · rw [List.getElem?_append_left hi] at hx
      have := h.chain i x hx
      rw [List.getElem?_append_left (by simp; omega)]
      exact this
    · rw [List.getElem?_append_right (by omega)] at hx
      have hiw : i - w.length = 0 := by
        have := (List.getElem?_eq_some_iff.1 hx).1
        simp at this
        omega
      rw [hiw] at hx
      simp at hx
      subst hx
      rw [List.getElem?_append_right (by simp; omega)]
      simp only [List.length_append, List.length_singleton]
      rw [show i + 1 - (w.length + 1) = 0 by omega]
      rfl
theorem way_eq {N m : Nat} {l : List TArc} {left : List Bool} (hN : 1000 < N) (hg : Good m l) (hl : ∀ i : Nat, i < m → left[i]? = some (!decide ((i : Int) ∈ told m l))) : ∀ (n : Nat) (w : List Int) (a : Int), m < n + w.length → Way m l w a →
    ∃ W b, dag_Cycle_L1 N m l (told m l, left) n w a = some (W, b) ∧ narthexref04_Cycle_L2 N m l (told m l) n w.reverse a = some (W.reverse, b) ∧ Way m l W b ∧ b ∈ W
  | 0, w, a, h, hw => by have := hw.len; omega
  | n + 1, w, a, h, hw => by
    have hwl := hw.len
    have hm := hg.hi
    have hTl := (told_nds m l).len
    rw [dag_Cycle_L1, narthexref04_Cycle_L2, contains_eq hN (by omega), Option.bind_some, refhas_eq hN (by simp; omega), Option.bind_some]
    by_cases ha : a ∈ w
    · rw [if_neg (by simp [ha]), if_neg (by simp [ha])]
      exact ⟨w, a, rfl, rfl, hw, ha⟩
    · rw [if_pos (by simp [ha]), if_pos (by simp [ha]), app_ok (by simp; omega), Option.bind_some, app_ok (by simp; omega), Option.bind_some, minscan_eq hN hg hl, Option.bind_some, refmin_eq hN (by omega) hg.len (by omega), Option.bind_some]
      have := way_eq hN hg hl n (w ++ [a]) (nx m l (told m l) a) (by simp; omega) (hw.next hg ha)
      rw [List.reverse_append] at this
      exact this
theorem index_at {N : Nat} {s t : List Int} {b : Int} (hN : 1000 < N) (hl : (s ++ b :: t).length ≤ 1000) (hb : b ∉ s) : slices_Index_int N (s ++ b :: t) b = some (s.length : Int) := by
  rw [index_eq hN hl]
  have : (s ++ b :: t).findIdx? (fun y => b == y) = some s.length := by
    rw [List.findIdx?_eq_some_iff_getElem]
    refine ⟨by simp, by simp, fun j hj => ?_⟩
    rw [List.getElem_append_left hj]
    simp only [beq_iff_eq]
    exact fun e => hb (e ▸ List.getElem_mem hj)
  rw [this]
theorem first_split {b : Int} : ∀ {l : List Int}, b ∈ l → ∃ s t, l = s ++ b :: t ∧ b ∉ s
  | x :: l, h => by
    by_cases hx : b = x
    · exact ⟨[], l, by simp [hx], by simp⟩
    · obtain ⟨s, t, h1, h2⟩ := first_split ((List.mem_cons.1 h).resolve_left hx)
      exact ⟨x :: s, t, by rw [h1]; rfl, by simp [hx, h2]⟩
theorem min_eq' {N : Nat} {R : List Int} (hN : 1000 < N) (hl : R.length ≤ 1000) (hne : R ≠ []) : ∃ μ, slices_Min_int N R = some μ ∧ μ ∈ R ∧ ∀ x ∈ R, μ ≤ x := by
  obtain ⟨r, R', rfl⟩ := List.exists_cons_of_ne_nil hne
  unfold slices_Min_int
  rw [if_neg (by simp; omega), show at? (r :: R') 0 = some r from rfl, Option.bind_some]
  have h := foldR (L := fun n k i => slices_Min_int_L1 N (r :: R') n k i) (xs := r :: R') (f := fun k x => min k x) (fin := some) (I := fun i k => k ∈ r :: R' ∧ ∀ x ∈ (r :: R').take i, k ≤ x) (fun n i k x hk hx => by
    have hil := (List.getElem?_eq_some_iff.1 hx).1
    have hxl := List.mem_of_getElem? hx
    refine ⟨?_, ?_, ?_⟩
    · rw [slices_Min_int_L1, if_pos (by simp only [decide_eq_true_eq]; omega), at_nat, hx, Option.bind_some, w64_nat (by omega)]
    · by_cases hkx : k ≤ x
      · rw [Int.min_eq_left hkx]; exact hk.1
      · rw [Int.min_eq_right (by omega)]; exact hxl
    · rw [take_at hx]
      intro y hy
      rcases List.mem_append.1 hy with hy | hy
      · have := hk.2 y hy
        omega
      · rw [List.mem_singleton] at hy
        omega) (fun n k hk => by rw [slices_Min_int_L1, if_neg (by simp)]) N 1 r (by omega) (by simp) ⟨by simp, by simp⟩
  rw [show ((1 : Nat) : Int) = 1 from rfl] at h
  rw [h.1, Option.bind_some]
  have h2 := h.2
  rw [List.take_length] at h2
  exact ⟨_, rfl, h2.1, h2.2⟩
theorem upto_eq {N : Nat} {p q : List Int} {b : Int} (hN : 1000 < N) (hb : b ∉ p) (hl : (p ++ b :: q).length ≤ 1000) : ∀ (n i : Nat), p.length < n + i → i ≤ p.length → narthexref04_Cycle_L5 N (p ++ b :: q, b) n (p.take i) i = some (p ++ [b])
  | 0, i, h, hi => by omega
  | n + 1, i, h, hi => by
    simp only [List.length_append, List.length_cons] at hl
    rw [narthexref04_Cycle_L5]
    simp only
    rw [if_pos (by simp; omega)]
    rcases Nat.lt_or_ge i p.length with hlt | hge
    · obtain ⟨x, hx⟩ := some_at hlt
      have hx' : (p ++ b :: q)[i]? = some x := by rw [List.getElem?_append_left hlt]; exact hx
      rw [at_nat, hx', Option.bind_some, app_ok (by simp; omega), Option.bind_some, Option.bind_some, if_neg (by
        simp only [beq_iff_eq]
        exact fun e => hb (e ▸ List.mem_of_getElem? hx)), w64_nat (by omega), ← take_at hx]
      exact upto_eq hN hb (by simp; omega) n (i + 1) (by omega) (by omega)
    · obtain rfl : i = p.length := by omega
      have hx' : (p ++ b :: q)[p.length]? = some b := by simp
      rw [at_nat, hx', Option.bind_some, List.take_length, app_ok (by simp; omega), Option.bind_some, Option.bind_some, if_pos (by simp)]
theorem least_eq {N : Nat} {R : List Int} (hN : 1000 < N) (hl : R.length ≤ 1000) (hne : R ≠ []) : ∃ (j : Nat) (v : Int), narthexref04_Cycle_L6 N R N 0 0 = some (j : Int) ∧ R[j]? = some v ∧ ∀ x ∈ R, v ≤ x := by
  have h := foldR0 (L := fun n (k : Nat) i => narthexref04_Cycle_L6 N R n (k : Int) i) (xs := List.range R.length) (f := fun k i => if R[i]? = none then k else match R[i]?, R[k]? with | some x, some v => if x < v then i else k | _, _ => k) (fin := fun k => some (k : Int)) (I := fun i k => ∃ v, R[k]? = some v ∧ ∀ x ∈ R.take i, v ≤ x) (fun n i k x hk hx => by
    obtain ⟨rfl, hi⟩ := range_at hx
    obtain ⟨y, hy⟩ := some_at hi
    obtain ⟨v, hv, hk2⟩ := hk
    have hkl := (List.getElem?_eq_some_iff.1 hv).1
    simp only [hy, hv]
    rw [if_neg (by simp)]
    refine ⟨?_, ?_⟩
    · rw [narthexref04_Cycle_L6, if_pos (by simpa using hi), at_nat, hy, Option.bind_some, at_nat, hv, Option.bind_some, w64_nat (by omega)]
      by_cases hyv : y < v
      · rw [if_pos (by simpa using hyv), if_pos hyv]
      · rw [if_neg (by simpa using hyv), if_neg hyv]
    · rw [take_at hy]
      by_cases hyv : y < v
      · rw [if_pos hyv]
        refine ⟨y, hy, fun z hz => ?_⟩
        rcases List.mem_append.1 hz with hz | hz
        · have := hk2 z hz
          omega
        · rw [List.mem_singleton] at hz
          omega
      · rw [if_neg hyv]
        refine ⟨v, hv, fun z hz => ?_⟩
        rcases List.mem_append.1 hz with hz | hz
        · exact hk2 z hz
        · rw [List.mem_singleton] at hz
          omega) (fun n k hk => by rw [narthexref04_Cycle_L6, List.length_range, if_neg (by simp)]) (N := N) (s := 0) (by simp; omega) (by
      obtain ⟨r, R', rfl⟩ := List.exists_cons_of_ne_nil hne
      exact ⟨r, rfl, by simp⟩)
  obtain ⟨h1, v, h2, h3⟩ := h
  rw [List.length_range, List.take_length] at h3
  exact ⟨_, v, h1, h2, h3⟩
/-- What both tell: nodes that arcs lead round. -/
structure Circle (l : List TArc) (c : List Int) : Prop where
  nodup : c.Nodup
  ne : c ≠ []
  least : ∀ x ∈ c, c.head? = some x ∨ ∃ y, c.head? = some y ∧ y < x
  arc : ∀ (i : Nat) x y, c[i]? = some x → c[(i + 1) % c.length]? = some y → (⟨x, y⟩ : TArc) ∈ l

theorem rot_get {α : Type} {p r : List α} {i : Nat} (hi : i < (p ++ r).length) : (r ++ p)[i]? = (p ++ r)[(i + p.length) % (p ++ r).length]? := by
  rw [List.length_append] at *
  rcases Nat.lt_or_ge i r.length with h | h
  · rw [Nat.mod_eq_of_lt (by omega), List.getElem?_append_left h, List.getElem?_append_right (by omega)]
    congr 1
    omega
  · have : (i + p.length) % (p.length + r.length) = i - r.length := by
      rw [show i + p.length = (i - r.length) + (p.length + r.length) by omega, Nat.add_mod_right, Nat.mod_eq_of_lt (by omega)]
    rw [this, List.getElem?_append_right h, List.getElem?_append_left (by omega)]
def Cyc (l : List TArc) (R : List Int) : Prop := ∀ (i : Nat) x y, R[i]? = some x → R[(i + 1) % R.length]? = some y → (⟨x, y⟩ : TArc) ∈ l
theorem Cyc.rot {l : List TArc} {p r : List Int} (h : Cyc l (p ++ r)) : Cyc l (r ++ p) := by
  intro i x y hx hy
  have hi : i < (p ++ r).length := by
    have := (List.getElem?_eq_some_iff.1 hx).1
    simp at this ⊢
    omega
  have hlen : (r ++ p).length = (p ++ r).length := by simp; omega
  rw [hlen] at hy
  have hi2 : (i + 1) % (p ++ r).length < (p ++ r).length := Nat.mod_lt _ (by omega)
  rw [rot_get hi] at hx
  rw [rot_get hi2, Nat.mod_add_mod] at hy
  refine h _ x y hx ?_
  rw [Nat.mod_add_mod, show i + p.length + 1 = i + 1 + p.length by omega]
  exact hy
theorem Way.cyc {m : Nat} {l : List TArc} (hg : Good m l) {s t : List Int} {b : Int} (h : Way m l (s ++ b :: t) b) : Cyc l (t.reverse ++ [b]) := by
  have harc : ∀ x ∈ s ++ b :: t, (⟨nx m l (told m l) x, x⟩ : TArc) ∈ l := fun x hx => by
    have := h.node x (by simp at hx ⊢; exact .inr hx)
    exact (nx_arc hg this.1 this.2.1 this.2.2).2.2.2
  have hR : t.reverse ++ [b] = (b :: t).reverse := by simp
  have key : ∀ j, j ≤ t.length → ∀ x, (b :: t)[j]? = some x → (b :: t)[(j + 1) % (t.length + 1)]? = some (nx m l (told m l) x) := by
    intro j hj x hx
    have hx' : (s ++ b :: t)[s.length + j]? = some x := by
      rw [List.getElem?_append_right (by omega), show s.length + j - s.length = j by omega]
      exact hx
    have hc := h.chain _ x hx'
    rcases Nat.lt_or_ge j t.length with hlt | hge
    · rw [Nat.mod_eq_of_lt (by omega)]
      rw [List.getElem?_append_left (by simp; omega), List.getElem?_append_right (by omega), show s.length + j + 1 - s.length = j + 1 by omega] at hc
      exact hc
    · obtain rfl : j = t.length := by omega
      rw [Nat.mod_self]
      rw [List.getElem?_append_right (by simp; omega)] at hc
      simp only [List.length_append, List.length_cons] at hc
      rw [show s.length + t.length + 1 - (s.length + (t.length + 1)) = 0 by omega] at hc
      simpa using hc
  intro i x y hx hy
  rw [hR] at hx hy
  have hi := (List.getElem?_eq_some_iff.1 hx).1
  simp only [List.length_reverse, List.length_cons] at hi hy
  rw [List.getElem?_reverse (by simp; omega)] at hx
  have hi2 : (i + 1) % (t.length + 1) < t.length + 1 := Nat.mod_lt _ (by omega)
  rw [List.getElem?_reverse (by simpa using hi2)] at hy
  simp only [List.length_cons, Nat.add_sub_cancel] at hx hy
  have hyl := List.mem_of_getElem? hy
  have := key _ (by omega) y hy
  have e : (t.length - (i + 1) % (t.length + 1) + 1) % (t.length + 1) = t.length - i := by
    rcases Nat.lt_or_ge i t.length with hlt | hge
    · rw [Nat.mod_eq_of_lt (a := i + 1) (by omega), Nat.mod_eq_of_lt (by omega)]
      omega
    · obtain rfl : i = t.length := by omega
      rw [Nat.mod_self, Nat.sub_zero, Nat.mod_self]
      omega
  rw [e, hx] at this
  cases this
  exact harc y (by simp at hyl ⊢; exact .inr hyl)
theorem firstleft_eq {N m : Nat} {T : List Int} {left : List Bool} (hN : 1000 < N) (hm : m ≤ 64) (hlen : left.length = m) (hl : ∀ i : Nat, i < m → left[i]? = some (!decide ((i : Int) ∈ T))) : slices_Index_bool N left true = some (match (List.range m).find? (fun i : Nat => !decide ((i : Int) ∈ T)) with | some a => (a : Int) | none => -1) := by
  unfold slices_Index_bool
  rw [scanR (L := slices_Index_bool_L1 N left true) (len := m) (p := fun i : Nat => !decide ((i : Int) ∈ T)) (r := fun i => .inl (i : Int)) (e := .inr ()) (fun n i hi => by
    rw [slices_Index_bool_L1, if_pos (by simp; omega), at_nat, hl i hi, Option.bind_some, w64_nat (by omega)]
    by_cases h : (i : Int) ∈ T <;> simp [h]) (fun n => by rw [slices_Index_bool_L1, if_neg (by simp; omega)]) (by omega), Option.bind_some]
  cases (List.range m).find? (fun i : Nat => !decide ((i : Int) ∈ T)) <;> rfl
theorem reffirst_eq {N m : Nat} {T : List Int} (hN : 1000 < N) (hm : m ≤ 64) (hT : T.length ≤ 1000) : narthexref04_Cycle_L1 N m T N 0 = some (match (List.range m).find? (fun i : Nat => !decide ((i : Int) ∈ T)) with | some a => (a : Int) | none => (m : Int)) := by
  refine scanR (L := narthexref04_Cycle_L1 N m T) (len := m) (p := fun i : Nat => !decide ((i : Int) ∈ T)) (r := fun i => (i : Int)) (e := (m : Int)) (fun n i hi => ?_) (fun n => by rw [narthexref04_Cycle_L1, if_neg (by simp), Option.bind_some, if_neg (by simp)]) (by omega)
  have hd : decide ((i : Int) < (m : Int)) = true := by simpa using hi
  rw [narthexref04_Cycle_L1, hd, if_pos rfl, refhas_eq hN hT, Option.bind_some, w64_nat (by omega)]
  by_cases h : (i : Int) ∈ T <;> simp [h]
theorem catlen {N : Nat} {a b : List Int} (hN : 1000 < N) (ha : a.length ≤ 300) (hb : b.length ≤ 300) : slices_Concat_int N [a, b] = some (a ++ b) := by
  obtain ⟨M, rfl⟩ : ∃ M, N = M + 3 := ⟨N - 3, by omega⟩
  have e1 : w64 (0 + (a.length : Int)) = (a.length : Int) := by rw [w64_is] <;> omega
  have e2 : w64 ((a.length : Int) + (b.length : Int)) = (a.length : Int) + (b.length : Int) := by rw [w64_is] <;> omega
  have e3 : w64 (0 + 1) = 1 := by decide
  have e4 : w64 (1 + 1) = 2 := by decide
  have e0 : w64 (0 - ((0 : Nat) : Int)) = 0 := by decide
  have L1 : slices_Concat_int_L1 (M + 3) [a, b] (M + 3) 0 0 = some ((a.length : Int) + (b.length : Int)) := by
    rw [slices_Concat_int_L1, if_pos (by simp), show at? [a, b] 0 = some a from rfl, Option.bind_some, e1, if_neg (by simp), e3]
    rw [slices_Concat_int_L1, if_pos (by simp), show at? [a, b] 1 = some b from rfl, Option.bind_some, e2, if_neg (by simp; omega), e4]
    rw [slices_Concat_int_L1, if_neg (by simp)]
  have L2 : slices_Concat_int_L2 (M + 3) [a, b] (M + 3) [] 0 = some (a ++ b) := by
    rw [slices_Concat_int_L2, if_pos (by simp), show at? [a, b] 0 = some a from rfl, Option.bind_some, app_ok (xs := []) (ys := a) (by rw [List.length_nil]; omega), Option.bind_some, e3]
    rw [slices_Concat_int_L2, if_pos (by simp), show at? [a, b] 1 = some b from rfl, Option.bind_some, app_ok (by simp; omega), Option.bind_some, e4]
    rw [slices_Concat_int_L2, if_neg (by simp)]
    simp
  have G : slices_Grow_int_o (M + 3) ((a.length : Int) + (b.length : Int)) = some [] := by
    unfold slices_Grow_int_o
    rw [if_neg (by simp; omega), e0, w64_is (by omega) (by omega)]
    split
    · rename_i hp
      rw [mk?, if_pos (by omega), Option.bind_some, sub?, if_pos (by simp; omega)]
      simp
    · rfl
  unfold slices_Concat_int
  rw [L1, Option.bind_some, G, Option.bind_some, L2, Option.bind_some]
theorem cycle_some {N m : Nat} {l : List TArc} (hN : 1000 < N) (hg : Good m l) (hF : (told m l).length ≠ m) : ∃ c, dag_Cycle N m l = some (c, true) ∧ narthexref04_Cycle N m l = some (c, true) ∧ Circle l c ∧ c.length ≤ 64 := by
  have hm := hg.hi
  have hTl := (told_nds m l).len
  obtain ⟨left, hr, hlen, hl⟩ := run_eq hN hg
  have hex : ∃ a : Nat, (List.range m).find? (fun i : Nat => !decide ((i : Int) ∈ told m l)) = some a := by
    cases h : (List.range m).find? (fun i : Nat => !decide ((i : Int) ∈ told m l)) with
    | some a => exact ⟨a, rfl⟩
    | none =>
      rw [List.find?_eq_none] at h
      refine absurd (full_iff.1 fun a h0 h1 => ?_) hF
      have := h a.toNat (List.mem_range.2 (by omega))
      rw [show ((a.toNat : Nat) : Int) = a by omega] at this
      simpa using this
  obtain ⟨a, ha⟩ := hex
  have hfl := firstleft_eq hN (by omega) hlen hl
  have hrf := reffirst_eq (N := N) (m := m) (T := told m l) hN (by omega) (by omega)
  rw [ha] at hfl hrf
  rw [List.find?_range_eq_some] at ha
  obtain ⟨ha1, ha2, _⟩ := ha
  rw [List.mem_range] at ha2
  have hna : (a : Int) ∉ told m l := by simpa using ha1
  obtain ⟨W, b, w1, w2, w3, w4⟩ := way_eq hN hg hl N [] (a : Int) (by simp; omega) ⟨by simp, fun x hx => by
    rw [List.mem_singleton] at hx
    subst hx
    exact ⟨by omega, by omega, hna⟩, fun i x hx => by simp at hx⟩
  obtain ⟨s, t, rfl, hbs⟩ := first_split w4
  have hWl := w3.len
  simp only [List.length_append, List.length_cons] at hWl
  have hRne : t.reverse ++ [b] ≠ [] := by simp
  have hRl : (t.reverse ++ [b]).length ≤ 64 := by simp; omega
  have hRn : (t.reverse ++ [b]).Nodup := by
    have := (List.nodup_append.1 w3.nodup).2.1
    rw [← List.reverse_cons]
    exact List.pairwise_reverse.2 (this.imp fun h e => h e.symm)
  obtain ⟨μ, m1, m2, m3⟩ := min_eq' hN (R := t.reverse ++ [b]) (by omega) hRne
  obtain ⟨p, q, hpq, hμ⟩ := first_split m2
  have hpl : p.length + (q.length + 1) ≤ 64 := by
    have := congrArg List.length hpq
    simp only [List.length_append, List.length_cons] at this hRl
    omega
  refine ⟨μ :: q ++ p, ?_, ?_, ?_, ?_⟩
  · unfold dag_Cycle
    rcases check_eq (n := m) (l := l) hN with ⟨_, h⟩ | ⟨hn, _⟩
    · rw [h, Option.bind_some, if_neg (by simp), hr, Option.bind_some]
      simp only
      rw [hfl, Option.bind_some]
      simp only
      rw [if_neg (by simp), w1, Option.bind_some]
      simp only
      rw [index_at hN (by simp; omega) hbs, Option.bind_some, sub_drop (by simp), Option.bind_some, List.drop_left, rev?, if_pos (by simp; omega), Option.bind_some, List.reverse_cons, m1, Option.bind_some, hpq, index_at hN (by simp; omega) hμ, Option.bind_some, sub_drop (by simp), Option.bind_some, sub_take (by simp), Option.bind_some, List.drop_left, List.take_left, catlen hN (by simp; omega) (by omega), Option.bind_some]
    · exact absurd hg hn
  · unfold narthexref04_Cycle
    rcases refcheck_eq (n := m) (l := l) hN with ⟨_, h⟩ | ⟨hn, _⟩
    · rw [h, Option.bind_some, if_neg (by simp), reftold_eq hN (by omega) (by have := hg.len; omega), Option.bind_some, hrf, Option.bind_some]
      simp only
      rw [if_neg (by simp; omega)]
      rw [List.reverse_nil] at w2
      rw [w2, Option.bind_some]
      have hbt : b ∉ t := by
        have := (List.nodup_append.1 w3.nodup).2.1
        exact (List.nodup_cons.1 this).1
      have hu := upto_eq (N := N) (p := t.reverse) (q := s.reverse) (b := b) hN (by simpa using hbt) (by simp; omega) N 0 (by simp; omega) (by omega)
      rw [show ((0 : Nat) : Int) = 0 from rfl, List.take_zero] at hu
      rw [show (s ++ b :: t).reverse = t.reverse ++ b :: s.reverse by simp, hu, Option.bind_some]
      obtain ⟨j, v, j1, j2, j3⟩ := least_eq hN (R := t.reverse ++ [b]) (by omega) hRne
      have hv : v = μ := by
        have h1 := j3 μ m2
        have h2 := m3 v (List.mem_of_getElem? j2)
        omega
      have hj : j = p.length := by
        have h1 : (t.reverse ++ [b])[p.length]? = some μ := by rw [hpq]; simp
        refine (List.getElem?_inj (List.getElem?_eq_some_iff.1 j2).1 hRn).1 ?_
        rw [j2, h1, hv]
      rw [j1, Option.bind_some, hj, hpq, sub_drop (by simp), Option.bind_some, sub_take (by simp)]
      rw [List.drop_left, List.take_left, Int.toNat_natCast, List.drop_left, List.drop_zero, List.take_length, app_ok (by simp; omega), Option.bind_some, Option.bind_some, List.nil_append, List.take_left, app_ok (by simp; omega), Option.bind_some]
    · exact absurd hg hn
  · rw [hpq] at hRn m3
    have hn2 := List.nodup_append.1 hRn
    refine ⟨?_, by simp, fun x hx => ?_, ?_⟩
    · rw [List.nodup_append]
      exact ⟨hn2.2.1, hn2.1, fun x hx y hy e => hn2.2.2 y hy x hx e.symm⟩
    · have hx2 : x ∈ p ++ μ :: q := by
        simp only [List.cons_append, List.mem_cons, List.mem_append] at hx ⊢
        rcases hx with h | h | h
        · exact .inr (.inl h)
        · exact .inr (.inr h)
        · exact .inl h
      have := m3 x hx2
      simp only [List.cons_append, List.head?_cons, Option.some.injEq]
      by_cases he : μ = x
      · exact .inl he
      · exact .inr ⟨μ, rfl, by omega⟩
    · have := w3.cyc hg
      rw [hpq] at this
      exact this.rot
  · simp only [List.length_append, List.length_cons]
    omega
theorem cycle_none {N m : Nat} {l : List TArc} (hN : 1000 < N) (hg : Good m l) (hF : (told m l).length = m) : dag_Cycle N m l = some ([], false) ∧ narthexref04_Cycle N m l = some ([], false) := by
  have hm := hg.hi
  have hTl := (told_nds m l).len
  obtain ⟨left, hr, hlen, hl⟩ := run_eq hN hg
  have hno : (List.range m).find? (fun i : Nat => !decide ((i : Int) ∈ told m l)) = none := by
    rw [List.find?_eq_none]
    intro i hi
    rw [List.mem_range] at hi
    have := full_iff.2 hF (i : Int) (by omega) (by omega)
    simp [this]
  have hfl := firstleft_eq hN (by omega) hlen hl
  have hrf := reffirst_eq (N := N) (m := m) (T := told m l) hN (by omega) (by omega)
  rw [hno] at hfl hrf
  constructor
  · unfold dag_Cycle
    rcases check_eq (n := m) (l := l) hN with ⟨_, h⟩ | ⟨hn, _⟩
    · rw [h, Option.bind_some, if_neg (by simp), hr, Option.bind_some]
      simp only
      rw [hfl, Option.bind_some]
      rfl
    · exact absurd hg hn
  · unfold narthexref04_Cycle
    rcases refcheck_eq (n := m) (l := l) hN with ⟨_, h⟩ | ⟨hn, _⟩
    · rw [h, Option.bind_some, if_neg (by simp), reftold_eq hN (by omega) (by have := hg.len; omega), Option.bind_some, hrf, Option.bind_some]
      simp only
      rw [if_pos (by simp)]
    · exact absurd hg hn
theorem cycle_bad {N : Nat} {n : Int} {l : List TArc} (hN : 1000 < N) (hg : ¬ Good n l) : dag_Cycle N n l = some ([], false) ∧ narthexref04_Cycle N n l = some ([], false) := by
  constructor
  · unfold dag_Cycle
    rcases check_eq (n := n) (l := l) hN with ⟨h, _⟩ | ⟨_, h⟩
    · exact absurd h hg
    · rw [h, Option.bind_some, if_pos (by simp)]
  · unfold narthexref04_Cycle
    rcases refcheck_eq (n := n) (l := l) hN with ⟨h, _⟩ | ⟨_, h⟩
    · exact absurd h hg
    · rw [h, Option.bind_some, if_pos (by simp)]
theorem law_DagCycles (a0 : Int) (o0 : (Lit.int .i64 a0).wf = true) (a1 : List TArc) (o1 : (a1.length ≤ maxLen ∧ ∀ y ∈ a1, kArc y)) : ∃ N, narthexlaw04_DagCycles N a0 a1 = some true := by
  obtain ⟨N, hN, hA⟩ := awake_ok
  refine ⟨N, ?_⟩
  unfold narthexlaw04_DagCycles
  rw [hA, Option.bind_some, if_pos (by simp), few_eq, Option.bind_some]
  by_cases hf : (decide (a1.length ≤ 60) && (decide (a0 ≤ 24) || decide (a0 > 64))) = true
  · have hl : a1.length ≤ 60 := by simp at hf; exact hf.1
    rw [hf, if_neg (by simp), own_eq (by omega), Option.bind_some]
    have hs : ∃ c b, c.length ≤ 64 ∧ dag_Cycle N a0 a1 = some (c, b) ∧ narthexref04_Cycle N a0 a1 = some (c, b) := by
      by_cases hg : Good a0 a1
      · obtain ⟨m, rfl, hm⟩ := hg.nat
        by_cases hF : (told m a1).length = m
        · obtain ⟨h1, h2⟩ := cycle_none hN hg hF
          exact ⟨[], false, by simp, h1, h2⟩
        · obtain ⟨c, h1, h2, _, h3⟩ := cycle_some hN hg hF
          exact ⟨c, true, h3, h1, h2⟩
      · obtain ⟨h1, h2⟩ := cycle_bad hN hg
        exact ⟨[], false, by simp, h1, h2⟩
    obtain ⟨c, b, h0, h1, h2⟩ := hs
    rw [h1, Option.bind_some, h2, Option.bind_some]
    simp only
    rw [sameI_eq hN (by omega), Option.bind_some]
    simp
  · have hf' : (decide (a1.length ≤ 60) && (decide (a0 ≤ 24) || decide (a0 > 64))) = false := by simpa using hf
    rw [hf', if_pos (by simp), Option.bind_some]

theorem dedG_mem {p : Int} : ∀ {l : List Int}, (p :: l).Pairwise (· ≤ ·) → (dedG p l).Pairwise (· < ·) ∧ (∀ x, x ∈ dedG p l ↔ x ∈ l ∧ x ≠ p) ∧ ∀ x ∈ dedG p l, p < x
  | [], _ => by simp [dedG]
  | y :: ys, h => by
    rw [List.pairwise_cons] at h
    have h2 := h.2
    rw [List.pairwise_cons] at h2
    obtain ⟨i1, i2, i3⟩ := dedG_mem (p := y) (l := ys) h.2
    have hpy := h.1 y (by simp)
    unfold dedG
    split
    · rename_i he
      subst he
      refine ⟨i1, fun x => ?_, i3⟩
      rw [i2]
      constructor
      · rintro ⟨a, b⟩; exact ⟨List.mem_cons_of_mem _ a, b⟩
      · rintro ⟨a, b⟩
        rcases List.mem_cons.1 a with a | a
        · exact absurd a b
        · exact ⟨a, b⟩
    · rename_i he
      refine ⟨List.pairwise_cons.2 ⟨i3, i1⟩, fun x => ?_, fun x hx => ?_⟩
      · rw [List.mem_cons, List.mem_cons, i2]
        constructor
        · rintro (rfl | ⟨a, b⟩)
          · exact ⟨.inl rfl, he⟩
          · refine ⟨.inr a, fun e => ?_⟩
            have := h2.1 x a
            omega
        · rintro ⟨a | a, b⟩
          · exact .inl a
          · by_cases hxy : x = y
            · exact .inl hxy
            · exact .inr ⟨a, hxy⟩
      · rcases List.mem_cons.1 hx with rfl | hx
        · omega
        · have := i3 x hx
          omega
def S (l : List Int) : List Int := dedup (isort l)
theorem dedup_mem {l : List Int} (h : l.Pairwise (· ≤ ·)) : (dedup l).Pairwise (· < ·) ∧ ∀ x, x ∈ dedup l ↔ x ∈ l := by
  cases l with
  | nil => simp [dedup]
  | cons p l =>
    obtain ⟨i1, i2, i3⟩ := dedG_mem h
    refine ⟨List.pairwise_cons.2 ⟨i3, i1⟩, fun x => ?_⟩
    rw [dedup, List.mem_cons, List.mem_cons, i2]
    constructor
    · rintro (a | ⟨a, _⟩)
      · exact .inl a
      · exact .inr a
    · rintro (a | a)
      · exact .inl a
      · by_cases hx : x = p
        · exact .inl hx
        · exact .inr ⟨a, hx⟩
theorem S_strict (l : List Int) : (S l).Pairwise (· < ·) := (dedup_mem (isort_sorted l)).1
theorem S_mem {l : List Int} {x : Int} : x ∈ S l ↔ x ∈ l := ((dedup_mem (isort_sorted l)).2 x).trans (isort_perm l).mem_iff
theorem S_len (l : List Int) : (S l).length ≤ l.length := by
  have := dedup_le (isort l)
  rwa [length_isort] at this
theorem strict_ext : ∀ {s t : List Int}, s.Pairwise (· < ·) → t.Pairwise (· < ·) → (∀ x, x ∈ s ↔ x ∈ t) → s = t := by
  intro s t hs ht h
  refine List.Perm.eq_of_pairwise (le := (· < ·)) (fun a b _ _ h1 h2 => by omega) hs ht ?_
  have hn : ∀ {u : List Int}, u.Pairwise (· < ·) → u.Nodup := fun hu => hu.imp (fun h => by omega)
  exact (List.perm_ext_iff_of_nodup (hn hs) (hn ht)).2 h
theorem S_eq {l s : List Int} (hs : s.Pairwise (· < ·)) (h : ∀ x, x ∈ s ↔ x ∈ l) : S l = s := strict_ext (S_strict l) hs fun x => S_mem.trans (h x).symm
theorem S_self {s : List Int} (hs : s.Pairwise (· < ·)) : S s = s := S_eq hs fun _ => Iff.rfl
theorem of_eq {N : Nat} {l : List Int} (h : l.length ≤ 1000) : set_Of N l = some (S l) := by
  have h1 : slices_Clone_int N l = some l := by simp [slices_Clone_int, app_ok (xs := ([] : List Int)) (ys := l) (by simp; omega)]
  have h2 : sort? l = some (isort l) := by rw [sort?, if_pos (by omega)]
  have h3 : ded? (isort l) = some (S l) := by rw [ded?, if_pos (by rw [length_isort]; omega)]; rfl
  simp [set_Of, h1, h2, h3]
theorem inc_pairwise : ∀ {l : List Int}, (∀ (k : Nat) (x y : Int), l[k]? = some x → l[k + 1]? = some y → x < y) → l.Pairwise (· < ·)
  | [], _ => .nil
  | [x], _ => by simp
  | x :: y :: l, h => by
    have ih := inc_pairwise (l := y :: l) fun k a b h1 h2 => h (k + 1) a b (by simpa using h1) (by simpa using h2)
    refine List.pairwise_cons.2 ⟨fun z hz => ?_, ih⟩
    have hxy := h 0 x y rfl rfl
    rcases List.mem_cons.1 hz with rfl | hz
    · exact hxy
    · have := (List.pairwise_cons.1 ih).1 z hz
      omega
theorem pairwise_inc {l : List Int} (h : l.Pairwise (· < ·)) {k k' : Nat} {x y : Int} (hk : k < k') (hx : l[k]? = some x) (hy : l[k']? = some y) : x < y := by
  obtain ⟨h1, rfl⟩ := List.getElem?_eq_some_iff.1 hx
  obtain ⟨h2, rfl⟩ := List.getElem?_eq_some_iff.1 hy
  exact List.pairwise_iff_getElem.1 h k k' h1 h2 hk
def below (s : List Int) (x : Int) : Nat := (s.filter fun y => decide (y < x)).length
theorem below_le (s : List Int) (x : Int) : below s x ≤ s.length := List.length_filter_le _ _
theorem below_is {s : List Int} {x : Int} {p : Nat} (hp : p ≤ s.length) (h1 : ∀ (k : Nat) (y : Int), k < p → s[k]? = some y → y < x) (h2 : ∀ (k : Nat) (y : Int), p ≤ k → s[k]? = some y → x ≤ y) : below s x = p := by
  unfold below
  have e : s.filter (fun y => decide (y < x)) = s.take p := by
    conv => lhs; rw [← List.take_append_drop p s]
    rw [List.filter_append]
    have a1 : (s.take p).filter (fun y => decide (y < x)) = s.take p := List.filter_eq_self.2 fun y hy => by
      obtain ⟨k, hk⟩ := List.getElem?_of_mem hy
      have hkl := (List.getElem?_eq_some_iff.1 hk).1
      rw [List.length_take] at hkl
      rw [List.getElem?_take_of_lt (by omega)] at hk
      simpa using h1 k y (by omega) hk
    have a2 : (s.drop p).filter (fun y => decide (y < x)) = [] := List.filter_eq_nil_iff.2 fun y hy => by
      obtain ⟨k, hk⟩ := List.getElem?_of_mem hy
      rw [List.getElem?_drop] at hk
      have := h2 (p + k) y (by omega) hk
      simp
      omega
    rw [a1, a2, List.append_nil]
  rw [e, List.length_take]
  omega
def firsts (x : Int) : List Int → List Int → List Int
  | _, [] => []
  | seen, y :: l => (if y < x ∧ y ∉ seen then [y] else []) ++ firsts x (seen ++ [y]) l
theorem firsts_mem {x : Int} : ∀ {l seen : List Int}, (firsts x seen l).Nodup ∧ (∀ y ∈ firsts x seen l, y ∉ seen) ∧ ∀ y, y ∈ firsts x seen l ↔ y ∈ l ∧ y < x ∧ y ∉ seen
  | [], seen => by simp [firsts]
  | z :: l, seen => by
    obtain ⟨i1, i2, i3⟩ := firsts_mem (x := x) (l := l) (seen := seen ++ [z])
    have key : ∀ y, y ∈ firsts x seen (z :: l) ↔ y ∈ z :: l ∧ y < x ∧ y ∉ seen := by
      intro y
      unfold firsts
      rw [List.mem_append, i3, List.mem_cons]
      simp only [List.mem_append, List.mem_singleton, not_or]
      by_cases hz : z < x ∧ z ∉ seen
      · rw [if_pos hz]
        simp only [List.mem_singleton]
        constructor
        · rintro (rfl | ⟨a, b, c, _⟩)
          · exact ⟨.inl rfl, hz⟩
          · exact ⟨.inr a, b, c⟩
        · rintro ⟨a, b, c⟩
          by_cases hyz : y = z
          · exact .inl hyz
          · exact .inr ⟨a.resolve_left hyz, b, c, hyz⟩
      · rw [if_neg hz]
        simp only [List.not_mem_nil, false_or]
        constructor
        · rintro ⟨a, b, c, _⟩; exact ⟨.inr a, b, c⟩
        · rintro ⟨a, b, c⟩
          have hyz : y ≠ z := fun e => hz (e ▸ ⟨b, c⟩)
          exact ⟨a.resolve_left hyz, b, c, hyz⟩
    refine ⟨?_, fun y hy => ((key y).1 hy).2.2, key⟩
    unfold firsts
    split
    · rw [List.singleton_append, List.nodup_cons]
      exact ⟨fun hz => i2 z hz (by simp), i1⟩
    · simpa using i1
theorem firsts_len {l : List Int} {x : Int} : (firsts x [] l).length = below (S l) x := by
  obtain ⟨i1, _, i3⟩ := firsts_mem (x := x) (l := l) (seen := [])
  have hn : (S l).Nodup := (S_strict l).imp (fun h => by omega)
  refine List.Perm.length_eq ((List.perm_ext_iff_of_nodup i1 (hn.filter _)).2 fun y => ?_)
  rw [i3, List.mem_filter, S_mem]
  simp
theorem refplace_loop {N : Nat} {l : List Int} {x : Int} (hN : 1000 < N) (hb : l.length ≤ 1000) : ∀ (n i c : Nat), l.length < n + i → i ≤ l.length → c ≤ i → narthexref01_Place_L1 N l x n c i = some ((c + (firsts x (l.take i) (l.drop i)).length : Nat) : Int)
  | 0, i, c, h, hi, _ => by omega
  | n + 1, i, c, h, hi, hc => by
    rw [narthexref01_Place_L1]
    by_cases hlt : i < l.length
    · obtain ⟨y, hy⟩ := some_at hlt
      rw [if_pos (by simpa using hlt), at_nat, hy, Option.bind_some, drop_at hy, firsts, ← take_at hy]
      by_cases hyx : y < x
      · have hd : decide (y < x) = true := by simpa using hyx
        have hsub : sub? l 0 (i : Int) = some (l.take i) := by rw [sub?, if_pos (by omega)]; simp
        simp only [hd, if_true, hsub, Option.bind_some, Bool.true_and]
        rw [refhas_eq hN (by rw [List.length_take]; omega), Option.bind_some, w64_nat (i := i) (by omega)]
        by_cases hm : y ∈ l.take i
        · rw [if_neg (by simpa using hm), if_neg (by simp [hm])]
          rw [refplace_loop hN hb n (i + 1) c (by omega) (by omega) (by omega)]
          simp
        · rw [if_pos (by simpa using hm), if_pos ⟨hyx, hm⟩, w64_nat (i := c) (by omega)]
          rw [refplace_loop hN hb n (i + 1) (c + 1) (by omega) (by omega) (by omega)]
          congr 1
          simp
          omega
      · have hd : decide (y < x) = false := by simpa using hyx
        simp only [hd, Bool.false_eq_true, if_false, Option.bind_some, Bool.false_and]
        rw [w64_nat (by omega), if_neg (by omega)]
        rw [refplace_loop hN hb n (i + 1) c (by omega) (by omega) (by omega)]
        simp
    · rw [if_neg (by simpa using hlt), List.drop_eq_nil_of_le (by omega)]
      simp [firsts]
theorem refplace_eq {N : Nat} {l : List Int} {x : Int} (hN : 1000 < N) (hb : l.length ≤ 1000) : narthexref01_Place N l x = some ((below (S l) x : Nat) : Int) := by
  unfold narthexref01_Place
  have h := refplace_loop (x := x) hN hb N 0 0 (by omega) (by omega) (by omega)
  rw [show ((0 : Nat) : Int) = 0 from rfl] at h
  rw [h, Option.bind_some, ← firsts_len]
  simp
theorem split_at {s : List Int} {x : Int} (hs : s.Pairwise (· < ·)) : (∀ y ∈ s.take (below s x), y < x) ∧ ∀ y ∈ s.drop (below s x), x ≤ y := by
  have key : s.take (below s x) = s.filter (fun y => decide (y < x)) ∧ s.drop (below s x) = s.filter (fun y => !decide (y < x)) := by
    unfold below
    induction s with
    | nil => simp
    | cons z s ih =>
      rw [List.pairwise_cons] at hs
      by_cases hz : z < x
      · have := ih hs.2
        simp [hz, this.1, this.2]
      · have e : s.filter (fun y => decide (y < x)) = [] := List.filter_eq_nil_iff.2 fun y hy => by
          have := hs.1 y hy
          simp
          omega
        have e2 : s.filter (fun y => !decide (y < x)) = s := List.filter_eq_self.2 fun y hy => by
          have := hs.1 y hy
          simp
          omega
        simp [hz, e, e2]
  constructor
  · intro y hy
    rw [key.1] at hy
    simpa using (List.mem_filter.1 hy).2
  · intro y hy
    rw [key.2] at hy
    have := (List.mem_filter.1 hy).2
    simpa using this
theorem insert_S {l : List Int} {x : Int} (hx : x ∉ l) : (S l).take (below (S l) x) ++ [x] ++ (S l).drop (below (S l) x) = S (l ++ [x]) := by
  obtain ⟨h1, h2⟩ := split_at (x := x) (S_strict l)
  have hs := S_strict l
  have hmem : ∀ y, y ∈ S l ↔ y ∈ (S l).take (below (S l) x) ∨ y ∈ (S l).drop (below (S l) x) := fun y => by
    rw [← List.mem_append, List.take_append_drop]
  symm
  refine S_eq ?_ fun y => ?_
  · rw [← List.take_append_drop (below (S l) x) (S l), List.pairwise_append] at hs
    rw [List.append_assoc, List.pairwise_append]
    refine ⟨hs.1, List.pairwise_cons.2 ⟨fun y hy => ?_, hs.2.1⟩, fun a ha b hb => ?_⟩
    · have h3 := h2 y hy
      have h4 : y ∈ l := S_mem.1 ((hmem y).2 (.inr hy))
      have : y ≠ x := fun e => hx (e ▸ h4)
      omega
    · rcases List.mem_cons.1 hb with rfl | hb
      · exact h1 a ha
      · exact hs.2.2 a ha b hb
  · simp only [List.mem_append, List.mem_singleton]
    have := hmem y
    rw [S_mem] at this
    rw [this]
    constructor
    · rintro ((a | a) | a)
      · exact .inl (.inl a)
      · exact .inr a
      · exact .inl (.inr a)
    · rintro ((a | a) | a)
      · exact .inl (.inl a)
      · exact .inr a
      · exact .inl (.inr a)
theorem S_old {l : List Int} {x : Int} (hx : x ∈ l) : S l = S (l ++ [x]) := by
  refine (S_eq (S_strict l) fun y => ?_).symm
  rw [S_mem, List.mem_append, List.mem_singleton]
  constructor
  · exact .inl
  · rintro (a | rfl)
    · exact a
    · exact hx
theorem refof_loop {N : Nat} {l : List Int} (hN : 1000 < N) (hb : l.length ≤ 1000) : ∀ (n i : Nat), l.length < n + i → i ≤ l.length → narthexref01_Of_L1 N l n (S (l.take i)) i = some (S l)
  | 0, i, h, hi => by omega
  | n + 1, i, h, hi => by
    rw [narthexref01_Of_L1]
    by_cases hlt : i < l.length
    · obtain ⟨y, hy⟩ := some_at hlt
      have hl := S_len (l.take i)
      rw [List.length_take] at hl
      rw [if_pos (by simpa using hlt), at_nat, hy, Option.bind_some, refhas_eq hN (by omega), Option.bind_some]
      by_cases hm : y ∈ l.take i
      · rw [if_pos (by simpa [S_mem] using hm), w64_nat (by omega), S_old hm, ← take_at hy]
        exact refof_loop hN hb n (i + 1) (by omega) (by omega)
      · rw [if_neg (by simpa [S_mem] using hm), Option.bind_some, refplace_eq hN (by omega), S_self (S_strict _), Option.bind_some]
        have hp := below_le (S (l.take i)) y
        have e1 : sub? (S (l.take i)) 0 ((below (S (l.take i)) y : Nat) : Int) = some ((S (l.take i)).take (below (S (l.take i)) y)) := by
          rw [sub?, if_pos (by omega)]; simp
        have e2 : sub? (S (l.take i)) ((below (S (l.take i)) y : Nat) : Int) ((S (l.take i)).length : Int) = some ((S (l.take i)).drop (below (S (l.take i)) y)) := by
          rw [sub?, if_pos (by omega)]; simp
        have e3 : ((S (l.take i)).drop 0).take ((S (l.take i)).take (below (S (l.take i)) y)).length = (S (l.take i)).take (below (S (l.take i)) y) := by
          rw [List.drop_zero, List.length_take, Nat.min_eq_left hp]
        have e4 : ((S (l.take i)).drop (Int.toNat ((below (S (l.take i)) y : Nat) : Int))).take ((S (l.take i)).drop (below (S (l.take i)) y)).length = (S (l.take i)).drop (below (S (l.take i)) y) := by
          rw [Int.toNat_natCast, List.take_length]
        rw [e1, Option.bind_some, e3, app_ok (by simp; omega), Option.bind_some, Option.bind_some, List.nil_append, app_ok (by simp; omega), Option.bind_some, e2, Option.bind_some, e4, app_ok (by simp; omega), Option.bind_some, w64_nat (by omega), insert_S hm, ← take_at hy]
        exact refof_loop hN hb n (i + 1) (by omega) (by omega)
    · rw [if_neg (by simpa using hlt), List.take_of_length_le (by omega)]
theorem refof_eq {N : Nat} {l : List Int} (hN : 1000 < N) (hb : l.length ≤ 1000) : narthexref01_Of N l = some (S l) := by
  unfold narthexref01_Of
  have h := refof_loop hN hb N 0 (by omega) (by omega)
  rw [show ((0 : Nat) : Int) = 0 from rfl, List.take_zero] at h
  rw [show ([] : List Int) = S [] from rfl, h, Option.bind_some]
/-! The laws without the document's answer. -/
def dd (l : List TArc) : List TArc := l.foldl (fun out y => if y ∈ out then out else out ++ [y]) []
theorem dd_props (n : Nat) : ∀ (l out : List TArc), out.Nodup → (l.foldl (fun out y => if y ∈ out then out else out ++ [y]) out).Nodup ∧ (∀ y, y ∈ l.foldl (fun out y => if y ∈ out then out else out ++ [y]) out ↔ y ∈ out ∨ y ∈ l) ∧ (l.foldl (fun out y => if y ∈ out then out else out ++ [y]) out).length ≤ out.length + l.length
  | [], out, h => by simp [h]
  | x :: l, out, h => by
    rw [List.foldl_cons]
    by_cases hx : x ∈ out
    · rw [if_pos hx]
      obtain ⟨h1, h2, h3⟩ := dd_props n l out h
      refine ⟨h1, fun y => ?_, by simp; omega⟩
      rw [h2, List.mem_cons]
      constructor
      · rintro (h | h)
        · exact .inl h
        · exact .inr (.inr h)
      · rintro (h | rfl | h)
        · exact .inl h
        · exact .inl hx
        · exact .inr h
    · rw [if_neg hx]
      obtain ⟨h1, h2, h3⟩ := dd_props n l (out ++ [x]) (List.nodup_append.2 ⟨h, by simp, fun a ha b hb => by
        rw [List.mem_singleton] at hb
        subst hb
        exact fun e => hx (e ▸ ha)⟩)
      refine ⟨h1, fun y => ?_, by simp at h3 ⊢; omega⟩
      rw [h2, List.mem_append, List.mem_singleton, List.mem_cons]
      constructor
      · rintro ((h | h) | h)
        · exact .inl h
        · exact .inr (.inl h)
        · exact .inr (.inr h)
      · rintro (h | h | h)
        · exact .inl (.inl h)
        · exact .inl (.inr h)
        · exact .inr h
theorem ddloop_eq {N : Nat} {y : List TArc} (hN : 1000 < N) (hl : y.length ≤ 400) : narthexlaw04_DagSink_L1 N y N [] 0 = some (dd y) := by
  have h := foldR0 (L := narthexlaw04_DagSink_L1 N y) (xs := y) (f := fun out x => if x ∈ out then out else out ++ [x]) (fin := some) (I := fun i out => out.length ≤ i) (fun n i out x ho hx => by
    have hil := (List.getElem?_eq_some_iff.1 hx).1
    refine ⟨?_, ?_⟩
    · rw [narthexlaw04_DagSink_L1, if_pos (by simpa using hil), sameA_eq hN (by omega), Option.bind_some, at_nat, hx, w64_nat (by omega)]
      by_cases h0 : out = []
      · subst h0
        simp [app_ok (xs := ([] : List TArc)) (ys := [x]) (by simp)]
      · have e : (!decide (out = [])) = true := by simp [h0]
        rw [e, if_pos rfl, Option.bind_some, if_pos rfl, hasA_eq hN (by omega), Option.bind_some, Bool.true_and]
        by_cases hm : x ∈ out
        · rw [if_pos (by simpa using hm), if_pos hm]
        · rw [if_neg (by simpa using hm), if_neg hm, Option.bind_some, app_ok (by simp; omega), Option.bind_some]
    · split
      · omega
      · simp
        omega) (fun n out ho => by rw [narthexlaw04_DagSink_L1, if_neg (by simp)]) (N := N) (s := []) (by omega) (by simp)
  exact h.1
theorem Good.order {N m : Nat} {l : List TArc} (hN : 1000 < N) (hg : Good m l) {f : Int → Nat} (hf : Rank l f) : ∃ o, dag_Order N m l = some (o, true) := by
  have := (full_of_rank hg hf).len
  exact ⟨_, by rw [order_good hN hg, if_neg (by omega)]⟩
theorem sinks_mem {m : Nat} {l : List TArc} {v : Nat} (hv : v < m) (h : ∀ x ∈ l, x.From ≠ (v : Int)) : (v : Int) ∈ sinks m l := by
  unfold sinks
  rw [← foldl_filter, List.mem_map]
  refine ⟨v, List.mem_filter.2 ⟨List.mem_range.2 hv, ?_⟩, rfl⟩
  simp only [sink, Bool.not_eq_true', List.any_eq_false, beq_iff_eq]
  exact h
theorem law_DagSink (a0 : Int) (o0 : (Lit.int .i64 a0).wf = true) (a1 : List TArc) (o1 : (a1.length ≤ maxLen ∧ ∀ y ∈ a1, kArc y)) (a2 : Int) (o2 : (Lit.int .i64 a2).wf = true) (a3 : Int) (o3 : (Lit.int .i64 a3).wf = true) : ∃ N, narthexlaw04_DagSink N a0 a1 a2 a3 = some true := by
  obtain ⟨N, hN, hA⟩ := awake_ok
  refine ⟨N, ?_⟩
  unfold narthexlaw04_DagSink
  rw [hA, Option.bind_some, if_pos (by simp), few_eq, Option.bind_some]
  by_cases hf : (decide (a1.length ≤ 60) && (decide (a0 ≤ 24) || decide (a0 > 64))) = true
  · have hl : a1.length ≤ 60 := by simp at hf; exact hf.1
    rw [hf, if_pos (by simp), own_eq (by omega), Option.bind_some, if_pos (by simp)]
    rcases check_eq (n := a0) (l := a1) hN with ⟨hg, hc⟩ | ⟨hg, hc⟩
    · rw [hc, Option.bind_some]
      by_cases hb : a2 < 0 ∨ a2 ≥ a0 ∨ a3 < 0 ∨ a3 ≥ a0 ∨ a3 = a2
      · rw [if_pos (by simp; omega), Option.bind_some]
      · rw [if_neg (by simp; omega), Option.bind_some]
        obtain ⟨m, rfl, hm⟩ := hg.nat
        rw [order_good hN hg, Option.bind_some]
        have hTl := (told_nds m a1).len
        by_cases hF : (told m a1).length < m
        · rw [if_pos hF, if_pos (by simp)]
        · rw [if_neg hF, if_neg (by simp), Option.bind_some, flip_eq hN (by omega), Option.bind_some, ddloop_eq hN (by simp; omega), Option.bind_some]
          have hr := rank_of_full hg (full_iff.2 (by omega))
          obtain ⟨d1, d2, d3⟩ := dd_props 0 (a1.map (flip1 a2)) [] (by simp)
          change (dd (a1.map (flip1 a2))).Nodup at d1
          change ∀ y, y ∈ dd (a1.map (flip1 a2)) ↔ _ at d2
          change (dd (a1.map (flip1 a2))).length ≤ _ at d3
          generalize dd (a1.map (flip1 a2)) = x at d1 d2 d3
          simp only [List.length_nil, List.length_map] at d3
          have harc : ∀ y ∈ x, ∃ z ∈ a1, y = flip1 a2 z := fun y hy => by
            have := (d2 y).1 hy
            simp only [List.not_mem_nil, false_or, List.mem_map] at this
            obtain ⟨z, hz, e⟩ := this
            exact ⟨z, hz, e.symm⟩
          have hok : ∀ y ∈ x, 0 ≤ y.From ∧ y.From < (m : Int) ∧ 0 ≤ y.To ∧ y.To < (m : Int) ∧ y.From ≠ y.To ∧ y.From ≠ a2 := fun y hy => by
            obtain ⟨z, hz, rfl⟩ := harc y hy
            have hb := hg.arc z hz
            unfold flip1
            split
            · rename_i hv
              simp only
              omega
            · rename_i hv
              omega
          have hgx : Good m x := ⟨by omega, hg.hi, by omega, fun y hy => by have := hok y hy; omega, d1⟩
          have hrank : ∀ y ∈ x, (fun a => if a = a2 then m + 1 else pos (told m a1) a) y.From < (fun a => if a = a2 then m + 1 else pos (told m a1) a) y.To := fun y hy => by
            have h1 := hok y hy
            have h2 := pos_le (T := told m a1) y.From
            simp only
            rw [if_neg h1.2.2.2.2.2]
            split
            · omega
            · rename_i hv
              obtain ⟨z, hz, rfl⟩ := harc y hy
              unfold flip1 at *
              split
              · rename_i hz2
                rw [if_pos hz2] at hv
                exact absurd rfl hv
              · exact hr z hz
          obtain ⟨o, ho⟩ := hgx.order hN (f := fun a => if a = a2 then m + 1 else pos (told m a1) a) hrank
          have hv : a2 ∈ sinks m x := by
            obtain ⟨k, hk⟩ : ∃ k : Nat, a2 = (k : Int) := ⟨a2.toNat, by omega⟩
            rw [hk]
            exact sinks_mem (by omega) fun y hy => by rw [← hk]; exact (hok y hy).2.2.2.2.2
          have hsl : (sinks m x).length ≤ 1000 := by
            rw [sinks, ← foldl_filter]
            have := List.length_filter_le (sink x) (List.range m)
            simp at this ⊢
            omega
          rw [own_eq (by omega), Option.bind_some, ho, Option.bind_some]
          simp only [Bool.not_true, Bool.not_false, if_true, Option.bind_some, sinks_eq hN hgx, has_eq hN hsl, hv, decide_true, hasA_eq hN (show x.length ≤ 1000 by omega), Bool.false_or]
          by_cases hx : (⟨a3, a2⟩ : TArc) ∈ x
          · rw [if_pos (by simpa using hx)]
            rfl
          · rw [if_neg (by simpa using hx), app_ok (by simp; omega), Option.bind_some]
            have hgx2 : Good m (x ++ [⟨a3, a2⟩]) := by
              refine ⟨by omega, hg.hi, by simp; omega, fun y hy => ?_, List.nodup_append.2 ⟨d1, by simp, fun y hy z hz => ?_⟩⟩
              · rcases List.mem_append.1 hy with hy | hy
                · have := hok y hy
                  omega
                · rw [List.mem_singleton] at hy
                  subst hy
                  simp only
                  omega
              · rw [List.mem_singleton] at hz
                subst hz
                exact fun e => hx (e ▸ hy)
            obtain ⟨o2, ho2⟩ := hgx2.order hN (f := fun a => if a = a2 then m + 1 else pos (told m a1) a) (fun y hy => by
              rcases List.mem_append.1 hy with hy | hy
              · exact hrank y hy
              · rw [List.mem_singleton] at hy
                subst hy
                have := pos_le (T := told m a1) a3
                simp only
                rw [if_neg (by omega), if_pos trivial]
                omega)
            rw [ho2, Option.bind_some]
    · rw [hc, Option.bind_some, if_pos (by simp), Option.bind_some]
  · have hf' : (decide (a1.length ≤ 60) && (decide (a0 ≤ 24) || decide (a0 > 64))) = false := by simpa using hf
    rw [hf', if_neg (by simp), Option.bind_some, if_neg (by simp), Option.bind_some, if_pos (by simp), Option.bind_some]
theorem place_eq {N : Nat} {o : List Int} {a : Int} (hN : 1000 < N) (hl : o.length ≤ 1000) (ha : a ∈ o) : narthexlaw04_DagEither_1 N a o = some (pos o a : Int) := by
  unfold narthexlaw04_DagEither_1
  have h := placeR (L := narthexlaw04_DagEither_1_L1 N a o) (xs := o) (q := fun y => y == a) (fun n i y hy => by
    have hl := (List.getElem?_eq_some_iff.1 hy).1
    rw [narthexlaw04_DagEither_1_L1, if_pos (by simpa using hl), at_nat, hy, Option.bind_some, w64_nat (by omega)]) (fun n => by rw [narthexlaw04_DagEither_1_L1, if_neg (by simp)]) N 0 (by omega) (by omega) (by simp)
  rw [show ((0 : Nat) : Int) = 0 from rfl] at h
  rw [h, Option.bind_some]
  obtain ⟨s, t, rfl, hs⟩ := first_split ha
  have e1 : (s ++ a :: t).findIdx? (fun y => y == a) = some s.length := by
    rw [List.findIdx?_eq_some_iff_getElem]
    refine ⟨by simp, by simp, fun j hj => ?_⟩
    rw [List.getElem_append_left hj]
    simp only [beq_iff_eq]
    exact fun e => hs (e ▸ List.getElem_mem hj)
  have e2 : pos (s ++ a :: t) a = s.length := by
    unfold pos
    rw [List.idxOf_append, if_neg hs]
    simp
  rw [e1, e2]
theorem anyscan_eq {N : Nat} {l : List TArc} {a b : Int} (hl : l.length ≤ 400) : ∀ (n i : Nat) (c : Bool), l.length < n + i → i ≤ l.length → narthexlaw04_DagEither_L3 N l a b n c i = some (c || (l.drop i).any fun x => decide (x = ⟨a, b⟩))
  | 0, i, c, h, hi => by omega
  | n + 1, i, c, h, hi => by
    rw [narthexlaw04_DagEither_L3]
    by_cases hlt : i < l.length
    · obtain ⟨x, hx⟩ := some_at hlt
      rw [if_pos (by simpa using hlt), at_nat, hx, w64_nat (by omega), drop_at hx, List.any_cons]
      cases c with
      | true =>
        rw [if_neg (by simp), Option.bind_some, Bool.true_or, anyscan_eq hl n (i + 1) true (by omega) (by omega)]
        simp
      | false => rw [if_pos (by simp), Option.bind_some, Bool.false_or, anyscan_eq hl n (i + 1) _ (by omega) (by omega), Bool.false_or]
    · rw [if_neg (by simpa using hlt), List.drop_eq_nil_of_le (by omega)]
      simp
theorem S_nodup {l : List Int} (h : l.Nodup) : (S l).length = l.length := by
  have hn : (S l).Nodup := (S_strict l).imp (fun h => by omega)
  exact List.Perm.length_eq ((List.perm_ext_iff_of_nodup hn h).2 fun x => S_mem)
theorem circle_loop {N : Nat} {l : List TArc} {c : List Int} (hN : 1000 < N) (hl : l.length ≤ 400) (hc : Circle l c) (hcl : c.length ≤ 64) (b : Bool) : ∀ (n i : Nat), c.length < n + i → i ≤ c.length → narthexlaw04_DagEither_L2 N l (c, b) n i = some (.inr ())
  | 0, i, h, hi => by omega
  | n + 1, i, h, hi => by
    rw [narthexlaw04_DagEither_L2]
    simp only
    by_cases hlt : i < c.length
    · obtain ⟨x, hx⟩ := some_at hlt
      have hr : rem? ((i + 1 : Nat) : Int) (c.length : Int) = some (((i + 1) % c.length : Nat) : Int) := by
        rw [rem?, if_neg (by omega)]
        congr 1
      have hlt2 : (i + 1) % c.length < c.length := Nat.mod_lt _ (by omega)
      obtain ⟨y, hy⟩ := some_at hlt2
      have ha := hc.arc i x y hx hy
      have hs := anyscan_eq (N := N) (a := x) (b := y) hl N 0 false (by omega) (by omega)
      rw [show ((0 : Nat) : Int) = 0 from rfl, List.drop_zero, Bool.false_or] at hs
      have hany : (l.any fun z => decide (z = ⟨x, y⟩)) = true := List.any_eq_true.2 ⟨_, ha, by simp⟩
      rw [hany] at hs
      rw [if_pos (by simpa using hlt), at_nat, hx, Option.bind_some, w64_nat (by omega), hr, Option.bind_some, at_nat, hy, Option.bind_some, hs, Option.bind_some]
      have hrec := circle_loop hN hl hc hcl b n (i + 1) (by omega) (by omega)
      by_cases h0 : 0 < i
      · have e0 : decide ((i : Int) > 0) = true := by simpa using h0
        obtain ⟨z, hz⟩ := some_at (xs := c) (i := 0) (by omega)
        have hz0 : at? c 0 = some z := by
          rw [show (0 : Int) = ((0 : Nat) : Int) from rfl, at_nat, hz]
        have hlast : z < x := by
          rcases hc.least x (List.mem_of_getElem? hx) with h | ⟨y', h, h'⟩
          · rw [List.head?_eq_getElem?, hz] at h
            cases h
            have := (List.getElem?_inj (i := 0) (j := i) (by omega) hc.nodup).1 (by rw [hz, hx])
            omega
          · rw [List.head?_eq_getElem?, hz] at h
            cases h
            exact h'
        have e1 : decide (x ≤ z) = false := by simp; omega
        simp only [e0, Bool.not_true, Bool.not_false, Bool.and_self, if_true, Option.bind_some, hz0, e1, Bool.false_or, Bool.and_false, Bool.false_eq_true, if_false]
        exact hrec
      · have e0 : decide ((i : Int) > 0) = false := by simp; omega
        simp only [e0, Bool.not_true, Bool.not_false, Bool.and_false, Bool.false_eq_true, if_false, Option.bind_some, Bool.false_and, Bool.or_self]
        exact hrec
    · rw [if_neg (by simpa using hlt)]
theorem law_DagEither (a0 : Int) (o0 : (Lit.int .i64 a0).wf = true) (a1 : List TArc) (o1 : (a1.length ≤ maxLen ∧ ∀ y ∈ a1, kArc y)) : ∃ N, narthexlaw04_DagEither N a0 a1 = some true := by
  obtain ⟨N, hN, hA⟩ := awake_ok
  refine ⟨N, ?_⟩
  unfold narthexlaw04_DagEither
  rw [hA, Option.bind_some, if_pos (by simp), few_eq, Option.bind_some]
  by_cases hf : (decide (a1.length ≤ 60) && (decide (a0 ≤ 24) || decide (a0 > 64))) = true
  · have hl : a1.length ≤ 60 := by simp at hf; exact hf.1
    rw [hf, if_pos (by simp), own_eq (by omega), Option.bind_some, if_pos (by simp)]
    rcases check_eq (n := a0) (l := a1) hN with ⟨hg, hc⟩ | ⟨hg, hc⟩
    · rw [hc, Option.bind_some, if_neg (by simp), Option.bind_some]
      obtain ⟨m, rfl, hm⟩ := hg.nat
      have hTl := (told_nds m a1).len
      rw [order_good hN hg, Option.bind_some, Option.bind_some]
      by_cases hF : (told m a1).length = m
      · obtain ⟨h1, _⟩ := cycle_none hN hg hF
        have hF' := full_iff.2 hF
        have hr := rank_of_full hg hF'
        rw [if_neg (by omega), h1, Option.bind_some]
        simp only
        rw [if_pos (by simp), refround_eq hN hg, Option.bind_some, if_neg (by simp [hF])]
        simp only [if_true]
        rw [findR0 (L := narthexlaw04_DagEither_L1 N a1 (told m a1, true)) (len := a1.length) (p := fun _ => false) (r := false) (fun n i hi => by
          obtain ⟨x, hx⟩ := some_at hi
          have hb := hg.arc x (List.mem_of_getElem? hx)
          have := hr x (List.mem_of_getElem? hx)
          rw [narthexlaw04_DagEither_L1, if_pos (by simpa using hi), at_nat, hx, Option.bind_some]
          simp only
          rw [place_eq hN (by omega) (hF' x.From (by omega) (by omega)), Option.bind_some, Option.bind_some, place_eq hN (by omega) (hF' x.To (by omega) (by omega)), Option.bind_some, if_neg (by simp; omega), w64_nat (by omega)]
          simp) (fun n => by rw [narthexlaw04_DagEither_L1, if_neg (by simp)]) (by omega), Option.bind_some]
        have e : ((List.range a1.length).any fun _ => false) = false := by
          rw [List.any_eq_false]; simp
        have hnd := S_nodup (told_nds m a1).nodup
        rw [e, if_neg (by simp)]
        simp only
        have e2 : (((told m a1).length : Int) == (m : Int)) = true := by simp [hF]
        simp only [e2, if_true, of_eq (show (told m a1).length ≤ 1000 by omega), refof_eq hN (show (told m a1).length ≤ 1000 by omega), Option.bind_some, sameI_eq hN (show (S (told m a1)).length ≤ 1000 by omega), decide_true, Bool.and_self, hnd]
        rfl
      · obtain ⟨c, h1, _, h2, h3⟩ := cycle_some hN hg hF
        rw [if_pos (by omega), h1, Option.bind_some]
        simp only
        rw [if_pos (by simp), refround_eq hN hg, Option.bind_some, if_neg (by simp [hF]), if_neg (by simp)]
        have hlp := circle_loop hN (by omega) h2 h3 true N 0 (by omega) (by omega)
        rw [show ((0 : Nat) : Int) = 0 from rfl] at hlp
        rw [hlp, Option.bind_some]
        simp only
        have hne : 1 < c.length := by
          rcases Nat.lt_or_ge 1 c.length with h | h
          · exact h
          · obtain ⟨x, c', rfl⟩ := List.exists_cons_of_ne_nil h2.ne
            have hc' : c' = [] := by
              cases c' with
              | nil => rfl
              | cons _ _ => simp at h
            subst hc'
            have := h2.arc 0 x x rfl (by simp)
            have := hg.arc _ this
            simp at this
        have e0 : decide ((c.length : Int) > 1) = true := by simp only [decide_eq_true_eq]; omega
        rw [e0, if_pos rfl, of_eq (by omega), Option.bind_some, S_nodup h2.nodup]
        simp
    · rw [hc, Option.bind_some, if_pos (by simp), Option.bind_some]
  · have hf' : (decide (a1.length ≤ 60) && (decide (a0 ≤ 24) || decide (a0 > 64))) = false := by simpa using hf
    rw [hf', if_neg (by simp), Option.bind_some, if_neg (by simp), Option.bind_some, if_pos (by simp), Option.bind_some]

theorem Sat.mono {A A' : TArc → Prop} {d e : Int → Int} {f : Int → Nat} (h : Sat A d) (h' : Sat A' e) (hA : ∀ x, A x → A' x) (hf : ∀ x, A' x → f x.From < f x.To) : ∀ a, d a ≤ e a := by
  have key : ∀ (k : Nat) a, f a = k → d a ≤ e a := by
    intro k
    induction k using Nat.strongRecOn with
    | _ k ih =>
      intro a hk
      obtain ⟨h1, h2, h3⟩ := h a
      obtain ⟨g1, g2, g3⟩ := h' a
      rcases h3 with h3 | ⟨x, hx, ht, h3⟩
      · omega
      · have h4 := hf x (hA x hx)
        rw [ht] at h4
        have := ih (f x.From) (by omega) x.From rfl
        have := g2 x (hA x hx) ht
        omega
  exact fun a => key _ a rfl
theorem law_DagLess (a0 : Int) (o0 : (Lit.int .i64 a0).wf = true) (a1 : List TArc) (o1 : (a1.length ≤ maxLen ∧ ∀ y ∈ a1, kArc y)) (a2 : Int) (o2 : (Lit.int .u8 a2).wf = true) : ∃ N, narthexlaw04_DagLess N a0 a1 a2 = some true := by
  obtain ⟨N, hN, hA⟩ := awake_ok
  refine ⟨N, ?_⟩
  have hu : 0 ≤ a2 ∧ a2 ≤ 255 := by
    have h1 : IntKind.u8.min = 0 := by decide
    have h2 : IntKind.u8.max = 255 := by decide
    simpa [Lit.wf, h1, h2] using o2
  unfold narthexlaw04_DagLess
  rw [hA, Option.bind_some, if_pos (by simp), few_eq, Option.bind_some]
  by_cases hf : (decide (a1.length ≤ 60) && (decide (a0 ≤ 24) || decide (a0 > 64))) = true
  · have hl : a1.length ≤ 60 := by simp at hf; exact hf.1
    rw [hf]
    by_cases h0 : a1.length = 0
    · rw [if_pos (by simp; exact List.eq_nil_of_length_eq_zero h0), Option.bind_some]
    · rw [if_neg (by simp; exact fun e => h0 (by rw [e]; rfl)), own_eq (by omega), Option.bind_some]
      by_cases hg : Good a0 a1
      · obtain ⟨m, rfl, hm⟩ := hg.nat
        by_cases hF : (told m a1).length = m
        · have hF' := full_iff.2 hF
          have hr := rank_of_full hg hF'
          obtain ⟨d, h1, h2⟩ := depths_good hN hg hF'
          rw [h1, Option.bind_some, if_neg (by simp), w64_is (by omega) (by omega)]
          obtain ⟨b, hb⟩ : ∃ b : Nat, a2 = (b : Int) := ⟨a2.toNat, by omega⟩
          have hk : b % a1.length < a1.length := Nat.mod_lt _ (by omega)
          have hrem : rem? a2 (a1.length : Int) = some ((b % a1.length : Nat) : Int) := by
            rw [rem?, if_neg (by omega), hb]
            congr 1
          obtain ⟨k, hkk⟩ : ∃ k, b % a1.length = k := ⟨_, rfl⟩
          rw [hkk] at hk hrem
          rw [hrem, Option.bind_some, sub_take (by omega), Option.bind_some, own_eq (by simp; omega), Option.bind_some, w64_nat (by omega), sub_drop (by omega), Option.bind_some, app_ok (by simp; omega), Option.bind_some]
          have hsub : ∀ x ∈ a1.take k ++ a1.drop (k + 1), x ∈ a1 := fun x hx => by
            rcases List.mem_append.1 hx with hx | hx
            · exact List.mem_of_mem_take hx
            · exact List.mem_of_mem_drop hx
          have hnd : (a1.take k ++ a1.drop (k + 1)).Nodup := by
            rw [← List.eraseIdx_eq_take_drop_succ]
            exact hg.nodup.eraseIdx k
          have hg' : Good m (a1.take k ++ a1.drop (k + 1)) := ⟨hg.lo, hg.hi, by simp; omega, fun x hx => hg.arc x (hsub x hx), hnd⟩
          have hr' : Rank (a1.take k ++ a1.drop (k + 1)) (pos (told m a1)) := fun x hx => hr x (hsub x hx)
          obtain ⟨e, g1, g2⟩ := depths_good hN hg' (full_of_rank hg' hr')
          have hle := g2.mono h2 (fun x hx => hsub x hx) hr
          rw [g1, Option.bind_some, findR0 (L := narthexlaw04_DagLess_L1 N (tab m d, true) (tab m e, true)) (len := m) (p := fun _ => false) (r := false) (fun n i hi => by
            have := hle (i : Int)
            rw [narthexlaw04_DagLess_L1, tab_len, tab_len, if_pos (by simpa using hi), tab_at (by omega) (by omega), Option.bind_some, tab_at (by omega) (by omega), Option.bind_some, if_neg (by simp; omega), w64_nat (by omega)]
            simp) (fun n => by rw [narthexlaw04_DagLess_L1, tab_len, tab_len, if_neg (by simp)]) (by omega), Option.bind_some]
          have e0 : ((List.range m).any fun _ => false) = false := by rw [List.any_eq_false]; simp
          rw [e0, if_neg (by simp)]
          simp only
          rw [tab_len, tab_len]
          simp
        · rw [depths_round hN hg hF, Option.bind_some, if_pos (by simp)]
      · rw [depths_bad hN hg, Option.bind_some, if_pos (by simp)]
  · have hf' : (decide (a1.length ≤ 60) && (decide (a0 ≤ 24) || decide (a0 > 64))) = false := by simpa using hf
    rw [hf', if_pos (by simp), Option.bind_some]

end Go.Proofs.Ytnoffbgiaenmpaa
