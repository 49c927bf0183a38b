/- The plain laws: what the models come to. -/
import Derived.Test.YthlocamkdmaflaaMod
namespace Go.Proofs.Ythlocamkdmaflaa
open Go Go.Nx
set_option linter.unusedVariables false
set_option linter.unusedSimpArgs false
set_option linter.unnecessarySimpa false
set_option maxRecDepth 8000
/-! Loops, as folds and searches. -/
/-- A search by place. -/
theorem findR {ρ : Type} {L : Nat → Int → Option (ρ ⊕ Unit)} {len : Nat} {p : Nat → Bool} {r : ρ} (h1 : ∀ n i, i < len → L (n + 1) (i : Int) = if p i = true then some (.inl r) else L n ((i + 1 : Nat) : Int)) (h2 : ∀ n, L (n + 1) (len : Int) = some (.inr ())) :
    ∀ (n i k : Nat), k < n → i + k = len → L n (i : Int) = some (if (List.range' i k).any p = true then .inl r else .inr ())
  | 0, i, k, h, hi => by omega
  | n + 1, i, 0, h, hi => by
    obtain rfl : i = len := by omega
    rw [h2]
    simp
  | n + 1, i, k + 1, h, hi => by
    rw [h1 n i (by omega), List.range'_succ, List.any_cons]
    cases hp : p i with
    | true => simp
    | false =>
      rw [if_neg (by simp), findR h1 h2 n (i + 1) k (by omega) (by omega), Bool.false_or]
theorem findR0 {ρ : Type} {L : Nat → Int → Option (ρ ⊕ Unit)} {len : Nat} {p : Nat → Bool} {r : ρ} (h1 : ∀ n i, i < len → L (n + 1) (i : Int) = if p i = true then some (.inl r) else L n ((i + 1 : Nat) : Int)) (h2 : ∀ n, L (n + 1) (len : Int) = some (.inr ())) {N : Nat} (hN : len < N) :
    L N 0 = some (if (List.range len).any p = true then .inl r else .inr ()) := by
  have h := findR h1 h2 N 0 len hN (by omega)
  rw [show ((0 : Nat) : Int) = 0 from rfl, ← List.range_eq_range'] at h
  exact h
/-- A search by what stands there. -/
theorem anyR {α ρ : Type} {L : Nat → Int → Option (ρ ⊕ Unit)} {xs : List α} {q : α → Bool} {r : ρ} (h1 : ∀ n (i : Nat) x, xs[i]? = some x → L (n + 1) (i : Int) = if q x = true then some (.inl r) else L n ((i + 1 : Nat) : Int)) (h2 : ∀ n, L (n + 1) (xs.length : Int) = some (.inr ())) {N : Nat} (hN : xs.length < N) :
    L N 0 = some (if xs.any q = true then .inl r else .inr ()) := by
  have h := findR0 (L := L) (len := xs.length) (p := fun i => match xs[i]? with | some x => q x | none => false) (r := r) (fun n i hi => by
    have hx : xs[i]? = some xs[i] := List.getElem?_eq_getElem hi
    rw [h1 n i _ hx]
    simp only [hx]) h2 hN
  rw [h]
  have : ((List.range xs.length).any fun i => match xs[i]? with | some x => q x | none => false) = xs.any q := by
    rw [Bool.eq_iff_iff, List.any_eq_true, List.any_eq_true]
    constructor
    · rintro ⟨j, hj, hq⟩
      rw [List.mem_range] at hj
      rw [List.getElem?_eq_getElem hj] at hq
      exact ⟨_, List.getElem_mem hj, hq⟩
    · rintro ⟨x, hx, hq⟩
      obtain ⟨j, hj, rfl⟩ := List.getElem_of_mem hx
      exact ⟨j, List.mem_range.2 hj, by rw [List.getElem?_eq_getElem hj]; exact hq⟩
  rw [this]
/-- A search that tells the place. -/
theorem placeR {α : Type} {L : Nat → Int → Option (Int ⊕ Unit)} {xs : List α} {q : α → Bool} (h1 : ∀ n (i : Nat) x, xs[i]? = some x → L (n + 1) (i : Int) = if q x = true then some (.inl (i : Int)) else L n ((i + 1 : Nat) : Int)) (h2 : ∀ n, L (n + 1) (xs.length : Int) = some (.inr ())) :
    ∀ (n i : Nat), xs.length < n + i → i ≤ xs.length → (∀ x ∈ xs.take i, q x = false) → L n (i : Int) = some (match xs.findIdx? q with | some j => .inl (j : Int) | none => .inr ())
  | 0, i, h, hi, _ => by omega
  | n + 1, i, h, hi, ht => by
    rcases Nat.lt_or_ge i xs.length with hlt | hge
    · have hx : xs[i]? = some xs[i] := List.getElem?_eq_getElem hlt
      rw [h1 n i _ hx]
      cases hq : q xs[i] with
      | true =>
        have : xs.findIdx? q = some i := by
          rw [List.findIdx?_eq_some_iff_getElem]
          refine ⟨hlt, hq, fun j hj => ?_⟩
          have := ht xs[j] (by rw [List.mem_take_iff_getElem]; exact ⟨j, by omega, rfl⟩)
          simp [this]
        rw [if_pos rfl, this]
      | false =>
        rw [if_neg (by simp)]
        refine placeR h1 h2 n (i + 1) (by omega) (by omega) (fun x hx' => ?_)
        rw [List.take_succ_eq_append_getElem hlt, List.mem_append, List.mem_singleton] at hx'
        rcases hx' with h | rfl
        · exact ht x h
        · exact hq
    · have : i = xs.length := by omega
      subst this
      have : xs.findIdx? q = none := by
        rw [List.findIdx?_eq_none_iff]
        intro x hx
        exact ht x (by simpa using hx)
      rw [h2, this]
/-- A fold. -/
theorem foldR {α σ ρ : Type} {L : Nat → σ → Int → Option ρ} {xs : List α} {f : σ → α → σ} {fin : σ → Option ρ} (I : Nat → σ → Prop) (h1 : ∀ n (i : Nat) s x, I i s → xs[i]? = some x → L (n + 1) s (i : Int) = L n (f s x) ((i + 1 : Nat) : Int) ∧ I (i + 1) (f s x)) (h2 : ∀ n s, I xs.length s → L (n + 1) s (xs.length : Int) = fin s) :
    ∀ (n i : Nat) (s : σ), xs.length < n + i → i ≤ xs.length → I i s → L n s (i : Int) = fin ((xs.drop i).foldl f s) ∧ I xs.length ((xs.drop i).foldl f s)
  | 0, i, s, h, hi, _ => by omega
  | n + 1, i, s, h, hi, hs => by
    rcases Nat.lt_or_ge i xs.length with hlt | hge
    · have hx : xs[i]? = some xs[i] := List.getElem?_eq_getElem hlt
      obtain ⟨e1, e2⟩ := h1 n i s _ hs hx
      rw [e1, List.drop_eq_getElem_cons hlt, List.foldl_cons]
      exact foldR I h1 h2 n (i + 1) _ (by omega) (by omega) e2
    · have : i = xs.length := by omega
      subst this
      rw [h2 n s hs, List.drop_length]
      exact ⟨rfl, hs⟩
theorem foldR0 {α σ ρ : Type} {L : Nat → σ → Int → Option ρ} {xs : List α} {f : σ → α → σ} {fin : σ → Option ρ} (I : Nat → σ → Prop) (h1 : ∀ n (i : Nat) s x, I i s → xs[i]? = some x → L (n + 1) s (i : Int) = L n (f s x) ((i + 1 : Nat) : Int) ∧ I (i + 1) (f s x)) (h2 : ∀ n s, I xs.length s → L (n + 1) s (xs.length : Int) = fin s) {N : Nat} {s : σ} (hN : xs.length < N) (hs : I 0 s) :
    L N s 0 = fin (xs.foldl f s) ∧ I xs.length (xs.foldl f s) := by
  have h := foldR I h1 h2 N 0 s (by omega) (by omega) hs
  rw [show ((0 : Nat) : Int) = 0 from rfl, List.drop_zero] at h
  exact h
theorem any_place {α : Type} (q : α → Bool) (l : List α) : (Option.bind (match (match l.findIdx? q with | some j => (.inl (j : Int) : Int ⊕ Unit) | none => .inr ()) with | .inl r => some r | .inr _ => some (-1)) fun y1 => some (decide (y1 ≥ 0))) = some (l.any q) := by
  cases h : l.findIdx? q with
  | none =>
    rw [List.findIdx?_eq_none_iff] at h
    have : l.any q = false := by
      rw [List.any_eq_false]
      intro x hx
      simp [h x hx]
    simp [this]
  | some j =>
    rw [List.findIdx?_eq_some_iff_getElem] at h
    obtain ⟨h1, h2, _⟩ := h
    have : l.any q = true := List.any_eq_true.2 ⟨_, List.getElem_mem h1, h2⟩
    simp [this]
namespace S1
theorem w64_nat {i : Nat} (h : i < 1000000000) : w64 ((i : Int) + 1) = ((i + 1 : Nat) : Int) := by
  have : IntKind.i64.wrap ((i : Int) + 1) = (i : Int) + 1 := wrap_i64 (by omega) (by omega)
  simpa using this
theorem w64_is {n : Int} (h1 : -9223372036854775808 ≤ n) (h2 : n < 9223372036854775808) : w64 n = n := wrap_i64 h1 h2
theorem at_nat {α : Type} {xs : List α} {i : Nat} : at? xs (i : Int) = xs[i]? := by
  simp [at?]
theorem drop_at {α : Type} {xs : List α} {i : Nat} {x : α} (h : xs[i]? = some x) : xs.drop i = x :: xs.drop (i + 1) := by
  obtain ⟨hl, rfl⟩ := List.getElem?_eq_some_iff.1 h
  exact List.drop_eq_getElem_cons hl
theorem take_at {α : Type} {xs : List α} {i : Nat} {x : α} (h : xs[i]? = some x) : xs.take (i + 1) = xs.take i ++ [x] := by
  obtain ⟨hl, rfl⟩ := List.getElem?_eq_some_iff.1 h
  simp
theorem some_at {α : Type} {xs : List α} {i : Nat} (h : i < xs.length) : ∃ x, xs[i]? = some x := ⟨_, List.getElem?_eq_getElem h⟩
theorem app_ok {α : Type} {xs ys : List α} (h : xs.length + ys.length ≤ 1000000) : app? xs ys = some (xs ++ ys) := by
  simp [app?]
  omega
theorem dedG_mem {p : Int} : ∀ {l : List Int}, (p :: l).Pairwise (· ≤ ·) → (dedG p l).Pairwise (· < ·) ∧ (∀ x, x ∈ dedG p l ↔ x ∈ l ∧ x ≠ p) ∧ ∀ x ∈ dedG p l, p < x
  | [], _ => by simp [dedG]
  | y :: ys, h => by
    rw [List.pairwise_cons] at h
    have h2 := h.2
    rw [List.pairwise_cons] at h2
    obtain ⟨i1, i2, i3⟩ := dedG_mem (p := y) (l := ys) h.2
    have hpy := h.1 y (by simp)
    unfold dedG
    split
    · rename_i he
      subst he
      refine ⟨i1, fun x => ?_, i3⟩
      rw [i2]
      constructor
      · rintro ⟨a, b⟩; exact ⟨List.mem_cons_of_mem _ a, b⟩
      · rintro ⟨a, b⟩
        rcases List.mem_cons.1 a with a | a
        · exact absurd a b
        · exact ⟨a, b⟩
    · rename_i he
      refine ⟨List.pairwise_cons.2 ⟨i3, i1⟩, fun x => ?_, fun x hx => ?_⟩
      · rw [List.mem_cons, List.mem_cons, i2]
        constructor
        · rintro (rfl | ⟨a, b⟩)
          · exact ⟨.inl rfl, he⟩
          · refine ⟨.inr a, fun e => ?_⟩
            have := h2.1 x a
            omega
        · rintro ⟨a | a, b⟩
          · exact .inl a
          · by_cases hxy : x = y
            · exact .inl hxy
            · exact .inr ⟨a, hxy⟩
      · rcases List.mem_cons.1 hx with rfl | hx
        · omega
        · have := i3 x hx
          omega
def S (l : List Int) : List Int := dedup (isort l)
theorem dedup_mem {l : List Int} (h : l.Pairwise (· ≤ ·)) : (dedup l).Pairwise (· < ·) ∧ ∀ x, x ∈ dedup l ↔ x ∈ l := by
  cases l with
  | nil => simp [dedup]
  | cons p l =>
    obtain ⟨i1, i2, i3⟩ := dedG_mem h
    refine ⟨List.pairwise_cons.2 ⟨i3, i1⟩, fun x => ?_⟩
    rw [dedup, List.mem_cons, List.mem_cons, i2]
    constructor
    · rintro (a | ⟨a, _⟩)
      · exact .inl a
      · exact .inr a
    · rintro (a | a)
      · exact .inl a
      · by_cases hx : x = p
        · exact .inl hx
        · exact .inr ⟨a, hx⟩
theorem S_strict (l : List Int) : (S l).Pairwise (· < ·) := (dedup_mem (isort_sorted l)).1
theorem S_mem {l : List Int} {x : Int} : x ∈ S l ↔ x ∈ l := ((dedup_mem (isort_sorted l)).2 x).trans (isort_perm l).mem_iff
theorem S_len (l : List Int) : (S l).length ≤ l.length := by
  have := dedup_le (isort l)
  rwa [length_isort] at this
theorem strict_ext : ∀ {s t : List Int}, s.Pairwise (· < ·) → t.Pairwise (· < ·) → (∀ x, x ∈ s ↔ x ∈ t) → s = t := by
  intro s t hs ht h
  refine List.Perm.eq_of_pairwise (le := (· < ·)) (fun a b _ _ h1 h2 => by omega) hs ht ?_
  have hn : ∀ {u : List Int}, u.Pairwise (· < ·) → u.Nodup := fun hu => hu.imp (fun h => by omega)
  exact (List.perm_ext_iff_of_nodup (hn hs) (hn ht)).2 h
theorem S_eq {l s : List Int} (hs : s.Pairwise (· < ·)) (h : ∀ x, x ∈ s ↔ x ∈ l) : S l = s := strict_ext (S_strict l) hs fun x => S_mem.trans (h x).symm
theorem S_self {s : List Int} (hs : s.Pairwise (· < ·)) : S s = s := S_eq hs fun _ => Iff.rfl
theorem of_eq {N : Nat} {l : List Int} (h : l.length ≤ 1000) : set_Of N l = some (S l) := by
  have h1 : slices_Clone_int N l = some l := by simp [slices_Clone_int, app_ok (xs := ([] : List Int)) (ys := l) (by simp; omega)]
  have h2 : sort? l = some (isort l) := by rw [sort?, if_pos (by omega)]
  have h3 : ded? (isort l) = some (S l) := by rw [ded?, if_pos (by rw [length_isort]; omega)]; rfl
  simp [set_Of, h1, h2, h3]
theorem same_loop {N : Nat} {a b : List Int} (hl : a.length = b.length) (hb : a.length ≤ 1000) : ∀ (n i : Nat), a.length < n + i → i ≤ a.length →
    ∃ z, narthexref01_Same_L1 N a b n i = some z ∧ (match z with | .inl r => r = false ∧ a.drop i ≠ b.drop i | .inr _ => a.drop i = b.drop i)
  | 0, i, h, hi => by omega
  | n + 1, i, h, hi => by
    rw [narthexref01_Same_L1]
    by_cases hlt : i < a.length
    · obtain ⟨x, hx⟩ := some_at hlt
      obtain ⟨y, hy⟩ := some_at (xs := b) (i := i) (by omega)
      rw [if_pos (by simpa using hlt), at_nat, at_nat, hx, hy, Option.bind_some, Option.bind_some, drop_at hx, drop_at hy]
      by_cases hxy : x = y
      · subst hxy
        rw [if_neg (by simp), w64_nat (by omega)]
        obtain ⟨z, h1, h2⟩ := same_loop hl hb n (i + 1) (by omega) (by omega)
        exact ⟨z, h1, by
          match z, h2 with
          | .inl r, h2 => exact ⟨h2.1, fun e => h2.2 (List.cons.inj e).2⟩
          | .inr _, h2 => rw [h2]⟩
      · rw [if_pos (by simpa using hxy)]
        exact ⟨.inl false, rfl, rfl, fun e => hxy (List.cons.inj e).1⟩
    · rw [if_neg (by simpa using hlt)]
      exact ⟨.inr (), rfl, by rw [List.drop_eq_nil_of_le (by omega), List.drop_eq_nil_of_le (by omega)]⟩
theorem same_eq {N : Nat} {a b : List Int} (hN : 1000 < N) (hb : a.length ≤ 1000) : narthexref01_Same N a b = some (decide (a = b)) := by
  unfold narthexref01_Same
  by_cases hl : a.length = b.length
  · rw [if_neg (by simp [hl])]
    obtain ⟨z, h1, h2⟩ := same_loop (N := N) hl hb N 0 (by omega) (by omega)
    rw [show ((0 : Nat) : Int) = 0 from rfl] at h1
    rw [h1, Option.bind_some]
    simp only [List.drop_zero] at h2
    match z, h2 with
    | .inl r, h2 => simp [h2.1, h2.2]
    | .inr _, h2 => simp [h2]
  · rw [if_pos (by simpa using fun e => hl (by omega))]
    simp [show a ≠ b from fun e => hl (by rw [e])]
theorem refhas_loop {N : Nat} {l : List Int} {x : Int} (hb : l.length ≤ 1000) : ∀ (n i : Nat), l.length < n + i → i ≤ l.length →
    ∃ z, narthexref01_Has_L1 N l x n i = some z ∧ (match z with | .inl r => r = true ∧ x ∈ l.drop i | .inr _ => x ∉ l.drop i)
  | 0, i, h, hi => by omega
  | n + 1, i, h, hi => by
    rw [narthexref01_Has_L1]
    by_cases hlt : i < l.length
    · obtain ⟨y, hy⟩ := some_at hlt
      rw [if_pos (by simpa using hlt), at_nat, hy, Option.bind_some, drop_at hy]
      by_cases hxy : y = x
      · rw [if_pos (by simpa using hxy)]
        exact ⟨.inl true, rfl, rfl, by simp [hxy]⟩
      · rw [if_neg (by simpa using hxy), w64_nat (by omega)]
        obtain ⟨z, h1, h2⟩ := refhas_loop hb n (i + 1) (by omega) (by omega)
        exact ⟨z, h1, by
          match z, h2 with
          | .inl r, h2 => exact ⟨h2.1, List.mem_cons_of_mem _ h2.2⟩
          | .inr _, h2 => exact fun e => (List.mem_cons.1 e).elim (fun e => hxy e.symm) h2⟩
    · rw [if_neg (by simpa using hlt)]
      exact ⟨.inr (), rfl, by rw [List.drop_eq_nil_of_le (by omega)]; simp⟩
theorem refhas_eq {N : Nat} {l : List Int} {x : Int} (hN : 1000 < N) (hb : l.length ≤ 1000) : narthexref01_Has N l x = some (decide (x ∈ l)) := by
  unfold narthexref01_Has
  obtain ⟨z, h1, h2⟩ := refhas_loop (N := N) (x := x) hb N 0 (by omega) (by omega)
  rw [show ((0 : Nat) : Int) = 0 from rfl] at h1
  rw [h1, Option.bind_some]
  simp only [List.drop_zero] at h2
  match z, h2 with
  | .inl r, h2 => simp [h2.1, h2.2]
  | .inr _, h2 => simp [h2]
theorem index_loop {N : Nat} {l : List Int} {x : Int} (hb : l.length ≤ 1000) : ∀ (n i : Nat), l.length < n + i → i ≤ l.length →
    ∃ z, slices_Index_int_L1 N l x n i = some z ∧ (match z with | .inl r => 0 ≤ r ∧ x ∈ l.drop i | .inr _ => x ∉ l.drop i)
  | 0, i, h, hi => by omega
  | n + 1, i, h, hi => by
    rw [slices_Index_int_L1]
    by_cases hlt : i < l.length
    · obtain ⟨y, hy⟩ := some_at hlt
      rw [if_pos (by simpa using hlt), at_nat, hy, Option.bind_some, drop_at hy]
      by_cases hxy : x = y
      · rw [if_pos (by simpa using hxy)]
        exact ⟨.inl (i : Int), rfl, by omega, by simp [hxy]⟩
      · rw [if_neg (by simpa using hxy), w64_nat (by omega)]
        obtain ⟨z, h1, h2⟩ := index_loop hb n (i + 1) (by omega) (by omega)
        exact ⟨z, h1, by
          match z, h2 with
          | .inl r, h2 => exact ⟨h2.1, List.mem_cons_of_mem _ h2.2⟩
          | .inr _, h2 => exact fun e => (List.mem_cons.1 e).elim hxy h2⟩
    · rw [if_neg (by simpa using hlt)]
      exact ⟨.inr (), rfl, by rw [List.drop_eq_nil_of_le (by omega)]; simp⟩
theorem has_eq {N : Nat} {l : List Int} {x : Int} (hN : 1000 < N) (hb : l.length ≤ 1000) : set_Has N l x = some (decide (x ∈ l)) := by
  unfold set_Has slices_Contains_int slices_Index_int
  obtain ⟨z, h1, h2⟩ := index_loop (N := N) (x := x) hb N 0 (by omega) (by omega)
  rw [show ((0 : Nat) : Int) = 0 from rfl] at h1
  rw [h1]
  simp only [List.drop_zero] at h2
  match z, h2 with
  | .inl r, h2 => simp [h2.1, h2.2]
  | .inr _, h2 => simp [h2]
theorem inc_pairwise : ∀ {l : List Int}, (∀ (k : Nat) (x y : Int), l[k]? = some x → l[k + 1]? = some y → x < y) → l.Pairwise (· < ·)
  | [], _ => .nil
  | [x], _ => by simp
  | x :: y :: l, h => by
    have ih := inc_pairwise (l := y :: l) fun k a b h1 h2 => h (k + 1) a b (by simpa using h1) (by simpa using h2)
    refine List.pairwise_cons.2 ⟨fun z hz => ?_, ih⟩
    have hxy := h 0 x y rfl rfl
    rcases List.mem_cons.1 hz with rfl | hz
    · exact hxy
    · have := (List.pairwise_cons.1 ih).1 z hz
      omega
theorem pairwise_inc {l : List Int} (h : l.Pairwise (· < ·)) {k k' : Nat} {x y : Int} (hk : k < k') (hx : l[k]? = some x) (hy : l[k']? = some y) : x < y := by
  obtain ⟨h1, rfl⟩ := List.getElem?_eq_some_iff.1 hx
  obtain ⟨h2, rfl⟩ := List.getElem?_eq_some_iff.1 hy
  exact List.pairwise_iff_getElem.1 h k k' h1 h2 hk
theorem valid_loop {N : Nat} {l : List Int} (hb : l.length ≤ 1000) : ∀ (n i : Nat), l.length < n + i → i ≤ l.length →
    ∃ z, set_Valid_L1 N l n i = some z ∧ (match z with
      | .inl r => r = false ∧ ∃ (k : Nat) (x y : Int), i ≤ k + 1 ∧ l[k]? = some x ∧ l[k + 1]? = some y ∧ y ≤ x
      | .inr _ => ∀ (k : Nat) (x y : Int), i ≤ k + 1 → l[k]? = some x → l[k + 1]? = some y → x < y)
  | 0, i, h, hi => by omega
  | n + 1, i, h, hi => by
    rw [set_Valid_L1]
    by_cases hlt : i < l.length
    · obtain ⟨y, hy⟩ := some_at hlt
      rw [if_pos (by simpa using hlt)]
      rcases Nat.eq_zero_or_pos i with rfl | h0
      · rw [if_neg (by simp), if_neg (by simp), Option.bind_some, Option.bind_some, if_neg (by simp), w64_nat (by omega)]
        obtain ⟨z, h1, h2⟩ := valid_loop hb n (0 + 1) (by omega) (by omega)
        refine ⟨z, h1, ?_⟩
        match z, h2 with
        | .inl r, h2 => obtain ⟨a, k, x, y, h3, h4⟩ := h2; exact ⟨a, k, x, y, by omega, h4⟩
        | .inr _, h2 => exact fun k x y _ a b => h2 k x y (by omega) a b
      · obtain ⟨j, rfl⟩ : ∃ j, i = j + 1 := ⟨i - 1, by omega⟩
        obtain ⟨x, hx⟩ := some_at (xs := l) (i := j) (by omega)
        have e1 : w64 (((j + 1 : Nat) : Int) - 1) = (j : Int) := by rw [w64_is (by omega) (by omega)]; omega
        rw [if_pos (by simp), if_pos (by simp), e1, at_nat, at_nat, hx, hy, Option.bind_some, Option.bind_some]
        by_cases hxy : x < y
        · rw [if_neg (by simp; omega), w64_nat (by omega)]
          obtain ⟨z, h1, h2⟩ := valid_loop hb n (j + 1 + 1) (by omega) (by omega)
          refine ⟨z, h1, ?_⟩
          match z, h2 with
          | .inl r, h2 => obtain ⟨a, k, x, y, h3, h4⟩ := h2; exact ⟨a, k, x, y, by omega, h4⟩
          | .inr _, h2 =>
            intro k a b hk ha hb
            rcases Nat.lt_or_ge k (j + 1) with hkj | hkj
            · obtain rfl : k = j := by omega
              rw [hx] at ha
              rw [hy] at hb
              cases ha
              cases hb
              exact hxy
            · exact h2 k a b (by omega) ha hb
        · rw [if_pos (by simp; omega)]
          exact ⟨.inl false, rfl, rfl, j, x, y, Nat.le_refl _, hx, hy, by omega⟩
    · rw [if_neg (by simpa using hlt)]
      refine ⟨.inr (), rfl, fun k x y hk hx hy => ?_⟩
      have := (List.getElem?_eq_some_iff.1 hy).1
      omega
theorem valid_eq {N : Nat} {l : List Int} (hN : 1000 < N) (hb : l.length ≤ 1000) : set_Valid N l = some (decide (S l = l)) := by
  unfold set_Valid
  obtain ⟨z, h1, h2⟩ := valid_loop (N := N) hb N 0 (by omega) (by omega)
  rw [show ((0 : Nat) : Int) = 0 from rfl] at h1
  rw [h1, Option.bind_some]
  match z, h2 with
  | .inl r, h2 =>
    obtain ⟨rfl, k, x, y, _, hx, hy, hxy⟩ := h2
    have : ¬ S l = l := fun e => by
      have hs := S_strict l
      rw [e] at hs
      have := pairwise_inc hs (Nat.lt_succ_self k) hx hy
      omega
    simp [this]
  | .inr _, h2 =>
    have : S l = l := S_self (inc_pairwise fun k x y a b => h2 k x y (by omega) a b)
    simp [this]
def below (s : List Int) (x : Int) : Nat := (s.filter fun y => decide (y < x)).length
theorem below_le (s : List Int) (x : Int) : below s x ≤ s.length := List.length_filter_le _ _
def firsts (x : Int) : List Int → List Int → List Int
  | _, [] => []
  | seen, y :: l => (if y < x ∧ y ∉ seen then [y] else []) ++ firsts x (seen ++ [y]) l
theorem firsts_mem {x : Int} : ∀ {l seen : List Int}, (firsts x seen l).Nodup ∧ (∀ y ∈ firsts x seen l, y ∉ seen) ∧ ∀ y, y ∈ firsts x seen l ↔ y ∈ l ∧ y < x ∧ y ∉ seen
  | [], seen => by simp [firsts]
  | z :: l, seen => by
    obtain ⟨i1, i2, i3⟩ := firsts_mem (x := x) (l := l) (seen := seen ++ [z])
    have key : ∀ y, y ∈ firsts x seen (z :: l) ↔ y ∈ z :: l ∧ y < x ∧ y ∉ seen := by
      intro y
      unfold firsts
      rw [List.mem_append, i3, List.mem_cons]
      simp only [List.mem_append, List.mem_singleton, not_or]
      by_cases hz : z < x ∧ z ∉ seen
      · rw [if_pos hz]
        simp only [List.mem_singleton]
        constructor
        · rintro (rfl | ⟨a, b, c, _⟩)
          · exact ⟨.inl rfl, hz⟩
          · exact ⟨.inr a, b, c⟩
        · rintro ⟨a, b, c⟩
          by_cases hyz : y = z
          · exact .inl hyz
          · exact .inr ⟨a.resolve_left hyz, b, c, hyz⟩
      · rw [if_neg hz]
        simp only [List.not_mem_nil, false_or]
        constructor
        · rintro ⟨a, b, c, _⟩; exact ⟨.inr a, b, c⟩
        · rintro ⟨a, b, c⟩
          have hyz : y ≠ z := fun e => hz (e ▸ ⟨b, c⟩)
          exact ⟨a.resolve_left hyz, b, c, hyz⟩
    refine ⟨?_, fun y hy => ((key y).1 hy).2.2, key⟩
    unfold firsts
    split
    · rw [List.singleton_append, List.nodup_cons]
      exact ⟨fun hz => i2 z hz (by simp), i1⟩
    · simpa using i1
theorem firsts_len {l : List Int} {x : Int} : (firsts x [] l).length = below (S l) x := by
  obtain ⟨i1, _, i3⟩ := firsts_mem (x := x) (l := l) (seen := [])
  have hn : (S l).Nodup := (S_strict l).imp (fun h => by omega)
  refine List.Perm.length_eq ((List.perm_ext_iff_of_nodup i1 (hn.filter _)).2 fun y => ?_)
  rw [i3, List.mem_filter, S_mem]
  simp
theorem refplace_loop {N : Nat} {l : List Int} {x : Int} (hN : 1000 < N) (hb : l.length ≤ 1000) : ∀ (n i c : Nat), l.length < n + i → i ≤ l.length → c ≤ i → narthexref01_Place_L1 N l x n c i = some ((c + (firsts x (l.take i) (l.drop i)).length : Nat) : Int)
  | 0, i, c, h, hi, _ => by omega
  | n + 1, i, c, h, hi, hc => by
    rw [narthexref01_Place_L1]
    by_cases hlt : i < l.length
    · obtain ⟨y, hy⟩ := some_at hlt
      rw [if_pos (by simpa using hlt), at_nat, hy, Option.bind_some, drop_at hy, firsts, ← take_at hy]
      by_cases hyx : y < x
      · have hd : decide (y < x) = true := by simpa using hyx
        have hsub : sub? l 0 (i : Int) = some (l.take i) := by rw [sub?, if_pos (by omega)]; simp
        simp only [hd, if_true, hsub, Option.bind_some, Bool.true_and]
        rw [refhas_eq hN (by rw [List.length_take]; omega), Option.bind_some, w64_nat (i := i) (by omega)]
        by_cases hm : y ∈ l.take i
        · rw [if_neg (by simpa using hm), if_neg (by simp [hm])]
          rw [refplace_loop hN hb n (i + 1) c (by omega) (by omega) (by omega)]
          simp
        · rw [if_pos (by simpa using hm), if_pos ⟨hyx, hm⟩, w64_nat (i := c) (by omega)]
          rw [refplace_loop hN hb n (i + 1) (c + 1) (by omega) (by omega) (by omega)]
          congr 1
          simp
          omega
      · have hd : decide (y < x) = false := by simpa using hyx
        simp only [hd, Bool.false_eq_true, if_false, Option.bind_some, Bool.false_and]
        rw [w64_nat (by omega), if_neg (by omega)]
        rw [refplace_loop hN hb n (i + 1) c (by omega) (by omega) (by omega)]
        simp
    · rw [if_neg (by simpa using hlt), List.drop_eq_nil_of_le (by omega)]
      simp [firsts]
theorem refplace_eq {N : Nat} {l : List Int} {x : Int} (hN : 1000 < N) (hb : l.length ≤ 1000) : narthexref01_Place N l x = some ((below (S l) x : Nat) : Int) := by
  unfold narthexref01_Place
  have h := refplace_loop (x := x) hN hb N 0 0 (by omega) (by omega) (by omega)
  rw [show ((0 : Nat) : Int) = 0 from rfl] at h
  rw [h, Option.bind_some, ← firsts_len]
  simp
theorem split_at {s : List Int} {x : Int} (hs : s.Pairwise (· < ·)) : (∀ y ∈ s.take (below s x), y < x) ∧ ∀ y ∈ s.drop (below s x), x ≤ y := by
  have key : s.take (below s x) = s.filter (fun y => decide (y < x)) ∧ s.drop (below s x) = s.filter (fun y => !decide (y < x)) := by
    unfold below
    induction s with
    | nil => simp
    | cons z s ih =>
      rw [List.pairwise_cons] at hs
      by_cases hz : z < x
      · have := ih hs.2
        simp [hz, this.1, this.2]
      · have e : s.filter (fun y => decide (y < x)) = [] := List.filter_eq_nil_iff.2 fun y hy => by
          have := hs.1 y hy
          simp
          omega
        have e2 : s.filter (fun y => !decide (y < x)) = s := List.filter_eq_self.2 fun y hy => by
          have := hs.1 y hy
          simp
          omega
        simp [hz, e, e2]
  constructor
  · intro y hy
    rw [key.1] at hy
    simpa using (List.mem_filter.1 hy).2
  · intro y hy
    rw [key.2] at hy
    have := (List.mem_filter.1 hy).2
    simpa using this
theorem insert_S {l : List Int} {x : Int} (hx : x ∉ l) : (S l).take (below (S l) x) ++ [x] ++ (S l).drop (below (S l) x) = S (l ++ [x]) := by
  obtain ⟨h1, h2⟩ := split_at (x := x) (S_strict l)
  have hs := S_strict l
  have hmem : ∀ y, y ∈ S l ↔ y ∈ (S l).take (below (S l) x) ∨ y ∈ (S l).drop (below (S l) x) := fun y => by
    rw [← List.mem_append, List.take_append_drop]
  symm
  refine S_eq ?_ fun y => ?_
  · rw [← List.take_append_drop (below (S l) x) (S l), List.pairwise_append] at hs
    rw [List.append_assoc, List.pairwise_append]
    refine ⟨hs.1, List.pairwise_cons.2 ⟨fun y hy => ?_, hs.2.1⟩, fun a ha b hb => ?_⟩
    · have h3 := h2 y hy
      have h4 : y ∈ l := S_mem.1 ((hmem y).2 (.inr hy))
      have : y ≠ x := fun e => hx (e ▸ h4)
      omega
    · rcases List.mem_cons.1 hb with rfl | hb
      · exact h1 a ha
      · exact hs.2.2 a ha b hb
  · simp only [List.mem_append, List.mem_singleton]
    have := hmem y
    rw [S_mem] at this
    rw [this]
    constructor
    · rintro ((a | a) | a)
      · exact .inl (.inl a)
      · exact .inr a
      · exact .inl (.inr a)
    · rintro ((a | a) | a)
      · exact .inl (.inl a)
      · exact .inr a
      · exact .inl (.inr a)
theorem S_old {l : List Int} {x : Int} (hx : x ∈ l) : S l = S (l ++ [x]) := by
  refine (S_eq (S_strict l) fun y => ?_).symm
  rw [S_mem, List.mem_append, List.mem_singleton]
  constructor
  · exact .inl
  · rintro (a | rfl)
    · exact a
    · exact hx
theorem refof_loop {N : Nat} {l : List Int} (hN : 1000 < N) (hb : l.length ≤ 1000) : ∀ (n i : Nat), l.length < n + i → i ≤ l.length → narthexref01_Of_L1 N l n (S (l.take i)) i = some (S l)
  | 0, i, h, hi => by omega
  | n + 1, i, h, hi => by
    rw [narthexref01_Of_L1]
    by_cases hlt : i < l.length
    · obtain ⟨y, hy⟩ := some_at hlt
      have hl := S_len (l.take i)
      rw [List.length_take] at hl
      rw [if_pos (by simpa using hlt), at_nat, hy, Option.bind_some, refhas_eq hN (by omega), Option.bind_some]
      by_cases hm : y ∈ l.take i
      · rw [if_pos (by simpa [S_mem] using hm), w64_nat (by omega), S_old hm, ← take_at hy]
        exact refof_loop hN hb n (i + 1) (by omega) (by omega)
      · rw [if_neg (by simpa [S_mem] using hm), Option.bind_some, refplace_eq hN (by omega), S_self (S_strict _), Option.bind_some]
        have hp := below_le (S (l.take i)) y
        have e1 : sub? (S (l.take i)) 0 ((below (S (l.take i)) y : Nat) : Int) = some ((S (l.take i)).take (below (S (l.take i)) y)) := by
          rw [sub?, if_pos (by omega)]; simp
        have e2 : sub? (S (l.take i)) ((below (S (l.take i)) y : Nat) : Int) ((S (l.take i)).length : Int) = some ((S (l.take i)).drop (below (S (l.take i)) y)) := by
          rw [sub?, if_pos (by omega)]; simp
        have e3 : ((S (l.take i)).drop 0).take ((S (l.take i)).take (below (S (l.take i)) y)).length = (S (l.take i)).take (below (S (l.take i)) y) := by
          rw [List.drop_zero, List.length_take, Nat.min_eq_left hp]
        have e4 : ((S (l.take i)).drop (Int.toNat ((below (S (l.take i)) y : Nat) : Int))).take ((S (l.take i)).drop (below (S (l.take i)) y)).length = (S (l.take i)).drop (below (S (l.take i)) y) := by
          rw [Int.toNat_natCast, List.take_length]
        rw [e1, Option.bind_some, e3, app_ok (by simp; omega), Option.bind_some, Option.bind_some, List.nil_append, app_ok (by simp; omega), Option.bind_some, e2, Option.bind_some, e4, app_ok (by simp; omega), Option.bind_some, w64_nat (by omega), insert_S hm, ← take_at hy]
        exact refof_loop hN hb n (i + 1) (by omega) (by omega)
    · rw [if_neg (by simpa using hlt), List.take_of_length_le (by omega)]
theorem refof_eq {N : Nat} {l : List Int} (hN : 1000 < N) (hb : l.length ≤ 1000) : narthexref01_Of N l = some (S l) := by
  unfold narthexref01_Of
  have h := refof_loop hN hb N 0 (by omega) (by omega)
  rw [show ((0 : Nat) : Int) = 0 from rfl, List.take_zero] at h
  rw [show ([] : List Int) = S [] from rfl, h, Option.bind_some]
end S1

/-! Sessions. -/
open S1
theorem at_zero {α : Type} {xs : List α} : at? xs 0 = xs[0]? := by
  simp [at?]
theorem w64_pred {i : Nat} (h : i < 1000000000) : w64 (((i + 1 : Nat) : Int) - 1) = (i : Int) := by
  have e : (((i + 1 : Nat) : Int) - 1) = (i : Int) := by omega
  rw [e]
  exact w64_is (by omega) (by omega)
def Sm (b : TBook) : Prop := b.Sess.length ≤ 12 ∧ ∀ x ∈ b.Sess, x.Need.length ≤ 70
theorem own_eq {N : Nat} {b : TBook} (h : Sm b) (hN : 1000 < N) : narthexlaw17_Own N b = some b := by
  unfold narthexlaw17_Own
  have hlen := h.1
  have h1 := foldR0 (L := narthexlaw17_Own_L1 N b) (xs := b.Sess) (f := fun s x => s ++ [x]) (fin := some) (N := N) (s := []) (fun i s => s.length = i) (fun n i s x hs hx => by
    have hl' := (List.getElem?_eq_some_iff.1 hx).1
    have hn := h.2 x (List.mem_of_getElem? hx)
    refine ⟨?_, by simp [hs]⟩
    rw [narthexlaw17_Own_L1, if_pos (by simpa using hl'), at_nat, hx, Option.bind_some, app_ok (by simp; omega), Option.bind_some, app_ok (by simp; omega), Option.bind_some, w64_nat (by omega)]
    rfl) (fun n s hs => by rw [narthexlaw17_Own_L1, if_neg (by simp)]) (by omega) rfl
  have e : ∀ (l s : List TSess), l.foldl (fun s x => s ++ [x]) s = s ++ l := by
    intro l
    induction l with
    | nil => simp
    | cons x xs ih => intro s; rw [List.foldl_cons, ih]; simp
  rw [e] at h1
  rw [h1.1]
  rfl
theorem set_self {α : Type} {l : List α} {i : Nat} {x : α} (h : l[i]? = some x) : l.set i x = l := by
  obtain ⟨h1, rfl⟩ := List.getElem?_eq_some_iff.1 h
  simp
theorem sown_eq {N : Nat} {b : TBook} (h : Sm b) (hN : 1000 < N) : sess_own N b = some b := by
  unfold sess_own slices_Clone_Sess
  have hlen := h.1
  rw [app_ok (by simp; omega), Option.bind_some, List.nil_append]
  have h1 := foldR0 (L := sess_own_L1 N b.Sess) (xs := b.Sess) (f := fun s _ => s) (fin := some) (N := N) (s := b.Sess) (fun i s => s = b.Sess) (fun n i s x hs hx => by
    have hl' := (List.getElem?_eq_some_iff.1 hx).1
    have hn := h.2 x (List.mem_of_getElem? hx)
    subst hs
    refine ⟨?_, rfl⟩
    rw [sess_own_L1, if_pos (by simpa using hl'), at_nat, hx, Option.bind_some]
    unfold slices_Clone_int
    rw [app_ok (by simp; omega), Option.bind_some, Option.bind_some, w64_nat (by omega)]
    have e : ({ x with Need := [] ++ x.Need } : TSess) = x := rfl
    rw [e]
    have e2 : ((i : Nat) : Int).toNat = i := by simp
    rw [e2, set_self hx]) (fun n s hs => by rw [sess_own_L1, if_neg (by simp)]) (by omega) rfl
  have e : ∀ (l s : List TSess), l.foldl (fun s _ => s) s = s := by
    intro l
    induction l with
    | nil => simp
    | cons x xs ih => intro s; rw [List.foldl_cons, ih]
  rw [e] at h1
  rw [h1.1]
  rfl
/-- Is a need as it should be? -/
def oddB (l : List Int) : Bool := decide ((l.length : Int) > 64) || l.any fun p => decide (p < 0)
def nOk (l : List Int) : Bool := !oddB l && decide (S l = l)
theorem odd_eq {N : Nat} {l : List Int} (hN : 1000 < N) : sess_odd N l = some (oddB l) := by
  unfold sess_odd oddB
  by_cases h : (l.length : Int) > 64
  · rw [if_neg (by simp [h])]
    simp [h]
  · rw [if_pos (by simp; omega)]
    have h := placeR (L := slices_IndexFunc_int_L1 N l) (xs := l) (q := fun p => decide (p < 0)) (fun k i y hy => by
      have hl' := (List.getElem?_eq_some_iff.1 hy).1
      rw [slices_IndexFunc_int_L1, if_pos (by simpa using hl'), at_nat, hy, Option.bind_some, w64_nat (by omega)]
      rfl) (fun k => by rw [slices_IndexFunc_int_L1, if_neg (by simp)]) N 0 (by omega) (by omega) (by simp)
    rw [show ((0 : Nat) : Int) = 0 from rfl] at h
    unfold slices_ContainsFunc_int slices_IndexFunc_int
    rw [h, Option.bind_some]
    exact congrArg (fun o => Option.bind o fun y1 => some (decide ((l.length : Int) > 64) || y1)) (any_place (fun p => decide (p < 0)) l)
/-- The id ahead of a place. -/
def prev (l : List TSess) : Nat → Int
  | 0 => 0
  | i + 1 => match l[i]? with | some x => x.ID | none => 0
def badS (b : TBook) (i : Nat) (x : TSess) : Bool := decide (x.ID ≤ prev b.Sess i) || decide (x.ID > b.Last) || !nOk x.Need || decide (x.Age < 0) || (!((x.State == 1) && decide (i = 0)) && ((x.State != 0) || (x.Age != 0)))
def badI (b : TBook) (i : Nat) : Bool := match b.Sess[i]? with | some x => badS b i x | none => false
def Okb (b : TBook) : Bool := !((decide (b.Last < 0)) || (decide ((b.Sess.length : Int) > 8))) && !((List.range b.Sess.length).any (badI b))
theorem nat_beq0 {i : Nat} : (((i : Nat) : Int) == 0) = decide (i = 0) := by
  cases i with
  | zero => rfl
  | succ j =>
    rw [Bool.eq_iff_iff]
    simp
    omega
theorem check_eq {N : Nat} {b : TBook} (h : Sm b) (hN : 1000 < N) : sess_Check N b = some (if Okb b = true then 0 else 170) := by
  unfold sess_Check Okb
  cases hc : ((decide (b.Last < 0)) || (decide ((b.Sess.length : Int) > 8))) with
  | true => simp
  | false =>
    rw [if_neg (by simp)]
    have hlen := h.1
    have h1 := findR0 (L := fun n i => sess_Check_L1 N b n (prev b.Sess i.toNat) i) (len := b.Sess.length) (p := badI b) (r := (170 : Int)) (fun n i hi => by
      obtain ⟨x, hx⟩ := some_at hi
      have hn := h.2 x (List.mem_of_getElem? hx)
      show sess_Check_L1 N b (n + 1) (prev b.Sess (((i : Nat) : Int).toNat)) i = _
      have e2 : ((i : Nat) : Int).toNat = i := by simp
      have e3 : ((i + 1 : Nat) : Int).toNat = i + 1 := by simp
      have e4 : prev b.Sess (i + 1) = x.ID := by simp [prev, hx]
      rw [e2, sess_Check_L1, if_pos (by simpa using hi), at_nat, hx, Option.bind_some, w64_nat (by omega), odd_eq hN, Option.bind_some, valid_eq hN (by omega), Option.bind_some]
      show _ = if badI b i = true then some (Sum.inl 170) else sess_Check_L1 N b n (prev b.Sess (((i + 1 : Nat) : Int).toNat)) ((i + 1 : Nat) : Int)
      rw [e3, e4]
      have e5 : badI b i = badS b i x := by simp [badI, hx]
      rw [e5]
      unfold badS nOk
      rw [nat_beq0]
      cases decide (x.ID ≤ prev b.Sess i) <;> cases decide (x.ID > b.Last) <;> cases oddB x.Need <;> cases decide (S x.Need = x.Need) <;> cases decide (x.Age < 0) <;> cases (x.State == 1 && decide (i = 0)) <;> cases (x.State != 0 || x.Age != 0) <;> rfl) (fun n => by
        show sess_Check_L1 N b (n + 1) (prev b.Sess ((b.Sess.length : Int).toNat)) b.Sess.length = _
        rw [sess_Check_L1, if_neg (by simp)]) (N := N) (by omega)
    have h2 : sess_Check_L1 N b N 0 0 = _ := h1
    rw [h2]
    cases (List.range b.Sess.length).any (badI b) <;> rfl
theorem oddB_all {l : List Int} (h : oddB l = false) : l.length ≤ 64 ∧ ∀ p ∈ l, 0 ≤ p := by
  unfold oddB at h
  rw [Bool.or_eq_false_iff, List.any_eq_false] at h
  refine ⟨by have := h.1; simp at this; omega, fun p hp => by have := h.2 p hp; simp at this; omega⟩
/-- What the document calls a need. -/
theorem refneed_eq {N : Nat} {l : List Int} (hN : 1000 < N) (hl : l.length ≤ 70) : narthexref17_need N l = some (nOk l) := by
  unfold narthexref17_need
  have h1 := findR0 (L := narthexref17_need_L1 N l) (len := l.length) (p := fun i => match l[i]? with | some x => decide (x < 0) || (match i with | 0 => false | j + 1 => (match l[j]? with | some y => decide (y ≥ x) | none => false)) | none => false) (r := false) (fun n i hi => by
    obtain ⟨x, hx⟩ := some_at hi
    rw [narthexref17_need_L1, if_pos (by simpa using hi), at_nat, hx, Option.bind_some, w64_nat (by omega)]
    simp only
    by_cases hx0 : x < 0
    · simp [hx0]
    · have e : decide (x < 0) = false := by simpa using hx0
      simp only [e, Bool.not_false, Bool.true_and, Bool.false_or]
      cases i with
      | zero => simp
      | succ j =>
        obtain ⟨y, hy⟩ := some_at (xs := l) (i := j) (by omega)
        have e0 : decide (((j + 1 : Nat) : Int) > 0) = true := by simp
        simp only [e0, if_true, Bool.true_and]
        rw [w64_pred (by omega), at_nat]
        simp only [hy, Option.bind_some]) (fun n => by rw [narthexref17_need_L1, if_neg (by simp)]) (N := N) (by omega)
  rw [h1]
  have key : ((List.range l.length).any fun i => match l[i]? with | some x => decide (x < 0) || (match i with | 0 => false | j + 1 => (match l[j]? with | some y => decide (y ≥ x) | none => false)) | none => false) = !((l.all fun p => !decide (p < 0)) && decide (S l = l)) := by
    rw [Bool.eq_iff_iff, List.any_eq_true, Bool.not_eq_true', Bool.and_eq_false_iff]
    constructor
    · rintro ⟨i, hi, hb⟩
      rw [List.mem_range] at hi
      obtain ⟨x, hx⟩ := some_at hi
      rw [hx] at hb
      simp only [Bool.or_eq_true] at hb
      rcases hb with hb | hb
      · left
        rw [Bool.eq_false_iff]
        intro ha
        rw [List.all_eq_true] at ha
        have := ha x (List.mem_of_getElem? hx)
        rw [hb] at this
        simp at this
      · cases i with
        | zero => simp at hb
        | succ j =>
          obtain ⟨y, hy⟩ := some_at (xs := l) (i := j) (by omega)
          simp only [hy] at hb
          right
          rw [decide_eq_false_iff_not]
          intro hs
          have := pairwise_inc (hs ▸ S_strict l) (Nat.lt_succ_self j) hy hx
          simp at hb
          omega
    · intro h
      cases ha : (l.all fun p => !decide (p < 0)) with
      | false =>
        rw [List.all_eq_false] at ha
        obtain ⟨x, hx, hn⟩ := ha
        obtain ⟨i, hi, rfl⟩ := List.getElem_of_mem hx
        refine ⟨i, List.mem_range.2 hi, ?_⟩
        rw [List.getElem?_eq_getElem hi]
        simp at hn
        simp [hn]
      | true =>
        have hs : ¬ S l = l := by
          rcases h with h | h
          · rw [ha] at h; cases h
          · simpa using h
        by_cases hex : ∃ i, i ∈ List.range l.length ∧ (match l[i]? with | some x => decide (x < 0) || (match i with | 0 => false | j + 1 => (match l[j]? with | some y => decide (y ≥ x) | none => false)) | none => false) = true
        · exact hex
        · exfalso
          apply hs
          refine S_self (inc_pairwise fun k x y hx hy => ?_)
          have hk := (List.getElem?_eq_some_iff.1 hy).1
          have : ¬ _ := fun hb => hex ⟨k + 1, List.mem_range.2 hk, hb⟩
          rw [hy] at this
          simp only [hx] at this
          simp at this
          omega
  rw [key]
  unfold nOk oddB
  have ea : ∀ l : List Int, (l.all fun p => !decide (p < 0)) = !(l.any fun p => decide (p < 0)) := by
    intro l
    induction l with
    | nil => rfl
    | cons x xs ih => rw [List.all_cons, List.any_cons, ih, Bool.not_or]
  rw [ea]
  have eb : decide ((l.length : Int) > 64) = !decide ((l.length : Int) ≤ 64) := by
    rw [Bool.eq_iff_iff]; simp
  rw [eb]
  cases (l.any fun p => decide (p < 0)) <;> cases decide (S l = l) <;> cases decide ((l.length : Int) ≤ 64) <;> rfl
theorem prev_nonneg {b : TBook} (i : Nat) (h : (List.range i).any (badI b) = false) (hi : i ≤ b.Sess.length) : 0 ≤ prev b.Sess i := by
  induction i with
  | zero => simp [prev]
  | succ j ih =>
    obtain ⟨x, hx⟩ := some_at (xs := b.Sess) (i := j) (by omega)
    rw [List.range_succ, List.any_append, Bool.or_eq_false_iff] at h
    have h1 := ih h.1 (by omega)
    have h2 := h.2
    simp [badI, hx, badS] at h2
    simp [prev, hx]
    omega
/-- The first bad place. -/
theorem first_bad {p q : Nat → Bool} {n : Nat} (h : ∀ i, i < n → (List.range i).any q = false → p i = q i) : (List.range n).any p = (List.range n).any q := by
  induction n with
  | zero => rfl
  | succ m ih =>
    have ih := ih (fun i hi => h i (by omega))
    rw [List.range_succ, List.any_append, List.any_append, ih]
    cases hq : (List.range m).any q with
    | true => rfl
    | false =>
      have := h m (by omega) hq
      simp [this]
theorem refcheck_eq {N : Nat} {b : TBook} (h : Sm b) (hN : 1000 < N) : narthexref17_Check N b = some (Okb b) := by
  unfold narthexref17_Check Okb
  cases hc : ((decide (b.Last < 0)) || (decide ((b.Sess.length : Int) > 8))) with
  | true => simp
  | false =>
    rw [if_neg (by simp)]
    have hlen := h.1
    let q : Nat → Bool := fun i => match b.Sess[i]? with
      | none => false
      | some x => ((((decide (x.ID < 1)) || (decide (x.ID > b.Last))) || ((decide ((i : Int) > 0)) && (decide (prev b.Sess i ≥ x.ID)))) || (!nOk x.Need)) || (decide (x.Age < 0)) || (!((x.State == 0) && (x.Age == 0)) && ((x.State != 1) || (decide ((i : Int) > 0))))
    have h1 := findR0 (L := narthexref17_Check_L1 N b) (len := b.Sess.length) (p := q) (r := false) (fun n i hi => by
      obtain ⟨x, hx⟩ := some_at hi
      have hn := h.2 x (List.mem_of_getElem? hx)
      have hq : q i = (((((decide (x.ID < 1)) || (decide (x.ID > b.Last))) || ((decide ((i : Int) > 0)) && (decide (prev b.Sess i ≥ x.ID)))) || (!nOk x.Need)) || (decide (x.Age < 0)) || (!((x.State == 0) && (x.Age == 0)) && ((x.State != 1) || (decide ((i : Int) > 0))))) := by
        simp only [q, hx]
      rw [hq, narthexref17_Check_L1, if_pos (by simpa using hi), at_nat, hx, Option.bind_some, w64_nat (by omega), refneed_eq hN hn]
      cases i with
      | zero =>
        have e0 : decide (((0 : Nat) : Int) > 0) = false := by simp
        rw [e0]
        cases decide (x.ID < 1) <;> cases decide (x.ID > b.Last) <;> cases nOk x.Need <;> cases decide (x.Age < 0) <;> cases (x.State == 0 && x.Age == 0) <;> cases (x.State != 1) <;> simp
      | succ j =>
        obtain ⟨y, hy⟩ := some_at (xs := b.Sess) (i := j) (by omega)
        have e0 : decide (((j + 1 : Nat) : Int) > 0) = true := by simp
        have e4 : prev b.Sess (j + 1) = y.ID := by simp [prev, hy]
        rw [e0, e4, w64_pred (by omega), at_nat, hy]
        cases (decide (x.ID < 1) || decide (x.ID > b.Last)) with
        | true => simp
        | false =>
          simp only [Bool.not_false, Bool.and_true, Bool.true_and, if_true, Option.bind_some, Bool.false_or]
          cases decide (y.ID ≥ x.ID) <;> cases nOk x.Need <;> cases decide (x.Age < 0) <;> cases (x.State == 0 && x.Age == 0) <;> cases (x.State != 1) <;> simp) (fun n => by rw [narthexref17_Check_L1, if_neg (by simp)]) (N := N) (by omega)
    rw [h1]
    have e : (List.range b.Sess.length).any q = (List.range b.Sess.length).any (badI b) := by
      refine first_bad fun i hi hb => ?_
      obtain ⟨x, hx⟩ := some_at hi
      have hp := prev_nonneg i hb (by omega)
      simp only [q, badI, hx, badS]
      have en : (x.State != 1) = !(x.State == 1) := rfl
      have en2 : (x.State != 0) = !(x.State == 0) := rfl
      have en3 : (x.Age != 0) = !(x.Age == 0) := rfl
      rw [en, en2, en3]
      cases i with
      | zero =>
        have e4 : prev b.Sess 0 = 0 := rfl
        have e1 : decide (x.ID < 1) = decide (x.ID ≤ 0) := decide_eq_decide.2 (by omega)
        have e2 : decide (((0 : Nat) : Int) > 0) = false := by simp
        rw [e4, e1, e2]
        cases decide (x.ID ≤ 0) <;> cases decide (x.ID > b.Last) <;> cases nOk x.Need <;> cases decide (x.Age < 0) <;> cases (x.State == 0) <;> cases (x.State == 1) <;> cases (x.Age == 0) <;> rfl
      | succ j =>
        have e2 : decide (((j + 1 : Nat) : Int) > 0) = true := by simp
        have e3 : decide (j + 1 = 0) = false := by simp
        rw [e2, e3]
        by_cases hle : x.ID ≤ prev b.Sess (j + 1)
        · have e1 : decide (x.ID ≤ prev b.Sess (j + 1)) = true := by simpa using hle
          have e5 : decide (prev b.Sess (j + 1) ≥ x.ID) = true := by simpa using hle
          rw [e1]
          simp
        · have e1 : decide (x.ID ≤ prev b.Sess (j + 1)) = false := by simpa using hle
          have e5 : decide (prev b.Sess (j + 1) ≥ x.ID) = false := by simpa using hle
          have e6 : decide (x.ID < 1) = false := by simp; omega
          rw [e1, e6]
          cases decide (x.ID > b.Last) <;> cases nOk x.Need <;> cases decide (x.Age < 0) <;> cases (x.State == 0) <;> cases (x.State == 1) <;> cases (x.Age == 0) <;> rfl
    rw [e]
    cases (List.range b.Sess.length).any (badI b) <;> rfl
/-! The same, told without places. -/
def Waits (x : TSess) : Prop := x.State = 0 ∧ x.Age = 0
def Good1 (top : Int) (x : TSess) : Prop := 1 ≤ x.ID ∧ x.ID ≤ top ∧ nOk x.Need = true ∧ 0 ≤ x.Age ∧ (x.State = 1 ∨ Waits x)
structure Good (b : TBook) : Prop where
  last : 0 ≤ b.Last
  len : b.Sess.length ≤ 8
  inc : b.Sess.Pairwise fun x y => x.ID < y.ID
  all : ∀ x ∈ b.Sess, Good1 b.Last x
  tail : ∀ x ∈ b.Sess.tail, Waits x
theorem bad_false {b : TBook} {i : Nat} {x : TSess} (h : badS b i x = false) : prev b.Sess i < x.ID ∧ x.ID ≤ b.Last ∧ nOk x.Need = true ∧ 0 ≤ x.Age ∧ ((x.State = 1 ∧ i = 0) ∨ Waits x) := by
  unfold badS at h
  simp only [Bool.or_eq_false_iff, decide_eq_false_iff_not, Bool.not_eq_false', Bool.and_eq_false_iff, Bool.and_eq_true, beq_iff_eq, decide_eq_true_eq, bne_eq_false_iff_eq] at h
  obtain ⟨⟨⟨⟨h1, h2⟩, h3⟩, h4⟩, h5⟩ := h
  exact ⟨by omega, by omega, h3, by omega, h5.imp id (fun h => ⟨h.1, h.2⟩)⟩
theorem bad_of {b : TBook} {i : Nat} {x : TSess} (h1 : prev b.Sess i < x.ID) (h2 : x.ID ≤ b.Last) (h3 : nOk x.Need = true) (h4 : 0 ≤ x.Age) (h5 : (x.State = 1 ∧ i = 0) ∨ Waits x) : badS b i x = false := by
  unfold badS
  simp only [Bool.or_eq_false_iff, decide_eq_false_iff_not, Bool.not_eq_false', Bool.and_eq_false_iff, Bool.and_eq_true, beq_iff_eq, decide_eq_true_eq, bne_eq_false_iff_eq]
  exact ⟨⟨⟨⟨by omega, by omega⟩, h3⟩, by omega⟩, h5.imp id (fun h => ⟨h.1, h.2⟩)⟩
theorem inc_ids : ∀ {l : List TSess}, (∀ (k : Nat) (x y : TSess), l[k]? = some x → l[k + 1]? = some y → x.ID < y.ID) → l.Pairwise fun x y => x.ID < y.ID
  | [], _ => .nil
  | [x], _ => by simp
  | x :: y :: l, h => by
    have ih := inc_ids (l := y :: l) (fun k a b ha hb => h (k + 1) a b (by simpa using ha) (by simpa using hb))
    have hxy := h 0 x y (by simp) (by simp)
    refine List.pairwise_cons.2 ⟨fun z hz => ?_, ih⟩
    rcases List.mem_cons.1 hz with rfl | hz
    · exact hxy
    · exact Int.lt_trans hxy ((List.pairwise_cons.1 ih).1 z hz)
theorem good_iff {b : TBook} : Okb b = true ↔ Good b := by
  unfold Okb
  simp only [Bool.and_eq_true, Bool.not_eq_true', Bool.or_eq_false_iff, decide_eq_false_iff_not]
  constructor
  · rintro ⟨⟨h1, h2⟩, h3⟩
    have hb : ∀ i x, b.Sess[i]? = some x → badS b i x = false := by
      intro i x hx
      rw [List.any_eq_false] at h3
      have := h3 i (List.mem_range.2 (List.getElem?_eq_some_iff.1 hx).1)
      simpa [badI, hx] using this
    have hp : ∀ i, 0 ≤ prev b.Sess i := by
      intro i
      induction i with
      | zero => simp [prev]
      | succ j ih =>
        cases hx : b.Sess[j]? with
        | none => simp [prev, hx]
        | some x =>
          have := (bad_false (hb j x hx)).1
          simp [prev, hx]
          omega
    refine ⟨by omega, by omega, inc_ids fun k x y hx hy => ?_, fun x hx => ?_, fun x hx => ?_⟩
    · have := (bad_false (hb _ _ hy)).1
      simpa [prev, hx] using this
    · obtain ⟨i, hi, rfl⟩ := List.getElem_of_mem hx
      have hg := bad_false (hb i _ (List.getElem?_eq_getElem hi))
      have := hp i
      exact ⟨by omega, hg.2.1, hg.2.2.1, hg.2.2.2.1, hg.2.2.2.2.imp (fun h => h.1) id⟩
    · obtain ⟨i, hi, rfl⟩ := List.getElem_of_mem hx
      have hi' : i + 1 < b.Sess.length := by simp at hi; omega
      have e : b.Sess.tail[i] = b.Sess[i + 1] := by simp
      rw [e]
      rcases (bad_false (hb (i + 1) _ (List.getElem?_eq_getElem hi'))).2.2.2.2 with h | h
      · omega
      · exact h
  · intro hg
    refine ⟨⟨by have := hg.last; omega, by have := hg.len; omega⟩, ?_⟩
    rw [List.any_eq_false]
    intro i hi
    obtain ⟨x, hx⟩ := some_at (List.mem_range.1 hi)
    have h1 := hg.all x (List.mem_of_getElem? hx)
    simp only [badI, hx, Bool.not_eq_true]
    refine bad_of ?_ h1.2.1 h1.2.2.1 h1.2.2.2.1 ?_
    · cases i with
      | zero => have := h1.1; simp [prev]; omega
      | succ j =>
        obtain ⟨y, hy⟩ := some_at (xs := b.Sess) (i := j) (by have := List.mem_range.1 hi; omega)
        simp only [prev, hy]
        obtain ⟨h2, rfl⟩ := List.getElem?_eq_some_iff.1 hx
        obtain ⟨h3, rfl⟩ := List.getElem?_eq_some_iff.1 hy
        exact List.pairwise_iff_getElem.1 hg.inc j (j + 1) h3 h2 (by omega)
    · cases i with
      | zero => exact h1.2.2.2.2.imp (fun h => ⟨h, rfl⟩) id
      | succ j =>
        right
        apply hg.tail
        obtain ⟨h2, rfl⟩ := List.getElem?_eq_some_iff.1 hx
        have e : b.Sess.tail[j]'(by simp; omega) = b.Sess[j + 1] := by simp
        rw [← e]
        exact List.getElem_mem _
theorem good_sub {b : TBook} {l : List TSess} (h : Good b) (hl : l.Sublist b.Sess) : Good { b with Sess := l } :=
  ⟨h.last, Nat.le_trans hl.length_le h.len, h.inc.sublist hl, fun x hx => h.all x (hl.subset hx), fun x hx => h.tail x (hl.tail.subset hx)⟩
theorem good_small {b : TBook} (h : Good b) : Sm b := ⟨by have := h.len; omega, fun x hx => by
  have h1 := (h.all x hx).2.2.1
  unfold nOk at h1
  simp only [Bool.and_eq_true, Bool.not_eq_true'] at h1
  have := (oddB_all h1.1).1
  omega⟩
theorem good_nil : Good ⟨0, []⟩ := ⟨by simp, by simp, .nil, by simp, by simp⟩

open S1
theorem nOk_S {l : List Int} : nOk (S l) = !oddB (S l) := by
  unfold nOk
  rw [S_self (S_strict l)]
  simp
theorem len8 {b : TBook} (h : Okb b = true) : b.Sess.length ≤ 8 := (good_iff.1 h).len
def openS (b : TBook) (id : Int) (need : List Int) : TBook × Int :=
  if Okb b = true then (if id ≤ b.Last then (⟨0, []⟩, 171) else if nOk (S need) = true then (if b.Sess.length = 8 then (⟨0, []⟩, 173) else (⟨id, b.Sess ++ [⟨id, S need, 0, 0⟩]⟩, 0)) else (⟨0, []⟩, 172)) else (⟨0, []⟩, 170)
theorem open_eq {N : Nat} {b : TBook} {id : Int} {need : List Int} (h : Sm b) (hn : need.length ≤ 70) (hN : 1000 < N) : sess_Open N b id need = some (openS b id need) := by
  unfold sess_Open openS
  rw [of_eq (by omega), Option.bind_some, check_eq h hN, Option.bind_some, odd_eq hN, sown_eq h hN]
  cases ho : Okb b with
  | false => simp
  | true =>
    have hl := len8 ho
    simp only [if_true]
    by_cases h1 : id ≤ b.Last
    · simp [h1]
    · have e1 : decide (id ≤ b.Last) = false := by simpa using h1
      rw [if_neg h1, e1, nOk_S]
      cases hb : oddB (S need) with
      | true => simp
      | false =>
        by_cases h8 : b.Sess.length = 8
        · simp [h8]
        · have e8 : ((b.Sess.length : Int) == 8) = false := by simp; omega
          rw [e8, if_neg h8]
          simp only [Option.bind_some]
          rw [app_ok (by simp; omega)]
          simp
theorem refopen_eq {N : Nat} {b : TBook} {id : Int} {need : List Int} (h : Sm b) (hn : need.length ≤ 70) (hN : 1000 < N) : narthexref17_Open N b id need = some (openS b id need) := by
  unfold narthexref17_Open openS
  rw [refcheck_eq h hN, Option.bind_some, refof_eq hN (by omega), Option.bind_some, refneed_eq hN (by have := S_len need; omega), Option.bind_some]
  have hl := h.1
  rw [app_ok (by simp; omega), Option.bind_some, List.nil_append, app_ok (by simp; omega), Option.bind_some]
  cases ho : Okb b with
  | false => simp
  | true =>
    have hl := len8 ho
    simp only [if_true]
    rw [if_neg (by simp)]
    by_cases h1 : id ≤ b.Last
    · simp [h1]
    · have e1 : decide (id ≤ b.Last) = false := by simpa using h1
      rw [if_neg h1, e1]
      cases hb : nOk (S need) with
      | false => simp
      | true =>
        by_cases h8 : b.Sess.length = 8
        · simp [h8]
        · have e8 : decide ((b.Sess.length : Int) ≥ 8) = false := by simp; omega
          rw [e8, if_neg h8]
          simp
def grantS (b : TBook) : TBook × Int × Int :=
  if Okb b = true then (match b.Sess with
    | [] => (⟨0, []⟩, 0, 175)
    | x :: xs => if x.State = 1 then (⟨0, []⟩, 0, 175) else (⟨b.Last, { x with State := 1 } :: xs⟩, x.ID, 0)) else (⟨0, []⟩, 0, 170)
theorem grant_eq {N : Nat} {b : TBook} (h : Sm b) (hN : 1000 < N) : sess_Grant N b = some (grantS b) := by
  unfold sess_Grant grantS
  rw [check_eq h hN, Option.bind_some, sown_eq h hN]
  cases ho : Okb b with
  | false => simp
  | true =>
    obtain ⟨last, l⟩ := b
    cases l with
    | nil => simp
    | cons x xs =>
      have e : (((x :: xs).length : Int) == 0) = false := by simp; omega
      simp only [e, if_true, at_zero]
      by_cases h1 : x.State = 1
      · simp [h1]
      · simp [h1]
theorem granted_eq {N : Nat} {b : TBook} : narthexref17_Granted N b = some (match b.Sess with | [] => false | x :: _ => x.State == 1) := by
  unfold narthexref17_Granted
  obtain ⟨last, l⟩ := b
  cases l with
  | nil => simp
  | cons x xs =>
    have e : decide (((x :: xs).length : Int) > 0) = true := by simp
    simp only [e, if_true, at_zero]
    simp
theorem refgrant_eq {N : Nat} {b : TBook} (h : Sm b) (hN : 1000 < N) : narthexref17_Grant N b = some (grantS b) := by
  unfold narthexref17_Grant grantS
  have hl := h.1
  rw [refcheck_eq h hN, Option.bind_some, granted_eq, app_ok (by simp; omega), Option.bind_some, List.nil_append]
  cases ho : Okb b with
  | false => simp
  | true =>
    obtain ⟨last, l⟩ := b
    cases l with
    | nil => simp
    | cons x xs =>
      have e : (((x :: xs).length : Int) == 0) = false := by simp; omega
      simp only [e, if_true, at_zero]
      by_cases h1 : x.State = 1
      · simp [h1]
      · simp [h1]
def findS (l : List TSess) (id : Int) : Option Nat := l.findIdx? fun s => s.ID == id
def placeS (l : List TSess) (id : Int) : Int := match findS l id with | some j => (j : Int) | none => -1
theorem find_eq {N : Nat} {b : TBook} {id : Int} (h : Sm b) (hN : 1000 < N) : sess_find N b id = some (placeS b.Sess id) := by
  unfold sess_find slices_IndexFunc_Sess placeS findS
  have hl := h.1
  have h := placeR (L := slices_IndexFunc_Sess_L1 N b.Sess b.Last b.Sess id) (xs := b.Sess) (q := fun s => s.ID == id) (fun k i y hy => by
    have hl' := (List.getElem?_eq_some_iff.1 hy).1
    rw [slices_IndexFunc_Sess_L1, if_pos (by simpa using hl'), at_nat, hy, Option.bind_some, w64_nat (by omega)]
    rfl) (fun k => by rw [slices_IndexFunc_Sess_L1, if_neg (by simp)]) N 0 (by omega) (by omega) (by simp)
  rw [show ((0 : Nat) : Int) = 0 from rfl] at h
  rw [h, Option.bind_some]
  cases b.Sess.findIdx? fun s => s.ID == id <;> rfl
theorem reffind_eq {N : Nat} {b : TBook} {id : Int} (h : Sm b) (hN : 1000 < N) : narthexref17_Find N b id = some (placeS b.Sess id) := by
  unfold narthexref17_Find placeS findS
  have hl := h.1
  have h := placeR (L := narthexref17_Find_L1 N b id) (xs := b.Sess) (q := fun s => s.ID == id) (fun k i y hy => by
    have hl' := (List.getElem?_eq_some_iff.1 hy).1
    rw [narthexref17_Find_L1, if_pos (by simpa using hl'), at_nat, hy, Option.bind_some, w64_nat (by omega)]) (fun k => by rw [narthexref17_Find_L1, if_neg (by simp)]) N 0 (by omega) (by omega) (by simp)
  rw [show ((0 : Nat) : Int) = 0 from rfl] at h
  rw [h, Option.bind_some]
  cases b.Sess.findIdx? fun s => s.ID == id <;> rfl
theorem findS_some {l : List TSess} {id : Int} {j : Nat} (h : findS l id = some j) : ∃ x, l[j]? = some x ∧ x.ID = id := by
  unfold findS at h
  rw [List.findIdx?_eq_some_iff_getElem] at h
  obtain ⟨h1, h2, _⟩ := h
  exact ⟨_, List.getElem?_eq_getElem h1, by simpa using h2⟩
theorem findS_none {l : List TSess} {id : Int} (h : findS l id = none) : ∀ x ∈ l, x.ID ≠ id := by
  unfold findS at h
  rw [List.findIdx?_eq_none_iff] at h
  intro x hx
  simpa using h x hx
def pollS (b : TBook) (id : Int) : Int × Int :=
  if Okb b = true then (match findS b.Sess id with
    | none => (0, 174)
    | some j => (match b.Sess[j]? with | some x => (x.State, 0) | none => (0, 174))) else (0, 170)
theorem poll_eq {N : Nat} {b : TBook} {id : Int} (h : Sm b) (hN : 1000 < N) : sess_Poll N b id = some (pollS b id) := by
  unfold sess_Poll pollS
  rw [check_eq h hN, Option.bind_some, find_eq h hN]
  cases ho : Okb b with
  | false => simp
  | true =>
    unfold placeS
    cases hf : findS b.Sess id with
    | none => simp
    | some j =>
      obtain ⟨x, hx, _⟩ := findS_some hf
      simp [at_nat, hx]
theorem del_eq {N j : Nat} {c d : Int} {l : List TSess} (hj : j < l.length) (hl : l.length ≤ 1000) : slices_Delete_Sess N j ((j + 1 : Nat) : Int) c d l = some (l.eraseIdx j) := by
  unfold slices_Delete_Sess
  have e1 : sub3? l.length (j : Int) ((j + 1 : Nat) : Int) (l.length : Int) = some () := by
    unfold sub3?
    rw [if_pos (by omega)]
  have e2 : sub? l 0 (j : Int) = some (l.take j) := by
    unfold sub?
    rw [if_pos (by omega)]
    simp
  have e3 : sub? l ((j + 1 : Nat) : Int) (l.length : Int) = some (l.drop (j + 1)) := by
    unfold sub?
    rw [if_pos (by omega)]
    simp only [Int.toNat_natCast, List.take_length]
  rw [e1, Option.bind_some, if_neg (by simp; omega), e2, Option.bind_some, e3, Option.bind_some]
  have e4 : (l.drop (Int.toNat ((j + 1 : Nat) : Int))).take (l.drop (j + 1)).length = l.drop (j + 1) := by
    rw [Int.toNat_natCast, List.take_length]
  rw [e4]
  have e5 : (l.take j).length = j := by simp; omega
  rw [e5]
  generalize hr : l.drop (j + 1) = rest
  have e6 : rest.length = l.length - (j + 1) := by rw [← hr]; simp
  have e7 : cpy l (0 + j) rest.length rest = l.take j ++ rest ++ l.drop (j + rest.length) := by
    simp [cpy]
  have e8 : (cpy l (0 + j) rest.length rest).length = l.length := by
    rw [e7]
    simp
    omega
  rw [e8]
  have e9 : subB? l.length 0 ((j + rest.length : Nat) : Int) (l.length : Int) = some () := by
    unfold subB?
    rw [if_pos (by omega)]
  have e10 : ((j : Int) + (rest.length : Int)) = ((j + rest.length : Nat) : Int) := by simp
  rw [e10, e9, Option.bind_some]
  have e11 : Int.toNat ((j + rest.length : Nat) : Int) = j + rest.length := Int.toNat_natCast _
  rw [e11, Option.some.injEq, List.drop_zero]
  unfold clr
  rw [e7, List.append_assoc, List.take_append_of_le_length (by simp; omega)]
  have e12 : (List.take (0 + (j + rest.length)) (l.take j ++ rest ++ l.drop (j + rest.length))).take (j + rest.length) = l.take j ++ rest := by
    rw [Nat.zero_add, List.take_take, Nat.min_self, List.take_append_of_le_length (by simp; omega)]
    rw [List.take_of_length_le (by simp; omega)]
  rw [e12, ← hr, List.eraseIdx_eq_take_drop_succ]

open S1
def endS (b : TBook) (id want : Int) : TBook × Int :=
  if Okb b = true then (match findS b.Sess id with
    | none => (⟨0, []⟩, 174)
    | some j => (match b.Sess[j]? with | some x => (if x.State = want then ({ b with Sess := b.Sess.eraseIdx j }, 0) else (⟨0, []⟩, 175)) | none => (⟨0, []⟩, 174))) else (⟨0, []⟩, 170)
theorem end_eq {N : Nat} {b : TBook} {id want : Int} (h : Sm b) (hN : 1000 < N) : sess_end N b id want = some (endS b id want) := by
  unfold sess_end endS
  rw [poll_eq h hN, Option.bind_some, sown_eq h hN]
  unfold pollS
  cases ho : Okb b with
  | false => simp
  | true =>
    simp only [if_true]
    cases hf : findS b.Sess id with
    | none => simp
    | some j =>
      obtain ⟨x, hx, _⟩ := findS_some hf
      have hj := (List.getElem?_eq_some_iff.1 hx).1
      simp only [hx]
      by_cases hw : x.State = want
      · simp only [hw, if_true]
        rw [if_neg (by simp), Option.bind_some, if_neg (by simp), Option.bind_some, find_eq h hN, Option.bind_some, Option.bind_some]
        have e : placeS b.Sess id = (j : Int) := by simp [placeS, hf]
        rw [e, w64_nat (by have := h.1; omega), del_eq hj (by have := h.1; omega), Option.bind_some]
      · have e : (x.State != want) = true := by simpa using hw
        rw [if_neg hw, e]
        simp
theorem release_eq {N : Nat} {b : TBook} {id : Int} (h : Sm b) (hN : 1000 < N) : sess_Release N b id = some (endS b id 1) := by
  unfold sess_Release
  rw [end_eq h hN]
  rfl
theorem cancel_eq {N : Nat} {b : TBook} {id : Int} (h : Sm b) (hN : 1000 < N) : sess_Cancel N b id = some (endS b id 0) := by
  unfold sess_Cancel
  rw [end_eq h hN]
  rfl
theorem without_eq {N j : Nat} {b : TBook} (hj : j < b.Sess.length) (hl : b.Sess.length ≤ 1000) : narthexref17_Without N b j = some { b with Sess := b.Sess.eraseIdx j } := by
  unfold narthexref17_Without
  have e2 : sub? b.Sess 0 (j : Int) = some (b.Sess.take j) := by
    unfold sub?
    rw [if_pos (by omega)]
    simp
  have e3 : sub? b.Sess ((j + 1 : Nat) : Int) (b.Sess.length : Int) = some (b.Sess.drop (j + 1)) := by
    unfold sub?
    rw [if_pos (by omega)]
    simp only [Int.toNat_natCast, List.take_length]
  rw [e2, Option.bind_some, app_ok (by simp; omega), Option.bind_some, w64_nat (by omega), e3, Option.bind_some, app_ok (by simp; omega), Option.bind_some, List.nil_append, List.eraseIdx_eq_take_drop_succ]
theorem refend_eq {N : Nat} {b : TBook} {id want : Int} (h : Sm b) (hN : 1000 < N) : narthexref17_End N b id want = some (endS b id want) := by
  unfold narthexref17_End endS
  rw [refcheck_eq h hN, Option.bind_some, reffind_eq h hN]
  cases ho : Okb b with
  | false => simp
  | true =>
    simp only [if_true]
    rw [if_neg (by simp), Option.bind_some]
    unfold placeS
    cases hf : findS b.Sess id with
    | none => simp
    | some j =>
      obtain ⟨x, hx, _⟩ := findS_some hf
      have hj := (List.getElem?_eq_some_iff.1 hx).1
      have hl := h.1
      simp only [hx]
      rw [if_neg (by simp), at_nat, hx, Option.bind_some, without_eq hj (by omega)]
      by_cases hw : x.State = want
      · simp [hw]
      · have e : (x.State != want) = true := by simpa using hw
        rw [if_neg hw, e]
        simp
def older (x : TSess) : TSess := { x with Age := if x.Age < 4611686018427387904 then x.Age + 1 else x.Age }
def tickS (b : TBook) (hold : Int) : TBook × Int × Int :=
  if Okb b = true then (match b.Sess with
    | [] => (b, 0, 0)
    | x :: xs => if x.State = 1 then (if (older x).Age < hold then ({ b with Sess := older x :: xs }, 0, 0) else ({ b with Sess := xs }, x.ID, 0)) else (b, 0, 0)) else (⟨0, []⟩, 0, 170)
theorem tick_eq {N : Nat} {b : TBook} {hold : Int} (h : Sm b) (hN : 1000 < N) : sess_Tick N b hold = some (tickS b hold) := by
  unfold sess_Tick tickS
  rw [check_eq h hN, Option.bind_some, sown_eq h hN]
  cases ho : Okb b with
  | false => simp
  | true =>
    have hg := good_iff.1 ho
    have hl := h.1
    obtain ⟨last, l⟩ := b
    cases l with
    | nil => simp
    | cons x xs =>
      have e : (((x :: xs).length : Int) == 0) = false := by simp; omega
      simp only [e, if_true, at_zero]
      by_cases h1 : x.State = 1
      · have ha : 0 ≤ x.Age := (hg.all x (by simp)).2.2.2.1
        have ea : max x.Age (w64 ((min x.Age 4611686018427387903) + 1)) = (older x).Age := by
          simp only [older]
          by_cases hb : x.Age < 4611686018427387904
          · rw [if_pos hb, w64_is (by omega) (by omega)]
            omega
          · rw [if_neg hb, w64_is (by omega) (by omega)]
            omega
        have eo : ({ x with Age := (older x).Age } : TSess) = older x := rfl
        have ed : ∀ ys : List TSess, ys.length = (x :: xs).length → slices_Delete_Sess N 0 1 last 0 ys = some (ys.eraseIdx 0) := fun ys hy => by
          have := del_eq (N := N) (j := 0) (c := last) (d := 0) (l := ys) (by rw [hy]; simp) (by rw [hy]; have hl' : (x :: xs).length ≤ 12 := hl; omega)
          exact this
        rw [if_neg (by simp)]
        simp only [Option.bind_some, List.getElem?_cons_zero, e, ea, eo, h1]
        rw [ed _ (by simp)]
        simp
        by_cases hh : (older x).Age < hold
        · simp [hh]
          simp [older, h1]
        · simp [hh, h1]
      · have e1 : (x.State != 1) = true := by simpa using h1
        simp [h1]
theorem reftick_eq {N : Nat} {b : TBook} {hold : Int} (h : Sm b) (ho : Okb b = true) (hN : 1000 < N) : narthexref17_Tick N b hold = some ((tickS b hold).1, (tickS b hold).2.1) := by
  unfold narthexref17_Tick tickS
  have hl := h.1
  rw [granted_eq, Option.bind_some, app_ok (by simp; omega), Option.bind_some, List.nil_append]
  have hg := good_iff.1 ho
  simp only [ho, if_true]
  obtain ⟨last, l⟩ := b
  cases l with
  | nil => simp
  | cons x xs =>
    by_cases h1 : x.State = 1
    · have ha : 0 ≤ x.Age := (hg.all x (by simp)).2.2.2.1
      simp only [at_zero, h1]
      rw [if_neg (by simp)]
      simp only [List.getElem?_cons_zero, Option.bind_some]
      have ez : (if decide (x.Age < 4611686018427387904) = true then some ((x :: xs).set (Int.toNat 0) { x with Age := w64 (x.Age + 1) }) else some (x :: xs)) = some (older x :: xs) := by
        simp only [older]
        by_cases hb : x.Age < 4611686018427387904
        · rw [if_pos (by simpa using hb), if_pos hb, w64_is (by omega) (by omega)]
          rfl
        · rw [if_neg (by simpa using hb), if_neg hb]
      rw [ez, Option.bind_some]
      simp only [List.getElem?_cons_zero, Option.bind_some]
      have ew := without_eq (N := N) (j := 0) (b := ⟨last, older x :: xs⟩) (by simp) (by simp at hl ⊢; omega)
      rw [show ((0 : Nat) : Int) = 0 from rfl] at ew
      rw [ew]
      by_cases hh : (older x).Age < hold
      · rw [if_neg (by simp; omega)]
        simp [hh, h1]
      · rw [if_pos (by simp; omega)]
        have oid : (older x).ID = x.ID := rfl
        simp [hh, h1, oid]
    · have e1 : (x.State == 1) = false := by simpa using h1
      simp [h1]
def goes (peer : Int) (x : TSess) : Bool := (x.State == 0) && decide (peer ∈ x.Need)
def goneS (b : TBook) (peer : Int) : TBook × List Int × Int :=
  if Okb b = true then ({ b with Sess := b.Sess.filter fun x => !goes peer x }, (b.Sess.filter (goes peer)).map (·.ID), 0) else (⟨0, []⟩, [], 170)
theorem refgone_eq {N : Nat} {b : TBook} {peer : Int} (h : Sm b) (hN : 1000 < N) : narthexref17_Gone N b peer = some ({ b with Sess := b.Sess.filter fun x => !goes peer x }, (b.Sess.filter (goes peer)).map (·.ID)) := by
  unfold narthexref17_Gone
  have hl := h.1
  have h1 := foldR0 (L := fun n (s : List TSess × List Int) i => narthexref17_Gone_L1 N b peer n s.1 s.2 i) (xs := b.Sess) (f := fun s x => if goes peer x = true then (s.1, s.2 ++ [x.ID]) else (s.1 ++ [x], s.2)) (fin := some) (N := N) (s := ([], [])) (fun i s => s.1.length ≤ i ∧ s.2.length ≤ i) (fun n i s x hs hx => by
    have hl' := (List.getElem?_eq_some_iff.1 hx).1
    have hn := h.2 x (List.mem_of_getElem? hx)
    show narthexref17_Gone_L1 N b peer (n + 1) s.1 s.2 i = _ ∧ _
    rw [narthexref17_Gone_L1, if_pos (by simpa using hl'), at_nat, hx, Option.bind_some, w64_nat (by omega), refhas_eq hN (by omega), app_ok (by simp; omega), app_ok (by simp; omega)]
    unfold goes
    cases hc : (x.State == 0) with
    | true =>
      rw [if_pos rfl, Option.bind_some]
      cases hd : decide (peer ∈ x.Need) with
      | true => exact ⟨rfl, by simp; omega, by simp; omega⟩
      | false => exact ⟨rfl, by simp; omega, by simp; omega⟩
    | false => exact ⟨rfl, by simp; omega, by simp; omega⟩) (fun n s hs => by
      show narthexref17_Gone_L1 N b peer (n + 1) s.1 s.2 b.Sess.length = _
      rw [narthexref17_Gone_L1, if_neg (by simp)]) (by omega) (by simp)
  have h2 : narthexref17_Gone_L1 N b peer N [] [] 0 = _ := h1.1
  rw [h2]
  have e : ∀ (l : List TSess) (s : List TSess × List Int), l.foldl (fun s x => if goes peer x = true then (s.1, s.2 ++ [x.ID]) else (s.1 ++ [x], s.2)) s = (s.1 ++ l.filter (fun x => !goes peer x), s.2 ++ (l.filter (goes peer)).map (·.ID)) := by
    intro l
    induction l with
    | nil => intro s; simp
    | cons x xs ih =>
      intro s
      rw [List.foldl_cons, ih]
      cases hg : goes peer x <;> simp [hg]
  rw [e]
  simp

open S1
/-! Those that go. -/
theorem gone1_eq {N : Nat} {x : TSess} {c0 peer c2 : Int} {l4 : List TSess} {l5 : List Int} (hN : 1000 < N) (hn : x.Need.length ≤ 70) (h5 : l5.length ≤ 1000) : sess_Gone_1 N x c0 peer c2 l4 l5 = some (goes peer x, if goes peer x = true then l5 ++ [x.ID] else l5) := by
  unfold sess_Gone_1 goes
  rw [has_eq hN (by omega), app_ok (by simp; omega)]
  cases hc : (x.State == 0) with
  | true =>
    rw [if_pos rfl, Option.bind_some]
    cases hd : decide (peer ∈ x.Need) with
    | true => rfl
    | false => rfl
  | false => rfl
theorem gone12_eq {N : Nat} {x : TSess} {c0 peer c2 d0 d2 d3 : Int} {d1 : List Int} {l4 : List TSess} {l5 : List Int} (hN : 1000 < N) (hn : x.Need.length ≤ 70) (h5 : l5.length ≤ 1000) : sess_Gone_1_2 N x c0 peer c2 l4 l5 d0 d1 d2 d3 = some (goes peer x, if goes peer x = true then l5 ++ [x.ID] else l5) := by
  unfold sess_Gone_1_2 goes
  rw [has_eq hN (by omega), app_ok (by simp; omega)]
  cases hc : (x.State == 0) with
  | true =>
    rw [if_pos rfl, Option.bind_some]
    cases hd : decide (peer ∈ x.Need) with
    | true => rfl
    | false => rfl
  | false => rfl
theorem idx2_eq {N : Nat} {c0 peer c2 : Int} {l : List TSess} {ids : List Int} (hN : 1000 < N) (hl : l.length ≤ 12) (hn : ∀ x ∈ l, x.Need.length ≤ 70) (hi : ids.length ≤ 900) : ∀ (n i : Nat), l.length < n + i → i ≤ l.length → (∀ x ∈ l.take i, goes peer x = false) →
    slices_IndexFunc_Sess_2_L1 N c0 peer c2 l n ids i = some (match l.findIdx? (goes peer) with | some j => .inl ((j : Int), match l[j]? with | some x => ids ++ [x.ID] | none => ids) | none => .inr ids)
  | 0, i, h, hi', _ => by omega
  | n + 1, i, h, hi', ht => by
    rcases Nat.lt_or_ge i l.length with hlt | hge
    · have hx : l[i]? = some l[i] := List.getElem?_eq_getElem hlt
      rw [slices_IndexFunc_Sess_2_L1, if_pos (by simpa using hlt), at_nat, hx, Option.bind_some, gone1_eq hN (hn _ (List.getElem_mem hlt)) (by omega), Option.bind_some, w64_nat (by omega)]
      cases hq : goes peer l[i] with
      | true =>
        have : l.findIdx? (goes peer) = some i := by
          rw [List.findIdx?_eq_some_iff_getElem]
          refine ⟨hlt, hq, fun j hj => ?_⟩
          have := ht l[j] (by rw [List.mem_take_iff_getElem]; exact ⟨j, by omega, rfl⟩)
          simp [this]
        rw [this]
        simp only [hx, if_true]
      | false =>
        simp only [Bool.false_eq_true, if_false]
        refine idx2_eq hN hl hn hi n (i + 1) (by omega) (by omega) (fun x hx' => ?_)
        rw [List.take_succ_eq_append_getElem hlt, List.mem_append, List.mem_singleton] at hx'
        rcases hx' with h | rfl
        · exact ht x h
        · exact hq
    · have : i = l.length := by omega
      subst this
      have : l.findIdx? (goes peer) = none := by
        rw [List.findIdx?_eq_none_iff]
        intro x hx
        exact ht x (by simpa using hx)
      rw [slices_IndexFunc_Sess_2_L1, if_neg (by simp), this]
/-- The sifting. -/
theorem sift_eq {N : Nat} {c0 peer c2 : Int} {xs : List TSess} (hN : 1000 < N) (hl : xs.length ≤ 12) (hn : ∀ x ∈ xs, x.Need.length ≤ 70) : ∀ (n i j : Nat) (l : List TSess) (ids : List Int), xs.length < n + i → i ≤ xs.length → l.length = xs.length → j < i → l.take j = (xs.take i).filter (fun x => !goes peer x) → l.drop i = xs.drop i → ids.length ≤ i → ids = ((xs.take i).filter (goes peer)).map (·.ID) →
    ∃ l' j', slices_DeleteFunc_Sess_L1 N c0 peer c2 n l ids j i = some (l', (xs.filter (goes peer)).map (·.ID), ((j' : Nat) : Int)) ∧ l'.length = xs.length ∧ j' ≤ l'.length ∧ l'.take j' = xs.filter (fun x => !goes peer x)
  | 0, i, j, l, ids, h, hi, _, _, _, _, _, _ => by omega
  | n + 1, i, j, l, ids, h, hi, hlen, hj, h1, h2, h3, h4 => by
    rcases Nat.lt_or_ge i xs.length with hlt | hge
    · have hx : xs[i]? = some xs[i] := List.getElem?_eq_getElem hlt
      have hx' : l[i]? = some xs[i] := by
        have : (l.drop i)[0]? = (xs.drop i)[0]? := by rw [h2]
        simpa [hx] using this
      generalize xs[i] = x at *
      have hne := hn x (List.mem_of_getElem? hx)
      have ht : xs.take (i + 1) = xs.take i ++ [x] := take_at hx
      have hd : l.drop (i + 1) = xs.drop (i + 1) := by
        have e1 := congrArg (List.drop 1) h2
        simpa using e1
      rw [slices_DeleteFunc_Sess_L1, if_pos (by simp; omega), at_nat, hx', Option.bind_some, gone12_eq hN hne (by omega), Option.bind_some, w64_nat (by omega), w64_nat (by omega)]
      cases hq : goes peer x with
      | true =>
        simp only [Bool.not_true, Bool.false_eq_true, if_false, if_true]
        refine sift_eq hN hl hn n (i + 1) j l (ids ++ [x.ID]) (by omega) (by omega) hlen (by omega) ?_ hd (by simp; omega) ?_
        · rw [h1, ht, List.filter_append]
          simp [hq]
        · rw [h4, ht, List.filter_append]
          simp [hq]
      | false =>
        simp only [Bool.not_false, Bool.false_eq_true, if_false, if_true]
        obtain ⟨y, hy⟩ := some_at (xs := l) (i := j) (by omega)
        rw [at_nat, hy, Option.bind_some]
        have ej : ((j : Nat) : Int).toNat = j := by simp
        rw [ej]
        have hjl : j < l.length := by omega
        refine sift_eq hN hl hn n (i + 1) (j + 1) (l.set j x) ids (by omega) (by omega) (by simp [hlen]) (by omega) ?_ ?_ (by omega) ?_
        · have e0 : (l.set j x)[j]? = some x := by simp [hjl]
          rw [take_at e0, List.take_set_of_le (Nat.le_refl j), h1, ht, List.filter_append]
          simp [hq]
        · rw [List.drop_set_of_lt (by omega), hd]
        · rw [h4, ht, List.filter_append]
          simp [hq]
    · have : i = xs.length := by omega
      subst this
      rw [slices_DeleteFunc_Sess_L1, if_neg (by simp; omega)]
      rw [List.take_length] at h1 h4
      exact ⟨l, j, by rw [h4], hlen, by omega, h1⟩
theorem delfunc_eq {N : Nat} {c0 peer c2 : Int} {l : List TSess} (hN : 1000 < N) (hl : l.length ≤ 12) (hn : ∀ x ∈ l, x.Need.length ≤ 70) : slices_DeleteFunc_Sess N c0 peer c2 l [] = some ((l.filter (goes peer)).map (·.ID), l.filter (fun x => !goes peer x)) := by
  unfold slices_DeleteFunc_Sess slices_IndexFunc_Sess_2
  have h := idx2_eq (N := N) (c0 := c0) (c2 := c2) (peer := peer) (l := l) (ids := []) hN hl hn (by simp) N 0 (by omega) (by omega) (by simp)
  rw [show ((0 : Nat) : Int) = 0 from rfl] at h
  rw [h, Option.bind_some]
  cases hf : l.findIdx? (goes peer) with
  | none =>
    rw [List.findIdx?_eq_none_iff] at hf
    have e1 : l.filter (goes peer) = [] := by
      rw [List.filter_eq_nil_iff]
      intro x hx
      simp [hf x hx]
    have e2 : l.filter (fun x => !goes peer x) = l := by
      rw [List.filter_eq_self]
      intro x hx
      simp [hf x hx]
    rw [e1, e2]
    rfl
  | some k =>
    rw [List.findIdx?_eq_some_iff_getElem] at hf
    obtain ⟨hk, hg, hb⟩ := hf
    have hx : l[k]? = some l[k] := List.getElem?_eq_getElem hk
    have hno : ∀ x ∈ l.take k, goes peer x = false := by
      intro x hx
      rw [List.mem_take_iff_getElem] at hx
      obtain ⟨j, hj, rfl⟩ := hx
      have := hb j (by omega)
      simpa using this
    simp only [hx, Option.bind_some, List.nil_append]
    rw [if_neg (by simp), w64_nat (by omega)]
    have e1 : (l.take k).filter (fun x => !goes peer x) = l.take k := by
      rw [List.filter_eq_self]
      intro x hx
      simp [hno x hx]
    have e2 : (l.take k).filter (goes peer) = [] := by
      rw [List.filter_eq_nil_iff]
      intro x hx
      simp [hno x hx]
    obtain ⟨l', j', h1, h2, h3, h4⟩ := sift_eq (N := N) (c0 := c0) (c2 := c2) (peer := peer) (xs := l) hN hl hn N (k + 1) k l [l[k].ID] (by omega) (by omega) rfl (by omega) (by
      rw [take_at hx, List.filter_append, e1]
      simp [hg]) rfl (by simp) (by
      rw [take_at hx, List.filter_append, e2]
      simp [hg])
    rw [h1, Option.bind_some]
    simp only
    have e3 : sub? l' (j' : Int) (l'.length : Int) = some (l'.drop j') := by
      unfold sub?
      rw [if_pos (by omega)]
      simp only [Int.toNat_natCast, List.take_length]
    rw [e3, Option.bind_some]
    have e4 : clr l' (Int.toNat (j' : Int)) (l'.drop j').length (⟨0, [], 0, 0⟩ : TSess) = l'.take j' ++ List.replicate (l'.length - j') (⟨0, [], 0, 0⟩ : TSess) := by
      unfold clr
      rw [Int.toNat_natCast, List.length_drop, List.drop_of_length_le (by omega), List.append_nil]
    rw [e4]
    have e5 : sub? (l'.take j' ++ List.replicate (l'.length - j') (⟨0, [], 0, 0⟩ : TSess)) 0 (j' : Int) = some (l'.take j') := by
      unfold sub?
      rw [if_pos (by simp; omega)]
      simp only [Int.toNat_natCast, Int.toNat_zero, List.drop_zero]
      rw [List.take_append_of_le_length (by simp; omega), List.take_take, Nat.min_self]
    rw [e5, Option.bind_some, h4]
theorem gone_eq {N : Nat} {b : TBook} {peer : Int} (h : Sm b) (hN : 1000 < N) : sess_Gone N b peer = some (goneS b peer) := by
  unfold sess_Gone goneS
  rw [check_eq h hN, Option.bind_some, sown_eq h hN]
  cases ho : Okb b with
  | false => simp
  | true =>
    simp only [if_true]
    rw [if_neg (by simp), Option.bind_some, delfunc_eq hN h.1 h.2, Option.bind_some]
def actS (b : TBook) (a : Tnarthexlaw17_Act) : TBook × List Int × Int :=
  if a.K = 0 then ((openS b a.ID a.Need).1, [], (openS b a.ID a.Need).2) else if a.K = 1 then ((grantS b).1, [(grantS b).2.1], (grantS b).2.2) else if a.K = 2 then ((endS b a.ID 1).1, [], (endS b a.ID 1).2) else if a.K = 3 then ((endS b a.ID 0).1, [], (endS b a.ID 0).2) else if a.K = 4 then ((tickS b a.N).1, [(tickS b a.N).2.1], (tickS b a.N).2.2) else goneS b a.N
theorem act_eq {N : Nat} {b : TBook} {a : Tnarthexlaw17_Act} (h : Sm b) (ha : a.Need.length ≤ 70) (hN : 1000 < N) : narthexlaw17_act N b a = some (actS b a) := by
  unfold narthexlaw17_act actS
  rw [app_ok (by simp; omega), Option.bind_some, List.nil_append, open_eq h ha hN, grant_eq h hN, release_eq h hN, cancel_eq h hN, tick_eq h hN, gone_eq h hN]
  simp only [Option.bind_some, beq_iff_eq]
  by_cases h0 : a.K = 0
  · simp [h0]
  by_cases h1 : a.K = 1
  · simp [h1]
  by_cases h2 : a.K = 2
  · simp [h2]
  by_cases h3 : a.K = 3
  · simp [h3]
  by_cases h4 : a.K = 4
  · simp [h4]
  · simp [h0, h1, h2, h3, h4]
theorem told_eq {N : Nat} {b : TBook} {a : Tnarthexlaw17_Act} (h : Sm b) (ha : a.Need.length ≤ 70) (hN : 1000 < N) : narthexlaw17_told N b a = some (actS b a) := by
  unfold narthexlaw17_told actS
  rw [refcheck_eq h hN, Option.bind_some]
  cases ho : Okb b with
  | false =>
    have e1 : openS b a.ID a.Need = (⟨0, []⟩, 170) := by simp [openS, ho]
    have e2 : grantS b = (⟨0, []⟩, 0, 170) := by simp [grantS, ho]
    have e3 : ∀ w, endS b a.ID w = (⟨0, []⟩, 170) := by intro w; simp [endS, ho]
    have e4 : tickS b a.N = (⟨0, []⟩, 0, 170) := by simp [tickS, ho]
    have e5 : goneS b a.N = (⟨0, []⟩, [], 170) := by simp [goneS, ho]
    rw [e1, e2, e3, e3, e4, e5]
    by_cases h0 : a.K = 0
    · simp [h0]
    by_cases h1 : a.K = 1
    · simp [h1]
    by_cases h2 : a.K = 2
    · simp [h2]
    by_cases h3 : a.K = 3
    · simp [h3]
    by_cases h4 : a.K = 4
    · simp [h4]
    · simp [h0, h1, h2, h3, h4]
  | true =>
    rw [if_neg (by simp), refopen_eq h ha hN, refgrant_eq h hN, refend_eq h hN, refend_eq h hN, reftick_eq h ho hN, refgone_eq h hN]
    simp only [Option.bind_some, beq_iff_eq]
    have e2 : (tickS b a.N).2.2 = 0 := by
      unfold tickS
      simp only [ho, if_true]
      cases b.Sess with
      | nil => rfl
      | cons x xs =>
        simp only
        by_cases h1 : x.State = 1
        · rw [if_pos h1]
          by_cases h2 : (older x).Age < a.N
          · rw [if_pos h2]
          · rw [if_neg h2]
        · rw [if_neg h1]
    have e5 : goneS b a.N = ({ b with Sess := b.Sess.filter fun x => !goes a.N x }, (b.Sess.filter (goes a.N)).map (·.ID), 0) := by simp [goneS, ho]
    rw [e5]
    by_cases h0 : a.K = 0
    · simp [h0]
    by_cases h1 : a.K = 1
    · simp [h1]
    by_cases h2 : a.K = 2
    · simp [h2]
    by_cases h3 : a.K = 3
    · simp [h3]
    by_cases h4 : a.K = 4
    · simp [h4, e2]
    · simp [h0, h1, h2, h3, h4]

open S1
/-- Two lists are compared. -/
theorem listEq {α : Type} [DecidableEq α] {L : Nat → Int → Option (Bool ⊕ Unit)} {a b : List α} (hl : a.length = b.length) (h1 : ∀ n (i : Nat) x y, a[i]? = some x → b[i]? = some y → L (n + 1) (i : Int) = if x = y then L n ((i + 1 : Nat) : Int) else some (.inl false)) (h2 : ∀ n, L (n + 1) (a.length : Int) = some (.inr ())) {N : Nat} (hN : a.length < N) :
    L N 0 = some (if a = b then .inr () else .inl false) := by
  have h := findR0 (L := L) (len := a.length) (p := fun i => match a[i]?, b[i]? with | some x, some y => !decide (x = y) | _, _ => false) (r := false) (fun n i hi => by
    obtain ⟨x, hx⟩ := some_at hi
    obtain ⟨y, hy⟩ := some_at (xs := b) (i := i) (by omega)
    rw [h1 n i x y hx hy]
    simp only [hx, hy]
    by_cases hxy : x = y
    · simp [hxy]
    · simp [hxy]) h2 hN
  rw [h]
  have e : ((List.range a.length).any fun i => match a[i]?, b[i]? with | some x, some y => !decide (x = y) | _, _ => false) = !decide (a = b) := by
    rw [Bool.eq_iff_iff, List.any_eq_true]
    simp only [Bool.not_eq_true', decide_eq_false_iff_not]
    constructor
    · rintro ⟨i, hi, hb⟩ rfl
      obtain ⟨x, hx⟩ := some_at (List.mem_range.1 hi)
      simp [hx] at hb
    · intro hne
      by_cases hex : ∃ i, i ∈ List.range a.length ∧ (match a[i]?, b[i]? with | some x, some y => !decide (x = y) | _, _ => false) = true
      · exact hex
      · exfalso
        apply hne
        apply List.ext_getElem? 
        intro i
        rcases Nat.lt_or_ge i a.length with hlt | hge
        · obtain ⟨x, hx⟩ := some_at hlt
          obtain ⟨y, hy⟩ := some_at (xs := b) (i := i) (by omega)
          have : ¬ _ := fun hb => hex ⟨i, List.mem_range.2 hlt, hb⟩
          simp only [hx, hy] at this
          simp at this
          rw [hx, hy, this]
        · rw [List.getElem?_eq_none hge, List.getElem?_eq_none (by omega)]
  rw [e]
  by_cases hab : a = b
  · simp [hab]
  · simp [hab]
theorem eqint_eq {N : Nat} {a b : List Int} (hN : 1000 < N) (ha : a.length ≤ 1000) : slices_Equal_int N a b = some (decide (a = b)) := by
  unfold slices_Equal_int
  by_cases hl : a.length = b.length
  · rw [if_neg (by simp [hl])]
    rw [listEq (L := slices_Equal_int_L1 N a b) hl (fun n i x y hx hy => by
      have hl' := (List.getElem?_eq_some_iff.1 hx).1
      rw [slices_Equal_int_L1, if_pos (by simpa using hl'), at_nat, at_nat, hx, hy, Option.bind_some, Option.bind_some, w64_nat (by omega)]
      by_cases hxy : x = y
      · simp [hxy]
      · simp [hxy]) (fun n => by rw [slices_Equal_int_L1, if_neg (by simp)]) (N := N) (by omega), Option.bind_some]
    by_cases hab : a = b
    · simp [hab]
    · simp [hab]
  · rw [if_pos (by simp; omega)]
    have : a ≠ b := fun h => hl (by rw [h])
    simp [this]
theorem sess_ext {x y : TSess} : x = y ↔ x.ID = y.ID ∧ x.State = y.State ∧ x.Age = y.Age ∧ x.Need = y.Need := by
  obtain ⟨a, b, c, d⟩ := x
  obtain ⟨a', b', c', d'⟩ := y
  simp only [TSess.mk.injEq]
  constructor
  · rintro ⟨h1, h2, h3, h4⟩; exact ⟨h1, h3, h4, h2⟩
  · rintro ⟨h1, h2, h3, h4⟩; exact ⟨h1, h4, h2, h3⟩
theorem book_ext {x y : TBook} : x = y ↔ x.Last = y.Last ∧ x.Sess = y.Sess := by
  obtain ⟨a, b⟩ := x
  obtain ⟨a', b'⟩ := y
  simp
theorem same1_eq {N : Nat} {x y : TSess} (hN : 1000 < N) (hx : x.Need.length ≤ 1000) : sess_Same_1 N x y = some (decide (x = y)) := by
  unfold sess_Same_1
  rw [eqint_eq hN hx]
  have e : decide (x = y) = (decide (x.ID = y.ID) && (decide (x.State = y.State) && (decide (x.Age = y.Age) && decide (x.Need = y.Need)))) := by
    rw [Bool.eq_iff_iff]
    simp [sess_ext]
  rw [e]
  by_cases h1 : x.ID = y.ID
  · by_cases h2 : x.State = y.State
    · by_cases h3 : x.Age = y.Age
      · simp [h1, h2, h3]
      · simp [h1, h2, h3]
    · simp [h1, h2]
  · simp [h1]
theorem ssame_eq {N : Nat} {a b : TBook} (ha : Sm a) (hN : 1000 < N) : sess_Same N a b = some (decide (a = b)) := by
  unfold sess_Same
  have e : decide (a = b) = (decide (a.Last = b.Last) && decide (a.Sess = b.Sess)) := by
    rw [Bool.eq_iff_iff]
    simp [book_ext]
  rw [e]
  have hl := ha.1
  have e2 : slices_EqualFunc_Sess N a.Sess b.Sess = some (decide (a.Sess = b.Sess)) := by
    unfold slices_EqualFunc_Sess
    by_cases hlen : a.Sess.length = b.Sess.length
    · rw [if_neg (by simp [hlen])]
      rw [listEq (L := slices_EqualFunc_Sess_L1 N a.Sess b.Sess) hlen (fun n i x y hx hy => by
        have hl' := (List.getElem?_eq_some_iff.1 hx).1
        have hn := ha.2 x (List.mem_of_getElem? hx)
        rw [slices_EqualFunc_Sess_L1, if_pos (by simpa using hl'), at_nat, at_nat, hx, hy, Option.bind_some, Option.bind_some, same1_eq hN (by omega), Option.bind_some, w64_nat (by omega)]
        by_cases hxy : x = y
        · simp [hxy]
        · simp [hxy]) (fun n => by rw [slices_EqualFunc_Sess_L1, if_neg (by simp)]) (N := N) (by omega), Option.bind_some]
      by_cases hab : a.Sess = b.Sess
      · simp [hab]
      · simp [hab]
    · rw [if_pos (by simp; omega)]
      have : a.Sess ≠ b.Sess := fun h => hlen (by rw [h])
      simp [this]
  rw [e2]
  by_cases h1 : a.Last = b.Last
  · simp [h1]
  · simp [h1]
theorem refsame_eq {N : Nat} {a b : TBook} (ha : Sm a) (hN : 1000 < N) : narthexref17_Same N a b = some (decide (a = b)) := by
  unfold narthexref17_Same
  have e : decide (a = b) = (decide (a.Last = b.Last) && decide (a.Sess = b.Sess)) := by
    rw [Bool.eq_iff_iff]
    simp [book_ext]
  rw [e]
  have hl := ha.1
  by_cases h1 : a.Last = b.Last
  · by_cases hlen : a.Sess.length = b.Sess.length
    · rw [if_neg (by simp [hlen, h1])]
      rw [listEq (L := narthexref17_Same_L1 N a b) hlen (fun n i x y hx hy => by
        have hl' := (List.getElem?_eq_some_iff.1 hx).1
        have hn := ha.2 x (List.mem_of_getElem? hx)
        rw [narthexref17_Same_L1, if_pos (by simpa using hl'), at_nat, at_nat, hx, hy, Option.bind_some, Option.bind_some, S1.same_eq hN (by omega), w64_nat (by omega)]
        by_cases g1 : x.ID = y.ID
        · by_cases g2 : x.State = y.State
          · by_cases g3 : x.Age = y.Age
            · by_cases g4 : x.Need = y.Need
              · simp [sess_ext, g1, g2, g3, g4]
              · simp [sess_ext, g1, g2, g3, g4]
            · simp [sess_ext, g1, g2, g3]
          · simp [sess_ext, g1, g2]
        · simp [sess_ext, g1]) (fun n => by rw [narthexref17_Same_L1, if_neg (by simp)]) (N := N) (by omega), Option.bind_some]
      by_cases hab : a.Sess = b.Sess
      · simp [hab, h1]
      · simp [hab, h1]
    · rw [if_pos (by simp; omega)]
      have : a.Sess ≠ b.Sess := fun h => hlen (by rw [h])
      simp [this]
  · rw [if_pos (by simp [h1])]
    simp [h1]
/-- A guard's search goes no further than so many. -/
theorem far {L : Nat → Int → Option (Bool ⊕ Unit)} {m : Nat} (h1 : ∀ n i, i < m → L (n + 1) ((i : Nat) : Int) = some (.inl false) ∨ L (n + 1) (i : Int) = L n ((i + 1 : Nat) : Int)) (h2 : ∀ n, L (n + 1) (m : Int) = some (.inr ())) : ∀ (n i : Nat), m < n + i → i ≤ m → L n (i : Int) = some (.inl false) ∨ L n (i : Int) = some (.inr ())
  | 0, i, h, hi => by omega
  | n + 1, i, h, hi => by
    rcases Nat.lt_or_ge i m with hlt | hge
    · rcases h1 n i hlt with h | h
      · exact .inl h
      · rw [h]
        exact far h1 h2 n (i + 1) (by omega) (by omega)
    · have : i = m := by omega
      subst this
      exact .inr (h2 n)
theorem Few_eq {N : Nat} {b : TBook} (hN : 1000 < N) : ∃ v, narthexref17_Few N b = some v ∧ (v = true → Sm b) := by
  unfold narthexref17_Few
  by_cases hl : b.Sess.length ≤ 12
  · have h := anyR (L := narthexref17_Few_L1 N b) (xs := b.Sess) (q := fun x => decide ((x.Need.length : Int) > 70)) (r := false) (fun n i x hx => by
      have hl' := (List.getElem?_eq_some_iff.1 hx).1
      have e : (decide ((i : Int) < (b.Sess.length : Int)) && decide ((i : Int) < 13)) = true := by simp; omega
      rw [narthexref17_Few_L1, if_pos e, at_nat, hx, Option.bind_some, w64_nat (by omega)]) (fun n => by rw [narthexref17_Few_L1, if_neg (by simp)]) (N := N) (by omega)
    rw [h, Option.bind_some]
    cases ha : b.Sess.any fun x => decide ((x.Need.length : Int) > 70) with
    | true => exact ⟨false, rfl, by simp⟩
    | false =>
      refine ⟨_, rfl, fun _ => ⟨hl, fun x hx => ?_⟩⟩
      rw [List.any_eq_false] at ha
      have := ha x hx
      simp at this
      omega
  · have h := far (L := narthexref17_Few_L1 N b) (m := 13) (fun n i hi => by
      have hl' : i < b.Sess.length := by omega
      obtain ⟨x, hx⟩ := some_at hl'
      have e : (decide ((i : Int) < (b.Sess.length : Int)) && decide ((i : Int) < 13)) = true := by simp; omega
      rw [narthexref17_Few_L1, if_pos e, at_nat, hx, Option.bind_some, w64_nat (by omega)]
      by_cases hq : (x.Need.length : Int) > 70
      · left
        rw [if_pos (by simpa using hq)]
      · right
        rw [if_neg (by simpa using hq)]) (fun n => by rw [narthexref17_Few_L1, if_neg (by simp)]) N 0 (by omega) (by omega)
    rw [show ((0 : Nat) : Int) = 0 from rfl] at h
    rcases h with h | h
    · rw [h]
      exact ⟨false, rfl, by simp⟩
    · rw [h]
      refine ⟨_, rfl, fun hv => ?_⟩
      simp at hv
      omega
def Acts (l : List Tnarthexlaw17_Act) : Prop := l.length ≤ 60 ∧ ∀ a ∈ l, a.Need.length ≤ 70
theorem few_eq {N : Nat} {l : List Tnarthexlaw17_Act} (hN : 1000 < N) : ∃ v, narthexlaw17_few N l = some v ∧ (v = true → Acts l) := by
  unfold narthexlaw17_few
  by_cases hl : l.length ≤ 60
  · have h := anyR (L := narthexlaw17_few_L1 N l) (xs := l) (q := fun x => decide ((x.Need.length : Int) > 70)) (r := false) (fun n i x hx => by
      have hl' := (List.getElem?_eq_some_iff.1 hx).1
      have e : (decide ((i : Int) < (l.length : Int)) && decide ((i : Int) < 61)) = true := by simp; omega
      rw [narthexlaw17_few_L1, if_pos e, at_nat, hx, Option.bind_some, w64_nat (by omega)]) (fun n => by rw [narthexlaw17_few_L1, if_neg (by simp)]) (N := N) (by omega)
    rw [h, Option.bind_some]
    cases ha : l.any fun x => decide ((x.Need.length : Int) > 70) with
    | true => exact ⟨false, rfl, by simp⟩
    | false =>
      refine ⟨_, rfl, fun _ => ⟨hl, fun x hx => ?_⟩⟩
      rw [List.any_eq_false] at ha
      have := ha x hx
      simp at this
      omega
  · have h := far (L := narthexlaw17_few_L1 N l) (m := 61) (fun n i hi => by
      have hl' : i < l.length := by omega
      obtain ⟨x, hx⟩ := some_at hl'
      have e : (decide ((i : Int) < (l.length : Int)) && decide ((i : Int) < 61)) = true := by simp; omega
      rw [narthexlaw17_few_L1, if_pos e, at_nat, hx, Option.bind_some, w64_nat (by omega)]
      by_cases hq : (x.Need.length : Int) > 70
      · left
        rw [if_pos (by simpa using hq)]
      · right
        rw [if_neg (by simpa using hq)]) (fun n => by rw [narthexlaw17_few_L1, if_neg (by simp)]) N 0 (by omega) (by omega)
    rw [show ((0 : Nat) : Int) = 0 from rfl] at h
    rcases h with h | h
    · rw [h]
      exact ⟨false, rfl, by simp⟩
    · rw [h]
      refine ⟨_, rfl, fun hv => ?_⟩
      simp at hv
      omega
theorem awake_ok : ∃ N, 1000 < N ∧ narthexlaw17_awake N = some true := ⟨1001, by omega, by decide +kernel⟩

open S1
theorem open_good {b : TBook} {id : Int} {need : List Int} : Good (openS b id need).1 := by
  unfold openS
  cases ho : Okb b with
  | false => exact good_nil
  | true =>
    have hg := good_iff.1 ho
    rw [if_pos rfl]
    by_cases h1 : id ≤ b.Last
    · rw [if_pos h1]; exact good_nil
    · rw [if_neg h1]
      cases hn : nOk (S need) with
      | false => exact good_nil
      | true =>
        rw [if_pos rfl]
        by_cases h8 : b.Sess.length = 8
        · rw [if_pos h8]; exact good_nil
        · rw [if_neg h8]
          have hl := hg.len
          have h0 := hg.last
          refine ⟨by show 0 ≤ id; omega, by simp; omega, ?_, fun x hx => ?_, fun x hx => ?_⟩
          · refine List.pairwise_append.2 ⟨hg.inc, by simp, fun x hx y hy => ?_⟩
            rw [List.mem_singleton] at hy
            subst hy
            have := (hg.all x hx).2.1
            show x.ID < id
            omega
          · rcases List.mem_append.1 hx with hx | hx
            · have := hg.all x hx
              exact ⟨this.1, by have := this.2.1; show x.ID ≤ id; omega, this.2.2⟩
            · rw [List.mem_singleton] at hx
              subst hx
              exact ⟨by show 1 ≤ id; omega, Int.le_refl _, hn, Int.le_refl _, .inr ⟨rfl, rfl⟩⟩
          · cases hs : b.Sess with
            | nil => simp [hs] at hx
            | cons y ys =>
              simp only [hs, List.cons_append, List.tail_cons, List.mem_append, List.mem_singleton] at hx
              rcases hx with hx | rfl
              · exact hg.tail x (by rw [hs]; exact hx)
              · exact ⟨rfl, rfl⟩
theorem grant_good {b : TBook} : Good (grantS b).1 := by
  unfold grantS
  cases ho : Okb b with
  | false => exact good_nil
  | true =>
    have hg := good_iff.1 ho
    rw [if_pos rfl]
    obtain ⟨last, l⟩ := b
    cases l with
    | nil => exact good_nil
    | cons x xs =>
      simp only
      by_cases h1 : x.State = 1
      · rw [if_pos h1]; exact good_nil
      · rw [if_neg h1]
        have hi := List.pairwise_cons.1 hg.inc
        refine ⟨hg.last, hg.len, List.pairwise_cons.2 ⟨fun y hy => hi.1 y hy, hi.2⟩, fun y hy => ?_, hg.tail⟩
        rcases List.mem_cons.1 hy with rfl | hy
        · have := hg.all x (by simp)
          exact ⟨this.1, this.2.1, this.2.2.1, this.2.2.2.1, .inl rfl⟩
        · exact hg.all y (by simp [hy])
theorem end_good {b : TBook} {id want : Int} : Good (endS b id want).1 := by
  unfold endS
  cases ho : Okb b with
  | false => exact good_nil
  | true =>
    have hg := good_iff.1 ho
    rw [if_pos rfl]
    cases hf : findS b.Sess id with
    | none => exact good_nil
    | some j =>
      simp only
      cases hx : b.Sess[j]? with
      | none => exact good_nil
      | some x =>
        simp only
        by_cases hw : x.State = want
        · rw [if_pos hw]
          exact good_sub hg (List.eraseIdx_sublist _ _)
        · rw [if_neg hw]
          exact good_nil
theorem tick_good {b : TBook} {hold : Int} : Good (tickS b hold).1 := by
  unfold tickS
  cases ho : Okb b with
  | false => exact good_nil
  | true =>
    have hg := good_iff.1 ho
    rw [if_pos rfl]
    obtain ⟨last, l⟩ := b
    cases l with
    | nil => exact hg
    | cons x xs =>
      simp only
      by_cases h1 : x.State = 1
      · rw [if_pos h1]
        have hi := List.pairwise_cons.1 hg.inc
        by_cases hh : (older x).Age < hold
        · rw [if_pos hh]
          refine ⟨hg.last, hg.len, List.pairwise_cons.2 ⟨fun y hy => hi.1 y hy, hi.2⟩, fun y hy => ?_, hg.tail⟩
          rcases List.mem_cons.1 hy with rfl | hy
          · have := hg.all x (by simp)
            refine ⟨this.1, this.2.1, this.2.2.1, ?_, .inl h1⟩
            have := this.2.2.2.1
            simp only [older]
            split <;> omega
          · exact hg.all y (by simp [hy])
        · rw [if_neg hh]
          exact good_sub hg (List.sublist_cons_self x xs)
      · rw [if_neg h1]
        exact hg
theorem gone_good {b : TBook} {peer : Int} : Good (goneS b peer).1 := by
  unfold goneS
  cases ho : Okb b with
  | false => exact good_nil
  | true => exact good_sub (good_iff.1 ho) List.filter_sublist
theorem act_good {b : TBook} {a : Tnarthexlaw17_Act} : Good (actS b a).1 := by
  unfold actS
  split
  · exact open_good
  split
  · exact grant_good
  split
  · exact end_good
  split
  · exact end_good
  split
  · exact tick_good
  · exact gone_good
theorem act_ids {b : TBook} {a : Tnarthexlaw17_Act} (h : Sm b) : (actS b a).2.1.length ≤ 12 := by
  have := h.1
  unfold actS
  split
  · simp
  split
  · simp
  split
  · simp
  split
  · simp
  split
  · simp
  · unfold goneS
    split
    · have := List.length_filter_le (goes a.N) b.Sess
      simp
      omega
    · simp
theorem law_SessSteps (a0 : TBook) (o0 : kBook a0) (a1 : TBook) (o1 : kBook a1) (a2 : Tnarthexlaw17_Act) (o2 : knarthexlaw17_Act a2) (a3 : Int) (o3 : (Lit.int .i64 a3).wf = true) : ∃ N, narthexlaw17_SessSteps N a0 a1 a2 a3 = some true := by
  obtain ⟨N, hN, haw⟩ := awake_ok
  refine ⟨N, ?_⟩
  unfold narthexlaw17_SessSteps
  obtain ⟨v0, hv0, h0⟩ := Few_eq (N := N) (b := a0) hN
  obtain ⟨v1, hv1, h1⟩ := Few_eq (N := N) (b := a1) hN
  obtain ⟨v2, hv2, h2⟩ := few_eq (N := N) (l := [a2]) hN
  rw [haw, hv0, hv1, hv2]
  cases v0 with
  | false => rfl
  | true =>
    cases v1 with
    | false => rfl
    | true =>
      cases v2 with
      | false => rfl
      | true =>
        have h0 := h0 rfl
        have h1 := h1 rfl
        have h2 : a2.Need.length ≤ 70 := (h2 rfl).2 a2 (by simp)
        have hs : Sm (actS a0 { a2 with K := min (max a2.K 0) 5 }).1 := good_small act_good
        have hi := act_ids (b := a0) (a := { a2 with K := min (max a2.K 0) 5 }) h0
        simp only [Bool.not_true, Bool.false_eq_true, if_false, Option.bind_some, own_eq h0 hN, own_eq h1 hN, refsame_eq h0 hN, poll_eq h0 hN, reffind_eq h0 hN, refcheck_eq h0 hN, check_eq h0 hN, ssame_eq h0 hN]
        rw [act_eq h0 (by exact h2) hN, told_eq h0 (by exact h2) hN]
        generalize actS a0 { a2 with K := min (max a2.K 0) 5 } = r at *
        simp only [Option.bind_some]
        rw [refsame_eq hs hN, S1.same_eq hN (by omega)]
        unfold pollS placeS
        cases ho : Okb a0 with
        | false => simp [check_eq h0 hN, ssame_eq h0 hN, ho]
        | true =>
          cases hf : findS a0.Sess a3 with
          | none => simp [check_eq h0 hN, ssame_eq h0 hN, ho]
          | some j =>
            obtain ⟨x, hx, _⟩ := findS_some hf
            simp [hx, at_nat, check_eq h0 hN, ssame_eq h0 hN, ho, (show ¬ ((j : Int) < 0) by omega)]
theorem okb_of {b : TBook} (h : Good b) : Okb b = true := good_iff.2 h
theorem findS_self {l : List TSess} (hi : l.Pairwise fun x y => x.ID < y.ID) {j : Nat} {x : TSess} (hx : l[j]? = some x) : findS l x.ID = some j := by
  obtain ⟨hj, rfl⟩ := List.getElem?_eq_some_iff.1 hx
  unfold findS
  rw [List.findIdx?_eq_some_iff_getElem]
  refine ⟨hj, by simp, fun k hk => ?_⟩
  have := List.pairwise_iff_getElem.1 hi k j (by omega) hj hk
  simp
  omega
theorem pollS_get {b : TBook} (hg : Good b) {j : Nat} {x : TSess} (hx : b.Sess[j]? = some x) : pollS b x.ID = (x.State, 0) := by
  unfold pollS
  rw [okb_of hg, findS_self hg.inc hx]
  simp [hx]
theorem law_SessOpens (a0 : TBook) (o0 : kBook a0) (a1 : Int) (o1 : (Lit.int .i64 a1).wf = true) (a2 : List Int) (o2 : (a2.length ≤ maxLen ∧ ∀ y ∈ a2, (Lit.int .i64 y).wf = true)) : ∃ N, narthexlaw17_SessOpens N a0 a1 a2 = some true := by
  obtain ⟨N, hN, haw⟩ := awake_ok
  refine ⟨N, ?_⟩
  unfold narthexlaw17_SessOpens
  obtain ⟨v0, hv0, h0⟩ := Few_eq (N := N) (b := a0) hN
  rw [haw, hv0]
  cases v0 with
  | false => rfl
  | true =>
    have h0 := h0 rfl
    by_cases h2 : (a2.length : Int) > 70
    · simp [h2]
    · have e2 : decide ((a2.length : Int) > 70) = false := by simpa using h2
      have hs : Sm (openS a0 a1 a2).1 := good_small open_good
      have hgo : Good (openS a0 a1 a2).1 := open_good
      rw [e2, app_ok (by simp; omega)]
      simp only [Bool.not_true, Bool.not_false, Bool.or_false, Bool.false_eq_true, if_false, if_true, Option.bind_some, own_eq h0 hN, List.nil_append, open_eq h0 (show a2.length ≤ 70 by omega) hN]
      by_cases he : (openS a0 a1 a2).2 = 0
      · rw [if_neg (by simp [he])]
        have hok : Okb a0 = true ∧ a0.Last < a1 ∧ openS a0 a1 a2 = (⟨a1, a0.Sess ++ [⟨a1, S a2, 0, 0⟩]⟩, 0) := by
          unfold openS at he ⊢
          cases ho : Okb a0 with
          | false => simp [ho] at he
          | true =>
            by_cases h1 : a1 ≤ a0.Last
            · simp [ho, h1] at he
            · cases hn : nOk (S a2) with
              | false => simp [ho, h1, hn] at he
              | true =>
                by_cases h8 : a0.Sess.length = 8
                · simp [ho, h1, hn, h8] at he
                · exact ⟨rfl, by omega, by simp [h1, h8]⟩
        obtain ⟨ho, hlt, hr⟩ := hok
        rw [hr] at hs hgo ⊢
        simp only at hs hgo ⊢
        have hlen := (good_iff.1 ho).len
        have e5 : openS ⟨a1, a0.Sess ++ [⟨a1, S a2, 0, 0⟩]⟩ a1 [] = (⟨0, []⟩, 171) := by
          unfold openS
          rw [okb_of hgo]
          simp
        have e6 : pollS ⟨a1, a0.Sess ++ [⟨a1, S a2, 0, 0⟩]⟩ a1 = (0, 0) := pollS_get hgo (j := a0.Sess.length) (x := ⟨a1, S a2, 0, 0⟩) (by simp)
        have e7 : w64 ((a0.Sess.length : Int) + 1) = ((a0.Sess.length + 1 : Nat) : Int) := w64_nat (by omega)
        have e8 : at? (a0.Sess ++ [(⟨a1, S a2, 0, 0⟩ : TSess)]) (a0.Sess.length : Int) = some ⟨a1, S a2, 0, 0⟩ := by
          rw [at_nat]
          simp
        have e9 : sess_Check N ⟨a1, a0.Sess ++ [⟨a1, S a2, 0, 0⟩]⟩ = some 0 := by
          rw [check_eq hs hN, okb_of hgo]
          rfl
        rw [own_eq hs hN, Option.bind_some, poll_eq hs hN, Option.bind_some, Option.bind_some, open_eq hs (by simp) hN, e5, e6, Option.bind_some, e7, e8]
        simp [e9]
      · rw [if_pos (by simpa using he)]
        have hz : (openS a0 a1 a2).1 = ⟨0, []⟩ := by
          revert he
          unfold openS
          split
          · split
            · intro _; rfl
            · split
              · split
                · intro _; rfl
                · intro h; exact absurd rfl h
              · intro _; rfl
          · intro _; rfl
        rw [refsame_eq hs hN, hz]
        simp
theorem ids_inj {l : List TSess} (hi : l.Pairwise fun x y => x.ID < y.ID) {x y : TSess} (hx : x ∈ l) (hy : y ∈ l) (h : x.ID = y.ID) : x = y := by
  obtain ⟨i, hi', rfl⟩ := List.getElem_of_mem hx
  obtain ⟨j, hj', rfl⟩ := List.getElem_of_mem hy
  rcases Nat.lt_trichotomy i j with hlt | rfl | hgt
  · have := List.pairwise_iff_getElem.1 hi i j hi' hj' hlt
    omega
  · rfl
  · have := List.pairwise_iff_getElem.1 hi j i hj' hi' hgt
    omega
theorem placeS_ge {l : List TSess} {id : Int} : decide (placeS l id ≥ 0) = decide (∃ x ∈ l, x.ID = id) := by
  unfold placeS
  cases hf : findS l id with
  | none =>
    have := findS_none hf
    rw [Bool.eq_iff_iff]
    simp
    exact this
  | some j =>
    obtain ⟨x, hx, he⟩ := findS_some hf
    have : ∃ x ∈ l, x.ID = id := ⟨x, List.mem_of_getElem? hx, he⟩
    simp [this]
theorem law_SessGone (a0 : TBook) (o0 : kBook a0) (a1 : Int) (o1 : (Lit.int .i64 a1).wf = true) : ∃ N, narthexlaw17_SessGone N a0 a1 = some true := by
  obtain ⟨N, hN, haw⟩ := awake_ok
  refine ⟨N, ?_⟩
  unfold narthexlaw17_SessGone
  obtain ⟨v0, hv0, h0⟩ := Few_eq (N := N) (b := a0) hN
  rw [haw, hv0]
  cases v0 with
  | false => rfl
  | true =>
    have h0 := h0 rfl
    simp only [Bool.not_true, Bool.not_false, Bool.or_false, Bool.false_eq_true, if_false, if_true, Option.bind_some, own_eq h0 hN, gone_eq h0 hN]
    cases ho : Okb a0 with
    | false =>
      have e : goneS a0 a1 = (⟨0, []⟩, [], 170) := by simp [goneS, ho]
      rw [e]
      rfl
    | true =>
      have hg := good_iff.1 ho
      have hlen := h0.1
      have e : goneS a0 a1 = ({ a0 with Sess := a0.Sess.filter fun x => !goes a1 x }, (a0.Sess.filter (goes a1)).map (·.ID), 0) := by simp [goneS, ho]
      have hgc : Good (goneS a0 a1).1 := gone_good
      rw [e] at hgc ⊢
      simp only at hgc ⊢
      generalize hC : ({ a0 with Sess := a0.Sess.filter fun x => !goes a1 x } : TBook) = C at *
      have hCs : C.Sess = a0.Sess.filter fun x => !goes a1 x := by rw [← hC]
      have hsc := good_small hgc
      have hlf := List.length_filter_le (goes a1) a0.Sess
      rw [if_neg (by simp)]
      have hL := anyR (L := narthexlaw17_SessGone_L1 N a0 a1 (C, (a0.Sess.filter (goes a1)).map (·.ID), 0)) (xs := a0.Sess) (q := fun _ => false) (r := false) (fun n i x hx => by
        have hl' := (List.getElem?_eq_some_iff.1 hx).1
        have hxm := List.mem_of_getElem? hx
        have hn := h0.2 x hxm
        rw [narthexlaw17_SessGone_L1, if_pos (by simpa using hl'), at_nat, hx, Option.bind_some, w64_nat (by omega), refhas_eq hN (by omega), refhas_eq hN (by simp; omega), reffind_eq hsc hN]
        have hgo : Option.bind (if (x.State == 0) = true then some (decide (a1 ∈ x.Need)) else some default) (fun y10 => some ((x.State == 0) && y10)) = some (goes a1 x) := by
          unfold goes
          cases x.State == 0 <;> rfl
        have e1 : decide (x.ID ∈ (a0.Sess.filter (goes a1)).map (·.ID)) = goes a1 x := by
          rw [Bool.eq_iff_iff, decide_eq_true_eq, List.mem_map]
          constructor
          · rintro ⟨y, hy, he⟩
            rw [List.mem_filter] at hy
            rw [← ids_inj hg.inc hy.1 hxm he]
            exact hy.2
          · intro hgx
            exact ⟨x, List.mem_filter.2 ⟨hxm, hgx⟩, rfl⟩
        have e2 : decide (placeS C.Sess x.ID ≥ 0) = !goes a1 x := by
          rw [placeS_ge, hCs, Bool.eq_iff_iff, decide_eq_true_eq]
          constructor
          · rintro ⟨y, hy, he⟩
            rw [List.mem_filter] at hy
            rw [← ids_inj hg.inc hy.1 hxm he]
            exact hy.2
          · intro hgx
            exact ⟨x, List.mem_filter.2 ⟨hxm, hgx⟩, rfl⟩
        simp only at e1 ⊢
        rw [e1]
        unfold goes at e2 ⊢
        cases hc : (x.State == 0) with
        | true =>
          rw [hc] at e2
          simp only [Bool.true_and, if_true, Option.bind_some] at e2 ⊢
          cases hd : decide (a1 ∈ x.Need) with
          | true => rw [hd] at e2; simp only [beq_self_eq_true, Bool.not_true, Bool.not_false, if_true, Option.bind_some]; rw [e2]; rfl
          | false => rw [hd] at e2; simp only [beq_self_eq_true, Bool.not_true, Bool.not_false, if_true, Option.bind_some]; rw [e2]; rfl
        | false =>
          rw [hc] at e2
          simp only [Bool.false_and, Bool.false_eq_true, if_false, beq_self_eq_true, Bool.not_true, Bool.not_false, if_true, Option.bind_some] at e2 ⊢
          rw [e2]
          rfl) (fun n => by rw [narthexlaw17_SessGone_L1, if_neg (by simp)]) (N := N) (by omega)
      rw [hL]
      have e0 : (a0.Sess.any fun _ => false) = false := by simp
      rw [e0]
      simp only [Bool.false_eq_true, if_false, Option.bind_some, own_eq hsc hN, gone_eq hsc hN]
      have e3 : goneS C a1 = (C, [], 0) := by
        have e4 : C.Sess.filter (goes a1) = [] := by
          rw [hCs, List.filter_filter, List.filter_eq_nil_iff]
          intro x hx
          simp
        have e5 : C.Sess.filter (fun x => !goes a1 x) = C.Sess := by
          rw [hCs, List.filter_filter]
          simp
        unfold goneS
        rw [okb_of hgc, if_pos rfl, e4, e5]
        rfl
      rw [e3]
      have e6 : w64 ((C.Sess.length : Int) + (((a0.Sess.filter (goes a1)).map (·.ID)).length : Int)) = (a0.Sess.length : Int) := by
        have : C.Sess.length + (a0.Sess.filter (goes a1)).length = a0.Sess.length := by
          rw [hCs]
          have hall : ∀ l : List TSess, (l.filter fun x => !goes a1 x).length + (l.filter (goes a1)).length = l.length := by
            intro l
            induction l with
            | nil => rfl
            | cons x xs ih =>
              cases hq : goes a1 x <;> simp [hq] <;> omega
          exact hall _
        rw [List.length_map, w64_is (by omega) (by omega)]
        omega
      simp only
      rw [hCs] at e6
      rw [e6, refsame_eq hsc hN]
      simp

open S1
theorem w64_id {i : Int} (h1 : 1 ≤ i) (h2 : i ≤ 100) : w64 (i + 1) = i + 1 := w64_is (by omega) (by omega)
theorem grant_ok {b : TBook} (h : Okb b = true) : grantS b = (⟨0, []⟩, 0, 175) ∨ ∃ x xs, b.Sess = x :: xs ∧ Waits x ∧ grantS b = (⟨b.Last, { x with State := 1 } :: xs⟩, x.ID, 0) := by
  have hg := good_iff.1 h
  unfold grantS
  rw [if_pos h]
  cases hs : b.Sess with
  | nil => exact .inl rfl
  | cons x xs =>
    simp only
    by_cases h1 : x.State = 1
    · rw [if_pos h1]; exact .inl rfl
    · rw [if_neg h1]
      right
      refine ⟨x, xs, rfl, ?_, rfl⟩
      rcases (hg.all x (by rw [hs]; simp)).2.2.2.2 with h | h
      · exact absurd h h1
      · exact h
theorem held_loop {N : Nat} {a0 : TBook} {hold a2 last : Int} {x : TSess} {xs : List TSess} {y : TBook × Int × Int} (hN : 1000 < N) (hy : y.2.1 = x.ID) (hs : a0.Sess.length = xs.length + 1) : ∀ (n : Nat) (i : Int) (z : TSess), 1 ≤ i → i ≤ 61 → 62 < n + i → z.ID = x.ID → z.State = 1 → z.Age = i - 1 → Good ⟨last, z :: xs⟩ →
    narthexlaw17_SessHeld_L1 N a0 hold a2 y n last (z :: xs) i = some (.inl true) ∨ ∃ z', narthexlaw17_SessHeld_L1 N a0 hold a2 y n last (z :: xs) i = some (.inr (last, z' :: xs)) ∧ z'.ID = x.ID ∧ z'.State = 1 ∧ Good ⟨last, z' :: xs⟩
  | 0, i, z, h1, h2, h3, _, _, _, _ => by omega
  | n + 1, i, z, h1, h2, h3, hid, hst, hage, hg => by
    have hsm := good_small hg
    rw [narthexlaw17_SessHeld_L1]
    by_cases hm : i ≤ min (w64 (((w64 a2).tmod 60) + 1)) 60
    · have hi60 : i ≤ 60 := by omega
      have hz := hg.all z (by simp)
      have hid1 : 1 ≤ x.ID := by have := hz.1; omega
      have ho : (older z).Age = i := by
        simp only [older]
        rw [if_pos (by omega)]
        omega
      rw [if_pos (by simpa using hm), own_eq hsm hN, Option.bind_some, tick_eq hsm hN, Option.bind_some, hy]
      have ht : tickS ⟨last, z :: xs⟩ hold = if i < hold then (⟨last, older z :: xs⟩, 0, 0) else (⟨last, xs⟩, x.ID, 0) := by
        unfold tickS
        rw [okb_of hg, if_pos rfl]
        simp only
        rw [if_pos hst, ho, hid]
      rw [ht]
      by_cases hh : i < hold
      · rw [if_pos hh]
        have e1 : ((0 : Int) == x.ID) = false := by simp; omega
        have e2 : decide (i ≥ hold) = false := by simp; omega
        simp only [e1, e2]
        rw [if_neg (by simp), if_neg (by simp), w64_id h1 (by omega)]
        have hgo : Good ⟨last, older z :: xs⟩ := by
          have := tick_good (b := ⟨last, z :: xs⟩) (hold := hold)
          rw [ht, if_pos hh] at this
          exact this
        exact held_loop hN hy hs n (i + 1) (older z) (by omega) (by omega) (by omega) hid hst (by omega) hgo
      · rw [if_neg hh]
        have e2 : decide (i ≥ hold) = true := by simp; omega
        have hgo : Good ⟨last, xs⟩ := good_sub hg (List.sublist_cons_self z xs)
        simp only [e2, beq_self_eq_true]
        rw [if_neg (by simp), if_pos trivial, reffind_eq (good_small hgo) hN, Option.bind_some]
        left
        have e3 : findS xs x.ID = none := by
          unfold findS
          rw [List.findIdx?_eq_none_iff]
          intro w hw
          have := (List.pairwise_cons.1 hg.inc).1 w hw
          simp
          omega
        have e4 : w64 ((a0.Sess.length : Int) - 1) = (xs.length : Int) := by
          have := hgo.len
          simp only at this
          rw [w64_is (by omega) (by omega)]
          omega
        rw [e4]
        simp [placeS, e3]
    · rw [if_neg (by simpa using hm)]
      exact .inr ⟨z, rfl, hid, hst, hg⟩
theorem law_SessHeld (a0 : TBook) (o0 : kBook a0) (a1 : Int) (o1 : (Lit.int .i64 a1).wf = true) (a2 : Int) (o2 : (Lit.int .u8 a2).wf = true) : ∃ N, narthexlaw17_SessHeld N a0 a1 a2 = some true := by
  obtain ⟨N, hN, haw⟩ := awake_ok
  refine ⟨N, ?_⟩
  unfold narthexlaw17_SessHeld
  obtain ⟨v0, hv0, h0⟩ := Few_eq (N := N) (b := a0) hN
  rw [haw, hv0]
  cases v0 with
  | false => rfl
  | true =>
    have h0 := h0 rfl
    simp only [Bool.not_true, Bool.not_false, Bool.or_false, Bool.false_or, Bool.false_eq_true, if_false, if_true, Option.bind_some, own_eq h0 hN, check_eq h0 hN, grant_eq h0 hN]
    cases ho : Okb a0 with
    | false => rfl
    | true =>
      simp only [if_true]
      rw [if_neg (by simp)]
      rcases grant_ok ho with hr | ⟨x, xs, hs, hw, hr⟩
      · rw [hr]
        rfl
      · have hgg : Good (grantS a0).1 := grant_good
        rw [hr] at hgg ⊢
        simp only at hgg ⊢
        rw [if_neg (by simp)]
        rcases held_loop (N := N) (a0 := a0) (hold := a1) (a2 := a2) (last := a0.Last) (x := x) (xs := xs) (y := (⟨a0.Last, { x with State := 1 } :: xs⟩, x.ID, 0)) hN rfl (by rw [hs]; rfl) N 1 { x with State := 1 } (by omega) (by omega) (by omega) rfl rfl (by show x.Age = 1 - 1; rw [hw.2]; rfl) hgg with h | ⟨z, h, hid, hst, hgz⟩
        · rw [h]
          rfl
        · rw [h, Option.bind_some]
          simp only
          have hsz := good_small hgz
          have hp := pollS_get hgz (j := 0) (x := z) (by simp)
          rw [own_eq hsz hN, Option.bind_some, poll_eq hsz hN, Option.bind_some, ← hid, hp, hst]
          rfl
/-- Who waits behind an act waited ahead of it, or is new. -/
theorem act_waits {b : TBook} {a : Tnarthexlaw17_Act} (hk : a.K ≠ 1) (he : (actS b a).2.2 = 0) : b.Last ≤ (actS b a).1.Last ∧ ∀ y ∈ (actS b a).1.Sess, y.State = 0 → y ∈ b.Sess ∨ b.Last < y.ID := by
  unfold actS at he ⊢
  by_cases h0 : a.K = 0
  · rw [if_pos h0] at he ⊢
    simp only at he ⊢
    unfold openS at he ⊢
    cases ho : Okb b with
    | false => simp [ho] at he
    | true =>
      by_cases h1 : a.ID ≤ b.Last
      · simp [ho, h1] at he
      · cases hn : nOk (S a.Need) with
        | false => simp [ho, h1, hn] at he
        | true =>
          by_cases h8 : b.Sess.length = 8
          · simp [ho, h1, hn, h8] at he
          · simp only [if_true, if_neg h1, if_neg h8]
            refine ⟨by omega, fun y hy _ => ?_⟩
            rcases List.mem_append.1 hy with hy | hy
            · exact .inl hy
            · rw [List.mem_singleton] at hy
              subst hy
              right
              show b.Last < a.ID
              omega
  · rw [if_neg h0, if_neg hk] at he ⊢
    have hend : ∀ w, (endS b a.ID w).2 = 0 → b.Last ≤ (endS b a.ID w).1.Last ∧ ∀ y ∈ (endS b a.ID w).1.Sess, y.State = 0 → y ∈ b.Sess ∨ b.Last < y.ID := by
      intro w he
      unfold endS at he ⊢
      cases ho : Okb b with
      | false => simp [ho] at he
      | true =>
        simp only [ho, if_true] at he ⊢
        cases hf : findS b.Sess a.ID with
        | none => simp [hf] at he
        | some j =>
          obtain ⟨x, hx, _⟩ := findS_some hf
          simp only [hf, hx] at he ⊢
          by_cases hw : x.State = w
          · simp only [if_pos hw]
            exact ⟨Int.le_refl _, fun y hy _ => .inl ((List.eraseIdx_sublist _ _).subset hy)⟩
          · simp [hw] at he
    by_cases h2 : a.K = 2
    · rw [if_pos h2] at he ⊢
      exact hend 1 he
    · rw [if_neg h2] at he ⊢
      by_cases h3 : a.K = 3
      · rw [if_pos h3] at he ⊢
        exact hend 0 he
      · rw [if_neg h3] at he ⊢
        by_cases h4 : a.K = 4
        · rw [if_pos h4] at he ⊢
          simp only at he ⊢
          unfold tickS at he ⊢
          cases ho : Okb b with
          | false => simp [ho] at he
          | true =>
            simp only [if_true]
            cases hs : b.Sess with
            | nil => exact ⟨Int.le_refl _, fun y hy _ => by simp [hs] at hy⟩
            | cons x xs =>
              simp only
              by_cases h1 : x.State = 1
              · rw [if_pos h1]
                by_cases hh : (older x).Age < a.N
                · rw [if_pos hh]
                  refine ⟨Int.le_refl _, fun y hy hy0 => ?_⟩
                  rcases List.mem_cons.1 hy with rfl | hy
                  · have : x.State = 0 := hy0
                    omega
                  · exact .inl (by simp [hy])
                · rw [if_neg hh]
                  exact ⟨Int.le_refl _, fun y hy _ => .inl (by simp only at hy; simp [hy])⟩
              · rw [if_neg h1]
                exact ⟨Int.le_refl _, fun y hy _ => .inl (by rw [hs] at hy; exact hy)⟩
        · rw [if_neg h4] at he ⊢
          unfold goneS at he ⊢
          cases ho : Okb b with
          | false => simp [ho] at he
          | true =>
            simp only [if_true]
            exact ⟨Int.le_refl _, fun y hy _ => .inl (List.mem_filter.1 hy).1⟩
theorem order_loop {N : Nat} {l : List Tnarthexlaw17_Act} (hN : 1000 < N) (hl : Acts l) : ∀ (n i : Nat) (b : TBook) (s : Int), l.length < n + i → i ≤ l.length → Good b → s ≤ b.Last → (∀ x ∈ b.Sess, x.State = 0 → s < x.ID) → narthexlaw17_SessOrder_L1 N l n b.Last b.Sess s i = some (.inr ())
  | 0, i, b, s, h, hi, _, _, _ => by omega
  | n + 1, i, b, s, h, hi, hg, hs, hw => by
    have hlen := hl.1
    rw [narthexlaw17_SessOrder_L1]
    rcases Nat.lt_or_ge i l.length with hlt | hge
    · obtain ⟨a, ha⟩ := some_at hlt
      have hn := hl.2 a (List.mem_of_getElem? ha)
      have hsm := good_small hg
      have eb : (⟨b.Last, b.Sess⟩ : TBook) = b := rfl
      rw [if_pos (by simpa using hlt), at_nat, ha, Option.bind_some, eb, own_eq hsm hN, Option.bind_some, act_eq hsm (by exact hn) hN, Option.bind_some, w64_nat (by omega)]
      generalize hA : ({ a with K := min (max a.K 0) 5 } : Tnarthexlaw17_Act) = A
      have hK : min (max a.K 0) 5 = A.K := by rw [← hA]
      rw [hK]
      have hgr : Good (actS b A).1 := act_good
      have hwt := act_waits (b := b) (a := A)
      by_cases he : (actS b A).2.2 = 0
      · rw [if_neg (by simpa using he), check_eq (good_small hgr) hN, okb_of hgr, if_pos rfl, Option.bind_some, if_neg (by simp)]
        by_cases hk : A.K = 1
        · rw [if_pos (by simpa using hk)]
          have hr : actS b A = ((grantS b).1, [(grantS b).2.1], (grantS b).2.2) := by
            unfold actS
            rw [if_neg (by omega), if_pos hk]
          rw [hr] at he ⊢
          rcases grant_ok (okb_of hg) with hq | ⟨x, xs, hxs, hwx, hq⟩
          · rw [hq] at he
            simp at he
          · rw [hq]
            have hxm : x ∈ b.Sess := by rw [hxs]; simp
            have hlt' := hw x hxm hwx.1
            simp only [at_zero]
            rw [if_pos (by simp)]
            simp only [List.getElem?_cons_zero, Option.bind_some]
            rw [if_neg (by simp; omega)]
            have hgg : Good ⟨b.Last, { x with State := 1 } :: xs⟩ := by
              have := grant_good (b := b)
              rw [hq] at this
              exact this
            refine order_loop hN hl n (i + 1) ⟨b.Last, { x with State := 1 } :: xs⟩ x.ID (by omega) (by omega) hgg (hg.all x hxm).2.1 (fun y hy hy0 => ?_)
            rcases List.mem_cons.1 hy with rfl | hy
            · have : (1 : Int) = 0 := hy0
              omega
            · have hi' := hg.inc
              rw [hxs] at hi'
              exact (List.pairwise_cons.1 hi').1 y hy
        · rw [if_neg (by simpa using hk)]
          obtain ⟨h1, h2⟩ := hwt hk he
          refine order_loop hN hl n (i + 1) (actS b A).1 s (by omega) (by omega) hgr (by omega) (fun y hy hy0 => ?_)
          rcases h2 y hy hy0 with h | h
          · exact hw y h hy0
          · omega
      · rw [if_pos (by simpa using he)]
        exact order_loop hN hl n (i + 1) b s (by omega) (by omega) hg hs hw
    · rw [if_neg (by simpa using hge)]
theorem law_SessOrder (a0 : List Tnarthexlaw17_Act) (o0 : (a0.length ≤ maxLen ∧ ∀ y ∈ a0, knarthexlaw17_Act y)) : ∃ N, narthexlaw17_SessOrder N a0 = some true := by
  obtain ⟨N, hN, haw⟩ := awake_ok
  refine ⟨N, ?_⟩
  unfold narthexlaw17_SessOrder
  obtain ⟨v, hv, h⟩ := few_eq (N := N) (l := a0) hN
  rw [haw, hv]
  cases v with
  | false => rfl
  | true =>
    have h := h rfl
    simp only [Bool.not_true, Bool.not_false, Bool.or_false, Bool.false_eq_true, if_false, if_true, Option.bind_some]
    have := order_loop (N := N) (l := a0) hN h N 0 ⟨0, []⟩ 0 (by have := h.1; omega) (by omega) good_nil (by simp) (by simp)
    rw [show ((0 : Nat) : Int) = 0 from rfl] at this
    rw [this]
    rfl

open S1
def ids (b : TBook) : List Int := b.Sess.map (·.ID)
theorem erase_perm {l : List TSess} {j : Nat} {x : TSess} (h : l[j]? = some x) (m : List Int) : ((m ++ [x.ID]) ++ (l.eraseIdx j).map (·.ID)).Perm (m ++ l.map (·.ID)) := by
  have e : l = l.take j ++ x :: l.drop (j + 1) := by
    rw [← drop_at h, List.take_append_drop]
  rw [List.eraseIdx_eq_take_drop_succ]
  conv => rhs; rw [e]
  simp only [List.map_append, List.map_cons, List.append_assoc]
  refine List.Perm.append_left m ?_
  rw [List.singleton_append]
  exact List.perm_middle.symm
theorem ends_act {b : TBook} {a : Tnarthexlaw17_Act} (hg : Good b) (he : (actS b a).2.2 = 0) :
    (a.K = 0 ∧ b.Last < a.ID ∧ (actS b a).1.Last = a.ID ∧ ids (actS b a).1 = ids b ++ [a.ID]) ∨
    (a.K ≠ 0 ∧ (actS b a).1.Last = b.Last ∧
      ((a.K = 1 ∧ ids (actS b a).1 = ids b) ∨
       ((a.K = 2 ∨ a.K = 3) ∧ ∀ m : List Int, ((m ++ [a.ID]) ++ ids (actS b a).1).Perm (m ++ ids b)) ∨
       (a.K = 4 ∧ ∃ g, (actS b a).2.1 = [g] ∧ ((g = 0 ∧ ids (actS b a).1 = ids b) ∨ (g ≠ 0 ∧ ids b = g :: ids (actS b a).1))) ∨
       (a.K ≠ 1 ∧ a.K ≠ 2 ∧ a.K ≠ 3 ∧ a.K ≠ 4 ∧ (actS b a).2.1.length ≤ 12 ∧ ∀ m : List Int, ((m ++ (actS b a).2.1) ++ ids (actS b a).1).Perm (m ++ ids b)))) := by
  have ho := okb_of hg
  by_cases h0 : a.K = 0
  · left
    unfold actS at he ⊢
    rw [if_pos h0] at he ⊢
    simp only at he ⊢
    unfold openS at he ⊢
    by_cases h1 : a.ID ≤ b.Last
    · simp [ho, h1] at he
    · cases hn : nOk (S a.Need) with
      | false => simp [ho, h1, hn] at he
      | true =>
        by_cases h8 : b.Sess.length = 8
        · simp [ho, h1, hn, h8] at he
        · simp only [ho, if_true, if_neg h1, if_neg h8]
          exact ⟨h0, by omega, trivial, by simp [ids]⟩
  · right
    refine ⟨h0, ?_⟩
    by_cases h1 : a.K = 1
    · have hr : actS b a = ((grantS b).1, [(grantS b).2.1], (grantS b).2.2) := by
        unfold actS
        rw [if_neg (by omega), if_pos h1]
      rw [hr] at he ⊢
      rcases grant_ok ho with hq | ⟨x, xs, hxs, hwx, hq⟩
      · rw [hq] at he
        simp at he
      · rw [hq]
        exact ⟨rfl, .inl ⟨h1, by simp [ids, hxs]⟩⟩
    · have hend : ∀ w, (endS b a.ID w).2 = 0 → (endS b a.ID w).1.Last = b.Last ∧ ∀ m : List Int, ((m ++ [a.ID]) ++ ids (endS b a.ID w).1).Perm (m ++ ids b) := by
        intro w he
        unfold endS at he ⊢
        simp only [ho, if_true] at he ⊢
        cases hf : findS b.Sess a.ID with
        | none => simp [hf] at he
        | some j =>
          obtain ⟨x, hx, hid⟩ := findS_some hf
          simp only [hf, hx] at he ⊢
          by_cases hw : x.State = w
          · simp only [if_pos hw]
            refine ⟨trivial, fun m => ?_⟩
            have := erase_perm hx m
            rw [hid] at this
            exact this
          · simp [hw] at he
      by_cases h2 : a.K = 2
      · have hr : actS b a = ((endS b a.ID 1).1, [], (endS b a.ID 1).2) := by
          unfold actS
          rw [if_neg (by omega), if_neg (by omega), if_pos h2]
        rw [hr] at he ⊢
        obtain ⟨g1, g2⟩ := hend 1 he
        exact ⟨g1, .inr (.inl ⟨.inl h2, g2⟩)⟩
      · by_cases h3 : a.K = 3
        · have hr : actS b a = ((endS b a.ID 0).1, [], (endS b a.ID 0).2) := by
            unfold actS
            rw [if_neg (by omega), if_neg (by omega), if_neg (by omega), if_pos h3]
          rw [hr] at he ⊢
          obtain ⟨g1, g2⟩ := hend 0 he
          exact ⟨g1, .inr (.inl ⟨.inr h3, g2⟩)⟩
        · by_cases h4 : a.K = 4
          · have hr : actS b a = ((tickS b a.N).1, [(tickS b a.N).2.1], (tickS b a.N).2.2) := by
              unfold actS
              rw [if_neg (by omega), if_neg (by omega), if_neg (by omega), if_neg (by omega), if_pos h4]
            rw [hr]
            unfold tickS
            rw [if_pos ho]
            cases hs : b.Sess with
            | nil => exact ⟨rfl, .inr (.inr (.inl ⟨h4, 0, rfl, .inl ⟨rfl, rfl⟩⟩))⟩
            | cons x xs =>
              simp only
              by_cases h1 : x.State = 1
              · rw [if_pos h1]
                by_cases hh : (older x).Age < a.N
                · rw [if_pos hh]
                  exact ⟨rfl, .inr (.inr (.inl ⟨h4, 0, rfl, .inl ⟨rfl, by simp [ids, hs, older]⟩⟩))⟩
                · rw [if_neg hh]
                  have := (hg.all x (by simp [hs])).1
                  exact ⟨rfl, .inr (.inr (.inl ⟨h4, x.ID, rfl, .inr ⟨by omega, by simp [ids, hs]⟩⟩))⟩
              · rw [if_neg h1]
                exact ⟨rfl, .inr (.inr (.inl ⟨h4, 0, rfl, .inl ⟨rfl, rfl⟩⟩))⟩
          · have hr : actS b a = goneS b a.N := by
              unfold actS
              rw [if_neg (by omega), if_neg (by omega), if_neg (by omega), if_neg (by omega), if_neg (by omega)]
            rw [hr]
            unfold goneS
            rw [if_pos ho]
            refine ⟨rfl, .inr (.inr (.inr ⟨h1, h2, h3, h4, ?_, fun m => ?_⟩))⟩
            · have := List.length_filter_le (goes a.N) b.Sess
              have := hg.len
              simp
              omega
            · rw [List.append_assoc]
              refine List.Perm.append_left m ?_
              simp only [ids]
              rw [← List.map_append]
              exact (List.filter_append_perm (goes a.N) b.Sess).map _
structure Ends (l1 l2 : List Int) (b : TBook) : Prop where
  perm : (l2 ++ ids b).Perm l1
  nodup : l1.Nodup
  last : ∀ i ∈ l1, i ≤ b.Last
theorem ends_loop {N : Nat} {l : List Tnarthexlaw17_Act} (hN : 1000 < N) (hl : Acts l) : ∀ (n i : Nat) (b : TBook) (l1 l2 : List Int), l.length < n + i → i ≤ l.length → Good b → l1.length ≤ i → Ends l1 l2 b →
    ∃ l1' l2' b', narthexlaw17_SessEnds_L1 N l n l1 l2 b.Last b.Sess i = some (.inr (l1', l2', b'.Last, b'.Sess)) ∧ Good b' ∧ l1'.length ≤ 60 ∧ Ends l1' l2' b'
  | 0, i, b, l1, l2, h, hi, _, _, _ => by omega
  | n + 1, i, b, l1, l2, h, hi, hg, hn1, hE => by
    have hlen := hl.1
    have hpl := hE.perm.length_eq
    rw [List.length_append] at hpl
    rw [narthexlaw17_SessEnds_L1]
    rcases Nat.lt_or_ge i l.length with hlt | hge
    · obtain ⟨a, ha⟩ := some_at hlt
      have hn := hl.2 a (List.mem_of_getElem? ha)
      have hsm := good_small hg
      have eb : (⟨b.Last, b.Sess⟩ : TBook) = b := rfl
      rw [if_pos (by simpa using hlt), at_nat, ha, Option.bind_some, eb, own_eq hsm hN, Option.bind_some, act_eq hsm (by exact hn) hN, Option.bind_some, w64_nat (by omega)]
      generalize hA : ({ a with K := min (max a.K 0) 5 } : Tnarthexlaw17_Act) = A
      have hK : min (max a.K 0) 5 = A.K := by rw [← hA]
      have hID : a.ID = A.ID := by rw [← hA]
      have hKr : 0 ≤ A.K ∧ A.K ≤ 5 := by rw [← hK]; omega
      rw [hK, hID]
      have hgr : Good (actS b A).1 := act_good
      have hsr := good_small hgr
      by_cases he : (actS b A).2.2 = 0
      · rw [if_neg (by simpa using he)]
        rcases ends_act hg he with ⟨k, k1, k2, k3⟩ | ⟨k, k1, k2⟩
        · rw [if_pos (by simpa using k), app_ok (by simp; omega), Option.bind_some]
          refine ends_loop hN hl n (i + 1) (actS b A).1 (l1 ++ [A.ID]) l2 (by omega) (by omega) hgr (by simp; omega) ⟨?_, ?_, ?_⟩
          · rw [k3, ← List.append_assoc]
            exact List.Perm.append_right _ hE.perm
          · rw [List.nodup_append]
            refine ⟨hE.nodup, by simp, fun x hx y hy => ?_⟩
            rw [List.mem_singleton] at hy
            have := hE.last x hx
            omega
          · intro x hx
            rw [k2]
            rcases List.mem_append.1 hx with hx | hx
            · have := hE.last x hx
              omega
            · rw [List.mem_singleton] at hx
              omega
        · rw [if_neg (by simpa using k)]
          have hlast : ∀ i ∈ l1, i ≤ (actS b A).1.Last := by rw [k1]; exact hE.last
          rcases k2 with ⟨k, k3⟩ | ⟨k, k3⟩ | ⟨k, g, k3, k4⟩ | ⟨n1, n2, n3, n4, k3, k4⟩
          · rw [if_neg (by simp [k]), Option.bind_some, if_neg (by simp [k]), if_neg (by simp [k]), if_neg (by simp [k])]
            exact ends_loop hN hl n (i + 1) (actS b A).1 l1 l2 (by omega) (by omega) hgr (by omega) ⟨by rw [k3]; exact hE.perm, hE.nodup, hlast⟩
          · have e : (Option.bind (if (A.K == 2) = true then some (A.K == 2) else some (A.K == 3)) fun z12 => if z12 = true then Option.bind (app? l2 [A.ID]) fun x13 => narthexlaw17_SessEnds_L1 N l n l1 x13 (actS b A).1.Last (actS b A).1.Sess ((i + 1 : Nat) : Int) else (none : Option (Bool ⊕ List Int × List Int × Int × List TSess))) = narthexlaw17_SessEnds_L1 N l n l1 (l2 ++ [A.ID]) (actS b A).1.Last (actS b A).1.Sess ((i + 1 : Nat) : Int) := by
              rw [app_ok (by simp; omega)]
              rcases k with k | k
              · simp [k]
              · simp [k]
            have e2 : (if (A.K == 2) = true then some (A.K == 2) else some (A.K == 3)) = some true := by
              rcases k with k | k <;> simp [k]
            rw [e2, Option.bind_some, if_pos rfl, app_ok (by simp; omega), Option.bind_some]
            exact ends_loop hN hl n (i + 1) (actS b A).1 l1 (l2 ++ [A.ID]) (by omega) (by omega) hgr (by omega) ⟨(k3 l2).trans hE.perm, hE.nodup, hlast⟩
          · rw [if_neg (by simp [k]), Option.bind_some, if_neg (by simp [k]), if_pos (by simp [k]), k3, at_zero]
            simp only [List.getElem?_cons_zero, Option.bind_some]
            rcases k4 with ⟨g0, k5⟩ | ⟨g0, k5⟩
            · rw [if_neg (by simp [g0])]
              exact ends_loop hN hl n (i + 1) (actS b A).1 l1 l2 (by omega) (by omega) hgr (by omega) ⟨by rw [k5]; exact hE.perm, hE.nodup, hlast⟩
            · rw [if_pos (by simpa using g0), app_ok (by simp; omega), Option.bind_some]
              refine ends_loop hN hl n (i + 1) (actS b A).1 l1 (l2 ++ [g]) (by omega) (by omega) hgr (by omega) ⟨?_, hE.nodup, hlast⟩
              have := hE.perm
              rw [k5] at this
              rw [List.append_assoc]
              exact this
          · have k5 : A.K = 5 := by omega
            rw [if_neg (by simp [k5]), Option.bind_some, if_neg (by simp [k5]), if_neg (by simp [k5]), if_pos (by simp [k5]), app_ok (by omega), Option.bind_some]
            exact ends_loop hN hl n (i + 1) (actS b A).1 l1 (l2 ++ (actS b A).2.1) (by omega) (by omega) hgr (by omega) ⟨(k4 l2).trans hE.perm, hE.nodup, hlast⟩
      · rw [if_pos (by simpa using he)]
        have hz : (actS b A).1 = ⟨0, []⟩ := by
          revert he
          unfold actS
          have h1 : (openS b A.ID A.Need).2 ≠ 0 → (openS b A.ID A.Need).1 = ⟨0, []⟩ := by
            unfold openS
            split
            · split
              · intro _; rfl
              · split
                · split
                  · intro _; rfl
                  · intro h; exact absurd rfl h
                · intro _; rfl
            · intro _; rfl
          have h2 : (grantS b).2.2 ≠ 0 → (grantS b).1 = ⟨0, []⟩ := by
            rcases grant_ok (okb_of hg) with hq | ⟨x, xs, hxs, hwx, hq⟩
            · rw [hq]; intro _; rfl
            · rw [hq]; intro h; exact absurd rfl h
          have h3 : ∀ w, (endS b A.ID w).2 ≠ 0 → (endS b A.ID w).1 = ⟨0, []⟩ := by
            intro w
            unfold endS
            split
            · split
              · intro _; rfl
              · split
                · split
                  · intro h; exact absurd rfl h
                  · intro _; rfl
                · intro _; rfl
            · intro _; rfl
          have h4 : (tickS b A.N).2.2 = 0 := by
            unfold tickS
            rw [if_pos (okb_of hg)]
            split
            · rfl
            · split
              · split <;> rfl
              · rfl
          have h5 : (goneS b A.N).2.2 = 0 := by
            unfold goneS
            rw [if_pos (okb_of hg)]
          split
          · exact h1
          split
          · exact h2
          split
          · exact h3 1
          split
          · exact h3 0
          split
          · intro h; exact absurd h4 h
          · intro h; exact absurd h5 h
        rw [hz, refsame_eq (good_small good_nil) hN, Option.bind_some, if_neg (by simp)]
        exact ends_loop hN hl n (i + 1) b l1 l2 (by omega) (by omega) hg (by omega) hE
    · rw [if_neg (by simpa using hge)]
      exact ⟨l1, l2, b, rfl, hg, by omega, hE⟩
theorem law_SessEnds (a0 : List Tnarthexlaw17_Act) (o0 : (a0.length ≤ maxLen ∧ ∀ y ∈ a0, knarthexlaw17_Act y)) : ∃ N, narthexlaw17_SessEnds N a0 = some true := by
  obtain ⟨N, hN, haw⟩ := awake_ok
  refine ⟨N, ?_⟩
  unfold narthexlaw17_SessEnds
  obtain ⟨v, hv, h⟩ := few_eq (N := N) (l := a0) hN
  rw [haw, hv]
  cases v with
  | false => rfl
  | true =>
    have h := h rfl
    simp only [Bool.not_true, Bool.not_false, Bool.or_false, Bool.false_eq_true, if_false, if_true, Option.bind_some]
    obtain ⟨l1, l2, b, hL, hg, hl1, hE⟩ := ends_loop (N := N) (l := a0) hN h N 0 ⟨0, []⟩ [] [] (by have := h.1; omega) (by omega) good_nil (by simp) ⟨by simp [ids], by simp, by simp⟩
    rw [show ((0 : Nat) : Int) = 0 from rfl] at hL
    simp only at hL
    rw [hL, Option.bind_some]
    simp only
    have hpl := hE.perm.length_eq
    rw [List.length_append] at hpl
    have hib : (ids b).length = b.Sess.length := by simp [ids]
    have hnd : (l2 ++ ids b).Nodup := hE.perm.nodup_iff.2 hE.nodup
    rw [List.nodup_append] at hnd
    have hsm := good_small hg
    have h2 := findR0 (L := narthexlaw17_SessEnds_L2 N (l1, l2, b.Last, b.Sess)) (len := l2.length) (p := fun _ => false) (r := false) (fun n i hi => by
      obtain ⟨x, hx⟩ := some_at hi
      have hxm := List.mem_of_getElem? hx
      have e1 : sub? l2 0 (i : Int) = some (l2.take i) := by
        unfold sub?
        rw [if_pos (by omega)]
        simp
      have eb : (⟨b.Last, b.Sess⟩ : TBook) = b := rfl
      have e2 : decide (x ∈ l2.take i) = false := by
        rw [decide_eq_false_iff_not]
        intro hm
        rw [List.mem_take_iff_getElem] at hm
        obtain ⟨j, hj, he⟩ := hm
        obtain ⟨hi', rfl⟩ := List.getElem?_eq_some_iff.1 hx
        have := List.pairwise_iff_getElem.1 hnd.1 j i (by omega) hi' (by omega)
        exact this he
      have e3 : decide (x ∈ l1) = true := by
        rw [decide_eq_true_eq]
        exact hE.perm.mem_iff.1 (List.mem_append_left _ hxm)
      have e4 : decide (placeS b.Sess x ≥ 0) = false := by
        rw [placeS_ge, decide_eq_false_iff_not]
        rintro ⟨s, hs, hid⟩
        exact hnd.2.2 x hxm s.ID (List.mem_map.2 ⟨s, hs, rfl⟩) hid.symm
      rw [narthexlaw17_SessEnds_L2, if_pos (by simpa using hi)]
      simp only
      rw [e1, Option.bind_some, at_nat, hx, Option.bind_some, refhas_eq hN (by simp; omega), e2]
      simp only [Option.bind_some, Bool.not_false, if_true, refhas_eq hN (show l1.length ≤ 1000 by omega), e3, Bool.not_true, Bool.or_false, Bool.false_or, eb, reffind_eq hsm hN, e4, w64_nat (show i < 1000000000 by omega)]) (fun n => by rw [narthexlaw17_SessEnds_L2, if_neg (by simp)]) (N := N) (by omega)
    rw [h2]
    have e0 : ((List.range l2.length).any fun _ => false) = false := by simp
    rw [e0]
    simp only [Bool.false_eq_true, if_false, Option.bind_some]
    have hlen := hg.len
    rw [w64_is (by omega) (by omega)]
    have e5 : ((l1.length : Int) == (l2.length : Int) + (b.Sess.length : Int)) = true := by simp; omega
    have e6 : decide ((b.Sess.length : Int) ≤ 8) = true := by simp; omega
    rw [e5, e6]
    rfl

end Go.Proofs.Ythlocamkdmaflaa
