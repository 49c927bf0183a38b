/- The plain laws: what the models come to. -/
import Derived.Test.YtlbopfkhnebegaaMod
namespace Go.Proofs.Ytlbopfkhnebegaa
open Go Go.Nx
set_option linter.unusedVariables false
set_option linter.unusedSimpArgs false
set_option maxRecDepth 8000
theorem w64_nat {i : Nat} (h : i < 1000000000) : w64 ((i : Int) + 1) = ((i + 1 : Nat) : Int) := by
  have : IntKind.i64.wrap ((i : Int) + 1) = (i : Int) + 1 := wrap_i64 (by omega) (by omega)
  simpa using this
theorem w64_is {n : Int} (h1 : -9223372036854775808 ≤ n) (h2 : n < 9223372036854775808) : w64 n = n := wrap_i64 h1 h2
theorem at_nat {α : Type} {xs : List α} {i : Nat} : at? xs (i : Int) = xs[i]? := by
  simp [at?]
theorem drop_at {α : Type} {xs : List α} {i : Nat} {x : α} (h : xs[i]? = some x) : xs.drop i = x :: xs.drop (i + 1) := by
  obtain ⟨hl, rfl⟩ := List.getElem?_eq_some_iff.1 h
  exact List.drop_eq_getElem_cons hl
theorem take_at {α : Type} {xs : List α} {i : Nat} {x : α} (h : xs[i]? = some x) : xs.take (i + 1) = xs.take i ++ [x] := by
  obtain ⟨hl, rfl⟩ := List.getElem?_eq_some_iff.1 h
  simp
theorem some_at {α : Type} {xs : List α} {i : Nat} (h : i < xs.length) : ∃ x, xs[i]? = some x := ⟨_, List.getElem?_eq_getElem h⟩
theorem app_ok {α : Type} {xs ys : List α} (h : xs.length + ys.length ≤ 1000000) : app? xs ys = some (xs ++ ys) := by
  simp [app?]
  omega

/-! Sets of integers: in order, each once. -/
theorem dedG_mem {p : Int} : ∀ {l : List Int}, (p :: l).Pairwise (· ≤ ·) → (dedG p l).Pairwise (· < ·) ∧ (∀ x, x ∈ dedG p l ↔ x ∈ l ∧ x ≠ p) ∧ ∀ x ∈ dedG p l, p < x
  | [], _ => by simp [dedG]
  | y :: ys, h => by
    rw [List.pairwise_cons] at h
    have h2 := h.2
    rw [List.pairwise_cons] at h2
    obtain ⟨i1, i2, i3⟩ := dedG_mem (p := y) (l := ys) h.2
    have hpy := h.1 y (by simp)
    unfold dedG
    split
    · rename_i he
      subst he
      refine ⟨i1, fun x => ?_, i3⟩
      rw [i2]
      constructor
      · rintro ⟨a, b⟩; exact ⟨List.mem_cons_of_mem _ a, b⟩
      · rintro ⟨a, b⟩
        rcases List.mem_cons.1 a with a | a
        · exact absurd a b
        · exact ⟨a, b⟩
    · rename_i he
      refine ⟨List.pairwise_cons.2 ⟨i3, i1⟩, fun x => ?_, fun x hx => ?_⟩
      · rw [List.mem_cons, List.mem_cons, i2]
        constructor
        · rintro (rfl | ⟨a, b⟩)
          · exact ⟨.inl rfl, he⟩
          · refine ⟨.inr a, fun e => ?_⟩
            have := h2.1 x a
            omega
        · rintro ⟨a | a, b⟩
          · exact .inl a
          · by_cases hxy : x = y
            · exact .inl hxy
            · exact .inr ⟨a, hxy⟩
      · rcases List.mem_cons.1 hx with rfl | hx
        · omega
        · have := i3 x hx
          omega
def S (l : List Int) : List Int := dedup (isort l)
theorem dedup_mem {l : List Int} (h : l.Pairwise (· ≤ ·)) : (dedup l).Pairwise (· < ·) ∧ ∀ x, x ∈ dedup l ↔ x ∈ l := by
  cases l with
  | nil => simp [dedup]
  | cons p l =>
    obtain ⟨i1, i2, i3⟩ := dedG_mem h
    refine ⟨List.pairwise_cons.2 ⟨i3, i1⟩, fun x => ?_⟩
    rw [dedup, List.mem_cons, List.mem_cons, i2]
    constructor
    · rintro (a | ⟨a, _⟩)
      · exact .inl a
      · exact .inr a
    · rintro (a | a)
      · exact .inl a
      · by_cases hx : x = p
        · exact .inl hx
        · exact .inr ⟨a, hx⟩
theorem S_strict (l : List Int) : (S l).Pairwise (· < ·) := (dedup_mem (isort_sorted l)).1
theorem S_mem {l : List Int} {x : Int} : x ∈ S l ↔ x ∈ l := ((dedup_mem (isort_sorted l)).2 x).trans (isort_perm l).mem_iff
theorem S_len (l : List Int) : (S l).length ≤ l.length := by
  have := dedup_le (isort l)
  rwa [length_isort] at this
theorem strict_ext : ∀ {s t : List Int}, s.Pairwise (· < ·) → t.Pairwise (· < ·) → (∀ x, x ∈ s ↔ x ∈ t) → s = t := by
  intro s t hs ht h
  refine List.Perm.eq_of_pairwise (le := (· < ·)) (fun a b _ _ h1 h2 => by omega) hs ht ?_
  have hn : ∀ {u : List Int}, u.Pairwise (· < ·) → u.Nodup := fun hu => hu.imp (fun h => by omega)
  exact (List.perm_ext_iff_of_nodup (hn hs) (hn ht)).2 h
theorem S_eq {l s : List Int} (hs : s.Pairwise (· < ·)) (h : ∀ x, x ∈ s ↔ x ∈ l) : S l = s := strict_ext (S_strict l) hs fun x => S_mem.trans (h x).symm
theorem S_self {s : List Int} (hs : s.Pairwise (· < ·)) : S s = s := S_eq hs fun _ => Iff.rfl

theorem own_eq {N : Nat} {l : List Int} (h : l.length ≤ 1000) : narthexlaw01_own N l = some l := by
  simp [narthexlaw01_own, app_ok (xs := ([] : List Int)) (ys := l) (by simp; omega)]
theorem of_eq {N : Nat} {l : List Int} (h : l.length ≤ 1000) : set_Of N l = some (S l) := by
  have h1 : slices_Clone_int N l = some l := by simp [slices_Clone_int, app_ok (xs := ([] : List Int)) (ys := l) (by simp; omega)]
  have h2 : sort? l = some (isort l) := by rw [sort?, if_pos (by omega)]
  have h3 : ded? (isort l) = some (S l) := by rw [ded?, if_pos (by rw [length_isort]; omega)]; rfl
  simp [set_Of, h1, h2, h3]

/-! Are two lists the same? -/
theorem same_loop {N : Nat} {a b : List Int} (hl : a.length = b.length) (hb : a.length ≤ 1000) : ∀ (n i : Nat), a.length < n + i → i ≤ a.length →
    ∃ z, narthexref01_Same_L1 N a b n i = some z ∧ (match z with | .inl r => r = false ∧ a.drop i ≠ b.drop i | .inr _ => a.drop i = b.drop i)
  | 0, i, h, hi => by omega
  | n + 1, i, h, hi => by
    rw [narthexref01_Same_L1]
    by_cases hlt : i < a.length
    · obtain ⟨x, hx⟩ := some_at hlt
      obtain ⟨y, hy⟩ := some_at (xs := b) (i := i) (by omega)
      rw [if_pos (by simpa using hlt), at_nat, at_nat, hx, hy, Option.bind_some, Option.bind_some, drop_at hx, drop_at hy]
      by_cases hxy : x = y
      · subst hxy
        rw [if_neg (by simp), w64_nat (by omega)]
        obtain ⟨z, h1, h2⟩ := same_loop hl hb n (i + 1) (by omega) (by omega)
        exact ⟨z, h1, by
          match z, h2 with
          | .inl r, h2 => exact ⟨h2.1, fun e => h2.2 (List.cons.inj e).2⟩
          | .inr _, h2 => rw [h2]⟩
      · rw [if_pos (by simpa using hxy)]
        exact ⟨.inl false, rfl, rfl, fun e => hxy (List.cons.inj e).1⟩
    · rw [if_neg (by simpa using hlt)]
      exact ⟨.inr (), rfl, by rw [List.drop_eq_nil_of_le (by omega), List.drop_eq_nil_of_le (by omega)]⟩
theorem same_eq {N : Nat} {a b : List Int} (hN : 1000 < N) (hb : a.length ≤ 1000) : narthexref01_Same N a b = some (decide (a = b)) := by
  unfold narthexref01_Same
  by_cases hl : a.length = b.length
  · rw [if_neg (by simp [hl])]
    obtain ⟨z, h1, h2⟩ := same_loop (N := N) hl hb N 0 (by omega) (by omega)
    rw [show ((0 : Nat) : Int) = 0 from rfl] at h1
    rw [h1, Option.bind_some]
    simp only [List.drop_zero] at h2
    match z, h2 with
    | .inl r, h2 => simp [h2.1, h2.2]
    | .inr _, h2 => simp [h2]
  · rw [if_pos (by simpa using fun e => hl (by omega))]
    simp [show a ≠ b from fun e => hl (by rw [e])]

/-! Is it one of them? -/
theorem refhas_loop {N : Nat} {l : List Int} {x : Int} (hb : l.length ≤ 1000) : ∀ (n i : Nat), l.length < n + i → i ≤ l.length →
    ∃ z, narthexref01_Has_L1 N l x n i = some z ∧ (match z with | .inl r => r = true ∧ x ∈ l.drop i | .inr _ => x ∉ l.drop i)
  | 0, i, h, hi => by omega
  | n + 1, i, h, hi => by
    rw [narthexref01_Has_L1]
    by_cases hlt : i < l.length
    · obtain ⟨y, hy⟩ := some_at hlt
      rw [if_pos (by simpa using hlt), at_nat, hy, Option.bind_some, drop_at hy]
      by_cases hxy : y = x
      · rw [if_pos (by simpa using hxy)]
        exact ⟨.inl true, rfl, rfl, by simp [hxy]⟩
      · rw [if_neg (by simpa using hxy), w64_nat (by omega)]
        obtain ⟨z, h1, h2⟩ := refhas_loop hb n (i + 1) (by omega) (by omega)
        exact ⟨z, h1, by
          match z, h2 with
          | .inl r, h2 => exact ⟨h2.1, List.mem_cons_of_mem _ h2.2⟩
          | .inr _, h2 => exact fun e => (List.mem_cons.1 e).elim (fun e => hxy e.symm) h2⟩
    · rw [if_neg (by simpa using hlt)]
      exact ⟨.inr (), rfl, by rw [List.drop_eq_nil_of_le (by omega)]; simp⟩
theorem refhas_eq {N : Nat} {l : List Int} {x : Int} (hN : 1000 < N) (hb : l.length ≤ 1000) : narthexref01_Has N l x = some (decide (x ∈ l)) := by
  unfold narthexref01_Has
  obtain ⟨z, h1, h2⟩ := refhas_loop (N := N) (x := x) hb N 0 (by omega) (by omega)
  rw [show ((0 : Nat) : Int) = 0 from rfl] at h1
  rw [h1, Option.bind_some]
  simp only [List.drop_zero] at h2
  match z, h2 with
  | .inl r, h2 => simp [h2.1, h2.2]
  | .inr _, h2 => simp [h2]
theorem index_loop {N : Nat} {l : List Int} {x : Int} (hb : l.length ≤ 1000) : ∀ (n i : Nat), l.length < n + i → i ≤ l.length →
    ∃ z, slices_Index_int_L1 N l x n i = some z ∧ (match z with | .inl r => 0 ≤ r ∧ x ∈ l.drop i | .inr _ => x ∉ l.drop i)
  | 0, i, h, hi => by omega
  | n + 1, i, h, hi => by
    rw [slices_Index_int_L1]
    by_cases hlt : i < l.length
    · obtain ⟨y, hy⟩ := some_at hlt
      rw [if_pos (by simpa using hlt), at_nat, hy, Option.bind_some, drop_at hy]
      by_cases hxy : x = y
      · rw [if_pos (by simpa using hxy)]
        exact ⟨.inl (i : Int), rfl, by omega, by simp [hxy]⟩
      · rw [if_neg (by simpa using hxy), w64_nat (by omega)]
        obtain ⟨z, h1, h2⟩ := index_loop hb n (i + 1) (by omega) (by omega)
        exact ⟨z, h1, by
          match z, h2 with
          | .inl r, h2 => exact ⟨h2.1, List.mem_cons_of_mem _ h2.2⟩
          | .inr _, h2 => exact fun e => (List.mem_cons.1 e).elim hxy h2⟩
    · rw [if_neg (by simpa using hlt)]
      exact ⟨.inr (), rfl, by rw [List.drop_eq_nil_of_le (by omega)]; simp⟩
theorem has_eq {N : Nat} {l : List Int} {x : Int} (hN : 1000 < N) (hb : l.length ≤ 1000) : set_Has N l x = some (decide (x ∈ l)) := by
  unfold set_Has slices_Contains_int slices_Index_int
  obtain ⟨z, h1, h2⟩ := index_loop (N := N) (x := x) hb N 0 (by omega) (by omega)
  rw [show ((0 : Nat) : Int) = 0 from rfl] at h1
  rw [h1]
  simp only [List.drop_zero] at h2
  match z, h2 with
  | .inl r, h2 => simp [h2.1, h2.2]
  | .inr _, h2 => simp [h2]

/-! What is in one of two. -/
theorem catlen {N : Nat} {a b : List Int} (hN : 1000 < N) (ha : a.length ≤ 300) (hb : b.length ≤ 300) : slices_Concat_int N [a, b] = some (a ++ b) := by
  obtain ⟨M, rfl⟩ : ∃ M, N = M + 3 := ⟨N - 3, by omega⟩
  have e1 : w64 (0 + (a.length : Int)) = (a.length : Int) := by rw [w64_is] <;> omega
  have e2 : w64 ((a.length : Int) + (b.length : Int)) = (a.length : Int) + (b.length : Int) := by rw [w64_is] <;> omega
  have e3 : w64 (0 + 1) = 1 := by decide
  have e4 : w64 (1 + 1) = 2 := by decide
  have e0 : w64 (0 - ((0 : Nat) : Int)) = 0 := by decide
  have L1 : slices_Concat_int_L1 (M + 3) [a, b] (M + 3) 0 0 = some ((a.length : Int) + (b.length : Int)) := by
    rw [slices_Concat_int_L1, if_pos (by simp), show at? [a, b] 0 = some a from rfl, Option.bind_some, e1, if_neg (by simp), e3]
    rw [slices_Concat_int_L1, if_pos (by simp), show at? [a, b] 1 = some b from rfl, Option.bind_some, e2, if_neg (by simp; omega), e4]
    rw [slices_Concat_int_L1, if_neg (by simp)]
  have L2 : slices_Concat_int_L2 (M + 3) [a, b] (M + 3) [] 0 = some (a ++ b) := by
    rw [slices_Concat_int_L2, if_pos (by simp), show at? [a, b] 0 = some a from rfl, Option.bind_some, app_ok (xs := []) (ys := a) (by rw [List.length_nil]; omega), Option.bind_some, e3]
    rw [slices_Concat_int_L2, if_pos (by simp), show at? [a, b] 1 = some b from rfl, Option.bind_some, app_ok (by simp; omega), Option.bind_some, e4]
    rw [slices_Concat_int_L2, if_neg (by simp)]
    simp
  have G : slices_Grow_int_o (M + 3) ((a.length : Int) + (b.length : Int)) = some [] := by
    unfold slices_Grow_int_o
    rw [if_neg (by simp; omega), e0, w64_is (by omega) (by omega)]
    split
    · rename_i hp
      rw [mk?, if_pos (by omega), Option.bind_some, sub?, if_pos (by simp; omega)]
      simp
    · rfl
  unfold slices_Concat_int
  rw [L1, Option.bind_some, G, Option.bind_some, L2, Option.bind_some]
theorem union_eq {N : Nat} {a b : List Int} (hN : 1000 < N) (ha : a.length ≤ 300) (hb : b.length ≤ 300) : set_Union N a b = some (S (a ++ b)) := by
  unfold set_Union
  rw [catlen hN ha hb, Option.bind_some, of_eq (by simp; omega), Option.bind_some]
theorem add_eq {N : Nat} {a : List Int} {x : Int} (hN : 1000 < N) (ha : a.length ≤ 300) : set_Add N a x = some (S (a ++ [x])) := by
  unfold set_Add
  rw [union_eq hN ha (by simp), Option.bind_some]


/-! What is in one, and not in the other. -/
theorem mi_idx {N : Nat} {c l : List Int} {q : Int → Bool} (hq : ∀ x u, set_keep_1 N x c u = some (q x)) (hb : l.length ≤ 1000) : ∀ (n i : Nat), l.length < n + i → i ≤ l.length →
    ∃ z, slices_IndexFunc_int_L1 N c l n i = some z ∧ (match z with | .inl r => ∃ m x : Nat, True ∧ ∃ y, r = (m : Int) ∧ i ≤ m ∧ l[m]? = some y ∧ q y = true ∧ ∀ u ∈ (l.drop i).take (m - i), q u = false | .inr _ => ∀ u ∈ l.drop i, q u = false)
  | 0, i, h, hi => by omega
  | n + 1, i, h, hi => by
    rw [slices_IndexFunc_int_L1]
    by_cases hlt : i < l.length
    · obtain ⟨y, hy⟩ := some_at hlt
      rw [if_pos (by simpa using hlt), at_nat, hy, Option.bind_some, hq, Option.bind_some]
      cases hqy : q y with
      | true =>
        rw [if_pos rfl]
        exact ⟨.inl (i : Int), rfl, i, 0, trivial, y, rfl, Nat.le_refl _, hy, hqy, by simp⟩
      | false =>
        rw [if_neg (by simp), w64_nat (by omega)]
        obtain ⟨z, h1, h2⟩ := mi_idx hq hb n (i + 1) (by omega) (by omega)
        refine ⟨z, h1, ?_⟩
        match z, h2 with
        | .inl r, h2 =>
          obtain ⟨m, _, _, y', e1, e2, e3, e4, e5⟩ := h2
          refine ⟨m, 0, trivial, y', e1, by omega, e3, e4, fun u hu => ?_⟩
          rw [drop_at hy, show m - i = (m - (i + 1)) + 1 by omega, List.take_succ_cons] at hu
          rcases List.mem_cons.1 hu with rfl | hu
          · exact hqy
          · exact e5 u hu
        | .inr _, h2 =>
          intro u hu
          rw [drop_at hy] at hu
          rcases List.mem_cons.1 hu with rfl | hu
          · exact hqy
          · exact h2 u hu
    · rw [if_neg (by simpa using hlt)]
      exact ⟨.inr (), rfl, by rw [List.drop_eq_nil_of_le (by omega)]; simp⟩
theorem mi_loop {N : Nat} {c : List Int} {q : Int → Bool} (hq : ∀ x u, set_keep_1 N x c u = some (q x)) : ∀ (n j i : Nat) (l : List Int), l.length < n + j → l.length ≤ 1000 → i ≤ j → j ≤ l.length →
    ∃ (r : List Int) (k : Nat), slices_DeleteFunc_int_L1 N c n l i j = some (r, (k : Int)) ∧ r.length = l.length ∧ k ≤ r.length ∧ r.take k = l.take i ++ (l.drop j).filter fun x => !q x
  | 0, j, i, l, h, _, _, hj => by omega
  | n + 1, j, i, l, h, hb, hij, hj => by
    rw [slices_DeleteFunc_int_L1]
    by_cases hlt : j < l.length
    · obtain ⟨y, hy⟩ := some_at hlt
      obtain ⟨y', hy'⟩ := some_at (xs := l) (i := i) (by omega)
      rw [if_pos (by simpa using hlt), at_nat, hy, Option.bind_some, hq, Option.bind_some]
      cases hqy : q y with
      | true =>
        rw [if_neg (by simp), w64_nat (by omega)]
        obtain ⟨r, k, h1, h2, h3, h4⟩ := mi_loop hq n (j + 1) i l (by omega) hb (by omega) (by omega)
        refine ⟨r, k, h1, h2, h3, ?_⟩
        rw [h4, drop_at hy, List.filter_cons]
        simp [hqy]
      | false =>
        rw [if_pos (by simp), at_nat, hy', Option.bind_some, w64_nat (by omega), w64_nat (by omega), Int.toNat_natCast]
        obtain ⟨r, k, h1, h2, h3, h4⟩ := mi_loop hq n (j + 1) (i + 1) (l.set i y) (by simp; omega) (by simp; omega) (by omega) (by simp; omega)
        refine ⟨r, k, h1, by simpa using h2, h3, ?_⟩
        rw [h4, drop_at hy, List.filter_cons]
        have e1 : (l.set i y).take (i + 1) = l.take i ++ [y] := by
          rw [take_at (x := y) (List.getElem?_set_self (by omega)), List.take_set_of_le (Nat.le_refl _)]
        have e2 : (l.set i y).drop (j + 1) = l.drop (j + 1) := List.drop_set_of_lt (by omega)
        rw [e1, e2]
        simp [hqy]
    · rw [if_neg (by simpa using hlt)]
      refine ⟨l, i, rfl, rfl, by omega, ?_⟩
      rw [List.drop_eq_nil_of_le (by omega)]
      simp
theorem mi_del {N : Nat} {c l : List Int} {q : Int → Bool} (hq : ∀ x u, set_keep_1 N x c u = some (q x)) (hN : 1000 < N) (hb : l.length ≤ 1000) : slices_DeleteFunc_int N c l = some (l.filter fun x => !q x) := by
  unfold slices_DeleteFunc_int slices_IndexFunc_int
  obtain ⟨z, h1, h2⟩ := mi_idx hq hb N 0 (by omega) (by omega)
  rw [show ((0 : Nat) : Int) = 0 from rfl] at h1
  rw [h1, Option.bind_some]
  match z, h2 with
  | .inr _, h2 =>
    rw [Option.bind_some, if_pos (by simp)]
    congr 1
    exact (List.filter_eq_self.2 fun x hx => by simp [h2 x (by simpa using hx)]).symm
  | .inl r, h2 =>
    obtain ⟨m, _, _, y, rfl, _, e3, e4, e5⟩ := h2
    have hml := (List.getElem?_eq_some_iff.1 e3).1
    rw [Option.bind_some, if_neg (by simp), w64_nat (by omega)]
    obtain ⟨r, k, g1, g2, g3, g4⟩ := mi_loop hq N (m + 1) m l (by omega) hb (by omega) (by omega)
    rw [g1, Option.bind_some]
    simp only
    rw [sub?, if_pos (by omega), Option.bind_some, Int.toNat_natCast, Int.toNat_natCast, List.take_length]
    have hcl : (clr r k (r.drop k).length 0).length = r.length := length_clr _ _ _ _ (by simp; omega)
    rw [sub?, if_pos (by rw [hcl]; omega), Option.bind_some]
    congr 1
    simp only [Int.toNat_natCast, clr, List.append_assoc]
    rw [List.take_left' (by simp; omega), show (0 : Int).toNat = 0 from rfl, List.drop_zero, g4]
    have hsp : l = l.take m ++ y :: l.drop (m + 1) := by rw [← drop_at e3, List.take_append_drop]
    conv => rhs; rw [hsp]
    rw [List.filter_append, List.filter_cons]
    have e6 : (l.take m).filter (fun x => !q x) = l.take m := List.filter_eq_self.2 fun x hx => by
      simp [e5 x (by simpa using hx)]
    rw [e6]
    simp [e4]

/-! What is in both. -/
theorem bo_idx {N : Nat} {c l : List Int} {q : Int → Bool} (hq : ∀ x u, set_keep_1_2 N x c u = some (q x)) (hb : l.length ≤ 1000) : ∀ (n i : Nat), l.length < n + i → i ≤ l.length →
    ∃ z, slices_IndexFunc_int_2_L1 N c l n i = some z ∧ (match z with | .inl r => ∃ m x : Nat, True ∧ ∃ y, r = (m : Int) ∧ i ≤ m ∧ l[m]? = some y ∧ q y = true ∧ ∀ u ∈ (l.drop i).take (m - i), q u = false | .inr _ => ∀ u ∈ l.drop i, q u = false)
  | 0, i, h, hi => by omega
  | n + 1, i, h, hi => by
    rw [slices_IndexFunc_int_2_L1]
    by_cases hlt : i < l.length
    · obtain ⟨y, hy⟩ := some_at hlt
      rw [if_pos (by simpa using hlt), at_nat, hy, Option.bind_some, hq, Option.bind_some]
      cases hqy : q y with
      | true =>
        rw [if_pos rfl]
        exact ⟨.inl (i : Int), rfl, i, 0, trivial, y, rfl, Nat.le_refl _, hy, hqy, by simp⟩
      | false =>
        rw [if_neg (by simp), w64_nat (by omega)]
        obtain ⟨z, h1, h2⟩ := bo_idx hq hb n (i + 1) (by omega) (by omega)
        refine ⟨z, h1, ?_⟩
        match z, h2 with
        | .inl r, h2 =>
          obtain ⟨m, _, _, y', e1, e2, e3, e4, e5⟩ := h2
          refine ⟨m, 0, trivial, y', e1, by omega, e3, e4, fun u hu => ?_⟩
          rw [drop_at hy, show m - i = (m - (i + 1)) + 1 by omega, List.take_succ_cons] at hu
          rcases List.mem_cons.1 hu with rfl | hu
          · exact hqy
          · exact e5 u hu
        | .inr _, h2 =>
          intro u hu
          rw [drop_at hy] at hu
          rcases List.mem_cons.1 hu with rfl | hu
          · exact hqy
          · exact h2 u hu
    · rw [if_neg (by simpa using hlt)]
      exact ⟨.inr (), rfl, by rw [List.drop_eq_nil_of_le (by omega)]; simp⟩
theorem bo_loop {N : Nat} {c : List Int} {q : Int → Bool} (hq : ∀ x u, set_keep_1_2 N x c u = some (q x)) : ∀ (n j i : Nat) (l : List Int), l.length < n + j → l.length ≤ 1000 → i ≤ j → j ≤ l.length →
    ∃ (r : List Int) (k : Nat), slices_DeleteFunc_int_2_L1 N c n l i j = some (r, (k : Int)) ∧ r.length = l.length ∧ k ≤ r.length ∧ r.take k = l.take i ++ (l.drop j).filter fun x => !q x
  | 0, j, i, l, h, _, _, hj => by omega
  | n + 1, j, i, l, h, hb, hij, hj => by
    rw [slices_DeleteFunc_int_2_L1]
    by_cases hlt : j < l.length
    · obtain ⟨y, hy⟩ := some_at hlt
      obtain ⟨y', hy'⟩ := some_at (xs := l) (i := i) (by omega)
      rw [if_pos (by simpa using hlt), at_nat, hy, Option.bind_some, hq, Option.bind_some]
      cases hqy : q y with
      | true =>
        rw [if_neg (by simp), w64_nat (by omega)]
        obtain ⟨r, k, h1, h2, h3, h4⟩ := bo_loop hq n (j + 1) i l (by omega) hb (by omega) (by omega)
        refine ⟨r, k, h1, h2, h3, ?_⟩
        rw [h4, drop_at hy, List.filter_cons]
        simp [hqy]
      | false =>
        rw [if_pos (by simp), at_nat, hy', Option.bind_some, w64_nat (by omega), w64_nat (by omega), Int.toNat_natCast]
        obtain ⟨r, k, h1, h2, h3, h4⟩ := bo_loop hq n (j + 1) (i + 1) (l.set i y) (by simp; omega) (by simp; omega) (by omega) (by simp; omega)
        refine ⟨r, k, h1, by simpa using h2, h3, ?_⟩
        rw [h4, drop_at hy, List.filter_cons]
        have e1 : (l.set i y).take (i + 1) = l.take i ++ [y] := by
          rw [take_at (x := y) (List.getElem?_set_self (by omega)), List.take_set_of_le (Nat.le_refl _)]
        have e2 : (l.set i y).drop (j + 1) = l.drop (j + 1) := List.drop_set_of_lt (by omega)
        rw [e1, e2]
        simp [hqy]
    · rw [if_neg (by simpa using hlt)]
      refine ⟨l, i, rfl, rfl, by omega, ?_⟩
      rw [List.drop_eq_nil_of_le (by omega)]
      simp
theorem bo_del {N : Nat} {c l : List Int} {q : Int → Bool} (hq : ∀ x u, set_keep_1_2 N x c u = some (q x)) (hN : 1000 < N) (hb : l.length ≤ 1000) : slices_DeleteFunc_int_2 N c l = some (l.filter fun x => !q x) := by
  unfold slices_DeleteFunc_int_2 slices_IndexFunc_int_2
  obtain ⟨z, h1, h2⟩ := bo_idx hq hb N 0 (by omega) (by omega)
  rw [show ((0 : Nat) : Int) = 0 from rfl] at h1
  rw [h1, Option.bind_some]
  match z, h2 with
  | .inr _, h2 =>
    rw [Option.bind_some, if_pos (by simp)]
    congr 1
    exact (List.filter_eq_self.2 fun x hx => by simp [h2 x (by simpa using hx)]).symm
  | .inl r, h2 =>
    obtain ⟨m, _, _, y, rfl, _, e3, e4, e5⟩ := h2
    have hml := (List.getElem?_eq_some_iff.1 e3).1
    rw [Option.bind_some, if_neg (by simp), w64_nat (by omega)]
    obtain ⟨r, k, g1, g2, g3, g4⟩ := bo_loop hq N (m + 1) m l (by omega) hb (by omega) (by omega)
    rw [g1, Option.bind_some]
    simp only
    rw [sub?, if_pos (by omega), Option.bind_some, Int.toNat_natCast, Int.toNat_natCast, List.take_length]
    have hcl : (clr r k (r.drop k).length 0).length = r.length := length_clr _ _ _ _ (by simp; omega)
    rw [sub?, if_pos (by rw [hcl]; omega), Option.bind_some]
    congr 1
    simp only [Int.toNat_natCast, clr, List.append_assoc]
    rw [List.take_left' (by simp; omega), show (0 : Int).toNat = 0 from rfl, List.drop_zero, g4]
    have hsp : l = l.take m ++ y :: l.drop (m + 1) := by rw [← drop_at e3, List.take_append_drop]
    conv => rhs; rw [hsp]
    rw [List.filter_append, List.filter_cons]
    have e6 : (l.take m).filter (fun x => !q x) = l.take m := List.filter_eq_self.2 fun x hx => by
      simp [e5 x (by simpa using hx)]
    rw [e6]
    simp [e4]

theorem minus_eq {N : Nat} {a b : List Int} (hN : 1000 < N) (ha : a.length ≤ 1000) (hb : b.length ≤ 1000) : set_Minus N a b = some ((S a).filter fun x => !decide (x ∈ b)) := by
  have hq : ∀ x u, set_keep_1 N x b u = some (decide (x ∈ b)) := fun x u => by
    simp [set_keep_1, set_Minus_1, has_eq hN hb]
  have hl := S_len a
  unfold set_Minus set_keep
  rw [of_eq ha, Option.bind_some, mi_del hq hN (by omega), Option.bind_some, Option.bind_some]
theorem both_eq {N : Nat} {a b : List Int} (hN : 1000 < N) (ha : a.length ≤ 1000) (hb : b.length ≤ 1000) : set_Both N a b = some ((S a).filter fun x => decide (x ∈ b)) := by
  have hq : ∀ x u, set_keep_1_2 N x b u = some (!decide (x ∈ b)) := fun x u => by
    simp [set_keep_1_2, set_Both_1, has_eq hN hb]
  have hl := S_len a
  unfold set_Both set_keep_2
  rw [of_eq ha, Option.bind_some, bo_del hq hN (by omega), Option.bind_some, Option.bind_some]
  simp
theorem del_eq {N : Nat} {a : List Int} {x : Int} (hN : 1000 < N) (ha : a.length ≤ 1000) : set_Del N a x = some ((S a).filter fun y => !decide (y ∈ [x])) := by
  unfold set_Del
  rw [minus_eq hN ha (by simp), Option.bind_some]
theorem within_eq {N : Nat} {a b : List Int} (hN : 1000 < N) (ha : a.length ≤ 1000) (hb : b.length ≤ 1000) : set_Within N a b = some (decide (∀ x ∈ a, x ∈ b)) := by
  unfold set_Within
  rw [minus_eq hN ha hb, Option.bind_some]
  congr 1
  rw [Bool.eq_iff_iff]
  simp only [beq_iff_eq, decide_eq_true_eq]
  constructor
  · intro h x hx
    have h0 : (S a).filter (fun x => !decide (x ∈ b)) = [] := List.eq_nil_of_length_eq_zero (by omega)
    rw [List.filter_eq_nil_iff] at h0
    have := h0 x (S_mem.2 hx)
    simpa using this
  · intro h
    have h0 : (S a).filter (fun x => !decide (x ∈ b)) = [] := List.filter_eq_nil_iff.2 fun x hx => by simpa using h x (S_mem.1 hx)
    rw [h0]
    rfl

/-! Is it a set? -/
theorem inc_pairwise : ∀ {l : List Int}, (∀ (k : Nat) (x y : Int), l[k]? = some x → l[k + 1]? = some y → x < y) → l.Pairwise (· < ·)
  | [], _ => .nil
  | [x], _ => by simp
  | x :: y :: l, h => by
    have ih := inc_pairwise (l := y :: l) fun k a b h1 h2 => h (k + 1) a b (by simpa using h1) (by simpa using h2)
    refine List.pairwise_cons.2 ⟨fun z hz => ?_, ih⟩
    have hxy := h 0 x y rfl rfl
    rcases List.mem_cons.1 hz with rfl | hz
    · exact hxy
    · have := (List.pairwise_cons.1 ih).1 z hz
      omega
theorem pairwise_inc {l : List Int} (h : l.Pairwise (· < ·)) {k k' : Nat} {x y : Int} (hk : k < k') (hx : l[k]? = some x) (hy : l[k']? = some y) : x < y := by
  obtain ⟨h1, rfl⟩ := List.getElem?_eq_some_iff.1 hx
  obtain ⟨h2, rfl⟩ := List.getElem?_eq_some_iff.1 hy
  exact List.pairwise_iff_getElem.1 h k k' h1 h2 hk
theorem valid_loop {N : Nat} {l : List Int} (hb : l.length ≤ 1000) : ∀ (n i : Nat), l.length < n + i → i ≤ l.length →
    ∃ z, set_Valid_L1 N l n i = some z ∧ (match z with
      | .inl r => r = false ∧ ∃ (k : Nat) (x y : Int), i ≤ k + 1 ∧ l[k]? = some x ∧ l[k + 1]? = some y ∧ y ≤ x
      | .inr _ => ∀ (k : Nat) (x y : Int), i ≤ k + 1 → l[k]? = some x → l[k + 1]? = some y → x < y)
  | 0, i, h, hi => by omega
  | n + 1, i, h, hi => by
    rw [set_Valid_L1]
    by_cases hlt : i < l.length
    · obtain ⟨y, hy⟩ := some_at hlt
      rw [if_pos (by simpa using hlt)]
      rcases Nat.eq_zero_or_pos i with rfl | h0
      · rw [if_neg (by simp), if_neg (by simp), Option.bind_some, Option.bind_some, if_neg (by simp), w64_nat (by omega)]
        obtain ⟨z, h1, h2⟩ := valid_loop hb n (0 + 1) (by omega) (by omega)
        refine ⟨z, h1, ?_⟩
        match z, h2 with
        | .inl r, h2 => obtain ⟨a, k, x, y, h3, h4⟩ := h2; exact ⟨a, k, x, y, by omega, h4⟩
        | .inr _, h2 => exact fun k x y _ a b => h2 k x y (by omega) a b
      · obtain ⟨j, rfl⟩ : ∃ j, i = j + 1 := ⟨i - 1, by omega⟩
        obtain ⟨x, hx⟩ := some_at (xs := l) (i := j) (by omega)
        have e1 : w64 (((j + 1 : Nat) : Int) - 1) = (j : Int) := by rw [w64_is (by omega) (by omega)]; omega
        rw [if_pos (by simp), if_pos (by simp), e1, at_nat, at_nat, hx, hy, Option.bind_some, Option.bind_some]
        by_cases hxy : x < y
        · rw [if_neg (by simp; omega), w64_nat (by omega)]
          obtain ⟨z, h1, h2⟩ := valid_loop hb n (j + 1 + 1) (by omega) (by omega)
          refine ⟨z, h1, ?_⟩
          match z, h2 with
          | .inl r, h2 => obtain ⟨a, k, x, y, h3, h4⟩ := h2; exact ⟨a, k, x, y, by omega, h4⟩
          | .inr _, h2 =>
            intro k a b hk ha hb
            rcases Nat.lt_or_ge k (j + 1) with hkj | hkj
            · obtain rfl : k = j := by omega
              rw [hx] at ha
              rw [hy] at hb
              cases ha
              cases hb
              exact hxy
            · exact h2 k a b (by omega) ha hb
        · rw [if_pos (by simp; omega)]
          exact ⟨.inl false, rfl, rfl, j, x, y, Nat.le_refl _, hx, hy, by omega⟩
    · rw [if_neg (by simpa using hlt)]
      refine ⟨.inr (), rfl, fun k x y hk hx hy => ?_⟩
      have := (List.getElem?_eq_some_iff.1 hy).1
      omega
theorem valid_eq {N : Nat} {l : List Int} (hN : 1000 < N) (hb : l.length ≤ 1000) : set_Valid N l = some (decide (S l = l)) := by
  unfold set_Valid
  obtain ⟨z, h1, h2⟩ := valid_loop (N := N) hb N 0 (by omega) (by omega)
  rw [show ((0 : Nat) : Int) = 0 from rfl] at h1
  rw [h1, Option.bind_some]
  match z, h2 with
  | .inl r, h2 =>
    obtain ⟨rfl, k, x, y, _, hx, hy, hxy⟩ := h2
    have : ¬ S l = l := fun e => by
      have hs := S_strict l
      rw [e] at hs
      have := pairwise_inc hs (Nat.lt_succ_self k) hx hy
      omega
    simp [this]
  | .inr _, h2 =>
    have : S l = l := S_self (inc_pairwise fun k x y a b => h2 k x y (by omega) a b)
    simp [this]

/-! Where it stands. -/
def below (s : List Int) (x : Int) : Nat := (s.filter fun y => decide (y < x)).length
theorem below_le (s : List Int) (x : Int) : below s x ≤ s.length := List.length_filter_le _ _
theorem below_is {s : List Int} {x : Int} {p : Nat} (hp : p ≤ s.length) (h1 : ∀ (k : Nat) (y : Int), k < p → s[k]? = some y → y < x) (h2 : ∀ (k : Nat) (y : Int), p ≤ k → s[k]? = some y → x ≤ y) : below s x = p := by
  unfold below
  have e : s.filter (fun y => decide (y < x)) = s.take p := by
    conv => lhs; rw [← List.take_append_drop p s]
    rw [List.filter_append]
    have a1 : (s.take p).filter (fun y => decide (y < x)) = s.take p := List.filter_eq_self.2 fun y hy => by
      obtain ⟨k, hk⟩ := List.getElem?_of_mem hy
      have hkl := (List.getElem?_eq_some_iff.1 hk).1
      rw [List.length_take] at hkl
      rw [List.getElem?_take_of_lt (by omega)] at hk
      simpa using h1 k y (by omega) hk
    have a2 : (s.drop p).filter (fun y => decide (y < x)) = [] := List.filter_eq_nil_iff.2 fun y hy => by
      obtain ⟨k, hk⟩ := List.getElem?_of_mem hy
      rw [List.getElem?_drop] at hk
      have := h2 (p + k) y (by omega) hk
      simp
      omega
    rw [a1, a2, List.append_nil]
  rw [e, List.length_take]
  omega
theorem less_eq {N : Nat} {x y : Int} : cmp_Less_int N x y = some (decide (x < y)) := by
  simp [cmp_Less_int, cmp_isNaN_int]
theorem mid_eq {i j : Nat} (hi : i ≤ 1000) (hj : j ≤ 1000) : w64 (Int.fdiv (IntKind.u64.wrap (w64 ((i : Int) + (j : Int)))) (2 ^ 1)) = (((i + j) / 2 : Nat) : Int) := by
  have e1 : w64 ((i : Int) + (j : Int)) = ((i + j : Nat) : Int) := by rw [w64_is (by omega) (by omega)]; omega
  have e2 : IntKind.u64.wrap ((i + j : Nat) : Int) = ((i + j : Nat) : Int) := by
    have hs : IntKind.u64.signed = false := rfl
    have hb : (2 : Int) ^ IntKind.u64.bits = 18446744073709551616 := rfl
    unfold IntKind.wrap
    simp only [hs, hb, Bool.false_and]
    rw [if_neg (by simp)]
    exact Int.emod_eq_of_lt (by omega) (by omega)
  have e3 : Int.fdiv ((i + j : Nat) : Int) (2 ^ 1) = (((i + j) / 2 : Nat) : Int) := by
    rw [show (2 : Int) ^ 1 = ((2 : Nat) : Int) from rfl, Int.fdiv_eq_ediv_of_nonneg _ (by omega), Int.natCast_ediv]
  rw [e1, e2, e3, w64_is (by omega) (by omega)]
theorem search_loop {N : Nat} {s : List Int} {x : Int} (hs : s.Pairwise (· < ·)) (hb : s.length ≤ 1000) : ∀ (n i j : Nat), j < n + i → i ≤ j → j ≤ s.length →
    (∀ (k : Nat) (y : Int), k < i → s[k]? = some y → y < x) → (∀ (k : Nat) (y : Int), j ≤ k → s[k]? = some y → x ≤ y) → slices_BinarySearch_int_L1 N s x n i j = some ((below s x : Nat) : Int)
  | 0, i, j, h, hij, _, _, _ => by omega
  | n + 1, i, j, h, hij, hj, h1, h2 => by
    rw [slices_BinarySearch_int_L1]
    by_cases hlt : i < j
    · have hm1 : i ≤ (i + j) / 2 := by omega
      have hm2 : (i + j) / 2 < j := by omega
      obtain ⟨y, hy⟩ := some_at (xs := s) (i := (i + j) / 2) (by omega)
      rw [if_pos (by simpa using hlt), mid_eq (by omega) (by omega), at_nat, hy, Option.bind_some, less_eq, Option.bind_some]
      by_cases hyx : y < x
      · rw [if_pos (by simpa using hyx), w64_nat (by omega)]
        refine search_loop hs hb n _ _ (by omega) (by omega) hj (fun k z hk hz => ?_) h2
        rcases Nat.lt_or_ge k ((i + j) / 2) with hk2 | hk2
        · have := pairwise_inc hs hk2 hz hy
          omega
        · obtain rfl : k = (i + j) / 2 := by omega
          rw [hy] at hz
          cases hz
          exact hyx
      · rw [if_neg (by simpa using hyx)]
        refine search_loop hs hb n _ _ (by omega) hm1 (by omega) h1 (fun k z hk hz => ?_)
        rcases Nat.lt_or_ge ((i + j) / 2) k with hk2 | hk2
        · have := pairwise_inc hs hk2 hy hz
          omega
        · obtain rfl : k = (i + j) / 2 := by omega
          rw [hy] at hz
          cases hz
          omega
    · rw [if_neg (by simpa using hlt)]
      obtain rfl : i = j := by omega
      rw [below_is hj h1 h2]
theorem search_eq {N : Nat} {s : List Int} {x : Int} (hs : s.Pairwise (· < ·)) (hN : 1000 < N) (hb : s.length ≤ 1000) : ∃ b, slices_BinarySearch_int N s x = some (((below s x : Nat) : Int), b) := by
  unfold slices_BinarySearch_int
  have h := search_loop (N := N) (x := x) hs hb N 0 s.length (by omega) (by omega) (Nat.le_refl _) (fun k y hk => by omega) (fun k y hk hy => by
    have := (List.getElem?_eq_some_iff.1 hy).1
    omega)
  rw [show ((0 : Nat) : Int) = 0 from rfl] at h
  rw [h, Option.bind_some]
  rcases Nat.lt_or_ge (below s x) s.length with hlt | hge
  · obtain ⟨y, hy⟩ := some_at hlt
    have hd : decide (((below s x : Nat) : Int) < (s.length : Int)) = true := by simpa using hlt
    simp only [hd, if_true, at_nat, hy, Option.bind_some, Bool.true_and]
    by_cases hyx : y = x
    · simp [hyx]
    · simp [hyx, slices_isNaN_int]
  · have hd : decide (((below s x : Nat) : Int) < (s.length : Int)) = false := by simpa using hge
    refine ⟨false, ?_⟩
    simp only [hd, Bool.false_eq_true, if_false, Bool.false_and, Option.bind_some]
theorem place_eq {N : Nat} {l : List Int} {x : Int} (hN : 1000 < N) (hb : l.length ≤ 1000) : set_Place N l x = some ((below (S l) x : Nat) : Int) := by
  have hl := S_len l
  unfold set_Place
  rw [of_eq hb, Option.bind_some]
  obtain ⟨b, h⟩ := search_eq (N := N) (x := x) (S_strict l) hN (by omega)
  rw [h, Option.bind_some]

/-! The document's place: how many are less. -/
def firsts (x : Int) : List Int → List Int → List Int
  | _, [] => []
  | seen, y :: l => (if y < x ∧ y ∉ seen then [y] else []) ++ firsts x (seen ++ [y]) l
theorem firsts_mem {x : Int} : ∀ {l seen : List Int}, (firsts x seen l).Nodup ∧ (∀ y ∈ firsts x seen l, y ∉ seen) ∧ ∀ y, y ∈ firsts x seen l ↔ y ∈ l ∧ y < x ∧ y ∉ seen
  | [], seen => by simp [firsts]
  | z :: l, seen => by
    obtain ⟨i1, i2, i3⟩ := firsts_mem (x := x) (l := l) (seen := seen ++ [z])
    have key : ∀ y, y ∈ firsts x seen (z :: l) ↔ y ∈ z :: l ∧ y < x ∧ y ∉ seen := by
      intro y
      unfold firsts
      rw [List.mem_append, i3, List.mem_cons]
      simp only [List.mem_append, List.mem_singleton, not_or]
      by_cases hz : z < x ∧ z ∉ seen
      · rw [if_pos hz]
        simp only [List.mem_singleton]
        constructor
        · rintro (rfl | ⟨a, b, c, _⟩)
          · exact ⟨.inl rfl, hz⟩
          · exact ⟨.inr a, b, c⟩
        · rintro ⟨a, b, c⟩
          by_cases hyz : y = z
          · exact .inl hyz
          · exact .inr ⟨a.resolve_left hyz, b, c, hyz⟩
      · rw [if_neg hz]
        simp only [List.not_mem_nil, false_or]
        constructor
        · rintro ⟨a, b, c, _⟩; exact ⟨.inr a, b, c⟩
        · rintro ⟨a, b, c⟩
          have hyz : y ≠ z := fun e => hz (e ▸ ⟨b, c⟩)
          exact ⟨a.resolve_left hyz, b, c, hyz⟩
    refine ⟨?_, fun y hy => ((key y).1 hy).2.2, key⟩
    unfold firsts
    split
    · rw [List.singleton_append, List.nodup_cons]
      exact ⟨fun hz => i2 z hz (by simp), i1⟩
    · simpa using i1
theorem firsts_len {l : List Int} {x : Int} : (firsts x [] l).length = below (S l) x := by
  obtain ⟨i1, _, i3⟩ := firsts_mem (x := x) (l := l) (seen := [])
  have hn : (S l).Nodup := (S_strict l).imp (fun h => by omega)
  refine List.Perm.length_eq ((List.perm_ext_iff_of_nodup i1 (hn.filter _)).2 fun y => ?_)
  rw [i3, List.mem_filter, S_mem]
  simp
theorem refplace_loop {N : Nat} {l : List Int} {x : Int} (hN : 1000 < N) (hb : l.length ≤ 1000) : ∀ (n i c : Nat), l.length < n + i → i ≤ l.length → c ≤ i → narthexref01_Place_L1 N l x n c i = some ((c + (firsts x (l.take i) (l.drop i)).length : Nat) : Int)
  | 0, i, c, h, hi, _ => by omega
  | n + 1, i, c, h, hi, hc => by
    rw [narthexref01_Place_L1]
    by_cases hlt : i < l.length
    · obtain ⟨y, hy⟩ := some_at hlt
      rw [if_pos (by simpa using hlt), at_nat, hy, Option.bind_some, drop_at hy, firsts, ← take_at hy]
      by_cases hyx : y < x
      · have hd : decide (y < x) = true := by simpa using hyx
        have hsub : sub? l 0 (i : Int) = some (l.take i) := by rw [sub?, if_pos (by omega)]; simp
        simp only [hd, if_true, hsub, Option.bind_some, Bool.true_and]
        rw [refhas_eq hN (by rw [List.length_take]; omega), Option.bind_some, w64_nat (i := i) (by omega)]
        by_cases hm : y ∈ l.take i
        · rw [if_neg (by simpa using hm), if_neg (by simp [hm])]
          rw [refplace_loop hN hb n (i + 1) c (by omega) (by omega) (by omega)]
          simp
        · rw [if_pos (by simpa using hm), if_pos ⟨hyx, hm⟩, w64_nat (i := c) (by omega)]
          rw [refplace_loop hN hb n (i + 1) (c + 1) (by omega) (by omega) (by omega)]
          congr 1
          simp
          omega
      · have hd : decide (y < x) = false := by simpa using hyx
        simp only [hd, Bool.false_eq_true, if_false, Option.bind_some, Bool.false_and]
        rw [w64_nat (by omega), if_neg (by omega)]
        rw [refplace_loop hN hb n (i + 1) c (by omega) (by omega) (by omega)]
        simp
    · rw [if_neg (by simpa using hlt), List.drop_eq_nil_of_le (by omega)]
      simp [firsts]
theorem refplace_eq {N : Nat} {l : List Int} {x : Int} (hN : 1000 < N) (hb : l.length ≤ 1000) : narthexref01_Place N l x = some ((below (S l) x : Nat) : Int) := by
  unfold narthexref01_Place
  have h := refplace_loop (x := x) hN hb N 0 0 (by omega) (by omega) (by omega)
  rw [show ((0 : Nat) : Int) = 0 from rfl] at h
  rw [h, Option.bind_some, ← firsts_len]
  simp

/-! The document's set: one by one. -/
theorem split_at {s : List Int} {x : Int} (hs : s.Pairwise (· < ·)) : (∀ y ∈ s.take (below s x), y < x) ∧ ∀ y ∈ s.drop (below s x), x ≤ y := by
  have key : s.take (below s x) = s.filter (fun y => decide (y < x)) ∧ s.drop (below s x) = s.filter (fun y => !decide (y < x)) := by
    unfold below
    induction s with
    | nil => simp
    | cons z s ih =>
      rw [List.pairwise_cons] at hs
      by_cases hz : z < x
      · have := ih hs.2
        simp [hz, this.1, this.2]
      · have e : s.filter (fun y => decide (y < x)) = [] := List.filter_eq_nil_iff.2 fun y hy => by
          have := hs.1 y hy
          simp
          omega
        have e2 : s.filter (fun y => !decide (y < x)) = s := List.filter_eq_self.2 fun y hy => by
          have := hs.1 y hy
          simp
          omega
        simp [hz, e, e2]
  constructor
  · intro y hy
    rw [key.1] at hy
    simpa using (List.mem_filter.1 hy).2
  · intro y hy
    rw [key.2] at hy
    have := (List.mem_filter.1 hy).2
    simpa using this
theorem insert_S {l : List Int} {x : Int} (hx : x ∉ l) : (S l).take (below (S l) x) ++ [x] ++ (S l).drop (below (S l) x) = S (l ++ [x]) := by
  obtain ⟨h1, h2⟩ := split_at (x := x) (S_strict l)
  have hs := S_strict l
  have hmem : ∀ y, y ∈ S l ↔ y ∈ (S l).take (below (S l) x) ∨ y ∈ (S l).drop (below (S l) x) := fun y => by
    rw [← List.mem_append, List.take_append_drop]
  symm
  refine S_eq ?_ fun y => ?_
  · rw [← List.take_append_drop (below (S l) x) (S l), List.pairwise_append] at hs
    rw [List.append_assoc, List.pairwise_append]
    refine ⟨hs.1, List.pairwise_cons.2 ⟨fun y hy => ?_, hs.2.1⟩, fun a ha b hb => ?_⟩
    · have h3 := h2 y hy
      have h4 : y ∈ l := S_mem.1 ((hmem y).2 (.inr hy))
      have : y ≠ x := fun e => hx (e ▸ h4)
      omega
    · rcases List.mem_cons.1 hb with rfl | hb
      · exact h1 a ha
      · exact hs.2.2 a ha b hb
  · simp only [List.mem_append, List.mem_singleton]
    have := hmem y
    rw [S_mem] at this
    rw [this]
    constructor
    · rintro ((a | a) | a)
      · exact .inl (.inl a)
      · exact .inr a
      · exact .inl (.inr a)
    · rintro ((a | a) | a)
      · exact .inl (.inl a)
      · exact .inr a
      · exact .inl (.inr a)
theorem S_old {l : List Int} {x : Int} (hx : x ∈ l) : S l = S (l ++ [x]) := by
  refine (S_eq (S_strict l) fun y => ?_).symm
  rw [S_mem, List.mem_append, List.mem_singleton]
  constructor
  · exact .inl
  · rintro (a | rfl)
    · exact a
    · exact hx
theorem refof_loop {N : Nat} {l : List Int} (hN : 1000 < N) (hb : l.length ≤ 1000) : ∀ (n i : Nat), l.length < n + i → i ≤ l.length → narthexref01_Of_L1 N l n (S (l.take i)) i = some (S l)
  | 0, i, h, hi => by omega
  | n + 1, i, h, hi => by
    rw [narthexref01_Of_L1]
    by_cases hlt : i < l.length
    · obtain ⟨y, hy⟩ := some_at hlt
      have hl := S_len (l.take i)
      rw [List.length_take] at hl
      rw [if_pos (by simpa using hlt), at_nat, hy, Option.bind_some, refhas_eq hN (by omega), Option.bind_some]
      by_cases hm : y ∈ l.take i
      · rw [if_pos (by simpa [S_mem] using hm), w64_nat (by omega), S_old hm, ← take_at hy]
        exact refof_loop hN hb n (i + 1) (by omega) (by omega)
      · rw [if_neg (by simpa [S_mem] using hm), Option.bind_some, refplace_eq hN (by omega), S_self (S_strict _), Option.bind_some]
        have hp := below_le (S (l.take i)) y
        have e1 : sub? (S (l.take i)) 0 ((below (S (l.take i)) y : Nat) : Int) = some ((S (l.take i)).take (below (S (l.take i)) y)) := by
          rw [sub?, if_pos (by omega)]; simp
        have e2 : sub? (S (l.take i)) ((below (S (l.take i)) y : Nat) : Int) ((S (l.take i)).length : Int) = some ((S (l.take i)).drop (below (S (l.take i)) y)) := by
          rw [sub?, if_pos (by omega)]; simp
        have e3 : ((S (l.take i)).drop 0).take ((S (l.take i)).take (below (S (l.take i)) y)).length = (S (l.take i)).take (below (S (l.take i)) y) := by
          rw [List.drop_zero, List.length_take, Nat.min_eq_left hp]
        have e4 : ((S (l.take i)).drop (Int.toNat ((below (S (l.take i)) y : Nat) : Int))).take ((S (l.take i)).drop (below (S (l.take i)) y)).length = (S (l.take i)).drop (below (S (l.take i)) y) := by
          rw [Int.toNat_natCast, List.take_length]
        rw [e1, Option.bind_some, e3, app_ok (by simp; omega), Option.bind_some, Option.bind_some, List.nil_append, app_ok (by simp; omega), Option.bind_some, e2, Option.bind_some, e4, app_ok (by simp; omega), Option.bind_some, w64_nat (by omega), insert_S hm, ← take_at hy]
        exact refof_loop hN hb n (i + 1) (by omega) (by omega)
    · rw [if_neg (by simpa using hlt), List.take_of_length_le (by omega)]
theorem refof_eq {N : Nat} {l : List Int} (hN : 1000 < N) (hb : l.length ≤ 1000) : narthexref01_Of N l = some (S l) := by
  unfold narthexref01_Of
  have h := refof_loop hN hb N 0 (by omega) (by omega)
  rw [show ((0 : Nat) : Int) = 0 from rfl, List.take_zero] at h
  rw [show ([] : List Int) = S [] from rfl, h, Option.bind_some]
theorem refunion_eq {N : Nat} {a b : List Int} (hN : 1000 < N) (ha : a.length ≤ 300) (hb : b.length ≤ 300) : narthexref01_Union N a b = some (S (a ++ b)) := by
  unfold narthexref01_Union
  rw [app_ok (by simp; omega), Option.bind_some, List.nil_append, app_ok (by omega), Option.bind_some, refof_eq hN (by simp; omega), Option.bind_some]
theorem pick_loop {N : Nat} {a b : List Int} {c : Bool} (hN : 1000 < N) (ha : a.length ≤ 1000) (hb : b.length ≤ 1000) : ∀ (n i : Nat) (out : List Int), a.length < n + i → i ≤ a.length → out.length ≤ i →
    narthexref01_Pick_L1 N a b c n out i = some (out ++ (a.drop i).filter fun x => decide (x ∈ b) == c)
  | 0, i, out, h, hi, _ => by omega
  | n + 1, i, out, h, hi, ho => by
    rw [narthexref01_Pick_L1]
    by_cases hlt : i < a.length
    · obtain ⟨y, hy⟩ := some_at hlt
      rw [if_pos (by simpa using hlt), at_nat, hy, Option.bind_some, refhas_eq hN hb, Option.bind_some, drop_at hy, List.filter_cons]
      by_cases hm : (decide (y ∈ b) == c) = true
      · rw [if_pos hm, if_pos hm, Option.bind_some, app_ok (by simp; omega), Option.bind_some, w64_nat (by omega), pick_loop hN ha hb n (i + 1) _ (by omega) (by omega) (by simp; omega)]
        simp
      · rw [if_neg hm, if_neg hm, w64_nat (by omega), pick_loop hN ha hb n (i + 1) _ (by omega) (by omega) (by omega)]
    · rw [if_neg (by simpa using hlt), List.drop_eq_nil_of_le (by omega)]
      simp
theorem pick_eq {N : Nat} {a b : List Int} {c : Bool} (hN : 1000 < N) (ha : a.length ≤ 1000) (hb : b.length ≤ 1000) : narthexref01_Pick N a b c = some ((S a).filter fun x => decide (x ∈ b) == c) := by
  unfold narthexref01_Pick
  have h := pick_loop (c := c) hN ha hb N 0 [] (by omega) (by omega) (by simp)
  rw [show ((0 : Nat) : Int) = 0 from rfl, List.nil_append, List.drop_zero] at h
  rw [h, Option.bind_some, refof_eq hN (Nat.le_trans (List.length_filter_le _ _) ha), Option.bind_some]
  congr 1
  refine S_eq ((S_strict a).filter _) fun x => ?_
  rw [List.mem_filter, List.mem_filter, S_mem]

/-! The laws. -/
theorem awake_ok {N : Nat} (hN : 1000 < N) : narthexlaw01_awake N = some true := by
  have e1 : set_Of N [3, 1, 3] = some [1, 3] := by rw [of_eq (by simp)]; rfl
  have hs : ∀ l : List Int, l.length ≤ 1000 → narthexref01_Same N l l = some true := fun l hl => by rw [same_eq hN hl]; simp
  have e2 := hs [1, 3] (by simp)
  have e3 : set_Add N [1, 3] 2 = some [1, 2, 3] := by rw [add_eq hN (by simp)]; rfl
  have e4 := hs [1, 2, 3] (by simp)
  have e5 : set_Del N [1, 3] 1 = some [3] := by rw [del_eq hN (by simp)]; rfl
  have e6 := hs [3] (by simp)
  have e7 : set_Valid N [1, 3] = some true := by rw [valid_eq hN (by simp)]; rfl
  have e8 : set_Valid N [1, 1] = some false := by rw [valid_eq hN (by simp)]; rfl
  have e9 : set_Has N [1, 3] 3 = some true := by rw [has_eq hN (by simp)]; rfl
  have e10 : set_Place N [1, 3] 3 = some 1 := by rw [place_eq hN (by simp)]; rfl
  have e11 : set_Within N [1, 3] [3, 1] = some true := by rw [within_eq hN (by simp) (by simp)]; rfl
  have e12 : set_Union N [1, 3] [1, 3] = some [1, 3] := by rw [union_eq hN (by simp) (by simp)]; rfl
  have e13 : set_Both N [1, 3] [3] = some [3] := by rw [both_eq hN (by simp) (by simp)]; rfl
  have e14 : set_Minus N [1, 3] [3] = some [1] := by rw [minus_eq hN (by simp) (by simp)]; rfl
  unfold narthexlaw01_awake
  simp [e1, e2, e3, e4, e5, e6, e7, e8, e9, e10, e11, e12, e13, e14]
theorem pick_no {N : Nat} {a b : List Int} (hN : 1000 < N) (ha : a.length ≤ 1000) (hb : b.length ≤ 1000) : narthexref01_Pick N a b false = some ((S a).filter fun x => !decide (x ∈ b)) := by
  rw [pick_eq hN ha hb]
  congr 2
  funext x
  cases decide (x ∈ b) <;> rfl
theorem pick_yes {N : Nat} {a b : List Int} (hN : 1000 < N) (ha : a.length ≤ 1000) (hb : b.length ≤ 1000) : narthexref01_Pick N a b true = some ((S a).filter fun x => decide (x ∈ b)) := by
  rw [pick_eq hN ha hb]
  congr 2
  funext x
  cases decide (x ∈ b) <;> rfl
theorem none_left {a b : List Int} : ((((S a).filter fun x => !decide (x ∈ b)).length : Int) == 0) = decide (∀ x ∈ a, x ∈ b) := by
  rw [Bool.eq_iff_iff]
  simp only [beq_iff_eq, decide_eq_true_eq]
  constructor
  · intro h x hx
    have h0 : (S a).filter (fun x => !decide (x ∈ b)) = [] := List.eq_nil_of_length_eq_zero (by omega)
    rw [List.filter_eq_nil_iff] at h0
    have := h0 x (S_mem.2 hx)
    simpa using this
  · intro h
    have h0 : (S a).filter (fun x => !decide (x ∈ b)) = [] := List.filter_eq_nil_iff.2 fun x hx => by simpa using h x (S_mem.1 hx)
    rw [h0]
    rfl
theorem filt_len (a : List Int) (p : Int → Bool) : (S a).length ≤ a.length ∧ ((S a).filter p).length ≤ a.length := by
  have h1 := S_len a
  have h2 := List.length_filter_le p (S a)
  omega
theorem law_SetOf (a0 : List Int) (o0 : (a0.length ≤ maxLen ∧ ∀ y ∈ a0, (Lit.int .i64 y).wf = true)) (a1 : Int) (o1 : (Lit.int .i64 a1).wf = true) : ∃ N, narthexlaw01_SetOf N a0 a1 = some true := by
  obtain ⟨N, hN⟩ : ∃ N : Nat, 1000 < N := ⟨1001, by omega⟩
  refine ⟨N, ?_⟩
  unfold narthexlaw01_SetOf
  rw [awake_ok hN, Option.bind_some]
  by_cases h : a0.length > 60
  · rw [if_pos (by simp; omega), Option.bind_some]
  · rw [if_neg (by simp; omega)]
    have e1 : narthexlaw01_own N a0 = some a0 := own_eq (by omega)
    have e2 : set_Of N a0 = some (S a0) := of_eq (by omega)
    have e3 : narthexref01_Of N a0 = some (S a0) := refof_eq (by omega) (by omega)
    have hl := S_len a0
    have e4 : narthexref01_Same N (S a0) (S a0) = some true := by rw [same_eq (by omega) (by omega)]; simp
    have e5 : set_Has N a0 a1 = some (decide (a1 ∈ a0)) := has_eq (by omega) (by omega)
    have e6 : narthexref01_Has N a0 a1 = some (decide (a1 ∈ a0)) := refhas_eq (by omega) (by omega)
    have e7 : set_Place N a0 a1 = some ((below (S a0) a1 : Nat) : Int) := place_eq (by omega) (by omega)
    have e8 : narthexref01_Place N a0 a1 = some ((below (S a0) a1 : Nat) : Int) := refplace_eq (by omega) (by omega)
    have e9 : set_Valid N a0 = some (decide (S a0 = a0)) := valid_eq (by omega) (by omega)
    have e10 : narthexref01_Same N a0 (S a0) = some (decide (S a0 = a0)) := by rw [same_eq (by omega) (by omega)]; simp [eq_comm]
    simp [e1, e2, e3, e4, e5, e6, e7, e8, e9, e10]
theorem law_SetJoins (a0 : List Int) (o0 : (a0.length ≤ maxLen ∧ ∀ y ∈ a0, (Lit.int .i64 y).wf = true)) (a1 : List Int) (o1 : (a1.length ≤ maxLen ∧ ∀ y ∈ a1, (Lit.int .i64 y).wf = true)) (a2 : Int) (o2 : (Lit.int .i64 a2).wf = true) : ∃ N, narthexlaw01_SetJoins N a0 a1 a2 = some true := by
  obtain ⟨N, hN⟩ : ∃ N : Nat, 1000 < N := ⟨1001, by omega⟩
  refine ⟨N, ?_⟩
  unfold narthexlaw01_SetJoins
  rw [awake_ok hN, Option.bind_some]
  by_cases h : a0.length > 60 ∨ a1.length > 60
  · rw [if_pos (by simp; omega), Option.bind_some]
  · rw [if_neg (by simp; omega)]
    have e1 : narthexlaw01_own N a0 = some a0 := own_eq (by omega)
    have e2 : narthexlaw01_own N a1 = some a1 := own_eq (by omega)
    have hs : ∀ l : List Int, l.length ≤ 1000 → narthexref01_Same N l l = some true := fun l hl => by rw [same_eq (by omega) hl]; simp
    have e3 : set_Add N a0 a2 = some (S (a0 ++ [a2])) := add_eq (by omega) (by omega)
    have e4 : narthexref01_Union N a0 [a2] = some (S (a0 ++ [a2])) := refunion_eq (by omega) (by omega) (by simp)
    have e5 := hs (S (a0 ++ [a2])) (by have := S_len (a0 ++ [a2]); simp at this; omega)
    have e6 : set_Del N a0 a2 = some ((S a0).filter fun y => !decide (y ∈ [a2])) := del_eq (by omega) (by omega)
    have e7 : narthexref01_Pick N a0 [a2] false = some ((S a0).filter fun y => !decide (y ∈ [a2])) := pick_no (by omega) (by omega) (by simp)
    have e8 := hs ((S a0).filter fun y => !decide (y ∈ [a2])) (by have := (filt_len a0 fun y => !decide (y ∈ [a2])).2; omega)
    have e9 : set_Union N a0 a1 = some (S (a0 ++ a1)) := union_eq (by omega) (by omega) (by omega)
    have e10 : narthexref01_Union N a0 a1 = some (S (a0 ++ a1)) := refunion_eq (by omega) (by omega) (by omega)
    have e11 := hs (S (a0 ++ a1)) (by have := S_len (a0 ++ a1); simp at this; omega)
    have e12 : set_Both N a0 a1 = some ((S a0).filter fun x => decide (x ∈ a1)) := both_eq (by omega) (by omega) (by omega)
    have e13 : narthexref01_Pick N a0 a1 true = some ((S a0).filter fun x => decide (x ∈ a1)) := pick_yes (by omega) (by omega) (by omega)
    have e14 := hs ((S a0).filter fun x => decide (x ∈ a1)) (by have := (filt_len a0 fun x => decide (x ∈ a1)).2; omega)
    have e15 : set_Minus N a0 a1 = some ((S a0).filter fun x => !decide (x ∈ a1)) := minus_eq (by omega) (by omega) (by omega)
    have e16 : narthexref01_Pick N a0 a1 false = some ((S a0).filter fun x => !decide (x ∈ a1)) := pick_no (by omega) (by omega) (by omega)
    have e17 := hs ((S a0).filter fun x => !decide (x ∈ a1)) (by have := (filt_len a0 fun x => !decide (x ∈ a1)).2; omega)
    have e18 : set_Within N a0 a1 = some (decide (∀ x ∈ a0, x ∈ a1)) := within_eq (by omega) (by omega) (by omega)
    simp only [e1, e2, e3, e4, e5, e6, e7, e8, e9, e10, e11, e12, e13, e14, e15, e16, e17, e18, Option.bind_some, if_true, Bool.and_self, none_left, beq_self_eq_true, Bool.true_and]
theorem law_SetMembers (a0 : List Int) (o0 : (a0.length ≤ maxLen ∧ ∀ y ∈ a0, (Lit.int .i64 y).wf = true)) (a1 : List Int) (o1 : (a1.length ≤ maxLen ∧ ∀ y ∈ a1, (Lit.int .i64 y).wf = true)) (a2 : Int) (o2 : (Lit.int .i64 a2).wf = true) : ∃ N, narthexlaw01_SetMembers N a0 a1 a2 = some true := by
  obtain ⟨N, hN⟩ : ∃ N : Nat, 1000 < N := ⟨1001, by omega⟩
  refine ⟨N, ?_⟩
  unfold narthexlaw01_SetMembers
  rw [awake_ok hN, Option.bind_some]
  by_cases h : a0.length > 60 ∨ a1.length > 60
  · rw [if_pos (by simp; omega), Option.bind_some]
  · rw [if_neg (by simp; omega)]
    have e1 : narthexlaw01_own N a0 = some a0 := own_eq (by omega)
    have e2 : narthexlaw01_own N a1 = some a1 := own_eq (by omega)
    have hh : ∀ l : List Int, l.length ≤ 1000 → set_Has N l a2 = some (decide (a2 ∈ l)) := fun l hl => has_eq (by omega) hl
    have e3 := hh a0 (by omega)
    have e4 := hh a1 (by omega)
    have e5 : set_Union N a0 a1 = some (S (a0 ++ a1)) := union_eq (by omega) (by omega) (by omega)
    have e6 : set_Has N (S (a0 ++ a1)) a2 = some (decide (a2 ∈ a0) || decide (a2 ∈ a1)) := by
      rw [hh _ (by have := S_len (a0 ++ a1); simp at this; omega)]
      simp [S_mem]
    have e7 : set_Both N a0 a1 = some ((S a0).filter fun x => decide (x ∈ a1)) := both_eq (by omega) (by omega) (by omega)
    have e8 : set_Has N ((S a0).filter fun x => decide (x ∈ a1)) a2 = some (decide (a2 ∈ a0) && decide (a2 ∈ a1)) := by
      rw [hh _ (by have := (filt_len a0 fun x => decide (x ∈ a1)).2; omega)]
      simp [S_mem, List.mem_filter]
    have e9 : set_Minus N a0 a1 = some ((S a0).filter fun x => !decide (x ∈ a1)) := minus_eq (by omega) (by omega) (by omega)
    have e10 : set_Has N ((S a0).filter fun x => !decide (x ∈ a1)) a2 = some (decide (a2 ∈ a0) && !decide (a2 ∈ a1)) := by
      rw [hh _ (by have := (filt_len a0 fun x => !decide (x ∈ a1)).2; omega)]
      simp [S_mem, List.mem_filter]
    have e11 : set_Add N a0 a2 = some (S (a0 ++ [a2])) := add_eq (by omega) (by omega)
    have e12 : set_Has N (S (a0 ++ [a2])) a2 = some true := by
      rw [hh _ (by have := S_len (a0 ++ [a2]); simp at this; omega)]
      simp [S_mem]
    have e13 : set_Del N a0 a2 = some ((S a0).filter fun y => !decide (y ∈ [a2])) := del_eq (by omega) (by omega)
    have e14 : set_Has N ((S a0).filter fun y => !decide (y ∈ [a2])) a2 = some false := by
      rw [hh _ (by have := (filt_len a0 fun y => !decide (y ∈ [a2])).2; omega)]
      simp [List.mem_filter]
    simp only [e1, e2, e3, e4, e5, e6, e7, e8, e9, e10, e11, e12, e13, e14, Option.bind_some, if_true, Bool.and_self, beq_self_eq_true, Bool.true_and, Bool.not_false]
theorem law_SetStays (a0 : List Int) (o0 : (a0.length ≤ maxLen ∧ ∀ y ∈ a0, (Lit.int .i64 y).wf = true)) (a1 : List Int) (o1 : (a1.length ≤ maxLen ∧ ∀ y ∈ a1, (Lit.int .i64 y).wf = true)) (a2 : Int) (o2 : (Lit.int .i64 a2).wf = true) : ∃ N, narthexlaw01_SetStays N a0 a1 a2 = some true := by
  obtain ⟨N, hN⟩ : ∃ N : Nat, 1000 < N := ⟨1001, by omega⟩
  refine ⟨N, ?_⟩
  unfold narthexlaw01_SetStays
  rw [awake_ok hN, Option.bind_some]
  by_cases h : a0.length > 60 ∨ a1.length > 60
  · rw [if_pos (by simp; omega), Option.bind_some]
  · rw [if_neg (by simp; omega)]
    have e1 : narthexlaw01_own N a0 = some a0 := own_eq (by omega)
    have e2 : narthexlaw01_own N a1 = some a1 := own_eq (by omega)
    have hv : ∀ l : List Int, l.length ≤ 1000 → l.Pairwise (· < ·) → set_Valid N l = some true := fun l hl hs => by rw [valid_eq (by omega) hl, S_self hs]; simp
    have e3 : set_Of N a0 = some (S a0) := of_eq (by omega)
    have e4 := hv (S a0) (by have := S_len a0; omega) (S_strict _)
    have e5 : set_Union N a0 a1 = some (S (a0 ++ a1)) := union_eq (by omega) (by omega) (by omega)
    have e6 := hv (S (a0 ++ a1)) (by have := S_len (a0 ++ a1); simp at this; omega) (S_strict _)
    have e7 : set_Both N a0 a1 = some ((S a0).filter fun x => decide (x ∈ a1)) := both_eq (by omega) (by omega) (by omega)
    have e8 := hv ((S a0).filter fun x => decide (x ∈ a1)) (by have := (filt_len a0 fun x => decide (x ∈ a1)).2; omega) ((S_strict a0).filter _)
    have e9 : set_Minus N a0 a1 = some ((S a0).filter fun x => !decide (x ∈ a1)) := minus_eq (by omega) (by omega) (by omega)
    have e10 := hv ((S a0).filter fun x => !decide (x ∈ a1)) (by have := (filt_len a0 fun x => !decide (x ∈ a1)).2; omega) ((S_strict a0).filter _)
    have e11 : set_Add N a0 a2 = some (S (a0 ++ [a2])) := add_eq (by omega) (by omega)
    have e12 := hv (S (a0 ++ [a2])) (by have := S_len (a0 ++ [a2]); simp at this; omega) (S_strict _)
    have e13 : set_Del N a0 a2 = some ((S a0).filter fun y => !decide (y ∈ [a2])) := del_eq (by omega) (by omega)
    have e14 := hv ((S a0).filter fun y => !decide (y ∈ [a2])) (by have := (filt_len a0 fun y => !decide (y ∈ [a2])).2; omega) ((S_strict a0).filter _)
    simp only [e1, e2, e3, e4, e5, e6, e7, e8, e9, e10, e11, e12, e13, e14, Option.bind_some, if_true, Bool.and_self]
theorem law_SetSame (a0 : List Int) (o0 : (a0.length ≤ maxLen ∧ ∀ y ∈ a0, (Lit.int .i64 y).wf = true)) (a1 : List Int) (o1 : (a1.length ≤ maxLen ∧ ∀ y ∈ a1, (Lit.int .i64 y).wf = true)) : ∃ N, narthexlaw01_SetSame N a0 a1 = some true := by
  obtain ⟨N, hN⟩ : ∃ N : Nat, 1000 < N := ⟨1001, by omega⟩
  refine ⟨N, ?_⟩
  unfold narthexlaw01_SetSame
  rw [awake_ok hN, Option.bind_some]
  by_cases h : a0.length > 60 ∨ a1.length > 60
  · rw [if_pos (by simp; omega), Option.bind_some]
  · rw [if_neg (by simp; omega)]
    have e1 : narthexlaw01_own N a0 = some a0 := own_eq (by omega)
    have e2 : narthexlaw01_own N a1 = some a1 := own_eq (by omega)
    have e3 : set_Within N a0 a1 = some (decide (∀ x ∈ a0, x ∈ a1)) := within_eq (by omega) (by omega) (by omega)
    have e4 : set_Within N a1 a0 = some (decide (∀ x ∈ a1, x ∈ a0)) := within_eq (by omega) (by omega) (by omega)
    have e5 : set_Of N a0 = some (S a0) := of_eq (by omega)
    have e6 : set_Of N a1 = some (S a1) := of_eq (by omega)
    have e7 : narthexref01_Same N (S a0) (S a1) = some (decide (∀ x ∈ a0, x ∈ a1) && decide (∀ x ∈ a1, x ∈ a0)) := by
      rw [same_eq (by omega) (by have := S_len a0; omega)]
      congr 1
      rw [Bool.eq_iff_iff]
      simp only [decide_eq_true_eq, Bool.and_eq_true]
      constructor
      · intro he
        exact ⟨fun x hx => S_mem.1 (he ▸ S_mem.2 hx), fun x hx => S_mem.1 (he.symm ▸ S_mem.2 hx)⟩
      · rintro ⟨h1, h2⟩
        exact strict_ext (S_strict _) (S_strict _) fun x => by rw [S_mem, S_mem]; exact ⟨h1 x, h2 x⟩
    have hs : ∀ l : List Int, l.length ≤ 1000 → narthexref01_Same N l l = some true := fun l hl => by rw [same_eq (by omega) hl]; simp
    have e8 : set_Union N a0 a1 = some (S (a0 ++ a1)) := union_eq (by omega) (by omega) (by omega)
    have e9 : set_Union N a1 a0 = some (S (a0 ++ a1)) := by
      rw [union_eq (by omega) (by omega) (by omega)]
      congr 1
      exact S_eq (S_strict _) fun x => by rw [S_mem, List.mem_append, List.mem_append]; exact Or.comm
    have e10 := hs (S (a0 ++ a1)) (by have := S_len (a0 ++ a1); simp at this; omega)
    have e11 : set_Both N a0 a1 = some ((S a0).filter fun x => decide (x ∈ a1)) := both_eq (by omega) (by omega) (by omega)
    have e12 : set_Both N a1 a0 = some ((S a0).filter fun x => decide (x ∈ a1)) := by
      rw [both_eq (by omega) (by omega) (by omega)]
      congr 1
      refine strict_ext ((S_strict _).filter _) ((S_strict _).filter _) fun x => ?_
      simp only [List.mem_filter, S_mem, decide_eq_true_eq]
      exact And.comm
    have e13 := hs ((S a0).filter fun x => decide (x ∈ a1)) (by have := (filt_len a0 fun x => decide (x ∈ a1)).2; omega)
    simp only [e1, e2, e3, Option.bind_some]
    cases hw : decide (∀ x ∈ a0, x ∈ a1) with
    | true =>
      rw [hw] at e7
      simp only [e1, e2, e4, e5, e6, e7, e8, e9, e10, e11, e12, e13, Option.bind_some, if_true, Bool.true_and, beq_self_eq_true, Bool.and_self]
    | false =>
      rw [hw] at e7
      simp only [e1, e2, e4, e5, e6, e7, e8, e9, e10, e11, e12, e13, Option.bind_some, if_true, Bool.false_eq_true, if_false, Bool.false_and, beq_self_eq_true, Bool.and_self]
theorem parts_len (l : List Int) (p : Int → Bool) : (l.filter p).length + (l.filter fun x => !p x).length = l.length := by
  induction l with
  | nil => rfl
  | cons x l ih => cases h : p x <;> simp [h] <;> omega
theorem law_SetParts (a0 : List Int) (o0 : (a0.length ≤ maxLen ∧ ∀ y ∈ a0, (Lit.int .i64 y).wf = true)) (a1 : List Int) (o1 : (a1.length ≤ maxLen ∧ ∀ y ∈ a1, (Lit.int .i64 y).wf = true)) : ∃ N, narthexlaw01_SetParts N a0 a1 = some true := by
  obtain ⟨N, hN⟩ : ∃ N : Nat, 1000 < N := ⟨1001, by omega⟩
  refine ⟨N, ?_⟩
  unfold narthexlaw01_SetParts
  rw [awake_ok hN, Option.bind_some]
  by_cases h : a0.length > 60 ∨ a1.length > 60
  · rw [if_pos (by simp; omega), Option.bind_some]
  · rw [if_neg (by simp; omega)]
    have e1 : narthexlaw01_own N a0 = some a0 := own_eq (by omega)
    have e2 : narthexlaw01_own N a1 = some a1 := own_eq (by omega)
    have l1 := (filt_len a0 fun x => decide (x ∈ a1)).2
    have l2 := (filt_len a0 fun x => !decide (x ∈ a1)).2
    have l3 := S_len a0
    have e3 : set_Both N a0 a1 = some ((S a0).filter fun x => decide (x ∈ a1)) := both_eq (by omega) (by omega) (by omega)
    have e4 : set_Minus N a0 a1 = some ((S a0).filter fun x => !decide (x ∈ a1)) := minus_eq (by omega) (by omega) (by omega)
    have e5 : set_Union N ((S a0).filter fun x => decide (x ∈ a1)) ((S a0).filter fun x => !decide (x ∈ a1)) = some (S a0) := by
      rw [union_eq (by omega) (by omega) (by omega)]
      congr 1
      refine S_eq (S_strict _) fun x => ?_
      simp only [List.mem_append, List.mem_filter, S_mem]
      by_cases hx : x ∈ a1 <;> simp [hx]
    have e6 : set_Of N a0 = some (S a0) := of_eq (by omega)
    have e7 : narthexref01_Same N (S a0) (S a0) = some true := by rw [same_eq (by omega) (by omega)]; simp
    have e8 : set_Both N ((S a0).filter fun x => decide (x ∈ a1)) ((S a0).filter fun x => !decide (x ∈ a1)) = some [] := by
      rw [both_eq (by omega) (by omega) (by omega)]
      congr 1
      refine List.filter_eq_nil_iff.2 fun x hx => ?_
      have hx2 := (List.mem_filter.1 (S_mem.1 hx)).2
      simp only [List.mem_filter, decide_eq_true_eq, not_and]
      intro _
      simpa using hx2
    have e9 : (w64 ((((S a0).filter fun x => decide (x ∈ a1)).length : Int) + (((S a0).filter fun x => !decide (x ∈ a1)).length : Int)) == ((S a0).length : Int)) = true := by
      have := parts_len (S a0) fun x => decide (x ∈ a1)
      rw [w64_is (by omega) (by omega)]
      simp only [beq_iff_eq]
      omega
    simp only [e1, e2, e3, e4, e5, e6, e7, e8, e9, Option.bind_some, if_true, Bool.and_self]
    rfl
theorem below_at {s : List Int} (hs : s.Pairwise (· < ·)) {i : Nat} {y : Int} (hy : s[i]? = some y) : below s y = i := by
  have hl := (List.getElem?_eq_some_iff.1 hy).1
  refine below_is (by omega) (fun k z hk hz => pairwise_inc hs hk hz hy) (fun k z hk hz => ?_)
  rcases Nat.lt_or_ge i k with h | h
  · have := pairwise_inc hs h hy hz
    omega
  · obtain rfl : k = i := by omega
    rw [hy] at hz
    cases hz
    omega
theorem below_of {s : List Int} (hs : s.Pairwise (· < ·)) {x : Int} : (∀ (k : Nat) (y : Int), k < below s x → s[k]? = some y → y < x) ∧ ∀ (k : Nat) (y : Int), below s x ≤ k → s[k]? = some y → x ≤ y := by
  obtain ⟨h1, h2⟩ := split_at (x := x) hs
  refine ⟨fun k y hk hy => h1 y ?_, fun k y hk hy => h2 y ?_⟩
  · exact List.mem_of_getElem? (by rw [List.getElem?_take_of_lt hk]; exact hy)
  · exact List.mem_of_getElem? (i := k - below s x) (by rw [List.getElem?_drop, show below s x + (k - below s x) = k by omega]; exact hy)
theorem places_loop {N : Nat} (hN : 1000 < N) {a : List Int} (ha : a.length ≤ 60) : ∀ (n i : Nat), (S a).length < n + i → i ≤ (S a).length → narthexlaw01_SetPlaces_L1 N a (S a) n i = some (.inr ())
  | 0, i, h, hi => by omega
  | n + 1, i, h, hi => by
    have hl := S_len a
    rw [narthexlaw01_SetPlaces_L1]
    by_cases hlt : i < (S a).length
    · obtain ⟨y, hy⟩ := some_at hlt
      rw [if_pos (by simpa using hlt), own_eq (by omega), Option.bind_some, at_nat, hy, Option.bind_some, place_eq (by omega) (by omega), Option.bind_some, below_at (S_strict a) hy, if_neg (by simp), w64_nat (by omega)]
      exact places_loop hN ha n (i + 1) (by omega) (by omega)
    · rw [if_neg (by simpa using hlt)]
theorem law_SetPlaces (a0 : List Int) (o0 : (a0.length ≤ maxLen ∧ ∀ y ∈ a0, (Lit.int .i64 y).wf = true)) (a1 : Int) (o1 : (Lit.int .i64 a1).wf = true) : ∃ N, narthexlaw01_SetPlaces N a0 a1 = some true := by
  obtain ⟨N, hN⟩ : ∃ N : Nat, 1000 < N := ⟨1001, by omega⟩
  refine ⟨N, ?_⟩
  unfold narthexlaw01_SetPlaces
  rw [awake_ok hN, Option.bind_some]
  by_cases h : a0.length > 60
  · rw [if_pos (by simp; omega), Option.bind_some]
  · rw [if_neg (by simp; omega)]
    have hl := S_len a0
    have e1 : narthexlaw01_own N a0 = some a0 := own_eq (by omega)
    have e2 : set_Of N a0 = some (S a0) := of_eq (by omega)
    have e3 := places_loop (N := N) hN (a := a0) (by omega) N 0 (by omega) (by omega)
    rw [show ((0 : Nat) : Int) = 0 from rfl] at e3
    have e4 : set_Place N a0 a1 = some ((below (S a0) a1 : Nat) : Int) := place_eq (by omega) (by omega)
    obtain ⟨b1, b2⟩ := below_of (x := a1) (S_strict a0)
    have b3 := below_le (S a0) a1
    rw [e1, Option.bind_some, e2, Option.bind_some, e3, Option.bind_some]
    simp only
    rw [Option.bind_some, e4, Option.bind_some]
    have c1 : ∃ u, (if (!(((below (S a0) a1 : Nat) : Int) == ((S a0).length : Int))) = true then at? (S a0) ((below (S a0) a1 : Nat) : Int) else some default) = some u ∧ ((((below (S a0) a1 : Nat) : Int) == ((S a0).length : Int)) || decide (u ≥ a1)) = true := by
      rcases Nat.lt_or_ge (below (S a0) a1) (S a0).length with hlt | hge
      · obtain ⟨u, hu⟩ := some_at hlt
        refine ⟨u, ?_, ?_⟩
        · rw [if_pos (by simp; omega), at_nat, hu]
        · have := b2 _ u (Nat.le_refl _) hu
          simp
          omega
      · refine ⟨default, ?_, ?_⟩
        · rw [if_neg (by simp; omega)]
        · simp
          omega
    have c2 : ∃ u, (if (!(((below (S a0) a1 : Nat) : Int) == 0)) = true then at? (S a0) (w64 (((below (S a0) a1 : Nat) : Int) - 1)) else some default) = some u ∧ ((((below (S a0) a1 : Nat) : Int) == 0) || decide (u < a1)) = true := by
      rcases Nat.eq_zero_or_pos (below (S a0) a1) with h0 | h0
      · refine ⟨default, ?_, ?_⟩
        · rw [if_neg (by simp; omega)]
        · simp
          omega
      · obtain ⟨u, hu⟩ := some_at (xs := S a0) (i := below (S a0) a1 - 1) (by omega)
        have ew : w64 (((below (S a0) a1 : Nat) : Int) - 1) = ((below (S a0) a1 - 1 : Nat) : Int) := by rw [w64_is (by omega) (by omega)]; omega
        refine ⟨u, ?_, ?_⟩
        · rw [if_pos (by simp; omega), ew, at_nat, hu]
        · have := b1 _ u (by omega) hu
          simp
          omega
    obtain ⟨u, hu1, hu2⟩ := c1
    obtain ⟨v, hv1, hv2⟩ := c2
    have d1 : decide (((below (S a0) a1 : Nat) : Int) ≥ 0) = true := by simp
    have d2 : decide (((below (S a0) a1 : Nat) : Int) ≤ ((S a0).length : Int)) = true := by simpa using b3
    rw [d1, d2]
    simp only [Bool.true_and]
    rw [hu1, Option.bind_some, hu2]
    simp only [Bool.true_and]
    rw [hv1, Option.bind_some, hv2]

end Go.Proofs.Ytlbopfkhnebegaa
