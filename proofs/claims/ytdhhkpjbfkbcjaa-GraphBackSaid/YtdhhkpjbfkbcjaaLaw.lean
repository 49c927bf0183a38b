/- The plain laws: what the models come to. -/
import Derived.Test.YtdhhkpjbfkbcjaaMod
namespace Go.Proofs.Ytdhhkpjbfkbcjaa
open Go Go.Nx
set_option linter.unusedVariables false
set_option linter.unusedSimpArgs false
set_option linter.unnecessarySimpa false
set_option maxRecDepth 8000
theorem w64_nat {i : Nat} (h : i < 1000000000) : w64 ((i : Int) + 1) = ((i + 1 : Nat) : Int) := by
  have : IntKind.i64.wrap ((i : Int) + 1) = (i : Int) + 1 := wrap_i64 (by omega) (by omega)
  simpa using this
theorem w64_is {n : Int} (h1 : -9223372036854775808 ≤ n) (h2 : n < 9223372036854775808) : w64 n = n := wrap_i64 h1 h2
theorem at_nat {α : Type} {xs : List α} {i : Nat} : at? xs (i : Int) = xs[i]? := by
  simp [at?]
theorem drop_at {α : Type} {xs : List α} {i : Nat} {x : α} (h : xs[i]? = some x) : xs.drop i = x :: xs.drop (i + 1) := by
  obtain ⟨hl, rfl⟩ := List.getElem?_eq_some_iff.1 h
  exact List.drop_eq_getElem_cons hl
theorem take_at {α : Type} {xs : List α} {i : Nat} {x : α} (h : xs[i]? = some x) : xs.take (i + 1) = xs.take i ++ [x] := by
  obtain ⟨hl, rfl⟩ := List.getElem?_eq_some_iff.1 h
  simp
theorem some_at {α : Type} {xs : List α} {i : Nat} (h : i < xs.length) : ∃ x, xs[i]? = some x := ⟨_, List.getElem?_eq_getElem h⟩
theorem app_ok {α : Type} {xs ys : List α} (h : xs.length + ys.length ≤ 1000000) : app? xs ys = some (xs ++ ys) := by
  simp [app?]
  omega
/-! Loops, as folds and searches. -/
theorem loopI {σ ρ : Type} (L : Nat → σ → Option ρ) (I : σ → Prop) (μ : σ → Nat) (R : ρ → Prop) (h : ∀ n s, I s → (∃ s', I s' ∧ μ s' < μ s ∧ L (n + 1) s = L n s') ∨ ∃ r, L (n + 1) s = some r ∧ R r) : ∀ (n : Nat) (s : σ), I s → μ s < n → ∃ r, L n s = some r ∧ R r
  | 0, s, _, hm => by omega
  | n + 1, s, hs, hm => by
    rcases h n s hs with ⟨s', h1, h2, h3⟩ | ⟨r, h1, h2⟩
    · rw [h3]
      exact loopI L I μ R h n s' h1 (by omega)
    · exact ⟨r, h1, h2⟩
theorem findR {ρ : Type} {L : Nat → Int → Option (ρ ⊕ Unit)} {len : Nat} {p : Nat → Bool} {r : ρ} (h1 : ∀ n i, i < len → L (n + 1) (i : Int) = if p i = true then some (.inl r) else L n ((i + 1 : Nat) : Int)) (h2 : ∀ n, L (n + 1) (len : Int) = some (.inr ())) :
    ∀ (n i k : Nat), k < n → i + k = len → L n (i : Int) = some (if (List.range' i k).any p = true then .inl r else .inr ())
  | 0, i, k, h, hi => by omega
  | n + 1, i, 0, h, hi => by
    obtain rfl : i = len := by omega
    rw [h2]
    simp
  | n + 1, i, k + 1, h, hi => by
    rw [h1 n i (by omega), List.range'_succ, List.any_cons]
    cases hp : p i with
    | true => simp
    | false =>
      rw [if_neg (by simp), findR h1 h2 n (i + 1) k (by omega) (by omega), Bool.false_or]
theorem findR0 {ρ : Type} {L : Nat → Int → Option (ρ ⊕ Unit)} {len : Nat} {p : Nat → Bool} {r : ρ} (h1 : ∀ n i, i < len → L (n + 1) (i : Int) = if p i = true then some (.inl r) else L n ((i + 1 : Nat) : Int)) (h2 : ∀ n, L (n + 1) (len : Int) = some (.inr ())) {N : Nat} (hN : len < N) :
    L N 0 = some (if (List.range len).any p = true then .inl r else .inr ()) := by
  have h := findR h1 h2 N 0 len hN (by omega)
  rw [show ((0 : Nat) : Int) = 0 from rfl, ← List.range_eq_range'] at h
  exact h
theorem anyR {α ρ : Type} {L : Nat → Int → Option (ρ ⊕ Unit)} {xs : List α} {q : α → Bool} {r : ρ} (h1 : ∀ n (i : Nat) x, xs[i]? = some x → L (n + 1) (i : Int) = if q x = true then some (.inl r) else L n ((i + 1 : Nat) : Int)) (h2 : ∀ n, L (n + 1) (xs.length : Int) = some (.inr ())) {N : Nat} (hN : xs.length < N) :
    L N 0 = some (if xs.any q = true then .inl r else .inr ()) := by
  have h := findR0 (L := L) (len := xs.length) (p := fun i => match xs[i]? with | some x => q x | none => false) (r := r) (fun n i hi => by
    have hx : xs[i]? = some xs[i] := List.getElem?_eq_getElem hi
    rw [h1 n i _ hx]
    simp only [hx]) h2 hN
  rw [h]
  have : ((List.range xs.length).any fun i => match xs[i]? with | some x => q x | none => false) = xs.any q := by
    rw [Bool.eq_iff_iff, List.any_eq_true, List.any_eq_true]
    constructor
    · rintro ⟨j, hj, hq⟩
      rw [List.mem_range] at hj
      rw [List.getElem?_eq_getElem hj] at hq
      exact ⟨_, List.getElem_mem hj, hq⟩
    · rintro ⟨x, hx, hq⟩
      obtain ⟨j, hj, rfl⟩ := List.getElem_of_mem hx
      exact ⟨j, List.mem_range.2 hj, by rw [List.getElem?_eq_getElem hj]; exact hq⟩
  rw [this]
theorem placeR {α : Type} {L : Nat → Int → Option (Int ⊕ Unit)} {xs : List α} {q : α → Bool} (h1 : ∀ n (i : Nat) x, xs[i]? = some x → L (n + 1) (i : Int) = if q x = true then some (.inl (i : Int)) else L n ((i + 1 : Nat) : Int)) (h2 : ∀ n, L (n + 1) (xs.length : Int) = some (.inr ())) :
    ∀ (n i : Nat), xs.length < n + i → i ≤ xs.length → (∀ x ∈ xs.take i, q x = false) → L n (i : Int) = some (match xs.findIdx? q with | some j => .inl (j : Int) | none => .inr ())
  | 0, i, h, hi, _ => by omega
  | n + 1, i, h, hi, ht => by
    rcases Nat.lt_or_ge i xs.length with hlt | hge
    · have hx : xs[i]? = some xs[i] := List.getElem?_eq_getElem hlt
      rw [h1 n i _ hx]
      cases hq : q xs[i] with
      | true =>
        have : xs.findIdx? q = some i := by
          rw [List.findIdx?_eq_some_iff_getElem]
          refine ⟨hlt, hq, fun j hj => ?_⟩
          have := ht xs[j] (by rw [List.mem_take_iff_getElem]; exact ⟨j, by omega, rfl⟩)
          simp [this]
        rw [if_pos rfl, this]
      | false =>
        rw [if_neg (by simp)]
        refine placeR h1 h2 n (i + 1) (by omega) (by omega) (fun x hx' => ?_)
        rw [List.take_succ_eq_append_getElem hlt, List.mem_append, List.mem_singleton] at hx'
        rcases hx' with h | rfl
        · exact ht x h
        · exact hq
    · have : i = xs.length := by omega
      subst this
      have : xs.findIdx? q = none := by
        rw [List.findIdx?_eq_none_iff]
        intro x hx
        exact ht x (by simpa using hx)
      rw [h2, this]
theorem foldR {α σ ρ : Type} {L : Nat → σ → Int → Option ρ} {xs : List α} {f : σ → α → σ} {fin : σ → Option ρ} (I : Nat → σ → Prop) (h1 : ∀ n (i : Nat) s x, I i s → xs[i]? = some x → L (n + 1) s (i : Int) = L n (f s x) ((i + 1 : Nat) : Int) ∧ I (i + 1) (f s x)) (h2 : ∀ n s, I xs.length s → L (n + 1) s (xs.length : Int) = fin s) :
    ∀ (n i : Nat) (s : σ), xs.length < n + i → i ≤ xs.length → I i s → L n s (i : Int) = fin ((xs.drop i).foldl f s) ∧ I xs.length ((xs.drop i).foldl f s)
  | 0, i, s, h, hi, _ => by omega
  | n + 1, i, s, h, hi, hs => by
    rcases Nat.lt_or_ge i xs.length with hlt | hge
    · have hx : xs[i]? = some xs[i] := List.getElem?_eq_getElem hlt
      obtain ⟨e1, e2⟩ := h1 n i s _ hs hx
      rw [e1, List.drop_eq_getElem_cons hlt, List.foldl_cons]
      exact foldR I h1 h2 n (i + 1) _ (by omega) (by omega) e2
    · have : i = xs.length := by omega
      subst this
      rw [h2 n s hs, List.drop_length]
      exact ⟨rfl, hs⟩
theorem foldR0 {α σ ρ : Type} {L : Nat → σ → Int → Option ρ} {xs : List α} {f : σ → α → σ} {fin : σ → Option ρ} (I : Nat → σ → Prop) (h1 : ∀ n (i : Nat) s x, I i s → xs[i]? = some x → L (n + 1) s (i : Int) = L n (f s x) ((i + 1 : Nat) : Int) ∧ I (i + 1) (f s x)) (h2 : ∀ n s, I xs.length s → L (n + 1) s (xs.length : Int) = fin s) {N : Nat} {s : σ} (hN : xs.length < N) (hs : I 0 s) :
    L N s 0 = fin (xs.foldl f s) ∧ I xs.length (xs.foldl f s) := by
  have h := foldR I h1 h2 N 0 s (by omega) (by omega) hs
  rw [show ((0 : Nat) : Int) = 0 from rfl, List.drop_zero] at h
  exact h
theorem any_place {α : Type} (q : α → Bool) (l : List α) : (Option.bind (match (match l.findIdx? q with | some j => (.inl (j : Int) : Int ⊕ Unit) | none => .inr ()) with | .inl r => some r | .inr _ => some (-1)) fun y1 => some (decide (y1 ≥ 0))) = some (l.any q) := by
  cases h : l.findIdx? q with
  | none =>
    rw [List.findIdx?_eq_none_iff] at h
    have : l.any q = false := by
      rw [List.any_eq_false]
      intro x hx
      simp [h x hx]
    simp [this]
  | some j =>
    rw [List.findIdx?_eq_some_iff_getElem] at h
    obtain ⟨h1, h2, _⟩ := h
    have : l.any q = true := List.any_eq_true.2 ⟨_, List.getElem_mem h1, h2⟩
    simp [this]
theorem ext_at {α : Type} {a b : List α} (hl : a.length = b.length) (h : ∀ (i : Nat) x y, a[i]? = some x → b[i]? = some y → x = y) : a = b := by
  refine List.ext_getElem hl fun i h1 h2 => h i _ _ (List.getElem?_eq_getElem h1) (List.getElem?_eq_getElem h2)
theorem dedG_mem {p : Int} : ∀ {l : List Int}, (p :: l).Pairwise (· ≤ ·) → (dedG p l).Pairwise (· < ·) ∧ (∀ x, x ∈ dedG p l ↔ x ∈ l ∧ x ≠ p) ∧ ∀ x ∈ dedG p l, p < x
  | [], _ => by simp [dedG]
  | y :: ys, h => by
    rw [List.pairwise_cons] at h
    have h2 := h.2
    rw [List.pairwise_cons] at h2
    obtain ⟨i1, i2, i3⟩ := dedG_mem (p := y) (l := ys) h.2
    have hpy := h.1 y (by simp)
    unfold dedG
    split
    · rename_i he
      subst he
      refine ⟨i1, fun x => ?_, i3⟩
      rw [i2]
      constructor
      · rintro ⟨a, b⟩; exact ⟨List.mem_cons_of_mem _ a, b⟩
      · rintro ⟨a, b⟩
        rcases List.mem_cons.1 a with a | a
        · exact absurd a b
        · exact ⟨a, b⟩
    · rename_i he
      refine ⟨List.pairwise_cons.2 ⟨i3, i1⟩, fun x => ?_, fun x hx => ?_⟩
      · rw [List.mem_cons, List.mem_cons, i2]
        constructor
        · rintro (rfl | ⟨a, b⟩)
          · exact ⟨.inl rfl, he⟩
          · refine ⟨.inr a, fun e => ?_⟩
            have := h2.1 x a
            omega
        · rintro ⟨a | a, b⟩
          · exact .inl a
          · by_cases hxy : x = y
            · exact .inl hxy
            · exact .inr ⟨a, hxy⟩
      · rcases List.mem_cons.1 hx with rfl | hx
        · omega
        · have := i3 x hx
          omega
def S (l : List Int) : List Int := dedup (isort l)
theorem dedup_mem {l : List Int} (h : l.Pairwise (· ≤ ·)) : (dedup l).Pairwise (· < ·) ∧ ∀ x, x ∈ dedup l ↔ x ∈ l := by
  cases l with
  | nil => simp [dedup]
  | cons p l =>
    obtain ⟨i1, i2, i3⟩ := dedG_mem h
    refine ⟨List.pairwise_cons.2 ⟨i3, i1⟩, fun x => ?_⟩
    rw [dedup, List.mem_cons, List.mem_cons, i2]
    constructor
    · rintro (a | ⟨a, _⟩)
      · exact .inl a
      · exact .inr a
    · rintro (a | a)
      · exact .inl a
      · by_cases hx : x = p
        · exact .inl hx
        · exact .inr ⟨a, hx⟩
theorem S_strict (l : List Int) : (S l).Pairwise (· < ·) := (dedup_mem (isort_sorted l)).1
theorem S_mem {l : List Int} {x : Int} : x ∈ S l ↔ x ∈ l := ((dedup_mem (isort_sorted l)).2 x).trans (isort_perm l).mem_iff
theorem strict_ext : ∀ {s t : List Int}, s.Pairwise (· < ·) → t.Pairwise (· < ·) → (∀ x, x ∈ s ↔ x ∈ t) → s = t := by
  intro s t hs ht h
  refine List.Perm.eq_of_pairwise (le := (· < ·)) (fun a b _ _ h1 h2 => by omega) hs ht ?_
  have hn : ∀ {u : List Int}, u.Pairwise (· < ·) → u.Nodup := fun hu => hu.imp (fun h => by omega)
  exact (List.perm_ext_iff_of_nodup (hn hs) (hn ht)).2 h
theorem S_eq {l s : List Int} (hs : s.Pairwise (· < ·)) (h : ∀ x, x ∈ s ↔ x ∈ l) : S l = s := strict_ext (S_strict l) hs fun x => S_mem.trans (h x).symm
theorem S_self {s : List Int} (hs : s.Pairwise (· < ·)) : S s = s := S_eq hs fun _ => Iff.rfl
theorem of_eq {N : Nat} {l : List Int} (h : l.length ≤ 1000) : set_Of N l = some (S l) := by
  have h1 : slices_Clone_int N l = some l := by simp [slices_Clone_int, app_ok (xs := ([] : List Int)) (ys := l) (by simp; omega)]
  have h2 : sort? l = some (isort l) := by rw [sort?, if_pos (by omega)]
  have h3 : ded? (isort l) = some (S l) := by rw [ded?, if_pos (by rw [length_isort]; omega)]; rfl
  simp [set_Of, h1, h2, h3]
theorem ownG_eq {N : Nat} {g : TGraph} (h : g.Edges.length ≤ 1000) : narthexlaw03_Own N g = some g := by
  simp [narthexlaw03_Own, app_ok (xs := ([] : List TEdge)) (ys := g.Edges) (by simp; omega)]
def ltE (x y : TEdge) : Prop := x.A < y.A ∨ (x.A = y.A ∧ x.B < y.B)
instance (x y : TEdge) : Decidable (ltE x y) := inferInstanceAs (Decidable (_ ∨ _))
structure GoodG (g : TGraph) : Prop where
  lo : 0 ≤ g.N
  hi : g.N ≤ 64
  len : g.Edges.length ≤ 400
  edge : ∀ e ∈ g.Edges, 0 ≤ e.A ∧ e.A < e.B ∧ e.B < g.N
  sorted : ∀ (i : Nat) x y, g.Edges[i]? = some x → g.Edges[i + 1]? = some y → ltE x y
theorem GoodG.nat {g : TGraph} (h : GoodG g) : ∃ m : Nat, g.N = (m : Int) ∧ m ≤ 64 := ⟨g.N.toNat, by have := h.lo; omega, by have := h.hi; omega⟩
theorem compare_eq {N : Nat} {x y : Int} : cmp_Compare_int N x y = some (if x < y then -1 else if x > y then 1 else 0) := by
  simp only [cmp_Compare_int, cmp_isNaN_int, Option.bind_some, bne_self_eq_false, Bool.false_eq_true, if_false, decide_eq_true_eq]
  split
  · rfl
  · split <;> rfl
theorem rank_eq {N : Nat} {x y : TEdge} (hN : 2 < N) : ∃ r, graph_rank N x y = some r ∧ (r ≥ 0 ↔ ¬ ltE x y) ∧ (r = 0 ↔ x = y) ∧ (r < 0 ↔ ltE x y) := by
  obtain ⟨M, rfl⟩ : ∃ M, N = M + 3 := ⟨N - 3, by omega⟩
  have e3 : w64 (0 + 1) = 1 := by decide
  have e4 : w64 (1 + 1) = 2 := by decide
  have hor0 : ∀ q : Int, cmp_Or_int (M + 3) [0, q] = some q := by
    intro q
    unfold cmp_Or_int
    rw [cmp_Or_int_L1, if_pos (by simp), show at? [0, q] 0 = some 0 from rfl, Option.bind_some, if_neg (by simp), e3, cmp_Or_int_L1, if_pos (by simp), show at? [0, q] 1 = some q from rfl, Option.bind_some]
    by_cases hq : q = 0
    · rw [if_neg (by simp [hq]), e4, cmp_Or_int_L1, if_neg (by simp), Option.bind_some, hq]
    · rw [if_pos (by simp [hq]), Option.bind_some]
  have hor1 : ∀ p q : Int, p ≠ 0 → cmp_Or_int (M + 3) [p, q] = some p := by
    intro p q hp
    unfold cmp_Or_int
    rw [cmp_Or_int_L1, if_pos (by simp), show at? [p, q] 0 = some p from rfl, Option.bind_some, if_pos (by simp [hp]), Option.bind_some]
  have hor : ∀ p q : Int, cmp_Or_int (M + 3) [p, q] = some (if p ≠ 0 then p else q) := by
    intro p q
    by_cases hp : p = 0
    · subst hp
      rw [hor0]
      rfl
    · rw [hor1 p q hp, if_pos hp]
  unfold graph_rank
  rw [compare_eq, Option.bind_some, compare_eq, Option.bind_some, hor, Option.bind_some]
  refine ⟨_, rfl, ?_⟩
  obtain ⟨xa, xb⟩ := x
  obtain ⟨ya, yb⟩ := y
  simp only [ltE, TEdge.mk.injEq]
  refine ⟨?_, ?_, ?_⟩ <;> split <;> (try split) <;> (try split) <;> (try split) <;> omega
def oddE (n : Int) (e : TEdge) : Bool := (decide (e.A < 0)) || (decide (e.A ≥ e.B)) || (decide (e.B ≥ n))
theorem gcheck_any {N : Nat} {l : List TEdge} {n : Int} {u : List TEdge} (hN : 1000 < N) (hl : l.length ≤ 400) : slices_ContainsFunc_Edge N l n u = some (l.any (oddE n)) := by
  unfold slices_ContainsFunc_Edge slices_IndexFunc_Edge
  have h := placeR (L := slices_IndexFunc_Edge_L1 N l n u) (xs := l) (q := oddE n) (fun k i y hy => by
    have hl' := (List.getElem?_eq_some_iff.1 hy).1
    rw [slices_IndexFunc_Edge_L1, if_pos (by simpa using hl'), at_nat, hy, Option.bind_some, w64_nat (by omega)]
    rfl) (fun k => by rw [slices_IndexFunc_Edge_L1, if_neg (by simp)]) N 0 (by omega) (by omega) (by simp)
  rw [show ((0 : Nat) : Int) = 0 from rfl] at h
  rw [h, Option.bind_some]
  exact any_place _ _
theorem sub_one {i : Nat} (h : 0 < i) (h2 : i < 100000) : w64 ((i : Int) - 1) = ((i - 1 : Nat) : Int) := by
  rw [w64_is (by omega) (by omega)]; omega
def oddAt (g : TGraph) (i : Nat) : Bool := match g.Edges[i]? with | some x => oddE g.N x | none => false
def outAt (g : TGraph) (i : Nat) : Bool := match i with
  | 0 => false
  | k + 1 => match g.Edges[k]?, g.Edges[k + 1]? with | some x, some y => !decide (ltE x y) | _, _ => false
theorem goodG_iff {g : TGraph} (h1 : 0 ≤ g.N) (h2 : g.N ≤ 64) (h3 : g.Edges.length ≤ 400) : (g.Edges.any (oddE g.N) = false ∧ (List.range g.Edges.length).any (outAt g) = false) ↔ GoodG g := by
  rw [List.any_eq_false, List.any_eq_false]
  constructor
  · rintro ⟨h, h'⟩
    refine ⟨h1, h2, h3, fun e he => ?_, fun i x y hx hy => ?_⟩
    · have := h e he
      simp only [oddE, Bool.or_eq_true, decide_eq_true_eq] at this
      omega
    · have := h' (i + 1) (List.mem_range.2 (List.getElem?_eq_some_iff.1 hy).1)
      simpa [outAt, hx, hy] using this
  · intro hg
    refine ⟨fun e he => ?_, fun i hi => ?_⟩
    · have := hg.edge e he
      simp only [oddE, Bool.or_eq_true, decide_eq_true_eq]
      omega
    · rw [List.mem_range] at hi
      cases i with
      | zero => simp [outAt]
      | succ k =>
        obtain ⟨x, hx⟩ := some_at (xs := g.Edges) (i := k) (by omega)
        obtain ⟨y, hy⟩ := some_at hi
        have := hg.sorted k x y hx hy
        simp [outAt, hx, hy, this]
theorem gcheck_eq {N : Nat} {g : TGraph} (hN : 1000 < N) : (GoodG g ∧ graph_Check N g = some 0) ∨ (¬ GoodG g ∧ graph_Check N g = some 30) := by
  unfold graph_Check
  by_cases h : g.N < 0 ∨ g.N > 64 ∨ g.Edges.length > 400
  · have e : ((decide (g.N < 0)) || (decide (g.N > 64)) || (decide ((g.Edges.length : Int) > 400))) = true := by simp; omega
    rw [e, if_neg (by simp), Option.bind_some, if_pos (by simp)]
    exact .inr ⟨fun g' => by have := g'.lo; have := g'.hi; have := g'.len; omega, rfl⟩
  · have e : ((decide (g.N < 0)) || (decide (g.N > 64)) || (decide ((g.Edges.length : Int) > 400))) = false := by simp; omega
    have hg := goodG_iff (g := g) (by omega) (by omega) (by omega)
    rw [e, if_pos (by simp), gcheck_any hN (by omega), Option.bind_some, Bool.false_or]
    cases ho : g.Edges.any (oddE g.N) with
    | true => exact .inr ⟨fun g' => (by have := (hg.2 g').1; rw [ho] at this; cases this), rfl⟩
    | false =>
      have hs := findR0 (L := graph_Check_L1 N g) (len := g.Edges.length) (p := outAt g) (r := 30) (fun n i hi => by
        rw [graph_Check_L1, if_pos (by simpa using hi), w64_nat (by omega)]
        cases i with
        | zero => simp [outAt]
        | succ k =>
          obtain ⟨x, hx⟩ := some_at (xs := g.Edges) (i := k) (by omega)
          obtain ⟨y, hy⟩ := some_at hi
          obtain ⟨r, hr, hr1, _⟩ := rank_eq (N := N) (x := x) (y := y) (by omega)
          have e0 : decide (((k + 1 : Nat) : Int) > 0) = true := by simp only [decide_eq_true_eq]; omega
          rw [e0, if_pos rfl, sub_one (by omega) (by omega), Nat.add_sub_cancel, at_nat, hx, Option.bind_some, if_pos rfl, at_nat, hy, Option.bind_some, if_pos rfl, hr, Option.bind_some]
          have e1 : decide (r ≥ 0) = !decide (ltE x y) := by
            rw [Bool.eq_iff_iff]
            simpa using hr1
          rw [e1]
          simp [outAt, hx, hy]) (fun n => by rw [graph_Check_L1, if_neg (by simp)]) (N := N) (by omega)
      rw [ho] at hg
      rw [if_neg (by simp), hs, Option.bind_some]
      cases hb : (List.range g.Edges.length).any (outAt g) with
      | true => exact .inr ⟨fun g' => (by have := (hg.2 g').2; rw [hb] at this; cases this), rfl⟩
      | false => exact .inl ⟨hg.1 ⟨rfl, hb⟩, rfl⟩
theorem refgcheck_eq {N : Nat} {g : TGraph} (hN : 1000 < N) : (GoodG g ∧ narthexref03_Check N g = some true) ∨ (¬ GoodG g ∧ narthexref03_Check N g = some false) := by
  unfold narthexref03_Check
  by_cases h : g.N < 0 ∨ g.N > 64 ∨ g.Edges.length > 400
  · rw [if_pos (by simp; omega)]
    exact .inr ⟨fun g' => by have := g'.lo; have := g'.hi; have := g'.len; omega, rfl⟩
  · have hg := goodG_iff (g := g) (by omega) (by omega) (by omega)
    rw [if_neg (by simp; omega), findR0 (L := narthexref03_Check_L1 N g) (len := g.Edges.length) (p := fun i => oddAt g i || outAt g i) (r := false) (fun n i hi => by
      obtain ⟨y, hy⟩ := some_at hi
      rw [narthexref03_Check_L1, if_pos (by simpa using hi), at_nat, hy, Option.bind_some, w64_nat (by omega)]
      change (Option.bind (if (!(oddE g.N y) && (decide ((i : Int) > 0))) = true then _ else _) fun x5 => Option.bind (if (!(oddE g.N y) && (decide ((i : Int) > 0))) = true then _ else _) fun y6 => if (oddE g.N y || ((decide ((i : Int) > 0)) && (!y6))) = true then _ else _) = _
      have ho : oddAt g i = oddE g.N y := by simp [oddAt, hy]
      simp only [ho]
      by_cases hb : oddE g.N y = true
      · simp [hb]
      · have hb : oddE g.N y = false := by simpa using hb
        simp only [hb]
        cases i with
        | zero => simp [outAt]
        | succ k =>
          obtain ⟨x, hx⟩ := some_at (xs := g.Edges) (i := k) (by omega)
          have e0 : decide (((k + 1 : Nat) : Int) > 0) = true := by simp only [decide_eq_true_eq]; omega
          rw [e0, if_pos (by simp), sub_one (by omega) (by omega), Nat.add_sub_cancel, at_nat, hx, Option.bind_some, if_pos (by simp)]
          simp only [narthexref03_ahead, Option.bind_some, Bool.false_or, Bool.true_and]
          have e1 : (decide (x.A < y.A) || x.A == y.A && decide (x.B < y.B)) = decide (ltE x y) := by
            rw [Bool.eq_iff_iff, decide_eq_true_iff (p := ltE x y)]
            simp [ltE]
          rw [e1]
          simp [outAt, hx, hy]) (fun n => by rw [narthexref03_Check_L1, if_neg (by simp)]) (N := N) (by omega), Option.bind_some]
    have e : ((List.range g.Edges.length).any fun i => oddAt g i || outAt g i) = (g.Edges.any (oddE g.N) || (List.range g.Edges.length).any (outAt g)) := by
      rw [Bool.eq_iff_iff]
      simp only [List.any_eq_true, Bool.or_eq_true, List.mem_range]
      constructor
      · rintro ⟨i, hi, h | h⟩
        · rw [oddAt, List.getElem?_eq_getElem hi] at h
          exact .inl ⟨_, List.getElem_mem hi, h⟩
        · exact .inr ⟨i, hi, h⟩
      · rintro (⟨x, hx, h⟩ | ⟨i, hi, h⟩)
        · obtain ⟨i, hi, rfl⟩ := List.getElem_of_mem hx
          exact ⟨i, hi, .inl (by rw [oddAt, List.getElem?_eq_getElem hi]; exact h)⟩
        · exact ⟨i, hi, .inr h⟩
    rw [e]
    cases ha : g.Edges.any (oddE g.N) with
    | true => exact .inr ⟨fun g' => (by have := (hg.2 g').1; rw [ha] at this; cases this), rfl⟩
    | false =>
      cases hb : (List.range g.Edges.length).any (outAt g) with
      | true => exact .inr ⟨fun g' => (by have := (hg.2 g').2; rw [hb] at this; cases this), rfl⟩
      | false => exact .inl ⟨hg.1 ⟨ha, hb⟩, rfl⟩
def adj (g : TGraph) (a b : Int) : Bool := g.Edges.any fun e => decide (e.A = a ∧ e.B = b) || decide (e.A = b ∧ e.B = a)
def near (m : Nat) (g : TGraph) (a : Int) : List Int := ((List.range m).filter fun b : Nat => adj g a (b : Int)).map Int.ofNat
theorem adj_iff {g : TGraph} {a b : Int} : adj g a b = true ↔ ∃ e ∈ g.Edges, (e.A = a ∧ e.B = b) ∨ (e.A = b ∧ e.B = a) := by simp [adj]
theorem adj_comm {g : TGraph} {a b : Int} : adj g a b = adj g b a := by
  rw [Bool.eq_iff_iff, adj_iff, adj_iff]
  constructor
  · rintro ⟨e, he, h | h⟩
    · exact ⟨e, he, .inr h⟩
    · exact ⟨e, he, .inl h⟩
  · rintro ⟨e, he, h | h⟩
    · exact ⟨e, he, .inr h⟩
    · exact ⟨e, he, .inl h⟩
theorem adj_ok {g : TGraph} (hg : GoodG g) {a b : Int} (h : adj g a b = true) : 0 ≤ a ∧ a < g.N ∧ 0 ≤ b ∧ b < g.N ∧ a ≠ b := by
  obtain ⟨e, he, h⟩ := adj_iff.1 h
  have := hg.edge e he
  omega
theorem mem_near {m : Nat} {g : TGraph} (hg : GoodG g) (hm : g.N = (m : Int)) {a b : Int} : b ∈ near m g a ↔ adj g a b = true := by
  unfold near
  rw [List.mem_map]
  constructor
  · rintro ⟨k, hk, rfl⟩
    exact (List.mem_filter.1 hk).2
  · intro h
    have := adj_ok hg h
    refine ⟨b.toNat, List.mem_filter.2 ⟨List.mem_range.2 (by omega), ?_⟩, by simp; omega⟩
    rwa [show ((b.toNat : Nat) : Int) = b by omega]
theorem near_strict (m : Nat) (g : TGraph) (a : Int) : (near m g a).Pairwise (· < ·) := by
  unfold near
  rw [List.pairwise_map]
  exact (List.pairwise_lt_range.filter _).imp fun h => by simpa using h
theorem near_len (m : Nat) (g : TGraph) (a : Int) : (near m g a).length ≤ m := by
  have := List.length_filter_le (fun b : Nat => adj g a (b : Int)) (List.range m)
  simp [near] at this ⊢
  omega
theorem refhasE_eq {N : Nat} {g : TGraph} {a b : Int} (hN : 1000 < N) (hl : g.Edges.length ≤ 400) (h1 : a ≤ b ∨ b < a) : narthexref03_Has N g a b = some (g.Edges.any fun e => ((e.A == a) && (e.B == b) && decide (a ≤ b)) || ((e.A == b) && (e.B == a) && decide (b < a))) := by
  unfold narthexref03_Has
  rw [anyR (L := narthexref03_Has_L1 N g a b) (xs := g.Edges) (q := fun e => ((e.A == a) && (e.B == b) && decide (a ≤ b)) || ((e.A == b) && (e.B == a) && decide (b < a))) (r := true) (fun n i y hy => by
    have hl' := (List.getElem?_eq_some_iff.1 hy).1
    rw [narthexref03_Has_L1, if_pos (by simpa using hl'), at_nat, hy, Option.bind_some, w64_nat (by omega)]) (fun n => by rw [narthexref03_Has_L1, if_neg (by simp)]) (by omega), Option.bind_some]
  cases g.Edges.any fun e => ((e.A == a) && (e.B == b) && decide (a ≤ b)) || ((e.A == b) && (e.B == a) && decide (b < a)) <;> rfl
theorem refhas_adj {N : Nat} {g : TGraph} {a b : Int} (hN : 1000 < N) (hg : GoodG g) : narthexref03_Has N g a b = some (adj g a b) := by
  rw [refhasE_eq hN hg.len (by omega)]
  congr 1
  rw [Bool.eq_iff_iff, adj_iff]
  simp only [List.any_eq_true, Bool.or_eq_true, Bool.and_eq_true, beq_iff_eq, decide_eq_true_eq]
  constructor
  · rintro ⟨e, he, ⟨⟨h1, h2⟩, _⟩ | ⟨⟨h1, h2⟩, _⟩⟩
    · exact ⟨e, he, .inl ⟨h1, h2⟩⟩
    · exact ⟨e, he, .inr ⟨h1, h2⟩⟩
  · rintro ⟨e, he, ⟨h1, h2⟩ | ⟨h1, h2⟩⟩
    · have := hg.edge e he
      exact ⟨e, he, .inl ⟨⟨h1, h2⟩, by omega⟩⟩
    · have := hg.edge e he
      exact ⟨e, he, .inr ⟨⟨h1, h2⟩, by omega⟩⟩
theorem gnear_eq {N m : Nat} {g : TGraph} {a : Int} (hN : 1000 < N) (hg : GoodG g) (hm : g.N = (m : Int)) : graph_Near N g a = some (near m g a) := by
  have hl := hg.len
  unfold graph_Near
  rcases gcheck_eq (g := g) hN with ⟨_, h⟩ | ⟨hn, _⟩
  · have h2 := foldR0 (L := graph_Near_L1 N g a) (xs := g.Edges) (f := fun out e => if a = e.A then out ++ [e.B] else if a = e.B then out ++ [e.A] else out) (fin := some) (I := fun i out => out.length ≤ i ∧ ∀ b, b ∈ out ↔ ∃ e ∈ g.Edges.take i, (e.A = a ∧ e.B = b) ∨ (e.A = b ∧ e.B = a)) (fun n i out e ho he => by
      have hil := (List.getElem?_eq_some_iff.1 he).1
      have hb := hg.edge e (List.mem_of_getElem? he)
      refine ⟨?_, ?_, ?_⟩
      · rw [graph_Near_L1, if_pos (by simpa using hil), at_nat, he, Option.bind_some, w64_nat (by omega)]
        by_cases h1 : a = e.A
        · rw [if_pos (by simpa using h1), if_pos h1, app_ok (by simp; omega), Option.bind_some]
        · rw [if_neg (by simpa using h1), if_neg h1]
          by_cases h2 : a = e.B
          · rw [if_pos (by simpa using h2), if_pos h2, app_ok (by simp; omega), Option.bind_some]
          · rw [if_neg (by simpa using h2), if_neg h2]
      · split
        · simp
          omega
        · split
          · simp
            omega
          · omega
      · intro b
        rw [take_at he]
        simp only [List.mem_append, List.mem_singleton]
        constructor
        · intro hb'
          split at hb'
          · rename_i h1
            rw [List.mem_append, List.mem_singleton] at hb'
            rcases hb' with hb' | rfl
            · obtain ⟨e', he', h⟩ := (ho.2 b).1 hb'
              exact ⟨e', .inl he', h⟩
            · exact ⟨e, .inr rfl, .inl ⟨h1.symm, rfl⟩⟩
          · split at hb'
            · rename_i h1
              rw [List.mem_append, List.mem_singleton] at hb'
              rcases hb' with hb' | rfl
              · obtain ⟨e', he', h⟩ := (ho.2 b).1 hb'
                exact ⟨e', .inl he', h⟩
              · exact ⟨e, .inr rfl, .inr ⟨rfl, h1.symm⟩⟩
            · obtain ⟨e', he', h⟩ := (ho.2 b).1 hb'
              exact ⟨e', .inl he', h⟩
        · rintro ⟨e', he' | rfl, h⟩
          · have := (ho.2 b).2 ⟨e', he', h⟩
            split
            · exact List.mem_append_left _ this
            · split
              · exact List.mem_append_left _ this
              · exact this
          · rcases h with ⟨h1, h2⟩ | ⟨h1, h2⟩
            · rw [if_pos h1.symm, ← h2]
              simp
            · rw [if_neg (by omega), if_pos h2.symm, ← h1]
              simp) (fun n out ho => by rw [graph_Near_L1, if_neg (by simp)]) (N := N) (s := []) (by omega) (by simp)
    obtain ⟨h3, h4, h5⟩ := h2
    rw [List.take_length] at h5
    rw [h, Option.bind_some, if_neg (by simp), h3, Option.bind_some, of_eq (by omega), Option.bind_some]
    congr 1
    refine S_eq (near_strict m g a) fun b => ?_
    rw [mem_near hg hm, h5, adj_iff]
  · exact absurd hg hn
theorem index_loop {N : Nat} {l : List Int} {x : Int} (hb : l.length ≤ 1000) : ∀ (n i : Nat), l.length < n + i → i ≤ l.length →
    ∃ z, slices_Index_int_L1 N l x n i = some z ∧ (match z with | .inl r => 0 ≤ r ∧ x ∈ l.drop i | .inr _ => x ∉ l.drop i)
  | 0, i, h, hi => by omega
  | n + 1, i, h, hi => by
    rw [slices_Index_int_L1]
    by_cases hlt : i < l.length
    · obtain ⟨y, hy⟩ := some_at hlt
      rw [if_pos (by simpa using hlt), at_nat, hy, Option.bind_some, drop_at hy]
      by_cases hxy : x = y
      · rw [if_pos (by simpa using hxy)]
        exact ⟨.inl (i : Int), rfl, by omega, by simp [hxy]⟩
      · rw [if_neg (by simpa using hxy), w64_nat (by omega)]
        obtain ⟨z, h1, h2⟩ := index_loop hb n (i + 1) (by omega) (by omega)
        exact ⟨z, h1, by
          match z, h2 with
          | .inl r, h2 => exact ⟨h2.1, List.mem_cons_of_mem _ h2.2⟩
          | .inr _, h2 => exact fun e => (List.mem_cons.1 e).elim hxy h2⟩
    · rw [if_neg (by simpa using hlt)]
      exact ⟨.inr (), rfl, by rw [List.drop_eq_nil_of_le (by omega)]; simp⟩
theorem has_eq {N : Nat} {l : List Int} {x : Int} (hN : 1000 < N) (hb : l.length ≤ 1000) : set_Has N l x = some (decide (x ∈ l)) := by
  unfold set_Has slices_Contains_int slices_Index_int
  obtain ⟨z, h1, h2⟩ := index_loop (N := N) (x := x) hb N 0 (by omega) (by omega)
  rw [show ((0 : Nat) : Int) = 0 from rfl] at h1
  rw [h1]
  simp only [List.drop_zero] at h2
  match z, h2 with
  | .inl r, h2 => simp [h2.1, h2.2]
  | .inr _, h2 => simp [h2]
theorem inc_pairwise : ∀ {l : List Int}, (∀ (k : Nat) (x y : Int), l[k]? = some x → l[k + 1]? = some y → x < y) → l.Pairwise (· < ·)
  | [], _ => .nil
  | [x], _ => by simp
  | x :: y :: l, h => by
    have ih := inc_pairwise (l := y :: l) fun k a b h1 h2 => h (k + 1) a b (by simpa using h1) (by simpa using h2)
    refine List.pairwise_cons.2 ⟨fun z hz => ?_, ih⟩
    have hxy := h 0 x y rfl rfl
    rcases List.mem_cons.1 hz with rfl | hz
    · exact hxy
    · have := (List.pairwise_cons.1 ih).1 z hz
      omega
theorem pairwise_inc {l : List Int} (h : l.Pairwise (· < ·)) {k k' : Nat} {x y : Int} (hk : k < k') (hx : l[k]? = some x) (hy : l[k']? = some y) : x < y := by
  obtain ⟨h1, rfl⟩ := List.getElem?_eq_some_iff.1 hx
  obtain ⟨h2, rfl⟩ := List.getElem?_eq_some_iff.1 hy
  exact List.pairwise_iff_getElem.1 h k k' h1 h2 hk
theorem valid_loop {N : Nat} {l : List Int} (hb : l.length ≤ 1000) : ∀ (n i : Nat), l.length < n + i → i ≤ l.length →
    ∃ z, set_Valid_L1 N l n i = some z ∧ (match z with
      | .inl r => r = false ∧ ∃ (k : Nat) (x y : Int), i ≤ k + 1 ∧ l[k]? = some x ∧ l[k + 1]? = some y ∧ y ≤ x
      | .inr _ => ∀ (k : Nat) (x y : Int), i ≤ k + 1 → l[k]? = some x → l[k + 1]? = some y → x < y)
  | 0, i, h, hi => by omega
  | n + 1, i, h, hi => by
    rw [set_Valid_L1]
    by_cases hlt : i < l.length
    · obtain ⟨y, hy⟩ := some_at hlt
      rw [if_pos (by simpa using hlt)]
      rcases Nat.eq_zero_or_pos i with rfl | h0
      · rw [if_neg (by simp), if_neg (by simp), Option.bind_some, Option.bind_some, if_neg (by simp), w64_nat (by omega)]
        obtain ⟨z, h1, h2⟩ := valid_loop hb n (0 + 1) (by omega) (by omega)
        refine ⟨z, h1, ?_⟩
        match z, h2 with
        | .inl r, h2 => obtain ⟨a, k, x, y, h3, h4⟩ := h2; exact ⟨a, k, x, y, by omega, h4⟩
        | .inr _, h2 => exact fun k x y _ a b => h2 k x y (by omega) a b
      · obtain ⟨j, rfl⟩ : ∃ j, i = j + 1 := ⟨i - 1, by omega⟩
        obtain ⟨x, hx⟩ := some_at (xs := l) (i := j) (by omega)
        have e1 : w64 (((j + 1 : Nat) : Int) - 1) = (j : Int) := by rw [w64_is (by omega) (by omega)]; omega
        rw [if_pos (by simp), if_pos (by simp), e1, at_nat, at_nat, hx, hy, Option.bind_some, Option.bind_some]
        by_cases hxy : x < y
        · rw [if_neg (by simp; omega), w64_nat (by omega)]
          obtain ⟨z, h1, h2⟩ := valid_loop hb n (j + 1 + 1) (by omega) (by omega)
          refine ⟨z, h1, ?_⟩
          match z, h2 with
          | .inl r, h2 => obtain ⟨a, k, x, y, h3, h4⟩ := h2; exact ⟨a, k, x, y, by omega, h4⟩
          | .inr _, h2 =>
            intro k a b hk ha hb
            rcases Nat.lt_or_ge k (j + 1) with hkj | hkj
            · obtain rfl : k = j := by omega
              rw [hx] at ha
              rw [hy] at hb
              cases ha
              cases hb
              exact hxy
            · exact h2 k a b (by omega) ha hb
        · rw [if_pos (by simp; omega)]
          exact ⟨.inl false, rfl, rfl, j, x, y, Nat.le_refl _, hx, hy, by omega⟩
    · rw [if_neg (by simpa using hlt)]
      refine ⟨.inr (), rfl, fun k x y hk hx hy => ?_⟩
      have := (List.getElem?_eq_some_iff.1 hy).1
      omega
theorem valid_eq {N : Nat} {l : List Int} (hN : 1000 < N) (hb : l.length ≤ 1000) : set_Valid N l = some (decide (S l = l)) := by
  unfold set_Valid
  obtain ⟨z, h1, h2⟩ := valid_loop (N := N) hb N 0 (by omega) (by omega)
  rw [show ((0 : Nat) : Int) = 0 from rfl] at h1
  rw [h1, Option.bind_some]
  match z, h2 with
  | .inl r, h2 =>
    obtain ⟨rfl, k, x, y, _, hx, hy, hxy⟩ := h2
    have : ¬ S l = l := fun e => by
      have hs := S_strict l
      rw [e] at hs
      have := pairwise_inc hs (Nat.lt_succ_self k) hx hy
      omega
    simp [this]
  | .inr _, h2 =>
    have : S l = l := S_self (inc_pairwise fun k x y a b => h2 k x y (by omega) a b)
    simp [this]


/-! Edges in order. -/
def mke (a b : Int) : TEdge := ⟨min a b, max a b⟩
theorem mke_comm (a b : Int) : mke a b = mke b a := by
  simp only [mke, TEdge.mk.injEq]
  omega
def Nodes (g : TGraph) (a b : Int) : Prop := 0 ≤ a ∧ a < g.N ∧ 0 ≤ b ∧ b < g.N ∧ a ≠ b
instance (g : TGraph) (a b : Int) : Decidable (Nodes g a b) := inferInstanceAs (Decidable (_ ∧ _))
theorem ltE_irr (x : TEdge) : ¬ ltE x x := by
  unfold ltE
  omega
theorem ltE_trans {x y z : TEdge} (h : ltE x y) (h2 : ltE y z) : ltE x z := by
  unfold ltE at *
  omega
theorem ltE_tri {x y : TEdge} (h : ¬ ltE x y) (h2 : x ≠ y) : ltE y x := by
  cases x
  cases y
  simp only [ltE, ne_eq, TEdge.mk.injEq] at *
  omega
theorem adj_pair : ∀ {l : List TEdge}, (∀ (i : Nat) x y, l[i]? = some x → l[i + 1]? = some y → ltE x y) → l.Pairwise ltE
  | [], _ => .nil
  | a :: l, h => by
    have ih := adj_pair (l := l) (fun i x y hx hy => h (i + 1) x y (by simpa using hx) (by simpa using hy))
    refine List.pairwise_cons.2 ⟨fun y hy => ?_, ih⟩
    cases l with
    | nil => cases hy
    | cons b l =>
      have hab := h 0 a b rfl rfl
      rcases List.mem_cons.1 hy with rfl | hy
      · exact hab
      · exact ltE_trans hab ((List.pairwise_cons.1 ih).1 y hy)
theorem GoodG.pair {g : TGraph} (h : GoodG g) : g.Edges.Pairwise ltE := adj_pair h.sorted
theorem pair_at {l : List TEdge} (h : l.Pairwise ltE) {i j : Nat} {x y : TEdge} (hij : i < j) (hx : l[i]? = some x) (hy : l[j]? = some y) : ltE x y := by
  obtain ⟨h1, rfl⟩ := List.getElem?_eq_some_iff.1 hx
  obtain ⟨h2, rfl⟩ := List.getElem?_eq_some_iff.1 hy
  exact List.pairwise_iff_getElem.1 h i j h1 h2 hij
theorem good_of {g : TGraph} (h1 : 0 ≤ g.N) (h2 : g.N ≤ 64) (h3 : g.Edges.length ≤ 400) (h4 : ∀ e ∈ g.Edges, 0 ≤ e.A ∧ e.A < e.B ∧ e.B < g.N) (h5 : g.Edges.Pairwise ltE) : GoodG g := ⟨h1, h2, h3, h4, fun i x y hx hy => pair_at h5 (Nat.lt_succ_self i) hx hy⟩
theorem srt_ext {s t : List TEdge} (hs : s.Pairwise ltE) (ht : t.Pairwise ltE) (h : ∀ x, x ∈ s ↔ x ∈ t) : s = t := by
  refine List.Perm.eq_of_pairwise (le := ltE) (fun a b _ _ h1 h2 => absurd (ltE_trans h1 h2) (ltE_irr a)) hs ht ?_
  have hn : ∀ {u : List TEdge}, u.Pairwise ltE → u.Nodup := fun hu => hu.imp (fun {a b} h => fun e => ltE_irr a (by rw [← e] at h; exact h))
  exact (List.perm_ext_iff_of_nodup (hn hs) (hn ht)).2 h
/-! Is there an edge? -/
theorem indexE_eq {N : Nat} {l : List TEdge} {x : TEdge} (hN : 1000 < N) (hb : l.length ≤ 1000) : slices_Index_Edge N l x = some (match l.findIdx? (fun y => decide (x = y)) with | some j => (j : Int) | none => -1) := by
  unfold slices_Index_Edge
  have h := placeR (L := slices_Index_Edge_L1 N l x) (xs := l) (q := fun y => decide (x = y)) (fun n i y hy => by
    have hl := (List.getElem?_eq_some_iff.1 hy).1
    rw [slices_Index_Edge_L1, if_pos (by simpa using hl), at_nat, hy, Option.bind_some, w64_nat (by omega)]) (fun n => by rw [slices_Index_Edge_L1, if_neg (by simp)]) N 0 (by omega) (by omega) (by simp)
  rw [show ((0 : Nat) : Int) = 0 from rfl] at h
  rw [h, Option.bind_some]
  cases l.findIdx? (fun y => decide (x = y)) <;> rfl
theorem containsE_eq {N : Nat} {l : List TEdge} {x : TEdge} (hN : 1000 < N) (hb : l.length ≤ 1000) : slices_Contains_Edge N l x = some (decide (x ∈ l)) := by
  unfold slices_Contains_Edge
  rw [indexE_eq hN hb, Option.bind_some]
  congr 1
  rw [Bool.eq_iff_iff]
  cases h : l.findIdx? (fun y => decide (x = y)) with
  | none =>
    rw [List.findIdx?_eq_none_iff] at h
    simp only [decide_eq_true_eq]
    constructor
    · intro h1; omega
    · intro h1; have := h x h1; simp at this
  | some j =>
    rw [List.findIdx?_eq_some_iff_getElem] at h
    obtain ⟨h1, h2, _⟩ := h
    simp only [decide_eq_true_eq]
    have : x = l[j] := by simpa using h2
    exact ⟨fun _ => this ▸ List.getElem_mem h1, fun _ => by omega⟩
theorem hasG_eq {N : Nat} {g : TGraph} {a b : Int} (hN : 1000 < N) (hb : g.Edges.length ≤ 1000) : graph_Has N g a b = some (decide (mke a b ∈ g.Edges)) := by
  unfold graph_Has graph_edge
  rw [Option.bind_some]
  show Option.bind (slices_Contains_Edge N g.Edges (mke a b)) _ = _
  rw [containsE_eq hN hb, Option.bind_some]
theorem adj_mke {g : TGraph} (hg : GoodG g) {a b : Int} : adj g a b = decide (mke a b ∈ g.Edges) := by
  rw [Bool.eq_iff_iff, adj_iff, decide_eq_true_eq]
  constructor
  · rintro ⟨e, he, h⟩
    have := hg.edge e he
    have e1 : mke a b = e := by
      cases e
      simp only [mke, TEdge.mk.injEq] at *
      omega
    rw [e1]
    exact he
  · intro h
    refine ⟨mke a b, h, ?_⟩
    simp only [mke]
    omega
/-! The same graphs. -/
theorem sameE {a b : List TEdge} (hl : a.length = b.length) : ((List.range a.length).any fun i => a[i]? != b[i]?) = !decide (a = b) := by
  by_cases he : a = b
  · subst he
    simp
  · have : ((List.range a.length).any fun i => a[i]? != b[i]?) = true := by
      rw [List.any_eq_true]
      apply Classical.byContradiction
      intro hn
      refine he (ext_at hl fun i x y hx hy => ?_)
      apply Classical.byContradiction
      intro hxy
      exact hn ⟨i, List.mem_range.2 (List.getElem?_eq_some_iff.1 hx).1, by rw [hx, hy]; simpa using hxy⟩
    rw [this]
    simp [he]
theorem refsame_eq {N : Nat} {a b : TGraph} (hN : 1000 < N) (hb : a.Edges.length ≤ 1000) : narthexref03_Same N a b = some (decide (a = b)) := by
  unfold narthexref03_Same
  obtain ⟨n, l⟩ := a
  obtain ⟨m, k⟩ := b
  simp only [TGraph.mk.injEq] at *
  by_cases hn : n = m
  · by_cases hl : l.length = k.length
    · rw [if_neg (by simp [hn, hl]), findR0 (L := narthexref03_Same_L1 N ⟨n, l⟩ ⟨m, k⟩) (len := l.length) (p := fun i => l[i]? != k[i]?) (r := false) (fun n i hi => by
        obtain ⟨x, hx⟩ := some_at hi
        obtain ⟨y, hy⟩ := some_at (xs := k) (i := i) (by omega)
        rw [narthexref03_Same_L1, if_pos (by simpa using hi), at_nat, at_nat, hx, hy, Option.bind_some, Option.bind_some, w64_nat (by omega)]
        simp [bne]) (fun n => by rw [narthexref03_Same_L1, if_neg (by simp)]) (by omega), Option.bind_some, sameE hl]
      cases h : decide (l = k) <;> simp_all
    · rw [if_pos (by simp; right; omega)]
      simp [show l ≠ k from fun e => hl (by rw [e])]
  · rw [if_pos (by simp [hn])]
    simp [hn]
theorem equalE_eq {N : Nat} {l k : List TEdge} (hN : 1000 < N) (hb : l.length ≤ 1000) : slices_Equal_Edge N l k = some (decide (l = k)) := by
  unfold slices_Equal_Edge
  by_cases hl : l.length = k.length
  · rw [if_neg (by simp [hl]), findR0 (L := slices_Equal_Edge_L1 N l k) (len := l.length) (p := fun i => l[i]? != k[i]?) (r := false) (fun n i hi => by
      obtain ⟨x, hx⟩ := some_at hi
      obtain ⟨y, hy⟩ := some_at (xs := k) (i := i) (by omega)
      rw [slices_Equal_Edge_L1, if_pos (by simpa using hi), at_nat, at_nat, hx, hy, Option.bind_some, Option.bind_some, w64_nat (by omega)]
      simp [bne]) (fun n => by rw [slices_Equal_Edge_L1, if_neg (by simp)]) (by omega), Option.bind_some, sameE hl]
    cases h : decide (l = k) <;> simp_all
  · rw [if_pos (by simp; omega)]
    simp [show l ≠ k from fun e => hl (by rw [e])]
theorem gsame_eq {N : Nat} {a b : TGraph} (hN : 1000 < N) (hb : a.Edges.length ≤ 1000) : graph_Same N a b = some (decide (a = b)) := by
  unfold graph_Same
  obtain ⟨n, l⟩ := a
  obtain ⟨m, k⟩ := b
  by_cases hn : n = m
  · simp only [hn, beq_self_eq_true, if_true, Bool.true_and, TGraph.mk.injEq, true_and]
    rw [equalE_eq hN hb, Option.bind_some]
  · have : (n == m) = false := by simpa using hn
    simp [this, hn]
/-! Where an edge stands. -/
theorem mid_eq {i j : Nat} (hi : i ≤ 1000) (hj : j ≤ 1000) : w64 (Int.fdiv (IntKind.u64.wrap (w64 ((i : Int) + (j : Int)))) (2 ^ 1)) = (((i + j) / 2 : Nat) : Int) := by
  have e1 : w64 ((i : Int) + (j : Int)) = ((i + j : Nat) : Int) := by rw [w64_is (by omega) (by omega)]; omega
  have e2 : IntKind.u64.wrap ((i + j : Nat) : Int) = ((i + j : Nat) : Int) := by
    have hs : IntKind.u64.signed = false := rfl
    have hb : (2 : Int) ^ IntKind.u64.bits = 18446744073709551616 := rfl
    unfold IntKind.wrap
    simp only [hs, hb, Bool.false_and]
    rw [if_neg (by simp)]
    exact Int.emod_eq_of_lt (by omega) (by omega)
  have e3 : Int.fdiv ((i + j : Nat) : Int) (2 ^ 1) = (((i + j) / 2 : Nat) : Int) := by
    rw [show (2 : Int) ^ 1 = ((2 : Nat) : Int) from rfl, Int.fdiv_eq_ediv_of_nonneg _ (by omega), Int.natCast_ediv]
  rw [e1, e2, e3, w64_is (by omega) (by omega)]
theorem search_loop {N : Nat} {s : List TEdge} {x : TEdge} (hs : s.Pairwise ltE) (hN : 2 < N) (hb : s.length ≤ 1000) : ∀ (n i j : Nat), j < n + i → i ≤ j → j ≤ s.length →
    (∀ (k : Nat) (y : TEdge), k < i → s[k]? = some y → ltE y x) → (∀ (k : Nat) (y : TEdge), j ≤ k → s[k]? = some y → ¬ ltE y x) → ∃ p : Nat, slices_BinarySearchFunc_Edge_L1 N s x n i j = some (p : Int) ∧ p ≤ s.length ∧ (∀ (k : Nat) (y : TEdge), k < p → s[k]? = some y → ltE y x) ∧ (∀ (k : Nat) (y : TEdge), p ≤ k → s[k]? = some y → ¬ ltE y x)
  | 0, i, j, h, hij, _, _, _ => by omega
  | n + 1, i, j, h, hij, hj, h1, h2 => by
    rw [slices_BinarySearchFunc_Edge_L1]
    by_cases hlt : i < j
    · have hm1 : i ≤ (i + j) / 2 := by omega
      have hm2 : (i + j) / 2 < j := by omega
      obtain ⟨y, hy⟩ := some_at (xs := s) (i := (i + j) / 2) (by omega)
      obtain ⟨r, hr, _, _, hr3⟩ := rank_eq (N := N) (x := y) (y := x) hN
      rw [if_pos (by simpa using hlt), mid_eq (by omega) (by omega), at_nat, hy, Option.bind_some, hr, Option.bind_some]
      by_cases hyx : ltE y x
      · rw [if_pos (by simpa using hr3.2 hyx), w64_nat (by omega)]
        refine search_loop hs hN hb n _ _ (by omega) (by omega) hj (fun k z hk hz => ?_) h2
        rcases Nat.lt_or_ge k ((i + j) / 2) with hk2 | hk2
        · exact ltE_trans (pair_at hs hk2 hz hy) hyx
        · obtain rfl : k = (i + j) / 2 := by omega
          rw [hy] at hz
          cases hz
          exact hyx
      · rw [if_neg (by simpa using fun h => hyx (hr3.1 h))]
        refine search_loop hs hN hb n _ _ (by omega) hm1 (by omega) h1 (fun k z hk hz => ?_)
        rcases Nat.lt_or_ge ((i + j) / 2) k with hk2 | hk2
        · exact fun h => hyx (ltE_trans (pair_at hs hk2 hy hz) h)
        · obtain rfl : k = (i + j) / 2 := by omega
          rw [hy] at hz
          cases hz
          exact hyx
    · rw [if_neg (by simpa using hlt)]
      obtain rfl : i = j := by omega
      exact ⟨i, rfl, hj, h1, h2⟩
theorem search_eq {N : Nat} {s : List TEdge} {x : TEdge} (hs : s.Pairwise ltE) (hN : 1000 < N) (hb : s.length ≤ 1000) : ∃ (p : Nat) (b : Bool), slices_BinarySearchFunc_Edge N s x = some ((p : Int), b) ∧ p ≤ s.length ∧ (∀ y ∈ s.take p, ltE y x) ∧ ∀ y ∈ s.drop p, ¬ ltE y x := by
  unfold slices_BinarySearchFunc_Edge
  obtain ⟨p, h, hp, h1, h2⟩ := search_loop (N := N) (x := x) hs (by omega) hb N 0 s.length (by omega) (by omega) (Nat.le_refl _) (fun k y hk => by omega) (fun k y hk hy => by
    have := (List.getElem?_eq_some_iff.1 hy).1
    omega)
  rw [show ((0 : Nat) : Int) = 0 from rfl] at h
  have g1 : ∀ y ∈ s.take p, ltE y x := fun y hy => by
    obtain ⟨k, hk, rfl⟩ := List.mem_iff_getElem.1 hy
    simp only [List.length_take] at hk
    exact h1 k _ (by omega) (by rw [List.getElem_take]; exact List.getElem?_eq_getElem (by omega))
  have g2 : ∀ y ∈ s.drop p, ¬ ltE y x := fun y hy => by
    obtain ⟨k, hk, rfl⟩ := List.mem_iff_getElem.1 hy
    simp only [List.length_drop] at hk
    exact h2 (p + k) _ (by omega) (by rw [List.getElem_drop]; exact List.getElem?_eq_getElem (by omega))
  rw [h, Option.bind_some]
  rcases Nat.lt_or_ge p s.length with hlt | hge
  · obtain ⟨y, hy⟩ := some_at hlt
    have hd : decide (((p : Nat) : Int) < (s.length : Int)) = true := by simpa using hlt
    obtain ⟨r, hr, _⟩ := rank_eq (N := N) (x := y) (y := x) (by omega)
    simp only [hd, if_true, at_nat, hy, Option.bind_some, Bool.true_and, hr]
    exact ⟨p, _, rfl, hp, g1, g2⟩
  · have hd : decide (((p : Nat) : Int) < (s.length : Int)) = false := by simpa using hge
    refine ⟨p, false, ?_, hp, g1, g2⟩
    simp only [hd, Bool.false_eq_true, if_false, Bool.false_and, Option.bind_some]

/-! An edge more. -/
def Plus (l : List TEdge) (e : TEdge) (l' : List TEdge) : Prop := l'.Pairwise ltE ∧ (∀ x, x ∈ l' ↔ x = e ∨ x ∈ l) ∧ l'.length = l.length + 1
theorem plus_uniq {l l1 l2 : List TEdge} {e : TEdge} (h1 : Plus l e l1) (h2 : Plus l e l2) : l1 = l2 := srt_ext h1.1 h2.1 fun x => (h1.2.1 x).trans (h2.2.1 x).symm
theorem plus_at {l : List TEdge} {e : TEdge} {p : Nat} (hs : l.Pairwise ltE) (he : e ∉ l) (h1 : ∀ y ∈ l.take p, ltE y e) (h2 : ∀ y ∈ l.drop p, ¬ ltE y e) : Plus l e (l.take p ++ e :: l.drop p) := by
  have hsp := List.take_append_drop p l
  have hs' := hs
  rw [← hsp, List.pairwise_append] at hs'
  obtain ⟨a1, a2, a3⟩ := hs'
  have hlt : ∀ y ∈ l.drop p, ltE e y := fun y hy => ltE_tri (h2 y hy) (fun h => he (by rw [← h]; exact List.mem_of_mem_drop hy))
  refine ⟨List.pairwise_append.2 ⟨a1, List.pairwise_cons.2 ⟨hlt, a2⟩, fun x hx y hy => ?_⟩, fun x => ?_, ?_⟩
  · rcases List.mem_cons.1 hy with rfl | hy
    · exact h1 x hx
    · exact a3 x hx y hy
  · constructor
    · intro hx
      rcases List.mem_append.1 hx with hx | hx
      · exact .inr (List.mem_of_mem_take hx)
      · rcases List.mem_cons.1 hx with rfl | hx
        · exact .inl rfl
        · exact .inr (List.mem_of_mem_drop hx)
    · rintro (rfl | hx)
      · simp
      · rw [← hsp] at hx
        rcases List.mem_append.1 hx with hx | hx
        · exact List.mem_append_left _ hx
        · exact List.mem_append_right _ (List.mem_cons_of_mem _ hx)
  · simp only [List.length_append, List.length_cons, List.length_take, List.length_drop]
    omega
theorem told_eq {N : Nat} {g : TGraph} {a b : Int} (hN : 1000 < N) : (¬ GoodG g ∧ graph_told N g a b = some 30) ∨ (GoodG g ∧ ¬ Nodes g a b ∧ graph_told N g a b = some 31) ∨ (GoodG g ∧ Nodes g a b ∧ graph_told N g a b = some 0) := by
  unfold graph_told graph_edge
  rcases gcheck_eq (g := g) hN with ⟨hg, h⟩ | ⟨hg, h⟩
  · rw [h, Option.bind_some, Option.bind_some]
    by_cases hn : Nodes g a b
    · refine .inr (.inr ⟨hg, hn, ?_⟩)
      rw [if_neg]
      unfold Nodes at hn
      simp only [beq_self_eq_true, Bool.true_and, Bool.or_eq_true, decide_eq_true_eq, beq_iff_eq]
      omega
    · refine .inr (.inl ⟨hg, hn, ?_⟩)
      rw [if_pos]
      unfold Nodes at hn
      simp only [beq_self_eq_true, Bool.true_and, Bool.or_eq_true, decide_eq_true_eq, beq_iff_eq]
      omega
  · refine .inl ⟨hg, ?_⟩
    rw [h, Option.bind_some, Option.bind_some, if_neg (by simp)]
inductive AddR (g : TGraph) (a b : Int) : TGraph × Int → Prop
  | form (h : ¬ GoodG g) : AddR g a b (⟨0, []⟩, 30)
  | node (h : GoodG g) (h1 : ¬ Nodes g a b) : AddR g a b (⟨0, []⟩, 31)
  | twice (h : GoodG g) (h1 : Nodes g a b) (h2 : mke a b ∈ g.Edges) : AddR g a b (⟨0, []⟩, 32)
  | full (h : GoodG g) (h1 : Nodes g a b) (h2 : mke a b ∉ g.Edges) (h3 : g.Edges.length = 400) : AddR g a b (⟨0, []⟩, 30)
  | ok (h : GoodG g) (h1 : Nodes g a b) (h2 : mke a b ∉ g.Edges) (h3 : g.Edges.length ≠ 400) (l' : List TEdge) (h4 : Plus g.Edges (mke a b) l') : AddR g a b ({ g with Edges := l' }, 0)
theorem addR_uniq {g : TGraph} {a b : Int} {r s : TGraph × Int} (h : AddR g a b r) (h2 : AddR g a b s) : r = s := by
  cases h with
  | form h => cases h2 with
    | form _ => rfl
    | node q | twice q | full q | ok q => exact absurd q h
  | node h h1 => cases h2 with
    | form q => exact absurd h q
    | node _ _ => rfl
    | twice _ q | full _ q | ok _ q => exact absurd q h1
  | twice h h1 h3 => cases h2 with
    | form q => exact absurd h q
    | node _ q => exact absurd h1 q
    | twice => rfl
    | full _ _ q | ok _ _ q => exact absurd h3 q
  | full h h1 h3 h4 => cases h2 with
    | form q => exact absurd h q
    | node _ q => exact absurd h1 q
    | twice _ _ q => exact absurd q h3
    | full => rfl
    | ok _ _ _ q => exact absurd h4 q
  | ok h h1 h3 h4 l h5 => cases h2 with
    | form q => exact absurd h q
    | node _ q => exact absurd h1 q
    | twice _ _ q => exact absurd q h3
    | full _ _ _ q => exact absurd q h4
    | ok _ _ _ _ l' q => rw [plus_uniq h5 q]
theorem add_eq {N : Nat} {g : TGraph} {a b : Int} (hN : 1000 < N) : ∃ r, graph_Add N g a b = some r ∧ AddR g a b r := by
  unfold graph_Add
  rcases told_eq (g := g) (a := a) (b := b) hN with ⟨h, h1⟩ | ⟨h, h2, h1⟩ | ⟨h, h2, h1⟩
  · rw [h1, Option.bind_some, if_pos (by decide), Option.bind_some, if_pos (by decide)]
    exact ⟨_, rfl, .form h⟩
  · rw [h1, Option.bind_some, if_pos (by decide), Option.bind_some, if_pos (by decide)]
    exact ⟨_, rfl, .node h h2⟩
  · have hl := h.len
    rw [h1, Option.bind_some, if_neg (by decide), hasG_eq hN (by omega), Option.bind_some]
    by_cases he : mke a b ∈ g.Edges
    · rw [if_pos (by simpa using he), Option.bind_some, if_pos (by decide)]
      exact ⟨_, rfl, .twice h h2 he⟩
    · rw [if_neg (by simpa using he)]
      by_cases hf : g.Edges.length = 400
      · rw [if_pos (by simp; omega), Option.bind_some, if_pos (by decide)]
        exact ⟨_, rfl, .full h h2 he hf⟩
      · rw [if_neg (by simp; omega), Option.bind_some, if_neg (by decide), graph_edge, Option.bind_some]
        obtain ⟨p, q, h3, h4, h5, h6⟩ := search_eq (N := N) (x := mke a b) h.pair hN (by omega)
        have h3' : slices_BinarySearchFunc_Edge N g.Edges ⟨min a b, max a b⟩ = some ((p : Int), q) := h3
        rw [h3', Option.bind_some, slices_Clone_Edge, app_ok (by simp; omega), Option.bind_some, Option.bind_some, ins?, if_pos (by simp; omega), Option.bind_some, List.nil_append]
        refine ⟨_, rfl, .ok h h2 he hf _ ?_⟩
        simp only [Int.toNat_natCast]
        exact plus_at h.pair he h5 h6
theorem ahead_eq {N : Nat} {x y : TEdge} : narthexref03_ahead N x y = some (decide (ltE x y)) := by
  unfold narthexref03_ahead
  congr 1
  rw [Bool.eq_iff_iff, decide_eq_true_eq]
  unfold ltE
  simp only [Bool.or_eq_true, Bool.and_eq_true, decide_eq_true_eq, beq_iff_eq]
theorem nodes_eq {N : Nat} {g : TGraph} {a b : Int} : narthexref03_nodes N g a b = some (decide (Nodes g a b)) := by
  unfold narthexref03_nodes
  congr 1
  rw [Bool.eq_iff_iff, decide_eq_true_eq]
  unfold Nodes
  simp only [Bool.and_eq_true, decide_eq_true_eq, bne_iff_ne, ne_eq]
  omega
def addF (e : TEdge) (s : List TEdge × Bool) (x : TEdge) : List TEdge × Bool := if (!s.2) && decide (ltE e x) then (s.1 ++ [e] ++ [x], true) else (s.1 ++ [x], s.2)
theorem addF_put {e : TEdge} : ∀ (l out : List TEdge), l.foldl (addF e) (out, true) = (out ++ l, true)
  | [], out => by simp
  | x :: l, out => by
    rw [List.foldl_cons, show addF e (out, true) x = (out ++ [x], true) from rfl, addF_put l]
    simp
theorem addF_less {e : TEdge} : ∀ (l out : List TEdge), (∀ y ∈ l, ¬ ltE e y) → l.foldl (addF e) (out, false) = (out ++ l, false)
  | [], out, _ => by simp
  | x :: l, out, h => by
    have hx := h x (.head _)
    rw [List.foldl_cons, show addF e (out, false) x = (out ++ [x], false) by simp [addF, hx], addF_less l _ (fun y hy => h y (.tail _ hy))]
    simp
theorem refadd_eq {N : Nat} {g : TGraph} {a b : Int} (hN : 1000 < N) : ∃ r, narthexref03_Add N g a b = some r ∧ AddR g a b r := by
  unfold narthexref03_Add
  rcases refgcheck_eq (g := g) hN with ⟨h, h1⟩ | ⟨h, h1⟩
  · have hl := h.len
    rw [h1, Option.bind_some, if_neg (by decide), nodes_eq, Option.bind_some]
    by_cases hn : Nodes g a b
    · rw [if_neg (by simpa using hn), refhas_adj hN h, adj_mke h, Option.bind_some]
      by_cases he : mke a b ∈ g.Edges
      · rw [if_pos (by simpa using he)]
        exact ⟨_, rfl, .twice h hn he⟩
      · rw [if_neg (by simpa using he)]
        by_cases hf : g.Edges.length = 400
        · rw [if_pos (by simp; omega)]
          exact ⟨_, rfl, .full h hn he hf⟩
        · rw [if_neg (by simp; omega)]
          obtain ⟨p, q, _, h4, h5, h6⟩ := search_eq (N := N) (x := mke a b) h.pair hN (by omega)
          have hloop := foldR0 (L := fun n (s : List TEdge × Bool) i => narthexref03_Add_L1 N g a b n s.1 s.2 i) (xs := g.Edges) (f := addF (mke a b)) (fin := some) (I := fun i s => s.1.length ≤ 2 * i) (fun n i s x hi hx => by
            have hlt := (List.getElem?_eq_some_iff.1 hx).1
            obtain ⟨out, put⟩ := s
            simp only at hi
            refine ⟨?_, ?_⟩
            · show narthexref03_Add_L1 N g a b (n + 1) out put i = _
              rw [narthexref03_Add_L1, if_pos (by simpa using hlt)]
              have h2 : narthexref03_ahead N (⟨min a b, max a b⟩ : TEdge) x = some (decide (ltE (mke a b) x)) := ahead_eq
              cases put with
              | true =>
                simp only [Bool.not_true, Bool.false_eq_true, if_false, Option.bind_some, Bool.false_and, at_nat, hx]
                rw [app_ok (by simp; omega), Option.bind_some, w64_nat (by omega)]
                rfl
              | false =>
                simp only [Bool.not_false, if_true, Option.bind_some, Bool.true_and, at_nat, hx, h2]
                by_cases hd : ltE (mke a b) x
                · rw [if_pos (by simpa using hd), app_ok (by simp; omega), Option.bind_some, app_ok (by simp; omega), Option.bind_some, w64_nat (by omega)]
                  have e : addF (mke a b) (out, false) x = (out ++ [mke a b] ++ [x], true) := by simp [addF, hd]
                  rw [e]
                  rfl
                · rw [if_neg (by simpa using hd), app_ok (by simp; omega), Option.bind_some, w64_nat (by omega)]
                  simp [addF, hd]
            · unfold addF
              split <;> simp <;> omega) (fun n s hs => by
            show narthexref03_Add_L1 N g a b (n + 1) s.1 s.2 _ = _
            rw [narthexref03_Add_L1, if_neg (by simp)]) (N := N) (s := ([], false)) (by omega) (by simp)
          have hz := hloop.1
          simp only at hz
          rw [hz, Option.bind_some]
          have hfin : (g.Edges.drop p = [] ∧ g.Edges.foldl (addF (mke a b)) ([], false) = (g.Edges, false)) ∨ g.Edges.foldl (addF (mke a b)) ([], false) = (g.Edges.take p ++ mke a b :: g.Edges.drop p, true) := by
            have hsp := List.take_append_drop p g.Edges
            have hlow : ∀ y ∈ g.Edges.take p, ¬ ltE (mke a b) y := fun y hy hc => ltE_irr _ (ltE_trans (h5 y hy) hc)
            cases hd : g.Edges.drop p with
            | nil =>
              rw [hd, List.append_nil] at hsp
              refine .inl ⟨rfl, ?_⟩
              rw [hsp] at hlow
              rw [addF_less _ _ hlow, List.nil_append]
            | cons y ys =>
              refine .inr ?_
              have hy : ltE (mke a b) y := by
                have hm : y ∈ g.Edges.drop p := by rw [hd]; exact .head _
                exact ltE_tri (h6 y hm) (fun e => he (by rw [← e]; exact List.mem_of_mem_drop hm))
              conv => lhs; rw [← hsp, hd]
              rw [List.foldl_append, addF_less _ _ hlow, List.nil_append, List.foldl_cons, show addF (mke a b) (g.Edges.take p, false) y = (g.Edges.take p ++ [mke a b] ++ [y], true) by simp [addF, hy], addF_put]
              simp
          have hp := plus_at h.pair he h5 h6
          rcases hfin with ⟨hd, hfin⟩ | hfin
          · rw [hfin]
            simp only [Bool.not_false, if_true]
            rw [app_ok (by simp; omega), Option.bind_some]
            refine ⟨_, rfl, .ok h hn he hf _ ?_⟩
            have hsp := List.take_append_drop p g.Edges
            rw [hd, List.append_nil] at hsp
            rw [hd, hsp] at hp
            exact hp
          · rw [hfin]
            simp only [Bool.not_true, Bool.false_eq_true, if_false]
            exact ⟨_, rfl, .ok h hn he hf _ hp⟩
    · rw [if_pos (by simpa using hn)]
      exact ⟨_, rfl, .node h hn⟩
  · rw [h1, Option.bind_some, if_pos (by decide)]
    exact ⟨_, rfl, .form h⟩

/-! An edge less. -/
theorem mi_idx {N : Nat} {u0 : Int} {u1 : List TEdge} {a b u2 : Int} {l : List TEdge} {q : TEdge → Bool} (hq : ∀ x u, graph_Remove_1 N x u0 u1 a b u2 u = some (q x)) (hb : l.length ≤ 1000) : ∀ (n i : Nat), l.length < n + i → i ≤ l.length →
    ∃ z, slices_IndexFunc_Edge_2_L1 N u0 u1 a b u2 l n i = some z ∧ (match z with | .inl r => ∃ m x : Nat, True ∧ ∃ y, r = (m : Int) ∧ i ≤ m ∧ l[m]? = some y ∧ q y = true ∧ ∀ u ∈ (l.drop i).take (m - i), q u = false | .inr _ => ∀ u ∈ l.drop i, q u = false)
  | 0, i, h, hi => by omega
  | n + 1, i, h, hi => by
    rw [slices_IndexFunc_Edge_2_L1]
    by_cases hlt : i < l.length
    · obtain ⟨y, hy⟩ := some_at hlt
      rw [if_pos (by simpa using hlt), at_nat, hy, Option.bind_some, hq, Option.bind_some]
      cases hqy : q y with
      | true =>
        rw [if_pos rfl]
        exact ⟨.inl (i : Int), rfl, i, 0, trivial, y, rfl, Nat.le_refl _, hy, hqy, by simp⟩
      | false =>
        rw [if_neg (by simp), w64_nat (by omega)]
        obtain ⟨z, h1, h2⟩ := mi_idx hq hb n (i + 1) (by omega) (by omega)
        refine ⟨z, h1, ?_⟩
        match z, h2 with
        | .inl r, h2 =>
          obtain ⟨m, _, _, y', e1, e2, e3, e4, e5⟩ := h2
          refine ⟨m, 0, trivial, y', e1, by omega, e3, e4, fun u hu => ?_⟩
          rw [drop_at hy, show m - i = (m - (i + 1)) + 1 by omega, List.take_succ_cons] at hu
          rcases List.mem_cons.1 hu with rfl | hu
          · exact hqy
          · exact e5 u hu
        | .inr _, h2 =>
          intro u hu
          rw [drop_at hy] at hu
          rcases List.mem_cons.1 hu with rfl | hu
          · exact hqy
          · exact h2 u hu
    · rw [if_neg (by simpa using hlt)]
      exact ⟨.inr (), rfl, by rw [List.drop_eq_nil_of_le (by omega)]; simp⟩
theorem mi_loop {N : Nat} {u0 : Int} {u1 : List TEdge} {a b u2 : Int} {q : TEdge → Bool} (hq : ∀ x u, graph_Remove_1_2 N x u0 u1 a b u2 u x.A x.B = some (q x)) : ∀ (n j i : Nat) (l : List TEdge), l.length < n + j → l.length ≤ 1000 → i ≤ j → j ≤ l.length →
    ∃ (r : List TEdge) (k : Nat), slices_DeleteFunc_Edge_L1 N u0 u1 a b u2 n l i j = some (r, (k : Int)) ∧ r.length = l.length ∧ k ≤ r.length ∧ r.take k = l.take i ++ (l.drop j).filter fun x => !q x
  | 0, j, i, l, h, _, _, hj => by omega
  | n + 1, j, i, l, h, hb, hij, hj => by
    rw [slices_DeleteFunc_Edge_L1]
    by_cases hlt : j < l.length
    · obtain ⟨y, hy⟩ := some_at hlt
      obtain ⟨y', hy'⟩ := some_at (xs := l) (i := i) (by omega)
      rw [if_pos (by simpa using hlt), at_nat, hy, Option.bind_some, hq, Option.bind_some]
      cases hqy : q y with
      | true =>
        rw [if_neg (by simp), w64_nat (by omega)]
        obtain ⟨r, k, h1, h2, h3, h4⟩ := mi_loop hq n (j + 1) i l (by omega) hb (by omega) (by omega)
        refine ⟨r, k, h1, h2, h3, ?_⟩
        rw [h4, drop_at hy, List.filter_cons]
        simp [hqy]
      | false =>
        rw [if_pos (by simp), at_nat, hy', Option.bind_some, w64_nat (by omega), w64_nat (by omega), Int.toNat_natCast]
        obtain ⟨r, k, h1, h2, h3, h4⟩ := mi_loop hq n (j + 1) (i + 1) (l.set i y) (by simp; omega) (by simp; omega) (by omega) (by simp; omega)
        refine ⟨r, k, h1, by simpa using h2, h3, ?_⟩
        rw [h4, drop_at hy, List.filter_cons]
        have e1 : (l.set i y).take (i + 1) = l.take i ++ [y] := by
          rw [take_at (x := y) (List.getElem?_set_self (by omega)), List.take_set_of_le (Nat.le_refl _)]
        have e2 : (l.set i y).drop (j + 1) = l.drop (j + 1) := List.drop_set_of_lt (by omega)
        rw [e1, e2]
        simp [hqy]
    · rw [if_neg (by simpa using hlt)]
      refine ⟨l, i, rfl, rfl, by omega, ?_⟩
      rw [List.drop_eq_nil_of_le (by omega)]
      simp
theorem mi_del {N : Nat} {u0 : Int} {u1 : List TEdge} {a b u2 : Int} {l : List TEdge} {q : TEdge → Bool} (hq : ∀ x u, graph_Remove_1 N x u0 u1 a b u2 u = some (q x)) (hq2 : ∀ x u, graph_Remove_1_2 N x u0 u1 a b u2 u x.A x.B = some (q x)) (hN : 1000 < N) (hb : l.length ≤ 1000) : slices_DeleteFunc_Edge N u0 u1 a b u2 l = some (l.filter fun x => !q x) := by
  unfold slices_DeleteFunc_Edge slices_IndexFunc_Edge_2
  obtain ⟨z, h1, h2⟩ := mi_idx hq hb N 0 (by omega) (by omega)
  rw [show ((0 : Nat) : Int) = 0 from rfl] at h1
  rw [h1, Option.bind_some]
  match z, h2 with
  | .inr _, h2 =>
    rw [Option.bind_some, if_pos (by simp)]
    congr 1
    exact (List.filter_eq_self.2 fun x hx => by simp [h2 x (by simpa using hx)]).symm
  | .inl r, h2 =>
    obtain ⟨m, _, _, y, rfl, _, e3, e4, e5⟩ := h2
    have hml := (List.getElem?_eq_some_iff.1 e3).1
    rw [Option.bind_some, if_neg (by simp), w64_nat (by omega)]
    obtain ⟨r, k, g1, g2, g3, g4⟩ := mi_loop hq2 N (m + 1) m l (by omega) hb (by omega) (by omega)
    rw [g1, Option.bind_some]
    simp only
    rw [sub?, if_pos (by omega), Option.bind_some, Int.toNat_natCast, Int.toNat_natCast, List.take_length]
    have hcl : (clr r k (r.drop k).length (⟨0, 0⟩ : TEdge)).length = r.length := length_clr _ _ _ _ (by simp; omega)
    rw [sub?, if_pos (by rw [hcl]; omega), Option.bind_some]
    congr 1
    simp only [Int.toNat_natCast, clr, List.append_assoc]
    rw [List.take_left' (by simp; omega), show (0 : Int).toNat = 0 from rfl, List.drop_zero, g4]
    have hsp : l = l.take m ++ y :: l.drop (m + 1) := by rw [← drop_at e3, List.take_append_drop]
    conv => rhs; rw [hsp]
    rw [List.filter_append, List.filter_cons]
    have e6 : (l.take m).filter (fun x => !q x) = l.take m := List.filter_eq_self.2 fun x hx => by
      simp [e5 x (by simpa using hx)]
    rw [e6]
    simp [e4]

inductive RemR (g : TGraph) (a b : Int) : TGraph × Int → Prop
  | form (h : ¬ GoodG g) : RemR g a b (⟨0, []⟩, 30)
  | node (h : GoodG g) (h1 : ¬ Nodes g a b) : RemR g a b (⟨0, []⟩, 31)
  | none (h : GoodG g) (h1 : Nodes g a b) (h2 : mke a b ∉ g.Edges) : RemR g a b (⟨0, []⟩, 33)
  | ok (h : GoodG g) (h1 : Nodes g a b) (h2 : mke a b ∈ g.Edges) : RemR g a b ({ g with Edges := g.Edges.filter fun x => !decide (x = mke a b) }, 0)
theorem remR_uniq {g : TGraph} {a b : Int} {r s : TGraph × Int} (h : RemR g a b r) (h2 : RemR g a b s) : r = s := by
  cases h with
  | form h => cases h2 with
    | form _ => rfl
    | node q | none q | ok q => exact absurd q h
  | node h h1 => cases h2 with
    | form q => exact absurd h q
    | node _ _ => rfl
    | none _ q | ok _ q => exact absurd q h1
  | none h h1 h3 => cases h2 with
    | form q => exact absurd h q
    | node _ q => exact absurd h1 q
    | none => rfl
    | ok _ _ q => exact absurd q h3
  | ok h h1 h3 => cases h2 with
    | form q => exact absurd h q
    | node _ q => exact absurd h1 q
    | none _ _ q => exact absurd h3 q
    | ok => rfl
theorem rem_eq {N : Nat} {g : TGraph} {a b : Int} (hN : 1000 < N) : ∃ r, graph_Remove N g a b = some r ∧ RemR g a b r := by
  unfold graph_Remove
  rcases told_eq (g := g) (a := a) (b := b) hN with ⟨h, h1⟩ | ⟨h, h2, h1⟩ | ⟨h, h2, h1⟩
  · rw [h1, Option.bind_some, if_pos (by decide)]
    exact ⟨_, rfl, .form h⟩
  · rw [h1, Option.bind_some, if_pos (by decide)]
    exact ⟨_, rfl, .node h h2⟩
  · have hl := h.len
    rw [h1, Option.bind_some, if_neg (by decide), hasG_eq hN (by omega), Option.bind_some]
    by_cases he : mke a b ∈ g.Edges
    · rw [if_neg (by simpa using he), slices_Clone_Edge, app_ok (by simp; omega), Option.bind_some, List.nil_append, mi_del (q := fun x => decide (x = mke a b)) (fun x u => rfl) (fun x u => rfl) hN (by omega), Option.bind_some]
      exact ⟨_, rfl, .ok h h2 he⟩
    · rw [if_pos (by simpa using he)]
      exact ⟨_, rfl, .none h h2 he⟩
theorem filter_fold {α : Type} {p : α → Bool} : ∀ (l out : List α), l.foldl (fun out x => if p x = true then out ++ [x] else out) out = out ++ l.filter p
  | [], out => by simp
  | x :: l, out => by
    rw [List.foldl_cons, filter_fold l, List.filter_cons]
    split <;> simp
theorem refrem_eq {N : Nat} {g : TGraph} {a b : Int} (hN : 1000 < N) : ∃ r, narthexref03_Remove N g a b = some r ∧ RemR g a b r := by
  unfold narthexref03_Remove
  rcases refgcheck_eq (g := g) hN with ⟨h, h1⟩ | ⟨h, h1⟩
  · have hl := h.len
    rw [h1, Option.bind_some, if_neg (by decide), nodes_eq, Option.bind_some]
    by_cases hn : Nodes g a b
    · rw [if_neg (by simpa using hn), refhas_adj hN h, adj_mke h, Option.bind_some]
      by_cases he : mke a b ∈ g.Edges
      · rw [if_neg (by simpa using he)]
        have hloop := foldR0 (L := narthexref03_Remove_L1 N g a b) (xs := g.Edges) (f := fun out x => if (!decide (x = mke a b)) = true then out ++ [x] else out) (fin := some) (I := fun i s => s.length ≤ i) (fun n i s x hi hx => by
          have hlt := (List.getElem?_eq_some_iff.1 hx).1
          have hc : ((x.A != min a b) || (x.B != max a b)) = !decide (x = mke a b) := by
            rw [Bool.eq_iff_iff]
            cases x
            simp only [mke, Bool.or_eq_true, bne_iff_ne, ne_eq, Bool.not_eq_true', decide_eq_false_iff_not, TEdge.mk.injEq]
            omega
          refine ⟨?_, ?_⟩
          · rw [narthexref03_Remove_L1, if_pos (by simpa using hlt), at_nat, hx, Option.bind_some, hc, w64_nat (by omega)]
            cases hd : decide (x = mke a b) with
            | true => simp
            | false =>
              rw [if_pos (by simp), if_pos (by simp), app_ok (by simp; omega), Option.bind_some]
          · split
            · simp
              omega
            · omega) (fun n s hs => by
          rw [narthexref03_Remove_L1, if_neg (by simp)]) (N := N) (s := []) (by omega) (by simp)
        rw [hloop.1, Option.bind_some, filter_fold, List.nil_append]
        exact ⟨_, rfl, .ok h hn he⟩
      · rw [if_pos (by simpa using he)]
        exact ⟨_, rfl, .none h hn he⟩
    · rw [if_pos (by simpa using hn)]
      exact ⟨_, rfl, .node h hn⟩
  · rw [h1, Option.bind_some, if_pos (by decide)]
    exact ⟨_, rfl, .form h⟩

theorem awake_ok : ∃ N, 1000 < N ∧ narthexlaw03_awake N = some true := ⟨1001, by omega, by decide +kernel⟩
theorem addR_len {g : TGraph} {a b : Int} {r : TGraph × Int} (h : AddR g a b r) : r.1.Edges.length ≤ 401 := by
  cases h with
  | form | node | twice | full => simp
  | ok h _ _ _ l' h4 =>
    have := h.len
    have := h4.2.2
    simp only
    omega
theorem remR_len {g : TGraph} {a b : Int} {r : TGraph × Int} (h : RemR g a b r) : r.1.Edges.length ≤ 400 := by
  cases h with
  | form | node | none => simp
  | ok h _ _ =>
    have := h.len
    have := List.length_filter_le (fun x => !decide (x = mke a b)) g.Edges
    simp only
    omega
theorem plus_good {g : TGraph} {a b : Int} {l' : List TEdge} (h : GoodG g) (hn : Nodes g a b) (hl : g.Edges.length ≠ 400) (hp : Plus g.Edges (mke a b) l') : GoodG { g with Edges := l' } := by
  have h3 := h.len
  refine good_of h.lo h.hi (by simp only [hp.2.2]; omega) (fun e he => ?_) hp.1
  rcases (hp.2.1 e).1 he with rfl | he
  · unfold Nodes at hn
    simp only [mke]
    omega
  · exact h.edge e he
theorem law_GraphChanges (a0 : TGraph) (o0 : kGraph a0) (a1 : Int) (o1 : (Lit.int .i64 a1).wf = true) (a2 : Int) (o2 : (Lit.int .i64 a2).wf = true) : ∃ N, narthexlaw03_GraphChanges N a0 a1 a2 = some true := by
  obtain ⟨N, hN, hA⟩ := awake_ok
  refine ⟨N, ?_⟩
  unfold narthexlaw03_GraphChanges
  rw [hA, Option.bind_some]
  by_cases hl : a0.Edges.length ≤ 60
  · have hf : ((!true) || decide ((a0.Edges.length : Int) > 60)) = false := by simp; omega
    rw [hf, if_neg (by simp), ownG_eq (by omega), Option.bind_some]
    obtain ⟨r, h1, h2⟩ := add_eq (g := a0) (a := a1) (b := a2) hN
    obtain ⟨s, h3, h4⟩ := refadd_eq (g := a0) (a := a1) (b := a2) hN
    obtain ⟨t, h5, h6⟩ := rem_eq (g := a0) (a := a1) (b := a2) hN
    obtain ⟨u, h7, h8⟩ := refrem_eq (g := a0) (a := a1) (b := a2) hN
    have e1 := addR_uniq h2 h4
    have e2 := remR_uniq h6 h8
    subst e1 e2
    have q1 := addR_len h2
    have q2 := remR_len h6
    simp only [h1, h3, h5, h7, Option.bind_some]
    rw [refsame_eq hN (by omega), Option.bind_some]
    simp only [decide_true, beq_self_eq_true, Bool.and_self, if_true]
    rw [refsame_eq hN (by omega), Option.bind_some]
    simp
  · have hf : ((!true) || decide ((a0.Edges.length : Int) > 60)) = true := by simp; omega
    rw [hf, if_pos rfl, Option.bind_some]
theorem plus_back {l l' : List TEdge} {e : TEdge} (hs : l.Pairwise ltE) (he : e ∉ l) (hp : Plus l e l') : (l'.filter fun x => !decide (x = e)) = l := by
  refine srt_ext (hp.1.filter _) hs fun x => ?_
  rw [List.mem_filter, hp.2.1 x]
  simp only [Bool.not_eq_true', decide_eq_false_iff_not]
  constructor
  · rintro ⟨h | h, h2⟩
    · exact absurd h h2
    · exact h
  · intro h
    exact ⟨.inr h, fun e' => he (by rw [← e']; exact h)⟩
theorem mke_inj {a b c d : Int} : (((a == c) && (b == d)) || ((a == d) && (b == c))) = decide (mke c d = mke a b) := by
  rw [Bool.eq_iff_iff, decide_eq_true_eq]
  simp only [mke, TEdge.mk.injEq, Bool.or_eq_true, Bool.and_eq_true, beq_iff_eq]
  omega
theorem law_GraphBack (a0 : TGraph) (o0 : kGraph a0) (a1 : Int) (o1 : (Lit.int .i64 a1).wf = true) (a2 : Int) (o2 : (Lit.int .i64 a2).wf = true) (a3 : Int) (o3 : (Lit.int .i64 a3).wf = true) (a4 : Int) (o4 : (Lit.int .i64 a4).wf = true) : ∃ N, narthexlaw03_GraphBack N a0 a1 a2 a3 a4 = some true := by
  obtain ⟨N, hN, hA⟩ := awake_ok
  refine ⟨N, ?_⟩
  unfold narthexlaw03_GraphBack
  rw [hA, Option.bind_some]
  by_cases hl : a0.Edges.length ≤ 60
  · have hf : ((!true) || decide ((a0.Edges.length : Int) > 60)) = false := by simp; omega
    rw [hf, if_neg (by simp), ownG_eq (by omega), Option.bind_some]
    obtain ⟨r, h1, h2⟩ := add_eq (g := a0) (a := a1) (b := a2) hN
    rw [h1, Option.bind_some]
    have bad : ∀ k : Int, k ≠ 0 → ((if k != 0 then Option.bind (narthexref03_Same N ⟨0, []⟩ ⟨0, []⟩) fun y5 => some y5 else none) = some true) := fun k hk => by
      rw [if_pos (by simpa using hk), refsame_eq hN (by simp), Option.bind_some]
      simp
    cases h2 with
    | form h | node h q | twice h q q2 | full h q q2 q3 =>
      simp only
      rw [if_pos (by decide), refsame_eq hN (by simp), Option.bind_some]
      simp
    | ok h hn he hf l' hp =>
      have hg' := plus_good h hn hf hp
      have hlen := hp.2.2
      simp only
      rw [if_neg (by decide), ownG_eq (by simp only; omega), Option.bind_some]
      obtain ⟨s, h3, h4⟩ := rem_eq (g := { a0 with Edges := l' }) (a := a2) (b := a1) hN
      have hn' : Nodes { a0 with Edges := l' } a2 a1 := by
        unfold Nodes at *
        simp only
        omega
      have hm : mke a2 a1 ∈ l' := by
        rw [mke_comm]
        exact (hp.2.1 _).2 (.inl rfl)
      have hs : s = (a0, 0) := by
        refine remR_uniq h4 ?_
        have := RemR.ok hg' hn' hm
        simp only at this
        rw [mke_comm a2 a1, plus_back h.pair he hp] at this
        exact this
      subst hs
      rcases gcheck_eq (g := { a0 with Edges := l' }) hN with ⟨_, hc⟩ | ⟨hno, _⟩
      · rw [h3, Option.bind_some, hc, Option.bind_some]
        simp only [mke_inj, beq_self_eq_true, if_true, Bool.true_and]
        rw [hasG_eq hN (by simp only; omega), Option.bind_some]
        by_cases hsame : mke a3 a4 = mke a1 a2
        · have hm2 : mke a3 a4 ∈ l' := (hp.2.1 _).2 (.inl hsame)
          simp only [hsame, decide_true, Bool.not_true, Bool.false_eq_true, if_false, Option.bind_some, Bool.true_or]
          rw [hsame] at hm2
          simp only [hm2, decide_true, beq_self_eq_true, Bool.and_self, if_true]
          rw [refsame_eq hN (by omega), Option.bind_some]
          simp
        · have hd : decide (mke a3 a4 = mke a1 a2) = false := by simpa using hsame
          simp only [hd, Bool.not_false, if_true, Option.bind_some, Bool.false_or]
          rw [hasG_eq hN (by omega), Option.bind_some]
          have hx : decide (mke a3 a4 ∈ l') = decide (mke a3 a4 ∈ a0.Edges) := by
            rw [Bool.eq_iff_iff, decide_eq_true_eq, decide_eq_true_eq, hp.2.1]
            exact ⟨fun h => h.resolve_left hsame, .inr⟩
          rw [hx]
          simp only [beq_self_eq_true, Bool.and_self, if_true]
          rw [refsame_eq hN (by omega), Option.bind_some]
          simp
      · exact absurd hg' hno
  · have hf : ((!true) || decide ((a0.Edges.length : Int) > 60)) = true := by simp; omega
    rw [hf, if_pos rfl, Option.bind_some]
/-- Two edges more, in the other order. -/
theorem two {g : TGraph} {a b c d : Int} {r s t u : TGraph × Int} (h1 : AddR g a b r) (h2 : AddR r.1 c d s) (h3 : AddR g c d t) (h4 : AddR t.1 a b u) (e1 : r.2 = 0) (e2 : s.2 = 0) : t.2 = 0 ∧ u.2 = 0 ∧ s.1 = u.1 ∧ s.1.Edges.length = g.Edges.length + 2 := by
  cases h1 with
  | form | node | twice | full => simp at e1
  | ok q1 q2 q3 q4 l1 q5 =>
    simp only at h2
    cases h2 with
    | form | node | twice | full => simp at e2
    | ok p1 p2 p3 p4 l2 p5 =>
      simp only at p2 p3 p4 p5
      have n3 : mke c d ∉ g.Edges := fun h => p3 ((q5.2.1 _).2 (.inr h))
      have n4 : mke c d ≠ mke a b := fun h => p3 ((q5.2.1 _).2 (.inl h))
      have n2 : Nodes g c d := p2
      cases h3 with
      | form h => exact absurd q1 h
      | node _ h => exact absurd n2 h
      | twice _ _ h => exact absurd h n3
      | full _ _ _ h => exact absurd h q4
      | ok _ _ _ _ l3 s5 =>
        have g3 := plus_good q1 n2 q4 s5
        have m3 : mke a b ∉ l3 := fun h => by
          rcases (s5.2.1 _).1 h with h | h
          · exact n4 h.symm
          · exact q3 h
        have m2 : Nodes { g with Edges := l3 } a b := q2
        have len1 := q5.2.2
        have len3 := s5.2.2
        have len2 := p5.2.2
        simp only at h4
        cases h4 with
        | form h => exact absurd g3 h
        | node _ h => exact absurd m2 h
        | twice _ _ h => exact absurd h m3
        | full _ _ _ h => exact absurd (show l1.length = 400 by simp only at h; omega) p4
        | ok _ _ _ _ l4 t5 =>
          simp only at t5
          have hx : l2 = l4 := srt_ext p5.1 t5.1 fun x => by
            rw [p5.2.1, t5.2.1, q5.2.1, s5.2.1]
            constructor
            · rintro (h | h | h)
              · exact .inr (.inl h)
              · exact .inl h
              · exact .inr (.inr h)
            · rintro (h | h | h)
              · exact .inr (.inl h)
              · exact .inl h
              · exact .inr (.inr h)
          subst hx
          exact ⟨rfl, rfl, rfl, by simp only; omega⟩
theorem law_GraphOrder (a0 : TGraph) (o0 : kGraph a0) (a1 : Int) (o1 : (Lit.int .i64 a1).wf = true) (a2 : Int) (o2 : (Lit.int .i64 a2).wf = true) (a3 : Int) (o3 : (Lit.int .i64 a3).wf = true) (a4 : Int) (o4 : (Lit.int .i64 a4).wf = true) : ∃ N, narthexlaw03_GraphOrder N a0 a1 a2 a3 a4 = some true := by
  obtain ⟨N, hN, hA⟩ := awake_ok
  refine ⟨N, ?_⟩
  unfold narthexlaw03_GraphOrder
  rw [hA, Option.bind_some]
  by_cases hl : a0.Edges.length ≤ 60
  · have hf : ((!true) || decide ((a0.Edges.length : Int) > 60)) = false := by simp; omega
    rw [hf, if_neg (by simp), ownG_eq (by omega), Option.bind_some]
    obtain ⟨r, h1, h2⟩ := add_eq (g := a0) (a := a1) (b := a2) hN
    obtain ⟨s, h3, h4⟩ := add_eq (g := r.1) (a := a3) (b := a4) hN
    obtain ⟨t, h5, h6⟩ := add_eq (g := a0) (a := a3) (b := a4) hN
    obtain ⟨u, h7, h8⟩ := add_eq (g := t.1) (a := a1) (b := a2) hN
    have q1 := addR_len h2
    have q2 := addR_len h6
    have q3 := addR_len h4
    rw [h1, Option.bind_some, ownG_eq (by omega), Option.bind_some, h3, Option.bind_some, Option.bind_some, h5, Option.bind_some, ownG_eq (by omega), Option.bind_some, h7, Option.bind_some]
    by_cases e1 : r.2 = 0 ∧ s.2 = 0
    · obtain ⟨w1, w2, w3, w4⟩ := two h2 h4 h6 h8 e1.1 e1.2
      rw [if_neg (by simp [e1.1, e1.2]), if_pos (by simp [w1, w2]), gsame_eq hN (by omega), Option.bind_some, w64_is (by omega) (by omega)]
      rw [w4]
      simp [w1, w2, w3]
    · have e1' : ((r.2 != 0) || (s.2 != 0)) = true := by
        by_cases k : r.2 = 0
        · have k2 : s.2 ≠ 0 := fun h => e1 ⟨k, h⟩
          simp [k2]
        · simp [k]
      rw [if_pos e1']
      congr 1
      by_cases k : t.2 = 0
      · have k2 : u.2 ≠ 0 := fun h => by
          obtain ⟨w1, w2, _⟩ := two h6 h8 h2 h4 k h
          exact e1 ⟨w1, w2⟩
        simp [k2]
      · simp [k]
  · have hf : ((!true) || decide ((a0.Edges.length : Int) > 60)) = true := by simp; omega
    rw [hf, if_pos rfl, Option.bind_some]
theorem law_GraphNear (a0 : TGraph) (o0 : kGraph a0) (a1 : Int) (o1 : (Lit.int .i64 a1).wf = true) (a2 : Int) (o2 : (Lit.int .i64 a2).wf = true) : ∃ N, narthexlaw03_GraphNear N a0 a1 a2 = some true := by
  obtain ⟨N, hN, hA⟩ := awake_ok
  refine ⟨N, ?_⟩
  unfold narthexlaw03_GraphNear
  rw [hA, Option.bind_some]
  by_cases hl : a0.Edges.length ≤ 60
  · have hf : ((!true) || decide ((a0.Edges.length : Int) > 60)) = false := by simp; omega
    rw [hf]
    simp only [Bool.not_false, if_true]
    rw [ownG_eq (by omega), Option.bind_some]
    rcases gcheck_eq (g := a0) hN with ⟨hg, hc⟩ | ⟨_, hc⟩
    · obtain ⟨m, hm, hm2⟩ := hg.nat
      have n1 := near_len m a0 a1
      have n2 := near_len m a0 a2
      rw [hc, Option.bind_some, if_neg (by decide), Option.bind_some, gnear_eq hN hg hm, Option.bind_some, Option.bind_some, gnear_eq hN hg hm, Option.bind_some, valid_eq hN (by omega), Option.bind_some, S_self (near_strict m a0 a1)]
      have hh : ∀ a b, decide (b ∈ near m a0 a) = adj a0 a b := fun a b => by
        rw [Bool.eq_iff_iff, decide_eq_true_eq, mem_near hg hm]
      simp only [decide_true, if_true, has_eq hN (show (near m a0 a1).length ≤ 1000 by omega), has_eq hN (show (near m a0 a2).length ≤ 1000 by omega), Option.bind_some, hh, Bool.true_and]
      rw [adj_comm (a := a2)]
      simp only [beq_self_eq_true, if_true, Option.bind_some, hasG_eq hN (show a0.Edges.length ≤ 1000 by omega), ← adj_mke hg, Bool.true_and]
      cases hd : adj a0 a1 a1 with
      | false => rfl
      | true => exact absurd rfl (adj_ok hg hd).2.2.2.2
    · rw [hc, Option.bind_some, if_pos (by decide), Option.bind_some]
  · have hf : ((!true) || decide ((a0.Edges.length : Int) > 60)) = true := by simp; omega
    rw [hf]
    simp only [Bool.not_true, Bool.false_eq_true, if_false, Option.bind_some, Bool.true_or, if_true]

/-- Who is joined with whom. -/
inductive Conn (g : TGraph) (a : Int) : Int → Prop
  | refl : Conn g a a
  | step {b c : Int} : Conn g a b → adj g b c = true → Conn g a c
theorem Conn.trans {g : TGraph} {a b c : Int} (h : Conn g a b) (h2 : Conn g b c) : Conn g a c := by
  induction h2 with
  | refl => exact h
  | step _ q ih => exact ih.step q
theorem Conn.symm {g : TGraph} {a b : Int} (h : Conn g a b) : Conn g b a := by
  induction h with
  | refl => exact .refl
  | step _ q ih => exact Conn.trans (.step .refl (by rw [adj_comm]; exact q)) ih
theorem Conn.node {g : TGraph} (hg : GoodG g) {a b : Int} (h : Conn g a b) (ha : 0 ≤ a ∧ a < g.N) : 0 ≤ b ∧ b < g.N := by
  cases h with
  | refl => exact ha
  | step _ q => have := adj_ok hg q; omega
/-- A map of the least nodes, as far as those that were seen. -/
structure PInv (g : TGraph) (m : Nat) (f : Int) (out ks : List Int) : Prop where
  len : out.length = m
  nd : ks.Nodup
  mem : ∀ i : Int, i ∈ ks ↔ 0 ≤ i ∧ i < (m : Int) ∧ ∃ j, 0 ≤ j ∧ j < f ∧ Conn g j i
  val : ∀ i : Int, i ∈ ks → ∃ r, out[i.toNat]? = some r ∧ 0 ≤ r ∧ r < f ∧ Conn g r i ∧ ∀ j, 0 ≤ j → Conn g j i → r ≤ j
/-- Within the search from one node. -/
structure QInv (g : TGraph) (m : Nat) (f : Int) (out0 K : List Int) (out ks todo : List Int) : Prop where
  len : out.length = m
  nd : ks.Nodup
  node : ∀ x ∈ ks, 0 ≤ x ∧ x < (m : Int)
  old : ∀ x ∈ K, x ∈ ks ∧ out[x.toNat]? = out0[x.toNat]?
  new : ∀ x ∈ ks, x ∈ K ∨ (Conn g f x ∧ out[x.toNat]? = some f)
  td : ∀ x ∈ todo, Conn g f x
  shut : ∀ x ∈ ks, x ∉ K → ∀ y, adj g x y = true → y ∈ ks ∨ y ∈ todo
  first : f ∈ ks ∨ f ∈ todo
theorem nodup_le : ∀ {m : Nat} {l : List Int}, l.Nodup → (∀ x ∈ l, 0 ≤ x ∧ x < (m : Int)) → l.length ≤ m
  | 0, [], _, _ => by simp
  | 0, x :: l, _, h => by have := h x (by simp); omega
  | m + 1, l, hd, h => by
    have h1 := nodup_le (m := m) (l := l.erase (m : Int)) (hd.erase _) (fun x hx => by
      have h2 := (hd.mem_erase_iff).1 hx
      have := h x h2.2
      have := h2.1
      omega)
    have := List.length_erase (a := (m : Int)) (l := l)
    split at this <;> omega
theorem nearN_eq {N m : Nat} {g : TGraph} {a : Int} (hN : 1000 < N) (hg : GoodG g) (hm : g.N = (m : Int)) : graph_Near N g a = some (near m g a) := gnear_eq hN hg hm
theorem search_inv {N m : Nat} {g : TGraph} {f : Int} {out0 K : List Int} (hN : 1000 < N) (hg : GoodG g) (hm : g.N = (m : Int)) (h64 : m ≤ 64) (hf : 0 ≤ f ∧ f < (m : Int)) (h0 : PInv g m f out0 K) (hN2 : 5000 < N) : ∃ r, graph_Parts_L2 N g f N out0 K [f] = some r ∧ QInv g m f out0 K r.1 r.2 [] := by
  have key := loopI (L := fun n (s : List Int × List Int × List Int) => graph_Parts_L2 N g f n s.1 s.2.1 s.2.2) (I := fun s => QInv g m f out0 K s.1 s.2.1 s.2.2 ∧ s.2.2.length ≤ 1000000 - 64 * (m - s.2.1.length)) (μ := fun s => (m - s.2.1.length) * 65 + s.2.2.length) (R := fun r => QInv g m f out0 K r.1 r.2 []) ?_ N (out0, K, [f]) ?_ ?_
  · exact key
  · rintro n ⟨out, ks, todo⟩ ⟨h, hT⟩
    simp only at h hT ⊢
    cases todo with
    | nil =>
      refine .inr ⟨(out, ks), ?_, h⟩
      simp [graph_Parts_L2]
    | cons x todo =>
      left
      have hx := h.td x (by simp)
      have hxn := hx.node hg (by omega)
      have hle := nodup_le h.nd h.node
      by_cases hk : x ∈ ks
      · refine ⟨(out, ks, todo), ⟨⟨h.len, h.nd, h.node, h.old, h.new, fun y hy => h.td y (by simp [hy]), fun y hy hy2 z hz => ?_, ?_⟩, ?_⟩, ?_, ?_⟩
        · rcases h.shut y hy hy2 z hz with q | q
          · exact .inl q
          · rcases List.mem_cons.1 q with rfl | q
            · exact .inl hk
            · exact .inr q
        · rcases h.first with q | q
          · exact .inl q
          · rcases List.mem_cons.1 q with q | q
            · exact .inl (by rw [q]; exact hk)
            · exact .inr q
        · simp only [List.length_cons] at hT ⊢
          omega
        · simp
        · have : ks.contains x = true := by simpa using hk
          rw [graph_Parts_L2]
          rw [if_pos (by simp)]
          simp only [at?, Int.toNat_zero, List.getElem?_cons_zero, Int.le_refl, if_true, Option.bind_some, this, List.drop_succ_cons, List.drop_zero]
      · have hlt : ks.length < m := by
          have := nodup_le (m := m) (l := x :: ks) (List.nodup_cons.2 ⟨hk, h.nd⟩) (fun y hy => by
            rcases List.mem_cons.1 hy with rfl | hy
            · omega
            · exact h.node y hy)
          simp only [List.length_cons] at this; omega
        have hnl := near_len m g x
        have hxK : x ∉ K := fun q => hk (h.old x q).1
        have hxo : x.toNat < out.length := by rw [h.len]; omega
        refine ⟨(out.set x.toNat f, ks ++ [x], todo ++ near m g x), ⟨⟨by simp [h.len], ?_, ?_, ?_, ?_, ?_, ?_, ?_⟩, ?_⟩, ?_, ?_⟩
        · rw [List.nodup_append]
          refine ⟨h.nd, by simp, fun a ha b hb => ?_⟩
          rw [List.mem_singleton.1 hb]
          rintro rfl
          exact hk ha
        · intro y hy
          rcases List.mem_append.1 hy with hy | hy
          · exact h.node y hy
          · rw [List.mem_singleton.1 hy]; omega
        · intro y hy
          have := h.old y hy
          refine ⟨List.mem_append_left _ this.1, ?_⟩
          have hyn := h.node y this.1
          rw [List.getElem?_set_ne (by
            intro q
            have : x = y := by omega
            exact hxK (by rw [this]; exact hy))]
          exact this.2
        · intro y hy
          rcases List.mem_append.1 hy with hy | hy
          · rcases h.new y hy with q | ⟨q1, q2⟩
            · exact .inl q
            · refine .inr ⟨q1, ?_⟩
              have hyn := h.node y hy
              rw [List.getElem?_set_ne (by
                intro q
                have : x = y := by omega
                exact hk (by rw [this]; exact hy))]
              exact q2
          · rw [List.mem_singleton.1 hy]
            exact .inr ⟨hx, by rw [List.getElem?_set_self hxo]⟩
        · intro y hy
          rcases List.mem_append.1 hy with hy | hy
          · exact h.td y (by simp [hy])
          · exact hx.step ((mem_near hg hm).1 hy)
        · intro y hy hy2 z hz
          rcases List.mem_append.1 hy with hy | hy
          · rcases h.shut y hy hy2 z hz with q | q
            · exact .inl (List.mem_append_left _ q)
            · rcases List.mem_cons.1 q with rfl | q
              · exact .inl (by simp)
              · exact .inr (List.mem_append_left _ q)
          · rw [List.mem_singleton.1 hy] at hz
            exact .inr (List.mem_append_right _ ((mem_near hg hm).2 hz))
        · rcases h.first with q | q
          · exact .inl (List.mem_append_left _ q)
          · rcases List.mem_cons.1 q with q | q
            · exact .inl (by simp [q])
            · exact .inr (List.mem_append_left _ q)
        · simp only [List.length_cons, List.length_append, List.length_nil] at hT ⊢
          omega
        · simp only [List.length_cons, List.length_append, List.length_nil]
          omega
        · have hc : ks.contains x = false := by simpa using hk
          rw [graph_Parts_L2]
          rw [if_pos (by simp)]
          simp only [at?, Int.toNat_zero, List.getElem?_cons_zero, Int.le_refl, if_true, Option.bind_some, hc, List.drop_succ_cons, List.drop_zero, hxn.1, Bool.false_eq_true, if_false]
          rw [List.getElem?_eq_getElem hxo, Option.bind_some, nearN_eq hN hg hm, Option.bind_some, app_ok (by simp only [List.length_cons] at hT; omega), Option.bind_some]
  · refine ⟨⟨h0.len, h0.nd, fun x hx => ?_, fun x hx => ⟨hx, rfl⟩, fun x hx => .inl hx, fun x hx => ?_, fun x hx hx2 => absurd hx hx2, .inr (by simp)⟩, by simp; omega⟩
    · have := (h0.mem x).1 hx
      omega
    · rw [List.mem_singleton.1 hx]; exact .refl
  · simp only [List.length_cons, List.length_nil]
    omega
theorem search_end {m : Nat} {g : TGraph} {f : Int} {out0 K out ks : List Int} (hg : GoodG g) (hm : g.N = (m : Int)) (hf : 0 ≤ f ∧ f < (m : Int)) (h0 : PInv g m f out0 K) (h : QInv g m f out0 K out ks []) : PInv g m (f + 1) out ks := by
  have hK : ∀ {x y : Int}, x ∈ K → adj g x y = true → y ∈ K := fun {x y} hx q => by
    obtain ⟨_, _, j, h1, h2, h3⟩ := (h0.mem x).1 hx
    have := adj_ok hg q
    exact (h0.mem y).2 ⟨by omega, by omega, j, h1, h2, h3.step q⟩
  have hall : ∀ {x : Int}, Conn g f x → x ∈ ks := fun {x} q => by
    induction q with
    | refl => exact h.first.resolve_right (by simp)
    | step q1 q2 ih =>
      rename_i b c
      by_cases hb : b ∈ K
      · exact (h.old _ (hK hb q2)).1
      · exact (h.shut b ih hb c q2).resolve_right (by simp)
  refine ⟨h.len, h.nd, fun i => ⟨fun hi => ?_, fun ⟨h1, h2, j, h3, h4, h5⟩ => ?_⟩, fun i hi => ?_⟩
  · have hn := h.node i hi
    refine ⟨hn.1, hn.2, ?_⟩
    rcases h.new i hi with q | q
    · obtain ⟨_, _, j, h1, h2, h3⟩ := (h0.mem i).1 q
      exact ⟨j, h1, by omega, h3⟩
    · exact ⟨f, hf.1, by omega, q.1⟩
  · by_cases hj : j = f
    · subst hj; exact hall h5
    · exact (h.old i ((h0.mem i).2 ⟨h1, h2, j, h3, by omega, h5⟩)).1
  · by_cases hiK : i ∈ K
    · obtain ⟨r, h1, h2, h3, h4, h5⟩ := h0.val i hiK
      exact ⟨r, by rw [(h.old i hiK).2]; exact h1, h2, by omega, h4, h5⟩
    · rcases h.new i hi with q | q
      · exact absurd q hiK
      · refine ⟨f, q.2, hf.1, by omega, q.1, fun j h1 h2 => ?_⟩
        by_cases hj : f ≤ j
        · exact hj
        · have hn := h.node i hi
          exact absurd ((h0.mem i).2 ⟨hn.1, hn.2, j, h1, by omega, h2⟩) hiK
/-- What the map of parts is. -/
structure Parts (g : TGraph) (m : Nat) (p : List Int) : Prop where
  len : p.length = m
  val : ∀ i : Nat, i < m → ∃ r : Nat, p[i]? = some (r : Int) ∧ Conn g (r : Int) (i : Int) ∧ ∀ j : Nat, Conn g (j : Int) (i : Int) → r ≤ j
theorem parts_loop {N m : Nat} {g : TGraph} (hN : 5000 < N) (hg : GoodG g) (hm : g.N = (m : Int)) (h64 : m ≤ 64) : ∀ (n f : Nat) (out ks : List Int), m < n + f → f ≤ m → PInv g m (f : Int) out ks → ∃ r, graph_Parts_L1 N g n out ks (f : Int) = some r ∧ ∃ ks, PInv g m (m : Int) r ks
  | 0, f, _, _, h, h2, _ => by omega
  | n + 1, f, out, ks, h, h2, hp => by
    rw [graph_Parts_L1, hm]
    by_cases hf : f < m
    · rw [if_pos (by simp; omega)]
      obtain ⟨r, h3, h4⟩ := search_inv (N := N) (by omega) hg hm h64 (by omega) hp hN
      rw [h3, Option.bind_some, w64_nat (by omega)]
      have h5 := search_end hg hm (by omega) hp h4
      exact parts_loop hN hg hm h64 n (f + 1) r.1 r.2 (by omega) (by omega) (by rw [show ((f + 1 : Nat) : Int) = (f : Int) + 1 by omega]; exact h5)
    · rw [if_neg (by simp; omega)]
      have : f = m := by omega
      subst this
      exact ⟨out, rfl, ks, hp⟩
theorem parts_eq {N m : Nat} {g : TGraph} (hN : 5000 < N) (hg : GoodG g) (hm : g.N = (m : Int)) (h64 : m ≤ 64) : ∃ p, graph_Parts N g = some p ∧ Parts g m p := by
  unfold graph_Parts
  rcases gcheck_eq (g := g) (N := N) (by omega) with ⟨_, hc⟩ | ⟨hno, _⟩
  · rw [hc, Option.bind_some, if_neg (by decide)]
    have hk : mk? g.N (0 : Int) = some (List.replicate m 0) := by
      unfold mk?
      rw [hm, if_pos (by omega)]
      simp
    rw [hk, Option.bind_some]
    obtain ⟨r, h1, ks, h2⟩ := parts_loop hN hg hm h64 N 0 (List.replicate m 0) [] (by omega) (by omega) ⟨by simp, by simp, fun i => by
      simp only [List.not_mem_nil, false_iff]
      rintro ⟨_, _, j, h3, h4, _⟩
      simp at h4
      omega, fun i hi => by simp at hi⟩
    rw [show ((0 : Nat) : Int) = 0 from rfl] at h1
    rw [h1, Option.bind_some]
    refine ⟨r, rfl, h2.len, fun i hi => ?_⟩
    obtain ⟨v, h3, h4, h5, h6, h7⟩ := h2.val (i : Int) ((h2.mem _).2 ⟨by omega, by omega, (i : Int), by omega, by omega, .refl⟩)
    refine ⟨v.toNat, ?_, ?_, fun j hj => ?_⟩
    · rw [show ((v.toNat : Nat) : Int) = v by omega]
      simpa using h3
    · rw [show ((v.toNat : Nat) : Int) = v by omega]
      exact h6
    · have := h7 (j : Int) (by omega) hj
      omega
  · exact absurd hg hno
theorem Parts.same {g : TGraph} {m : Nat} {p : List Int} (h : Parts g m p) {i j : Nat} (hi : i < m) (hj : j < m) {x y : Int} (hx : p[i]? = some x) (hy : p[j]? = some y) : x = y ↔ Conn g (i : Int) (j : Int) := by
  obtain ⟨r, h1, h2, h3⟩ := h.val i hi
  obtain ⟨s, h4, h5, h6⟩ := h.val j hj
  rw [h1] at hx
  rw [h4] at hy
  have ex : (r : Int) = x := Option.some.inj hx
  have ey : (s : Int) = y := Option.some.inj hy
  subst ex ey
  constructor
  · intro q
    have : r = s := by omega
    subst this
    exact h2.symm.trans h5
  · intro q
    have := h3 s (h5.trans q.symm)
    have := h6 r (h2.trans q)
    omega
/-- With an edge more. -/
theorem conn_plus {g : TGraph} {a b : Int} {l' : List TEdge} (hp : Plus g.Edges (mke a b) l') {i j : Int} : Conn { g with Edges := l' } i j ↔ Conn g i j ∨ (Conn g i a ∧ Conn g b j) ∨ (Conn g i b ∧ Conn g a j) := by
  have hadj : ∀ {x y : Int}, adj { g with Edges := l' } x y = true ↔ adj g x y = true ∨ (x = a ∧ y = b) ∨ (x = b ∧ y = a) := fun {x y} => by
    rw [adj_iff, adj_iff]
    constructor
    · rintro ⟨e, he, h⟩
      rcases (hp.2.1 e).1 he with rfl | he
      · right
        simp only [mke] at h
        omega
      · exact .inl ⟨e, he, h⟩
    · rintro (⟨e, he, h⟩ | h)
      · exact ⟨e, (hp.2.1 e).2 (.inr he), h⟩
      · refine ⟨mke a b, (hp.2.1 _).2 (.inl rfl), ?_⟩
        simp only [mke]
        omega
  have hold : ∀ {x y : Int}, Conn g x y → Conn { g with Edges := l' } x y := fun {x y} h => by
    induction h with
    | refl => exact .refl
    | step _ q ih => exact ih.step (hadj.2 (.inl q))
  constructor
  · intro h
    induction h with
    | refl => exact .inl .refl
    | step h1 q ih =>
      rename_i x y
      rcases hadj.1 q with q | ⟨rfl, rfl⟩ | ⟨rfl, rfl⟩
      · rcases ih with ih | ⟨h2, h3⟩ | ⟨h2, h3⟩
        · exact .inl (ih.step q)
        · exact .inr (.inl ⟨h2, h3.step q⟩)
        · exact .inr (.inr ⟨h2, h3.step q⟩)
      · rcases ih with ih | ⟨h2, h3⟩ | ⟨h2, h3⟩
        · exact .inr (.inl ⟨ih, .refl⟩)
        · exact .inr (.inl ⟨h2, .refl⟩)
        · exact .inl h2
      · rcases ih with ih | ⟨h2, h3⟩ | ⟨h2, h3⟩
        · exact .inr (.inr ⟨ih, .refl⟩)
        · exact .inl h2
        · exact .inr (.inr ⟨h2, .refl⟩)
  · rintro (h | ⟨h, h2⟩ | ⟨h, h2⟩)
    · exact hold h
    · exact ((hold h).step (hadj.2 (.inr (.inl ⟨rfl, rfl⟩)))).trans (hold h2)
    · exact ((hold h).step (hadj.2 (.inr (.inr ⟨rfl, rfl⟩)))).trans (hold h2)
theorem at_ok {α : Type} {xs : List α} {i : Nat} {x : α} (h : xs[i]? = some x) : at? xs (i : Int) = some x := by rw [at_nat, h]
theorem l1_eq {N m : Nat} {g : TGraph} {p : List Int} (h : Parts g m p) (hN : m < N) (h64 : m ≤ 64) : narthexlaw03_GraphParts_L1 N p N 0 = some (.inr ()) := by
  have key : ∀ (n i : Nat), m < n + i → i ≤ m → narthexlaw03_GraphParts_L1 N p n (i : Int) = some (.inr ()) := by
    intro n
    induction n with
    | zero => intro i h1 h2; omega
    | succ n ih =>
      intro i h1 h2
      rw [narthexlaw03_GraphParts_L1, h.len]
      by_cases hi : i < m
      · obtain ⟨r, q1, q2, q3⟩ := h.val i hi
        have hr := q3 i .refl
        obtain ⟨s, q4, q5, q6⟩ := h.val r (by omega)
        have hs : s = r := by
          have := q6 r .refl
          have := q3 s (q5.trans q2)
          omega
        subst hs
        have a1 : decide ((s : Int) < 0) = false := by rw [decide_eq_false_iff_not]; omega
        have a2 : decide ((s : Int) > (i : Int)) = false := by rw [decide_eq_false_iff_not]; omega
        rw [if_pos (by simp; omega)]
        simp only [at_ok q1, at_ok q4, Option.bind_some, a1, a2, Bool.not_false, if_true, Bool.or_self, bne_self_eq_false, Bool.false_eq_true, if_false]
        rw [w64_nat (by omega)]
        exact ih (i + 1) (by omega) (by omega)
      · rw [if_neg (by simp; omega)]
  exact key N 0 (by omega) (by omega)
theorem l2_eq {N m : Nat} {g : TGraph} {p : List Int} (h : Parts g m p) (hg : GoodG g) (hm : g.N = (m : Int)) (hN : g.Edges.length < N) : narthexlaw03_GraphParts_L2 N g p N 0 = some (.inr ()) := by
  have hlen := hg.len
  have key : ∀ (n i : Nat), g.Edges.length < n + i → i ≤ g.Edges.length → narthexlaw03_GraphParts_L2 N g p n (i : Int) = some (.inr ()) := by
    intro n
    induction n with
    | zero => intro i h1 h2; omega
    | succ n ih =>
      intro i h1 h2
      rw [narthexlaw03_GraphParts_L2]
      by_cases hi : i < g.Edges.length
      · obtain ⟨e, he⟩ := some_at hi
        have hem := List.mem_of_getElem? he
        have hok := hg.edge e hem
        obtain ⟨r, q1, _⟩ := h.val e.A.toNat (by omega)
        obtain ⟨s, q2, _⟩ := h.val e.B.toNat (by omega)
        have hc := (h.same (by omega) (by omega) q1 q2).2 (by
          rw [show ((e.A.toNat : Nat) : Int) = e.A by omega, show ((e.B.toNat : Nat) : Int) = e.B by omega]
          exact .step .refl (adj_iff.2 ⟨e, hem, .inl ⟨rfl, rfl⟩⟩))
        have e1 := at_ok q1
        have e2 := at_ok q2
        rw [show ((e.A.toNat : Nat) : Int) = e.A by omega] at e1
        rw [show ((e.B.toNat : Nat) : Int) = e.B by omega] at e2
        rw [if_pos (by simp; omega)]
        simp only [at_ok he, Option.bind_some, e1, e2, hc, bne_self_eq_false, Bool.false_eq_true, if_false]
        rw [w64_nat (by omega)]
        exact ih (i + 1) (by omega) (by omega)
      · rw [if_neg (by simp; omega)]
  exact key N 0 (by omega) (by omega)
theorem l3_eq {N m : Nat} {g : TGraph} {p q : List Int} {a b : Nat} {l' : List TEdge} (h : Parts g m p) (ha : a < m) (hb : b < m) (hq : Parts { g with Edges := l' } m q) (hp : Plus g.Edges (mke (a : Int) (b : Int)) l') (hN : m < N) (h64 : m ≤ 64) : narthexlaw03_GraphParts_L3 N (a : Int) (b : Int) p q N 0 = some (.inr ()) := by
  obtain ⟨ra, pa, qa, la⟩ := h.val a ha
  obtain ⟨rb, pb, qb, lb⟩ := h.val b hb
  have key : ∀ (n i : Nat), m < n + i → i ≤ m → narthexlaw03_GraphParts_L3 N (a : Int) (b : Int) p q n (i : Int) = some (.inr ()) := by
    intro n
    induction n with
    | zero => intro i h1 h2; omega
    | succ n ih =>
      intro i h1 h2
      rw [narthexlaw03_GraphParts_L3, h.len, hq.len]
      by_cases hi : i < m
      · obtain ⟨r, p1, p2, p3⟩ := h.val i hi
        obtain ⟨s, q1, q2, q3⟩ := hq.val i hi
        have ia := h.same hi ha p1 pa
        have ib := h.same hi hb p1 pb
        have hd : decide ((i : Int) < (m : Int)) = true := by simp; omega
        have c2 := (conn_plus hp).1 q2
        have c3 : ∀ j : Nat, (Conn g (j : Int) (i : Int) ∨ (Conn g (j : Int) (a : Int) ∧ Conn g (b : Int) (i : Int)) ∨ (Conn g (j : Int) (b : Int) ∧ Conn g (a : Int) (i : Int))) → s ≤ j := fun j hj => q3 j ((conn_plus hp).2 hj)
        rw [hd]
        simp only [Bool.and_self, if_true, at_ok p1, at_ok pa, at_ok pb, at_ok q1, Option.bind_some]
        have step : narthexlaw03_GraphParts_L3 N (a : Int) (b : Int) p q n (w64 ((i : Int) + 1)) = some (.inr ()) := by
          rw [w64_nat (by omega)]
          exact ih (i + 1) (by omega) (by omega)
        by_cases k1 : (r : Int) = (ra : Int)
        · have ci := ia.1 k1
          have : s = min ra rb := by
            have h5 := c3 ra (.inl (qa.trans ci.symm))
            have h6 := c3 rb (.inr (.inr ⟨qb, ci.symm⟩))
            rcases c2 with c | ⟨c, d⟩ | ⟨c, d⟩
            · have := la s (c.trans ci); omega
            · have := la s c; omega
            · have := lb s c; omega
          simp only [k1, beq_self_eq_true, Bool.not_true, Bool.false_eq_true, if_false, Option.bind_some, Bool.true_or, if_true]
          rw [if_neg (by simp; omega)]
          exact step
        · have k1' : ((r : Int) == (ra : Int)) = false := by simpa using k1
          simp only [k1', Bool.not_false, if_true, Option.bind_some, Bool.false_or]
          by_cases k2 : (r : Int) = (rb : Int)
          · have ci := ib.1 k2
            have : s = min ra rb := by
              have h5 := c3 rb (.inl (qb.trans ci.symm))
              have h6 := c3 ra (.inr (.inl ⟨qa, ci.symm⟩))
              rcases c2 with c | ⟨c, d⟩ | ⟨c, d⟩
              · have := lb s (c.trans ci); omega
              · have := la s c; omega
              · have := lb s c; omega
            simp only [k2, beq_self_eq_true, if_true, Option.bind_some]
            rw [if_neg (by simp; omega)]
            exact step
          · have k2' : ((r : Int) == (rb : Int)) = false := by simpa using k2
            have : s = r := by
              have h5 := c3 r (.inl p2)
              rcases c2 with c | ⟨c, d⟩ | ⟨c, d⟩
              · have := p3 s c; omega
              · exact absurd (ib.2 d.symm) k2
              · exact absurd (ia.2 d.symm) k1
            simp only [k2', Bool.false_eq_true, if_false, Option.bind_some]
            rw [if_neg (by simp; omega)]
            exact step
      · rw [if_neg (by simp; omega)]
  exact key N 0 (by omega) (by omega)
theorem awake_ok5 : ∃ N, 5000 < N ∧ narthexlaw03_awake N = some true := ⟨5001, by omega, by decide +kernel⟩
theorem law_GraphParts (a0 : TGraph) (o0 : kGraph a0) (a1 : Int) (o1 : (Lit.int .i64 a1).wf = true) (a2 : Int) (o2 : (Lit.int .i64 a2).wf = true) : ∃ N, narthexlaw03_GraphParts N a0 a1 a2 = some true := by
  obtain ⟨N, hN5, hA⟩ := awake_ok5
  have hN : 1000 < N := by omega
  refine ⟨N, ?_⟩
  unfold narthexlaw03_GraphParts
  rw [hA, Option.bind_some]
  by_cases hl : a0.Edges.length ≤ 60
  · have hf : ((!true) || decide ((a0.Edges.length : Int) > 60)) = false := by simp; omega
    rw [hf]
    simp only [Bool.not_false, if_true, ownG_eq (show a0.Edges.length ≤ 1000 by omega), Option.bind_some, Bool.false_or]
    rcases gcheck_eq (g := a0) hN with ⟨hg, hc⟩ | ⟨hno, hc⟩
    · obtain ⟨m, hm, h64⟩ := hg.nat
      obtain ⟨p, hp, hP⟩ := parts_eq hN5 hg hm h64
      obtain ⟨r, h1, h2⟩ := add_eq (g := a0) (a := a1) (b := a2) hN
      rw [hc, Option.bind_some, if_neg (by decide), hp, Option.bind_some, hP.len, hm, if_neg (by simp), l1_eq hP (by omega) h64, Option.bind_some]
      simp only
      rw [l2_eq hP hg hm (by omega), Option.bind_some]
      simp only
      rw [h1, Option.bind_some]
      cases h2 with
      | form h => rw [if_pos (by decide)]
      | node h q => rw [if_pos (by decide)]
      | twice h q q2 => rw [if_pos (by decide)]
      | full h q q2 q3 => rw [if_pos (by decide)]
      | ok h hn he hf l' hq =>
        rw [if_neg (show ¬ (((0 : Int) != 0) = true) by decide)]
        have hg' := plus_good h hn hf hq
        obtain ⟨p', hp', hP'⟩ := parts_eq hN5 hg' (m := m) hm h64
        simp only
        rw [hp', Option.bind_some]
        unfold Nodes at hn
        have e1 : ((a1.toNat : Nat) : Int) = a1 := by omega
        have e2 : ((a2.toNat : Nat) : Int) = a2 := by omega
        have := l3_eq (N := N) (a := a1.toNat) (b := a2.toNat) hP (by omega) (by omega) hP' (by rw [e1, e2]; exact hq) (by omega) h64
        rw [e1, e2] at this
        rw [this, Option.bind_some]
        simp only
        rw [hP'.len]
        simp
    · rw [hc, Option.bind_some, if_pos (by decide)]
  · have hf : ((!true) || decide ((a0.Edges.length : Int) > 60)) = true := by simp; omega
    rw [hf]
    simp

end Go.Proofs.Ytdhhkpjbfkbcjaa
