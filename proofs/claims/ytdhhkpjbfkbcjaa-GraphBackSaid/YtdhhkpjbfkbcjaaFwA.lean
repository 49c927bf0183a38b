/- Rules of the walk. -/
import Derived.Calls
import Derived.Below
import Derived.Laws.AppendOwn
import Derived.Laws.AppendOwnNone
import Derived.Laws.MakeOwn
import Derived.Laws.StructEq
import Derived.Laws.Tables
import Derived.Orders
/- The ground of the proofs: what a slot or a cell is known to hold ('Leaf', 'AVal'), what objects a call owns ('Ob'), and what a world must be for that ('conc', 'HeapOk'). -/
namespace Go.Nx
set_option linter.unusedVariables false
set_option linter.unusedSimpArgs false

inductive Leaf where
  | v (x : Value)
  | slv (rows : List (List Leaf))
  | ptr (h ver i k : Nat)
  | sl (h ver lo len : Nat)
  | fptr (rows : List (List Leaf)) (i k : Nat)
  | slq (rows : List (List Leaf))
  | clo (f : FuncId) (caps : List Leaf)

inductive AVal where
  | c (l : Leaf)
  | agg (cs : List Leaf)
  | tup (vs : List AVal)

abbrev I (n : Int) : Leaf := .v (.int .i64 n)
abbrev B (b : Bool) : Leaf := .v (.bool b)
abbrev nilS : Leaf := .v (.slice none 0 0)

structure Info where
  base : Option Nat
  off : Nat
  cap : Nat
  sz : Nat

inductive Ob where
  | live (ver sz : Nat) (rows : List (List Leaf))
  | dead

structure Ctx where
  w : World
  F : Nat → Prop
  X : Nat → Prop
  hs : List (Info × Nat)

mutual
def conc (Γ : Ctx) : Leaf → Value → Prop
  | .v x, y => y = x ∧ x.oneCell' = true
  | .slv rows, y => (y = .slice none 0 0 ∧ rows = []) ∨ ∃ a cap sz, y = .slice (some a) rows.length cap ∧ rows.length ≤ cap ∧
      (rows = [] ∨ (a.spot = none ∧ Γ.F a.block ∧ concRows Γ a.block sz a.off rows))
  | .ptr h ver i k, y => ∃ inf ver' p, Γ.hs[h]? = some (inf, ver') ∧ ver ≤ ver' ∧ y = .pointer p ∧ (ver = ver' → ∃ b, inf.base = some b ∧ p = some ⟨b, inf.off + i * inf.sz + k, none⟩)
  | .sl h ver lo len, y => ∃ inf ver' a cap, Γ.hs[h]? = some (inf, ver') ∧ ver ≤ ver' ∧ y = .slice a len cap ∧ (ver = ver' →
      (inf.base = none ∧ a = none ∧ cap = 0 ∧ lo = 0 ∧ len = 0) ∨
      ∃ b a', inf.base = some b ∧ a = some a' ∧ cap = inf.cap - lo ∧ lo + len ≤ inf.cap ∧ (lo < inf.cap → a' = ⟨b, inf.off + lo * inf.sz, none⟩))
  | .fptr rows i k, y => ∃ b off sz, y = .pointer (some ⟨b, off + i * sz + k, none⟩) ∧ Γ.F b ∧ concRows Γ b sz off rows
  | .slq rows, y => ∃ a cap sz, y = .slice (some a) rows.length cap ∧ rows.length ≤ cap ∧
      (rows = [] ∨ (a.spot = none ∧ Γ.F a.block ∧ concRows Γ a.block sz a.off rows))
  | .clo f caps, y => ∃ ys, y = .func (.func f) #[] ys ∧ concAll Γ caps ys.toList
def concRows (Γ : Ctx) (b sz : Nat) : Nat → List (List Leaf) → Prop
  | _, [] => True
  | off, r :: rs => r.length = sz ∧ concRow Γ b off r ∧ concRows Γ b sz (off + sz) rs
def concRow (Γ : Ctx) (b : Nat) : Nat → List Leaf → Prop
  | _, [] => True
  | off, l :: ls => (∃ y, Γ.w.cell? ⟨b, off, none⟩ = some y ∧ conc Γ l y) ∧ concRow Γ b (off + 1) ls
def concAll (Γ : Ctx) : List Leaf → List Value → Prop
  | [], ys => ys = []
  | l :: ls, ys => ∃ y ys', ys = y :: ys' ∧ conc Γ l y ∧ concAll Γ ls ys'
end

mutual
def concV (Γ : Ctx) : AVal → Value → Prop
  | .c l, y => conc Γ l y
  | .agg cs, y => ∃ ys, y = .agg ys ∧ concAll Γ cs ys.toList
  | .tup vs, y => ∃ ys, y = .tuple ys ∧ concVs Γ vs ys.toList
def concVs (Γ : Ctx) : List AVal → List Value → Prop
  | [], ys => ys = []
  | l :: ls, ys => ∃ y ys', ys = y :: ys' ∧ concV Γ l y ∧ concVs Γ ls ys'
end

/-- What is known stays known. -/
structure Ctx.Le (Γ Γ' : Ctx) : Prop where
  F : ∀ b, Γ.F b → Γ'.F b
  mem : ∀ b, Γ.F b → Γ'.w.heap[b]? = Γ.w.heap[b]?
  hs : ∀ (h : Nat) (inf : Info) (ver : Nat), Γ.hs[h]? = some (inf, ver) → ∃ inf' ver', Γ'.hs[h]? = some (inf', ver') ∧ ver ≤ ver' ∧ (ver = ver' → inf' = inf)

theorem Ctx.Le.refl (Γ : Ctx) : Γ.Le Γ := ⟨fun _ h => h, fun _ _ => rfl, fun _ inf ver h => ⟨inf, ver, h, Nat.le_refl _, fun _ => rfl⟩⟩

theorem Ctx.Le.trans {Γ Γ' Γ'' : Ctx} (h : Γ.Le Γ') (h' : Γ'.Le Γ'') : Γ.Le Γ'' where
  F b hb := h'.F b (h.F b hb)
  mem b hb := (h'.mem b (h.F b hb)).trans (h.mem b hb)
  hs n inf ver hn := by
    obtain ⟨inf', ver', h1, h2, h3⟩ := h.hs n inf ver hn
    obtain ⟨inf'', ver'', g1, g2, g3⟩ := h'.hs n inf' ver' h1
    refine ⟨inf'', ver'', g1, by omega, fun e => ?_⟩
    rw [g3 (by omega), h3 (by omega)]

theorem Ctx.Le.cell {Γ Γ' : Ctx} (h : Γ.Le Γ') {a : Addr} (ha : Γ.F a.block) : Γ'.w.cell? a = Γ.w.cell? a := by
  simp [World.cell?, h.mem _ ha]

mutual
theorem conc_mono {Γ Γ' : Ctx} (h : Γ.Le Γ') : ∀ (l : Leaf) (y : Value), conc Γ l y → conc Γ' l y
  | .v x, y, hc => by simpa [conc] using hc
  | .slv rows, y, hc => by
    simp only [conc] at hc ⊢
    rcases hc with hc | ⟨a, cap, sz, h1, h2, h3⟩
    · exact .inl hc
    · refine .inr ⟨a, cap, sz, h1, h2, ?_⟩
      rcases h3 with h3 | ⟨h3, h4, h5⟩
      · exact .inl h3
      · exact .inr ⟨h3, h.F _ h4, concRows_mono h _ _ h4 _ rows h5⟩
  | .ptr n ver i k, y, hc => by
    simp only [conc] at hc ⊢
    obtain ⟨inf, ver', p, h1, h2, hy, h3⟩ := hc
    obtain ⟨inf', ver'', g1, g2, g3⟩ := h.hs n inf ver' h1
    refine ⟨inf', ver'', p, g1, by omega, hy, fun e => ?_⟩
    have e1 : ver = ver' := by omega
    rw [g3 (by omega)]
    exact h3 e1
  | .sl n ver lo len, y, hc => by
    simp only [conc] at hc ⊢
    obtain ⟨inf, ver', a, cap, h1, h2, hy, h3⟩ := hc
    obtain ⟨inf', ver'', g1, g2, g3⟩ := h.hs n inf ver' h1
    refine ⟨inf', ver'', a, cap, g1, by omega, hy, fun e => ?_⟩
    have e1 : ver = ver' := by omega
    rw [g3 (by omega)]
    exact h3 e1
  | .fptr rows i k, y, hc => by
    simp only [conc] at hc ⊢
    obtain ⟨b, off, sz, h1, h2, h3⟩ := hc
    exact ⟨b, off, sz, h1, h.F _ h2, concRows_mono h _ _ h2 _ rows h3⟩
  | .slq rows, y, hc => by
    simp only [conc] at hc ⊢
    obtain ⟨a, cap, sz, h1, h2, h3⟩ := hc
    refine ⟨a, cap, sz, h1, h2, ?_⟩
    rcases h3 with h3 | ⟨h3, h4, h5⟩
    · exact .inl h3
    · exact .inr ⟨h3, h.F _ h4, concRows_mono h _ _ h4 _ rows h5⟩
  | .clo f caps, y, hc => by
    simp only [conc] at hc ⊢
    obtain ⟨ys, h1, h2⟩ := hc
    exact ⟨ys, h1, concAll_mono h caps _ h2⟩
theorem concRows_mono {Γ Γ' : Ctx} (h : Γ.Le Γ') (b sz : Nat) (hb : Γ.F b) : ∀ (off : Nat) (rows : List (List Leaf)), concRows Γ b sz off rows → concRows Γ' b sz off rows
  | _, [], _ => by simp [concRows]
  | off, r :: rs, hc => by
    simp only [concRows] at hc ⊢
    exact ⟨hc.1, concRow_mono h b hb _ r hc.2.1, concRows_mono h b sz hb _ rs hc.2.2⟩
theorem concRow_mono {Γ Γ' : Ctx} (h : Γ.Le Γ') (b : Nat) (hb : Γ.F b) : ∀ (off : Nat) (r : List Leaf), concRow Γ b off r → concRow Γ' b off r
  | _, [], _ => by simp [concRow]
  | off, l :: ls, hc => by
    simp only [concRow] at hc ⊢
    obtain ⟨⟨y, h1, h2⟩, h3⟩ := hc
    exact ⟨⟨y, (h.cell (a := ⟨b, off, none⟩) hb).trans h1, conc_mono h l y h2⟩, concRow_mono h b hb _ ls h3⟩
theorem concAll_mono {Γ Γ' : Ctx} (h : Γ.Le Γ') : ∀ (ls : List Leaf) (ys : List Value), concAll Γ ls ys → concAll Γ' ls ys
  | [], ys, hc => by simpa [concAll] using hc
  | l :: ls, ys, hc => by
    simp only [concAll] at hc ⊢
    obtain ⟨y, ys', h1, h2, h3⟩ := hc
    exact ⟨y, ys', h1, conc_mono h l y h2, concAll_mono h ls ys' h3⟩
end

mutual
theorem concV_mono {Γ Γ' : Ctx} (h : Γ.Le Γ') : ∀ (l : AVal) (y : Value), concV Γ l y → concV Γ' l y
  | .c l, y, hc => by simp only [concV] at hc ⊢; exact conc_mono h l y hc
  | .agg cs, y, hc => by
    simp only [concV] at hc ⊢
    obtain ⟨ys, h1, h2⟩ := hc
    exact ⟨ys, h1, concAll_mono h _ _ h2⟩
  | .tup vs, y, hc => by
    simp only [concV] at hc ⊢
    obtain ⟨ys, h1, h2⟩ := hc
    exact ⟨ys, h1, concVs_mono h _ _ h2⟩
theorem concVs_mono {Γ Γ' : Ctx} (h : Γ.Le Γ') : ∀ (ls : List AVal) (ys : List Value), concVs Γ ls ys → concVs Γ' ls ys
  | [], ys, hc => by simpa [concVs] using hc
  | l :: ls, ys, hc => by
    simp only [concVs] at hc ⊢
    obtain ⟨y, ys', h1, h2, h3⟩ := hc
    exact ⟨y, ys', h1, concV_mono h l y h2, concVs_mono h ls ys' h3⟩
end

/-- The cells of a row, rewritten for other contexts in which the cells' own block may have turned elsewhere. -/
theorem concRow_of {Γ Γ' : Ctx} (h : Γ.Le Γ') (b : Nat) : ∀ (off : Nat) (r : List Leaf), (∀ j, off ≤ j → j < off + r.length → Γ'.w.cell? ⟨b, j, none⟩ = Γ.w.cell? ⟨b, j, none⟩) → concRow Γ b off r → concRow Γ' b off r
  | _, [], _, _ => by simp [concRow]
  | off, l :: ls, hm, hc => by
    simp only [concRow] at hc ⊢
    obtain ⟨⟨y, h1, h2⟩, h3⟩ := hc
    refine ⟨⟨y, (hm off (Nat.le_refl _) (by simp)).trans h1, conc_mono h l y h2⟩, concRow_of h b _ ls (fun j h1 h2 => hm j (by omega) (by simp; omega)) h3⟩

theorem concRows_of {Γ Γ' : Ctx} (h : Γ.Le Γ') (b sz : Nat) : ∀ (off : Nat) (rows : List (List Leaf)), (∀ j, off ≤ j → j < off + rows.length * sz → Γ'.w.cell? ⟨b, j, none⟩ = Γ.w.cell? ⟨b, j, none⟩) → concRows Γ b sz off rows → concRows Γ' b sz off rows
  | _, [], _, _ => by simp [concRows]
  | off, r :: rs, hm, hc => by
    simp only [concRows] at hc ⊢
    obtain ⟨h1, h2, h3⟩ := hc
    have hl : (r :: rs).length * sz = sz + rs.length * sz := by simp [Nat.add_mul, Nat.add_comm]
    refine ⟨h1, concRow_of h b _ r (fun j a1 a2 => hm j a1 (by rw [hl]; omega)) h2, concRows_of h b sz _ rs (fun j a1 a2 => hm j (by omega) (by rw [hl]; omega)) h3⟩

theorem concRow_get {Γ : Ctx} {b : Nat} : ∀ {off : Nat} {r : List Leaf} {k : Nat} {l : Leaf}, concRow Γ b off r → r[k]? = some l → ∃ y, Γ.w.cell? ⟨b, off + k, none⟩ = some y ∧ conc Γ l y
  | off, [], k, l, _, hk => by simp at hk
  | off, x :: xs, 0, l, hc, hk => by
    simp only [concRow] at hc
    simp at hk
    subst hk
    exact hc.1
  | off, x :: xs, k + 1, l, hc, hk => by
    simp only [concRow] at hc
    have := concRow_get hc.2 (by simpa using hk)
    rwa [show off + 1 + k = off + (k + 1) by omega] at this

theorem concRows_get {Γ : Ctx} {b sz : Nat} : ∀ {off : Nat} {rows : List (List Leaf)} {i : Nat} {r : List Leaf}, concRows Γ b sz off rows → rows[i]? = some r → r.length = sz ∧ concRow Γ b (off + i * sz) r
  | off, [], i, r, _, hi => by simp at hi
  | off, x :: xs, 0, r, hc, hi => by
    simp only [concRows] at hc
    simp at hi
    subst hi
    exact ⟨hc.1, by simpa using hc.2.1⟩
  | off, x :: xs, i + 1, r, hc, hi => by
    simp only [concRows] at hc
    have := concRows_get hc.2.2 (by simpa using hi)
    rwa [show off + sz + i * sz = off + (i + 1) * sz by rw [Nat.add_mul]; omega] at this

theorem concRow_mk {Γ : Ctx} {b : Nat} : ∀ {off : Nat} {r : List Leaf}, (∀ (k : Nat) (l : Leaf), r[k]? = some l → ∃ y, Γ.w.cell? ⟨b, off + k, none⟩ = some y ∧ conc Γ l y) → concRow Γ b off r
  | _, [], _ => by simp [concRow]
  | off, x :: xs, h => by
    simp only [concRow]
    refine ⟨by simpa using h 0 x (by simp), concRow_mk fun k l hk => ?_⟩
    rw [show off + 1 + k = off + (k + 1) by omega]
    exact h (k + 1) l (by simpa using hk)

theorem concRows_mk {Γ : Ctx} {b sz : Nat} : ∀ {off : Nat} {rows : List (List Leaf)}, (∀ (i : Nat) (r : List Leaf), rows[i]? = some r → r.length = sz ∧ concRow Γ b (off + i * sz) r) → concRows Γ b sz off rows
  | _, [], _ => by simp [concRows]
  | off, x :: xs, h => by
    simp only [concRows]
    have h0 := h 0 x (by simp)
    refine ⟨h0.1, by simpa using h0.2, concRows_mk fun i r hi => ?_⟩
    rw [show off + sz + i * sz = off + (i + 1) * sz by rw [Nat.add_mul]; omega]
    exact h (i + 1) r (by simpa using hi)

theorem concAll_length {Γ : Ctx} : ∀ {ls : List Leaf} {ys : List Value}, concAll Γ ls ys → ys.length = ls.length
  | [], ys, h => by simp only [concAll] at h; subst h; rfl
  | l :: ls, ys, h => by
    simp only [concAll] at h
    obtain ⟨y, ys', rfl, _, h3⟩ := h
    simp [concAll_length h3]

theorem concAll_get {Γ : Ctx} : ∀ {ls : List Leaf} {ys : List Value} {k : Nat} {l : Leaf}, concAll Γ ls ys → ls[k]? = some l → ∃ y, ys[k]? = some y ∧ conc Γ l y
  | [], ys, k, l, h, hk => by simp at hk
  | x :: xs, ys, 0, l, h, hk => by
    simp only [concAll] at h
    obtain ⟨y, ys', rfl, h2, _⟩ := h
    simp at hk
    subst hk
    exact ⟨y, by simp, h2⟩
  | x :: xs, ys, k + 1, l, h, hk => by
    simp only [concAll] at h
    obtain ⟨y, ys', rfl, _, h3⟩ := h
    have := concAll_get h3 (by simpa using hk)
    simpa using this

theorem concAll_mk {Γ : Ctx} : ∀ {ls : List Leaf} {ys : List Value}, ys.length = ls.length → (∀ (k : Nat) (l : Leaf) (y : Value), ls[k]? = some l → ys[k]? = some y → conc Γ l y) → concAll Γ ls ys
  | [], ys, hl, _ => by simp only [concAll]; exact List.eq_nil_of_length_eq_zero (by simpa using hl)
  | x :: xs, [], hl, _ => by simp at hl
  | x :: xs, y :: ys, hl, h => by
    simp only [concAll]
    exact ⟨y, ys, rfl, h 0 x y (by simp) (by simp), concAll_mk (by simpa using hl) fun k l z hk hz => h (k + 1) l z (by simpa using hk) (by simpa using hz)⟩

theorem concAll_append {Γ : Ctx} {as bs : List Leaf} {xs ys : List Value} (h : concAll Γ as xs) (h' : concAll Γ bs ys) : concAll Γ (as ++ bs) (xs ++ ys) := by
  refine concAll_mk (by simp [concAll_length h, concAll_length h']) fun k l y hk hy => ?_
  by_cases hlt : k < as.length
  · rw [List.getElem?_append_left hlt] at hk
    rw [List.getElem?_append_left (by rw [concAll_length h]; exact hlt)] at hy
    obtain ⟨z, h1, h2⟩ := concAll_get h hk
    rw [hy] at h1
    cases h1
    exact h2
  · rw [List.getElem?_append_right (by omega)] at hk
    rw [List.getElem?_append_right (by rw [concAll_length h]; omega), concAll_length h] at hy
    obtain ⟨z, h1, h2⟩ := concAll_get h' hk
    rw [hy] at h1
    cases h1
    exact h2

theorem concAll_take {Γ : Ctx} {ls : List Leaf} {ys : List Value} (h : concAll Γ ls ys) (n : Nat) : concAll Γ (ls.take n) (ys.take n) := by
  refine concAll_mk (by simp [concAll_length h]) fun k l y hk hy => ?_
  rw [List.getElem?_take] at hk hy
  split at hk
  · rename_i hlt
    rw [if_pos hlt] at hy
    obtain ⟨z, h1, h2⟩ := concAll_get h hk
    rw [hy] at h1
    cases h1
    exact h2
  · cases hk

theorem concAll_drop {Γ : Ctx} {ls : List Leaf} {ys : List Value} (h : concAll Γ ls ys) (n : Nat) : concAll Γ (ls.drop n) (ys.drop n) := by
  refine concAll_mk (by simp [concAll_length h]) fun k l y hk hy => ?_
  rw [List.getElem?_drop] at hk hy
  obtain ⟨z, h1, h2⟩ := concAll_get h hk
  rw [hy] at h1
  cases h1
  exact h2

/-- What a row of cells holds, as a list. -/
theorem concRow_cells {Γ : Ctx} {b : Nat} : ∀ {off : Nat} {r : List Leaf}, concRow Γ b off r → ∃ ys, concAll Γ r ys ∧ ∀ (k : Nat) (y : Value), ys[k]? = some y → Γ.w.cell? ⟨b, off + k, none⟩ = some y
  | off, [], _ => ⟨[], by simp [concAll], by simp⟩
  | off, x :: xs, h => by
    simp only [concRow] at h
    obtain ⟨⟨y, h1, h2⟩, h3⟩ := h
    obtain ⟨ys, g1, g2⟩ := concRow_cells h3
    refine ⟨y :: ys, by simp only [concAll]; exact ⟨y, ys, rfl, h2, g1⟩, fun k z hk => ?_⟩
    cases k with
    | zero => simp at hk; subst hk; simpa using h1
    | succ k =>
      have := g2 k z (by simpa using hk)
      rwa [show off + 1 + k = off + (k + 1) by omega] at this

theorem concRow_take {Γ : Ctx} {b off : Nat} {r : List Leaf} (h : concRow Γ b off r) (n : Nat) : concRow Γ b off (r.take n) := by
  refine concRow_mk fun k l hk => ?_
  rw [List.getElem?_take] at hk
  split at hk
  · exact concRow_get h hk
  · cases hk

theorem concRow_drop {Γ : Ctx} {b off : Nat} {r : List Leaf} (h : concRow Γ b off r) (n : Nat) : concRow Γ b (off + n) (r.drop n) := by
  refine concRow_mk fun k l hk => ?_
  rw [List.getElem?_drop] at hk
  have := concRow_get h hk
  rwa [← Nat.add_assoc] at this

theorem concRows_take {Γ : Ctx} {b sz off : Nat} {rows : List (List Leaf)} (h : concRows Γ b sz off rows) (n : Nat) : concRows Γ b sz off (rows.take n) := by
  refine concRows_mk fun i r hi => ?_
  rw [List.getElem?_take] at hi
  split at hi
  · exact concRows_get h hi
  · cases hi

theorem concRows_drop {Γ : Ctx} {b sz off : Nat} {rows : List (List Leaf)} (h : concRows Γ b sz off rows) (n : Nat) : concRows Γ b sz (off + n * sz) (rows.drop n) := by
  refine concRows_mk fun i r hi => ?_
  rw [List.getElem?_drop] at hi
  have := concRows_get h hi
  rwa [show off + n * sz + i * sz = off + (n + i) * sz by rw [Nat.add_mul]; omega]

theorem concRows_append {Γ : Ctx} {b sz off : Nat} {rs ss : List (List Leaf)} (h : concRows Γ b sz off rs) (h' : concRows Γ b sz (off + rs.length * sz) ss) : concRows Γ b sz off (rs ++ ss) := by
  refine concRows_mk fun i r hi => ?_
  by_cases hlt : i < rs.length
  · rw [List.getElem?_append_left hlt] at hi
    exact concRows_get h hi
  · rw [List.getElem?_append_right (by omega)] at hi
    have := concRows_get h' hi
    rwa [show off + rs.length * sz + (i - rs.length) * sz = off + i * sz by rw [Nat.add_assoc, ← Nat.add_mul]; congr 2; omega] at this

/-- What rows hold, as one list of values. -/
theorem concRows_cells {Γ : Ctx} {b sz : Nat} : ∀ {off : Nat} {rows : List (List Leaf)}, concRows Γ b sz off rows → ∃ ys, concAll Γ rows.flatten ys ∧ ys.length = rows.length * sz ∧ ∀ (k : Nat) (y : Value), ys[k]? = some y → Γ.w.cell? ⟨b, off + k, none⟩ = some y
  | off, [], _ => ⟨[], by simp [concAll], by simp, by simp⟩
  | off, r :: rs, h => by
    simp only [concRows] at h
    obtain ⟨h1, h2, h3⟩ := h
    obtain ⟨ys, g1, g2⟩ := concRow_cells h2
    obtain ⟨zs, f1, f2, f3⟩ := concRows_cells h3
    have hl := concAll_length g1
    refine ⟨ys ++ zs, by simpa using concAll_append g1 f1, by simp [hl, h1, f2, Nat.add_mul, Nat.add_comm], fun k y hk => ?_⟩
    by_cases hlt : k < ys.length
    · rw [List.getElem?_append_left hlt] at hk
      exact g2 k y hk
    · rw [List.getElem?_append_right (by omega)] at hk
      have := f3 _ y hk
      rwa [show off + sz + (k - ys.length) = off + k by omega] at this

/-- An object, in a world. -/
def ObOk (Γ : Ctx) (h : Nat) : Ob → Prop
  | .dead => True
  | .live ver sz rows => ∃ inf, Γ.hs[h]? = some (inf, ver) ∧ inf.cap ≤ maxLen ∧ match inf.base with
    | none => rows = []
    | some b => inf.sz = sz ∧ Γ.X b ∧ ¬ Γ.F b ∧ rows.length ≤ inf.cap ∧ 0 < inf.sz ∧ ∃ cells T, Γ.w.heap[b]? = some (.cells cells T (0, 0)) ∧ inf.off + inf.cap * inf.sz ≤ cells.size ∧ concRows Γ b inf.sz inf.off rows

structure HeapOk (Γ : Ctx) (H : List Ob) : Prop where
  len : H.length = Γ.hs.length
  ob : ∀ (h : Nat) (o : Ob), H[h]? = some o → ObOk Γ h o
  apart : ∀ (h h' v v' z z' : Nat) (rows rows' : List (List Leaf)) (inf inf' : Info) (b : Nat), H[h]? = some (.live v z rows) → H[h']? = some (.live v' z' rows') → Γ.hs[h]? = some (inf, v) → Γ.hs[h']? = some (inf', v') →
    inf.base = some b → inf'.base = some b → h = h'
  F : ∀ b, Γ.F b → b < Γ.w.heap.size
  X : ∀ b, Γ.X b → b < Γ.w.heap.size

/-- How a context may go on. -/
structure Ctx.Ext (Γ Γ' : Ctx) : Prop where
  le : Γ.Le Γ'
  os : Γ'.w.os = Γ.w.os
  tape : Γ'.w.tape = Γ.w.tape
  output : Γ'.w.output = Γ.w.output
  size : Γ.w.heap.size ≤ Γ'.w.heap.size
  frame : ∀ b, b < Γ.w.heap.size → ¬ Γ.X b → Γ'.w.heap[b]? = Γ.w.heap[b]?
  Fnew : ∀ b, Γ'.F b → Γ.F b ∨ Γ.X b ∨ Γ.w.heap.size ≤ b
  Xnew : ∀ b, Γ'.X b → Γ.X b ∨ Γ.w.heap.size ≤ b

theorem Ctx.Ext.refl (Γ : Ctx) : Γ.Ext Γ := ⟨.refl Γ, rfl, rfl, rfl, Nat.le_refl _, fun _ _ _ => rfl, fun _ h => .inl h, fun _ h => .inl h⟩

theorem Ctx.Ext.trans {Γ Γ' Γ'' : Ctx} (h : Γ.Ext Γ') (h' : Γ'.Ext Γ'') : Γ.Ext Γ'' where
  le := h.le.trans h'.le
  os := h'.os.trans h.os
  tape := h'.tape.trans h.tape
  output := h'.output.trans h.output
  size := Nat.le_trans h.size h'.size
  frame b hb hx := by
    have hx' : ¬ Γ'.X b := fun hc => by
      rcases h.Xnew b hc with h1 | h1
      · exact hx h1
      · omega
    exact (h'.frame b (Nat.lt_of_lt_of_le hb h.size) hx').trans (h.frame b hb hx)
  Fnew b hb := by
    rcases h'.Fnew b hb with h1 | h1 | h1
    · exact h.Fnew b h1
    · rcases h.Xnew b h1 with h2 | h2
      · exact .inr (.inl h2)
      · exact .inr (.inr h2)
    · exact .inr (.inr (Nat.le_trans h.size h1))
  Xnew b hb := by
    rcases h'.Xnew b hb with h1 | h1
    · exact h.Xnew b h1
    · exact .inr (Nat.le_trans h.size h1)

end Go.Nx
/- The operations, on what is known ('stp'): one step, where the text's operation is one of those treated here. -/
namespace Go.Nx
set_option linter.unusedVariables false
set_option linter.unusedSimpArgs false

abbrev Env := List (Nat × AVal)
def Env.get : Env → Nat → Option AVal
  | [], _ => none
  | (t, x) :: r, s => if t = s then some x else Env.get r s
abbrev unit : AVal := .tup []

/-! What the tables say: each a closed fact. -/
def tk (P : Program) (t : TypeId) : Option (Bool × Nat) :=
  match P.underlying t, P.info? t with
  | some d, some i => some ((match d with | .struct _ | .array _ _ => true | _ => false), i.size)
  | _, _ => none
/-- A field: its place, its size, whether it is a struct or an array. -/
def fo (P : Program) (s : TypeId) (f : Nat) : Option (Nat × Nat × Bool) :=
  match P.underlying s with
  | some (.struct fs) => match fs[f]? with
    | some fd => (tk P fd.type).map fun (g, n) => (fd.offset, n, g)
    | none => none
  | _ => none
def leaves (v : Value) : Option (List Leaf) := if v.cells.toList.all (·.oneCell') then some (v.cells.toList.map .v) else none
/-- A type's zero cells. -/
def zc (P : Program) (t : TypeId) : Option (List Leaf) :=
  match P.info? t with
  | some i => match i.zero with
    | some z => if z.cells.size = i.size then leaves z else none
    | none => none
  | none => none
/-- A slice type's element: its type, size, bytes, zero cells. -/
def se (P : Program) (t : TypeId) : Option (TypeId × Nat × Nat × List Leaf) :=
  match P.underlying t with
  | some (.slice e) => match P.info? e, zc P e with
    | some i, some z => some (e, i.size, i.bytes, z)
    | _, _ => none
  | _ => none
/-- An array type: its length, its elements' size, whether they are structs or arrays. -/
def ar (P : Program) (t : TypeId) : Option (Nat × Nat × Bool) :=
  match P.underlying t with
  | some (.array n e) => (tk P e).map fun (g, s) => (n, s, g)
  | _ => none
/-- A composite: zero cells, and the parts' places. -/
def cm (P : Program) (t : TypeId) : Option (List Leaf × List (Nat × Nat)) :=
  match P.underlying t with
  | some (.struct fs) => match zc P t, fs.toList.mapM (fun f => (P.info? f.type).map fun i => (f.offset, i.size)) with
    | some z, some ps => some (z, ps)
    | _, _ => none
  | some (.array n e) => match zc P t, P.info? e with
    | some z, some i => some (z, (List.range n).map fun k => (k * i.size, i.size))
    | _, _ => none
  | _ => none
def ik (P : Program) (t : TypeId) : Option IntKind :=
  match P.underlying t with
  | some (.int k) => some k
  | _ => none
inductive Sh | int | bool | str
def shpFs (P : Program) (rec : TypeId → Option (List Sh)) : Nat → List Field → Option (List Sh)
  | _, [] => some []
  | off, f :: fs => if f.name ≠ "_" ∧ f.offset = off then match rec f.type, tk P f.type with
    | some s, some (_, n) => if n = s.length ∧ 0 < n then (shpFs P rec (off + s.length) fs).map (s ++ ·) else none
    | _, _ => none
    else none
/-- The shape of a type whose values are compared cell by cell. -/
def shp (P : Program) : Nat → TypeId → Option (List Sh)
  | 0, _ => none
  | d + 1, t => match P.underlying t with
    | some (.int _) => some [.int]
    | some .bool => some [.bool]
    | some .string => some [.str]
    | some (.struct fs) => if P.stoodInHeld t then none else shpFs P (shp P d) 0 fs.toList
    | _ => none
def eqs (P : Program) (t : TypeId) : Option (List Sh) :=
  match P.underlying t with
  | some (.struct _) => if P.eqGuardType P.depth t then none else shp P 8 t
  | _ => none

/-! The parts of a value. -/
def AVal.cells : AVal → Option (List Leaf)
  | .c l => some [l]
  | .agg cs => some cs
  | .tup _ => none
def putSeg {α : Type} (r : List α) (k : Nat) : List α → List α
  | [] => r
  | l :: ls => putSeg (r.set k l) (k + 1) ls
def fillL (places : List (Nat × Nat)) (cells : List Leaf) : List (Nat × Option AVal) → Option (List Leaf)
  | [] => some cells
  | (i, x) :: rest => match places[i]?, x with
    | some (off, size), some x => match x.cells with
      | some cs => if cs.length = size ∧ off + size ≤ cells.length then fillL places (putSeg cells off cs) rest else none
      | none => none
    | _, _ => none
def rowsL (size : Nat) (rows : List (List Leaf)) : List (Nat × Option AVal) → Option (List (List Leaf))
  | [] => some rows
  | (i, x) :: rest => match x with
    | some x => match x.cells with
      | some cs => if cs.length = size ∧ i < rows.length then rowsL size (rows.set i cs) rest else none
      | none => none
    | none => none
def seg (r : List Leaf) (k n : Nat) : List Leaf := (r.drop k).take n
/-- The rows of an object that is there. -/
def obj (H : List Ob) (h ver : Nat) : Option (Nat × List (List Leaf)) :=
  match H[h]? with
  | some (.live v z rows) => if v = ver then some (z, rows) else none
  | _ => none
def ldN (H : List Ob) (n : Nat) : Leaf → Option (List Leaf)
  | .ptr h ver i k => match obj H h ver with
    | some (_, rows) => match rows[i]? with
      | some r => if k + n ≤ r.length then some (seg r k n) else none
      | none => none
    | none => none
  | .fptr rows i k => match rows[i]? with
    | some r => if k + n ≤ r.length then some (seg r k n) else none
    | none => none
  | _ => none
def ld1 (H : List Ob) : Leaf → Option Leaf
  | .ptr h ver i k => match obj H h ver with
    | some (_, rows) => match rows[i]? with
      | some r => r[k]?
      | none => none
    | none => none
  | .fptr rows i k => match rows[i]? with
    | some r => r[k]?
    | none => none
  | _ => none
/-- The elements that a slice shows. -/
def view (H : List Ob) : Leaf → Option (List (List Leaf))
  | .slv rows => some rows
  | .slq rows => some rows
  | .v (.slice none 0 0) => some []
  | .sl h ver lo len => match obj H h ver with
    | some (_, rows) => if lo + len ≤ rows.length then some ((rows.drop lo).take len) else none
    | none => none
  | _ => none
def lenL : Leaf → Option Nat
  | .slv rows => some rows.length
  | .slq rows => some rows.length
  | .v (.slice none 0 0) => some 0
  | .sl _ _ _ len => some len
  | _ => none
def intL : AVal → Option Int
  | .c (.v (.int _ n)) => some n
  | _ => none

def evO (e : Env) : Operand → Option AVal
  | .tmp t => e.get t
  | .const v => match v with
    | .agg cs => (leaves (.agg cs)).map .agg
    | .tuple _ => none
    | v => some (.c (.v v))
  | .func f => some (.c (.clo f []))
  | .global _ => none

def eq1 : Sh → Leaf → Leaf → Option Bool
  | .int, .v (.int k a), .v (.int k' b) => if k = k' then some (a == b) else none
  | .bool, .v (.bool a), .v (.bool b) => some (a == b)
  | .str, .v (.string a), .v (.string b) => some (a.toList == b.toList)
  | _, _, _ => none
def eqCells : List Sh → List Leaf → List Leaf → Option Bool
  | [], [], [] => some true
  | s :: ss, a :: as, b :: bs => match eq1 s a b, eqCells ss as bs with
    | some x, some y => some (x && y)
    | _, _ => none
  | _, _, _ => none

def intBin (op : BinOp) (k : IntKind) (a b : Int) : Option Leaf :=
  match op with
  | .add => some (.v (.int k (k.wrap (a + b))))
  | .sub => some (.v (.int k (k.wrap (a - b))))
  | .mul => some (.v (.int k (k.wrap (a * b))))
  | .quo => if b = 0 then none else some (.v (.int k (k.wrap (a.tdiv b))))
  | .rem => if b = 0 then none else some (.v (.int k (a.tmod b)))
  | .eql => some (.v (.bool (a == b)))
  | .neq => some (.v (.bool (a != b)))
  | .lss => some (.v (.bool (decide (a < b))))
  | .leq => some (.v (.bool (decide (a ≤ b))))
  | .gtr => some (.v (.bool (decide (a > b))))
  | .geq => some (.v (.bool (decide (a ≥ b))))
  | .and => some (.v (.int k (k.wrap ((BitVec.ofInt k.bits a &&& BitVec.ofInt k.bits b).toNat))))
  | .shr => if b < 0 then none else some (.v (.int k (a.fdiv (2 ^ (min b.toNat k.bits)))))
  | _ => none

def isNilS : Leaf → Bool
  | .v (.slice none 0 0) => true
  | _ => false
/-- Is a slice nil? -/
def nilB (H : List Ob) : Leaf → Option Bool
  | .slv rows => match rows with | _ :: _ => some false | [] => none
  | .slq _ => some false
  | .v (.slice none 0 0) => some true
  | .sl h ver _ len => match obj H h ver with
    | some _ => if 0 < len then some false else none
    | none => none
  | _ => none

def binV (P : Program) (H : List Ob) (op : BinOp) (t : TypeId) : AVal → AVal → Option Leaf
  | .c (.v (.int k a)), .c (.v (.int k' b)) => if k = k' then intBin op k a b else none
  | .c (.v (.bool a)), .c (.v (.bool b)) => match P.underlying t with
    | some .bool => match op with
      | .eql => some (.v (.bool (a == b)))
      | .neq => some (.v (.bool (!(a == b))))
      | _ => none
    | _ => none
  | .agg as, .agg bs => match eqs P t with
    | some s => match op with
      | .eql => (eqCells s as bs).map fun b => .v (.bool b)
      | .neq => (eqCells s as bs).map fun b => .v (.bool (!b))
      | _ => none
    | none => none
  | .c a, .c b => if isNilS b then match P.underlying t with
      | some (.slice _) => match op with
        | .eql => (nilB H a).map fun b => .v (.bool b)
        | .neq => (nilB H a).map fun b => .v (.bool (!b))
        | _ => none
      | _ => none
    else none
  | _, _ => none

def sliceV (P : Program) (H : List Ob) (t : TypeId) (x : Leaf) (lo hi : Option Int) : Option Leaf :=
  match se P t, lenL x with
  | some (_, size, _), some n =>
    if 0 ≤ lo.getD 0 ∧ lo.getD 0 ≤ hi.getD (n : Int) ∧ hi.getD (n : Int) ≤ (n : Int) then match x with
      | .slv rows => if ∀ r ∈ rows, r.length = size then some (.slv ((rows.take (hi.getD (n : Int)).toNat).drop (lo.getD 0).toNat)) else none
      | .slq rows => if ∀ r ∈ rows, r.length = size then some (.slq ((rows.take (hi.getD (n : Int)).toNat).drop (lo.getD 0).toNat)) else none
      | .sl hd ver lo0 _ => match obj H hd ver with
        | some (z, _) => if z = size then some (.sl hd ver (lo0 + (lo.getD 0).toNat) ((hi.getD (n : Int)).toNat - (lo.getD 0).toNat)) else none
        | none => none
      | .v (.slice none 0 0) => some nilS
      | _ => none
    else none
  | _, _ => none

def optInt (e : Env) : Option Operand → Option (Option Int)
  | none => some none
  | some x => match evO e x with
    | some v => (intL v).map some
    | none => none

def indexAddrV (P : Program) (H : List Ob) (t : TypeId) (x : Leaf) (i : Int) : Option Leaf :=
  match x with
  | .sl h ver lo len => match se P t, obj H h ver with
    | some (_, size, _), some (z, rows) => if 0 ≤ i ∧ i < len ∧ z = size ∧ lo + i.toNat < rows.length then some (.ptr h ver (lo + i.toNat) 0) else none
    | _, _ => none
  | .ptr h ver r k => match ar P t, obj H h ver with
    | some (n, size, _), some _ => if 0 ≤ i ∧ i < n then some (.ptr h ver r (k + i.toNat * size)) else none
    | _, _ => none
  | x => match se P t, view H x with
    | some (_, size, _), some rows => if 0 ≤ i ∧ i < rows.length then match rows[i.toNat]? with
        | some r => if r.length = size then some (.fptr rows i.toNat 0) else none
        | none => none
      else none
    | _, _ => none

def mkSeg (g : Bool) (cs : List Leaf) (off n : Nat) : Option AVal :=
  if g then (if off + n ≤ cs.length then some (.agg (seg cs off n)) else none) else cs[off]?.map .c

def pickV (b : Bool) (x y : AVal) : AVal :=
  match x, y with
  | .c (.v (.bool p)), .c (.v (.bool q)) => .c (.v (.bool (bif b then p else q)))
  | x, y => bif b then x else y

def leafL : List (Option AVal) → Option (List Leaf)
  | [] => some []
  | some (.c l) :: r => (leafL r).map (l :: ·)
  | _ :: _ => none

def foldI (f : Int → Int → Int) (acc : Int) : List (Option AVal) → Option Int
  | [] => some acc
  | some (.c (.v (.int _ n))) :: r => foldI f (f acc n) r
  | _ => none
def foldInt (f : Int → Int → Int) : List (Option AVal) → Option Int
  | some (.c (.v (.int .i64 n))) :: r => foldI f n r
  | _ => none

/-- So many zero values, made to be appended to nothing. -/
def appendZ (P : Program) (H : List Ob) (t' size bytes : Nat) (z : List Leaf) (s x : Leaf) : Option (AVal × List Ob) :=
  match P.underlying t', s, x with
  | some (.int _), .v (.slice none 0 0), .v (.int _ n) =>
    if 0 < size ∧ z.length = size ∧ 0 ≤ n ∧ n ≤ 9223372036854775807 ∧ n.toNat * bytes ≤ 140737488355328 then some (.c (.sl H.length 0 0 n.toNat), H ++ [.live 0 size (List.replicate n.toNat z)]) else none
  | _, _, _ => none
/-- Append, to what the call owns or to nothing. -/
def appendV (P : Program) (H : List Ob) (t t' : TypeId) (s x : Leaf) : Option (AVal × List Ob) :=
  match se P t, view H x with
  | some (_, size, bytes, _), some ys =>
    if t = t' ∧ 0 < size ∧ (∀ r ∈ ys, r.length = size) then match s with
      | .v (.slice none 0 0) => if ys.length ≤ maxLen ∧ ys.length * bytes ≤ 140737488355328 then some (.c (.sl H.length 0 0 ys.length), H ++ [.live 0 size ys]) else none
      | .sl h ver lo len => match obj H h ver with
        | some (z, rows) => if lo + len ≤ rows.length ∧ z = size ∧ len + ys.length ≤ maxLen ∧ (len + ys.length) * bytes ≤ 140737488355328 then
            some (.c (.sl h (ver + 1) 0 (len + ys.length)), H.set h (.live (ver + 1) size ((rows.drop lo).take len ++ ys))) else none
        | none => none
      | _ => none
    else none
  | some (_, size, bytes, z), none => appendZ P H t' size bytes z s x
  | none, _ => none

/-- Rows lo .. turned. -/
def segRows (rows : List (List Leaf)) (lo : Nat) (new : List (List Leaf)) : List (List Leaf) := rows.take lo ++ new ++ rows.drop (lo + new.length)
def copyV (P : Program) (H : List Ob) (t : TypeId) (d x : Leaf) : Option (AVal × List Ob) :=
  match se P t, view H x, d with
  | some (_, size, _, _), some ys, .sl h ver lo len => match obj H h ver with
    | some (z, rows) => if lo + len ≤ rows.length ∧ z = size ∧ (∀ r ∈ ys, r.length = size) then some (.c (.v (.int .i64 ((min ys.length len : Nat) : Int))), H.set h (.live ver z (segRows rows lo (ys.take len)))) else none
    | none => none
  | _, _, _ => none
def clearV (P : Program) (H : List Ob) (t : TypeId) (d : Leaf) : Option (AVal × List Ob) :=
  match se P t, d with
  | some (_, size, _, zz), .sl h ver lo len => match obj H h ver with
    | some (z, rows) => if lo + len ≤ rows.length ∧ z = size ∧ zz.length = size then some (unit, H.set h (.live ver z (segRows rows lo (List.replicate len zz)))) else none
    | none => none
  | _, _ => none

def stp (P : Program) (e : Env) (H : List Ob) : Op → Option (AVal × List Ob)
  | .move x | .assign x => (evO e x).map (·, H)
  | .pick c a b => match evO e c, evO e a, evO e b with
    | some (.c (.v (.bool t))), some x, some y => some (pickV t x y, H)
    | _, _, _ => none
  | .alloc t => match zc P t with
    | some (z :: zs) => some (.c (.ptr H.length 0 0 0), H ++ [.live 0 (zs.length + 1) [z :: zs]])
    | _ => none
  | .box _ x => match evO e x with
    | some v => match v.cells with
      | some (z :: zs) => some (.c (.ptr H.length 0 0 0), H ++ [.live 0 (zs.length + 1) [z :: zs]])
      | _ => none
    | none => none
  | .build t ps => match cm P t with
    | some (z, places) => (fillL places z (ps.toList.map fun (i, x) => (i, evO e x))).map fun cs => (.agg cs, H)
    | none => none
  | .buildSlice t n ps => match se P t with
    | some (_, size, _, z) => if 0 < size ∧ n * size ≤ 16777216 ∧ z.length = size ∧ n ≤ maxLen then
        (rowsL size (List.replicate n z) (ps.toList.map fun (i, x) => (i, evO e x))).map fun rows => (.c (.sl H.length 0 0 n), H ++ [.live 0 size rows]) else none
    | none => none
  | .makeSlice t l c => match se P t, evO e l, evO e c with
    | some (_, size, bytes, z), some (.c (.v (.int _ n))), some (.c (.v (.int _ m))) =>
      if 0 < size ∧ z.length = size ∧ 0 ≤ n ∧ n = m ∧ (bytes : Int) * n ≤ 281474976710656 ∧ n ≤ maxLen then some (.c (.sl H.length 0 0 n.toNat), H ++ [.live 0 size (List.replicate n.toNat z)]) else none
    | _, _, _ => none
  | .load t a => match tk P t, evO e a with
    | some (true, n), some (.c p) => (ldN H n p).map fun cs => (.agg cs, H)
    | some (false, _), some (.c p) => (ld1 H p).map fun l => (.c l, H)
    | _, _ => none
  | .store t a x => match tk P t, evO e a, evO e x with
    | some (_, n), some (.c (.ptr h ver i k)), some v => match v.cells, obj H h ver with
      | some cs, some (z, rows) => if cs.length = n then match rows[i]? with
          | some r => if k + n ≤ r.length then some (unit, H.set h (.live ver z (rows.set i (putSeg r k cs)))) else none
          | none => none
        else none
      | _, _ => none
    | _, _, _ => none
  | .nilCheck x => match evO e x with
    | some (.c (.ptr h ver i k)) => (obj H h ver).map fun _ => (.c (.ptr h ver i k), H)
    | some (.c (.fptr rows i k)) => some (.c (.fptr rows i k), H)
    | some (.c (.clo f cs)) => some (.c (.clo f cs), H)
    | _ => none
  | .binOp op t x y _ => match evO e x, evO e y with
    | some a, some b => (binV P H op t a b).map fun l => (.c l, H)
    | _, _ => none
  | .unOp op _ x => match op, evO e x with
    | .not, some (.c (.v (.bool b))) => some (.c (.v (.bool (!b))), H)
    | .neg, some (.c (.v (.int k n))) => some (.c (.v (.int k (k.wrap (-n)))), H)
    | _, _ => none
  | .convert src dst x => match ik P src, ik P dst, evO e x with
    | some _, some k, some (.c (.v (.int _ n))) => some (.c (.v (.int k (k.wrap n))), H)
    | _, _, _ => none
  | .makeFunc (.func f) first caps => if first.size = 0 then (leafL (caps.toList.map (evO e))).map fun cs => (.c (.clo f cs), H) else none
  | .slice t x lo hi none => match evO e x, optInt e lo, optInt e hi with
    | some (.c l), some lo, some hi => (sliceV P H t l lo hi).map fun l => (.c l, H)
    | _, _, _ => none
  | .fieldAddr s x f => match fo P s f, evO e x with
    | some (off, n, _), some (.c (.ptr h ver i k)) => if n = 0 then none else (obj H h ver).map fun _ => (.c (.ptr h ver i (k + off)), H)
    | some (off, n, _), some (.c (.fptr rows i k)) => if n = 0 then none else some (.c (.fptr rows i (k + off)), H)
    | _, _ => none
  | .field s x f => match fo P s f, evO e x with
    | some (off, n, g), some (.agg cs) => (mkSeg g cs off n).map (·, H)
    | _, _ => none
  | .indexAddr t x i => match evO e x, evO e i with
    | some (.c l), some (.c (.v (.int _ n))) => (indexAddrV P H t l n).map fun l => (.c l, H)
    | _, _ => none
  | .index t x i => match ar P t, evO e x, evO e i with
    | some (n, size, g), some (.agg cs), some (.c (.v (.int _ j))) => if 0 ≤ j ∧ j < n then (mkSeg g cs (j.toNat * size) size).map (·, H) else none
    | _, _, _ => none
  | .extract x i => match evO e x with
    | some (.tup vs) => vs[i]?.map (·, H)
    | _ => none
  | .call { callee := .builtin .len, args, argTypes } => match args.toList, argTypes.toList with
    | [x], [t] => match P.underlying t, evO e x with
      | some (.slice _), some (.c l) => (lenL l).map fun (n : Nat) => (.c (.v (.int .i64 (n : Int))), H)
      | _, _ => none
    | _, _ => none
  | .call { callee := .builtin .append, args, argTypes } => match args.toList, argTypes.toList with
    | [s, x], [t, t'] => match evO e s, evO e x with
      | some (.c s), some (.c x) => appendV P H t t' s x
      | _, _ => none
    | _, _ => none
  | .call { callee := .builtin .cap, args, argTypes } => match args.toList, argTypes.toList with
    | [x], [t] => match P.underlying t, evO e x with
      | some (.slice _), some (.c (.v (.slice none 0 0))) => some (.c (I 0), H)
      | _, _ => none
    | _, _ => none
  | .call { callee := .builtin .copy, args, argTypes } => match args.toList, argTypes.toList with
    | [d, x], [t, _] => match evO e d, evO e x with
      | some (.c d), some (.c x) => copyV P H t d x
      | _, _ => none
    | _, _ => none
  | .call { callee := .builtin .clear, args, argTypes } => match args.toList, argTypes.toList with
    | [d], [t] => match evO e d with
      | some (.c d) => clearV P H t d
      | _ => none
    | _, _ => none
  | .call { callee := .builtin .min, args, .. } => (foldInt min (args.toList.map (evO e))).map fun n => (.c (.v (.int .i64 n)), H)
  | .call { callee := .builtin .max, args, .. } => (foldInt max (args.toList.map (evO e))).map fun n => (.c (.v (.int .i64 n)), H)
  | _ => none

end Go.Nx
/- How a heap that is known stays known: a new object, a store, an append. -/
namespace Go.Nx
set_option linter.unusedVariables false
set_option linter.unusedSimpArgs false

theorem add_off (b o n : Nat) : (⟨b, o, none⟩ : Addr).add n = ⟨b, o + n, none⟩ := by
  unfold Addr.add; split <;> simp_all

theorem cell_of {w : World} {b : Nat} {cells : Array Value} {T : TypeId} {fr : Nat × Nat} (h : w.heap[b]? = some (.cells cells T fr)) (j : Nat) : w.cell? ⟨b, j, none⟩ = cells[j]? := by
  simp [World.cell?, h]

theorem cell_heap {w w' : World} {b : Nat} (h : w'.heap[b]? = w.heap[b]?) (j : Nat) : w'.cell? ⟨b, j, none⟩ = w.cell? ⟨b, j, none⟩ := by
  simp [World.cell?, h]

theorem conc_one {Γ : Ctx} {l : Leaf} {y : Value} (h : conc Γ l y) : y.oneCell' = true := by
  cases l with
  | v x => simp only [conc] at h; rw [h.1]; exact h.2
  | slv rows =>
    simp only [conc] at h
    rcases h with ⟨rfl, _⟩ | ⟨a, cap, sz, rfl, _⟩ <;> rfl
  | ptr a b c d => simp only [conc] at h; obtain ⟨inf, ver', p, h1, h2, rfl, h3⟩ := h; rfl
  | sl a b c d => simp only [conc] at h; obtain ⟨inf, ver', p, q, h1, h2, rfl, h3⟩ := h; rfl
  | fptr rows i k => simp only [conc] at h; obtain ⟨b, off, sz, rfl, _⟩ := h; rfl
  | slq rows => simp only [conc] at h; obtain ⟨a, cap, sz, rfl, _⟩ := h; rfl
  | clo f c => simp only [conc] at h; obtain ⟨ys, rfl, _⟩ := h; rfl

theorem concAll_one {Γ : Ctx} : ∀ {ls : List Leaf} {ys : List Value}, concAll Γ ls ys → ∀ y ∈ ys, y.oneCell' = true
  | [], ys, h => by simp only [concAll] at h; subst h; simp
  | l :: ls, ys, h => by
    simp only [concAll] at h
    obtain ⟨y, ys', rfl, h2, h3⟩ := h
    intro z hz
    rcases List.mem_cons.1 hz with rfl | hz
    · exact conc_one h2
    · exact concAll_one h3 z hz

/-- An object that nobody touched is as it was. -/
theorem ObOk.keep {Γ Γ' : Ctx} (hle : Γ.Le Γ') {h : Nat} {o : Ob} (hs : ∀ ver z rows, o = .live ver z rows → Γ'.hs[h]? = Γ.hs[h]?)
    (hb : ∀ ver z rows inf b, o = .live ver z rows → Γ.hs[h]? = some (inf, ver) → inf.base = some b → Γ.X b → ¬ Γ.F b → Γ'.w.heap[b]? = Γ.w.heap[b]? ∧ ¬ Γ'.F b ∧ Γ'.X b) (ho : ObOk Γ h o) : ObOk Γ' h o := by
  cases o with
  | dead => trivial
  | live ver z rows =>
    obtain ⟨inf, h1, hm, h2⟩ := ho
    refine ⟨inf, (hs ver z rows rfl).trans h1, hm, ?_⟩
    cases hbase : inf.base with
    | none => simp only [hbase] at h2 ⊢; exact h2
    | some b =>
      simp only [hbase] at h2 ⊢
      obtain ⟨hzz, hx, hf, hc, hsz, cells, T, hh, hcs, hrows⟩ := h2
      obtain ⟨g1, g2, g3⟩ := hb ver z rows inf b rfl h1 hbase hx hf
      exact ⟨hzz, g3, g2, hc, hsz, cells, T, g1.trans hh, hcs, concRows_of hle b inf.sz _ rows (fun j _ _ => cell_heap g1 j) hrows⟩

/-- The rows of an object that is there. -/
theorem obj_some {H : List Ob} {h ver : Nat} {z : Nat} {rows : List (List Leaf)} (ho : obj H h ver = some (z, rows)) : H[h]? = some (.live ver z rows) := by
  unfold obj at ho
  split at ho
  · rename_i v z' r hr
    split at ho
    · rename_i hv; subst hv; cases ho; exact hr
    · cases ho
  · cases ho

theorem HeapOk.obj {Γ : Ctx} {H : List Ob} (hok : HeapOk Γ H) {h ver : Nat} {z : Nat} {rows : List (List Leaf)} (ho : obj H h ver = some (z, rows)) : ObOk Γ h (.live ver z rows) := hok.ob h _ (obj_some ho)

/-- The context, with a new block that is the call's own. -/
def Ctx.alloc (Γ : Ctx) (cells : Array Value) (T : TypeId) (inf : Info) : Ctx :=
  { w := Γ.w.alloc (.cells cells T), F := Γ.F, X := fun b => Γ.X b ∨ b = Γ.w.heap.size, hs := Γ.hs ++ [(inf, 0)] }

theorem Le_alloc {Γ : Ctx} {H : List Ob} (hok : HeapOk Γ H) (cells : Array Value) (T : TypeId) (inf : Info) : Γ.Le (Γ.alloc cells T inf) where
  F _ h := h
  mem b hb := heap_alloc_old Γ.w _ b (hok.F b hb)
  hs h i v hh := ⟨i, v, by
    have hlt : h < Γ.hs.length := (List.getElem?_eq_some_iff.1 hh).1
    simp only [Ctx.alloc]
    rw [List.getElem?_append_left hlt]; exact hh, Nat.le_refl _, fun _ => rfl⟩

theorem Ext_alloc {Γ : Ctx} {H : List Ob} (hok : HeapOk Γ H) (cells : Array Value) (T : TypeId) (inf : Info) : Γ.Ext (Γ.alloc cells T inf) where
  le := Le_alloc hok cells T inf
  os := rfl
  tape := rfl
  output := rfl
  size := by simp [Ctx.alloc]
  frame b hb _ := heap_alloc_old Γ.w _ b hb
  Fnew b hb := .inl hb
  Xnew b hb := by
    rcases hb with hb | hb
    · exact .inl hb
    · exact .inr (by omega)

theorem HeapOk_alloc {Γ : Ctx} {H : List Ob} (hok : HeapOk Γ H) (cells : Array Value) (T : TypeId) (cap sz : Nat) (rows : List (List Leaf)) (hcap : cap ≤ maxLen) (hrc : rows.length ≤ cap) (hsz : 0 < sz)
    (hsize : cap * sz ≤ cells.size) (hl : ∀ r ∈ rows, r.length = sz) (ys : List Value) (hys : concAll Γ rows.flatten ys) (hpre : ∀ (k : Nat) (y : Value), ys[k]? = some y → cells[k]? = some y) :
    HeapOk (Γ.alloc cells T ⟨some Γ.w.heap.size, 0, cap, sz⟩) (H ++ [.live 0 sz rows]) := by
  have hle := Le_alloc hok cells T ⟨some Γ.w.heap.size, 0, cap, sz⟩
  have hnew : (Γ.alloc cells T ⟨some Γ.w.heap.size, 0, cap, sz⟩).w.heap[Γ.w.heap.size]? = some (.cells cells T (0, 0)) := heap_alloc_new Γ.w _
  have hrows : concRows (Γ.alloc cells T ⟨some Γ.w.heap.size, 0, cap, sz⟩) Γ.w.heap.size sz 0 rows := by
    have hys' := concAll_mono hle _ _ hys
    clear hys
    have key : ∀ (rs : List (List Leaf)) (off : Nat) (zs : List Value), (∀ r ∈ rs, r.length = sz) → concAll (Γ.alloc cells T ⟨some Γ.w.heap.size, 0, cap, sz⟩) rs.flatten zs → (∀ (k : Nat) (y : Value), zs[k]? = some y → cells[off + k]? = some y) →
        concRows (Γ.alloc cells T ⟨some Γ.w.heap.size, 0, cap, sz⟩) Γ.w.heap.size sz off rs := by
      intro rs
      induction rs with
      | nil => intro off zs _ _ _; simp [concRows]
      | cons r rs ih =>
        intro off zs hlen hz hc
        simp only [concRows]
        have hr := hlen r (by simp)
        have h1 := concAll_take hz r.length
        have h2 := concAll_drop hz r.length
        simp only [List.flatten_cons, List.take_left, List.drop_left] at h1 h2
        refine ⟨hr, concRow_mk fun k l hk => ?_, ih (off + sz) _ (fun x hx => hlen x (by simp [hx])) h2 fun k y hk => ?_⟩
        · obtain ⟨y, g1, g2⟩ := concAll_get h1 hk
          refine ⟨y, ?_, g2⟩
          rw [cell_of hnew]
          rw [List.getElem?_take] at g1
          split at g1
          · exact hc k y g1
          · cases g1
        · rw [List.getElem?_drop] at hk
          have := hc _ y hk
          rwa [show off + sz + k = off + (r.length + k) by omega]
    exact key rows 0 ys hl hys' (fun k y hk => by simpa using hpre k y hk)
  refine ⟨by simp [Ctx.alloc, hok.len], fun h o ho => ?_, fun h h' v v' z1 z2 r r' inf inf' b h1 h2 h3 h4 h5 h6 => ?_, fun b hb => ?_, fun b hb => ?_⟩
  · by_cases hlt : h < H.length
    · rw [List.getElem?_append_left hlt] at ho
      refine ObOk.keep hle (fun _ _ _ _ => ?_) (fun ver z rows inf b _ _ _ hx hf => ⟨heap_alloc_old Γ.w _ b (hok.X b hx), hf, .inl hx⟩) (hok.ob h o ho)
      simp only [Ctx.alloc]
      rw [List.getElem?_append_left (by rw [← hok.len]; exact hlt)]
    · have he : h = H.length := by
        have := (List.getElem?_eq_some_iff.1 ho).1
        simp at this; omega
      subst he
      simp at ho
      subst ho
      refine ⟨⟨some Γ.w.heap.size, 0, cap, sz⟩, by simp [Ctx.alloc, hok.len], hcap, ?_⟩
      refine ⟨rfl, .inr rfl, fun hf => ?_, hrc, hsz, cells, T, hnew, by simpa using hsize, hrows⟩
      have := hok.F _ hf
      omega
  · simp only [Ctx.alloc] at h3 h4
    have old : ∀ (n : Nat) (vv zz : Nat) (rr : List (List Leaf)) (ii : Info), (H ++ [Ob.live 0 sz rows])[n]? = some (.live vv zz rr) → (Γ.hs ++ [((⟨some Γ.w.heap.size, 0, cap, sz⟩ : Info), 0)])[n]? = some (ii, vv) →
        (n < H.length ∧ H[n]? = some (.live vv zz rr) ∧ Γ.hs[n]? = some (ii, vv)) ∨ (n = H.length ∧ ii.base = some Γ.w.heap.size) := by
      intro n vv zz rr ii e1 e2
      by_cases hlt : n < H.length
      · rw [List.getElem?_append_left hlt] at e1
        rw [List.getElem?_append_left (by rw [← hok.len]; exact hlt)] at e2
        exact .inl ⟨hlt, e1, e2⟩
      · have he : n = H.length := by
          have := (List.getElem?_eq_some_iff.1 e1).1
          simp at this; omega
        subst he
        rw [hok.len] at e2
        simp at e2
        exact .inr ⟨rfl, by rw [← e2.1]⟩
    have less : ∀ (n vv zz : Nat) (rr : List (List Leaf)) (ii : Info), H[n]? = some (.live vv zz rr) → Γ.hs[n]? = some (ii, vv) → ii.base = some b → b < Γ.w.heap.size := by
      intro n vv zz rr ii e1 e2 e3
      obtain ⟨i2, g1, _, g2⟩ := hok.ob n _ e1
      rw [e2] at g1
      cases g1
      simp only [e3] at g2
      exact hok.X b g2.2.1
    rcases old h v z1 r inf h1 h3 with ⟨a1, a2, a3⟩ | ⟨a1, a2⟩ <;> rcases old h' v' z2 r' inf' h2 h4 with ⟨b1, b2, b3⟩ | ⟨b1, b2⟩
    · exact hok.apart h h' v v' z1 z2 r r' inf inf' b a2 b2 a3 b3 h5 h6
    · have := less h v z1 r inf a2 a3 h5
      rw [b2] at h6
      cases h6
      omega
    · have := less h' v' z2 r' inf' b2 b3 h6
      rw [a2] at h5
      cases h5
      omega
    · omega
  · have := hok.F b hb
    simp [Ctx.alloc]; omega
  · rcases hb with hb | hb
    · have := hok.X b hb
      simp [Ctx.alloc]; omega
    · simp [Ctx.alloc, hb]

/-- The context, with a nil slice that the call may append to. -/
def Ctx.nilOb (Γ : Ctx) : Ctx := { Γ with hs := Γ.hs ++ [(⟨none, 0, 0, 0⟩, 0)] }

theorem Le_nilOb (Γ : Ctx) : Γ.Le Γ.nilOb where
  F _ h := h
  mem b _ := rfl
  hs h i v hh := ⟨i, v, by
    have hlt : h < Γ.hs.length := (List.getElem?_eq_some_iff.1 hh).1
    simp only [Ctx.nilOb]
    rw [List.getElem?_append_left hlt]; exact hh, Nat.le_refl _, fun _ => rfl⟩

theorem Ext_nilOb (Γ : Ctx) : Γ.Ext Γ.nilOb where
  le := Le_nilOb Γ
  os := rfl
  tape := rfl
  output := rfl
  size := Nat.le_refl _
  frame b hb _ := rfl
  Fnew b hb := .inl hb
  Xnew b hb := .inl hb

theorem HeapOk_nilOb {Γ : Ctx} {H : List Ob} (hok : HeapOk Γ H) (sz : Nat) : HeapOk Γ.nilOb (H ++ [.live 0 sz []]) := by
  refine ⟨by simp [Ctx.nilOb, hok.len], fun h o ho => ?_, fun h h' v v' z1 z2 r r' inf inf' b h1 h2 h3 h4 h5 h6 => ?_, hok.F, hok.X⟩
  · by_cases hlt : h < H.length
    · rw [List.getElem?_append_left hlt] at ho
      refine ObOk.keep (Le_nilOb Γ) (fun _ _ _ _ => ?_) (fun ver z rows inf b _ _ _ hx hf => ⟨rfl, hf, hx⟩) (hok.ob h o ho)
      simp only [Ctx.nilOb]
      rw [List.getElem?_append_left (by rw [← hok.len]; exact hlt)]
    · have he : h = H.length := by
        have := (List.getElem?_eq_some_iff.1 ho).1
        simp at this; omega
      subst he
      simp at ho
      subst ho
      exact ⟨⟨none, 0, 0, 0⟩, by simp [Ctx.nilOb, hok.len], Nat.zero_le _, rfl⟩
  · simp only [Ctx.nilOb] at h3 h4
    have old : ∀ (n : Nat) (vv zz : Nat) (rr : List (List Leaf)) (ii : Info), ii.base = some b → (H ++ [Ob.live 0 sz []])[n]? = some (.live vv zz rr) → (Γ.hs ++ [((⟨none, 0, 0, 0⟩ : Info), 0)])[n]? = some (ii, vv) →
        H[n]? = some (.live vv zz rr) ∧ Γ.hs[n]? = some (ii, vv) := by
      intro n vv zz rr ii e0 e1 e2
      by_cases hlt : n < H.length
      · rw [List.getElem?_append_left hlt] at e1
        rw [List.getElem?_append_left (by rw [← hok.len]; exact hlt)] at e2
        exact ⟨e1, e2⟩
      · have he : n = H.length := by
          have := (List.getElem?_eq_some_iff.1 e1).1
          simp at this; omega
        subst he
        rw [hok.len] at e2
        simp at e2
        rw [← e2.1] at e0
        cases e0
    obtain ⟨a1, a2⟩ := old h v z1 r inf h5 h1 h3
    obtain ⟨b1, b2⟩ := old h' v' z2 r' inf' h6 h2 h4
    exact hok.apart h h' v v' z1 z2 r r' inf inf' b a1 b1 a2 b2 h5 h6

/-- An object of the call's own is turned: its block written, or another block taken for it. -/
theorem HeapOk_turn {Γ Γ' : Ctx} {H : List Ob} (hok : HeapOk Γ H) {h ver ver' z z' : Nat} {rows rows' : List (List Leaf)} {inf inf' : Info} {b' : Nat} (ho : H[h]? = some (.live ver z rows)) (hin : Γ.hs[h]? = some (inf, ver))
    (hle : Γ.Le Γ') (hs : Γ'.hs = Γ.hs.set h (inf', ver')) (hF : Γ'.F = Γ.F) (hX : ∀ b, Γ'.X b ↔ (Γ.X b ∨ b = b')) (hsize : Γ.w.heap.size ≤ Γ'.w.heap.size)
    (hb' : inf'.base = some b') (hmem : ∀ b, b < Γ.w.heap.size → b ≠ b' → Γ'.w.heap[b]? = Γ.w.heap[b]?) (hown : inf.base = some b' ∨ b' = Γ.w.heap.size) (hlt : b' < Γ'.w.heap.size)
    (hcap : inf'.cap ≤ maxLen) (hrc : rows'.length ≤ inf'.cap) (hsz : 0 < inf'.sz) (hz' : inf'.sz = z') (cells : Array Value) (T : TypeId) (hcell : Γ'.w.heap[b']? = some (.cells cells T (0, 0))) (hcs : inf'.off + inf'.cap * inf'.sz ≤ cells.size)
    (hrows : concRows Γ' b' inf'.sz inf'.off rows') : HeapOk Γ' (H.set h (.live ver' z' rows')) := by
  have hh : h < H.length := (List.getElem?_eq_some_iff.1 ho).1
  have hother : ∀ (n vv zz : Nat) (rr : List (List Leaf)) (ii : Info), n ≠ h → H[n]? = some (.live vv zz rr) → Γ.hs[n]? = some (ii, vv) → ii.base ≠ some b' := by
    intro n vv zz rr ii hn e1 e2 e3
    rcases hown with hown | hown
    · exact hn (hok.apart n h vv ver zz z rr rows ii inf b' e1 ho e2 hin e3 hown)
    · obtain ⟨i2, g1, _, g2⟩ := hok.ob n _ e1
      rw [e2] at g1
      cases g1
      simp only [e3] at g2
      have := hok.X b' g2.2.1
      omega
  have hnF : ¬ Γ.F b' := by
    rcases hown with hown | hown
    · obtain ⟨i2, g1, _, g2⟩ := hok.ob h _ ho
      rw [hin] at g1
      cases g1
      simp only [hown] at g2
      exact g2.2.2.1
    · intro hf
      have := hok.F _ hf
      omega
  refine ⟨by rw [hs]; simp [hok.len], fun n o hn => ?_, fun n n' v v' z1 z2 r r' i1 i2 b h1 h2 h3 h4 h5 h6 => ?_, fun b hb => ?_, fun b hb => ?_⟩
  · by_cases he : n = h
    · subst he
      rw [List.getElem?_set_self hh] at hn
      cases hn
      refine ⟨inf', by rw [hs, List.getElem?_set_self (by rw [← hok.len]; exact hh)], hcap, ?_⟩
      rw [hb']
      exact ⟨hz', (hX b').2 (.inr rfl), by rw [hF]; exact hnF, hrc, hsz, cells, T, hcell, hcs, hrows⟩
    · rw [List.getElem?_set_ne (fun e => he e.symm)] at hn
      refine ObOk.keep hle (fun _ _ _ _ => by rw [hs, List.getElem?_set_ne (fun e => he e.symm)]) (fun vv zz rr ii b e1 e2 e3 hx hf => ?_) (hok.ob n o hn)
      subst e1
      have hne : b ≠ b' := fun e => hother n vv zz rr ii he hn e2 (by rw [e3, e])
      exact ⟨hmem b (hok.X b hx) hne, by rw [hF]; exact hf, (hX b).2 (.inl hx)⟩
  · rw [hs] at h3 h4
    by_cases e1 : n = h
    · by_cases e2 : n' = h
      · omega
      · subst e1
        rw [List.getElem?_set_ne (fun e => e2 e.symm)] at h2 h4
        rw [List.getElem?_set_self (by rw [← hok.len]; exact hh)] at h3
        cases h3
        rw [hb'] at h5
        cases h5
        exact absurd h6 (hother n' v' z2 r' i2 e2 h2 h4)
    · rw [List.getElem?_set_ne (fun e => e1 e.symm)] at h1 h3
      by_cases e2 : n' = h
      · subst e2
        rw [List.getElem?_set_self (by rw [← hok.len]; exact hh)] at h4
        cases h4
        rw [hb'] at h6
        cases h6
        exact absurd h5 (hother n v z1 r i1 e1 h1 h3)
      · rw [List.getElem?_set_ne (fun e => e2 e.symm)] at h2 h4
        exact hok.apart n n' v v' z1 z2 r r' i1 i2 b h1 h2 h3 h4 h5 h6
  · rw [hF] at hb
    exact Nat.lt_of_lt_of_le (hok.F b hb) hsize
  · rcases (hX b).1 hb with hb | hb
    · exact Nat.lt_of_lt_of_le (hok.X b hb) hsize
    · rw [hb]; exact hlt

end Go.Nx
/- Each operation does what 'stp' says. -/
namespace Go.Nx
set_option linter.unusedVariables false
set_option linter.unusedSimpArgs false

def Good (Γ : Ctx) (e : Env) (a : Act) (p : Operand) : Prop := ∀ av, evO e p = some av → concV Γ av (a.eval p)

def OpRes (Γ : Ctx) (r : Result Next) (x : AVal) (H' : List Ob) : Prop :=
  ∃ y Γ', (r = .ok (.value y) Γ'.w ∨ (r = .ok .skip Γ'.w ∧ y = undef)) ∧ Γ.Ext Γ' ∧ HeapOk Γ' H' ∧ concV Γ' x y

theorem OpRes.val {Γ : Ctx} {r : Result Next} {x : AVal} {H : List Ob} {y : Value} (hok : HeapOk Γ H) (hr : r = .ok (.value y) Γ.w) (hc : concV Γ x y) : OpRes Γ r x H :=
  ⟨y, Γ, .inl hr, .refl Γ, hok, hc⟩

theorem conc_leaves {Γ : Ctx} {v : Value} {ls : List Leaf} (h : leaves v = some ls) : concAll Γ ls v.cells.toList := by
  unfold leaves at h
  split at h
  · rename_i ha
    cases h
    refine concAll_mk (by simp) fun k l y hk hy => ?_
    rw [List.getElem?_map, hy] at hk
    cases hk
    simp only [conc, true_and]
    rw [List.all_eq_true] at ha
    exact ha y (List.mem_of_getElem? hy)
  · cases h

theorem good_const {Γ : Ctx} {e : Env} {a : Act} {v : Value} (hv : ∀ vs, v ≠ .tuple vs) : Good Γ e a (.const v) := by
  intro av h
  unfold evO at h
  cases v <;> simp only [Option.some.injEq, Option.map_eq_some_iff, reduceCtorEq] at h
  case agg cs =>
    obtain ⟨ls, h1, rfl⟩ := h
    exact ⟨cs, rfl, conc_leaves h1⟩
  all_goals subst h; simp [concV, conc, Act.eval, Value.oneCell']

theorem good_const' {Γ : Ctx} {e : Env} {a : Act} {v : Value} : Good Γ e a (.const v) := by
  cases v with
  | tuple vs => intro av h; simp [evO] at h
  | _ => exact good_const (by simp)

theorem good_func {Γ : Ctx} {e : Env} {a : Act} {f : FuncId} : Good Γ e a (.func f) := by
  intro av h
  simp [evO] at h
  subst h
  simp [concV, conc, Act.eval, concAll]

theorem good_global {Γ : Ctx} {e : Env} {a : Act} {g : Nat} : Good Γ e a (.global g) := by
  intro av h
  simp [evO] at h

theorem tk_spec {P : Program} {t : TypeId} {g : Bool} {n : Nat} (h : tk P t = some (g, n)) (w : World) : (isAgg t).run P w = .ok g w ∧ (sizeOf t).run P w = .ok n w := by
  unfold tk at h
  split at h
  · rename_i d i hd hi
    simp only [Option.some.injEq, Prod.mk.injEq] at h
    obtain ⟨h1, h2⟩ := h
    subst h1 h2
    constructor
    · cases d <;> simp [isAgg, run_underlying hd]
    · simp [sizeOf, typeInfo, hi]
  · cases h

theorem ptr_row {Γ : Ctx} {H : List Ob} (hok : HeapOk Γ H) {h ver i k : Nat} {y : Value} (hc : conc Γ (.ptr h ver i k) y) {z : Nat} {rows : List (List Leaf)} (ho : obj H h ver = some (z, rows)) {r : List Leaf} (hr : rows[i]? = some r) :
    ∃ inf b cells T, Γ.hs[h]? = some (inf, ver) ∧ inf.base = some b ∧ y = .pointer (some ⟨b, inf.off + i * inf.sz + k, none⟩) ∧ r.length = inf.sz ∧ concRow Γ b (inf.off + i * inf.sz) r ∧
      Γ.w.heap[b]? = some (.cells cells T (0, 0)) ∧ inf.off + inf.cap * inf.sz ≤ cells.size ∧ rows.length ≤ inf.cap ∧ concRows Γ b inf.sz inf.off rows ∧ inf.cap ≤ maxLen ∧ Γ.X b ∧ 0 < inf.sz ∧ inf.sz = z := by
  obtain ⟨inf, h1, hm, h2⟩ := hok.obj ho
  simp only [conc] at hc
  obtain ⟨inf', ver', p, g1, _, rfl, g3⟩ := hc
  rw [h1] at g1
  cases g1
  obtain ⟨b, hb, rfl⟩ := g3 rfl
  simp only [hb] at h2
  obtain ⟨hzz, hx, hf, hlen, hsz, cells, T, hh, hcs, hrows⟩ := h2
  have := concRows_get hrows hr
  exact ⟨inf, b, cells, T, h1, hb, rfl, this.1, this.2, hh, hcs, hlen, hrows, hm, hx, hsz, hzz⟩

/-- A pointer that may be read: its row. -/
theorem readable {Γ : Ctx} {H : List Ob} (hok : HeapOk Γ H) {p : Leaf} {y : Value} (hc : conc Γ p y) {r : List Leaf} {k : Nat}
    (hp : (∃ h ver i z rows, p = .ptr h ver i k ∧ obj H h ver = some (z, rows) ∧ rows[i]? = some r) ∨ (∃ i rows, p = .fptr rows i k ∧ rows[i]? = some r)) :
    ∃ b o, y = .pointer (some ⟨b, o + k, none⟩) ∧ concRow Γ b o r := by
  rcases hp with ⟨h, ver, i, z, rows, rfl, ho, hr⟩ | ⟨i, rows, rfl, hr⟩
  · obtain ⟨inf, b, _, _, _, _, hy, _, hrow, _⟩ := ptr_row hok hc ho hr
    exact ⟨b, _, hy, hrow⟩
  · simp only [conc] at hc
    obtain ⟨b, off, sz, rfl, _, hrows⟩ := hc
    exact ⟨b, _, rfl, (concRows_get hrows hr).2⟩

theorem ldN_spec {H : List Ob} {n : Nat} {p : Leaf} {cs : List Leaf} (h : ldN H n p = some cs) :
    ∃ r k, ((∃ h ver i z rows, p = .ptr h ver i k ∧ obj H h ver = some (z, rows) ∧ rows[i]? = some r) ∨ (∃ i rows, p = .fptr rows i k ∧ rows[i]? = some r)) ∧ k + n ≤ r.length ∧ cs = seg r k n := by
  unfold ldN at h
  split at h
  · rename_i hd ver i k
    split at h
    · rename_i z rows ho
      split at h
      · rename_i r hr
        split at h
        · rename_i hle
          cases h
          exact ⟨r, k, .inl ⟨hd, ver, i, z, rows, rfl, ho, hr⟩, hle, rfl⟩
        · cases h
      · cases h
    · cases h
  · rename_i rows i k
    split at h
    · rename_i r hr
      split at h
      · rename_i hle
        cases h
        exact ⟨r, k, .inr ⟨i, rows, rfl, hr⟩, hle, rfl⟩
      · cases h
    · cases h
  · cases h

theorem ld1_spec {H : List Ob} {p : Leaf} {l : Leaf} (h : ld1 H p = some l) :
    ∃ r k, ((∃ h ver i z rows, p = .ptr h ver i k ∧ obj H h ver = some (z, rows) ∧ rows[i]? = some r) ∨ (∃ i rows, p = .fptr rows i k ∧ rows[i]? = some r)) ∧ r[k]? = some l := by
  unfold ld1 at h
  split at h
  · rename_i hd ver i k
    split at h
    · rename_i z rows ho
      split at h
      · rename_i r hr
        exact ⟨r, k, .inl ⟨hd, ver, i, z, rows, rfl, ho, hr⟩, h⟩
      · cases h
    · cases h
  · rename_i rows i k
    split at h
    · rename_i r hr
      exact ⟨r, k, .inr ⟨i, rows, rfl, hr⟩, h⟩
    · cases h
  · cases h

theorem load_sound {P : Program} {Γ : Ctx} {H : List Ob} (hok : HeapOk Γ H) {t : TypeId} {p : Leaf} {y : Value} (hc : conc Γ p y) :
    (∀ n cs, tk P t = some (true, n) → ldN H n p = some cs → ∃ ys, (Instr.loadAt t y).run P Γ.w = .ok (.agg ys) Γ.w ∧ concAll Γ cs ys.toList) ∧
    (∀ n l, tk P t = some (false, n) → ld1 H p = some l → ∃ z, (Instr.loadAt t y).run P Γ.w = .ok z Γ.w ∧ conc Γ l z) := by
  constructor
  · intro n cs ht hl
    obtain ⟨r, k, hp, hle, rfl⟩ := ldN_spec hl
    obtain ⟨b, o, rfl, hrow⟩ := readable hok hc hp
    obtain ⟨g1, g2⟩ := tk_spec ht Γ.w
    obtain ⟨ys, h1, h2⟩ := concRow_cells (concRow_take (concRow_drop hrow k) n)
    have hlen : ys.length = n := by rw [concAll_length h1]; simp; omega
    refine ⟨ys.toArray, ?_, by simpa [seg] using h1⟩
    have hlc := run_loadCells_list (P := P) Γ.w ⟨b, o + k, none⟩ ys (fun j v hj => by rw [add_off]; exact h2 j v hj)
    rw [hlen] at hlc
    simp [Instr.loadAt, Instr.sureAddr, loadVar, g1, g2, hlc]
  · intro n l ht hl
    obtain ⟨r, k, hp, hk⟩ := ld1_spec hl
    obtain ⟨b, o, rfl, hrow⟩ := readable hok hc hp
    obtain ⟨g1, _⟩ := tk_spec ht Γ.w
    obtain ⟨z, h1, h2⟩ := concRow_get hrow hk
    refine ⟨z, ?_, h2⟩
    simp [Instr.loadAt, Instr.sureAddr, loadVar, g1, run_load, h1]

theorem cells_spec {Γ : Ctx} {v : AVal} {y : Value} (hc : concV Γ v y) {cs : List Leaf} (h : v.cells = some cs) : concAll Γ cs y.cells.toList := by
  cases v with
  | c l =>
    simp only [AVal.cells, Option.some.injEq] at h
    subst h
    simp only [concV] at hc
    have h1 := conc_one hc
    have : y.cells = #[y] := by cases y <;> first | rfl | (simp [Value.oneCell'] at h1)
    rw [this]
    simp [concAll, hc]
  | agg ls =>
    simp only [AVal.cells, Option.some.injEq] at h
    subst h
    simp only [concV] at hc
    obtain ⟨ys, rfl, h2⟩ := hc
    exact h2
  | tup vs => simp [AVal.cells] at h

end Go.Nx
/- A store; an append. -/
namespace Go.Nx
set_option linter.unusedVariables false
set_option linter.unusedSimpArgs false

theorem putSeg_length {α : Type} : ∀ (cs r : List α) (k : Nat), (putSeg r k cs).length = r.length
  | [], r, k => rfl
  | c :: cs, r, k => by simp [putSeg, putSeg_length cs]

theorem putSeg_get {α : Type} : ∀ (cs r : List α) (k j : Nat), k + cs.length ≤ r.length → (putSeg r k cs)[j]? = if k ≤ j ∧ j < k + cs.length then cs[j - k]? else r[j]?
  | [], r, k, j, _ => by simp [putSeg]; omega
  | c :: cs, r, k, j, h => by
    simp only [List.length_cons] at h
    rw [putSeg, putSeg_get cs (r.set k c) (k + 1) j (by simp; omega)]
    by_cases h1 : k + 1 ≤ j ∧ j < k + 1 + cs.length
    · rw [if_pos h1, if_pos (by simp; omega)]
      rw [show j - k = (j - (k + 1)) + 1 by omega]
      simp
    · rw [if_neg h1]
      by_cases h2 : j = k
      · subst h2
        rw [if_pos (by simp)]
        rw [List.getElem?_set_self (by omega)]
        simp
      · rw [List.getElem?_set_ne (by omega), if_neg (by simp; omega)]

/-- Cells of a block, a run of them replaced. -/
def spliced (cur : List Value) (o : Nat) (vs : List Value) : List Value := cur.take o ++ vs ++ cur.drop (o + vs.length)

theorem spliced_length {cur : List Value} {o : Nat} {vs : List Value} (h : o + vs.length ≤ cur.length) : (spliced cur o vs).length = cur.length := by
  simp [spliced]; omega

theorem spliced_get {cur : List Value} {o : Nat} {vs : List Value} (h : o + vs.length ≤ cur.length) (j : Nat) : (spliced cur o vs)[j]? = if o ≤ j ∧ j < o + vs.length then vs[j - o]? else cur[j]? := by
  unfold spliced
  by_cases h1 : j < o
  · rw [List.getElem?_append_left (by simp; omega), List.getElem?_append_left (by simp; omega), List.getElem?_take, if_pos h1, if_neg (by omega)]
  · by_cases h2 : j < o + vs.length
    · rw [List.getElem?_append_left (by simp; omega), List.getElem?_append_right (by simp; omega), if_pos ⟨by omega, h2⟩]
      simp only [List.length_take]
      rw [Nat.min_eq_left (by omega)]
    · rw [List.getElem?_append_right (by simp; omega), if_neg (by omega), List.getElem?_drop]
      congr 1
      simp
      omega

theorem run_storeVar_at {P : Program} {w : World} {b o : Nat} {cells : Array Value} {T : TypeId} (hh : w.heap[b]? = some (.cells cells T (0, 0))) {t : TypeId} {n : Nat} {y : Value}
    (ht : (sizeOf t).run P w = .ok n w) (hn : y.cells.size = n) (h1 : ∀ v ∈ y.cells.toList, v.oneCell' = true) (hle : o + n ≤ cells.size) :
    (Instr.storeAt t (.pointer (some ⟨b, o, none⟩)) y).run P w = .ok () (w.setRow b (spliced cells.toList o y.cells.toList).toArray) := by
  have h := run_storeCells_at P b o T y.cells.toList 0 cells w hh (by simp; omega) h1
  simp [Instr.storeAt, Instr.sureAddr, storeVar, ht, hn, h, spliced]

/-- The context behind a store, or an append in place. -/
def Ctx.turn (Γ : Ctx) (w : World) (h : Nat) (inf : Info) (ver b : Nat) : Ctx := { w := w, F := Γ.F, X := fun c => Γ.X c ∨ c = b, hs := Γ.hs.set h (inf, ver) }

theorem Le_turn {Γ : Ctx} {h : Nat} {inf inf0 : Info} {ver ver0 b : Nat} {w : World} (h0 : Γ.hs[h]? = some (inf0, ver0)) (hv : ver0 < ver ∨ (ver0 = ver ∧ inf = inf0)) (hm : ∀ b, Γ.F b → w.heap[b]? = Γ.w.heap[b]?) :
    Γ.Le (Γ.turn w h inf ver b) where
  F _ h := h
  mem := hm
  hs n i v hn := by
    by_cases he : n = h
    · subst he
      rw [h0] at hn
      cases hn
      refine ⟨inf, ver, ?_, ?_, ?_⟩
      · simp only [Ctx.turn]
        rw [List.getElem?_set_self (List.getElem?_eq_some_iff.1 h0).1]
      · omega
      · rcases hv with hv | ⟨_, hv⟩
        · intro e; omega
        · intro _; exact hv
    · refine ⟨i, v, ?_, Nat.le_refl _, fun _ => rfl⟩
      simp only [Ctx.turn]
      rw [List.getElem?_set_ne (fun e => he e.symm)]
      exact hn

theorem store_sound {P : Program} {Γ : Ctx} {H : List Ob} (hok : HeapOk Γ H) {t : TypeId} {h ver i k n zz : Nat} {y z : Value} {g : Bool} (hc : conc Γ (.ptr h ver i k) y) (ht : tk P t = some (g, n))
    {rows : List (List Leaf)} {r cs : List Leaf} (ho : obj H h ver = some (zz, rows)) (hr : rows[i]? = some r) (hn : cs.length = n) (hle : k + n ≤ r.length) (hz : concAll Γ cs z.cells.toList) :
    ∃ Γ', (Instr.storeAt t y z).run P Γ.w = .ok () Γ'.w ∧ Γ.Ext Γ' ∧ HeapOk Γ' (H.set h (.live ver zz (rows.set i (putSeg r k cs)))) := by
  obtain ⟨inf, b, cells, T, hin, hb, rfl, hrl, hrow, hh, hcs, hrc, hrows, hm, hx, hsz, hzz⟩ := ptr_row hok hc ho hr
  have hzl : z.cells.toList.length = n := by rw [concAll_length hz, hn]
  have hir : i < rows.length := (List.getElem?_eq_some_iff.1 hr).1
  have hi1 : (i + 1) * inf.sz ≤ inf.cap * inf.sz := Nat.mul_le_mul_right _ (by omega)
  have hi2 : (i + 1) * inf.sz = i * inf.sz + inf.sz := by rw [Nat.add_mul, Nat.one_mul]
  have hfit : inf.off + i * inf.sz + k + n ≤ cells.size := by omega
  have hrun := run_storeVar_at (P := P) (t := t) (y := z) hh (tk_spec ht Γ.w).2 (by simpa using hzl) (concAll_one hz) hfit
  have hnF : ¬ Γ.F b := by
    obtain ⟨i2, g1, _, g2⟩ := hok.obj ho
    rw [hin] at g1
    cases g1
    simp only [hb] at g2
    exact g2.2.2.1
  have hbl := hok.X b hx
  have hheap' : (Γ.w.setRow b (spliced cells.toList (inf.off + i * inf.sz + k) z.cells.toList).toArray).heap[b]? = some (.cells (spliced cells.toList (inf.off + i * inf.sz + k) z.cells.toList).toArray T (0, 0)) := setRow_heap Γ.w b cells _ T (0, 0) hh
  have hoth : ∀ c, c ≠ b → (Γ.w.setRow b (spliced cells.toList (inf.off + i * inf.sz + k) z.cells.toList).toArray).heap[c]? = Γ.w.heap[c]? := fun c hcb => setRow_other Γ.w b c _ hcb
  have hle' : Γ.Le (Γ.turn (Γ.w.setRow b (spliced cells.toList (inf.off + i * inf.sz + k) z.cells.toList).toArray) h inf ver b) :=
    Le_turn hin (.inr ⟨rfl, rfl⟩) (fun c hF => hoth c (fun e => hnF (e ▸ hF)))
  refine ⟨_, hrun, ⟨hle', rfl, rfl, rfl, by simp [Ctx.turn], fun c _ hX => hoth c (fun e => hX (e ▸ hx)), fun c hF => .inl hF, fun c hX => ?_⟩, ?_⟩
  · rcases hX with hX | hX
    · exact .inl hX
    · exact .inl (hX ▸ hx)
  · have hsl : (spliced cells.toList (inf.off + i * inf.sz + k) z.cells.toList).length = cells.size := by
      rw [spliced_length (by simp [hzl] at *; omega)]; simp
    refine HeapOk_turn (Γ' := Γ.turn (Γ.w.setRow b (spliced cells.toList (inf.off + i * inf.sz + k) z.cells.toList).toArray) h inf ver b) hok (obj_some ho) hin hle' rfl rfl (fun c => Iff.rfl) (by simp [Ctx.turn]) hb (fun c _ hcb => hoth c hcb) (.inl hb) (by simpa [Ctx.turn] using hbl)
      hm (by simpa using hrc) hsz hzz _ T hheap' (by simp [hsl]; exact hcs) ?_
    refine concRows_mk fun i' r' hi' => ?_
    have key : ∀ j, (Γ.turn (Γ.w.setRow b (spliced cells.toList (inf.off + i * inf.sz + k) z.cells.toList).toArray) h inf ver b).w.cell? ⟨b, j, none⟩ = if inf.off + i * inf.sz + k ≤ j ∧ j < inf.off + i * inf.sz + k + n then z.cells.toList[j - (inf.off + i * inf.sz + k)]? else cells[j]? := by
      intro j
      rw [show (Γ.turn (Γ.w.setRow b (spliced cells.toList (inf.off + i * inf.sz + k) z.cells.toList).toArray) h inf ver b).w = Γ.w.setRow b (spliced cells.toList (inf.off + i * inf.sz + k) z.cells.toList).toArray from rfl, cell_of hheap']
      have := spliced_get (cur := cells.toList) (o := inf.off + i * inf.sz + k) (vs := z.cells.toList) (by rw [hzl]; simpa using hfit) j
      rw [hzl] at this
      simpa using this
    by_cases he : i' = i
    · subst he
      rw [List.getElem?_set_self hir] at hi'
      cases hi'
      refine ⟨by rw [putSeg_length, hrl], concRow_mk fun k' l hk' => ?_⟩
      rw [key]
      rw [putSeg_get _ _ _ _ (by omega)] at hk'
      split at hk'
      · rename_i hin'
        obtain ⟨v, g1, g2⟩ := concAll_get hz hk'
        refine ⟨v, ?_, conc_mono hle' _ _ g2⟩
        rw [if_pos (by omega), show inf.off + i' * inf.sz + k' - (inf.off + i' * inf.sz + k) = k' - k by omega]
        exact g1
      · rename_i hout
        obtain ⟨v, g1, g2⟩ := concRow_get hrow hk'
        have hk'l : k' < r.length := (List.getElem?_eq_some_iff.1 hk').1
        refine ⟨v, ?_, conc_mono hle' _ _ g2⟩
        rw [if_neg (by omega), ← cell_of hh]
        exact g1
    · rw [List.getElem?_set_ne (fun e => he e.symm)] at hi'
      obtain ⟨g1, g2⟩ := concRows_get hrows hi'
      refine ⟨g1, concRow_of hle' b _ r' (fun j a1 a2 => ?_) g2⟩
      rw [key, if_neg ?_, ← cell_of hh]
      rw [g1] at a2
      intro hcon
      rcases Nat.lt_or_gt_of_ne he with hlt | hlt
      · have : (i' + 1) * inf.sz ≤ i * inf.sz := Nat.mul_le_mul_right _ (by omega)
        rw [Nat.add_mul, Nat.one_mul] at this
        omega
      · have : (i + 1) * inf.sz ≤ i' * inf.sz := Nat.mul_le_mul_right _ (by omega)
        omega

def Ctx.drew (Γ : Ctx) : Ctx := { Γ with w := Γ.w.drew }

theorem Le_drew (Γ : Ctx) : Γ.Le Γ.drew := ⟨fun _ h => h, fun _ _ => rfl, fun _ inf ver h => ⟨inf, ver, h, Nat.le_refl _, fun _ => rfl⟩⟩
theorem Ext_drew (Γ : Ctx) : Γ.Ext Γ.drew := ⟨Le_drew Γ, rfl, rfl, rfl, Nat.le_refl _, fun _ _ _ => rfl, fun _ h => .inl h, fun _ h => .inl h⟩
theorem HeapOk_drew {Γ : Ctx} {H : List Ob} (hok : HeapOk Γ H) : HeapOk Γ.drew H :=
  ⟨hok.len, fun h o ho => (hok.ob h o ho).keep (Le_drew Γ) (fun _ _ _ _ => rfl) (fun _ _ _ _ _ _ _ _ hx hf => ⟨rfl, hf, hx⟩), hok.apart, hok.F, hok.X⟩

/-- What a slice shows: its elements' cells. -/
theorem view_spec {Γ : Ctx} {H : List Ob} (hok : HeapOk Γ H) {x : Leaf} {y : Value} (hc : conc Γ x y) {ys : List (List Leaf)} (hv : view H x = some ys) :
    (y = .slice none 0 0 ∧ ys = []) ∨ ∃ a cap, y = .slice (some a) ys.length cap ∧ ys.length ≤ cap ∧ (ys = [] ∨ ∃ b off sz, a = ⟨b, off, none⟩ ∧ concRows Γ b sz off ys) := by
  unfold view at hv
  split at hv
  · cases hv
    simp only [conc] at hc
    rcases hc with hc | ⟨a, cap, sz, rfl, h2, h3⟩
    · exact .inl hc
    · refine .inr ⟨a, cap, rfl, h2, ?_⟩
      rcases h3 with h3 | ⟨h3, _, h5⟩
      · exact .inl h3
      · obtain ⟨b, o, s⟩ := a
        simp only at h3 h5
        subst h3
        exact .inr ⟨b, o, sz, rfl, h5⟩
  · cases hv
    simp only [conc] at hc
    obtain ⟨a, cap, sz, rfl, h2, h3⟩ := hc
    refine .inr ⟨a, cap, rfl, h2, ?_⟩
    rcases h3 with h3 | ⟨h3, _, h5⟩
    · exact .inl h3
    · obtain ⟨b, o, s⟩ := a
      simp only at h3 h5
      subst h3
      exact .inr ⟨b, o, sz, rfl, h5⟩
  · cases hv
    simp only [conc] at hc
    exact .inl ⟨hc.1, rfl⟩
  · rename_i h ver lo len
    split at hv
    · rename_i z rows ho
      split at hv
      · rename_i hle
        cases hv
        simp only [conc] at hc
        obtain ⟨inf, ver', a, cap, h1, _, rfl, h3⟩ := hc
        obtain ⟨inf2, g1, _, g2⟩ := hok.obj ho
        rw [h1] at g1
        cases g1
        have hl : ((rows.drop lo).take len).length = len := by simp; omega
        rcases h3 rfl with ⟨hb, rfl, rfl, rfl, rfl⟩ | ⟨b, a', hb, rfl, rfl, hlc, ha⟩
        · simp
        · refine .inr ⟨a', _, by rw [hl], by rw [hl]; omega, ?_⟩
          by_cases hlen : len = 0
          · subst hlen; simp
          · right
            simp only [hb] at g2
            obtain ⟨_, _, _, _, _, _, _, _, _, hrows⟩ := g2
            refine ⟨b, _, inf.sz, ha (by omega), ?_⟩
            exact concRows_take (concRows_drop hrows lo) len
      · cases hv
    · cases hv
  · cases hv

theorem flatten_length {rows : List (List Leaf)} {sz : Nat} (h : ∀ r ∈ rows, r.length = sz) : rows.flatten.length = rows.length * sz := by
  induction rows with
  | nil => simp
  | cons r rs ih =>
    simp only [List.flatten_cons, List.length_append, List.length_cons]
    rw [ih (fun x hx => h x (by simp [hx])), h r (by simp), Nat.add_mul]
    omega

theorem flatten_inj_len {Γ : Ctx} {b sz off : Nat} {rows : List (List Leaf)} (h : concRows Γ b sz off rows) : ∀ r ∈ rows, r.length = sz := by
  intro r hr
  obtain ⟨i, hi⟩ := List.getElem?_of_mem hr
  exact (concRows_get h hi).1

/-- Where what is appended lies, as the builtin asks. -/
theorem source_spec {Γ : Ctx} {ys : List (List Leaf)} {y : Value} {size : Nat} (hl : ∀ r ∈ ys, r.length = size)
    (h : (y = .slice none 0 0 ∧ ys = []) ∨ ∃ a cap, y = .slice (some a) ys.length cap ∧ ys.length ≤ cap ∧ (ys = [] ∨ ∃ b off sz, a = ⟨b, off, none⟩ ∧ concRows Γ b sz off ys)) :
    ∃ news, concAll Γ ys.flatten news ∧ news.length = ys.length * size ∧ (y = .slice none 0 0 ∧ ys = [] ∨ ∃ a cap, y = .slice (some a) ys.length cap ∧ ∀ (j : Nat) (v : Value), news[j]? = some v → Γ.w.cell? (a.add j) = some v) := by
  rcases h with ⟨rfl, rfl⟩ | ⟨a, cap, rfl, h2, h3⟩
  · exact ⟨[], by simp [concAll], by simp, .inl ⟨rfl, rfl⟩⟩
  · rcases h3 with rfl | ⟨b, off, sz, rfl, hrows⟩
    · exact ⟨[], by simp [concAll], by simp, .inr ⟨a, cap, rfl, by simp⟩⟩
    · obtain ⟨news, g1, g2, g3⟩ := concRows_cells hrows
      refine ⟨news, g1, ?_, .inr ⟨_, cap, rfl, fun j v hj => by rw [add_off]; exact g3 j v hj⟩⟩
      rw [concAll_length g1, flatten_length hl]

end Go.Nx
/- Append. -/
namespace Go.Nx
set_option linter.unusedVariables false
set_option linter.unusedSimpArgs false

theorem se_spec {P : Program} {t e : TypeId} {size bytes : Nat} {z : List Leaf} (h : se P t = some (e, size, bytes, z)) :
    P.underlying t = some (.slice e) ∧ ∃ i zv, P.info? e = some i ∧ i.size = size ∧ i.bytes = bytes ∧ i.zero = some zv ∧ zv.cells.size = size ∧ leaves zv = some z := by
  unfold se at h
  split at h
  · rename_i e' hu
    split at h
    · rename_i i z' hi hz
      simp only [Option.some.injEq, Prod.mk.injEq] at h
      obtain ⟨rfl, rfl, rfl, rfl⟩ := h
      unfold zc at hz
      rw [hi] at hz
      simp only at hz
      split at hz
      · rename_i zv hzv
        split at hz
        · rename_i hs
          exact ⟨hu, i, zv, hi, rfl, rfl, hzv, hs, hz⟩
        · cases hz
      · cases hz
    · cases h
  · cases h

/-- What is appended: nothing, or what lies somewhere. -/
def Src (w : World) (m : Nat) (news : List Value) (x : Value) : Prop :=
  (x = .slice none 0 0 ∧ m = 0 ∧ news = []) ∨ ∃ a c, x = .slice (some a) m c ∧ ∀ (j : Nat) (v : Value), news[j]? = some v → w.cell? (a.add j) = some v

theorem run_appended {P : Program} {w : World} {m size : Nat} {news : List Value} {x : Value} (hs : Src w m news x) (hl : news.length = m * size) :
    (Builtin.lenOf x).run P w = .ok m w ∧ ∀ w', w'.heap = w.heap → (Builtin.firstCells size m x).run P w' = .ok news.toArray w' := by
  rcases hs with ⟨rfl, rfl, rfl⟩ | ⟨a, c, rfl, hc⟩
  · exact ⟨by simp [Builtin.lenOf], fun w' _ => by simp [Builtin.firstCells]⟩
  · refine ⟨by simp [Builtin.lenOf], fun w' hw => run_firstCells_some (P := P) w' size m a m c news hl fun j v hj => ?_⟩
    rw [← hc j v hj]
    simp [World.cell?, hw]

theorem run_append_fits {P : Program} {w : World} {t ty e : TypeId} {i : TypeInfo} (ht : P.underlying t = some (.slice e)) (hi : P.info? e = some i) {m : Nat} {news : List Value} {x : Value} (hs : Src w m news x)
    (hl : news.length = m * i.size) (h1 : ∀ v ∈ news, v.oneCell' = true) (base : Option Addr) (n c : Nat) (hroom : n + m ≤ c)
    (hb : m = 0 ∨ ∃ b o cells T, base = some ⟨b, o, none⟩ ∧ w.heap[b]? = some (.cells cells T (0, 0)) ∧ o + n * i.size + news.length ≤ cells.size) :
    ∃ w', (Builtin.append_ #[t, t] ty #[.slice base n c, x]).run P w = .ok (.slice base (n + m) c) w' ∧
      ((m = 0 ∧ w' = w) ∨ ∃ b o cells T, base = some ⟨b, o, none⟩ ∧ w.heap[b]? = some (.cells cells T (0, 0)) ∧ o + n * i.size + news.length ≤ cells.size ∧ w' = w.setRow b (spliced cells.toList (o + n * i.size) news).toArray) := by
  obtain ⟨g1, g2⟩ := run_appended (P := P) hs hl
  have g3 := g2 w rfl
  rcases hb with rfl | ⟨b, o, cells, T, rfl, hh, hfit⟩
  · have hn : news = [] := List.eq_nil_of_length_eq_zero (by simpa using hl)
    subst hn
    refine ⟨w, ?_, .inl ⟨rfl, rfl⟩⟩
    cases base with
    | none => 
      simp only [Nat.add_zero] at hroom
      simp [Builtin.append_, run_underlying ht, sizeOf, typeInfo, hi, g1, hroom, g3]
    | some a => 
      simp only [Nat.add_zero] at hroom
      simp [Builtin.append_, run_underlying ht, sizeOf, typeInfo, hi, g1, hroom, g3, storeCells]
  · refine ⟨_, ?_, .inr ⟨b, o, cells, T, rfl, hh, hfit, rfl⟩⟩
    have hst := run_storeCells_at P b (o + n * i.size) T news 0 cells w hh (by simpa using hfit) h1
    simp only [Nat.add_zero] at hst
    simp [Builtin.append_, run_underlying ht, sizeOf, typeInfo, hi, g1, hroom, g3, add_off, hst, spliced]

theorem run_append_grows {P : Program} {w : World} {t ty e : TypeId} {i : TypeInfo} {z : Value} (ht : P.underlying t = some (.slice e)) (hi : P.info? e = some i) (hz : i.zero = some z) {m : Nat} {news : List Value} {x : Value} (hs : Src w m news x)
    (hl : news.length = m * i.size) (base : Option Addr) (n c : Nat) (olds : List Value) (hlo : olds.length = n * i.size) (hold : olds = [] ∨ ∃ a, base = some a ∧ ∀ (j : Nat) (v : Value), olds[j]? = some v → w.cell? (a.add j) = some v)
    (hg : c < n + m) (h63 : n + m ≤ maxLen) (hbytes : (n + m) * i.bytes ≤ 140737488355328) :
    (Builtin.append_ #[t, t] ty #[.slice base n c, x]).run P w = .ok (.slice (some ⟨w.heap.size, 0, none⟩) (n + m) (grownCap w (n + m) c e))
      (w.drew.alloc (.cells ((olds ++ news).toArray ++ Builtin.zeroCells z.cells (grownCap w (n + m) c e - (n + m))) e)) := by
  obtain ⟨g1, g2⟩ := run_appended (P := P) hs hl
  have g3 := g2 w.drew rfl
  have hn : ¬ (n + m ≤ c) := by omega
  have h63' : ¬ (9223372036854775807 < ((n : Int) + (m : Int))) := by unfold maxLen at h63; omega
  have hfit := growslice_fits hg hbytes
  have h48' : ¬ (281474976710656 < Builtin.nextslicecap (n + m) c * i.bytes) := by omega
  have hfo : (Builtin.firstCells i.size n (.slice base n c)).run P w.drew = .ok olds.toArray w.drew := by
    rcases hold with rfl | ⟨a, rfl, hc⟩
    · have h0 : n * i.size = 0 := by simpa using hlo.symm
      cases base with
      | none => simp [Builtin.firstCells]
      | some a => simp [Builtin.firstCells, loadCells, h0, loadCellsFrom]
    · exact run_firstCells_some (P := P) w.drew i.size n a n c olds hlo (by simpa using hc)
  simp [Builtin.append_, run_underlying ht, sizeOf, typeInfo, zeroValue, hi, hz, g1, hn, h63', h48', Question.forced, g3, hfo, newRow, grownCap]
  congr 2
  apply Array.ext'
  simp [List.append_assoc]

theorem Src.of {Γ : Ctx} {ys : List (List Leaf)} {news : List Value} {x : Value} {size : Nat} (hl : news.length = ys.length * size)
    (h : x = .slice none 0 0 ∧ ys = [] ∨ ∃ a cap, x = .slice (some a) ys.length cap ∧ ∀ (j : Nat) (v : Value), news[j]? = some v → Γ.w.cell? (a.add j) = some v) : Src Γ.w ys.length news x := by
  rcases h with ⟨rfl, rfl⟩ | ⟨a, cap, rfl, h⟩
  · exact .inl ⟨rfl, rfl, List.eq_nil_of_length_eq_zero (by simpa using hl)⟩
  · exact .inr ⟨a, cap, rfl, h⟩

theorem get_append_pre {xs zs : List Value} {ys : Array Value} (h : ys = xs.toArray ++ zs.toArray) : ∀ (k : Nat) (y : Value), xs[k]? = some y → ys[k]? = some y := by
  intro k y hk
  subst h
  have hlt : k < xs.length := (List.getElem?_eq_some_iff.1 hk).1
  simp [List.getElem?_append_left hlt, hk]

/-- The context in which an object's version goes on, and nothing else. -/
def Ctx.bump (Γ : Ctx) (h : Nat) (inf : Info) (ver : Nat) : Ctx := { Γ with hs := Γ.hs.set h (inf, ver) }

theorem Le_bump {Γ : Ctx} {h : Nat} {inf inf0 : Info} {ver ver0 : Nat} (h0 : Γ.hs[h]? = some (inf0, ver0)) (hv : ver0 < ver) : Γ.Le (Γ.bump h inf ver) where
  F _ h := h
  mem _ _ := rfl
  hs n i v hn := by
    by_cases he : n = h
    · subst he
      rw [h0] at hn
      cases hn
      refine ⟨inf, ver, ?_, by omega, fun e => by omega⟩
      simp only [Ctx.bump]
      rw [List.getElem?_set_self (List.getElem?_eq_some_iff.1 h0).1]
    · refine ⟨i, v, ?_, Nat.le_refl _, fun _ => rfl⟩
      simp only [Ctx.bump]
      rw [List.getElem?_set_ne (fun e => he e.symm)]
      exact hn

theorem HeapOk_bump {Γ : Ctx} {H : List Ob} (hok : HeapOk Γ H) {h ver z z' : Nat} {rows : List (List Leaf)} {inf : Info} (ho : H[h]? = some (.live ver z rows)) (hin : Γ.hs[h]? = some (inf, ver)) (hb : inf.base = none) :
    HeapOk (Γ.bump h inf (ver + 1)) (H.set h (.live (ver + 1) z' [])) := by
  have hle := Le_bump (Γ := Γ) (inf := inf) (ver := ver + 1) hin (by omega)
  have hhl : h < H.length := (List.getElem?_eq_some_iff.1 ho).1
  have hhs : h < Γ.hs.length := (List.getElem?_eq_some_iff.1 hin).1
  refine ⟨by simp [Ctx.bump, hok.len], fun n o hn => ?_, fun n n' v1 v2 z1 z2 r1 r2 i1 i2 bb q1 q2 q3 q4 q5 q6 => ?_, hok.F, hok.X⟩
  · by_cases he : n = h
    · subst he
      rw [List.getElem?_set_self hhl] at hn
      cases hn
      obtain ⟨i2, g1, g2, _⟩ := hok.ob n _ ho
      rw [hin] at g1
      cases g1
      exact ⟨inf, by simp [Ctx.bump, hhs], g2, by simp [hb]⟩
    · rw [List.getElem?_set_ne (fun e => he e.symm)] at hn
      exact (hok.ob n o hn).keep hle (fun _ _ _ _ => by simp only [Ctx.bump]; rw [List.getElem?_set_ne (fun e => he e.symm)]) (fun _ _ _ _ _ _ _ _ hx hf => ⟨rfl, hf, hx⟩)
  · simp only [Ctx.bump] at q3 q4
    by_cases e1 : n = h
    · subst e1
      rw [List.getElem?_set_self hhs] at q3
      cases q3
      rw [hb] at q5
      cases q5
    · by_cases e2 : n' = h
      · subst e2
        rw [List.getElem?_set_self hhs] at q4
        cases q4
        rw [hb] at q6
        cases q6
      · rw [List.getElem?_set_ne (fun e => e1 e.symm)] at q1 q3
        rw [List.getElem?_set_ne (fun e => e2 e.symm)] at q2 q4
        exact hok.apart n n' v1 v2 z1 z2 r1 r2 i1 i2 bb q1 q2 q3 q4 q5 q6

/-- Behind an append that took a new block: the object lies there now. -/
theorem HeapOk_moved {Γ : Ctx} {H : List Ob} (hok : HeapOk Γ H) {h ver z : Nat} {rows new : List (List Leaf)} {inf : Info} (ho : H[h]? = some (.live ver z rows)) (hin : Γ.hs[h]? = some (inf, ver))
    (cells : Array Value) (T : TypeId) (cap sz : Nat) (hcap : cap ≤ maxLen) (hrc : new.length ≤ cap) (hsz : 0 < sz) (hsize : cap * sz ≤ cells.size) (hl : ∀ r ∈ new, r.length = sz)
    (ys : List Value) (hys : concAll Γ new.flatten ys) (hpre : ∀ (k : Nat) (y : Value), ys[k]? = some y → cells[k]? = some y) :
    Γ.Ext (Γ.turn (Γ.w.alloc (.cells cells T)) h ⟨some Γ.w.heap.size, 0, cap, sz⟩ (ver + 1) Γ.w.heap.size) ∧
    HeapOk (Γ.turn (Γ.w.alloc (.cells cells T)) h ⟨some Γ.w.heap.size, 0, cap, sz⟩ (ver + 1) Γ.w.heap.size) (H.set h (.live (ver + 1) sz new)) := by
  have hnew : (Γ.w.alloc (.cells cells T)).heap[Γ.w.heap.size]? = some (.cells cells T (0, 0)) := heap_alloc_new Γ.w _
  have hle : Γ.Le (Γ.turn (Γ.w.alloc (.cells cells T)) h ⟨some Γ.w.heap.size, 0, cap, sz⟩ (ver + 1) Γ.w.heap.size) := Le_turn hin (.inl (by omega)) (fun b hb => heap_alloc_old Γ.w _ b (hok.F b hb))
  have hrows : concRows (Γ.turn (Γ.w.alloc (.cells cells T)) h ⟨some Γ.w.heap.size, 0, cap, sz⟩ (ver + 1) Γ.w.heap.size) Γ.w.heap.size sz 0 new := by
    -- the new block, seen in the context with one object more, then forgotten
    have h0 := HeapOk_alloc hok cells T cap sz new hcap hrc hsz hsize hl ys hys hpre
    have h1 := h0.ob H.length (.live 0 sz new) (by simp)
    obtain ⟨i2, g1, _, g2⟩ := h1
    simp only [Ctx.alloc, hok.len, List.getElem?_append_right (Nat.le_refl _), Nat.sub_self, List.getElem?_cons_zero, Option.some.injEq, Prod.mk.injEq, and_true] at g1
    subst g1
    have key : ∀ (rs : List (List Leaf)) (off : Nat) (zs : List Value), (∀ r ∈ rs, r.length = sz) → concAll (Γ.turn (Γ.w.alloc (.cells cells T)) h ⟨some Γ.w.heap.size, 0, cap, sz⟩ (ver + 1) Γ.w.heap.size) rs.flatten zs → (∀ (k : Nat) (y : Value), zs[k]? = some y → cells[off + k]? = some y) →
        concRows (Γ.turn (Γ.w.alloc (.cells cells T)) h ⟨some Γ.w.heap.size, 0, cap, sz⟩ (ver + 1) Γ.w.heap.size) Γ.w.heap.size sz off rs := by
      intro rs
      induction rs with
      | nil => intro off zs _ _ _; simp [concRows]
      | cons r rs ih =>
        intro off zs hlen hz hc
        simp only [concRows]
        have hr := hlen r (by simp)
        have h1 := concAll_take hz r.length
        have h2 := concAll_drop hz r.length
        simp only [List.flatten_cons, List.take_left, List.drop_left] at h1 h2
        refine ⟨hr, concRow_mk fun k l hk => ?_, ih (off + sz) _ (fun x hx => hlen x (by simp [hx])) h2 fun k y hk => ?_⟩
        · obtain ⟨y, g1, g2⟩ := concAll_get h1 hk
          refine ⟨y, ?_, g2⟩
          rw [show (Γ.turn (Γ.w.alloc (.cells cells T)) h ⟨some Γ.w.heap.size, 0, cap, sz⟩ (ver + 1) Γ.w.heap.size).w = Γ.w.alloc (.cells cells T) from rfl, cell_of hnew]
          rw [List.getElem?_take] at g1
          split at g1
          · exact hc k y g1
          · cases g1
        · rw [List.getElem?_drop] at hk
          have := hc _ y hk
          rwa [show off + sz + k = off + (r.length + k) by omega]
    exact key new 0 ys hl (concAll_mono hle _ _ hys) (fun k y hk => by simpa using hpre k y hk)
  refine ⟨⟨hle, rfl, rfl, rfl, by simp [Ctx.turn], fun b hb _ => heap_alloc_old Γ.w _ b hb, fun _ h => .inl h, fun b hb => ?_⟩, ?_⟩
  · rcases hb with hb | hb
    · exact .inl hb
    · exact .inr (by omega)
  · exact HeapOk_turn (Γ' := Γ.turn (Γ.w.alloc (.cells cells T)) h ⟨some Γ.w.heap.size, 0, cap, sz⟩ (ver + 1) Γ.w.heap.size) hok ho hin hle rfl rfl (fun _ => Iff.rfl) (by simp [Ctx.turn]) rfl (fun b hb _ => heap_alloc_old Γ.w _ b hb) (.inr rfl) (by simp [Ctx.turn]) hcap hrc hsz rfl cells T hnew (by simpa using hsize) hrows

theorem wrap_i64 {n : Int} (h1 : -9223372036854775808 ≤ n) (h2 : n < 9223372036854775808) : IntKind.i64.wrap n = n := by
  have hb : (2 : Int) ^ IntKind.i64.bits = 18446744073709551616 := rfl
  have hm := Int.emod_nonneg n (b := 18446744073709551616) (by decide)
  unfold IntKind.wrap
  have hb2 : (2 : Int) ^ (IntKind.i64.bits - 1) = 9223372036854775808 := rfl
  have hs : IntKind.i64.signed = true := rfl
  simp only [hb, hb2, hs, Bool.true_and, decide_eq_true_eq]
  split <;> omega
theorem zeroCells_rows (z : Array Value) (n : Nat) : (Builtin.zeroCells z n).toList = (List.replicate n z.toList).flatten := by
  unfold Builtin.zeroCells
  rcases Nat.eq_zero_or_pos z.size with h0 | h0
  · have : z = #[] := by simpa using h0
    subst this
    simp
  · apply List.ext_getElem?
    intro i
    simp only [Array.toList_map, Array.toList_range, List.getElem?_map]
    induction n generalizing i with
    | zero => simp
    | succ n ih =>
      rw [List.replicate_succ, List.flatten_cons]
      by_cases hi : i < z.size
      · rw [List.getElem?_append_left (by simpa using hi), List.getElem?_range (by rw [Nat.add_mul]; omega)]
        simp [Nat.mod_eq_of_lt hi, hi]
      · rw [List.getElem?_append_right (by simpa using hi), Array.length_toList, ← ih (i - z.size)]
        by_cases hlt : i < (n + 1) * z.size
        · rw [List.getElem?_range hlt, List.getElem?_range (by rw [Nat.add_mul] at hlt; omega)]
          simp only [Option.map_some]
          rw [Nat.mod_eq_sub_mod (by omega)]
        · rw [List.getElem?_eq_none (by simp; omega), List.getElem?_eq_none (by rw [Nat.add_mul] at hlt; simp; omega)]

theorem concAll_rep {Γ : Ctx} {zl : List Leaf} {zs : List Value} (h : concAll Γ zl zs) : ∀ k, concAll Γ (List.replicate k zl).flatten (List.replicate k zs).flatten
  | 0 => by simp [concAll]
  | k + 1 => by
    rw [List.replicate_succ, List.replicate_succ, List.flatten_cons, List.flatten_cons]
    exact concAll_append h (concAll_rep h k)
theorem appendZ_sound {P : Program} {Γ : Ctx} {H H' : List Ob} (hok : HeapOk Γ H) {t t' ty e size bytes : TypeId} {z : List Leaf} {s x : Leaf} {ys yx : Value} {v : AVal} (hse : se P t = some (e, size, bytes, z)) (hs : conc Γ s ys) (hx : conc Γ x yx) (h : appendZ P H t' size bytes z s x = some (v, H')) :
    ∃ y Γ', (Builtin.append_ #[t, t'] ty #[ys, yx]).run P Γ.w = .ok y Γ'.w ∧ Γ.Ext Γ' ∧ HeapOk Γ' H' ∧ concV Γ' v y := by
  unfold appendZ at h
  split at h
  case h_2 => cases h
  rename_i k0 k n hu
  split at h
  case isFalse => cases h
  rename_i hc
  obtain ⟨hsz, hzlen, hn0, hn1, hby⟩ := hc
  cases h
  simp only [conc] at hs hx
  obtain ⟨rfl, _⟩ := hs
  obtain ⟨rfl, _⟩ := hx
  obtain ⟨ht, i, zv, hi, rfl, rfl, hz, hzs, hzl⟩ := se_spec hse
  have hwrap : IntKind.i64.wrap n = n := by
    exact wrap_i64 (by omega) (by omega)
  have h48 : ¬ (281474976710656 < n * i.bytes) := by
    have : ((n.toNat * i.bytes : Nat) : Int) = n * i.bytes := by rw [Int.natCast_mul, Int.toNat_of_nonneg hn0]
    omega
  have hneg : ¬ n < 0 := by omega
  by_cases h0 : n.toNat = 0
  · obtain rfl : n = 0 := by omega
    refine ⟨.slice none 0 0, Γ.nilOb, ?_, Ext_nilOb Γ, by simpa using HeapOk_nilOb hok _, ?_⟩
    · have hw0 : IntKind.i64.wrap 0 = 0 := by decide
      simp [Builtin.append_, run_underlying ht, run_underlying hu, sizeOf, typeInfo, hi, asInt, asIntOf, hw0, Ctx.nilOb]
    · simp only [concV, conc]
      exact ⟨⟨none, 0, 0, 0⟩, 0, none, 0, by simp [Ctx.nilOb, hok.len], Nat.le_refl _, by simp, fun _ => .inl (by simp)⟩
  · have hge := grownCap_ge Γ.w n.toNat 0 e
    have hokd := HeapOk_drew hok
    have h63' : ¬ (9223372036854775807 < (n.toNat : Int)) := by omega
    have hfit := growslice_fits (need := n.toNat) (old := 0) (by omega) hby
    have h48' : ¬ (281474976710656 < Builtin.nextslicecap n.toNat 0 * i.bytes) := by omega
    have hnz : ¬ (n.toNat * i.size = 0) := by
      intro hh
      rcases Nat.mul_eq_zero.1 hh with h1 | h1 <;> omega
    have hzrows := zeroCells_rows zv.cells n.toNat
    have hnp : ¬ n ≤ 0 := by omega
    have hmax : ¬ (9223372036854775807 < max n 0) := by omega
    have hr : (Builtin.append_ #[t, t'] ty #[.slice none 0 0, .int k n]).run P Γ.w = .ok (.slice (some ⟨Γ.w.heap.size, 0, none⟩) n.toNat (grownCap Γ.w n.toNat 0 e))
        (Γ.w.drew.alloc (.cells (Builtin.zeroCells zv.cells n.toNat ++ Builtin.zeroCells zv.cells (grownCap Γ.w n.toNat 0 e - n.toNat)) e)) := by
      simp [Builtin.append_, run_underlying ht, run_underlying hu, sizeOf, typeInfo, zeroValue, hi, hz, asInt, asIntOf, hwrap, hneg, h48, h63', h48', hnz, h0, hnp, hmax, Question.forced, Builtin.firstCells, newRow, grownCap]
    have hext := (Ext_drew Γ).trans (Ext_alloc hokd (Builtin.zeroCells zv.cells n.toNat ++ Builtin.zeroCells zv.cells (grownCap Γ.w n.toNat 0 e - n.toNat)) e ⟨some Γ.w.heap.size, 0, grownCap Γ.w n.toNat 0 e, i.size⟩)
    refine ⟨_, _, hr, hext, HeapOk_alloc hokd _ e (grownCap Γ.w n.toNat 0 e) i.size (List.replicate n.toNat z) (grownCap_le_maxLen Γ.w n.toNat 0 e (by unfold maxLen; omega)) (by simpa using hge) hsz ?_ (fun r hr => by rw [List.eq_of_mem_replicate hr]; exact hzlen) (Builtin.zeroCells zv.cells n.toNat).toList ?_ (fun j y hj => ?_), ?_⟩
    · simp only [Array.size_append, size_zeroCells, hzs, ← Nat.add_mul]
      exact Nat.le_of_eq (by congr 1; omega)
    · rw [hzrows]
      exact concAll_rep (conc_leaves hzl) _
    · have hlt := (List.getElem?_eq_some_iff.1 hj).1
      rw [Array.getElem?_append_left (by simpa using hlt)]
      simpa using hj
    · simp only [concV, conc]
      refine ⟨_, 0, some ⟨Γ.w.heap.size, 0, none⟩, grownCap Γ.w n.toNat 0 e, by simp [Ctx.alloc, Ctx.drew, hok.len]; rfl, Nat.le_refl _, rfl, fun _ => .inr ⟨Γ.w.heap.size, _, rfl, rfl, by simp, by simpa using hge, fun _ => by simp⟩⟩

theorem append_sound {P : Program} {Γ : Ctx} {H H' : List Ob} (hok : HeapOk Γ H) {t t' ty : TypeId} {s x : Leaf} {ys yx : Value} {v : AVal} (hs : conc Γ s ys) (hx : conc Γ x yx) (h : appendV P H t t' s x = some (v, H')) :
    ∃ y Γ', (Builtin.append_ #[t, t'] ty #[ys, yx]).run P Γ.w = .ok y Γ'.w ∧ Γ.Ext Γ' ∧ HeapOk Γ' H' ∧ concV Γ' v y := by
  unfold appendV at h
  split at h
  case h_3 => cases h
  case h_2 =>
    rename_i e size bytes z hse hview
    exact appendZ_sound (P := P) hok hse hs hx h
  rename_i e size bytes z new hse hview
  split at h
  case isFalse => cases h
  rename_i hcond
  obtain ⟨rfl, hsz, hnl⟩ := hcond
  obtain ⟨ht, i, zv, hi, rfl, rfl, hz, hzs, hzl⟩ := se_spec hse
  obtain ⟨news, hcn, hnews, hsrc⟩ := source_spec hnl (view_spec hok hx hview)
  have hS : Src Γ.w new.length news yx := Src.of hnews hsrc
  have h1 := concAll_one hcn
  have hcapm : ∀ (need old : Nat), need ≤ maxLen → grownCap Γ.w need old e ≤ maxLen := fun need old hm => grownCap_le_maxLen Γ.w need old e hm
  split at h
  · -- to nothing
    split at h
    case isFalse => cases h
    rename_i hbd
    cases h
    simp only [conc] at hs
    obtain ⟨rfl, _⟩ := hs
    by_cases hm : new.length = 0
    · have hne : new = [] := List.eq_nil_of_length_eq_zero hm
      subst hne
      obtain ⟨w', hr, hw⟩ := run_append_fits (P := P) (ty := ty) ht hi hS hnews h1 none 0 0 (by simp) (.inl rfl)
      have : w' = Γ.w := by
        rcases hw with ⟨_, hw⟩ | ⟨b, o, cells, T, hb, _⟩
        · exact hw
        · cases hb
      subst this
      refine ⟨_, Γ.nilOb, hr, Ext_nilOb Γ, HeapOk_nilOb hok _, ?_⟩
      simp only [concV, conc]
      exact ⟨⟨none, 0, 0, 0⟩, 0, none, 0, by simp [Ctx.nilOb, hok.len], Nat.le_refl _, by simp, fun _ => .inl (by simp)⟩
    · have hr := run_append_grows (P := P) (ty := ty) ht hi hz hS hnews none 0 0 [] (by simp) (.inl rfl) (by omega) (by simpa using hbd.1) (by simpa using hbd.2)
      simp only [Nat.zero_add, List.nil_append] at hr
      have hge := grownCap_ge Γ.w new.length 0 e
      have hokd := HeapOk_drew hok
      have hext := (Ext_drew Γ).trans (Ext_alloc hokd (news.toArray ++ Builtin.zeroCells zv.cells (grownCap Γ.w new.length 0 e - new.length)) e ⟨some Γ.w.heap.size, 0, grownCap Γ.w new.length 0 e, i.size⟩)
      refine ⟨_, _, hr, hext, HeapOk_alloc hokd _ e (grownCap Γ.w new.length 0 e) i.size new (hcapm _ _ hbd.1) hge hsz ?_ hnl news (concAll_mono (Le_drew Γ) _ _ hcn) (get_append_pre (zs := (Builtin.zeroCells zv.cells (grownCap Γ.w new.length 0 e - new.length)).toList) (by simp)), ?_⟩
      · simp only [Array.size_append, List.size_toArray, size_zeroCells, hzs, hnews, ← Nat.add_mul]
        exact Nat.le_of_eq (by congr 1; omega)
      · simp only [concV, conc]
        refine ⟨_, 0, some ⟨Γ.w.heap.size, 0, none⟩, grownCap Γ.w new.length 0 e, by simp [Ctx.alloc, Ctx.drew, hok.len]; rfl, Nat.le_refl _, rfl, fun _ => .inr ⟨Γ.w.heap.size, _, rfl, rfl, by simp, by simpa using hge, fun _ => by simp⟩⟩
  · -- to what is the call's own
    rename_i h ver lo len
    split at h
    case h_2 => cases h
    rename_i zz rows ho
    split at h
    case isFalse => cases h
    rename_i hbd
    obtain ⟨hle, rfl, h63, hby⟩ := hbd
    cases h
    have hob := hok.obj ho
    obtain ⟨inf, hin, hm, hb⟩ := hob
    have hhl : h < H.length := (List.getElem?_eq_some_iff.1 (obj_some ho)).1
    have hhs : h < Γ.hs.length := by rw [← hok.len]; exact hhl
    simp only [conc] at hs
    obtain ⟨inf2, ver2, a, cap, hin2, _, rfl, hv⟩ := hs
    rw [hin] at hin2
    cases hin2
    have hv := hv rfl
    have hold_len : ((rows.drop lo).take len).length = len := by simp; omega
    by_cases hroom : len + new.length ≤ cap
    · -- it fits
      rcases hv with ⟨hbase, rfl, rfl, rfl, rfl⟩ | ⟨b, a', hbase, rfl, rfl, hlc, ha⟩
      · -- nil: nothing is appended
        have hne : new = [] := List.eq_nil_of_length_eq_zero (by omega)
        subst hne
        simp only [hbase] at hb
        subst hb
        obtain ⟨w', hr, hw⟩ := run_append_fits (P := P) (ty := ty) ht hi hS hnews h1 none 0 0 (by simp) (.inl rfl)
        have : w' = Γ.w := by
          rcases hw with ⟨_, hw⟩ | ⟨b, o, cells, T, hb, _⟩
          · exact hw
          · cases hb
        subst this
        refine ⟨_, Γ.bump h inf (ver + 1), hr, ⟨Le_bump hin (by omega), rfl, rfl, rfl, Nat.le_refl _, fun _ _ _ => rfl, fun _ h => .inl h, fun _ h => .inl h⟩, by simpa using HeapOk_bump hok (obj_some ho) hin hbase, ?_⟩
        simp only [concV, conc]
        exact ⟨inf, ver + 1, none, 0, by simp [Ctx.bump, hhs], Nat.le_refl _, by simp, fun _ => .inl (by simp [hbase])⟩
      · simp only [hbase] at hb
        obtain ⟨hzz, hX, hF, hrc, hisz, cells, T, hh, hcs, hrows⟩ := hb
        have hbl := hok.X b hX
        have hnewinf : inf.off + lo * inf.sz + (inf.cap - lo) * inf.sz ≤ cells.size := by
          rw [Nat.add_assoc, ← Nat.add_mul, show lo + (inf.cap - lo) = inf.cap by omega]; exact hcs
        by_cases hm0 : new.length = 0
        · -- nothing is appended
          have hne : new = [] := List.eq_nil_of_length_eq_zero hm0
          subst hne
          obtain ⟨w', hr, hw⟩ := run_append_fits (P := P) (ty := ty) ht hi hS hnews h1 (some a') len (inf.cap - lo) (by simpa using hroom) (.inl rfl)
          have hw' : w' = Γ.w := by
            rcases hw with ⟨_, hw⟩ | ⟨b2, o2, cells2, T2, _, hh2, _, hw⟩
            · exact hw
            · have hn0 : news = [] := List.eq_nil_of_length_eq_zero (by simpa using hnews)
              subst hn0
              rw [hw]
              have : (spliced cells2.toList (o2 + len * i.size) []).toArray = cells2 := by simp [spliced]
              rw [this]
              exact setRow_self Γ.w b2 cells2 T2 (0, 0) hh2
          subst hw'
          have hle' : Γ.Le (Γ.turn Γ.w h ⟨some b, inf.off + lo * inf.sz, inf.cap - lo, inf.sz⟩ (ver + 1) b) := Le_turn hin (.inl (by omega)) (fun _ _ => rfl)
          refine ⟨_, Γ.turn Γ.w h ⟨some b, inf.off + lo * inf.sz, inf.cap - lo, inf.sz⟩ (ver + 1) b, hr, ⟨hle', rfl, rfl, rfl, Nat.le_refl _, fun _ _ _ => rfl, fun _ h => .inl h, fun c hc => ?_⟩, ?_, ?_⟩
          · rcases hc with hc | hc
            · exact .inl hc
            · exact .inl (hc ▸ hX)
          · refine HeapOk_turn (Γ' := Γ.turn Γ.w h ⟨some b, inf.off + lo * inf.sz, inf.cap - lo, inf.sz⟩ (ver + 1) b) hok (obj_some ho) hin hle' rfl rfl (fun c => Iff.rfl) (Nat.le_refl _) rfl (fun _ _ _ => rfl) (.inl hbase) hbl (by simp only; omega) ?_ hisz hzz cells T hh hnewinf ?_
            · simp only [List.append_nil, hold_len]; omega
            · simp only [List.append_nil]
              exact concRows_mk fun k r hk => by
                have := concRows_get (concRows_take (concRows_drop hrows lo) len) hk
                exact ⟨this.1, concRow_of hle' b _ r (fun _ _ _ => rfl) this.2⟩
          · simp only [concV, conc]
            refine ⟨⟨some b, inf.off + lo * inf.sz, inf.cap - lo, inf.sz⟩, ver + 1, some a', inf.cap - lo, by simp [Ctx.turn, hhs], Nat.le_refl _, by simp, fun _ => .inr ⟨b, a', rfl, rfl, by simp, by simp; omega, fun hlt => ?_⟩⟩
            simp only at hlt
            rw [ha (by omega)]
            simp
        · have ha := ha (by omega)
          subst ha
          have hfit : inf.off + lo * inf.sz + len * i.size + news.length ≤ cells.size := by
            have h2 : (len + new.length) * inf.sz ≤ (inf.cap - lo) * inf.sz := Nat.mul_le_mul_right _ hroom
            rw [Nat.add_mul] at h2
            rw [hnews, ← hzz]
            omega
          obtain ⟨w', hr, hw⟩ := run_append_fits (P := P) (ty := ty) ht hi hS hnews h1 (some ⟨b, inf.off + lo * inf.sz, none⟩) len (inf.cap - lo) hroom (.inr ⟨b, _, cells, T, rfl, hh, hfit⟩)
          have hw' : w' = Γ.w.setRow b (spliced cells.toList (inf.off + lo * inf.sz + len * i.size) news).toArray := by
            rcases hw with ⟨h0, _⟩ | ⟨b2, o2, cells2, T2, hbo, hh2, _, hw⟩
            · exact absurd h0 hm0
            · simp only [Option.some.injEq, Addr.mk.injEq, and_true] at hbo
              obtain ⟨rfl, rfl⟩ := hbo
              rw [hh] at hh2
              cases hh2
              exact hw
          subst hw'
          have hheap' : (Γ.w.setRow b (spliced cells.toList (inf.off + lo * inf.sz + len * i.size) news).toArray).heap[b]? = some (.cells (spliced cells.toList (inf.off + lo * inf.sz + len * i.size) news).toArray T (0, 0)) := setRow_heap Γ.w b cells _ T (0, 0) hh
          have hoth : ∀ c, c ≠ b → (Γ.w.setRow b (spliced cells.toList (inf.off + lo * inf.sz + len * i.size) news).toArray).heap[c]? = Γ.w.heap[c]? := fun c hcb => setRow_other Γ.w b c _ hcb
          have hle' : Γ.Le (Γ.turn (Γ.w.setRow b (spliced cells.toList (inf.off + lo * inf.sz + len * i.size) news).toArray) h ⟨some b, inf.off + lo * inf.sz, inf.cap - lo, inf.sz⟩ (ver + 1) b) :=
            Le_turn hin (.inl (by omega)) (fun c hFc => hoth c (fun e => hF (e ▸ hFc)))
          have hsl : (spliced cells.toList (inf.off + lo * inf.sz + len * i.size) news).length = cells.size := by rw [spliced_length (by simpa using hfit)]; simp
          refine ⟨_, Γ.turn (Γ.w.setRow b (spliced cells.toList (inf.off + lo * inf.sz + len * i.size) news).toArray) h ⟨some b, inf.off + lo * inf.sz, inf.cap - lo, inf.sz⟩ (ver + 1) b, hr, ⟨hle', rfl, rfl, rfl, by simp [Ctx.turn], fun c _ hXc => hoth c (fun e => hXc (e ▸ hX)), fun _ h => .inl h, fun c hc => ?_⟩, ?_, ?_⟩
          · rcases hc with hc | hc
            · exact .inl hc
            · exact .inl (hc ▸ hX)
          · refine HeapOk_turn (Γ' := Γ.turn (Γ.w.setRow b (spliced cells.toList (inf.off + lo * inf.sz + len * i.size) news).toArray) h ⟨some b, inf.off + lo * inf.sz, inf.cap - lo, inf.sz⟩ (ver + 1) b) hok (obj_some ho) hin hle' rfl rfl (fun c => Iff.rfl) (by simp [Ctx.turn]) rfl (fun c _ hcb => hoth c hcb) (.inl hbase) (by simpa [Ctx.turn] using hbl) (by simp only; omega) ?_ hisz hzz _ T hheap' (by simp [hsl]; exact hnewinf) ?_
            · simp only [List.length_append, hold_len]; omega
            · have hcell : ∀ j, (Γ.turn (Γ.w.setRow b (spliced cells.toList (inf.off + lo * inf.sz + len * i.size) news).toArray) h ⟨some b, inf.off + lo * inf.sz, inf.cap - lo, inf.sz⟩ (ver + 1) b).w.cell? ⟨b, j, none⟩ = if inf.off + lo * inf.sz + len * i.size ≤ j ∧ j < inf.off + lo * inf.sz + len * i.size + news.length then news[j - (inf.off + lo * inf.sz + len * i.size)]? else cells[j]? := by
                intro j
                rw [show (Γ.turn (Γ.w.setRow b (spliced cells.toList (inf.off + lo * inf.sz + len * i.size) news).toArray) h ⟨some b, inf.off + lo * inf.sz, inf.cap - lo, inf.sz⟩ (ver + 1) b).w = Γ.w.setRow b (spliced cells.toList (inf.off + lo * inf.sz + len * i.size) news).toArray from rfl, cell_of hheap']
                have := spliced_get (cur := cells.toList) (o := inf.off + lo * inf.sz + len * i.size) (vs := news) (by simpa using hfit) j
                simpa using this
              refine concRows_append ?_ ?_
              · have h2 := concRows_take (concRows_drop hrows lo) len
                refine concRows_of hle' b inf.sz _ _ (fun j a1 a2 => ?_) h2
                rw [hold_len] at a2
                rw [hcell, if_neg ?_, cell_of hh]
                simp only at a1 a2
                rw [hzz] at a2
                rw [hzz]
                omega
              · rw [hold_len]
                refine concRows_mk fun k r hk => ⟨by rw [hzz]; exact hnl r (List.mem_of_getElem? hk), concRow_mk fun k' l hk' => ?_⟩
                have hkl : k < new.length := (List.getElem?_eq_some_iff.1 hk).1
                have hrl : r.length = i.size := hnl r (List.mem_of_getElem? hk)
                have hk'l : k' < r.length := (List.getElem?_eq_some_iff.1 hk').1
                have hflat : new.flatten[k * i.size + k']? = some l := by
                  clear hcn hr hS hsrc hnews h1 hfit hw hheap' hoth hle' hsl hcell hview hby h63 hroom hm0
                  induction new generalizing k with
                  | nil => simp at hk
                  | cons x xs ih =>
                    simp only [List.flatten_cons]
                    have hxl : x.length = i.size := hnl x (by simp)
                    cases k with
                    | zero =>
                      simp at hk
                      subst hk
                      rw [List.getElem?_append_left (by omega)]
                      simpa using hk'
                    | succ k =>
                      rw [List.getElem?_append_right (by rw [hxl, Nat.add_mul]; omega), hxl, show (k + 1) * i.size + k' - i.size = k * i.size + k' by rw [Nat.add_mul]; omega]
                      exact ih (fun y hy => hnl y (by simp [hy])) k (by simpa using hk) (by simpa using hkl)
                obtain ⟨v', g1, g2⟩ := concAll_get hcn hflat
                refine ⟨v', ?_, conc_mono hle' _ _ g2⟩
                have hb1 : (k + 1) * i.size ≤ new.length * i.size := Nat.mul_le_mul_right _ (by omega)
                rw [Nat.add_mul] at hb1
                rw [hcell, if_pos ?_]
                · rw [← hzz] at g1 ⊢
                  rw [show inf.off + lo * inf.sz + len * inf.sz + k * inf.sz + k' - (inf.off + lo * inf.sz + len * inf.sz) = k * inf.sz + k' by omega]
                  exact g1
                · simp only
                  rw [hnews, hzz]
                  omega
          · simp only [concV, conc]
            refine ⟨⟨some b, inf.off + lo * inf.sz, inf.cap - lo, inf.sz⟩, ver + 1, some ⟨b, inf.off + lo * inf.sz, none⟩, inf.cap - lo, by simp [Ctx.turn, hhs], Nat.le_refl _, by simp, fun _ => .inr ⟨b, _, rfl, rfl, by simp, by simp; omega, fun _ => by simp⟩⟩
    · -- it takes a new block
      have holds : ∃ olds, concAll Γ ((rows.drop lo).take len).flatten olds ∧ olds.length = len * i.size ∧ (olds = [] ∨ ∃ a0, a = some a0 ∧ ∀ (j : Nat) (v : Value), olds[j]? = some v → Γ.w.cell? (a0.add j) = some v) := by
        rcases hv with ⟨hbase, rfl, rfl, rfl, rfl⟩ | ⟨b, a', hbase, rfl, rfl, hlc, ha⟩
        · exact ⟨[], by simp [concAll], by simp, .inl rfl⟩
        · simp only [hbase] at hb
          obtain ⟨hzz, hX, hF, hrc, hisz, cells, T, hh, hcs, hrows⟩ := hb
          obtain ⟨olds, g1, g2, g3⟩ := concRows_cells (concRows_take (concRows_drop hrows lo) len)
          refine ⟨olds, g1, by rw [g2, hold_len, hzz], ?_⟩
          by_cases hl0 : len = 0
          · left
            exact List.eq_nil_of_length_eq_zero (by rw [g2, hold_len, hl0]; simp)
          · right
            refine ⟨a', rfl, fun j v hj => ?_⟩
            rw [ha (by omega), add_off]
            exact g3 j v hj
      obtain ⟨olds, ho1, ho2, ho3⟩ := holds
      have hr := run_append_grows (P := P) (ty := ty) ht hi hz hS hnews a len cap olds ho2 ho3 (by omega) h63 hby
      have hge := grownCap_ge Γ.w (len + new.length) cap e
      have hokd := HeapOk_drew hok
      have hrl : ∀ r ∈ (rows.drop lo).take len, r.length = i.size := by
        intro r hr
        have hrm : r ∈ rows := List.mem_of_mem_drop (List.mem_of_mem_take hr)
        cases hbase : inf.base with
        | none =>
          simp only [hbase] at hb
          subst hb
          cases hrm
        | some b =>
          simp only [hbase] at hb
          obtain ⟨hzz, _, _, _, _, _, _, _, _, hrows⟩ := hb
          rw [← hzz]
          exact flatten_inj_len hrows r hrm
      have hmv := HeapOk_moved (new := (rows.drop lo).take len ++ new) hokd (obj_some ho) hin ((olds ++ news).toArray ++ Builtin.zeroCells zv.cells (grownCap Γ.w (len + new.length) cap e - (len + new.length))) e (grownCap Γ.w (len + new.length) cap e) i.size
        (hcapm _ _ h63) (by simp only [List.length_append, hold_len]; exact hge) hsz ?_ ?_ (olds ++ news) ?_ ?_
      · exact ⟨_, _, hr, (Ext_drew Γ).trans hmv.1, hmv.2, by
          simp only [concV, conc]
          refine ⟨_, ver + 1, some ⟨Γ.w.heap.size, 0, none⟩, grownCap Γ.w (len + new.length) cap e, by simp [Ctx.turn, Ctx.drew, hhs]; rfl, Nat.le_refl _, rfl, fun _ => .inr ⟨Γ.w.heap.size, _, rfl, rfl, by simp, by simpa using hge, fun _ => by simp⟩⟩⟩
      · simp only [Array.size_append, List.size_toArray, List.length_append, size_zeroCells, hzs, hnews, ho2, ← Nat.add_mul]
        exact Nat.le_of_eq (by congr 1; omega)
      · intro r hr
        rcases List.mem_append.1 hr with hr | hr
        · exact hrl r hr
        · exact hnl r hr
      · rw [List.flatten_append]
        exact concAll_mono (Le_drew Γ) _ _ (concAll_append ho1 hcn)
      · exact get_append_pre (zs := (Builtin.zeroCells zv.cells (grownCap Γ.w (len + new.length) cap e - (len + new.length))).toList) (by simp)
  · cases h

end Go.Nx
/- The other operations. -/
namespace Go.Nx
set_option linter.unusedVariables false
set_option linter.unusedSimpArgs false

/-- A value of a type, of its cells. -/
def ofCells (P : Program) (t : TypeId) (xs : List Value) : Value :=
  match P.underlying t with
  | some (.struct _) => .agg xs.toArray
  | _ => xs.headD undef

theorem eqCells_cons {x : Sh} {s : List Sh} {as bs : List Leaf} {b : Bool} (h : eqCells (x :: s) as bs = some b) :
    ∃ a as' c bs' b1 b2, as = a :: as' ∧ bs = c :: bs' ∧ eq1 x a c = some b1 ∧ eqCells s as' bs' = some b2 ∧ b = (b1 && b2) := by
  cases as with
  | nil => simp [eqCells] at h
  | cons a as =>
    cases bs with
    | nil => simp [eqCells] at h
    | cons c bs =>
      simp only [eqCells] at h
      split at h
      · rename_i b1 b2 h1 h2
        simp only [Option.some.injEq] at h
        exact ⟨a, as, c, bs, b1, b2, rfl, rfl, h1, h2, h.symm⟩
      · cases h

theorem eqCells_nil {as bs : List Leaf} {b : Bool} (h : eqCells [] as bs = some b) : as = [] ∧ bs = [] ∧ b = true := by
  cases as <;> cases bs <;> simp [eqCells] at h
  exact ⟨rfl, rfl, h⟩

theorem eqCells_append : ∀ (s s' : List Sh) (as bs : List Leaf) (b : Bool), eqCells (s ++ s') as bs = some b →
    ∃ b1 b2, eqCells s (as.take s.length) (bs.take s.length) = some b1 ∧ eqCells s' (as.drop s.length) (bs.drop s.length) = some b2 ∧ b = (b1 && b2)
  | [], s', as, bs, b, h => ⟨true, b, by simp [eqCells], by simpa using h, by simp⟩
  | x :: s, s', as, bs, b, h => by
    obtain ⟨a, as', c, bs', b1, b2, rfl, rfl, h1, h2, rfl⟩ := eqCells_cons (by simpa using h)
    obtain ⟨c1, c2, g1, g2, rfl⟩ := eqCells_append s s' as' bs' b2 h2
    exact ⟨b1 && c1, c2, by simp [eqCells, h1, g1], by simpa using g2, by simp [Bool.and_assoc]⟩

theorem eqCells_length : ∀ {s : List Sh} {as bs : List Leaf} {b : Bool}, eqCells s as bs = some b → as.length = s.length ∧ bs.length = s.length
  | [], as, bs, b, h => by obtain ⟨rfl, rfl, _⟩ := eqCells_nil h; simp
  | x :: s, as, bs, b, h => by
    obtain ⟨a, as', c, bs', b1, b2, rfl, rfl, h1, h2, rfl⟩ := eqCells_cons h
    have := eqCells_length h2
    simp [this]

theorem seg_array (xs : List Value) (off n : Nat) : xs.toArray.extract off (off + n) = ((xs.drop off).take n).toArray := by
  apply Array.ext'
  simp [List.take_drop]

theorem part_run {P : Program} {w : World} {t : TypeId} {g : Bool} {n : Nat} (ht : tk P t = some (g, n)) (xs : List Value) (off : Nat) (hle : off + n ≤ xs.length) (hn : g = false → n = 1) :
    (part t xs.toArray off).run P w = .ok (if g then .agg ((xs.drop off).take n).toArray else ((xs.drop off).take n).headD undef) w := by
  obtain ⟨g1, g2⟩ := tk_spec ht w
  cases g with
  | true =>
    simp only [part, Sem.run_bind, g1, Result.andThen_ok, g2, if_true, Sem.run_pure, seg_array]
  | false =>
    have := hn rfl
    subst this
    have hlt : off < xs.length := by omega
    simp only [part, Sem.run_bind, g1, Result.andThen_ok, Bool.false_eq_true, if_false]
    have h1 : (xs.drop off).take 1 = [xs[off]] := by
      rw [List.drop_eq_getElem_cons hlt]
      rfl
    rw [h1]
    simp [hlt]

theorem tk_agg {P : Program} {t : TypeId} {g : Bool} {n : Nat} (h : tk P t = some (g, n)) : ∃ d, P.underlying t = some d ∧ g = (match d with | .struct _ | .array _ _ => true | _ => false) := by
  unfold tk at h
  split at h
  · rename_i d i hd hi
    simp only [Option.some.injEq, Prod.mk.injEq] at h
    exact ⟨d, hd, h.1.symm⟩
  · cases h

theorem eq1_spec {Γ : Ctx} {x : Sh} {a c : Leaf} {b : Bool} (h : eq1 x a c = some b) {y z : Value} (ha : conc Γ a y) (hc : conc Γ c z) :
    (∃ k m n, x = .int ∧ y = .int k m ∧ z = .int k n ∧ b = (m == n)) ∨ (∃ m n, x = .bool ∧ y = .bool m ∧ z = .bool n ∧ b = (m == n)) ∨ (∃ m n, x = .str ∧ y = .string m ∧ z = .string n ∧ b = (m.toList == n.toList)) := by
  unfold eq1 at h
  split at h
  · split at h
    · rename_i k m k' n hk
      subst hk
      simp only [Option.some.injEq] at h
      simp only [conc] at ha hc
      exact .inl ⟨k, m, n, rfl, ha.1, hc.1, h.symm⟩
    · cases h
  · rename_i m n
    simp only [Option.some.injEq] at h
    simp only [conc] at ha hc
    exact .inr (.inl ⟨m, n, rfl, ha.1, hc.1, h.symm⟩)
  · rename_i m n
    simp only [Option.some.injEq] at h
    simp only [conc] at ha hc
    exact .inr (.inr ⟨m, n, rfl, ha.1, hc.1, h.symm⟩)
  · cases h

theorem shp_one {P : Program} {d : Nat} {t : TypeId} {s : List Sh} (h : shp P d t = some s) : ∃ D, P.underlying t = some D ∧ ((∃ fs, D = .struct fs) ∨ (s.length = 1 ∧ (match D with | .struct _ | .array _ _ => true | _ => false) = false)) := by
  cases d with
  | zero => simp [shp] at h
  | succ d =>
    unfold shp at h
    split at h
    · rename_i hu; cases h; exact ⟨_, hu, .inr ⟨rfl, rfl⟩⟩
    · rename_i hu; cases h; exact ⟨_, hu, .inr ⟨rfl, rfl⟩⟩
    · rename_i hu; cases h; exact ⟨_, hu, .inr ⟨rfl, rfl⟩⟩
    · rename_i fs hu; exact ⟨_, hu, .inl ⟨fs, rfl⟩⟩
    · cases h

theorem ofCells_part {P : Program} {t : TypeId} {g : Bool} {n d : Nat} {s : List Sh} (ht : tk P t = some (g, n)) (hs : shp P d t = some s) (xs : List Value) :
    (if g then Value.agg xs.toArray else xs.headD undef) = ofCells P t xs := by
  obtain ⟨D, hu, hg⟩ := tk_agg ht
  obtain ⟨D', hu', hD⟩ := shp_one hs
  rw [hu] at hu'
  cases hu'
  subst hg
  unfold ofCells
  rw [hu]
  rcases hD with ⟨fs, rfl⟩ | ⟨_, hD⟩
  · simp
  · cases D <;> simp at hD ⊢

theorem eq_shape {P : Program} {w : World} {Γ : Ctx} : ∀ (d : Nat) (t : TypeId) (s : List Sh), shp P d t = some s → ∀ (as bs : List Leaf) (xs ys : List Value) (b : Bool), concAll Γ as xs → concAll Γ bs ys → eqCells s as bs = some b →
    ∀ D, d ≤ D → (Op.equalIn D t (ofCells P t xs) (ofCells P t ys)).run P w = .ok b w
  | 0, t, s, h, _, _, _, _, _, _, _, _, _, _ => by simp [shp] at h
  | d + 1, t, s, h, as, bs, xs, ys, b, hx, hy, he, D, hD => by
    obtain ⟨D, rfl⟩ : ∃ D', D = D' + 1 := ⟨D - 1, by omega⟩
    have one : ∀ x : Sh, s = [x] → ∃ y z, xs = [y] ∧ ys = [z] ∧ ∃ a c, conc Γ a y ∧ conc Γ c z ∧ eq1 x a c = some b := by
      rintro x rfl
      obtain ⟨a, as', c, bs', b1, b2, rfl, rfl, h1, h2, rfl⟩ := eqCells_cons he
      obtain ⟨rfl, rfl, rfl⟩ := eqCells_nil h2
      simp only [concAll] at hx hy
      obtain ⟨y, _, rfl, hya, rfl⟩ := hx
      obtain ⟨z, _, rfl, hzc, rfl⟩ := hy
      exact ⟨y, z, rfl, rfl, a, c, hya, hzc, by simpa using h1⟩
    unfold shp at h
    split at h
    · rename_i k hu
      cases h
      obtain ⟨y, z, rfl, rfl, a, c, hya, hzc, h1⟩ := one .int rfl
      rcases eq1_spec h1 hya hzc with ⟨k', m, n, _, rfl, rfl, rfl⟩ | ⟨m, n, hn, _⟩ | ⟨m, n, hn, _⟩
      · simp [ofCells, hu, run_equalIn_int (P := P) w D t k' k m n hu]
      · cases hn
      · cases hn
    · rename_i hu
      cases h
      obtain ⟨y, z, rfl, rfl, a, c, hya, hzc, h1⟩ := one .bool rfl
      rcases eq1_spec h1 hya hzc with ⟨k', m, n, hn, _⟩ | ⟨m, n, _, rfl, rfl, rfl⟩ | ⟨m, n, hn, _⟩
      · cases hn
      · simp [ofCells, hu, run_equalIn_bool' (P := P) w D t m n hu]
      · cases hn
    · rename_i hu
      cases h
      obtain ⟨y, z, rfl, rfl, a, c, hya, hzc, h1⟩ := one .str rfl
      rcases eq1_spec h1 hya hzc with ⟨k', m, n, hn, _⟩ | ⟨m, n, hn, _⟩ | ⟨m, n, _, rfl, rfl, rfl⟩
      · cases hn
      · cases hn
      · simp [ofCells, hu, run_equalIn_string (P := P) w D t m n hu]
    · rename_i fs hu
      split at h
      · cases h
      · rename_i hst
        have hfo : P.fieldsOf t = fs := by simp [Program.fieldsOf, hu]
        have hu' : P.underlying t = some (.struct (P.fieldsOf t)) := by rw [hfo]; exact hu
        have e1 : ofCells P t xs = .agg xs.toArray := by simp [ofCells, hu]
        have e2 : ofCells P t ys = .agg ys.toArray := by simp [ofCells, hu]
        rw [e1, e2, run_equalIn_struct (P := P) w D t _ _ hu' (by simpa using hst), hfo]
        clear e1 e2 hfo hu' hst hu one
        have key : ∀ (l : List Field) (off : Nat) (s : List Sh) (as bs : List Leaf) (b : Bool), shpFs P (shp P d) off l = some s → concAll Γ as (xs.drop off) → concAll Γ bs (ys.drop off) → eqCells s as bs = some b →
            (Op.eqFields D xs.toArray ys.toArray l).run P w = .ok b w := by
          intro l
          induction l with
          | nil =>
            intro off s as bs b hs _ _ he
            simp [shpFs] at hs
            subst hs
            obtain ⟨_, _, rfl⟩ := eqCells_nil he
            simp [Op.eqFields]
          | cons f fs ih =>
            intro off s as bs b hs hxs hys he
            simp only [shpFs] at hs
            split at hs
            · rename_i hf
              split at hs
              · rename_i sf g n hsf htk
                split at hs
                · rename_i hn0
                  obtain ⟨hn, hpos⟩ := hn0
                  simp only [Option.map_eq_some_iff] at hs
                  obtain ⟨s', hs', rfl⟩ := hs
                  obtain ⟨b1, b2, g1, g2, rfl⟩ := eqCells_append sf s' as bs b he
                  have hl1 := eqCells_length g1
                  have hal := concAll_length hxs
                  have hbl := concAll_length hys
                  simp only [List.length_take] at hl1
                  simp only [List.length_drop] at hal hbl
                  have hg : g = false → n = 1 := by
                    intro hg
                    obtain ⟨DD, hu1, hg1⟩ := tk_agg htk
                    obtain ⟨DD', hu2, hD2⟩ := shp_one hsf
                    rw [hu1] at hu2
                    cases hu2
                    rcases hD2 with ⟨fs', rfl⟩ | ⟨h1, _⟩
                    · rw [hg] at hg1; simp at hg1
                    · omega
                  have px := part_run (P := P) (w := w) htk xs f.offset (by rw [hf.2]; omega) hg
                  have py := part_run (P := P) (w := w) htk ys f.offset (by rw [hf.2]; omega) hg
                  rw [ofCells_part htk hsf] at px py
                  have heq := eq_shape (w := w) d f.type sf hsf (as.take sf.length) (bs.take sf.length) ((xs.drop f.offset).take n) ((ys.drop f.offset).take n) b1 (by rw [hn, hf.2]; exact concAll_take hxs _) (by rw [hn, hf.2]; exact concAll_take hys _) g1 D (by omega)
                  have ih' := ih (off + sf.length) s' (as.drop sf.length) (bs.drop sf.length) b2 hs' (by rw [← List.drop_drop]; exact concAll_drop hxs _) (by rw [← List.drop_drop]; exact concAll_drop hys _) g2
                  simp only [Op.eqFields, hf.1, ne_eq, not_false_eq_true, if_true, Sem.run_bind, px, py, heq, Result.andThen_ok]
                  cases b1 with
                  | true => simpa using ih'
                  | false => simp
                · cases hs
              · cases hs
            · cases hs
        exact key fs.toList 0 s as bs b h (by simpa using hx) (by simpa using hy) he
    · cases h

theorem concRows_new {Γ Γ' : Ctx} (hle : Γ.Le Γ') {b sz : Nat} : ∀ {new : List (List Leaf)} {off : Nat} {news : List Value}, (∀ r ∈ new, r.length = sz) → concAll Γ new.flatten news → (∀ (j : Nat) (v : Value), news[j]? = some v → Γ'.w.cell? ⟨b, off + j, none⟩ = some v) → concRows Γ' b sz off new
  | [], off, news, _, _, _ => by simp [concRows]
  | r :: rs, off, news, hl, hc, hcell => by
    have hrl : r.length = sz := hl r (by simp)
    simp only [List.flatten_cons] at hc
    have h1 := concAll_take hc r.length
    have h2 := concAll_drop hc r.length
    simp only [List.take_left', List.drop_left'] at h1 h2
    refine ⟨hrl, concRow_mk fun k l hk => ?_, concRows_new hle (fun x hx => hl x (by simp [hx])) h2 (fun j v hj => ?_)⟩
    · obtain ⟨y, g1, g2⟩ := concAll_get h1 hk
      have hkl := (List.getElem?_eq_some_iff.1 hk).1
      rw [List.getElem?_take_of_lt hkl] at g1
      exact ⟨y, hcell k y g1, conc_mono hle _ _ g2⟩
    · rw [List.getElem?_drop] at hj
      have := hcell _ _ hj
      rwa [hrl, show off + (sz + j) = off + sz + j by omega] at this

theorem segRows_nil (rows : List (List Leaf)) (lo : Nat) : segRows rows lo [] = rows := by simp [segRows]
theorem set_same {H : List Ob} {h : Nat} {o : Ob} (ho : H[h]? = some o) : H.set h o = H := by
  apply List.ext_getElem?
  intro j
  by_cases hj : j = h
  · subst hj
    rw [List.getElem?_set_self (List.getElem?_eq_some_iff.1 ho).1, ho]
  · rw [List.getElem?_set_ne (fun e => hj e.symm)]

/-- A piece of an own array, written over. -/
theorem seg_sound {P : Program} {Γ : Ctx} {H : List Ob} (hok : HeapOk Γ H) {h ver lo z b : Nat} {rows new : List (List Leaf)} {inf : Info} (ho : obj H h ver = some (z, rows)) (hin : Γ.hs[h]? = some (inf, ver)) (hb : inf.base = some b) (hlo : lo + new.length ≤ rows.length) (hnl : ∀ r ∈ new, r.length = z) {news : List Value} (hn : concAll Γ new.flatten news) :
    ∃ Γ', (storeCells ⟨b, inf.off + lo * inf.sz, none⟩ news).run P Γ.w = .ok () Γ'.w ∧ Γ.Ext Γ' ∧ HeapOk Γ' (H.set h (.live ver z (segRows rows lo new))) := by
  obtain ⟨i2, g1, hcap, g2⟩ := hok.obj ho
  rw [hin] at g1
  cases g1
  simp only [hb] at g2
  obtain ⟨hzz, hX, hF, hrc, hisz, cells, T, hh, hcs, hrows⟩ := g2
  have hbl := hok.X b hX
  have hnews : news.length = new.length * z := by rw [concAll_length hn, flatten_length hnl]
  have hfit : inf.off + lo * inf.sz + news.length ≤ cells.size := by
    have h2 : (lo + new.length) * inf.sz ≤ inf.cap * inf.sz := Nat.mul_le_mul_right _ (by omega)
    rw [Nat.add_mul] at h2
    rw [hnews, ← hzz]
    omega
  have hst := run_storeCells_at P b (inf.off + lo * inf.sz) T news 0 cells Γ.w hh (by simpa using hfit) (concAll_one hn)
  simp only [Nat.add_zero] at hst
  have hheap' : (Γ.w.setRow b (spliced cells.toList (inf.off + lo * inf.sz) news).toArray).heap[b]? = some (.cells (spliced cells.toList (inf.off + lo * inf.sz) news).toArray T (0, 0)) := setRow_heap Γ.w b cells _ T (0, 0) hh
  have hoth : ∀ c, c ≠ b → (Γ.w.setRow b (spliced cells.toList (inf.off + lo * inf.sz) news).toArray).heap[c]? = Γ.w.heap[c]? := fun c hcb => setRow_other Γ.w b c _ hcb
  have hle' : Γ.Le (Γ.turn (Γ.w.setRow b (spliced cells.toList (inf.off + lo * inf.sz) news).toArray) h inf ver b) :=
    Le_turn hin (.inr ⟨rfl, rfl⟩) (fun c hFc => hoth c (fun e => hF (e ▸ hFc)))
  have hsl : (spliced cells.toList (inf.off + lo * inf.sz) news).length = cells.size := by rw [spliced_length (by simpa using hfit)]; simp
  refine ⟨Γ.turn (Γ.w.setRow b (spliced cells.toList (inf.off + lo * inf.sz) news).toArray) h inf ver b, hst, ⟨hle', rfl, rfl, rfl, by simp [Ctx.turn], fun c _ hXc => hoth c (fun e => hXc (e ▸ hX)), fun _ h => .inl h, fun c hc => ?_⟩, ?_⟩
  · rcases hc with hc | hc
    · exact .inl hc
    · exact .inl (hc ▸ hX)
  · have hlen : (segRows rows lo new).length = rows.length := by simp [segRows]; omega
    refine HeapOk_turn (Γ' := Γ.turn (Γ.w.setRow b (spliced cells.toList (inf.off + lo * inf.sz) news).toArray) h inf ver b) hok (obj_some ho) hin hle' rfl rfl (fun c => Iff.rfl) (by simp [Ctx.turn]) hb (fun c _ hcb => hoth c hcb) (.inl hb) (by simpa [Ctx.turn] using hbl) hcap (by rw [hlen]; exact hrc) hisz hzz _ T hheap' (by simp [hsl]; exact hcs) ?_
    have hcell : ∀ j, (Γ.turn (Γ.w.setRow b (spliced cells.toList (inf.off + lo * inf.sz) news).toArray) h inf ver b).w.cell? ⟨b, j, none⟩ = if inf.off + lo * inf.sz ≤ j ∧ j < inf.off + lo * inf.sz + news.length then news[j - (inf.off + lo * inf.sz)]? else cells[j]? := by
      intro j
      rw [show (Γ.turn (Γ.w.setRow b (spliced cells.toList (inf.off + lo * inf.sz) news).toArray) h inf ver b).w = Γ.w.setRow b (spliced cells.toList (inf.off + lo * inf.sz) news).toArray from rfl, cell_of hheap']
      have := spliced_get (cur := cells.toList) (o := inf.off + lo * inf.sz) (vs := news) (by simpa using hfit) j
      simpa using this
    have htl : (rows.take lo).length = lo := by simp; omega
    unfold segRows
    refine concRows_append (concRows_append ?_ ?_) ?_
    · refine concRows_of hle' b inf.sz _ _ (fun j a1 a2 => ?_) (concRows_take hrows lo)
      rw [htl] at a2
      rw [hcell, if_neg (by omega), cell_of hh]
    · rw [htl]
      refine concRows_new hle' (by rw [hzz]; exact hnl) hn (fun j v hj => ?_)
      have hjl := (List.getElem?_eq_some_iff.1 hj).1
      rw [hcell, if_pos (by omega), show inf.off + lo * inf.sz + j - (inf.off + lo * inf.sz) = j by omega]
      exact hj
    · rw [List.length_append, htl]
      refine concRows_of hle' b inf.sz _ _ (fun j a1 a2 => ?_) (concRows_drop hrows (lo + new.length))
      rw [hcell, if_neg ?_, cell_of hh]
      rw [hnews, ← hzz]
      rw [Nat.add_mul] at a1
      omega

theorem copy_sound {P : Program} {Γ : Ctx} {H H' : List Ob} (hok : HeapOk Γ H) {t t' ty : TypeId} {d x : Leaf} {yd yx : Value} {v : AVal} (hd : conc Γ d yd) (hx : conc Γ x yx) (h : copyV P H t d x = some (v, H')) :
    ∃ z Γ', (Builtin.copy_ #[t, t'] ty #[yd, yx]).run P Γ.w = .ok z Γ'.w ∧ Γ.Ext Γ' ∧ HeapOk Γ' H' ∧ concV Γ' v z := by
  unfold copyV at h
  split at h
  case h_2 => cases h
  rename_i el size bytes zl ys hd' ver lo len hse hv
  split at h
  case h_2 => cases h
  rename_i z rows ho
  split at h
  case isFalse => cases h
  rename_i hc
  obtain ⟨hle, rfl, hys⟩ := hc
  simp only [Option.some.injEq, Prod.mk.injEq] at h
  obtain ⟨rfl, rfl⟩ := h
  obtain ⟨ht, i, zv, hi, his, _, hz, hzs, _⟩ := se_spec hse
  simp only [conc] at hd
  obtain ⟨inf, ver', a, cap, h1, _, rfl, h3⟩ := hd
  obtain ⟨i2, g1, hcap, g2⟩ := hok.obj ho
  rw [h1] at g1
  cases g1
  have h3 := h3 rfl
  have hview := view_spec hok hx hv
  -- the source's first elements
  have hS : ∃ news, concAll Γ (ys.take len).flatten news ∧ news.length = min ys.length len * z ∧ (Builtin.lenOf yx).run P Γ.w = .ok ys.length Γ.w ∧ (Builtin.firstCells z (min ys.length len) yx).run P Γ.w = .ok news.toArray Γ.w := by
    have hyt : ∀ r ∈ ys.take len, r.length = z := fun r hr => hys r (List.mem_of_mem_take hr)
    have hmin : (ys.take len).length = min ys.length len := by simp [Nat.min_comm]
    rcases hview with ⟨rfl, rfl⟩ | ⟨a2, cap2, rfl, hl2, h4⟩
    · exact ⟨[], by simp [concAll], by simp, by simp [Builtin.lenOf], by simp [Builtin.firstCells]⟩
    · rcases h4 with rfl | ⟨b, off, sz, rfl, hrows⟩
      · refine ⟨[], by simp [concAll], by simp, by simp [Builtin.lenOf], ?_⟩
        simpa using run_firstCells_some (P := P) (w := Γ.w) z 0 a2 0 cap2 [] (by simp) (by simp)
      · obtain ⟨news, k1, k2, k3⟩ := concRows_cells (concRows_take hrows len)
        have k4 : news.length = min ys.length len * z := by rw [concAll_length k1, flatten_length hyt, hmin]
        exact ⟨news, k1, k4, by simp [Builtin.lenOf], run_firstCells_some (P := P) (w := Γ.w) z _ _ _ cap2 news k4 (fun j v hj => by rw [add_off]; exact k3 j v hj)⟩
  obtain ⟨news, k1, k2, k3, k4⟩ := hS
  have hmin : (ys.take len).length = min ys.length len := by simp [Nat.min_comm]
  have hnl : ∀ r ∈ ys.take len, r.length = z := fun r hr => hys r (List.mem_of_mem_take hr)
  rcases h3 with ⟨hbase, rfl, rfl, rfl, rfl⟩ | ⟨b, a', hbase, rfl, rfl, hlc, ha⟩
  · refine ⟨.int .i64 ((min ys.length 0 : Nat) : Int), Γ, ?_, .refl Γ, ?_, ?_⟩
    · simp only [Nat.min_zero] at k4
      simp [Builtin.copy_, run_underlying ht, k3, sizeOf, typeInfo, hi, his, k4, goInt]
    · rw [List.take_zero, segRows_nil, set_same (obj_some ho)]
      exact hok
    · simp [concV, conc, goInt, Value.oneCell']
  · by_cases h0 : min ys.length len = 0
    · have hn0 : news = [] := List.eq_nil_of_length_eq_zero (by rw [k2, h0]; simp)
      have ht0 : ys.take len = [] := List.eq_nil_of_length_eq_zero (by rw [hmin, h0])
      subst hn0
      refine ⟨.int .i64 ((min ys.length len : Nat) : Int), Γ, ?_, .refl Γ, ?_, ?_⟩
      · have k5 : Nat.min ys.length len = 0 := h0
        rw [h0] at k4 ⊢
        simp [Builtin.copy_, run_underlying ht, k3, sizeOf, typeInfo, hi, his, k5, k4, storeCells, goInt]
      · rw [ht0, segRows_nil, set_same (obj_some ho)]
        exact hok
      · simp [concV, conc, goInt, Value.oneCell']
    · have ha := ha (by omega)
      subst ha
      obtain ⟨Γ', e1, e2, e3⟩ := seg_sound (P := P) (lo := lo) hok ho h1 hbase (new := ys.take len) (by rw [hmin]; omega) hnl k1
      refine ⟨.int .i64 ((min ys.length len : Nat) : Int), Γ', ?_, e2, e3, ?_⟩
      · have k5 : (Builtin.firstCells z (Nat.min ys.length len) yx).run P Γ.w = .ok news.toArray Γ.w := k4
        have k6 : Nat.min ys.length len = min ys.length len := rfl
        simp [Builtin.copy_, run_underlying ht, k3, sizeOf, typeInfo, hi, his, k5, e1, goInt, k6]
      · simp [concV, conc, goInt, Value.oneCell']

theorem clear_sound {P : Program} {Γ : Ctx} {H H' : List Ob} (hok : HeapOk Γ H) {t ty : TypeId} {d : Leaf} {yd : Value} {v : AVal} (hd : conc Γ d yd) (h : clearV P H t d = some (v, H')) :
    ∃ z Γ', (Builtin.clear_ #[t] ty #[yd]).run P Γ.w = .ok z Γ'.w ∧ Γ.Ext Γ' ∧ HeapOk Γ' H' ∧ concV Γ' v z := by
  unfold clearV at h
  split at h
  case h_2 => cases h
  rename_i el size bytes zl hd' ver lo len hse
  split at h
  case h_2 => cases h
  rename_i z rows ho
  split at h
  case isFalse => cases h
  rename_i hc
  obtain ⟨hle, rfl, hzl⟩ := hc
  simp only [Option.some.injEq, Prod.mk.injEq] at h
  obtain ⟨rfl, rfl⟩ := h
  obtain ⟨ht, i, zv, hi, his, _, hz, hzs, hzlv⟩ := se_spec hse
  simp only [conc] at hd
  obtain ⟨inf, ver', a, cap, h1, _, rfl, h3⟩ := hd
  obtain ⟨i2, g1, hcap, g2⟩ := hok.obj ho
  rw [h1] at g1
  cases g1
  have h3 := h3 rfl
  have hun : ∀ Γ', concV Γ' unit (.tuple #[]) := fun Γ' => by simp only [concV, concVs]; exact ⟨#[], rfl, rfl⟩
  by_cases h0 : len = 0
  · subst h0
    refine ⟨_, Γ, ?_, .refl Γ, ?_, hun Γ⟩
    · cases a <;> simp [Builtin.clear_, run_underlying ht]
    · rw [List.replicate_zero, segRows_nil, set_same (obj_some ho)]
      exact hok
  · rcases h3 with ⟨hbase, rfl, rfl, rfl, h4⟩ | ⟨b, a', hbase, rfl, rfl, hlc, ha⟩
    · exact absurd h4 h0
    · have ha := ha (by omega)
      subst ha
      obtain ⟨m, rfl⟩ : ∃ m, len = m + 1 := ⟨len - 1, by omega⟩
      have hca : concAll Γ (List.replicate (m + 1) zl).flatten (Builtin.zeroCells zv.cells (m + 1)).toList := by
        rw [zeroCells_rows]
        have hl := conc_leaves (Γ := Γ) hzlv
        generalize m + 1 = k
        induction k with
        | zero => simp [concAll]
        | succ k ih =>
          rw [List.replicate_succ, List.replicate_succ, List.flatten_cons, List.flatten_cons]
          exact concAll_append hl ih
      obtain ⟨Γ', e1, e2, e3⟩ := seg_sound (P := P) hok ho h1 hbase (new := List.replicate (m + 1) zl) (by simpa using hle) (fun r hr => by rw [List.eq_of_mem_replicate hr]; exact hzl) hca
      exact ⟨.tuple #[], Γ', by simp [Builtin.clear_, run_underlying ht, zeroValue, typeInfo, hi, hz, e1], e2, e3, hun Γ'⟩

end Go.Nx
/- Every operation, together. -/
namespace Go.Nx
set_option linter.unusedVariables false
set_option linter.unusedSimpArgs false

theorem fo_spec {P : Program} {s f off n : Nat} {g : Bool} (h : fo P s f = some (off, n, g)) :
    ∃ fs fd, P.underlying s = some (.struct fs) ∧ fs[f]? = some fd ∧ fd.offset = off ∧ tk P fd.type = some (g, n) := by
  unfold fo at h
  split at h
  · rename_i fs hu
    split at h
    · rename_i fd hf
      simp only [Option.map_eq_some_iff, Prod.mk.injEq, Prod.exists] at h
      obtain ⟨g', n', h1, rfl, rfl, rfl⟩ := h
      exact ⟨fs, fd, hu, hf, rfl, h1⟩
    · cases h
  · cases h

theorem ar_spec {P : Program} {t n s : Nat} {g : Bool} (h : ar P t = some (n, s, g)) : ∃ e, P.underlying t = some (.array n e) ∧ tk P e = some (g, s) := by
  unfold ar at h
  split at h
  · rename_i n' e hu
    simp only [Option.map_eq_some_iff, Prod.mk.injEq, Prod.exists] at h
    obtain ⟨g', s', h1, rfl, rfl, rfl⟩ := h
    exact ⟨e, hu, h1⟩
  · cases h

theorem ptr_value {Γ : Ctx} {H : List Ob} (hok : HeapOk Γ H) {h ver i k : Nat} {y : Value} (hc : conc Γ (.ptr h ver i k) y) {z : Nat} {rows : List (List Leaf)} (ho : obj H h ver = some (z, rows)) :
    ∃ inf b, Γ.hs[h]? = some (inf, ver) ∧ inf.base = some b ∧ y = .pointer (some ⟨b, inf.off + i * inf.sz + k, none⟩) := by
  obtain ⟨inf, h1, _, _⟩ := hok.obj ho
  simp only [conc] at hc
  obtain ⟨inf', ver', p, g1, _, rfl, g3⟩ := hc
  rw [h1] at g1
  cases g1
  obtain ⟨b, hb, rfl⟩ := g3 rfl
  exact ⟨inf, b, h1, hb, rfl⟩

theorem conc_ptr_mk {Γ : Ctx} {h ver i k b : Nat} {inf : Info} {p : Option Addr} (h1 : Γ.hs[h]? = some (inf, ver)) (hb : inf.base = some b) (hp : p = some ⟨b, inf.off + i * inf.sz + k, none⟩) : conc Γ (.ptr h ver i k) (.pointer p) := by
  simp only [conc]
  exact ⟨inf, ver, p, h1, Nat.le_refl _, rfl, fun _ => ⟨b, hb, hp⟩⟩

theorem fieldAt_run {P : Program} {w : World} {s f off n b o : Nat} {g : Bool} (h : fo P s f = some (off, n, g)) (hn : n ≠ 0) :
    (Instr.fieldAt s (.pointer (some ⟨b, o, none⟩)) f).run P w = .ok (.pointer (some ⟨b, o + off, none⟩)) w := by
  obtain ⟨fs, fd, hu, hf, rfl, ht⟩ := fo_spec h
  have hs := (tk_spec ht w).2
  simp [Instr.fieldAt, Instr.sureAddr, run_underlying hu, hf, fieldPlace, hs, hn, add_off]

theorem fieldAddr_sound {P : Program} {Γ : Ctx} {H : List Ob} (hok : HeapOk Γ H) {s f off n : Nat} {g : Bool} (h : fo P s f = some (off, n, g)) (hn : n ≠ 0) {l : Leaf} {y : Value} (hc : conc Γ l y) :
    (∀ hd ver i k z rows, l = .ptr hd ver i k → obj H hd ver = some (z, rows) → ∃ v, (Instr.fieldAt s y f).run P Γ.w = .ok v Γ.w ∧ conc Γ (.ptr hd ver i (k + off)) v) ∧
    (∀ rows i k, l = .fptr rows i k → ∃ v, (Instr.fieldAt s y f).run P Γ.w = .ok v Γ.w ∧ conc Γ (.fptr rows i (k + off)) v) := by
  constructor
  · rintro hd ver i k z rows rfl ho
    obtain ⟨inf, b, h1, hb, rfl⟩ := ptr_value hok hc ho
    exact ⟨_, fieldAt_run h hn, conc_ptr_mk h1 hb (by rw [Nat.add_assoc])⟩
  · rintro rows i k rfl
    simp only [conc] at hc
    obtain ⟨b, o, sz, rfl, h2, h3⟩ := hc
    refine ⟨_, fieldAt_run h hn, ?_⟩
    simp only [conc]
    exact ⟨b, o, sz, by rw [← Nat.add_assoc], h2, h3⟩

theorem intBin_sound {P : Program} {Γ : Ctx} {op : BinOp} {k : IntKind} {m n : Int} {l : Leaf} (h : intBin op k m n = some l) (t : TypeId) :
    ∃ y, (binOp op t (.int k m) (.int k n)).run P Γ.w = .ok y Γ.w ∧ conc Γ l y := by
  unfold intBin at h
  cases op <;> simp only [reduceCtorEq] at h
  all_goals first
    | (simp only [Option.some.injEq] at h; subst h; exact ⟨_, by simp [binOp, Op.intArith, Op.intCmp]; rfl, by simp [conc, Value.oneCell']⟩)
    | (simp only [Option.some.injEq] at h; subst h; exact ⟨_, by simp [binOp, Op.intBits]; rfl, by simp [conc, Value.oneCell']⟩)
    | (split at h
       · cases h
       · rename_i hn
         simp only [Option.some.injEq] at h
         subst h
         exact ⟨_, by simp [binOp, Op.shift, hn]; rfl, by simp [conc, Value.oneCell']⟩)
    | (split at h
       · cases h
       · rename_i hn
         simp only [Option.some.injEq] at h
         subst h
         exact ⟨_, by simp [binOp, Op.intDiv, hn]; rfl, by simp [conc, Value.oneCell']⟩)

theorem bool_eq_run {P : Program} {w : World} (t : TypeId) (m n : Bool) (op : BinOp) (hop : op = .eql ∨ op = .neq) (ht : P.underlying t = some .bool) :
    (binOp op t (.bool m) (.bool n)).run P w = .ok (.bool (if op = .eql then m == n else !(m == n))) w := by
  have := run_equalIn_bool' (P := P) w 9999 t m n ht
  rcases hop with rfl | rfl <;> simp [binOp, Op.equal, Op.maxDepth, this]

theorem slice_nil_run {P : Program} {w : World} {t e : TypeId} (ht : P.underlying t = some (.slice e)) (a : Option Addr) (n c : Nat) (op : BinOp) (hop : op = .eql ∨ op = .neq) :
    (binOp op t (.slice a n c) (.slice none 0 0)).run P w = .ok (.bool (if op = .eql then a.isNone else !a.isNone)) w := by
  have h : ∀ d, (Op.equalIn (d + 1) t (.slice a n c) (.slice none 0 0)).run P w = .ok a.isNone w := by
    intro d
    cases a <;> simp [Op.equalIn, run_underlying ht]
  have h := h 9999
  rcases hop with rfl | rfl <;> simp [binOp, Op.equal, Op.maxDepth, h]

theorem nilB_spec {Γ : Ctx} {H : List Ob} (hok : HeapOk Γ H) {l : Leaf} {b : Bool} (h : nilB H l = some b) {y : Value} (hc : conc Γ l y) : ∃ a n c, y = .slice a n c ∧ a.isNone = b := by
  unfold nilB at h
  split at h
  · split at h
    · simp only [Option.some.injEq] at h
      subst h
      simp only [conc] at hc
      rcases hc with ⟨_, h0⟩ | ⟨a, cap, sz, rfl, _⟩
      · cases h0
      · exact ⟨some a, _, cap, rfl, rfl⟩
    · cases h
  · simp only [Option.some.injEq] at h
    subst h
    simp only [conc] at hc
    obtain ⟨a, cap, sz, rfl, _⟩ := hc
    exact ⟨some a, _, cap, rfl, rfl⟩
  · simp only [Option.some.injEq] at h
    subst h
    simp only [conc] at hc
    exact ⟨none, 0, 0, hc.1, rfl⟩
  · rename_i hd ver lo len
    split at h
    · rename_i zr ho
      obtain ⟨z, rows⟩ := zr
      split at h
      · rename_i hlen
        simp only [Option.some.injEq] at h
        subst h
        obtain ⟨inf, h1, _, _⟩ := hok.obj ho
        simp only [conc] at hc
        obtain ⟨inf', ver', a, cap, g1, _, rfl, g3⟩ := hc
        rw [h1] at g1
        cases g1
        rcases g3 rfl with ⟨_, _, _, _, h0⟩ | ⟨b, a', _, rfl, _⟩
        · omega
        · exact ⟨some a', _, _, rfl, rfl⟩
      · cases h
    · cases h
  · cases h

theorem isNilS_spec {b : Leaf} (h : isNilS b = true) : b = .v (.slice none 0 0) := by
  unfold isNilS at h
  split at h
  · rfl
  · cases h

theorem eqGuard_slice {P : Program} {w : World} (op : BinOp) (t : TypeId) (x y : Operand) (a b : Option Addr) (n m c d : Nat) : (eqGuard op t x y (.slice a n c) (.slice b m d)).run P w = .ok () w := by
  cases op <;> simp [eqGuard]
theorem eqGuard_int {P : Program} {w : World} (op : BinOp) (t : TypeId) (x y : Operand) (k k' : IntKind) (m n : Int) : (eqGuard op t x y (.int k m) (.int k' n)).run P w = .ok () w := by
  cases op <;> simp [eqGuard]
theorem eqGuard_bool {P : Program} {w : World} (op : BinOp) (t : TypeId) (x y : Operand) (m n : Bool) : (eqGuard op t x y (.bool m) (.bool n)).run P w = .ok () w := by
  cases op <;> simp [eqGuard]

theorem agg_eq_run {P : Program} {Γ : Ctx} {t : TypeId} {s : List Sh} (hs : eqs P t = some s) {as bs : List Leaf} {xs ys : Array Value} (hx : concAll Γ as xs.toList) (hy : concAll Γ bs ys.toList) {b : Bool} (he : eqCells s as bs = some b) (x y : Operand) (op : BinOp) (hop : op = .eql ∨ op = .neq) :
    (eqGuard op t x y (.agg xs) (.agg ys)).run P Γ.w = .ok () Γ.w ∧ (binOp op t (.agg xs) (.agg ys)).run P Γ.w = .ok (.bool (if op = .eql then b else !b)) Γ.w := by
  unfold eqs at hs
  split at hs
  case h_2 => cases hs
  rename_i fs hu
  split at hs
  · cases hs
  · rename_i hgt
    refine ⟨run_eqGuard_agg (P := P) Γ.w op t x y xs ys (by simpa using hgt), ?_⟩
    have h := eq_shape (P := P) (w := Γ.w) 8 t s hs as bs xs.toList ys.toList b hx hy he 10000 (by omega)
    have e1 : ofCells P t xs.toList = .agg xs := by simp [ofCells, hu]
    have e2 : ofCells P t ys.toList = .agg ys := by simp [ofCells, hu]
    rw [e1, e2] at h
    rcases hop with rfl | rfl
    · rw [run_eql_struct, h]; simp
    · rw [run_neq_struct, h]; simp

theorem binV_sound {P : Program} {Γ : Ctx} {H : List Ob} (hok : HeapOk Γ H) {op : BinOp} {t : TypeId} {u v : AVal} {l : Leaf} (h : binV P H op t u v = some l) (x y : Operand) {a b : Value} (ha : concV Γ u a) (hb : concV Γ v b) :
    (eqGuard op t x y a b).run P Γ.w = .ok () Γ.w ∧ ∃ z, (binOp op t a b).run P Γ.w = .ok z Γ.w ∧ conc Γ l z := by
  unfold binV at h
  split at h
  · rename_i k m k' n
    split at h
    · rename_i hk
      subst hk
      simp only [concV, conc] at ha hb
      obtain ⟨rfl, _⟩ := ha
      obtain ⟨rfl, _⟩ := hb
      exact ⟨eqGuard_int op t x y k k m n, intBin_sound h t⟩
    · cases h
  · rename_i m n
    simp only [concV, conc] at ha hb
    obtain ⟨rfl, _⟩ := ha
    obtain ⟨rfl, _⟩ := hb
    split at h
    case h_2 => cases h
    rename_i ht
    split at h
    · simp only [Option.some.injEq] at h
      subst h
      exact ⟨eqGuard_bool _ t x y m n, _, bool_eq_run t m n .eql (.inl rfl) ht, by simp [conc, Value.oneCell']⟩
    · simp only [Option.some.injEq] at h
      subst h
      exact ⟨eqGuard_bool _ t x y m n, _, bool_eq_run t m n .neq (.inr rfl) ht, by simp [conc, Value.oneCell']⟩
    · cases h
  · rename_i as bs
    split at h
    case h_2 => cases h
    rename_i s hs
    simp only [concV] at ha hb
    obtain ⟨xs, rfl, hx⟩ := ha
    obtain ⟨ys, rfl, hy⟩ := hb
    split at h
    · simp only [Option.map_eq_some_iff] at h
      obtain ⟨e, he, rfl⟩ := h
      have := agg_eq_run hs hx hy he x y .eql (.inl rfl)
      exact ⟨this.1, _, this.2, by simp [conc, Value.oneCell']⟩
    · simp only [Option.map_eq_some_iff] at h
      obtain ⟨e, he, rfl⟩ := h
      have := agg_eq_run hs hx hy he x y .neq (.inr rfl)
      exact ⟨this.1, _, this.2, by simp [conc, Value.oneCell']⟩
    · cases h
  · rename_i c d _ _
    split at h
    case isFalse => cases h
    rename_i hn
    have := isNilS_spec hn
    subst this
    simp only [concV] at ha hb
    simp only [conc] at hb
    obtain ⟨rfl, _⟩ := hb
    split at h
    case h_2 => cases h
    rename_i e ht
    split at h
    · simp only [Option.map_eq_some_iff] at h
      obtain ⟨e, he, rfl⟩ := h
      obtain ⟨a, n, c, rfl, rfl⟩ := nilB_spec hok he ha
      exact ⟨eqGuard_slice _ t x y _ _ _ _ _ _, _, slice_nil_run ht a n c .eql (.inl rfl), by simp [conc, Value.oneCell']⟩
    · simp only [Option.map_eq_some_iff] at h
      obtain ⟨e, he, rfl⟩ := h
      obtain ⟨a, n, c, rfl, rfl⟩ := nilB_spec hok he ha
      exact ⟨eqGuard_slice _ t x y _ _ _ _ _ _, _, slice_nil_run ht a n c .neq (.inr rfl), by simp [conc, Value.oneCell']⟩
    · cases h
  · cases h

theorem sliceBound_run {P : Program} {w : World} (k : IntKind) (i : Int) (y : Nat) (code : BoundsCode) (h0 : 0 ≤ i) (h1 : i ≤ y) : (Instr.sliceBound (.int k i) y code).run P w = .ok i.toNat w := by
  simp [Instr.sliceBound, asIntOf, h0, h1]

theorem slice_run {P : Program} {w : World} {t e : TypeId} {size : Nat} (ht : P.underlying t = some (.slice e)) (hs : (sizeOf e).run P w = .ok size w) (a : Option Addr) (n cap : Nat) (lo hi : Option Value) (l h : Int)
    (hlo : (lo = none ∧ l = 0) ∨ ∃ k, lo = some (.int k l)) (hhi : (hi = none ∧ h = n) ∨ ∃ k, hi = some (.int k h)) (h0 : 0 ≤ l) (h1 : l ≤ h) (h2 : h ≤ n) (hnc : n ≤ cap) :
    (Instr.sliceAt t (.slice a n cap) lo hi none).run P w = .ok (.slice (if cap = l.toNat then a else a.map (·.add (l.toNat * size))) (h.toNat - l.toNat) (cap - l.toNat)) w := by
  have e1 : ((h.toNat : Nat) : Int) = h := by omega
  rcases hlo with ⟨rfl, rfl⟩ | ⟨k, rfl⟩ <;> rcases hhi with ⟨rfl, rfl⟩ | ⟨k', rfl⟩
  · simp [Instr.sliceAt, run_underlying ht, Instr.slice, Instr.sliceBounds, hs]
  · have hb := sliceBound_run (P := P) (w := w) k' h cap .sliceAcap (by omega) (by omega)
    simp [Instr.sliceAt, run_underlying ht, Instr.slice, Instr.sliceBounds, hs, hb]
  · have hb := sliceBound_run (P := P) (w := w) k l n .sliceB h0 (by omega)
    simp [Instr.sliceAt, run_underlying ht, Instr.slice, Instr.sliceBounds, hs, hb]
  · have hb' := sliceBound_run (P := P) (w := w) k' h cap .sliceAcap (by omega) (by omega)
    have hb := sliceBound_run (P := P) (w := w) k l h.toNat .sliceB h0 (by omega)
    simp [Instr.sliceAt, run_underlying ht, Instr.slice, Instr.sliceBounds, hs, hb, hb']

theorem frozen_slice {Γ : Ctx} {rows : List (List Leaf)} {a : Addr} {cap sz size : Nat} (hcap : rows.length ≤ cap) (h3 : rows = [] ∨ (a.spot = none ∧ Γ.F a.block ∧ concRows Γ a.block sz a.off rows)) (hl : ∀ r ∈ rows, r.length = size)
    (l h : Nat) (h1 : l ≤ h) (h2 : h ≤ rows.length) :
    ∃ a' cap' sz', Value.slice (if cap = l then some a else some (a.add (l * size))) (h - l) (cap - l) = .slice (some a') ((rows.take h).drop l).length cap' ∧ ((rows.take h).drop l).length ≤ cap' ∧
      ((rows.take h).drop l = [] ∨ (a'.spot = none ∧ Γ.F a'.block ∧ concRows Γ a'.block sz' a'.off ((rows.take h).drop l))) := by
  have hlen : ((rows.take h).drop l).length = h - l := by simp; omega
  refine ⟨if cap = l then a else a.add (l * size), cap - l, sz, ?_, by rw [hlen]; omega, ?_⟩
  · rw [hlen]; congr 1; split <;> rfl
  · by_cases h0 : h = l
    · left
      exact List.eq_nil_of_length_eq_zero (by rw [hlen]; omega)
    · right
      rcases h3 with rfl | ⟨g1, g2, g3⟩
      · simp at h2; omega
      · have hsz : size = sz := by
          cases rows with
          | nil => simp at h2; omega
          | cons r rs => rw [← hl r (by simp), (concRows_get g3 (i := 0) (r := r) (by simp)).1]
        subst hsz
        rw [if_neg (by omega)]
        obtain ⟨b, o, s⟩ := a
        simp only at g1 g2 g3
        subst g1
        rw [add_off]
        exact ⟨rfl, g2, concRows_drop (concRows_take g3 h) l⟩

theorem sliceV_sound {P : Program} {Γ : Ctx} {H : List Ob} (hok : HeapOk Γ H) {t : TypeId} {x r : Leaf} {lo hi : Option Int} (hv : sliceV P H t x lo hi = some r) {y : Value} (hc : conc Γ x y) (vlo vhi : Option Value)
    (hlo : (vlo = none ∧ lo = none) ∨ ∃ k n, vlo = some (.int k n) ∧ lo = some n) (hhi : (vhi = none ∧ hi = none) ∨ ∃ k n, vhi = some (.int k n) ∧ hi = some n) :
    ∃ z, (Instr.sliceAt t y vlo vhi none).run P Γ.w = .ok z Γ.w ∧ conc Γ r z := by
  unfold sliceV at hv
  split at hv
  case h_2 => cases hv
  rename_i e size rest n hse hn
  obtain ⟨bytes, zz⟩ := rest
  obtain ⟨ht, i, zv, hi', rfl, _, _, _, _⟩ := se_spec hse
  have hs : (sizeOf e).run P Γ.w = .ok i.size Γ.w := by simp [sizeOf, typeInfo, hi']
  split at hv
  case isFalse => cases hv
  rename_i hb
  obtain ⟨b1, b2, b3⟩ := hb
  have hlo' : (vlo = none ∧ lo.getD 0 = 0) ∨ ∃ k, vlo = some (.int k (lo.getD 0)) := by
    rcases hlo with ⟨h1, h2⟩ | ⟨k, m, h1, h2⟩
    · exact .inl ⟨h1, by simp [h2]⟩
    · exact .inr ⟨k, by simp [h1, h2]⟩
  have hhi' : (vhi = none ∧ hi.getD n = n) ∨ ∃ k, vhi = some (.int k (hi.getD n)) := by
    rcases hhi with ⟨h1, h2⟩ | ⟨k, m, h1, h2⟩
    · exact .inl ⟨h1, by simp [h2]⟩
    · exact .inr ⟨k, by simp [h1, h2]⟩
  generalize lo.getD 0 = l at *
  generalize hi.getD (n : Int) = h at *
  clear hlo hhi
  have frozen : ∀ rows : List (List Leaf), n = rows.length → (∀ r ∈ rows, r.length = i.size) → (∃ a cap sz, y = .slice (some a) rows.length cap ∧ rows.length ≤ cap ∧ (rows = [] ∨ (a.spot = none ∧ Γ.F a.block ∧ concRows Γ a.block sz a.off rows))) →
      ∃ z, (Instr.sliceAt t y vlo vhi none).run P Γ.w = .ok z Γ.w ∧ ∃ a' cap' sz', z = .slice (some a') ((rows.take h.toNat).drop l.toNat).length cap' ∧ ((rows.take h.toNat).drop l.toNat).length ≤ cap' ∧
        ((rows.take h.toNat).drop l.toNat = [] ∨ (a'.spot = none ∧ Γ.F a'.block ∧ concRows Γ a'.block sz' a'.off ((rows.take h.toNat).drop l.toNat))) := by
    rintro rows rfl hl ⟨a, cap, sz, rfl, hcap, h3⟩
    have hr := slice_run (P := P) (w := Γ.w) ht hs (some a) rows.length cap vlo vhi l h hlo' hhi' b1 b2 b3 hcap
    simp only [Option.map_some] at hr
    exact ⟨_, hr, frozen_slice hcap h3 hl l.toNat h.toNat (by omega) (by omega)⟩
  split at hv
  · rename_i rows
    split at hv
    case isFalse => cases hv
    rename_i hl
    cases hv
    simp only [lenL, Option.some.injEq] at hn
    simp only [conc] at hc
    rcases hc with ⟨rfl, rfl⟩ | hc
    · simp at hn
      subst hn
      have e1 : l = 0 := by omega
      have e2 : h = 0 := by omega
      subst e1 e2
      have hr := slice_run (P := P) (w := Γ.w) ht hs none 0 0 vlo vhi 0 0 hlo' (by simpa using hhi') (by omega) (by omega) (by omega) (by omega)
      exact ⟨_, hr, by simp [conc]⟩
    · obtain ⟨z, g1, g2⟩ := frozen rows hn.symm hl hc
      exact ⟨z, g1, by simp only [conc]; exact .inr g2⟩
  · rename_i rows
    split at hv
    case isFalse => cases hv
    rename_i hl
    cases hv
    simp only [lenL, Option.some.injEq] at hn
    simp only [conc] at hc
    obtain ⟨z, g1, g2⟩ := frozen rows hn.symm hl hc
    exact ⟨z, g1, by simp only [conc]; exact g2⟩
  · rename_i hd ver lo0 len
    split at hv
    case h_2 => cases hv
    rename_i z rows ho
    split at hv
    case isFalse => cases hv
    rename_i hz
    cases hv
    simp only [lenL, Option.some.injEq] at hn
    subst hn
    obtain ⟨inf, h1, hm, h2⟩ := hok.obj ho
    simp only [conc] at hc
    obtain ⟨inf', ver', a, cap, g1, _, rfl, g3⟩ := hc
    rw [h1] at g1
    cases g1
    rcases g3 rfl with ⟨hb0, rfl, rfl, rfl, rfl⟩ | ⟨b, a', hb0, rfl, rfl, hlc, ha⟩
    · have e1 : l = 0 := by omega
      have e2 : h = 0 := by omega
      subst e1 e2
      have hr := slice_run (P := P) (w := Γ.w) ht hs none 0 0 vlo vhi 0 0 hlo' (by simpa using hhi') (by omega) (by omega) (by omega) (by omega)
      refine ⟨_, hr, ?_⟩
      simp only [conc]
      exact ⟨inf, ver, none, 0, h1, Nat.le_refl _, by simp, fun _ => .inl ⟨hb0, rfl, rfl, by simp, by simp⟩⟩
    · simp only [hb0] at h2
      have hsz : inf.sz = i.size := by rw [h2.1, hz]
      have hr := slice_run (P := P) (w := Γ.w) ht hs (some a') len (inf.cap - lo0) vlo vhi l h hlo' hhi' b1 b2 b3 (by omega)
      refine ⟨_, hr, ?_⟩
      simp only [conc]
      refine ⟨inf, ver, _, _, h1, Nat.le_refl _, rfl, fun _ => .inr ⟨b, if inf.cap - lo0 = l.toNat then a' else a'.add (l.toNat * i.size), hb0, by split <;> rfl, by omega, by omega, fun hlt => ?_⟩⟩
      rw [if_neg (by omega), ha (by omega), add_off, hsz, Nat.add_mul, Nat.add_assoc]
  · cases hv
    simp only [lenL, Option.some.injEq] at hn
    subst hn
    simp only [conc] at hc
    obtain ⟨rfl, _⟩ := hc
    have e1 : l = 0 := by omega
    have e2 : h = 0 := by omega
    subst e1 e2
    have hr := slice_run (P := P) (w := Γ.w) ht hs none 0 0 vlo vhi 0 0 hlo' (by simpa using hhi') (by omega) (by omega) (by omega) (by omega)
    exact ⟨_, hr, by simp [conc, Value.oneCell']⟩
  · cases hv

theorem indexAt_run {P : Program} {w : World} {t e : TypeId} {size : Nat} (ht : P.underlying t = some (.slice e)) (hs : (sizeOf e).run P w = .ok size w) (b o n cap : Nat) (k : IntKind) (i : Int) (h0 : 0 ≤ i) (h1 : i < n) :
    (Instr.indexAt t (.slice (some ⟨b, o, none⟩) n cap) (.int k i)).run P w = .ok (.pointer (some ⟨b, o + i.toNat * size, none⟩)) w := by
  simp [Instr.indexAt, asIntOf, run_underlying ht, h0, h1, hs, add_off]

theorem indexAt_arr_run {P : Program} {w : World} {t e n : TypeId} {size : Nat} (ht : P.underlying t = some (.array n e)) (hs : (sizeOf e).run P w = .ok size w) (b o : Nat) (k : IntKind) (i : Int) (h0 : 0 ≤ i) (h1 : i < n) :
    (Instr.indexAt t (.pointer (some ⟨b, o, none⟩)) (.int k i)).run P w = .ok (.pointer (some ⟨b, o + i.toNat * size, none⟩)) w := by
  simp [Instr.indexAt, Instr.sureAddr, asIntOf, run_underlying ht, h0, h1, hs, add_off]

theorem indexAddrV_sound {P : Program} {Γ : Ctx} {H : List Ob} (hok : HeapOk Γ H) {t : TypeId} {x r : Leaf} {i : Int} (hv : indexAddrV P H t x i = some r) {y : Value} (hc : conc Γ x y) (k : IntKind) :
    ∃ z, (Instr.indexAt t y (.int k i)).run P Γ.w = .ok z Γ.w ∧ conc Γ r z := by
  unfold indexAddrV at hv
  split at hv
  · rename_i hd ver lo len
    split at hv
    case h_2 => cases hv
    rename_i e size rest z rows hse ho
    obtain ⟨bytes, zz⟩ := rest
    split at hv
    case isFalse => cases hv
    rename_i hb
    obtain ⟨b1, b2, rfl, b4⟩ := hb
    cases hv
    obtain ⟨ht, ii, zv, hi', rfl, _, _, _, _⟩ := se_spec hse
    have hs : (sizeOf e).run P Γ.w = .ok ii.size Γ.w := by simp [sizeOf, typeInfo, hi']
    obtain ⟨inf, h1, hm, h2⟩ := hok.obj ho
    simp only [conc] at hc
    obtain ⟨inf', ver', a, cap, g1, _, rfl, g3⟩ := hc
    rw [h1] at g1
    cases g1
    rcases g3 rfl with ⟨hb0, rfl, rfl, rfl, rfl⟩ | ⟨b, a', hb0, rfl, rfl, hlc, ha⟩
    · omega
    · simp only [hb0] at h2
      rw [ha (by omega)]
      refine ⟨_, indexAt_run ht hs b _ len _ k i b1 b2, conc_ptr_mk h1 hb0 ?_⟩
      rw [h2.1, Nat.add_mul]
      simp [Nat.add_assoc]
  · rename_i hd ver ri k'
    split at hv
    case h_2 => cases hv
    rename_i n size g zr har ho
    obtain ⟨z, rows⟩ := zr
    split at hv
    case isFalse => cases hv
    rename_i hb
    cases hv
    obtain ⟨e, ht, hte⟩ := ar_spec har
    obtain ⟨inf, b, h1, hb0, rfl⟩ := ptr_value hok hc ho
    exact ⟨_, indexAt_arr_run ht (tk_spec hte Γ.w).2 b _ k i hb.1 hb.2, conc_ptr_mk h1 hb0 (by rw [Nat.add_assoc])⟩
  · rename_i hx1 hx2
    split at hv
    case h_2 => cases hv
    rename_i e size rest rows hse hview
    obtain ⟨bytes, zz⟩ := rest
    split at hv
    case isFalse => cases hv
    rename_i hb
    split at hv
    case h_2 => cases hv
    rename_i row hrow
    split at hv
    case isFalse => cases hv
    rename_i hrl
    cases hv
    obtain ⟨ht, ii, zv, hi', rfl, _, _, _, _⟩ := se_spec hse
    have hs : (sizeOf e).run P Γ.w = .ok ii.size Γ.w := by simp [sizeOf, typeInfo, hi']
    have hF : ∃ a cap sz, y = .slice (some a) rows.length cap ∧ (rows = [] ∨ (a.spot = none ∧ Γ.F a.block ∧ concRows Γ a.block sz a.off rows)) := by
      cases x with
      | slv rs =>
        simp only [view, Option.some.injEq] at hview
        subst hview
        simp only [conc] at hc
        rcases hc with ⟨_, rfl⟩ | ⟨a, cap, sz, h1, _, h3⟩
        · simp at hb; omega
        · exact ⟨a, cap, sz, h1, h3⟩
      | slq rs =>
        simp only [view, Option.some.injEq] at hview
        subst hview
        simp only [conc] at hc
        obtain ⟨a, cap, sz, h1, _, h3⟩ := hc
        exact ⟨a, cap, sz, h1, h3⟩
      | v w =>
        unfold view at hview
        split at hview <;> first | (rename_i heq; cases heq; done) | skip
        all_goals (try (simp only [Option.some.injEq] at hview; subst hview; simp at hb; omega))
        all_goals (try cases hview)
      | sl a b c d => exact absurd rfl (hx1 a b c d)
      | _ => simp [view] at hview
    obtain ⟨a, cap, sz, rfl, h3⟩ := hF
    rcases h3 with rfl | ⟨g1, g2, g3⟩
    · simp at hb; omega
    · obtain ⟨b, o, s⟩ := a
      simp only at g1 g2 g3
      subst g1
      refine ⟨_, indexAt_run ht hs b o rows.length cap k i hb.1 hb.2, ?_⟩
      simp only [conc]
      refine ⟨b, o, sz, ?_, g2, g3⟩
      rw [← hrl, (concRows_get g3 hrow).1]
      simp

end Go.Nx
/- What is made: structs, slices. -/
namespace Go.Nx
set_option linter.unusedVariables false
set_option linter.unusedSimpArgs false

theorem concAll_putSeg {Γ : Ctx} {cells cs : List Leaf} {zs vs : List Value} (h : concAll Γ cells zs) (h' : concAll Γ cs vs) (k : Nat) (hk : k + cs.length ≤ cells.length) : concAll Γ (putSeg cells k cs) (putSeg zs k vs) := by
  have e1 := concAll_length h
  have e2 := concAll_length h'
  refine concAll_mk (by rw [putSeg_length, putSeg_length, e1]) fun j l y hl hy => ?_
  rw [putSeg_get _ _ _ _ hk] at hl
  rw [putSeg_get _ _ _ _ (by omega)] at hy
  rw [e2] at hy
  split at hl
  · rename_i hin
    rw [if_pos hin] at hy
    obtain ⟨z, g1, g2⟩ := concAll_get h' hl
    rw [hy] at g1
    cases g1
    exact g2
  · rename_i hin
    rw [if_neg hin] at hy
    obtain ⟨z, g1, g2⟩ := concAll_get h hl
    rw [hy] at g1
    cases g1
    exact g2

theorem fold_putSeg (off : Nat) : ∀ (l : List Value) (k : Nat) (cs : Array Value), ((l.zipIdx k).foldl (fun (cs : Array Value) (p : Value × Nat) => cs.setIfInBounds (off + p.2) p.1) cs).toList = putSeg cs.toList (off + k) l
  | [], k, cs => rfl
  | x :: l, k, cs => by
    simp only [List.zipIdx_cons, List.foldl_cons]
    rw [fold_putSeg off l (k + 1)]
    simp [putSeg, Array.toList_setIfInBounds, Nat.add_assoc]

theorem fill_step (off : Nat) (v cs : Array Value) : (v.zipIdx.foldl (fun cs (p : Value × Nat) => cs.setIfInBounds (off + p.2) p.1) cs).toList = putSeg cs.toList off v.toList := by
  rw [← Array.foldl_toList, Array.toList_zipIdx]
  simpa using fold_putSeg off v.toList 0 cs

/-- Parts, as the text has them and as they run. -/
def Parts (Γ : Ctx) : List (Nat × Option AVal) → List (Nat × Value) → Prop
  | [], ys => ys = []
  | (i, x) :: r, ys => ∃ v ys', ys = (i, v) :: ys' ∧ (∀ a, x = some a → concV Γ a v) ∧ Parts Γ r ys'

theorem fillL_spec {Γ : Ctx} (place : Nat → Option (Nat × Nat)) (places : List (Nat × Nat)) (hp : ∀ (i : Nat) (p : Nat × Nat), places[i]? = some p → place i = some p) :
    ∀ (parts : List (Nat × Option AVal)) (vs : List (Nat × Value)) (cells cs : List Leaf) (zs : Array Value), Parts Γ parts vs → concAll Γ cells zs.toList → fillL places cells parts = some cs →
      ∃ out, Instr.fill place zs vs = some out ∧ concAll Γ cs out.toList
  | [], vs, cells, cs, zs, hP, hc, hf => by
    simp only [Parts] at hP
    subst hP
    simp only [fillL, Option.some.injEq] at hf
    subst hf
    exact ⟨zs, rfl, hc⟩
  | (i, x) :: r, vs, cells, cs, zs, hP, hc, hf => by
    simp only [Parts] at hP
    obtain ⟨v, ys', rfl, hx, hP'⟩ := hP
    simp only [fillL] at hf
    split at hf
    case h_2 => cases hf
    rename_i off size av hpl
    split at hf
    case h_2 => cases hf
    rename_i ls hls
    split at hf
    case isFalse => cases hf
    rename_i hcond
    have hv := cells_spec (hx av rfl) hls
    have hvl := concAll_length hv
    have hzl := concAll_length hc
    simp only [Array.length_toList] at hvl hzl
    obtain ⟨out, g1, g2⟩ := fillL_spec place places hp r ys' (putSeg cells off ls) cs (v.cells.zipIdx.foldl (fun cs (p : Value × Nat) => cs.setIfInBounds (off + p.2) p.1) zs) hP' (by rw [fill_step]; exact concAll_putSeg hc hv off (by omega)) hf
    refine ⟨out, ?_, g2⟩
    have hpi := hp i _ hpl
    simp only [Instr.fill, hpi]
    rw [if_neg (by simp; omega)]
    exact g1

theorem zc_spec {P : Program} {t : TypeId} {z : List Leaf} (h : zc P t = some z) : ∃ i zv, P.info? t = some i ∧ i.zero = some zv ∧ zv.cells.size = i.size ∧ leaves zv = some z := by
  unfold zc at h
  split at h
  · rename_i i hi
    split at h
    · rename_i zv hz
      split at h
      · rename_i hs; exact ⟨i, zv, hi, hz, hs, h⟩
      · cases h
    · cases h
  · cases h

theorem build_sound {P : Program} {Γ : Ctx} {t : TypeId} {z cs : List Leaf} {places : List (Nat × Nat)} (h : cm P t = some (z, places)) {parts : List (Nat × Option AVal)} {vs : Array (Nat × Value)} (hP : Parts Γ parts vs.toList) (hf : fillL places z parts = some cs) :
    ∃ out, (Instr.build t vs).run P Γ.w = .ok (.agg out) Γ.w ∧ concAll Γ cs out.toList := by
  unfold cm at h
  split at h
  · rename_i fs hu
    split at h
    case h_2 => cases h
    rename_i z' ps hz hps
    simp only [Option.some.injEq, Prod.mk.injEq] at h
    obtain ⟨rfl, rfl⟩ := h
    obtain ⟨i, zv, hi, hzv, hs, hl⟩ := zc_spec hz
    obtain ⟨out, g1, g2⟩ := fillL_spec (Γ := Γ) (ps.toArray[·]?) ps (fun i p hp => by simpa using hp) parts vs.toList z' cs zv.cells hP (conc_leaves hl) hf
    refine ⟨out, run_build Γ.w t vs out ?_, g2⟩
    unfold Program.built
    simp only [hi, hu, hzv, hps]
    exact g1
  · rename_i n e hu
    split at h
    case h_2 => cases h
    rename_i z' ie hz hie
    simp only [Option.some.injEq, Prod.mk.injEq] at h
    obtain ⟨rfl, rfl⟩ := h
    obtain ⟨i, zv, hi, hzv, hs, hl⟩ := zc_spec hz
    obtain ⟨out, g1, g2⟩ := fillL_spec (Γ := Γ) (fun k => some (k * ie.size, ie.size)) _ (fun k p hp => by
      simp only [List.getElem?_map, Option.map_eq_some_iff] at hp
      obtain ⟨m, h1, rfl⟩ := hp
      obtain ⟨hlt, h1⟩ := List.getElem?_eq_some_iff.1 h1
      simp at h1
      rw [h1]) parts vs.toList z' cs zv.cells hP (conc_leaves hl) hf
    refine ⟨out, run_build Γ.w t vs out ?_, g2⟩
    unfold Program.built
    simp only [hi, hu, hzv, hie]
    exact g1
  · cases h

theorem replicate_get {α : Type} (l : List α) (hl : 0 < l.length) : ∀ (n j : Nat), (List.replicate n l).flatten[j]? = if j < n * l.length then l[j % l.length]? else none
  | 0, j => by simp
  | n + 1, j => by
    rw [List.replicate_succ, List.flatten_cons]
    by_cases h : j < l.length
    · rw [List.getElem?_append_left h, if_pos (by rw [Nat.add_mul]; omega), Nat.mod_eq_of_lt h]
    · rw [List.getElem?_append_right (by omega), replicate_get l hl n]
      rw [Nat.mod_eq_sub_mod (by omega : l.length ≤ j)]
      by_cases h2 : j < (n + 1) * l.length
      · rw [if_pos (by rw [Nat.add_mul] at h2; omega), if_pos h2]
      · rw [if_neg (by rw [Nat.add_mul] at h2; omega), if_neg h2]

theorem madeCells_list (z : Array Value) (n size : Nat) (hz : z.size = size) (hs : 0 < size) : (madeCells z (n * size)).toList = (List.replicate n z.toList).flatten := by
  apply List.ext_getElem?
  intro j
  rw [replicate_get z.toList (by simpa [hz] using hs) n j]
  simp only [madeCells, Array.toList_map, Array.toList_range, List.getElem?_map, Array.length_toList, hz]
  by_cases h : j < n * size
  · rw [if_pos h, List.getElem?_range h]
    have hlt : j % size < z.size := by rw [hz]; exact Nat.mod_lt _ hs
    simp [hlt]
  · rw [if_neg h]
    simp [h]

theorem set_flatten {α : Type} {size : Nat} : ∀ (rows : List (List α)) (i : Nat) (cs : List α), (∀ r ∈ rows, r.length = size) → cs.length = size → i < rows.length → (rows.set i cs).flatten = putSeg rows.flatten (i * size) cs
  | [], i, cs, _, _, hi => by simp at hi
  | r :: rs, i, cs, hl, hcs, hi => by
    have hr := hl r (by simp)
    have hfl : ∀ (rs : List (List α)), (∀ r ∈ rs, r.length = size) → rs.flatten.length = rs.length * size := by
      intro rs h
      induction rs with
      | nil => simp
      | cons x xs ih => simp only [List.flatten_cons, List.length_append, List.length_cons, h x (by simp), ih (fun y hy => h y (by simp [hy])), Nat.add_mul]; omega
    have hrs := hfl rs (fun x hx => hl x (by simp [hx]))
    apply List.ext_getElem?
    intro j
    rw [putSeg_get _ _ _ _ (by
      simp only [List.flatten_cons, List.length_append, hr, hrs, hcs]
      have : (i + 1) * size ≤ (rs.length + 1) * size := Nat.mul_le_mul_right _ (by simp at hi; omega)
      rw [Nat.add_mul, Nat.add_mul] at this
      omega)]
    cases i with
    | zero =>
      simp only [List.set_cons_zero, List.flatten_cons, Nat.zero_mul, Nat.zero_le, true_and, Nat.zero_add, Nat.sub_zero]
      by_cases h : j < cs.length
      · rw [if_pos h, List.getElem?_append_left h]
      · rw [if_neg h, List.getElem?_append_right (by omega), List.getElem?_append_right (by omega)]
        congr 1
        omega
    | succ i =>
      simp only [List.set_cons_succ, List.flatten_cons]
      have ih := set_flatten rs i cs (fun x hx => hl x (by simp [hx])) hcs (by simpa using hi)
      by_cases h : j < r.length
      · rw [List.getElem?_append_left h, if_neg (by rw [Nat.add_mul]; omega), List.getElem?_append_left h]
      · rw [List.getElem?_append_right (by omega), ih, putSeg_get _ _ _ _ (by
          rw [hrs, hcs]
          have : (i + 1) * size ≤ rs.length * size := Nat.mul_le_mul_right _ (by simp at hi; omega)
          rw [Nat.add_mul] at this
          omega)]
        by_cases h2 : i * size ≤ j - r.length ∧ j - r.length < i * size + cs.length
        · rw [if_pos h2, if_pos (by rw [Nat.add_mul]; omega)]
          congr 1
          rw [Nat.add_mul]
          omega
        · rw [if_neg h2, if_neg (by rw [Nat.add_mul]; omega), List.getElem?_append_right (by omega)]

theorem rowsL_spec {Γ : Ctx} {size : Nat} : ∀ (parts : List (Nat × Option AVal)) (vs : List (Nat × Value)) (rows out : List (List Leaf)) (zs : Array Value), Parts Γ parts vs → (∀ r ∈ rows, r.length = size) → concAll Γ rows.flatten zs.toList → rowsL size rows parts = some out →
      ∃ cells, Instr.fill (fun i => some (i * size, size)) zs vs = some cells ∧ concAll Γ out.flatten cells.toList ∧ (∀ r ∈ out, r.length = size) ∧ out.length = rows.length
  | [], vs, rows, out, zs, hP, hl, hc, hf => by
    simp only [Parts] at hP
    subst hP
    simp only [rowsL, Option.some.injEq] at hf
    subst hf
    exact ⟨zs, rfl, hc, hl, rfl⟩
  | (i, x) :: r, vs, rows, out, zs, hP, hl, hc, hf => by
    simp only [Parts] at hP
    obtain ⟨v, ys', rfl, hx, hP'⟩ := hP
    simp only [rowsL] at hf
    split at hf
    case h_2 => cases hf
    rename_i av
    split at hf
    case h_2 => cases hf
    rename_i ls hls
    split at hf
    case isFalse => cases hf
    rename_i hcond
    have hv := cells_spec (hx av rfl) hls
    have hvl := concAll_length hv
    have hzl := concAll_length hc
    rw [flatten_length hl] at hzl
    simp only [Array.length_toList] at hvl hzl
    have hb : (i + 1) * size ≤ rows.length * size := Nat.mul_le_mul_right _ (by omega)
    rw [Nat.add_mul] at hb
    have hset := set_flatten rows i ls hl hcond.1 hcond.2
    obtain ⟨cells, g1, g2, g3, g4⟩ := rowsL_spec r ys' (rows.set i ls) out (v.cells.zipIdx.foldl (fun cs (p : Value × Nat) => cs.setIfInBounds (i * size + p.2) p.1) zs) hP'
      (fun y hy => by
        rcases List.mem_or_eq_of_mem_set hy with h | h
        · exact hl y h
        · rw [h]; exact hcond.1)
      (by rw [fill_step, hset]; exact concAll_putSeg hc hv _ (by rw [flatten_length hl, hcond.1]; omega)) hf
    refine ⟨cells, ?_, g2, g3, by simpa using g4⟩
    simp only [Instr.fill]
    rw [if_neg (by simp; omega)]
    exact g1

theorem concAll_flatten_replicate {Γ : Ctx} {z : List Leaf} {zs : List Value} (h : concAll Γ z zs) : ∀ n, concAll Γ (List.replicate n z).flatten (List.replicate n zs).flatten
  | 0 => by simp [concAll]
  | n + 1 => by simpa [List.replicate_succ] using concAll_append h (concAll_flatten_replicate h n)

theorem buildSlice_sound {P : Program} {Γ : Ctx} {H : List Ob} (hok : HeapOk Γ H) {t e : TypeId} {n size bytes : Nat} {z : List Leaf} (h : se P t = some (e, size, bytes, z)) (hsz : 0 < size) (hn : n * size ≤ 16777216) (hzl : z.length = size) (hnm : n ≤ maxLen)
    {parts : List (Nat × Option AVal)} {vs : Array (Nat × Value)} (hP : Parts Γ parts vs.toList) {out : List (List Leaf)} (hf : rowsL size (List.replicate n z) parts = some out) :
    ∃ y Γ', (Instr.buildSlice t n vs).run P Γ.w = .ok y Γ'.w ∧ Γ.Ext Γ' ∧ HeapOk Γ' (H ++ [.live 0 size out]) ∧ conc Γ' (.sl H.length 0 0 n) y := by
  obtain ⟨ht, i, zv, hi, rfl, _, hzv, hzs, hl⟩ := se_spec h
  have hzc := conc_leaves (Γ := Γ) hl
  have hz0 : concAll Γ (List.replicate n z).flatten (madeCells zv.cells (n * i.size)).toList := by
    rw [madeCells_list zv.cells n i.size hzs hsz]
    exact concAll_flatten_replicate hzc n
  obtain ⟨cells, g1, g2, g3, g4⟩ := rowsL_spec parts vs.toList _ out _ hP (fun r hr => by rw [(List.mem_replicate.1 hr).2]; exact hzl) hz0 hf
  have hcl := concAll_length g2
  rw [flatten_length g3, g4] at hcl
  simp only [List.length_replicate, Array.length_toList] at hcl g4
  have hlim : ¬ (16777216 < n * i.size) := by omega
  have hso : (sizeOf e).run P Γ.w = .ok i.size Γ.w := by simp [sizeOf, typeInfo, hi]
  have hfill : Instr.fill (fun k => some (k * i.size, i.size)) ((Array.range (n * i.size)).map (zv.cells[· % zv.cells.size]!)) vs.toList = some cells := g1
  have hrun : (Instr.buildSlice t n vs).run P Γ.w = .ok (.slice (some ⟨Γ.w.heap.size, 0, none⟩) n n) (Γ.w.alloc (.cells cells e)) := by
    by_cases h0 : n * i.size = 0
    · have hn0 : n = 0 := by
        rcases Nat.mul_eq_zero.1 h0 with h | h
        · exact h
        · omega
      subst hn0
      have hr0 : Array.range 0 = #[] := rfl
      simp only [Nat.zero_mul, hr0, Array.map_empty] at hfill
      simp [Instr.buildSlice, run_underlying ht, hso, hr0, hfill, newRow]
    · simp [Instr.buildSlice, run_underlying ht, hso, hlim, h0, zeroValue, typeInfo, hi, hzv, hfill, newRow]
  refine ⟨_, Γ.alloc cells e ⟨some Γ.w.heap.size, 0, n, i.size⟩, hrun, Ext_alloc hok _ _ _, HeapOk_alloc hok cells e n i.size out hnm (by omega) hsz (by omega) g3 cells.toList g2 (fun k y hk => by simpa using hk), ?_⟩
  simp only [conc]
  exact ⟨⟨some Γ.w.heap.size, 0, n, i.size⟩, 0, _, n, by simp [Ctx.alloc, hok.len], Nat.le_refl _, rfl, fun _ => .inr ⟨Γ.w.heap.size, _, rfl, rfl, by simp, by simp, fun _ => by simp⟩⟩

theorem makeSlice_sound {P : Program} {Γ : Ctx} {H : List Ob} (hok : HeapOk Γ H) {t e : TypeId} {size bytes : Nat} {z : List Leaf} (h : se P t = some (e, size, bytes, z)) (hsz : 0 < size) (hzl : z.length = size) (kl kc : IntKind) (n : Int) (h0 : 0 ≤ n)
    (hb : (bytes : Int) * n ≤ 281474976710656) (hm : n ≤ maxLen) :
    ∃ y Γ', (Instr.makeSlice t (.int kl n) (.int kc n)).run P Γ.w = .ok y Γ'.w ∧ Γ.Ext Γ' ∧ HeapOk Γ' (H ++ [.live 0 size (List.replicate n.toNat z)]) ∧ conc Γ' (.sl H.length 0 0 n.toNat) y := by
  obtain ⟨ht, i, zv, hi, rfl, rfl, hzv, hzs, hl⟩ := se_spec h
  have hrun := run_make (P := P) Γ.w t e i zv ht hi hzv kl kc n n h0 (Int.le_refl _) hb (by unfold maxLen at hm; omega)
  refine ⟨_, Γ.alloc (madeCells zv.cells (n.toNat * i.size)) e ⟨some Γ.w.heap.size, 0, n.toNat, i.size⟩, hrun, Ext_alloc hok _ _ _, ?_, ?_⟩
  · refine HeapOk_alloc hok _ e n.toNat i.size _ (by omega) (by simp) hsz (by simp [size_madeCells]) (fun r hr => by rw [(List.mem_replicate.1 hr).2]; exact hzl) (madeCells zv.cells (n.toNat * i.size)).toList ?_ (fun k y hk => by simpa using hk)
    rw [madeCells_list zv.cells n.toNat i.size hzs hsz]
    exact concAll_flatten_replicate (conc_leaves hl) _
  · simp only [conc]
    exact ⟨⟨some Γ.w.heap.size, 0, n.toNat, i.size⟩, 0, _, n.toNat, by simp [Ctx.alloc, hok.len], Nat.le_refl _, rfl, fun _ => .inr ⟨Γ.w.heap.size, _, rfl, rfl, by simp, by simp, fun _ => by simp⟩⟩

/-- A new variable. -/
theorem newVar_sound {P : Program} {Γ : Ctx} {H : List Ob} (hok : HeapOk Γ H) (T : TypeId) {v : Value} {z : Leaf} {zs : List Leaf} (hc : concAll Γ (z :: zs) v.cells.toList) :
    ∃ Γ', (newVar T v).run P Γ.w = .ok ⟨Γ.w.heap.size, 0, none⟩ Γ'.w ∧ Γ.Ext Γ' ∧ HeapOk Γ' (H ++ [.live 0 (zs.length + 1) [z :: zs]]) ∧ conc Γ' (.ptr H.length 0 0 0) (.pointer (some ⟨Γ.w.heap.size, 0, none⟩)) := by
  have hl := concAll_length hc
  simp only [Array.length_toList, List.length_cons] at hl
  refine ⟨Γ.alloc v.cells T ⟨some Γ.w.heap.size, 0, 1, zs.length + 1⟩, by simp [newVar, newRow]; rfl, Ext_alloc hok _ _ _, HeapOk_alloc hok v.cells T 1 (zs.length + 1) [z :: zs] (by simp [maxLen]) (by simp) (by omega) (by omega) (by simp) v.cells.toList (by simpa using hc) (fun k y hk => by simpa using hk), ?_⟩
  simp only [conc]
  exact ⟨⟨some Γ.w.heap.size, 0, 1, zs.length + 1⟩, 0, _, by simp [Ctx.alloc, hok.len], Nat.le_refl _, rfl, fun _ => ⟨Γ.w.heap.size, rfl, by simp⟩⟩

end Go.Nx
/- 'stp' tells what each operation does. -/
namespace Go.Nx
set_option linter.unusedVariables false
set_option linter.unusedSimpArgs false

theorem OpRes.leaf {Γ : Ctx} {r : Result Next} {l : Leaf} {H : List Ob} (hok : HeapOk Γ H) {s : Sem Value} {P : Program} (h : ∃ z, s.run P Γ.w = .ok z Γ.w ∧ conc Γ l z) (hr : r = ((do pure (Next.value (← s))) : Sem Next).run P Γ.w) : OpRes Γ r (.c l) H := by
  obtain ⟨z, h1, h2⟩ := h
  exact .val (y := z) hok (by rw [hr]; simp [h1]) (by simpa [concV] using h2)

theorem mkSeg_spec {Γ : Ctx} {P : Program} {t : TypeId} {g : Bool} {n off : Nat} (ht : tk P t = some (g, n)) {cs : List Leaf} {xs : Array Value} (hc : concAll Γ cs xs.toList) {x : AVal} (h : mkSeg g cs off n = some x) :
    ∃ z, (part t xs off).run P Γ.w = .ok z Γ.w ∧ concV Γ x z := by
  have hl := concAll_length hc
  simp only [Array.length_toList] at hl
  obtain ⟨g1, g2⟩ := tk_spec ht Γ.w
  unfold mkSeg at h
  cases g with
  | true =>
    simp only [if_true] at h
    split at h
    · simp only [Option.some.injEq] at h
      subst h
      have hs := seg_array xs.toList off n
      refine ⟨.agg (xs.extract off (off + n)), by simp [part, g1, g2], ?_⟩
      simp only [concV]
      refine ⟨_, rfl, ?_⟩
      rw [show xs.extract off (off + n) = ((xs.toList.drop off).take n).toArray from hs]
      exact concAll_take (concAll_drop hc off) n
    · cases h
  | false =>
    simp only [Bool.false_eq_true, if_false, Option.map_eq_some_iff] at h
    obtain ⟨l, h1, rfl⟩ := h
    obtain ⟨y, h2, h3⟩ := concAll_get hc h1
    have h4 : xs[off]? = some y := by simpa using h2
    exact ⟨y, by simp [part, g1, h4], by simpa [concV] using h3⟩

theorem leafL_spec {Γ : Ctx} {e : Env} {a : Act} : ∀ (ops : List Operand) (ls : List Leaf), (∀ p ∈ ops, Good Γ e a p) → leafL (ops.map (evO e)) = some ls → concAll Γ ls (ops.map a.eval)
  | [], ls, _, h => by
    simp [leafL] at h
    subst h
    simp [concAll]
  | p :: ps, ls, hg, h => by
    simp only [List.map_cons] at h
    unfold leafL at h
    split at h
    · rename_i heq; cases heq
    · rename_i l r heq
      simp only [List.cons.injEq] at heq
      obtain ⟨h1, rfl⟩ := heq
      simp only [Option.map_eq_some_iff] at h
      obtain ⟨ls', h2, rfl⟩ := h
      simp only [List.map_cons, concAll]
      have := hg p (by simp) _ h1
      simp only [concV] at this
      exact ⟨_, _, rfl, this, leafL_spec ps ls' (fun q hq => hg q (by simp [hq])) h2⟩
    · cases h

theorem foldI_spec {Γ : Ctx} {P : Program} {e : Env} {a : Act} (f : Int → Int → Int) (f2 : Value → Value → Sem Value) (hf : ∀ m k n w, (f2 (.int .i64 m) (.int k n)).run P w = .ok (.int .i64 (f m n)) w) :
    ∀ (ops : List Operand) (acc n : Int), (∀ p ∈ ops, Good Γ e a p) → foldI f acc (ops.map (evO e)) = some n → ((ops.map a.eval).foldlM f2 (.int .i64 acc)).run P Γ.w = .ok (.int .i64 n) Γ.w
  | [], acc, n, _, h => by
    simp [foldI] at h
    subst h
    simp
  | p :: ps, acc, n, hg, h => by
    simp only [List.map_cons] at h
    unfold foldI at h
    split at h
    · rename_i heq; cases heq
    · rename_i k m r heq
      simp only [List.cons.injEq] at heq
      obtain ⟨h1, rfl⟩ := heq
      have hp := hg p (by simp) _ h1
      simp only [concV, conc] at hp
      have ih := foldI_spec f f2 hf ps (f acc m) n (fun q hq => hg q (by simp [hq])) h
      simp only [List.map_cons, List.foldlM_cons, Sem.run_bind, hp.1, hf, Result.andThen_ok, ih]
    · cases h

theorem parts_of {Γ : Ctx} {e : Env} {a : Act} (ps : List (Nat × Operand)) (hg : ∀ p ∈ ps.map (·.2), Good Γ e a p) : Parts Γ (ps.map fun (i, x) => (i, evO e x)) (ps.map fun (i, x) => (i, a.eval x)) := by
  induction ps with
  | nil => simp [Parts]
  | cons p ps ih =>
    obtain ⟨i, x⟩ := p
    simp only [List.map_cons, Parts]
    exact ⟨_, _, rfl, fun v hv => hg x (by simp) v hv, ih (fun q hq => hg q (by simp only [List.map_cons, List.mem_cons]; exact .inr hq))⟩

theorem lenL_spec {Γ : Ctx} {l : Leaf} {n : Nat} (h : lenL l = some n) {y : Value} (hc : conc Γ l y) : ∃ a c, y = .slice a n c := by
  unfold lenL at h
  split at h
  · simp only [Option.some.injEq] at h
    subst h
    simp only [conc] at hc
    rcases hc with ⟨rfl, rfl⟩ | ⟨a, cap, sz, rfl, _⟩
    · exact ⟨none, 0, rfl⟩
    · exact ⟨_, _, rfl⟩
  · simp only [Option.some.injEq] at h
    subst h
    simp only [conc] at hc
    obtain ⟨a, cap, sz, rfl, _⟩ := hc
    exact ⟨_, _, rfl⟩
  · simp only [Option.some.injEq] at h
    subst h
    simp only [conc] at hc
    exact ⟨none, 0, hc.1⟩
  · simp only [Option.some.injEq] at h
    subst h
    simp only [conc] at hc
    obtain ⟨inf, ver', a, cap, _, _, rfl, _⟩ := hc
    exact ⟨_, _, rfl⟩
  · cases h

theorem optInt_spec {Γ : Ctx} {e : Env} {a : Act} {o : Option Operand} {n : Option Int} (hg : ∀ p, o = some p → Good Γ e a p) (h : optInt e o = some n) : (o.map a.eval = none ∧ n = none) ∨ ∃ k m, o.map a.eval = some (.int k m) ∧ n = some m := by
  cases o with
  | none => simp [optInt] at h; exact .inl ⟨rfl, h.symm⟩
  | some p =>
    right
    unfold optInt at h
    simp only at h
    split at h
    · rename_i v hv
      have hc := hg p rfl v hv
      unfold intL at h
      split at h
      · rename_i k m
        simp only [concV, conc] at hc
        simp at h
        exact ⟨k, m, by simp [hc.1], h.symm⟩
      · simp at h
    · cases h

end Go.Nx
/- 'stp' is right. -/
namespace Go.Nx
set_option linter.unusedVariables false
set_option linter.unusedSimpArgs false

theorem pick_sound {P : Program} {Γ : Ctx} {H H' : List Ob} (hok : HeapOk Γ H) {e : Env} {a : Act} {o : Oper} {c p q : Operand} (ho : o.op = .pick c p q) {x : AVal} (h : stp P e H o.op = some (x, H'))
    (hc : Good Γ e a c) (hp : evO e c = some (.c (.v (.bool true))) → Good Γ e a p) (hq : evO e c = some (.c (.v (.bool false))) → Good Γ e a q) : OpRes Γ ((execOp a.eval o).run P Γ.w) x H' := by
  rw [ho] at h
  unfold stp at h
  simp only at h
  split at h
  case h_2 => cases h
  rename_i t u v h1 h2 h3
  simp only [Option.some.injEq, Prod.mk.injEq] at h
  obtain ⟨rfl, rfl⟩ := h
  have hb := hc _ h1
  simp only [concV, conc] at hb
  refine .val (y := if t then a.eval p else a.eval q) hok (by simp [execOp, ho, hb.1, asBool]) ?_
  cases t with
  | true =>
    have := hp h1 _ h2
    unfold pickV
    split
    · simpa using this
    · simpa using this
  | false =>
    have := hq h1 _ h3
    unfold pickV
    split
    · simpa using this
    · simpa using this

set_option maxHeartbeats 1000000 in
theorem stp_sound {P : Program} {Γ : Ctx} {H H' : List Ob} (hok : HeapOk Γ H) {e : Env} {a : Act} {o : Oper} {x : AVal} (hg : ∀ p ∈ o.op.operands, Good Γ e a p) (h : stp P e H o.op = some (x, H')) : OpRes Γ ((execOp a.eval o).run P Γ.w) x H' := by
  obtain ⟨dst, op, ty, pos, after, guard⟩ := o
  simp only at hg h
  cases op with
  | move y =>
    simp only [stp, Option.map_eq_some_iff, Prod.mk.injEq] at h
    obtain ⟨v, h1, rfl, rfl⟩ := h
    exact .val hok (by simp [execOp]) (hg y (by simp [Op.operands]) v h1)
  | assign y =>
    simp only [stp, Option.map_eq_some_iff, Prod.mk.injEq] at h
    obtain ⟨v, h1, rfl, rfl⟩ := h
    exact .val hok (by simp [execOp]) (hg y (by simp [Op.operands]) v h1)
  | pick c p q => exact pick_sound hok (o := ⟨dst, .pick c p q, ty, pos, after, guard⟩) rfl h (hg c (by simp [Op.operands])) (fun _ => hg p (by simp [Op.operands])) (fun _ => hg q (by simp [Op.operands]))
  | alloc t =>
    simp only [stp] at h
    split at h
    case h_2 => cases h
    rename_i z zs hz
    simp only [Option.some.injEq, Prod.mk.injEq] at h
    obtain ⟨rfl, rfl⟩ := h
    obtain ⟨i, zv, hi, hzv, hs, hl⟩ := zc_spec hz
    obtain ⟨Γ', g1, g2, g3, g4⟩ := newVar_sound (P := P) hok t (conc_leaves hl)
    exact ⟨.pointer (some ⟨Γ.w.heap.size, 0, none⟩), Γ', .inl (by simp [execOp, Instr.alloc, zeroValue, typeInfo, hi, hzv, g1]), g2, g3, by simpa [concV] using g4⟩
  | box t y =>
    simp only [stp] at h
    split at h
    case h_2 => cases h
    rename_i v hv
    split at h
    case h_2 => cases h
    rename_i z zs hz
    simp only [Option.some.injEq, Prod.mk.injEq] at h
    obtain ⟨rfl, rfl⟩ := h
    have hc := cells_spec (hg y (by simp [Op.operands]) v hv) hz
    obtain ⟨Γ', g1, g2, g3, g4⟩ := newVar_sound (P := P) hok t hc
    exact ⟨.pointer (some ⟨Γ.w.heap.size, 0, none⟩), Γ', .inl (by simp [execOp, Instr.box, g1]), g2, g3, by simpa [concV] using g4⟩
  | build t ps =>
    simp only [stp] at h
    split at h
    case h_2 => cases h
    rename_i z places hcm
    simp only [Option.map_eq_some_iff, Prod.mk.injEq] at h
    obtain ⟨cs, h1, rfl, rfl⟩ := h
    have hP := parts_of (Γ := Γ) (e := e) (a := a) ps.toList (fun p hp => hg p (by simpa [Op.operands] using hp))
    obtain ⟨out, g1, g2⟩ := build_sound (P := P) (vs := ps.map fun (i, x) => (i, a.eval x)) hcm (by simpa using hP) h1
    exact .val hok (by simp [execOp, g1]) ⟨out, rfl, g2⟩
  | buildSlice t n ps =>
    simp only [stp] at h
    split at h
    case h_2 => cases h
    rename_i el size bytes z hse
    split at h
    case isFalse => cases h
    rename_i hb
    obtain ⟨b1, b2, b3, b4⟩ := hb
    simp only [Option.map_eq_some_iff, Prod.mk.injEq] at h
    obtain ⟨rows, h1, rfl, rfl⟩ := h
    have hP := parts_of (Γ := Γ) (e := e) (a := a) ps.toList (fun p hp => hg p (by simpa [Op.operands] using hp))
    obtain ⟨y, Γ', g1, g2, g3, g4⟩ := buildSlice_sound (P := P) hok (vs := ps.map fun (i, x) => (i, a.eval x)) hse b1 b2 b3 b4 (by simpa using hP) h1
    exact ⟨y, Γ', .inl (by simp [execOp, g1]), g2, g3, by simpa [concV] using g4⟩
  | makeSlice t l c =>
    simp only [stp] at h
    split at h
    case h_2 => cases h
    rename_i el size bytes z k n k' m hse hl hcv
    split at h
    case isFalse => cases h
    rename_i hb
    obtain ⟨b1, b2, b3, rfl, b5, b6⟩ := hb
    simp only [Option.some.injEq, Prod.mk.injEq] at h
    obtain ⟨rfl, rfl⟩ := h
    have h1 := hg l (by simp [Op.operands]) _ hl
    have h2 := hg c (by simp [Op.operands]) _ hcv
    simp only [concV, conc] at h1 h2
    obtain ⟨y, Γ', g1, g2, g3, g4⟩ := makeSlice_sound (P := P) hok hse b1 b2 k k' n b3 b5 b6
    exact ⟨y, Γ', .inl (by simp [execOp, h1.1, h2.1, g1]), g2, g3, by simpa [concV] using g4⟩
  | load t y =>
    simp only [stp] at h
    split at h
    · rename_i n p ht hp
      simp only [Option.map_eq_some_iff, Prod.mk.injEq] at h
      obtain ⟨cs, h1, rfl, rfl⟩ := h
      have hc := hg y (by simp [Op.operands]) _ hp
      simp only [concV] at hc
      obtain ⟨ys, g1, g2⟩ := (load_sound (P := P) hok hc).1 n cs ht h1
      exact .val hok (by simp [execOp, g1]) ⟨ys, rfl, g2⟩
    · rename_i n p ht hp
      simp only [Option.map_eq_some_iff, Prod.mk.injEq] at h
      obtain ⟨l, h1, rfl, rfl⟩ := h
      have hc := hg y (by simp [Op.operands]) _ hp
      simp only [concV] at hc
      obtain ⟨z, g1, g2⟩ := (load_sound (P := P) hok hc).2 n l ht h1
      exact .val hok (y := z) (by simp [execOp, g1]) (by simpa [concV] using g2)
    · cases h
  | store t y v =>
    simp only [stp] at h
    split at h
    case h_2 => cases h
    rename_i g n hd ver i k av ht hy hv
    split at h
    case h_2 => cases h
    rename_i cs z rows hcs ho
    split at h
    case isFalse => cases h
    rename_i hn
    split at h
    case h_2 => cases h
    rename_i r hr
    split at h
    case isFalse => cases h
    rename_i hle
    simp only [Option.some.injEq, Prod.mk.injEq] at h
    obtain ⟨rfl, rfl⟩ := h
    have hc := hg y (by simp [Op.operands]) _ hy
    simp only [concV] at hc
    obtain ⟨Γ', g1, g2, g3⟩ := store_sound (P := P) hok hc ht ho hr hn hle (cells_spec (hg v (by simp [Op.operands]) _ hv) hcs)
    exact ⟨undef, Γ', .inr ⟨by simp [execOp, g1], rfl⟩, g2, g3, by simp [concV, concVs, undef]⟩
  | nilCheck y =>
    simp only [stp] at h
    split at h
    · rename_i hd ver i k hy
      simp only [Option.map_eq_some_iff, Prod.mk.injEq] at h
      obtain ⟨zr, h1, rfl, rfl⟩ := h
      obtain ⟨z, rows⟩ := zr
      have hc := hg y (by simp [Op.operands]) _ hy
      simp only [concV] at hc
      obtain ⟨inf, b, _, _, he⟩ := ptr_value hok hc h1
      refine .val hok (y := a.eval y) (by simp [execOp, he]) (by simpa [concV] using hc)
    · rename_i rows i k hy
      simp only [Option.some.injEq, Prod.mk.injEq] at h
      obtain ⟨rfl, rfl⟩ := h
      have hc := hg y (by simp [Op.operands]) _ hy
      have hc' := hc
      simp only [concV, conc] at hc
      obtain ⟨b, off, sz, he, _⟩ := hc
      exact .val hok (y := a.eval y) (by simp [execOp, he]) hc'
    · rename_i f cs hy
      simp only [Option.some.injEq, Prod.mk.injEq] at h
      obtain ⟨rfl, rfl⟩ := h
      have hc := hg y (by simp [Op.operands]) _ hy
      have hc' := hc
      simp only [concV, conc] at hc
      obtain ⟨ys, he, _⟩ := hc
      exact .val hok (y := a.eval y) (by simp [execOp, he]) hc'
    · cases h
  | binOp op t y z t' =>
    simp only [stp] at h
    split at h
    case h_2 => cases h
    rename_i u v hu hv
    simp only [Option.map_eq_some_iff, Prod.mk.injEq] at h
    obtain ⟨l, h1, rfl, rfl⟩ := h
    obtain ⟨g1, r, g2, g3⟩ := binV_sound hok h1 y z (hg y (by simp [Op.operands]) _ hu) (hg z (by simp [Op.operands]) _ hv)
    exact .val hok (y := r) (by simp [execOp, g1, g2]) (by simpa [concV] using g3)
  | unOp op t y =>
    simp only [stp] at h
    split at h
    · rename_i b hb
      simp only [Option.some.injEq, Prod.mk.injEq] at h
      obtain ⟨rfl, rfl⟩ := h
      have hc := hg y (by simp [Op.operands]) _ hb
      simp only [concV, conc] at hc
      exact .val hok (y := .bool (!b)) (by simp [execOp, hc.1, Op.unary]) (by simp [concV, conc, Value.oneCell'])
    · rename_i k n hb
      simp only [Option.some.injEq, Prod.mk.injEq] at h
      obtain ⟨rfl, rfl⟩ := h
      have hc := hg y (by simp [Op.operands]) _ hb
      simp only [concV, conc] at hc
      exact .val hok (y := .int k (k.wrap (-n))) (by simp [execOp, hc.1, Op.unary, Op.intArith]) (by simp [concV, conc, Value.oneCell'])
    · cases h
  | convert s d y =>
    simp only [stp] at h
    split at h
    case h_2 => cases h
    rename_i k1 k2 k3 n h1 h2 h3
    simp only [Option.some.injEq, Prod.mk.injEq] at h
    obtain ⟨rfl, rfl⟩ := h
    have hc := hg y (by simp [Op.operands]) _ h3
    simp only [concV, conc] at hc
    unfold ik at h1 h2
    split at h1
    case h_2 => cases h1
    rename_i hu1
    split at h2
    case h_2 => cases h2
    rename_i hu2
    cases h1
    cases h2
    refine .val hok (y := .int k2 (k2.wrap n)) ?_ (by simp [concV, conc, Value.oneCell'])
    simp [execOp, hc.1, convert, run_underlying hu1, run_underlying hu2, Conv.intToInt]
  | makeFunc f first caps =>
    cases f with
    | func f =>
      simp only [stp] at h
      split at h
      case isFalse => cases h
      rename_i hf
      simp only [Option.map_eq_some_iff, Prod.mk.injEq] at h
      obtain ⟨cs, h1, rfl, rfl⟩ := h
      have hfe : first = #[] := Array.eq_empty_of_size_eq_zero hf
      subst hfe
      have hc := leafL_spec (Γ := Γ) (a := a) caps.toList cs (fun p hp => hg p (by simpa [Op.operands] using hp)) h1
      refine .val hok (y := .func (.func f) #[] (caps.map a.eval)) (by simp [execOp, Instr.makeFunc]) ?_
      simp only [concV, conc]
      exact ⟨_, rfl, by simpa using hc⟩
    | _ => simp [stp] at h
  | slice t y lo hi mx =>
    cases mx with
    | some m => simp [stp] at h
    | none =>
      simp only [stp] at h
      split at h
      case h_2 => cases h
      rename_i l lo' hi' hy hlo hhi
      simp only [Option.map_eq_some_iff, Prod.mk.injEq] at h
      obtain ⟨r, h1, rfl, rfl⟩ := h
      have hc := hg y (by simp [Op.operands]) _ hy
      simp only [concV] at hc
      obtain ⟨z, g1, g2⟩ := sliceV_sound (P := P) hok h1 hc (lo.map a.eval) (hi.map a.eval) (optInt_spec (Γ := Γ) (fun p hp => hg p (by simp [Op.operands, hp])) hlo) (optInt_spec (Γ := Γ) (fun p hp => hg p (by simp [Op.operands, hp])) hhi)
      exact .val hok (y := z) (by simp [execOp, g1]) (by simpa [concV] using g2)
  | fieldAddr s y f =>
    simp only [stp] at h
    split at h
    · rename_i off n g hd ver i k hfo hy
      split at h
      · cases h
      · rename_i hn
        simp only [Option.map_eq_some_iff, Prod.mk.injEq] at h
        obtain ⟨zr, h1, rfl, rfl⟩ := h
        obtain ⟨z, rows⟩ := zr
        have hc := hg y (by simp [Op.operands]) _ hy
        simp only [concV] at hc
        obtain ⟨v, g1, g2⟩ := (fieldAddr_sound (P := P) hok hfo hn hc).1 hd ver i k z rows rfl h1
        exact .val hok (y := v) (by simp [execOp, g1]) (by simpa [concV] using g2)
    · rename_i off n g rows i k hfo hy
      split at h
      · cases h
      · rename_i hn
        simp only [Option.some.injEq, Prod.mk.injEq] at h
        obtain ⟨rfl, rfl⟩ := h
        have hc := hg y (by simp [Op.operands]) _ hy
        simp only [concV] at hc
        obtain ⟨v, g1, g2⟩ := (fieldAddr_sound (P := P) hok hfo hn hc).2 rows i k rfl
        exact .val hok (y := v) (by simp [execOp, g1]) (by simpa [concV] using g2)
    · cases h
  | field s y f =>
    simp only [stp] at h
    split at h
    case h_2 => cases h
    rename_i off n g cs hfo hy
    simp only [Option.map_eq_some_iff, Prod.mk.injEq] at h
    obtain ⟨v, h1, rfl, rfl⟩ := h
    obtain ⟨fs, fd, hu, hf, rfl, ht⟩ := fo_spec hfo
    have hc := hg y (by simp [Op.operands]) _ hy
    simp only [concV] at hc
    obtain ⟨xs, he, hc⟩ := hc
    obtain ⟨z, g1, g2⟩ := mkSeg_spec (P := P) ht hc h1
    exact .val hok (by simp [execOp, he, Instr.field, run_underlying hu, hf, asAgg, g1]) g2
  | indexAddr t y i =>
    simp only [stp] at h
    split at h
    case h_2 => cases h
    rename_i l k n hy hi
    simp only [Option.map_eq_some_iff, Prod.mk.injEq] at h
    obtain ⟨r, h1, rfl, rfl⟩ := h
    have hc := hg y (by simp [Op.operands]) _ hy
    have hci := hg i (by simp [Op.operands]) _ hi
    simp only [concV, conc] at hc hci
    obtain ⟨z, g1, g2⟩ := indexAddrV_sound (P := P) hok h1 hc k
    exact .val hok (y := z) (by simp [execOp, hci.1, g1]) (by simpa [concV] using g2)
  | index t y i =>
    simp only [stp] at h
    split at h
    case h_2 => cases h
    rename_i n size g cs k j har hy hi
    split at h
    case isFalse => cases h
    rename_i hb
    simp only [Option.map_eq_some_iff, Prod.mk.injEq] at h
    obtain ⟨v, h1, rfl, rfl⟩ := h
    obtain ⟨el, ht, hte⟩ := ar_spec har
    have hc := hg y (by simp [Op.operands]) _ hy
    have hci := hg i (by simp [Op.operands]) _ hi
    simp only [concV, conc] at hc hci
    obtain ⟨xs, he, hc⟩ := hc
    obtain ⟨z, g1, g2⟩ := mkSeg_spec (P := P) hte hc h1
    exact .val hok (by simp [execOp, he, hci.1, Instr.index, asIntOf, run_underlying ht, hb.1, hb.2, (tk_spec hte Γ.w).2, g1]) g2
  | extract y i =>
    simp only [stp] at h
    split at h
    case h_2 => cases h
    rename_i vs hy
    simp only [Option.map_eq_some_iff, Prod.mk.injEq] at h
    obtain ⟨v, h1, rfl, rfl⟩ := h
    have hc := hg y (by simp [Op.operands]) _ hy
    simp only [concV] at hc
    obtain ⟨ys, he, hc⟩ := hc
    have key : ∀ (vs : List AVal) (ys : List Value) (i : Nat) (v : AVal), concVs Γ vs ys → vs[i]? = some v → ∃ z, ys[i]? = some z ∧ concV Γ v z := by
      intro vs
      induction vs with
      | nil => intro ys i v _ hv; simp at hv
      | cons u us ih =>
        intro ys i v hc hv
        simp only [concVs] at hc
        obtain ⟨z, zs, rfl, h2, h3⟩ := hc
        cases i with
        | zero => simp at hv; subst hv; exact ⟨z, by simp, h2⟩
        | succ i => simpa using ih zs i v h3 (by simpa using hv)
    obtain ⟨z, g1, g2⟩ := key vs ys.toList i v hc h1
    have g1' : ys[i]? = some z := by simpa using g1
    exact .val hok (y := z) (by simp [execOp, he, Instr.extract, g1']) g2
  | call c =>
    obtain ⟨callee, args, argTypes⟩ := c
    cases callee with
    | builtin b =>
      cases b with
      | len =>
        simp only [stp] at h
        split at h
        case h_2 => cases h
        rename_i y t ha ht
        split at h
        case h_2 => cases h
        rename_i el l hu hy
        simp only [Option.map_eq_some_iff, Prod.mk.injEq] at h
        obtain ⟨n, h1, rfl, rfl⟩ := h
        obtain ⟨args⟩ := args
        obtain ⟨argTypes⟩ := argTypes
        simp only at ha ht
        subst ha ht
        have hc := hg y (by simp [Op.operands, Call.operands]) _ hy
        simp only [concV] at hc
        obtain ⟨ad, cap, he⟩ := lenL_spec h1 hc
        exact .val hok (y := .int .i64 n) (by simp [execOp, resolve, invoke, builtin, Builtin.len_, run_underlying hu, he, goInt]) (by simp [concV, conc, Value.oneCell'])
      | append =>
        simp only [stp] at h
        split at h
        case h_2 => cases h
        rename_i s y t t' ha ht
        split at h
        case h_2 => cases h
        rename_i ls lx hs hy
        obtain ⟨args⟩ := args
        obtain ⟨argTypes⟩ := argTypes
        simp only at ha ht
        subst ha ht
        have h1 := hg s (by simp [Op.operands, Call.operands]) _ hs
        have h2 := hg y (by simp [Op.operands, Call.operands]) _ hy
        simp only [concV] at h1 h2
        obtain ⟨z, Γ', g1, g2, g3, g4⟩ := append_sound (P := P) (ty := ty) hok h1 h2 h
        exact ⟨z, Γ', .inl (by simp [execOp, resolve, invoke, builtin, g1]), g2, g3, g4⟩
      | cap =>
        simp only [stp] at h
        split at h
        case h_2 => cases h
        rename_i s t ha ht
        split at h
        case h_2 => cases h
        rename_i el hu hs
        simp only [Option.some.injEq, Prod.mk.injEq] at h
        obtain ⟨rfl, rfl⟩ := h
        obtain ⟨args⟩ := args
        obtain ⟨argTypes⟩ := argTypes
        simp only at ha ht
        subst ha ht
        have h1 := hg s (by simp [Op.operands, Call.operands]) _ hs
        simp only [concV, conc] at h1
        exact .val hok (y := .int .i64 0) (by simp [execOp, resolve, invoke, builtin, Builtin.cap_, run_underlying hu, h1.1, goInt]) (by simp [concV, conc, Value.oneCell'])
      | copy =>
        simp only [stp] at h
        split at h
        case h_2 => cases h
        rename_i s y t t' ha ht
        split at h
        case h_2 => cases h
        rename_i ls lx hs hy
        obtain ⟨args⟩ := args
        obtain ⟨argTypes⟩ := argTypes
        simp only at ha ht
        subst ha ht
        have h1 := hg s (by simp [Op.operands, Call.operands]) _ hs
        have h2 := hg y (by simp [Op.operands, Call.operands]) _ hy
        simp only [concV] at h1 h2
        obtain ⟨z, Γ', g1, g2, g3, g4⟩ := copy_sound (P := P) (t' := t') (ty := ty) hok h1 h2 h
        exact ⟨z, Γ', .inl (by simp [execOp, resolve, invoke, builtin, g1]), g2, g3, g4⟩
      | clear =>
        simp only [stp] at h
        split at h
        case h_2 => cases h
        rename_i s t ha ht
        split at h
        case h_2 => cases h
        rename_i ls hs
        obtain ⟨args⟩ := args
        obtain ⟨argTypes⟩ := argTypes
        simp only at ha ht
        subst ha ht
        have h1 := hg s (by simp [Op.operands, Call.operands]) _ hs
        simp only [concV] at h1
        obtain ⟨z, Γ', g1, g2, g3, g4⟩ := clear_sound (P := P) (ty := ty) hok h1 h
        exact ⟨z, Γ', .inl (by simp [execOp, resolve, invoke, builtin, g1]), g2, g3, g4⟩
      | min =>
        simp only [stp, Option.map_eq_some_iff, Prod.mk.injEq] at h
        obtain ⟨n, h1, rfl, rfl⟩ := h
        obtain ⟨args⟩ := args
        simp only at h1
        unfold foldInt at h1
        split at h1
        case h_2 => cases h1
        rename_i m r heq
        cases args with
        | nil => simp at heq
        | cons p ps =>
          simp only [List.map_cons, List.cons.injEq] at heq
          obtain ⟨hp, rfl⟩ := heq
          have hcp := hg p (by simp [Op.operands, Call.operands]) _ hp
          simp only [concV, conc] at hcp
          have := foldI_spec (P := P) (Γ := Γ) (a := a) min Builtin.min2 (fun m k n w => by simp [Builtin.min2]; omega) ps m n (fun q hq => hg q (by simp [Op.operands, Call.operands, hq])) h1
          exact .val hok (y := .int .i64 n) (by simp [execOp, resolve, invoke, builtin, Builtin.min_, hcp.1, this]) (by simp [concV, conc, Value.oneCell'])
      | max =>
        simp only [stp, Option.map_eq_some_iff, Prod.mk.injEq] at h
        obtain ⟨n, h1, rfl, rfl⟩ := h
        obtain ⟨args⟩ := args
        simp only at h1
        unfold foldInt at h1
        split at h1
        case h_2 => cases h1
        rename_i m r heq
        cases args with
        | nil => simp at heq
        | cons p ps =>
          simp only [List.map_cons, List.cons.injEq] at heq
          obtain ⟨hp, rfl⟩ := heq
          have hcp := hg p (by simp [Op.operands, Call.operands]) _ hp
          simp only [concV, conc] at hcp
          have := foldI_spec (P := P) (Γ := Γ) (a := a) max Builtin.max2 (fun m k n w => by simp [Builtin.max2]; omega) ps m n (fun q hq => hg q (by simp [Op.operands, Call.operands, hq])) h1
          exact .val hok (y := .int .i64 n) (by simp [execOp, resolve, invoke, builtin, Builtin.max_, hcp.1, this]) (by simp [concV, conc, Value.oneCell'])
      | _ => simp [stp] at h
    | _ => simp [stp] at h
  | _ => simp [stp] at h

end Go.Nx
