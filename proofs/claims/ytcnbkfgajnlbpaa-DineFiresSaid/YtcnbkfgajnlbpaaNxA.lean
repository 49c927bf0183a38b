/- The ground of the proofs: what a slot or a cell is known to hold ('Leaf', 'AVal'), what objects a call owns ('Ob'), and what a world must be for that ('conc', 'HeapOk'). -/
import Derived.Calls
import Derived.Below
namespace Go.Nx
set_option linter.unusedVariables false
set_option linter.unusedSimpArgs false

inductive Leaf where
  | v (x : Value)
  | slv (rows : List (List Leaf))
  | ptr (h ver i k : Nat)
  | sl (h ver lo len : Nat)
  | fptr (rows : List (List Leaf)) (i k : Nat)
  | slq (rows : List (List Leaf))
  | clo (f : FuncId) (caps : List Leaf)

inductive AVal where
  | c (l : Leaf)
  | agg (cs : List Leaf)
  | tup (vs : List AVal)

abbrev I (n : Int) : Leaf := .v (.int .i64 n)
abbrev B (b : Bool) : Leaf := .v (.bool b)
abbrev nilS : Leaf := .v (.slice none 0 0)

structure Info where
  base : Option Nat
  off : Nat
  cap : Nat
  sz : Nat

inductive Ob where
  | live (ver sz : Nat) (rows : List (List Leaf))
  | dead

structure Ctx where
  w : World
  F : Nat → Prop
  X : Nat → Prop
  hs : List (Info × Nat)

mutual
def conc (Γ : Ctx) : Leaf → Value → Prop
  | .v x, y => y = x ∧ x.oneCell' = true
  | .slv rows, y => (y = .slice none 0 0 ∧ rows = []) ∨ ∃ a cap sz, y = .slice (some a) rows.length cap ∧ rows.length ≤ cap ∧
      (rows = [] ∨ (a.spot = none ∧ Γ.F a.block ∧ concRows Γ a.block sz a.off rows))
  | .ptr h ver i k, y => ∃ inf ver' p, Γ.hs[h]? = some (inf, ver') ∧ ver ≤ ver' ∧ y = .pointer p ∧ (ver = ver' → ∃ b, inf.base = some b ∧ p = some ⟨b, inf.off + i * inf.sz + k, none⟩)
  | .sl h ver lo len, y => ∃ inf ver' a cap, Γ.hs[h]? = some (inf, ver') ∧ ver ≤ ver' ∧ y = .slice a len cap ∧ (ver = ver' →
      (inf.base = none ∧ a = none ∧ cap = 0 ∧ lo = 0 ∧ len = 0) ∨
      ∃ b a', inf.base = some b ∧ a = some a' ∧ cap = inf.cap - lo ∧ lo + len ≤ inf.cap ∧ (lo < inf.cap → a' = ⟨b, inf.off + lo * inf.sz, none⟩))
  | .fptr rows i k, y => ∃ b off sz, y = .pointer (some ⟨b, off + i * sz + k, none⟩) ∧ Γ.F b ∧ concRows Γ b sz off rows
  | .slq rows, y => ∃ a cap sz, y = .slice (some a) rows.length cap ∧ rows.length ≤ cap ∧
      (rows = [] ∨ (a.spot = none ∧ Γ.F a.block ∧ concRows Γ a.block sz a.off rows))
  | .clo f caps, y => ∃ ys, y = .func (.func f) #[] ys ∧ concAll Γ caps ys.toList
def concRows (Γ : Ctx) (b sz : Nat) : Nat → List (List Leaf) → Prop
  | _, [] => True
  | off, r :: rs => r.length = sz ∧ concRow Γ b off r ∧ concRows Γ b sz (off + sz) rs
def concRow (Γ : Ctx) (b : Nat) : Nat → List Leaf → Prop
  | _, [] => True
  | off, l :: ls => (∃ y, Γ.w.cell? ⟨b, off, none⟩ = some y ∧ conc Γ l y) ∧ concRow Γ b (off + 1) ls
def concAll (Γ : Ctx) : List Leaf → List Value → Prop
  | [], ys => ys = []
  | l :: ls, ys => ∃ y ys', ys = y :: ys' ∧ conc Γ l y ∧ concAll Γ ls ys'
end

mutual
def concV (Γ : Ctx) : AVal → Value → Prop
  | .c l, y => conc Γ l y
  | .agg cs, y => ∃ ys, y = .agg ys ∧ concAll Γ cs ys.toList
  | .tup vs, y => ∃ ys, y = .tuple ys ∧ concVs Γ vs ys.toList
def concVs (Γ : Ctx) : List AVal → List Value → Prop
  | [], ys => ys = []
  | l :: ls, ys => ∃ y ys', ys = y :: ys' ∧ concV Γ l y ∧ concVs Γ ls ys'
end

/-- What is known stays known. -/
structure Ctx.Le (Γ Γ' : Ctx) : Prop where
  F : ∀ b, Γ.F b → Γ'.F b
  mem : ∀ b, Γ.F b → Γ'.w.heap[b]? = Γ.w.heap[b]?
  hs : ∀ (h : Nat) (inf : Info) (ver : Nat), Γ.hs[h]? = some (inf, ver) → ∃ inf' ver', Γ'.hs[h]? = some (inf', ver') ∧ ver ≤ ver' ∧ (ver = ver' → inf' = inf)

theorem Ctx.Le.refl (Γ : Ctx) : Γ.Le Γ := ⟨fun _ h => h, fun _ _ => rfl, fun _ inf ver h => ⟨inf, ver, h, Nat.le_refl _, fun _ => rfl⟩⟩

theorem Ctx.Le.trans {Γ Γ' Γ'' : Ctx} (h : Γ.Le Γ') (h' : Γ'.Le Γ'') : Γ.Le Γ'' where
  F b hb := h'.F b (h.F b hb)
  mem b hb := (h'.mem b (h.F b hb)).trans (h.mem b hb)
  hs n inf ver hn := by
    obtain ⟨inf', ver', h1, h2, h3⟩ := h.hs n inf ver hn
    obtain ⟨inf'', ver'', g1, g2, g3⟩ := h'.hs n inf' ver' h1
    refine ⟨inf'', ver'', g1, by omega, fun e => ?_⟩
    rw [g3 (by omega), h3 (by omega)]

theorem Ctx.Le.cell {Γ Γ' : Ctx} (h : Γ.Le Γ') {a : Addr} (ha : Γ.F a.block) : Γ'.w.cell? a = Γ.w.cell? a := by
  simp [World.cell?, h.mem _ ha]

mutual
theorem conc_mono {Γ Γ' : Ctx} (h : Γ.Le Γ') : ∀ (l : Leaf) (y : Value), conc Γ l y → conc Γ' l y
  | .v x, y, hc => by simpa [conc] using hc
  | .slv rows, y, hc => by
    simp only [conc] at hc ⊢
    rcases hc with hc | ⟨a, cap, sz, h1, h2, h3⟩
    · exact .inl hc
    · refine .inr ⟨a, cap, sz, h1, h2, ?_⟩
      rcases h3 with h3 | ⟨h3, h4, h5⟩
      · exact .inl h3
      · exact .inr ⟨h3, h.F _ h4, concRows_mono h _ _ h4 _ rows h5⟩
  | .ptr n ver i k, y, hc => by
    simp only [conc] at hc ⊢
    obtain ⟨inf, ver', p, h1, h2, hy, h3⟩ := hc
    obtain ⟨inf', ver'', g1, g2, g3⟩ := h.hs n inf ver' h1
    refine ⟨inf', ver'', p, g1, by omega, hy, fun e => ?_⟩
    have e1 : ver = ver' := by omega
    rw [g3 (by omega)]
    exact h3 e1
  | .sl n ver lo len, y, hc => by
    simp only [conc] at hc ⊢
    obtain ⟨inf, ver', a, cap, h1, h2, hy, h3⟩ := hc
    obtain ⟨inf', ver'', g1, g2, g3⟩ := h.hs n inf ver' h1
    refine ⟨inf', ver'', a, cap, g1, by omega, hy, fun e => ?_⟩
    have e1 : ver = ver' := by omega
    rw [g3 (by omega)]
    exact h3 e1
  | .fptr rows i k, y, hc => by
    simp only [conc] at hc ⊢
    obtain ⟨b, off, sz, h1, h2, h3⟩ := hc
    exact ⟨b, off, sz, h1, h.F _ h2, concRows_mono h _ _ h2 _ rows h3⟩
  | .slq rows, y, hc => by
    simp only [conc] at hc ⊢
    obtain ⟨a, cap, sz, h1, h2, h3⟩ := hc
    refine ⟨a, cap, sz, h1, h2, ?_⟩
    rcases h3 with h3 | ⟨h3, h4, h5⟩
    · exact .inl h3
    · exact .inr ⟨h3, h.F _ h4, concRows_mono h _ _ h4 _ rows h5⟩
  | .clo f caps, y, hc => by
    simp only [conc] at hc ⊢
    obtain ⟨ys, h1, h2⟩ := hc
    exact ⟨ys, h1, concAll_mono h caps _ h2⟩
theorem concRows_mono {Γ Γ' : Ctx} (h : Γ.Le Γ') (b sz : Nat) (hb : Γ.F b) : ∀ (off : Nat) (rows : List (List Leaf)), concRows Γ b sz off rows → concRows Γ' b sz off rows
  | _, [], _ => by simp [concRows]
  | off, r :: rs, hc => by
    simp only [concRows] at hc ⊢
    exact ⟨hc.1, concRow_mono h b hb _ r hc.2.1, concRows_mono h b sz hb _ rs hc.2.2⟩
theorem concRow_mono {Γ Γ' : Ctx} (h : Γ.Le Γ') (b : Nat) (hb : Γ.F b) : ∀ (off : Nat) (r : List Leaf), concRow Γ b off r → concRow Γ' b off r
  | _, [], _ => by simp [concRow]
  | off, l :: ls, hc => by
    simp only [concRow] at hc ⊢
    obtain ⟨⟨y, h1, h2⟩, h3⟩ := hc
    exact ⟨⟨y, (h.cell (a := ⟨b, off, none⟩) hb).trans h1, conc_mono h l y h2⟩, concRow_mono h b hb _ ls h3⟩
theorem concAll_mono {Γ Γ' : Ctx} (h : Γ.Le Γ') : ∀ (ls : List Leaf) (ys : List Value), concAll Γ ls ys → concAll Γ' ls ys
  | [], ys, hc => by simpa [concAll] using hc
  | l :: ls, ys, hc => by
    simp only [concAll] at hc ⊢
    obtain ⟨y, ys', h1, h2, h3⟩ := hc
    exact ⟨y, ys', h1, conc_mono h l y h2, concAll_mono h ls ys' h3⟩
end

mutual
theorem concV_mono {Γ Γ' : Ctx} (h : Γ.Le Γ') : ∀ (l : AVal) (y : Value), concV Γ l y → concV Γ' l y
  | .c l, y, hc => by simp only [concV] at hc ⊢; exact conc_mono h l y hc
  | .agg cs, y, hc => by
    simp only [concV] at hc ⊢
    obtain ⟨ys, h1, h2⟩ := hc
    exact ⟨ys, h1, concAll_mono h _ _ h2⟩
  | .tup vs, y, hc => by
    simp only [concV] at hc ⊢
    obtain ⟨ys, h1, h2⟩ := hc
    exact ⟨ys, h1, concVs_mono h _ _ h2⟩
theorem concVs_mono {Γ Γ' : Ctx} (h : Γ.Le Γ') : ∀ (ls : List AVal) (ys : List Value), concVs Γ ls ys → concVs Γ' ls ys
  | [], ys, hc => by simpa [concVs] using hc
  | l :: ls, ys, hc => by
    simp only [concVs] at hc ⊢
    obtain ⟨y, ys', h1, h2, h3⟩ := hc
    exact ⟨y, ys', h1, concV_mono h l y h2, concVs_mono h ls ys' h3⟩
end

/-- The cells of a row, rewritten for other contexts in which the cells' own block may have turned elsewhere. -/
theorem concRow_of {Γ Γ' : Ctx} (h : Γ.Le Γ') (b : Nat) : ∀ (off : Nat) (r : List Leaf), (∀ j, off ≤ j → j < off + r.length → Γ'.w.cell? ⟨b, j, none⟩ = Γ.w.cell? ⟨b, j, none⟩) → concRow Γ b off r → concRow Γ' b off r
  | _, [], _, _ => by simp [concRow]
  | off, l :: ls, hm, hc => by
    simp only [concRow] at hc ⊢
    obtain ⟨⟨y, h1, h2⟩, h3⟩ := hc
    refine ⟨⟨y, (hm off (Nat.le_refl _) (by simp)).trans h1, conc_mono h l y h2⟩, concRow_of h b _ ls (fun j h1 h2 => hm j (by omega) (by simp; omega)) h3⟩

theorem concRows_of {Γ Γ' : Ctx} (h : Γ.Le Γ') (b sz : Nat) : ∀ (off : Nat) (rows : List (List Leaf)), (∀ j, off ≤ j → j < off + rows.length * sz → Γ'.w.cell? ⟨b, j, none⟩ = Γ.w.cell? ⟨b, j, none⟩) → concRows Γ b sz off rows → concRows Γ' b sz off rows
  | _, [], _, _ => by simp [concRows]
  | off, r :: rs, hm, hc => by
    simp only [concRows] at hc ⊢
    obtain ⟨h1, h2, h3⟩ := hc
    have hl : (r :: rs).length * sz = sz + rs.length * sz := by simp [Nat.add_mul, Nat.add_comm]
    refine ⟨h1, concRow_of h b _ r (fun j a1 a2 => hm j a1 (by rw [hl]; omega)) h2, concRows_of h b sz _ rs (fun j a1 a2 => hm j (by omega) (by rw [hl]; omega)) h3⟩

theorem concRow_get {Γ : Ctx} {b : Nat} : ∀ {off : Nat} {r : List Leaf} {k : Nat} {l : Leaf}, concRow Γ b off r → r[k]? = some l → ∃ y, Γ.w.cell? ⟨b, off + k, none⟩ = some y ∧ conc Γ l y
  | off, [], k, l, _, hk => by simp at hk
  | off, x :: xs, 0, l, hc, hk => by
    simp only [concRow] at hc
    simp at hk
    subst hk
    exact hc.1
  | off, x :: xs, k + 1, l, hc, hk => by
    simp only [concRow] at hc
    have := concRow_get hc.2 (by simpa using hk)
    rwa [show off + 1 + k = off + (k + 1) by omega] at this

theorem concRows_get {Γ : Ctx} {b sz : Nat} : ∀ {off : Nat} {rows : List (List Leaf)} {i : Nat} {r : List Leaf}, concRows Γ b sz off rows → rows[i]? = some r → r.length = sz ∧ concRow Γ b (off + i * sz) r
  | off, [], i, r, _, hi => by simp at hi
  | off, x :: xs, 0, r, hc, hi => by
    simp only [concRows] at hc
    simp at hi
    subst hi
    exact ⟨hc.1, by simpa using hc.2.1⟩
  | off, x :: xs, i + 1, r, hc, hi => by
    simp only [concRows] at hc
    have := concRows_get hc.2.2 (by simpa using hi)
    rwa [show off + sz + i * sz = off + (i + 1) * sz by rw [Nat.add_mul]; omega] at this

theorem concRow_mk {Γ : Ctx} {b : Nat} : ∀ {off : Nat} {r : List Leaf}, (∀ (k : Nat) (l : Leaf), r[k]? = some l → ∃ y, Γ.w.cell? ⟨b, off + k, none⟩ = some y ∧ conc Γ l y) → concRow Γ b off r
  | _, [], _ => by simp [concRow]
  | off, x :: xs, h => by
    simp only [concRow]
    refine ⟨by simpa using h 0 x (by simp), concRow_mk fun k l hk => ?_⟩
    rw [show off + 1 + k = off + (k + 1) by omega]
    exact h (k + 1) l (by simpa using hk)

theorem concRows_mk {Γ : Ctx} {b sz : Nat} : ∀ {off : Nat} {rows : List (List Leaf)}, (∀ (i : Nat) (r : List Leaf), rows[i]? = some r → r.length = sz ∧ concRow Γ b (off + i * sz) r) → concRows Γ b sz off rows
  | _, [], _ => by simp [concRows]
  | off, x :: xs, h => by
    simp only [concRows]
    have h0 := h 0 x (by simp)
    refine ⟨h0.1, by simpa using h0.2, concRows_mk fun i r hi => ?_⟩
    rw [show off + sz + i * sz = off + (i + 1) * sz by rw [Nat.add_mul]; omega]
    exact h (i + 1) r (by simpa using hi)

theorem concAll_length {Γ : Ctx} : ∀ {ls : List Leaf} {ys : List Value}, concAll Γ ls ys → ys.length = ls.length
  | [], ys, h => by simp only [concAll] at h; subst h; rfl
  | l :: ls, ys, h => by
    simp only [concAll] at h
    obtain ⟨y, ys', rfl, _, h3⟩ := h
    simp [concAll_length h3]

theorem concAll_get {Γ : Ctx} : ∀ {ls : List Leaf} {ys : List Value} {k : Nat} {l : Leaf}, concAll Γ ls ys → ls[k]? = some l → ∃ y, ys[k]? = some y ∧ conc Γ l y
  | [], ys, k, l, h, hk => by simp at hk
  | x :: xs, ys, 0, l, h, hk => by
    simp only [concAll] at h
    obtain ⟨y, ys', rfl, h2, _⟩ := h
    simp at hk
    subst hk
    exact ⟨y, by simp, h2⟩
  | x :: xs, ys, k + 1, l, h, hk => by
    simp only [concAll] at h
    obtain ⟨y, ys', rfl, _, h3⟩ := h
    have := concAll_get h3 (by simpa using hk)
    simpa using this

theorem concAll_mk {Γ : Ctx} : ∀ {ls : List Leaf} {ys : List Value}, ys.length = ls.length → (∀ (k : Nat) (l : Leaf) (y : Value), ls[k]? = some l → ys[k]? = some y → conc Γ l y) → concAll Γ ls ys
  | [], ys, hl, _ => by simp only [concAll]; exact List.eq_nil_of_length_eq_zero (by simpa using hl)
  | x :: xs, [], hl, _ => by simp at hl
  | x :: xs, y :: ys, hl, h => by
    simp only [concAll]
    exact ⟨y, ys, rfl, h 0 x y (by simp) (by simp), concAll_mk (by simpa using hl) fun k l z hk hz => h (k + 1) l z (by simpa using hk) (by simpa using hz)⟩

theorem concAll_append {Γ : Ctx} {as bs : List Leaf} {xs ys : List Value} (h : concAll Γ as xs) (h' : concAll Γ bs ys) : concAll Γ (as ++ bs) (xs ++ ys) := by
  refine concAll_mk (by simp [concAll_length h, concAll_length h']) fun k l y hk hy => ?_
  by_cases hlt : k < as.length
  · rw [List.getElem?_append_left hlt] at hk
    rw [List.getElem?_append_left (by rw [concAll_length h]; exact hlt)] at hy
    obtain ⟨z, h1, h2⟩ := concAll_get h hk
    rw [hy] at h1
    cases h1
    exact h2
  · rw [List.getElem?_append_right (by omega)] at hk
    rw [List.getElem?_append_right (by rw [concAll_length h]; omega), concAll_length h] at hy
    obtain ⟨z, h1, h2⟩ := concAll_get h' hk
    rw [hy] at h1
    cases h1
    exact h2

theorem concAll_take {Γ : Ctx} {ls : List Leaf} {ys : List Value} (h : concAll Γ ls ys) (n : Nat) : concAll Γ (ls.take n) (ys.take n) := by
  refine concAll_mk (by simp [concAll_length h]) fun k l y hk hy => ?_
  rw [List.getElem?_take] at hk hy
  split at hk
  · rename_i hlt
    rw [if_pos hlt] at hy
    obtain ⟨z, h1, h2⟩ := concAll_get h hk
    rw [hy] at h1
    cases h1
    exact h2
  · cases hk

theorem concAll_drop {Γ : Ctx} {ls : List Leaf} {ys : List Value} (h : concAll Γ ls ys) (n : Nat) : concAll Γ (ls.drop n) (ys.drop n) := by
  refine concAll_mk (by simp [concAll_length h]) fun k l y hk hy => ?_
  rw [List.getElem?_drop] at hk hy
  obtain ⟨z, h1, h2⟩ := concAll_get h hk
  rw [hy] at h1
  cases h1
  exact h2

/-- What a row of cells holds, as a list. -/
theorem concRow_cells {Γ : Ctx} {b : Nat} : ∀ {off : Nat} {r : List Leaf}, concRow Γ b off r → ∃ ys, concAll Γ r ys ∧ ∀ (k : Nat) (y : Value), ys[k]? = some y → Γ.w.cell? ⟨b, off + k, none⟩ = some y
  | off, [], _ => ⟨[], by simp [concAll], by simp⟩
  | off, x :: xs, h => by
    simp only [concRow] at h
    obtain ⟨⟨y, h1, h2⟩, h3⟩ := h
    obtain ⟨ys, g1, g2⟩ := concRow_cells h3
    refine ⟨y :: ys, by simp only [concAll]; exact ⟨y, ys, rfl, h2, g1⟩, fun k z hk => ?_⟩
    cases k with
    | zero => simp at hk; subst hk; simpa using h1
    | succ k =>
      have := g2 k z (by simpa using hk)
      rwa [show off + 1 + k = off + (k + 1) by omega] at this

theorem concRow_take {Γ : Ctx} {b off : Nat} {r : List Leaf} (h : concRow Γ b off r) (n : Nat) : concRow Γ b off (r.take n) := by
  refine concRow_mk fun k l hk => ?_
  rw [List.getElem?_take] at hk
  split at hk
  · exact concRow_get h hk
  · cases hk

theorem concRow_drop {Γ : Ctx} {b off : Nat} {r : List Leaf} (h : concRow Γ b off r) (n : Nat) : concRow Γ b (off + n) (r.drop n) := by
  refine concRow_mk fun k l hk => ?_
  rw [List.getElem?_drop] at hk
  have := concRow_get h hk
  rwa [← Nat.add_assoc] at this

theorem concRows_take {Γ : Ctx} {b sz off : Nat} {rows : List (List Leaf)} (h : concRows Γ b sz off rows) (n : Nat) : concRows Γ b sz off (rows.take n) := by
  refine concRows_mk fun i r hi => ?_
  rw [List.getElem?_take] at hi
  split at hi
  · exact concRows_get h hi
  · cases hi

theorem concRows_drop {Γ : Ctx} {b sz off : Nat} {rows : List (List Leaf)} (h : concRows Γ b sz off rows) (n : Nat) : concRows Γ b sz (off + n * sz) (rows.drop n) := by
  refine concRows_mk fun i r hi => ?_
  rw [List.getElem?_drop] at hi
  have := concRows_get h hi
  rwa [show off + n * sz + i * sz = off + (n + i) * sz by rw [Nat.add_mul]; omega]

theorem concRows_append {Γ : Ctx} {b sz off : Nat} {rs ss : List (List Leaf)} (h : concRows Γ b sz off rs) (h' : concRows Γ b sz (off + rs.length * sz) ss) : concRows Γ b sz off (rs ++ ss) := by
  refine concRows_mk fun i r hi => ?_
  by_cases hlt : i < rs.length
  · rw [List.getElem?_append_left hlt] at hi
    exact concRows_get h hi
  · rw [List.getElem?_append_right (by omega)] at hi
    have := concRows_get h' hi
    rwa [show off + rs.length * sz + (i - rs.length) * sz = off + i * sz by rw [Nat.add_assoc, ← Nat.add_mul]; congr 2; omega] at this

/-- What rows hold, as one list of values. -/
theorem concRows_cells {Γ : Ctx} {b sz : Nat} : ∀ {off : Nat} {rows : List (List Leaf)}, concRows Γ b sz off rows → ∃ ys, concAll Γ rows.flatten ys ∧ ys.length = rows.length * sz ∧ ∀ (k : Nat) (y : Value), ys[k]? = some y → Γ.w.cell? ⟨b, off + k, none⟩ = some y
  | off, [], _ => ⟨[], by simp [concAll], by simp, by simp⟩
  | off, r :: rs, h => by
    simp only [concRows] at h
    obtain ⟨h1, h2, h3⟩ := h
    obtain ⟨ys, g1, g2⟩ := concRow_cells h2
    obtain ⟨zs, f1, f2, f3⟩ := concRows_cells h3
    have hl := concAll_length g1
    refine ⟨ys ++ zs, by simpa using concAll_append g1 f1, by simp [hl, h1, f2, Nat.add_mul, Nat.add_comm], fun k y hk => ?_⟩
    by_cases hlt : k < ys.length
    · rw [List.getElem?_append_left hlt] at hk
      exact g2 k y hk
    · rw [List.getElem?_append_right (by omega)] at hk
      have := f3 _ y hk
      rwa [show off + sz + (k - ys.length) = off + k by omega] at this

/-- An object, in a world. -/
def ObOk (Γ : Ctx) (h : Nat) : Ob → Prop
  | .dead => True
  | .live ver sz rows => ∃ inf, Γ.hs[h]? = some (inf, ver) ∧ inf.cap ≤ maxLen ∧ match inf.base with
    | none => rows = []
    | some b => inf.sz = sz ∧ Γ.X b ∧ ¬ Γ.F b ∧ rows.length ≤ inf.cap ∧ 0 < inf.sz ∧ ∃ cells T, Γ.w.heap[b]? = some (.cells cells T (0, 0)) ∧ inf.off + inf.cap * inf.sz ≤ cells.size ∧ concRows Γ b inf.sz inf.off rows

structure HeapOk (Γ : Ctx) (H : List Ob) : Prop where
  len : H.length = Γ.hs.length
  ob : ∀ (h : Nat) (o : Ob), H[h]? = some o → ObOk Γ h o
  apart : ∀ (h h' v v' z z' : Nat) (rows rows' : List (List Leaf)) (inf inf' : Info) (b : Nat), H[h]? = some (.live v z rows) → H[h']? = some (.live v' z' rows') → Γ.hs[h]? = some (inf, v) → Γ.hs[h']? = some (inf', v') →
    inf.base = some b → inf'.base = some b → h = h'
  F : ∀ b, Γ.F b → b < Γ.w.heap.size
  X : ∀ b, Γ.X b → b < Γ.w.heap.size

/-- How a context may go on. -/
structure Ctx.Ext (Γ Γ' : Ctx) : Prop where
  le : Γ.Le Γ'
  os : Γ'.w.os = Γ.w.os
  tape : Γ'.w.tape = Γ.w.tape
  output : Γ'.w.output = Γ.w.output
  size : Γ.w.heap.size ≤ Γ'.w.heap.size
  frame : ∀ b, b < Γ.w.heap.size → ¬ Γ.X b → Γ'.w.heap[b]? = Γ.w.heap[b]?
  Fnew : ∀ b, Γ'.F b → Γ.F b ∨ Γ.X b ∨ Γ.w.heap.size ≤ b
  Xnew : ∀ b, Γ'.X b → Γ.X b ∨ Γ.w.heap.size ≤ b

theorem Ctx.Ext.refl (Γ : Ctx) : Γ.Ext Γ := ⟨.refl Γ, rfl, rfl, rfl, Nat.le_refl _, fun _ _ _ => rfl, fun _ h => .inl h, fun _ h => .inl h⟩

theorem Ctx.Ext.trans {Γ Γ' Γ'' : Ctx} (h : Γ.Ext Γ') (h' : Γ'.Ext Γ'') : Γ.Ext Γ'' where
  le := h.le.trans h'.le
  os := h'.os.trans h.os
  tape := h'.tape.trans h.tape
  output := h'.output.trans h.output
  size := Nat.le_trans h.size h'.size
  frame b hb hx := by
    have hx' : ¬ Γ'.X b := fun hc => by
      rcases h.Xnew b hc with h1 | h1
      · exact hx h1
      · omega
    exact (h'.frame b (Nat.lt_of_lt_of_le hb h.size) hx').trans (h.frame b hb hx)
  Fnew b hb := by
    rcases h'.Fnew b hb with h1 | h1 | h1
    · exact h.Fnew b h1
    · rcases h.Xnew b h1 with h2 | h2
      · exact .inr (.inl h2)
      · exact .inr (.inr h2)
    · exact .inr (.inr (Nat.le_trans h.size h1))
  Xnew b hb := by
    rcases h'.Xnew b hb with h1 | h1
    · exact h.Xnew b h1
    · exact .inr (Nat.le_trans h.size h1)

end Go.Nx
