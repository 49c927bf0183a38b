/- 'stp' tells what each operation does. -/
import Derived.Test.YtcnbkfgajnlbpaaNxI
namespace Go.Nx
set_option linter.unusedVariables false
set_option linter.unusedSimpArgs false

theorem OpRes.leaf {Γ : Ctx} {r : Result Next} {l : Leaf} {H : List Ob} (hok : HeapOk Γ H) {s : Sem Value} {P : Program} (h : ∃ z, s.run P Γ.w = .ok z Γ.w ∧ conc Γ l z) (hr : r = ((do pure (Next.value (← s))) : Sem Next).run P Γ.w) : OpRes Γ r (.c l) H := by
  obtain ⟨z, h1, h2⟩ := h
  exact .val (y := z) hok (by rw [hr]; simp [h1]) (by simpa [concV] using h2)

theorem OpRes.of_sem {Γ : Ctx} {r : Result Next} {x : AVal} {H' : List Ob} {s : Sem Value} {P : Program} (h : ∃ z Γ', s.run P Γ.w = .ok z Γ'.w ∧ Γ.Ext Γ' ∧ HeapOk Γ' H' ∧ concV Γ' x z) (hr : r = ((do pure (Next.value (← s))) : Sem Next).run P Γ.w) : OpRes Γ r x H' := by
  obtain ⟨z, Γ', h1, h2, h3, h4⟩ := h
  exact ⟨z, Γ', .inl (by rw [hr]; simp [h1]), h2, h3, h4⟩

theorem mkSeg_spec {Γ : Ctx} {P : Program} {t : TypeId} {g : Bool} {n off : Nat} (ht : tk P t = some (g, n)) {cs : List Leaf} {xs : Array Value} (hc : concAll Γ cs xs.toList) {x : AVal} (h : mkSeg g cs off n = some x) :
    ∃ z, (part t xs off).run P Γ.w = .ok z Γ.w ∧ concV Γ x z := by
  have hl := concAll_length hc
  simp only [Array.length_toList] at hl
  obtain ⟨g1, g2⟩ := tk_spec ht Γ.w
  unfold mkSeg at h
  cases g with
  | true =>
    simp only [if_true] at h
    split at h
    · simp only [Option.some.injEq] at h
      subst h
      have hs := seg_array xs.toList off n
      refine ⟨.agg (xs.extract off (off + n)), by simp [part, g1, g2], ?_⟩
      simp only [concV]
      refine ⟨_, rfl, ?_⟩
      rw [show xs.extract off (off + n) = ((xs.toList.drop off).take n).toArray from hs]
      exact concAll_take (concAll_drop hc off) n
    · cases h
  | false =>
    simp only [Bool.false_eq_true, if_false, Option.map_eq_some_iff] at h
    obtain ⟨l, h1, rfl⟩ := h
    obtain ⟨y, h2, h3⟩ := concAll_get hc h1
    have h4 : xs[off]? = some y := by simpa using h2
    exact ⟨y, by simp [part, g1, h4], by simpa [concV] using h3⟩

theorem leafL_spec {Γ : Ctx} {e : Env} {a : Act} : ∀ (ops : List Operand) (ls : List Leaf), (∀ p ∈ ops, Good Γ e a p) → leafL (ops.map (evO e)) = some ls → concAll Γ ls (ops.map a.eval)
  | [], ls, _, h => by
    simp [leafL] at h
    subst h
    simp [concAll]
  | p :: ps, ls, hg, h => by
    simp only [List.map_cons] at h
    unfold leafL at h
    split at h
    · rename_i heq; cases heq
    · rename_i l r heq
      simp only [List.cons.injEq] at heq
      obtain ⟨h1, rfl⟩ := heq
      simp only [Option.map_eq_some_iff] at h
      obtain ⟨ls', h2, rfl⟩ := h
      simp only [List.map_cons, concAll]
      have := hg p (by simp) _ h1
      simp only [concV] at this
      exact ⟨_, _, rfl, this, leafL_spec ps ls' (fun q hq => hg q (by simp [hq])) h2⟩
    · cases h

theorem foldI_spec {Γ : Ctx} {P : Program} {e : Env} {a : Act} (f : Int → Int → Int) (f2 : Value → Value → Sem Value) (hf : ∀ m k n w, (f2 (.int .i64 m) (.int k n)).run P w = .ok (.int .i64 (f m n)) w) :
    ∀ (ops : List Operand) (acc n : Int), (∀ p ∈ ops, Good Γ e a p) → foldI f acc (ops.map (evO e)) = some n → ((ops.map a.eval).foldlM f2 (.int .i64 acc)).run P Γ.w = .ok (.int .i64 n) Γ.w
  | [], acc, n, _, h => by
    simp [foldI] at h
    subst h
    simp
  | p :: ps, acc, n, hg, h => by
    simp only [List.map_cons] at h
    unfold foldI at h
    split at h
    · rename_i heq; cases heq
    · rename_i k m r heq
      simp only [List.cons.injEq] at heq
      obtain ⟨h1, rfl⟩ := heq
      have hp := hg p (by simp) _ h1
      simp only [concV, conc] at hp
      have ih := foldI_spec f f2 hf ps (f acc m) n (fun q hq => hg q (by simp [hq])) h
      simp only [List.map_cons, List.foldlM_cons, Sem.run_bind, hp.1, hf, Result.andThen_ok, ih]
    · cases h

theorem parts_of {Γ : Ctx} {e : Env} {a : Act} (ps : List (Nat × Operand)) (hg : ∀ p ∈ ps.map (·.2), Good Γ e a p) : Parts Γ (ps.map fun (i, x) => (i, evO e x)) (ps.map fun (i, x) => (i, a.eval x)) := by
  induction ps with
  | nil => simp [Parts]
  | cons p ps ih =>
    obtain ⟨i, x⟩ := p
    simp only [List.map_cons, Parts]
    exact ⟨_, _, rfl, fun v hv => hg x (by simp) v hv, ih (fun q hq => hg q (by simp only [List.map_cons, List.mem_cons]; exact .inr hq))⟩

theorem lenL_spec {Γ : Ctx} {l : Leaf} {n : Nat} (h : lenL l = some n) {y : Value} (hc : conc Γ l y) : ∃ a c, y = .slice a n c := by
  unfold lenL at h
  split at h
  · simp only [Option.some.injEq] at h
    subst h
    simp only [conc] at hc
    rcases hc with ⟨rfl, rfl⟩ | ⟨a, cap, sz, rfl, _⟩
    · exact ⟨none, 0, rfl⟩
    · exact ⟨_, _, rfl⟩
  · simp only [Option.some.injEq] at h
    subst h
    simp only [conc] at hc
    obtain ⟨a, cap, sz, rfl, _⟩ := hc
    exact ⟨_, _, rfl⟩
  · simp only [Option.some.injEq] at h
    subst h
    simp only [conc] at hc
    exact ⟨none, 0, hc.1⟩
  · simp only [Option.some.injEq] at h
    subst h
    simp only [conc] at hc
    obtain ⟨inf, ver', a, cap, _, _, rfl, _⟩ := hc
    exact ⟨_, _, rfl⟩
  · cases h

theorem optInt_spec {Γ : Ctx} {e : Env} {a : Act} {o : Option Operand} {n : Option Int} (hg : ∀ p, o = some p → Good Γ e a p) (h : optInt e o = some n) : (o.map a.eval = none ∧ n = none) ∨ ∃ k m, o.map a.eval = some (.int k m) ∧ n = some m := by
  cases o with
  | none => simp [optInt] at h; exact .inl ⟨rfl, h.symm⟩
  | some p =>
    right
    unfold optInt at h
    simp only at h
    split at h
    · rename_i v hv
      have hc := hg p rfl v hv
      unfold intL at h
      split at h
      · rename_i k m
        simp only [concV, conc] at hc
        simp at h
        exact ⟨k, m, by simp [hc.1], h.symm⟩
      · simp at h
    · cases h

end Go.Nx
