/- Both ways to one end; two new objects, one named for the other. -/
import Derived.Test.YtcnbkfgajnlbpaaNyF
namespace Go.Nx
set_option linter.unusedVariables false
set_option linter.unusedSimpArgs false

def swapAt {α : Type} : Nat → List α → List α
  | 0, a :: b :: r => b :: a :: r
  | n + 1, a :: r => a :: swapAt n r
  | _, l => l
def keyO (o : Oper) : Option Nat × Op := (o.dst, o.op)
theorem obj_of {H : List Ob} {h ver z : Nat} {rows : List (List Leaf)} (ho : H[h]? = some (.live ver z rows)) : obj H h ver = some (z, rows) := by simp [obj, ho]
theorem SpecR.congr {P : Program} {W : Option (List Nat)} {l : List Oper} {gs : List (List (Nat × Bool))} {ex : List Bool} {e e' : Env} {H H' : List Ob} (h : SpecR P W l gs ex e H e' H') : ∀ {l' : List Oper}, l'.map keyO = l.map keyO → SpecR P W l' gs ex e H e' H' := by
  induction h with
  | nil =>
    intro l' hl
    simp at hl
    subst hl
    exact .nil
  | @cons o os gs ex e H b x H1 e' H' hs hr ih =>
    intro l' hl
    cases l' with
    | nil => simp at hl
    | cons o' os' =>
      simp only [List.map_cons, List.cons.injEq, keyO, Prod.mk.injEq] at hl
      obtain ⟨⟨h1, h2⟩, h3⟩ := hl
      refine .cons (b := b) (x := x) (H1 := H1) ?_ (by rw [h1]; exact ih h3)
      unfold StepR at hs ⊢
      rw [h2]
      exact hs
theorem RunR.congr {P : Program} {W : Option (List Nat)} {l l' : List Oper} {gs : List (List (Nat × Bool))} {ex : List Bool} {e : Env} {H : List Ob} {K : Env → List Ob → Prop} (hl : l'.map keyO = l.map keyO) (h : RunR P W l gs ex e H K) : RunR P W l' gs ex e H K := by
  obtain ⟨e', H', h1, h2⟩ := h
  exact ⟨e', H', h1.congr hl, h2⟩

theorem Wp.forkS {F : Fr} {Q : Exit → St → Prop} {S S0 : St} {id : Nat} {l : List Oper} (n1 : Nat) (W : List Nat) (gsA : List (List (Nat × Bool))) (exA : List Bool) (gsB : List (List (Nat × Bool))) (exB : List Bool) (live : List Nat) {n : Nat} (hm : F.P.follows .mixedOrders = true) (hn : F.n = n)
    (hok : forkOk l n1 gsA gsB exA exB live n = true) (hpre : (rowA l n1).take n1 = (rowB l n1).take n1) (hk0 : ((rowA l n1).take n1).map keyO = (l.take n1).map keyO) (hkA : ((rowA l n1).drop n1).map keyO = (l.drop n1).map keyO) (hkB : ((rowB l n1).drop n1).map keyO = (swapAt 0 (l.drop n1)).map keyO)
    (h : RunR F.P (some W) (l.take n1) gsA exA S.env S.heap (fun e1 H1 =>
      RunR F.P (some W) (l.drop n1) (gsA.drop n1) (exA.drop n1) e1 H1 (fun e' H' => ∃ r, Keeps e' live r ∧ S0 = ⟨r, H'⟩) ∧
      RunR F.P (some W) (swapAt 0 (l.drop n1)) (gsB.drop n1) (exB.drop n1) e1 H1 (fun e' H' => ∃ r, Keeps e' live r ∧ St.Weak F ⟨r, H'⟩ S0))) (hQ : Q .normal S0) : Wp F (.region id l.toArray true) Q S := by
  have h1 : Wp F (.region id l.toArray true) (fun ex S' => ex = .normal ∧ S'.Weak F S0) S := by
    refine Wp.fork n1 W gsA exA gsB exB live hm hn hok hpre ?_
    obtain ⟨e1, H1, hs, hA, hB⟩ := h
    obtain ⟨eA, HA, sA, r, kA, hA⟩ := hA.congr hkA
    obtain ⟨eB, HB, sB, r', kB, hB⟩ := hB.congr hkB
    exact ⟨e1, H1, hs.congr hk0, ⟨eA, HA, sA, r, kA, rfl, by rw [hA]; exact .refl⟩, ⟨eB, HB, sB, r', kB, rfl, hB⟩⟩
  intro a w hs
  refine wp_mono (h1 a w hs) fun ex a' w' he => ?_
  obtain ⟨S', ⟨rfl, hw⟩, hs'⟩ := he
  exact ⟨S0, hQ, hw a' w' hs'⟩

def swN (n h : Nat) : Nat := if h = n then n + 1 else if h = n + 1 then n else h
def swL (n : Nat) : Leaf → Leaf
  | .ptr h ver i k => .ptr (swN n h) ver i k
  | .sl h ver lo len => .sl (swN n h) ver lo len
  | l => l
theorem swapAt_length {α : Type} : ∀ (n : Nat) (l : List α), (swapAt n l).length = l.length
  | 0, [] => rfl
  | 0, [_] => rfl
  | 0, _ :: _ :: _ => rfl
  | _ + 1, [] => rfl
  | n + 1, a :: r => by simp [swapAt, swapAt_length n r]
theorem swapAt_get {α : Type} : ∀ (n : Nat) (l : List α) (h : Nat), n + 1 < l.length → (swapAt n l)[swN n h]? = l[h]?
  | 0, [], h, hl => by simp at hl
  | 0, [_], h, hl => by simp at hl
  | 0, a :: b :: r, h, hl => by
    match h with
    | 0 => simp [swN, swapAt]
    | 1 => simp [swN, swapAt]
    | h + 2 => simp [swN, swapAt]
  | n + 1, [], h, hl => by simp at hl
  | n + 1, a :: r, h, hl => by
    match h with
    | 0 => simp [swN, swapAt]
    | h + 1 =>
      have := swapAt_get n r h (by simp at hl; omega)
      have e1 : swN (n + 1) (h + 1) = swN n h + 1 := by
        simp only [swN]
        by_cases c1 : h = n
        · subst c1; simp
        · by_cases c2 : h = n + 1
          · subst c2; simp
          · rw [if_neg (by omega), if_neg (by omega), if_neg c1, if_neg c2]
      rw [e1]
      simpa [swapAt] using this
theorem swN_swN (n h : Nat) : swN n (swN n h) = h := by
  simp only [swN]
  split <;> split <;> (try split) <;> omega

theorem hfL_sw {n : Nat} {l : Leaf} (h : hfL l = true) : swL n l = l := by
  cases l <;> simp [hfL] at h <;> rfl
def srV (m : Nat) : AVal → Bool
  | .c l => mvL m l
  | .agg cs => cs.all (mvL m)
  | .tup _ => false

theorem swap_sat {N : Nat} {Γ0 : Ctx} {e : Env} {H : List Ob} (n : Nat) (hl : Γ0.hs.length ≤ n) (hn : Nat.blt (n + 1) H.length = true) (he : (e.all fun p => srV H.length p.2) = true) (hH : H.all (mvO H.length) = true) {a : Act} {w : World} (hs : Sat N Γ0 ⟨e, H⟩ a w) : Sat N Γ0 ⟨mpE (swL n) e, swapAt n (H.map (mpO (swL n)))⟩ a w := by
  obtain ⟨d, s, Γ, rfl, hext, hok, henv⟩ := hs
  have hlt : n + 1 < H.length := by simpa using hn
  have hln := hok.len
  simp only at hln
  obtain ⟨Γ', hΓ'⟩ : ∃ Γ' : Ctx, Γ' = { w := Γ.w, F := Γ.F, X := Γ.X, hs := swapAt n Γ.hs } := ⟨_, rfl⟩
  have ew : Γ'.w = Γ.w := by rw [hΓ']
  have eF : Γ'.F = Γ.F := by rw [hΓ']
  have eX : Γ'.X = Γ.X := by rw [hΓ']
  have hh : ∀ h, Γ'.hs[swN n h]? = Γ.hs[h]? := fun h => by rw [hΓ']; exact swapAt_get n Γ.hs h (by omega)
  have hcl : ∀ (l : Leaf) (y : Value), mvL H.length l = true → conc Γ l y → conc Γ' (swL n l) y := by
    intro l y hm hc
    cases l with
    | ptr h ver i k =>
      simp only [swL, conc] at hc ⊢
      obtain ⟨inf, ver', p, h1, h2⟩ := hc
      exact ⟨inf, ver', p, by rw [hh]; exact h1, h2⟩
    | sl h ver lo len =>
      simp only [swL, conc] at hc ⊢
      obtain ⟨inf, ver', a, cap, h1, h2⟩ := hc
      exact ⟨inf, ver', a, cap, by rw [hh]; exact h1, h2⟩
    | v x => exact conc_hf ew (fun _ h => by rw [eF]; exact h) (.v x) y (by simpa [mvL] using hm) hc
    | slv rows => exact conc_hf ew (fun _ h => by rw [eF]; exact h) (.slv rows) y (by simpa [mvL] using hm) hc
    | slq rows => exact conc_hf ew (fun _ h => by rw [eF]; exact h) (.slq rows) y (by simpa [mvL] using hm) hc
    | fptr rows i k => exact conc_hf ew (fun _ h => by rw [eF]; exact h) (.fptr rows i k) y (by simpa [mvL] using hm) hc
    | clo f caps => exact conc_hf ew (fun _ h => by rw [eF]; exact h) (.clo f caps) y (by simpa [mvL] using hm) hc
  have hal : ∀ (ls : List Leaf) (ys : List Value), ls.all (mvL H.length) = true → concAll Γ ls ys → concAll Γ' (ls.map (swL n)) ys := by
    intro ls
    induction ls with
    | nil => intro ys _ h; simpa [concAll] using h
    | cons l ls ih =>
      intro ys hm h
      simp only [List.all_cons, Bool.and_eq_true] at hm
      simp only [concAll] at h
      obtain ⟨y, ys', rfl, h2, h3⟩ := h
      simp only [List.map_cons, concAll]
      exact ⟨y, ys', rfl, hcl _ _ hm.1 h2, ih _ hm.2 h3⟩
  have hrow : ∀ (b off : Nat) (r : List Leaf), r.all (mvL H.length) = true → concRow Γ b off r → concRow Γ' b off (r.map (swL n)) := by
    intro b off r
    induction r generalizing off with
    | nil => intro _ _; simp [concRow]
    | cons l ls ih =>
      intro hm h
      simp only [List.all_cons, Bool.and_eq_true] at hm
      simp only [List.map_cons, concRow] at h ⊢
      obtain ⟨⟨y, h1, h2⟩, h3⟩ := h
      exact ⟨⟨y, by rw [ew]; exact h1, hcl _ _ hm.1 h2⟩, ih _ hm.2 h3⟩
  have hrows : ∀ (b sz off : Nat) (rows : List (List Leaf)), (rows.all fun r => r.all (mvL H.length)) = true → concRows Γ b sz off rows → concRows Γ' b sz off (rows.map fun r => r.map (swL n)) := by
    intro b sz off rows
    induction rows generalizing off with
    | nil => intro _ _; simp [concRows]
    | cons r rs ih =>
      intro hm h
      simp only [List.all_cons, Bool.and_eq_true] at hm
      simp only [List.map_cons, concRows] at h ⊢
      exact ⟨by simpa using h.1, hrow _ _ _ hm.1 h.2.1, ih _ hm.2 h.2.2⟩
  have hget : ∀ (h : Nat) (o : Ob), (swapAt n (H.map (mpO (swL n))))[h]? = some o → ∃ o', H[swN n h]? = some o' ∧ o = mpO (swL n) o' := by
    intro h o ho
    have := swapAt_get n (H.map (mpO (swL n))) (swN n h) (by simpa using hlt)
    rw [swN_swN] at this
    rw [this, List.getElem?_map] at ho
    simp only [Option.map_eq_some_iff] at ho
    obtain ⟨o', h1, rfl⟩ := ho
    exact ⟨o', h1, rfl⟩
  have hh' : ∀ h, Γ'.hs[h]? = Γ.hs[swN n h]? := fun h => by
    have := hh (swN n h)
    rwa [swN_swN] at this
  refine ⟨d, s, Γ', ew, ⟨⟨fun b hb => by rw [eF]; exact hext.le.F b hb, fun b hb => by rw [ew]; exact hext.le.mem b hb, fun h inf ver h1 => ?_⟩, by rw [ew]; exact hext.os, by rw [ew]; exact hext.tape, by rw [ew]; exact hext.output, by rw [ew]; exact hext.size, fun b hb hx => by rw [ew]; exact hext.frame b hb hx, fun b hb => by rw [eF] at hb; exact hext.Fnew b hb, fun b hb => by rw [eX] at hb; exact hext.Xnew b hb⟩,
    ⟨?_, fun h o ho => ?_, fun h h' v v' z z' rows rows' i i' b h1 h2 h3 h4 h5 h6 => ?_, fun b hb => by rw [eF] at hb; rw [ew]; exact hok.F b hb, fun b hb => by rw [eX] at hb; rw [ew]; exact hok.X b hb⟩, fun t x hx => ?_⟩
  · have hlt0 := (List.getElem?_eq_some_iff.1 h1).1
    have e1 : swN n h = h := by simp only [swN]; rw [if_neg (by omega), if_neg (by omega)]
    rw [hh', e1]
    exact hext.le.hs h inf ver h1
  · rw [hΓ']
    simp only [swapAt_length, List.length_map]
    exact hln
  · obtain ⟨o', h1, rfl⟩ := hget h o ho
    have hob := hok.ob _ o' h1
    cases o' with
    | dead => trivial
    | live ver sz rows =>
      have hmv : mvO H.length (.live ver sz rows) = true := by
        rw [List.all_eq_true] at hH
        exact hH _ (List.mem_of_getElem? h1)
      obtain ⟨inf, g1, g2, g3⟩ := hob
      refine ⟨inf, by rw [hh']; exact g1, g2, ?_⟩
      cases hb : inf.base with
      | none => simp only [hb] at g3 ⊢; subst g3; rfl
      | some b =>
        simp only [hb] at g3 ⊢
        obtain ⟨b1, b2, b3, b4, b5, cells, T, b6, b7, b8⟩ := g3
        exact ⟨b1, by rw [eX]; exact b2, by rw [eF]; exact b3, by simpa using b4, b5, cells, T, by rw [ew]; exact b6, b7, hrows _ _ _ _ (by simpa [mvO] using hmv) b8⟩
  · obtain ⟨o1, g1, e1⟩ := hget h _ h1
    obtain ⟨o2, g2, e2⟩ := hget h' _ h2
    obtain ⟨q1, rfl⟩ := mpO_live e1.symm
    obtain ⟨q2, rfl⟩ := mpO_live e2.symm
    rw [hh'] at h3 h4
    have := hok.apart _ _ v v' z z' q1 q2 i i' b g1 g2 h3 h4 h5 h6
    rw [← swN_swN n h, this, swN_swN]
  · obtain ⟨x', h1, rfl⟩ := mpE_get hx
    obtain ⟨y, h2, h3⟩ := henv t x' h1
    refine ⟨y, h2, ?_⟩
    rw [List.all_eq_true] at he
    have hm := he _ (Env.get_mem h1)
    cases x' with
    | c l => simp only [srV, mpV, concV] at *; exact hcl _ _ hm h3
    | agg cs =>
      simp only [srV, mpV, concV] at *
      obtain ⟨ys, h5, h6⟩ := h3
      exact ⟨ys, h5, hal _ _ hm h6⟩
    | tup vs => simp [srV] at hm
end Go.Nx
