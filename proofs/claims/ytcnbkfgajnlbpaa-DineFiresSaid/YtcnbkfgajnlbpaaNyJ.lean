/- What is known, said in other words: fewer slots, fewer objects, other numbers; appends that a model carries. -/
import Derived.Test.YtcnbkfgajnlbpaaNyI
namespace Go.Nx
set_option linter.unusedVariables false
set_option linter.unusedSimpArgs false

theorem keepW {F : Fr} {e r : Env} {H : List Ob} {live : List Nat} (h : Keeps e live r) : St.Weak F ⟨e, H⟩ ⟨r, H⟩ := fun a w hs => sat_sub h.get hs

/-! Objects picked out, in any row. -/
def rn0 (τ : List Nat) : Leaf → Leaf
  | .ptr h ver i k => .ptr (τ.getD h 0) ver i k
  | .sl h ver lo len => .sl (τ.getD h 0) ver lo len
  | l => l
def rnL (τ : List Nat) : Leaf → Leaf
  | .clo f caps => .clo f (caps.map (rn0 τ))
  | l => rn0 τ l
def ok0 (σ τ : List Nat) : Leaf → Bool
  | .ptr h _ _ _ => σ[τ.getD h 0]? == some h
  | .sl h _ _ _ => σ[τ.getD h 0]? == some h
  | .clo _ caps => hfAll caps
  | .slv rows => hfRows rows
  | .slq rows => hfRows rows
  | .fptr rows _ _ => hfRows rows
  | .v _ => true
def okL (σ τ : List Nat) : Leaf → Bool
  | .clo _ caps => caps.all (ok0 σ τ)
  | l => ok0 σ τ l
def okV (σ τ : List Nat) : AVal → Bool
  | .c l => okL σ τ l
  | .agg cs => cs.all (okL σ τ)
  | .tup _ => false
def okO (σ τ : List Nat) : Ob → Bool
  | .live _ _ rows => rows.all fun r => r.all (okL σ τ)
  | .dead => true

theorem pickW {F : Fr} {e : Env} {H : List Ob} (σ τ : List Nat) (n0 : Nat) (hn0 : F.Γ.hs.length = n0) (h0 : ((List.range n0).all fun h => σ[h]? == some h) = true) (hin : (σ.all fun h => Nat.blt h H.length) = true) (hnd : σ.Nodup)
    (he : (e.all fun p => okV σ τ p.2) = true) (hH : (σ.all fun h => okO σ τ (H.getD h .dead)) = true) : St.Weak F ⟨e, H⟩ ⟨mpE (rnL τ) e, σ.map fun h => mpO (rnL τ) (H.getD h .dead)⟩ := by
  intro a w hs
  obtain ⟨d, s, Γ, rfl, hext, hok, henv⟩ := hs
  have hln := hok.len
  simp only at hln
  rw [List.all_eq_true] at hin h0 hH
  have hin' : ∀ h ∈ σ, h < H.length := fun h hh => by simpa using hin h hh
  obtain ⟨Γ', hΓ'⟩ : ∃ Γ' : Ctx, Γ' = { w := Γ.w, F := Γ.F, X := Γ.X, hs := σ.map fun h => Γ.hs.getD h (⟨none, 0, 0, 0⟩, 0) } := ⟨_, rfl⟩
  have ew : Γ'.w = Γ.w := by rw [hΓ']
  have eF : Γ'.F = Γ.F := by rw [hΓ']
  have eX : Γ'.X = Γ.X := by rw [hΓ']
  have hh : ∀ (j h : Nat), σ[j]? = some h → Γ'.hs[j]? = Γ.hs[h]? := fun j h hj => by
    rw [hΓ']
    show (σ.map _)[j]? = _
    rw [List.getElem?_map, hj]
    have := hin' h (List.mem_of_getElem? hj)
    simp [List.getD_eq_getElem?_getD, List.getElem?_eq_getElem (l := Γ.hs) (i := h) (by omega)]
  have hcl0 : ∀ (l : Leaf) (y : Value), ok0 σ τ l = true → conc Γ l y → conc Γ' (rn0 τ l) y := by
    intro l y hm hc
    cases l with
    | ptr h ver i k =>
      simp only [ok0, beq_iff_eq] at hm
      simp only [rn0, conc] at hc ⊢
      obtain ⟨inf, ver', p, h1, h2⟩ := hc
      exact ⟨inf, ver', p, by rw [hh _ _ hm]; exact h1, h2⟩
    | sl h ver lo len =>
      simp only [ok0, beq_iff_eq] at hm
      simp only [rn0, conc] at hc ⊢
      obtain ⟨inf, ver', a, cap, h1, h2⟩ := hc
      exact ⟨inf, ver', a, cap, by rw [hh _ _ hm]; exact h1, h2⟩
    | v x => exact conc_hf ew (fun _ h => by rw [eF]; exact h) (.v x) y rfl hc
    | slv rows => exact conc_hf ew (fun _ h => by rw [eF]; exact h) (.slv rows) y (by simpa [hfL, ok0] using hm) hc
    | slq rows => exact conc_hf ew (fun _ h => by rw [eF]; exact h) (.slq rows) y (by simpa [hfL, ok0] using hm) hc
    | fptr rows i k => exact conc_hf ew (fun _ h => by rw [eF]; exact h) (.fptr rows i k) y (by simpa [hfL, ok0] using hm) hc
    | clo f caps => exact conc_hf ew (fun _ h => by rw [eF]; exact h) (.clo f caps) y (by simpa [hfL, ok0] using hm) hc
  have hal0 : ∀ (ls : List Leaf) (ys : List Value), ls.all (ok0 σ τ) = true → concAll Γ ls ys → concAll Γ' (ls.map (rn0 τ)) ys := by
    intro ls
    induction ls with
    | nil => intro ys _ h; simpa [concAll] using h
    | cons l ls ih =>
      intro ys hm h
      simp only [List.all_cons, Bool.and_eq_true] at hm
      simp only [concAll] at h
      obtain ⟨y, ys', rfl, h2, h3⟩ := h
      simp only [List.map_cons, concAll]
      exact ⟨y, ys', rfl, hcl0 _ _ hm.1 h2, ih _ hm.2 h3⟩
  have hcl : ∀ (l : Leaf) (y : Value), okL σ τ l = true → conc Γ l y → conc Γ' (rnL τ l) y := by
    intro l y hm hc
    cases l with
    | clo f caps =>
      simp only [okL] at hm
      simp only [rnL, conc] at hc ⊢
      obtain ⟨ys, h1, h2⟩ := hc
      exact ⟨ys, h1, hal0 _ _ hm h2⟩
    | ptr h ver i k => exact hcl0 (.ptr h ver i k) y hm hc
    | sl h ver lo len => exact hcl0 (.sl h ver lo len) y hm hc
    | v x => exact hcl0 (.v x) y hm hc
    | slv rows => exact hcl0 (.slv rows) y hm hc
    | slq rows => exact hcl0 (.slq rows) y hm hc
    | fptr rows i k => exact hcl0 (.fptr rows i k) y hm hc
  have hal : ∀ (ls : List Leaf) (ys : List Value), ls.all (okL σ τ) = true → concAll Γ ls ys → concAll Γ' (ls.map (rnL τ)) ys := by
    intro ls
    induction ls with
    | nil => intro ys _ h; simpa [concAll] using h
    | cons l ls ih =>
      intro ys hm h
      simp only [List.all_cons, Bool.and_eq_true] at hm
      simp only [concAll] at h
      obtain ⟨y, ys', rfl, h2, h3⟩ := h
      simp only [List.map_cons, concAll]
      exact ⟨y, ys', rfl, hcl _ _ hm.1 h2, ih _ hm.2 h3⟩
  have hrow : ∀ (b off : Nat) (r : List Leaf), r.all (okL σ τ) = true → concRow Γ b off r → concRow Γ' b off (r.map (rnL τ)) := by
    intro b off r
    induction r generalizing off with
    | nil => intro _ _; simp [concRow]
    | cons l ls ih =>
      intro hm h
      simp only [List.all_cons, Bool.and_eq_true] at hm
      simp only [List.map_cons, concRow] at h ⊢
      obtain ⟨⟨y, h1, h2⟩, h3⟩ := h
      exact ⟨⟨y, by rw [ew]; exact h1, hcl _ _ hm.1 h2⟩, ih _ hm.2 h3⟩
  have hrows : ∀ (b sz off : Nat) (rows : List (List Leaf)), (rows.all fun r => r.all (okL σ τ)) = true → concRows Γ b sz off rows → concRows Γ' b sz off (rows.map fun r => r.map (rnL τ)) := by
    intro b sz off rows
    induction rows generalizing off with
    | nil => intro _ _; simp [concRows]
    | cons r rs ih =>
      intro hm h
      simp only [List.all_cons, Bool.and_eq_true] at hm
      simp only [List.map_cons, concRows] at h ⊢
      exact ⟨by simpa using h.1, hrow _ _ _ hm.1 h.2.1, ih _ hm.2 h.2.2⟩
  have hget : ∀ (j : Nat) (o : Ob), (σ.map fun h => mpO (rnL τ) (H.getD h .dead))[j]? = some o → ∃ h o', σ[j]? = some h ∧ H[h]? = some o' ∧ o = mpO (rnL τ) o' ∧ okO σ τ o' = true := fun j o hj => by
    rw [List.getElem?_map] at hj
    cases hσ : σ[j]? with
    | none => rw [hσ] at hj; simp at hj
    | some h =>
      rw [hσ] at hj
      have hlt := hin' h (List.mem_of_getElem? hσ)
      have hok' := hH h (List.mem_of_getElem? hσ)
      have e1 : H.getD h .dead = H[h] := by simp [List.getD_eq_getElem?_getD, List.getElem?_eq_getElem hlt]
      simp only [Option.map_some, Option.some.injEq] at hj
      rw [e1] at hj hok'
      exact ⟨h, _, rfl, List.getElem?_eq_getElem hlt, hj.symm, hok'⟩
  refine ⟨d, s, Γ', ew, ⟨⟨fun b hb => by rw [eF]; exact hext.le.F b hb, fun b hb => by rw [ew]; exact hext.le.mem b hb, fun h inf ver h1 => ?_⟩, by rw [ew]; exact hext.os, by rw [ew]; exact hext.tape, by rw [ew]; exact hext.output, by rw [ew]; exact hext.size, by rw [ew]; exact hext.frame, by rw [eF]; exact hext.Fnew, by rw [eX]; exact hext.Xnew⟩,
    ⟨by rw [hΓ']; simp, fun j o ho => ?_, fun j j' v v' z z' rows rows' inf inf' b h1 h2 h3 h4 h5 h6 => ?_, by rw [eF, ew]; exact hok.F, by rw [eX, ew]; exact hok.X⟩, fun t x hx => ?_⟩
  · have hlt : h < n0 := by
      have := (List.getElem?_eq_some_iff.1 h1).1
      omega
    have hσ : σ[h]? = some h := by simpa using h0 h (by simpa using hlt)
    obtain ⟨inf', ver', g1, g2⟩ := hext.le.hs h inf ver h1
    exact ⟨inf', ver', by rw [hh h h hσ]; exact g1, g2⟩
  · obtain ⟨h, o', hσ, ho', rfl, hmv⟩ := hget j o ho
    have hob := hok.ob h o' ho'
    cases o' with
    | dead => trivial
    | live ver sz rows =>
      obtain ⟨inf, g1, g2, g3⟩ := hob
      refine ⟨inf, by rw [hh j h hσ]; exact g1, g2, ?_⟩
      cases hb : inf.base with
      | none => simp only [hb] at g3 ⊢; subst g3; rfl
      | some b =>
        simp only [hb] at g3 ⊢
        obtain ⟨b1, b2, b3, b4, b5, cells, T, b6, b7, b8⟩ := g3
        exact ⟨b1, by rw [eX]; exact b2, by rw [eF]; exact b3, by simpa using b4, b5, cells, T, by rw [ew]; exact b6, b7, hrows _ _ _ _ (by simpa [okO] using hmv) b8⟩
  · obtain ⟨h, o1, hσ, ho1, e1, _⟩ := hget j _ h1
    obtain ⟨h', o2, hσ', ho2, e2, _⟩ := hget j' _ h2
    obtain ⟨r1, rfl⟩ := mpO_live e1.symm
    obtain ⟨r2, rfl⟩ := mpO_live e2.symm
    rw [hh j h hσ] at h3
    rw [hh j' h' hσ'] at h4
    have heq := hok.apart h h' v v' z z' r1 r2 inf inf' b ho1 ho2 h3 h4 h5 h6
    subst heq
    exact (List.getElem?_inj (List.getElem?_eq_some_iff.1 hσ).1 hnd).1 (hσ.trans hσ'.symm)
  · obtain ⟨z, h1, rfl⟩ := mpE_get hx
    obtain ⟨y, h2, h3⟩ := henv t z h1
    refine ⟨y, h2, ?_⟩
    have hm : okV σ τ z = true := by
      rw [List.all_eq_true] at he
      exact he _ (Env.get_mem h1)
    cases z with
    | c l => simp only [mpV, concV] at h3 ⊢; exact hcl _ _ hm h3
    | agg cs =>
      simp only [mpV, concV] at h3 ⊢
      obtain ⟨ys, g1, g2⟩ := h3
      exact ⟨ys, g1, hal _ _ hm g2⟩
    | tup vs => simp [okV] at hm

/-- An own array that is only read from here on. -/
theorem freezeW {F : Fr} {e e' : Env} {H H' : List Ob} {h ver z : Nat} {rows : List (List Leaf)} (ho : obj H h ver = some (z, rows)) (he : mpE (fzL h ver rows) e = e') (hH : (H.map (mpO (fzL h ver rows))).set h .dead = H') : St.Weak F ⟨e, H⟩ ⟨e', H'⟩ := by
  subst he hH
  exact fun a w hs => freeze_sat ho hs
theorem nzW {F : Fr} {e : Env} {H : List Ob} : St.Weak F ⟨e, H⟩ ⟨mpE nzL e, H.map (mpO nzL)⟩ := fun a w hs => slv_sat hs
theorem nilW {F : Fr} {e : Env} {H H1 : List Ob} {t : Nat} (ver sz : Nat) (h : Nat) (ht : e.get t = some (.c nilS)) (hh : H.length = h) (hsn : Snoc (.live ver sz []) H H1) : St.Weak F ⟨e, H⟩ ⟨(t, .c (.sl h ver 0 0)) :: e, H1⟩ := fun a w hs => nilV_sat ver sz h ht hh hsn hs
theorem nilCellW {F : Fr} {e : Env} {H H1 H2 : List Ob} {g ver z i k : Nat} {rows rows' : List (List Leaf)} {r : List Leaf} (sz : Nat) (h : Nat) (ho : obj H g ver = some (z, rows)) (hr : rows[i]? = some r) (hk : r[k]? = some nilS) (hh : H.length = h)
    (hrows : rows.set i (r.set k (.sl h 0 0 0)) = rows') (hsn : Snoc (.live 0 sz []) H H1) (hset : SetAt (.live ver z rows') H1 g H2) : St.Weak F ⟨e, H⟩ ⟨e, H2⟩ := fun a w hs => nilCell_sat sz h ho hr hk hh hrows hsn hset hs

theorem app_eq {α : Type} {xs ys zs : List α} (h : app? xs ys = some zs) : xs ++ ys = zs := by
  unfold app? at h
  split at h
  · cases h; rfl
  · cases h
theorem app_len {α : Type} {xs ys zs : List α} (h : app? xs ys = some zs) : xs.length + ys.length ≤ 10000000000 := by
  unfold app? at h
  split at h
  · assumption
  · cases h
theorem view_whole {α : Type} {H : List Ob} {h ver z : Nat} {xs : List α} {f : α → List Leaf} (ho : obj H h ver = some (z, xs.map f)) : view H (.sl h ver 0 xs.length) = some (xs.map f) := by
  have : 0 + xs.length ≤ (xs.map f).length := by simp
  simp only [view, ho]
  rw [if_pos this]
  simp [List.take_of_length_le]

section
variable {P : Program} {W : Option (List Nat)} {os : List Oper} {gs : List (List (Nat × Bool))} {ex : List Bool} {e : Env} {H H1 : List Ob} {ty : TypeId} {pos : String} {after : Array Edge} {guard : Option (Nat × Bool)} {b : Bool} {t : Nat} {K : Env → List Ob → Prop}

/-- More at nil's end: a new array. -/
theorem RunR.appendN {α : Type} {ts : TypeId} {y z : Operand} {el size by' : Nat} {z0 : List Leaf} {l : Leaf} (h : Nat) (f : α → List Leaf) (ys zs : List α) (happ : app? [] ys = some zs) (ht : se P ts = some (el, size, by', z0)) (ha : actE e (gs.headD []) = some true) (hw : wOk W (ex.headD false) e H (.call { callee := .builtin .append, args := #[y, z], argTypes := #[ts, ts] }) = true)
    (hy : evO e y = some (.c nilS)) (hz : evO e z = some (.c l)) (hv : view H l = some (ys.map f)) (hf : ∀ x, (f x).length = size) (hsz : (Nat.blt 0 size && Nat.ble by' 10000) = true) (hh : H.length = h)
    (hs : Snoc (.live 0 size (zs.map f)) H H1) (hr : RunR P W os gs.tail ex.tail ((t, .c (.sl h 0 0 zs.length)) :: e) H1 K) : RunR P W (⟨some t, .call { callee := .builtin .append, args := #[y, z], argTypes := #[ts, ts] }, ty, pos, after, guard⟩ :: os) gs ex e H K :=
  .fix rfl ha hw (x := .c (.sl h 0 0 zs.length)) (H1 := H1) (by
    have hzs := app_eq happ
    have hn := app_len happ
    simp only [List.nil_append] at hzs
    subst hzs
    subst hh
    simp only [Bool.and_eq_true, Nat.blt_eq, Nat.ble_eq] at hsz
    simp only [List.length_nil, Nat.zero_add] at hn
    have h1 : ∀ r ∈ ys.map f, r.length = size := by
      intro r hr
      obtain ⟨y, _, rfl⟩ := List.mem_map.1 hr
      exact hf y
    have h2 : ys.length * by' ≤ 140737488355328 := Nat.le_trans (Nat.mul_le_mul hn hsz.2) (by decide)
    have h3 : ys.length ≤ maxLen := Nat.le_trans hn (by decide)
    have h4 : (ys.map f).length ≤ maxLen ∧ (ys.map f).length * by' ≤ 140737488355328 := by
      simp only [List.length_map]
      exact ⟨h3, h2⟩
    simp only [stp, hy, hz, appendV, ht, hv]
    rw [if_pos ⟨trivial, hsz.1, h1⟩]
    rw [if_pos h4, hs.eq]
    simp) hr
end

/-- What is handed in may be known better than the contract asks. -/
theorem Call.args {P : Program} {f : FuncId} {as as' : List AVal} {H : List Ob} {K : AVal → List Ob → Prop} (hw : ∀ Γ ys, concVs Γ as ys → concVs Γ as' ys) (h : Nx.Call P f as' H K) : Nx.Call P f as H K :=
  ⟨h.1, fun Γ hok args' hc => h.2 Γ hok args' (hw Γ _ hc)⟩
theorem DCall.nz {P : Program} {f : FuncId} {as as' : List AVal} {H : List Ob} {r : AVal} (he : mpVs nzL as = as') (h : DCall P f as' H r) : DCall P f as H r := by
  subst he
  exact Call.args (fun Γ ys hc => concVs_mp (g := nzL) (Γ' := Γ) (fun l y => nzL_sound Γ l y) as ys hc) h

/-- What the call leaves and nobody names falls away. -/
theorem Call.trim {P : Program} {f : FuncId} {args : List AVal} {H : List Ob} {r : AVal} {H1 : List Ob} (hl : H.length ≤ H1.length) (hr : mvV H1.length r = true) (hH : H1.all (mvO H1.length) = true) (h : Nx.Call P f args H fun r' H' => r' = r ∧ ∃ junk, H' = H1 ++ junk) :
    Nx.Call P f args H fun r' H' => r' = r ∧ H' = H1 := by
  refine ⟨h.1, fun Γ hok args' hc => (h.2 Γ hok args' hc).mono fun e w' he => ?_⟩
  obtain ⟨y, r', Γ', H', rfl, ⟨rfl, junk, rfl⟩, rfl, hext, hok', hcv⟩ := he
  obtain ⟨d, sz, Γ1, e1, e2, e3, e4⟩ := drop_sat (N := 1) (Γ0 := Γ) (e := [(0, r')]) (J := junk) (a := { tmps := #[y], defers := [] }) (w := Γ'.w) rfl (by rw [← hok.len]; exact hl) (by simpa using hr) hH
    ⟨rfl, rfl, Γ', rfl, hext, hok', fun t x hx => by
      simp only [Env.get] at hx
      split at hx
      · rename_i ht
        subst ht
        cases hx
        exact ⟨y, rfl, hcv⟩
      · cases hx⟩
  obtain ⟨y', g1, g2⟩ := e4 0 r' rfl
  simp at g1
  subst g1
  exact ⟨y, r', Γ1, H1, rfl, ⟨rfl, rfl⟩, e1, e2, e3, g2⟩
end Go.Nx
