/- A region: the rule. -/
import Derived.Test.YtcnbkfgajnlbpaaNxP
namespace Go.Nx
set_option linter.unusedVariables false
set_option linter.unusedSimpArgs false

def sel (live : List Nat) (e : Env) : Env := live.filterMap fun t => (e.get t).map (t, ·)
def liveOk (ops : List Oper) (gs : List (List (Nat × Bool))) (live : List Nat) : Bool :=
  live.all fun t => (List.range ops.length).all fun k => dstOf ops k != some t || gs.getD k [] == []

theorem sel_get {live : List Nat} {e : Env} {t : Nat} {x : AVal} (h : (sel live e).get t = some x) : t ∈ live ∧ e.get t = some x := by
  induction live with
  | nil => simp [sel, Env.get] at h
  | cons s l ih =>
    unfold sel at h
    rw [List.filterMap_cons] at h
    cases hs : e.get s with
    | none =>
      simp only [hs, Option.map_none] at h
      have := ih h
      exact ⟨by simp [this.1], this.2⟩
    | some v =>
      simp only [hs, Option.map_some, Env.get] at h
      split at h
      · rename_i he
        subst he
        cases h
        exact ⟨by simp, hs⟩
      · have := ih h
        exact ⟨by simp [this.1], this.2⟩

section
variable {P : Program} {W : Option (List Nat)} {ops : Array Oper} {gs : List (List (Nat × Bool))} {ex : List Bool} {draw : Bool} {n : Nat} {Γ0 : Ctx} {e0 : Env}
  {E : Nat → Env} {HH : Nat → List Ob} {X : Nat → AVal} {A : Nat → Bool} {Q : Exit → Act → World → Prop}

theorem Inv.start {l : List Oper} {H : List Ob} (h0 : HH 0 = H) {a : Act} {w : World} (hs : Sat n Γ0 ⟨e0, H⟩ a w) {L : Nat → Prop} (hL : ∀ k, ¬ L k) : Inv n Γ0 l e0 HH X A L a w := by
  obtain ⟨d, s, Γ, hw, hext, hok, henv⟩ := hs
  exact ⟨d, s, Γ, 0, hw, hext, by rw [h0]; exact hok, Nat.zero_le _, fun k o _ _ => ⟨fun h => by omega, fun h => absurd h (hL k)⟩, fun t x hx _ => henv t x hx, fun k t _ hk => absurd hk (hL k)⟩

theorem Inv.done {l : List Oper} (ht : Trace P W l gs ex e0 E HH X A) (hchk : chk l gs ex draw n = true) {L : Nat → Prop} {a : Act} {w : World} (hI : Inv n Γ0 l e0 HH X A L a w) (hL : ∀ k, k < l.length → L k) {live : List Nat} (hlive : liveOk l gs live = true) :
    Sat n Γ0 ⟨sel live (E l.length), HH l.length⟩ a w := by
  obtain ⟨dfr, sz, Γ, c, hw, hext, hok, hcl, hcut, h1, h2⟩ := hI
  have hH : HH l.length = HH c := by
    refine ht.const c l.length hcl (Nat.le_refl _) (fun m p hm1 hm2 hp => ?_)
    cases hfp : fixed p.op with
    | false => rfl
    | true =>
      have := (hcut m p hp hfp).2 (hL m hm2)
      omega
  refine ⟨dfr, sz, Γ, hw, hext, by rw [hH]; exact hok, fun t x hx => ?_⟩
  obtain ⟨htl, hx⟩ := sel_get hx
  by_cases hex : ∃ k, k < l.length ∧ dstOf l k = some t
  · obtain ⟨k, hk, hd⟩ := hex
    have hok' : l[k]? = some (l[k]'(by omega)) := List.getElem?_eq_getElem (by omega)
    have hck := chkOp_spec (chk_op hchk hok')
    have hg := ht.get1 l.length hk (Nat.le_refl _) hd (fun m hm1 hm2 hdm => by
      exact hck.own m (by omega) (by omega) t (by rw [← dstOf_some hok']; exact hd) hdm)
    rw [hg] at hx
    cases hx
    unfold liveOk at hlive
    rw [List.all_eq_true] at hlive
    have h3 := hlive t htl
    rw [List.all_eq_true] at h3
    have h4 := h3 k (by simpa using hk)
    have h5 : gs.getD k [] = [] := by simpa [hd] using h4
    have hact := (ht.step k _ hok').1
    rw [h5] at hact
    simp only [actE, Option.some.injEq] at hact
    exact (h2 k t hk (hL k hk) hd).1 hact.symm
  · have h0 := ht.get0 (t := t) 0 l.length (Nat.zero_le _) (Nat.le_refl _) (fun m _ hm hd => hex ⟨m, hm, hd⟩)
    rw [ht.zero] at h0
    rw [h0] at hx
    exact h1 t x hx (fun k hk hd _ => hex ⟨k, hk, hd⟩)

theorem Inv.congr {l : List Oper} {L L' : Nat → Prop} {a : Act} {w : World} (h : Inv n Γ0 l e0 HH X A L a w) (hL : ∀ k, L k ↔ L' k) : Inv n Γ0 l e0 HH X A L' a w := by
  have : L = L' := funext fun k => propext (hL k)
  rw [← this]
  exact h

theorem sim_text (hchk : chk ops.toList gs ex false n = true) (ht : Trace P W ops.toList gs ex e0 E HH X A) (hQ : ∀ a w, Inv n Γ0 ops.toList e0 HH X A (fun k => k < ops.toList.length) a w → Q .normal a w) :
    ∀ (m i : Nat), i + m = ops.toList.length → ∀ a w, Inv n Γ0 ops.toList e0 HH X A (fun k => k < i) a w → wpOps P ops Q (List.range' i m) a w
  | 0, i, hi, a, w, hI => by
    simp only [List.range'_zero, wpOps]
    exact hQ a w (by rw [← hi]; exact hI)
  | m + 1, i, hi, a, w, hI => by
    rw [List.range'_succ, wpOps_cons]
    have ho : ops.toList[i]? = some (ops.toList[i]'(by omega)) := List.getElem?_eq_getElem (by omega)
    refine sim_step (draw := false) (by simp) hchk ht hI ho (by omega) (fun j hj _ => hj) (fun j hj hij _ h => by omega) (fun a' w' hI' => ?_)
    exact sim_text hchk ht hQ m (i + 1) (by omega) a' w' (hI'.congr fun k => by omega)

theorem countP_lt {l : List Nat} {p q : Nat → Bool} (h : ∀ x, q x = true → p x = true) {y : Nat} (hy : y ∈ l) (hp : p y = true) (hq : q y = false) : l.countP q < l.countP p := by
  induction l with
  | nil => cases hy
  | cons x l ih =>
    rw [List.countP_cons, List.countP_cons]
    have hle : l.countP q ≤ l.countP p := List.countP_mono_left fun x _ hx => h x hx
    rcases List.mem_cons.1 hy with rfl | hy
    · rw [hp, hq]; simp; omega
    · have := ih hy
      have : (if q x = true then 1 else 0) ≤ (if p x = true then 1 else 0) := by
        cases hqx : q x with
        | false => simp
        | true => rw [h x hqx]; simp
      omega

theorem getD_tf {listed : Array Bool} {k : Nat} (hk : k < listed.size) : listed.getD k true = listed.getD k false := by simp [Array.getD, hk]

theorem sim_any (hW : ∃ W', W = some W') (hchk : chk ops.toList gs ex true n = true) (ht : Trace P W ops.toList gs ex e0 E HH X A) (hQ : ∀ a w, Inv n Γ0 ops.toList e0 HH X A (fun k => k < ops.toList.length) a w → Q .normal a w) :
    ∀ (fuel : Nat) (listed : Array Bool), listed.size = ops.toList.length → (List.range ops.toList.length).countP (fun k => !listed.getD k false) ≤ fuel →
      (∀ (k : Nat) (o : Oper), ops.toList[k]? = some o → listed.getD k false = true → ∀ ed ∈ o.after.toList, Region.binds .any ed = true → listed.getD ed.on false = true) →
      ∀ a w, Inv n Γ0 ops.toList e0 HH X A (fun k => listed.getD k false = true) a w → wpAny P .any ops Q fuel listed a w := by
  have hedges : ∀ (k : Nat) (o : Oper), ops.toList[k]? = some o → ∀ ed ∈ o.after.toList, Region.binds .any ed = true → ed.on < k := fun k o ho => (chkOp_spec (chk_op hchk ho)).edges
  -- where nothing is ready all is done
  have hall : ∀ (listed : Array Bool), listed.size = ops.toList.length → Region.ready .any ops listed = [] → ∀ k, k < ops.toList.length → listed.getD k false = true := by
    intro listed hsz hr k
    induction k using Nat.strongRecOn with
    | _ k ih =>
      intro hk
      cases hl : listed.getD k false with
      | true => rfl
      | false =>
        exfalso
        have ho : ops.toList[k]? = some (ops.toList[k]'(by omega)) := List.getElem?_eq_getElem (by omega)
        have hmem : k ∈ Region.ready .any ops listed := by
          rw [mem_ready]
          refine ⟨by rw [getD_tf (by omega)]; exact hl, ops.toList[k]'(by omega), by rw [← Array.getElem?_toList]; exact ho, fun ed he hb => ?_⟩
          have := hedges k _ ho ed (by simpa using he) hb
          exact ih ed.on this (by omega)
        rw [hr] at hmem
        cases hmem
  have hfin : ∀ (listed : Array Bool) a w, listed.size = ops.toList.length → Region.ready .any ops listed = [] → Inv n Γ0 ops.toList e0 HH X A (fun k => listed.getD k false = true) a w → Q .normal a w := by
    intro listed a w hsz hr hI
    refine hQ a w (hI.congr fun k => ⟨fun h => ?_, fun h => hall listed hsz hr k h⟩)
    rcases Nat.lt_or_ge k ops.toList.length with hk | hk
    · exact hk
    · rw [Array.getD_eq_getD_getElem?, Array.getElem?_eq_none (by omega)] at h
      cases h
  intro fuel
  induction fuel with
  | zero =>
    intro listed hsz hcnt hcl a w hI
    have hr : Region.ready .any ops listed = [] := by
      cases hr : Region.ready .any ops listed with
      | nil => rfl
      | cons k r =>
        exfalso
        have hm : k ∈ Region.ready .any ops listed := by rw [hr]; simp
        obtain ⟨h1, o, ho, _⟩ := mem_ready.1 hm
        have hk : k < ops.toList.length := by simpa using (Array.getElem?_eq_some_iff.1 ho).1
        rw [getD_tf (by omega)] at h1
        have h0 := List.countP_eq_zero.1 (Nat.le_zero.1 hcnt) k (by simpa using hk)
        rw [h1] at h0
        simp at h0
    exact ⟨hr, hfin listed a w hsz hr hI⟩
  | succ fuel ih =>
    intro listed hsz hcnt hcl a w hI
    refine ⟨fun hr => hfin listed a w hsz hr hI, fun i hi => ?_⟩
    obtain ⟨h1, o, ho, hdep⟩ := mem_ready.1 hi
    have hol : ops.toList[i]? = some o := by simpa using ho
    have hk : i < ops.toList.length := (List.getElem?_eq_some_iff.1 hol).1
    rw [getD_tf (by omega)] at h1
    have hset : ∀ k, (listed.setIfInBounds i true).getD k false = true ↔ (listed.getD k false = true ∨ k = i) := by
      intro k
      by_cases hki : k = i
      · subst hki
        simp [Array.getD_eq_getD_getElem?, hsz]
        simpa using hk
      · rw [Array.getD_eq_getD_getElem?, Array.getElem?_setIfInBounds_ne (fun e => hki e.symm), ← Array.getD_eq_getD_getElem?]
        simp [hki]
    refine sim_step (draw := true) (fun _ => hW) hchk ht hI hol (by rw [h1]; simp) (fun j hj hanc => ?_) (fun j hj hij hanc hL => ?_) (fun a' w' hI' => ?_)
    · exact anc_listed (listed := fun k => listed.getD k false = true) hedges hcl i o hol (fun ed he hb => hdep ed (by simpa using he) hb) j (hanc rfl)
    · have hoj : ops.toList[j]? = some (ops.toList[j]'(by omega)) := List.getElem?_eq_getElem (by omega)
      have := anc_listed (listed := fun k => listed.getD k false = true) hedges hcl j _ hoj (hcl j _ hoj hL) i (hanc rfl)
      rw [h1] at this
      cases this
    · refine ih _ (by simp [hsz]) ?_ ?_ a' w' (hI'.congr fun k => (hset k).symm)
      · have hlt := countP_lt (l := List.range ops.toList.length) (p := fun k => !listed.getD k false) (q := fun k => !(listed.setIfInBounds i true).getD k false) (y := i) (fun x hx => by
          cases hl : listed.getD x false with
          | false => rfl
          | true => rw [(hset x).2 (.inl hl)] at hx; cases hx) (by simpa using hk) (by rw [h1]; rfl) (by rw [(hset i).2 (.inr rfl)]; rfl)
        omega
      · intro k p hp hL ed he hb
        rw [hset] at hL ⊢
        rcases hL with hL | rfl
        · exact .inl (hcl k p hp hL ed he hb)
        · rw [hol] at hp
          cases hp
          exact .inl (hdep ed (by simpa using he) hb)

theorem Sat.drew {S : St} {a : Act} {w : World} (h : Sat n Γ0 S a w) : Sat n Γ0 S a { w with drawn := w.drawn + 1 } := by
  obtain ⟨d, s, Γ, rfl, hext, hok, henv⟩ := h
  refine ⟨d, s, Γ.drew, rfl, hext.trans (Ext_drew Γ), HeapOk_drew hok, fun t x hx => ?_⟩
  obtain ⟨y, h1, h2⟩ := henv t x hx
  exact ⟨y, h1, concV_mono (Le_drew Γ) _ _ h2⟩

/-- A region comes to what the reckoning says. -/
theorem region_rule (id : Nat) (hm : P.follows .mixedOrders = true) (hW : draw = true → ∃ W', W = some W') (hchk : chk ops.toList gs ex draw n = true) {e' : Env} {H H' : List Ob}
    (hs : SpecR P W ops.toList gs ex e0 H e' H') {live : List Nat} (hlive : liveOk ops.toList gs live = true) {a : Act} {w : World} (h : Sat n Γ0 ⟨e0, H⟩ a w)
    (hQ : ∀ a w, Sat n Γ0 ⟨sel live e', H'⟩ a w → Q .normal a w) : (Code.region id ops draw).wp P Q a w := by
  obtain ⟨E, HH, X, A, h1, h2, h3, h4, h5⟩ := specR_trace hs
  have ht : Trace P W ops.toList gs ex e0 E HH X A := ⟨h1, fun k o ho => (h5 k o ho).1, fun k o ho => (h5 k o ho).2⟩
  cases draw with
  | false =>
    refine wp_region ?_
    rw [List.range_eq_range']
    have hl : ops.size = ops.toList.length := by simp
    rw [hl]
    refine sim_text hchk ht (fun a w hI => ?_) ops.toList.length 0 (by omega) a w (Inv.start h2 h (fun k => by omega))
    have := Inv.done ht hchk hI (fun k hk => hk) hlive
    rw [h3, h4] at this
    exact hQ a w this
  | true =>
    refine wp_region_any hm ?_
    have hl : ops.size = ops.toList.length := by simp
    refine sim_any (hW rfl) hchk ht (fun a w hI => ?_) ops.size (Array.replicate ops.size false) (by simp) ?_ (fun k o _ hk => ?_) a _ (Inv.start h2 h.drew (fun k hk => ?_))
    · have := Inv.done ht hchk hI (fun k hk => hk) hlive
      rw [h3, h4] at this
      exact hQ a w this
    · have := List.countP_le_length (p := fun k => !(Array.replicate ops.size false).getD k false) (l := List.range ops.toList.length)
      rw [List.length_range] at this
      omega
    · simp [Array.getD_eq_getD_getElem?, Array.getElem?_replicate] at hk
      split at hk <;> simp at hk
    · simp [Array.getD_eq_getD_getElem?, Array.getElem?_replicate] at hk
      split at hk <;> simp at hk

end
end Go.Nx
