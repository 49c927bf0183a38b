/- A region, soundly: one operation done. -/
import Derived.Test.YtcnbkfgajnlbpaaNxO
namespace Go.Nx
set_option linter.unusedVariables false
set_option linter.unusedSimpArgs false

section
variable {P : Program} {W : Option (List Nat)} {ops : Array Oper} {gs : List (List (Nat × Bool))} {ex : List Bool} {draw : Bool} {n : Nat} {Γ0 : Ctx} {e0 : Env}
  {E : Nat → Env} {HH : Nat → List Ob} {X : Nat → AVal} {A : Nat → Bool} {Q : Exit → Act → World → Prop}

/-- What holds where the operations of L have been done. -/
structure Inv (n : Nat) (Γ0 : Ctx) (l : List Oper) (e0 : Env) (HH : Nat → List Ob) (X : Nat → AVal) (A : Nat → Bool) (L : Nat → Prop) (a : Act) (w : World) : Prop where
  dfr : a.defers = []
  sz : a.tmps.size = n
  ctx : ∃ Γ c, Γ.w = w ∧ Γ0.Ext Γ ∧ HeapOk Γ (HH c) ∧ c ≤ l.length ∧ (∀ (k : Nat) (o : Oper), l[k]? = some o → fixed o.op = true → (k < c ↔ L k)) ∧
    (∀ t x, e0.get t = some x → (∀ k, k < l.length → dstOf l k = some t → ¬ L k) → ∃ y, a.tmps[t]? = some y ∧ concV Γ x y) ∧
    (∀ k t, k < l.length → L k → dstOf l k = some t → (A k = true → ∃ y, a.tmps[t]? = some y ∧ concV Γ (X k) y) ∧ (A k = false → a.tmps[t]? = some undef))

theorem dstOf_some {l : List Oper} {k : Nat} {o : Oper} (ho : l[k]? = some o) : dstOf l k = o.dst := by simp [dstOf, ho]

theorem put_get {a : Act} {d : Option Nat} {v : Value} {t : Nat} (hne : d ≠ some t) : (a.put d v).tmps[t]? = a.tmps[t]? := by
  cases d with
  | none => rfl
  | some s => simp only [Act.put]; rw [Array.getElem?_setIfInBounds_ne]; intro e; exact hne (by rw [e])

theorem put_same {a : Act} {s : Nat} {v : Value} (h : s < a.tmps.size) : (a.put (some s) v).tmps[s]? = some v := by
  simp [Act.put, h]

theorem put_size {a : Act} {d : Option Nat} {v : Value} : (a.put d v).tmps.size = a.tmps.size := by cases d <;> simp [Act.put]
theorem put_defers {a : Act} {d : Option Nat} {v : Value} : (a.put d v).defers = a.defers := by cases d <;> rfl

/-- The state behind one operation. -/
theorem Inv.next {l : List Oper} {L : Nat → Prop} {a : Act} {w' : World} {i : Nat} {o : Oper} (ho : l[i]? = some o) (hc : Checked l gs ex draw n i o) (hi : ¬ L i) {Γ Γ' : Ctx} {c' : Nat} {v : Value}
    (dfr : a.defers = []) (sz : a.tmps.size = n) (hext0 : Γ0.Ext Γ)
    (h1 : ∀ t x, e0.get t = some x → (∀ k, k < l.length → dstOf l k = some t → ¬ L k) → ∃ y, a.tmps[t]? = some y ∧ concV Γ x y)
    (h2 : ∀ k t, k < l.length → L k → dstOf l k = some t → (A k = true → ∃ y, a.tmps[t]? = some y ∧ concV Γ (X k) y) ∧ (A k = false → a.tmps[t]? = some undef))
    (hw : Γ'.w = w') (hext : Γ.Ext Γ') (hok : HeapOk Γ' (HH c')) (hcl : c' ≤ l.length) (hcut : ∀ (k : Nat) (p : Oper), l[k]? = some p → fixed p.op = true → (k < c' ↔ (L k ∨ k = i)))
    (hv1 : A i = true → concV Γ' (X i) v) (hv2 : A i = false → v = undef) :
    Inv n Γ0 l e0 HH X A (fun k => L k ∨ k = i) (a.put o.dst v) w' := by
  have hil : i < l.length := (List.getElem?_eq_some_iff.1 ho).1
  refine ⟨by rw [put_defers]; exact dfr, by rw [put_size]; exact sz, Γ', c', hw, hext0.trans hext, hok, hcl, hcut, fun t x hx hno => ?_, fun k t hk hL hd => ?_⟩
  · have hne : o.dst ≠ some t := fun hd => hno i hil (by rw [dstOf_some ho]; exact hd) (.inr rfl)
    obtain ⟨y, g1, g2⟩ := h1 t x hx (fun k hk hd hL => hno k hk hd (.inl hL))
    exact ⟨y, by rw [put_get hne]; exact g1, concV_mono hext.le _ _ g2⟩
  · by_cases hki : k = i
    · subst hki
      rw [dstOf_some ho] at hd
      have hlt := hc.dst t hd
      have hs : (a.put o.dst v).tmps[t]? = some v := by rw [hd]; exact put_same (by rw [sz]; exact hlt)
      exact ⟨fun hA => ⟨v, hs, hv1 hA⟩, fun hA => by rw [hs, hv2 hA]⟩
    · have hL' : L k := hL.resolve_right hki
      have hne : o.dst ≠ some t := by
        intro hod
        exact hc.own k hk hki t hod hd
      obtain ⟨g1, g2⟩ := h2 k t hk hL' hd
      refine ⟨fun hA => ?_, fun hA => by rw [put_get hne]; exact g2 hA⟩
      obtain ⟨y, g3, g4⟩ := g1 hA
      exact ⟨y, by rw [put_get hne]; exact g3, concV_mono hext.le _ _ g4⟩

theorem sim_step (hW : draw = true → ∃ W', W = some W') (hchk : chk ops.toList gs ex draw n = true) (ht : Trace P W ops.toList gs ex e0 E HH X A) {L : Nat → Prop} {a : Act} {w : World} (hI : Inv n Γ0 ops.toList e0 HH X A L a w)
    {i : Nat} {o : Oper} (ho : ops.toList[i]? = some o) (hi : ¬ L i) (hneed : ∀ j, j < i → (draw = true → anc (masks ops.toList []) j i = true) → L j) (hlate : ∀ j, j < ops.toList.length → i < j → (draw = true → anc (masks ops.toList []) i j = true) → ¬ L j)
    {K : Act → World → Prop} (hK : ∀ a' w', Inv n Γ0 ops.toList e0 HH X A (fun k => L k ∨ k = i) a' w' → K a' w') : wpOp P ops Q i K a w := by
  have hc := chkOp_spec (chk_op hchk ho)
  have hil : i < ops.toList.length := (List.getElem?_eq_some_iff.1 ho).1
  obtain ⟨dfr, sz, Γ, c, rfl, hext0, hok, hcl, hcut, h1, h2⟩ := hI
  have hoa : ops[i]? = some o := by simpa using ho
  obtain ⟨hact, hstep⟩ := ht.step i o ho
  -- what is known of the operands' slots
  have hget : ∀ j t, j < i → dstOf ops.toList j = some t → (E i).get t = some (X j) := by
    intro j t hj hd
    refine ht.get1 i hj (by omega) hd (fun m hm1 hm2 hdm => ?_)
    have hoj : ops.toList[j]? = some (ops.toList[j]'(by omega)) := List.getElem?_eq_getElem (by omega)
    have hcj := chkOp_spec (chk_op hchk hoj)
    exact hcj.own m (by omega) (by omega) t (by rw [← dstOf_some hoj]; exact hd) hdm
  have hAsub : ∀ j, j < i → ∀ t, dstOf ops.toList j = some t → (∀ s b, (s, b) ∈ gs.getD j [] → (E i).get s = some (.c (.v (.bool b)))) → A j = true := by
    intro j hj t hd hs
    have hoj : ops.toList[j]? = some (ops.toList[j]'(by omega)) := List.getElem?_eq_getElem (by omega)
    have hcj := chkOp_spec (chk_op hchk hoj)
    have hactj := (ht.step j _ hoj).1
    have : actE (E j) (gs.getD j []) = some true := by
      refine actE_of fun s b hm => ?_
      rw [← hs s b hm]
      exact (ht.get0 j i (by omega) (by omega) (fun m hm1 hm2 hdm => by
        have := (hcj.slots s b hm).2 m (by omega) hdm
        omega)).symm
    rw [this] at hactj
    exact (Option.some.inj hactj).symm
  -- is it wanted?
  have hwant : Region.wanted o (yielded ops a.tmps) = A i := by
    cases hg : o.guard with
    | none =>
      have := hc.guard0 hg
      rw [this] at hact
      simp only [actE, Option.some.injEq] at hact
      simp [Region.wanted, hg, hact]
    | some jw =>
      obtain ⟨j, b⟩ := jw
      obtain ⟨hj, ⟨s, hd, hgs⟩, hanc⟩ := hc.guard1 j b hg
      have hL := hneed j hj hanc
      have hgj := hget j s hj hd
      rw [hgs] at hact
      simp only [actE, hgj] at hact
      split at hact
      case h_2 => cases hact
      rename_i v c' hXj hact'
      simp only [Option.some.injEq] at hXj
      have hoj : ops.toList[j]? = some (ops.toList[j]'(by omega)) := List.getElem?_eq_getElem (by omega)
      have hcj := chkOp_spec (chk_op hchk hoj)
      have hactj := (ht.step j _ hoj).1
      have hcong : actE (E i) (gs.getD j []) = actE (E j) (gs.getD j []) := actE_congr fun s' w' hm => ht.get0 j i (by omega) (by omega) (fun m hm1 hm2 hdm => by
        have := (hcj.slots s' w' hm).2 m (by omega) hdm
        omega)
      rw [hcong, hactj] at hact'
      cases hact'
      simp only [Option.some.injEq] at hact
      have hdo : ((ops[j]?).bind (·.dst)) = some s := by
        have : dstOf ops.toList j = some s := hd
        simpa [dstOf] using this
      obtain ⟨g1, g2⟩ := h2 j s (by omega) hL hd
      simp only [Region.wanted, hg, yielded, hdo, Option.bind_some]
      cases hAj : A j with
      | true =>
        obtain ⟨y, g3, g4⟩ := g1 hAj
        rw [hXj] at g4
        simp only [concV, conc] at g4
        rw [g3, g4.1, ← hact, hAj]
        simp
      | false =>
        rw [g2 hAj, ← hact, hAj]
        simp [undef]
  unfold wpOp
  simp only [hoa]
  rw [hwant]
  -- the heap where one is
  have hfix : fixed o.op = true → HH c = HH i ∧ c ≤ i := by
    intro hf
    have hci : c ≤ i := by
      rcases Nat.lt_or_ge i c with h | h
      · exact absurd ((hcut i o ho hf).1 h) hi
      · exact h
    refine ⟨(ht.const c i hci (by omega) (fun m p hm1 hm2 hp => ?_)).symm, hci⟩
    cases hfp : fixed p.op with
    | false => rfl
    | true =>
      have hL : L m := hneed m hm2 (fun hd => (hc.order hd m hm2 p hp).1 hf hfp)
      have := (hcut m p hp hfp).2 hL
      omega
  have hmob : fixed o.op = false → (draw = true → ex.getD i false = false) → HH c = HH i := by
    intro hf hex
    rcases Nat.le_total c i with hci | hci
    · refine (ht.const c i hci (by omega) (fun m p hm1 hm2 hp => ?_)).symm
      cases hfp : fixed p.op with
      | false => rfl
      | true =>
        have hL : L m := hneed m hm2 (fun hd => by
          rcases (hc.order hd m hm2 p hp).2.2 hf hfp with h | h
          · rw [hex hd] at h; cases h.1
          · exact h)
        have := (hcut m p hp hfp).2 hL
        omega
    · refine ht.const i c hci hcl (fun m p hm1 hm2 hp => ?_)
      cases hfp : fixed p.op with
      | false => rfl
      | true =>
        have hL : L m := (hcut m p hp hfp).1 hm2
        have hmi : m ≠ i := fun e => hi (e ▸ hL)
        have hml : m < ops.toList.length := (List.getElem?_eq_some_iff.1 hp).1
        refine absurd hL (hlate m hml (by omega) (fun hd => ?_))
        have hcm := chkOp_spec (chk_op hchk hp)
        rcases (hcm.order hd i (by omega) o ho).2.1 hfp hf with h | h
        · rw [hex hd] at h; cases h.1
        · exact h
  have hcutm : fixed o.op = false → ∀ (k : Nat) (p : Oper), ops.toList[k]? = some p → fixed p.op = true → (k < c ↔ (L k ∨ k = i)) := by
    intro hf k p hp hfp
    rw [hcut k p hp hfp]
    constructor
    · exact .inl
    · rintro (h | rfl)
      · exact h
      · rw [ho] at hp
        cases hp
        rw [hf] at hfp
        cases hfp
  have hcutf : fixed o.op = true → ∀ (k : Nat) (p : Oper), ops.toList[k]? = some p → fixed p.op = true → (k < i + 1 ↔ (L k ∨ k = i)) := by
    intro hf k p hp hfp
    have hkl : k < ops.toList.length := (List.getElem?_eq_some_iff.1 hp).1
    constructor
    · intro hk
      by_cases he : k = i
      · exact .inr he
      · exact .inl (hneed k (by omega) (fun hd => (hc.order hd k (by omega) p hp).1 hf hfp))
    · rintro (h | rfl)
      · rcases Nat.lt_or_ge i k with hik | hik
        · have hcm := chkOp_spec (chk_op hchk hp)
          exact absurd h (hlate k hkl hik (fun hd => (hcm.order hd i hik o ho).1 hfp hf))
        · omega
      · omega
  cases hA : A i with
  | false =>
    rw [if_neg (by simp)]
    have hst := ht.still ho (.inr hA)
    by_cases hf : fixed o.op = true
    · obtain ⟨e1, e2⟩ := hfix hf
      exact hK _ _ (Inv.next ho hc hi dfr sz hext0 h1 h2 rfl (.refl Γ) (c' := i + 1) (by rw [hst, ← e1]; exact hok) (by omega) (hcutf hf) (fun h => by rw [hA] at h; cases h) (fun _ => rfl))
    · have hf : fixed o.op = false := by simpa using hf
      exact hK _ _ (Inv.next ho hc hi dfr sz hext0 h1 h2 rfl (.refl Γ) (c' := c) hok hcl (hcutm hf) (fun h => by rw [hA] at h; cases h) (fun _ => rfl))
  | true =>
    rw [if_pos rfl]
    left
    rw [hA] at hact hstep
    have hsat := actE_true hact
    -- the operands hold what is known of them
    have hgood : ∀ (t : Nat) (G : List (Nat × Bool)), t ∈ tmpsOf o.op → (∀ s b, (s, b) ∈ G → (E i).get s = some (.c (.v (.bool b)))) → (∀ j, j < i → dstOf ops.toList j = some t → subG (gs.getD j []) G = true) → Good Γ (E i) a (.tmp t) := by
      intro t G htm hG hsub av hav
      obtain ⟨hown, htj⟩ := hc.tmps t htm
      simp only [evO] at hav
      by_cases hex : ∃ j, j < i ∧ dstOf ops.toList j = some t
      · obtain ⟨j, hj, hd⟩ := hex
        have hL := hneed j hj ((htj j (by omega) hd).1 hj).1
        rw [hget j t hj hd] at hav
        cases hav
        have hs := hsub j hj hd
        unfold subG at hs
        rw [List.all_eq_true] at hs
        have hAj := hAsub j hj t hd (fun s b hm => hG s b (by simpa using hs (s, b) hm))
        obtain ⟨y, g3, g4⟩ := (h2 j t (by omega) hL hd).1 hAj
        simpa [Act.eval, Array.getD_eq_getD_getElem?, g3] using g4
      · have hno : ∀ m, 0 ≤ m → m < i → dstOf ops.toList m ≠ some t := fun m _ hm hd => hex ⟨m, hm, hd⟩
        have h0 := ht.get0 (t := t) 0 i (by omega) (by omega) hno
        rw [ht.zero] at h0
        rw [h0] at hav
        obtain ⟨y, g3, g4⟩ := h1 t av hav (fun k hk hd hLk => by
          by_cases hki : k < i
          · exact hex ⟨k, hki, hd⟩
          · by_cases hke : k = i
            · exact hi (hke ▸ hLk)
            · exact hlate k hk (by omega) (fun hdr => (htj k hk hd).2 hki hdr) hLk)
        simpa [Act.eval, Array.getD_eq_getD_getElem?, g3] using g4
    have hneedG : ∀ t ∈ tmpsOf o.op, ∀ j, j < i → dstOf ops.toList j = some t → subG (gs.getD j []) (needG o.op (gs.getD i []) t) = true := fun t htm j hj hd => (((hc.tmps t htm).2 j (by omega) hd).1 hj).2
    have hgood' : (∀ x y z, o.op ≠ .pick x y z) → ∀ p ∈ o.op.operands, Good Γ (E i) a p := by
      intro hnp p hp
      cases p with
      | const v => exact good_const'
      | global g => exact good_global
      | func f => exact good_func
      | tmp t =>
        have htm : t ∈ tmpsOf o.op := by
          unfold tmpsOf
          rw [List.mem_filterMap]
          exact ⟨.tmp t, by simpa using hp, rfl⟩
        refine hgood t (gs.getD i []) htm hsat (fun j hj hd => ?_)
        have := hneedG t htm j hj hd
        unfold needG at this
        split at this
        · rename_i c' p' q' heq
          exact absurd heq (hnp _ _ _)
        · exact this
    rcases hstep with ⟨hfalse, _⟩ | ⟨f, args, ts, cf, caps, as, hop, hev, hall, hHH, hobl⟩ | ⟨hcall, hwok, hgE⟩
    · cases hfalse
    · -- a call
      have hnp : ∀ x y z, o.op ≠ .pick x y z := by intro x y z; rw [hop]; simp
      have hg' := hgood' hnp
      have hf : fixed o.op = false := by rw [hop]; rfl
      have hopn : o.op.operands = #[f] ++ args := by rw [hop]; rfl
      have hcf := hg' f (by rw [hopn]; simp) _ hev
      simp only [concV, conc] at hcf
      obtain ⟨ys, hfe, hys⟩ := hcf
      have has := allV_spec (Γ := Γ) (a := a) args.toList as (fun p hp => hg' p (by rw [hopn]; simp [by simpa using hp])) hall
      have hD : DCall P cf (as ++ caps.map .c) (HH c) (X i) := by
        have := hobl rfl
        by_cases hex : ex.getD i false = true
        · simp only [hex, if_true] at this
          exact this (HH c)
        · have hexf : ex.getD i false = false := by simpa using hex
          simp only [hexf, Bool.false_eq_true, if_false] at this
          rw [hmob hf (fun _ => hexf)]
          exact this
      have hrun := call_run (P := P) (w := Γ.w) hop hfe hD.1
      unfold Oper.wp
      rw [hrun, Oper.upon_enter]
      refine (hD.2 Γ hok (args.map a.eval ++ ys) (by simpa using concVs_append has (concVs_leaves hys))).mono fun e w' he => ?_
      obtain ⟨y, r, Γ', H', rfl, ⟨rfl, rfl⟩, rfl, hext, hok', hcv⟩ := he
      exact hK _ _ (Inv.next ho hc hi dfr sz hext0 h1 h2 rfl hext (c' := c) hok' hcl (hcutm hf) (fun _ => hcv) (fun h => by rw [hA] at h; cases h))
    · -- an operation
      have hst : stp P (E i) (HH i) o.op = some (X i, HH (i + 1)) := by
        unfold gE at hgE
        split at hgE
        · rename_i x H1 hs
          simp only [cond_true, Option.some.injEq, Prod.mk.injEq] at hgE
          rw [hs, hgE.1, hgE.2]
        · simp at hgE
      have hres : ∀ (H' : List Ob) (c' : Nat), HH c' = H' → stp P (E i) (HH c) o.op = some (X i, H') → c' ≤ ops.toList.length → (∀ (k : Nat) (p : Oper), ops.toList[k]? = some p → fixed p.op = true → (k < c' ↔ (L k ∨ k = i))) → o.wp P a Γ.w K Q := by
        intro H' c' hH' hs hc'l hcut'
        have hop : OpRes Γ ((execOp a.eval o).run P Γ.w) (X i) H' := by
          by_cases hpk : ∃ x y z, o.op = .pick x y z
          · obtain ⟨pc, pp, pq, hpk⟩ := hpk
            have hopn : o.op.operands = #[pc, pp, pq] := by rw [hpk]; rfl
            have htm : ∀ t, (.tmp t : Operand) ∈ o.op.operands → t ∈ tmpsOf o.op := by
              intro t htm
              unfold tmpsOf
              rw [List.mem_filterMap]
              exact ⟨.tmp t, by simpa using htm, rfl⟩
            have hgd : ∀ (p : Operand) (G : List (Nat × Bool)), p ∈ o.op.operands → (∀ s b, (s, b) ∈ G → (E i).get s = some (.c (.v (.bool b)))) → (∀ t, p = .tmp t → ∀ j, j < i → dstOf ops.toList j = some t → subG (gs.getD j []) G = true) → Good Γ (E i) a p := by
              intro p G hp hG hs
              cases p with
              | const v => exact good_const'
              | global g => exact good_global
              | func f => exact good_func
              | tmp t => exact hgood t G (htm t hp) hG (hs t rfl)
            have sub2 : ∀ (g : List (Nat × Bool)) (x : Nat × Bool) (G : List (Nat × Bool)), subG G g = true → subG G (x :: g) = true := by
              intro g x G h
              unfold subG at *
              rw [List.all_eq_true] at *
              intro y hy
              have := h y hy
              simp only [List.contains_eq_mem, List.mem_cons, decide_eq_true_eq] at *
              exact .inr this
            refine pick_sound hok hpk hs ?_ ?_ ?_
            · refine hgd pc (gs.getD i []) (by rw [hopn]; simp) hsat (fun t hpt j hj hd => ?_)
              have := hneedG t (htm t (by rw [hopn, hpt]; simp)) j hj hd
              rw [hpk, hpt] at this
              simpa [needG] using this
            · intro hcT
              cases hpc : pc with
              | tmp cs =>
                rw [hpc] at hcT
                simp only [evO] at hcT
                refine hgd pp ((cs, true) :: gs.getD i []) (by rw [hopn]; simp) (fun s b hm => ?_) (fun t hpt j hj hd => ?_)
                · rcases List.mem_cons.1 hm with hm | hm
                  · cases hm; exact hcT
                  · exact hsat s b hm
                · have := hneedG t (htm t (by rw [hopn, hpt]; simp)) j hj hd
                  rw [hpk, hpt, hpc] at this
                  unfold needG at this
                  simp only at this
                  split at this
                  · exact sub2 _ _ _ this
                  · cases pq <;> simp only [and_true, if_true, true_and] at this
                    all_goals first
                      | exact this
                      | (split at this
                         · exact sub2 _ _ _ this
                         · exact this)
              | _ =>
                refine hgd pp (gs.getD i []) (by rw [hopn]; simp) hsat (fun t hpt j hj hd => ?_)
                have := hneedG t (htm t (by rw [hopn, hpt]; simp)) j hj hd
                rw [hpk, hpc] at this
                simpa [needG] using this
            · intro hcF
              cases hpc : pc with
              | tmp cs =>
                rw [hpc] at hcF
                simp only [evO] at hcF
                refine hgd pq ((cs, false) :: gs.getD i []) (by rw [hopn]; simp) (fun s b hm => ?_) (fun t hpt j hj hd => ?_)
                · rcases List.mem_cons.1 hm with hm | hm
                  · cases hm; exact hcF
                  · exact hsat s b hm
                · have := hneedG t (htm t (by rw [hopn, hpt]; simp)) j hj hd
                  rw [hpk, hpt, hpc] at this
                  unfold needG at this
                  simp only at this
                  split at this
                  · exact sub2 _ _ _ this
                  · cases pp <;> simp only [and_true, if_true, true_and] at this
                    all_goals first
                      | exact this
                      | (split at this
                         · exact sub2 _ _ _ this
                         · exact this)
              | _ =>
                refine hgd pq (gs.getD i []) (by rw [hopn]; simp) hsat (fun t hpt j hj hd => ?_)
                have := hneedG t (htm t (by rw [hopn, hpt]; simp)) j hj hd
                rw [hpk, hpc] at this
                simpa [needG] using this
          · exact stp_sound hok (hgood' (fun x y z h => hpk ⟨x, y, z, h⟩)) hs
        obtain ⟨y, Γ', hr, hext, hok', hcv⟩ := hop
        have hnx := hK _ _ (Inv.next (v := y) ho hc hi dfr sz hext0 h1 h2 rfl hext (c' := c') (by rw [hH']; exact hok') hc'l hcut' (fun _ => hcv) (fun h => by rw [hA] at h; cases h))
        unfold Oper.wp
        rcases hr with hr | ⟨hr, rfl⟩
        · rw [hr, Oper.upon_value]; exact hnx
        · rw [hr, Oper.upon_skip]; exact hnx
      by_cases hf : fixed o.op = true
      · obtain ⟨e1, e2⟩ := hfix hf
        exact hres _ (i + 1) rfl (by rw [e1]; exact hst) (by omega) (hcutf hf)
      · have hf : fixed o.op = false := by simpa using hf
        have hH1 := ht.still ho (.inl hf)
        rw [hH1] at hst
        by_cases hex : draw = true ∧ ex.getD i false = true
        · obtain ⟨W', rfl⟩ := hW hex.1
          have hag : Agree W' (HH i) (HH c) := by
            rcases Nat.le_total c i with hci | hci
            · refine (ht.agree c i hci (by omega) (fun m p hm1 hm2 hp hfp => ?_)).symm
              rcases (hc.order hex.1 m hm2 p hp).2.2 hf hfp with h | h
              · exact h.2
              · have hL : L m := hneed m hm2 (fun _ => h)
                have := (hcut m p hp hfp).2 hL
                omega
            · refine ht.agree i c hci hcl (fun m p hm1 hm2 hp hfp => ?_)
              have hL : L m := (hcut m p hp hfp).1 hm2
              have hmi : m ≠ i := fun e => hi (e ▸ hL)
              have hml : m < ops.toList.length := (List.getElem?_eq_some_iff.1 hp).1
              have hcm := chkOp_spec (chk_op hchk hp)
              rcases (hcm.order hex.1 i (by omega) o ho).2.1 hfp hf with h | h
              · exact h.2
              · exact absurd hL (hlate m hml (by omega) (fun _ => h))
          have hopk : ∀ p ∈ o.op.operands.toList, hOk W' (evO (E i) p) = true := by
            simp only [wOk, hf, Bool.false_eq_true, if_false, hex.2, Bool.not_true, Bool.false_or, List.all_eq_true] at hwok
            exact hwok
          exact hres _ c rfl (stp_frame hag hf hopk hst) hcl (hcutm hf)
        · have he : HH c = HH i := hmob hf (fun hd => by
            cases h : ex.getD i false with
            | false => rfl
            | true => exact absurd ⟨hd, h⟩ hex)
          exact hres _ c rfl (by rw [he]; exact hst) hcl (hcutm hf)

end
end Go.Nx
