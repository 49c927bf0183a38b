/- A region, soundly: one operation. -/
import Derived.Test.YtcnbkfgajnlbpaaNxN
namespace Go.Nx
set_option linter.unusedVariables false
set_option linter.unusedSimpArgs false

theorem callFunc_enters {P : Program} {f : FuncId} (h : enters P f = true) (args : Array Value) (w : World) : (callFunc f args).run P w = .ok (.enter f args) w := by
  unfold enters at h
  split at h
  · rename_i fn hf
    simp only [Bool.and_eq_true, bne_iff_ne, ne_eq, Option.isSome_iff_ne_none] at h
    have hb : fn.body.isNone = false := by
      cases hb : fn.body with
      | none => exact absurd hb h.2
      | some b => rfl
    simp only [callFunc, Sem.run_bind, run_program, Result.andThen_ok, hf]
    simp [h.1, h.2]
  · cases h

theorem call_run {P : Program} {w : World} {o : Oper} {f : Operand} {args : Array Operand} {ts : Array TypeId} (ho : o.op = .call { callee := .value f, args := args, argTypes := ts }) {ρ : Operand → Value} {c : FuncId} {ys : Array Value}
    (hf : ρ f = .func (.func c) #[] ys) (he : enters P c = true) : (execOp ρ o).run P w = .ok (.enter c (args.map ρ ++ ys)) w := by
  simp [execOp, ho, resolve, hf, Deferred.ofValue, invoke, callFunc_enters he]

theorem concVs_append {Γ : Ctx} : ∀ {as bs : List AVal} {xs ys : List Value}, concVs Γ as xs → concVs Γ bs ys → concVs Γ (as ++ bs) (xs ++ ys)
  | [], bs, xs, ys, h, h' => by
    simp only [concVs] at h
    subst h
    simpa using h'
  | a :: as, bs, xs, ys, h, h' => by
    simp only [concVs] at h
    obtain ⟨y, ys', rfl, h2, h3⟩ := h
    simp only [List.cons_append, concVs]
    exact ⟨y, _, rfl, h2, concVs_append h3 h'⟩

theorem concVs_leaves {Γ : Ctx} : ∀ {ls : List Leaf} {ys : List Value}, concAll Γ ls ys → concVs Γ (ls.map .c) ys
  | [], ys, h => by simpa [concAll, concVs] using h
  | l :: ls, ys, h => by
    simp only [concAll] at h
    obtain ⟨y, ys', rfl, h2, h3⟩ := h
    simp only [List.map_cons, concVs, concV]
    exact ⟨y, _, rfl, h2, concVs_leaves h3⟩

theorem allV_spec {Γ : Ctx} {e : Env} {a : Act} : ∀ (ops : List Operand) (as : List AVal), (∀ p ∈ ops, Good Γ e a p) → allV (ops.map (evO e)) = some as → concVs Γ as (ops.map a.eval)
  | [], as, _, h => by
    simp [allV] at h
    subst h
    simp [concVs]
  | p :: ps, as, hg, h => by
    simp only [List.map_cons] at h
    unfold allV at h
    split at h
    · rename_i heq; cases heq
    · rename_i x r heq
      simp only [List.cons.injEq] at heq
      obtain ⟨h1, rfl⟩ := heq
      simp only [Option.map_eq_some_iff] at h
      obtain ⟨as', h2, rfl⟩ := h
      simp only [List.map_cons, concVs]
      exact ⟨_, _, rfl, hg p (by simp) _ h1, allV_spec ps as' (fun q hq => hg q (by simp [hq])) h2⟩
    · cases h

theorem actE_true {e : Env} : ∀ {g : List (Nat × Bool)}, actE e g = some true → ∀ s w, (s, w) ∈ g → e.get s = some (.c (.v (.bool w)))
  | [], _, s, w, h => by simp at h
  | (s', w') :: r, h, s, w, hm => by
    simp only [actE] at h
    split at h
    · rename_i b c h1 h2
      simp only [Option.some.injEq, Bool.and_eq_true, beq_iff_eq] at h
      obtain ⟨rfl, rfl⟩ := h
      rcases List.mem_cons.1 hm with hm | hm
      · cases hm; exact h1
      · exact actE_true h2 s w hm
    · cases h

theorem actE_of {e : Env} : ∀ {g : List (Nat × Bool)}, (∀ s w, (s, w) ∈ g → e.get s = some (.c (.v (.bool w)))) → actE e g = some true
  | [], _ => rfl
  | (s, w) :: r, h => by
    simp [actE, h s w (by simp), actE_of (g := r) (fun s' w' hm => h s' w' (by simp [hm]))]

theorem actE_congr {e e' : Env} : ∀ {g : List (Nat × Bool)}, (∀ s w, (s, w) ∈ g → e'.get s = e.get s) → actE e' g = actE e g
  | [], _ => rfl
  | (s, w) :: r, h => by
    simp [actE, h s w (by simp), actE_congr (g := r) (fun s' w' hm => h s' w' (by simp [hm]))]

section
variable {P : Program} {W : Option (List Nat)} {ops : Array Oper} {gs : List (List (Nat × Bool))} {ex : List Bool} {draw : Bool} {n : Nat} {Γ0 : Ctx} {e0 : Env}
  {E : Nat → Env} {HH : Nat → List Ob} {X : Nat → AVal} {A : Nat → Bool}

/-- The reckoning's trace. -/
structure Trace (P : Program) (W : Option (List Nat)) (ops : List Oper) (gs : List (List (Nat × Bool))) (ex : List Bool) (e0 : Env) (E : Nat → Env) (HH : Nat → List Ob) (X : Nat → AVal) (A : Nat → Bool) : Prop where
  zero : E 0 = e0
  step : ∀ (k : Nat) (o : Oper), ops[k]? = some o → StepR P W (gs.getD k []) (ex.getD k false) o (E k) (HH k) (A k) (X k) (HH (k + 1))
  env : ∀ (k : Nat) (o : Oper), ops[k]? = some o → E (k + 1) = putE (E k) o.dst (X k)

theorem chk_op {l : List Oper} (h : chk l gs ex draw n = true) {k : Nat} {o : Oper} (ho : l[k]? = some o) : chkOp l gs ex draw n (masks l []) k o = true := by
  unfold chk at h
  rw [List.all_eq_true] at h
  have := h k (by rw [List.mem_range]; exact (List.getElem?_eq_some_iff.1 ho).1)
  simpa [ho] using this

structure Checked (l : List Oper) (gs : List (List (Nat × Bool))) (ex : List Bool) (draw : Bool) (n k : Nat) (o : Oper) : Prop where
  edges : ∀ ed ∈ o.after.toList, Region.binds .any ed = true → ed.on < k
  dst : ∀ d, o.dst = some d → d < n
  own : ∀ j, j < l.length → j ≠ k → ∀ d, o.dst = some d → dstOf l j ≠ some d
  guard0 : o.guard = none → gs.getD k [] = []
  guard1 : ∀ j w, o.guard = some (j, w) → j < k ∧ (∃ s, dstOf l j = some s ∧ gs.getD k [] = (s, w) :: gs.getD j []) ∧ (draw = true → anc (masks l []) j k = true)
  tmps : ∀ t ∈ tmpsOf o.op, o.dst ≠ some t ∧ ∀ j, j < l.length → dstOf l j = some t → (j < k → (draw = true → anc (masks l []) j k = true) ∧ subG (gs.getD j []) (needG o.op (gs.getD k []) t) = true) ∧ (¬ j < k → draw = true → anc (masks l []) k j = true)
  slots : ∀ s w, (s, w) ∈ gs.getD k [] → o.dst ≠ some s ∧ ∀ j, j < l.length → dstOf l j = some s → j < k ∧ (draw = true → anc (masks l []) j k = true)
  order : draw = true → ∀ j, j < k → ∀ p, l[j]? = some p → (fixed o.op = true → fixed p.op = true → anc (masks l []) j k = true) ∧
    (fixed o.op = true → fixed p.op = false → (ex.getD j false = true ∧ ex.getD k false = false) ∨ anc (masks l []) j k = true) ∧ (fixed o.op = false → fixed p.op = true → (ex.getD k false = true ∧ ex.getD j false = false) ∨ anc (masks l []) j k = true)

theorem chkOp_spec {l : List Oper} {k : Nat} {o : Oper} (h : chkOp l gs ex draw n (masks l []) k o = true) : Checked l gs ex draw n k o := by
  unfold chkOp at h
  simp only [Bool.and_eq_true] at h
  obtain ⟨⟨⟨⟨⟨⟨h1, h2⟩, h3⟩, h4⟩, h5⟩, h6⟩, h7⟩ := h
  refine ⟨?_, ?_, ?_, ?_, ?_, ?_, ?_, ?_⟩
  · intro ed he hb
    rw [List.all_eq_true] at h1
    have := h1 ed he
    simpa [hb] using this
  · intro d hd
    simpa [hd] using h2
  · intro j hj hjk d hd hc
    rw [List.all_eq_true] at h3
    have := h3 j (by simpa using hj)
    simp [hjk, hd, hc] at this
  · intro hg
    simpa [hg] using h4
  · intro j w hg
    simp only [hg, Bool.and_eq_true, decide_eq_true_eq] at h4
    obtain ⟨⟨a1, a2⟩, a3⟩ := h4
    refine ⟨a1, ?_, fun hd => by simpa [hd] using a3⟩
    split at a2
    · rename_i s hs
      exact ⟨s, hs, by simpa using a2⟩
    · cases a2
  · intro t ht
    rw [List.all_eq_true] at h5
    have := h5 t ht
    simp only [Bool.and_eq_true, bne_iff_ne, ne_eq, List.all_eq_true, List.mem_range] at this
    refine ⟨this.1, fun j hj hd => ?_⟩
    have h := this.2 j hj
    rw [if_pos hd] at h
    constructor
    · intro hlt
      rw [if_pos hlt] at h
      simp only [Bool.and_eq_true, Bool.or_eq_true, Bool.not_eq_true'] at h
      exact ⟨fun hdr => by simpa [hdr] using h.1, h.2⟩
    · intro hlt hdr
      rw [if_neg hlt] at h
      simpa [hdr] using h
  · intro s w hm
    rw [List.all_eq_true] at h6
    have := h6 (s, w) hm
    simp only [Bool.and_eq_true, bne_iff_ne, ne_eq, List.all_eq_true, List.mem_range] at this
    refine ⟨this.1, fun j hj hd => ?_⟩
    have h := this.2 j hj
    rw [if_pos hd] at h
    simp only [Bool.and_eq_true, decide_eq_true_eq, Bool.or_eq_true, Bool.not_eq_true'] at h
    exact ⟨h.1, fun hdr => by simpa [hdr] using h.2⟩
  · intro hd j hj p hp
    simp only [hd, Bool.not_true, Bool.false_or, List.all_eq_true, List.mem_range] at h7
    have h := h7 j (List.getElem?_eq_some_iff.1 hp).1
    rw [if_pos hj, hp] at h
    simp only [Bool.and_eq_true] at h
    refine ⟨fun a b => by simpa [a, b] using h.1.1, fun a b => by simpa [a, b] using h.1.2, fun a b => by simpa [a, b] using h.2⟩

theorem Trace.get1 {l : List Oper} (ht : Trace P W l gs ex e0 E HH X A) {j t : Nat} : ∀ (i : Nat), j < i → i ≤ l.length → dstOf l j = some t → (∀ m, j < m → m < i → dstOf l m ≠ some t) → (E i).get t = some (X j)
  | 0, h, _, _, _ => by omega
  | i + 1, h, hi, hd, hu => by
    have ho : l[i]? = some (l[i]'(by omega)) := List.getElem?_eq_getElem (by omega)
    rw [ht.env i _ ho, Env.get_put]
    by_cases he : j = i
    · subst he
      have : (l[j]'(by omega)).dst = some t := by simpa [dstOf, ho] using hd
      simp [this]
    · have hne : (l[i]'(by omega)).dst ≠ some t := by
        have := hu i (by omega) (by omega)
        simpa [dstOf, ho] using this
      rw [if_neg hne]
      exact ht.get1 i (by omega) (by omega) hd (fun m h1 h2 => hu m h1 (by omega))

theorem Trace.get0 {l : List Oper} (ht : Trace P W l gs ex e0 E HH X A) {t : Nat} : ∀ (j i : Nat), j ≤ i → i ≤ l.length → (∀ m, j ≤ m → m < i → dstOf l m ≠ some t) → (E i).get t = (E j).get t
  | j, 0, hj, _, _ => by rw [show j = 0 by omega]
  | j, i + 1, hj, hi, hu => by
    by_cases he : j = i + 1
    · rw [he]
    · have ho : l[i]? = some (l[i]'(by omega)) := List.getElem?_eq_getElem (by omega)
      have hne : (l[i]'(by omega)).dst ≠ some t := by
        have := hu i (by omega) (by omega)
        simpa [dstOf, ho] using this
      rw [ht.env i _ ho, Env.get_put, if_neg hne]
      exact ht.get0 j i (by omega) (by omega) (fun m h1 h2 => hu m h1 (by omega))

theorem Trace.still {l : List Oper} (ht : Trace P W l gs ex e0 E HH X A) {k : Nat} {o : Oper} (ho : l[k]? = some o) (hf : fixed o.op = false ∨ A k = false) : HH (k + 1) = HH k := by
  obtain ⟨h1, h2⟩ := ht.step k o ho
  rcases h2 with ⟨_, hH⟩ | ⟨f, args, ts, c, caps, as, hop, _, _, hH, _⟩ | ⟨hc, hw, hg⟩
  · exact hH
  · exact hH
  · unfold gE at hg
    split at hg
    · rename_i x H1 hs
      simp only [Option.some.injEq, Prod.mk.injEq] at hg
      obtain ⟨_, hg⟩ := hg
      rcases hf with hf | hf
      · have := stp_mobile hf hs
        subst this
        rw [← hg]
        cases A k <;> rfl
      · rw [hf] at hg
        exact hg.symm
    · cases hA : A k <;> rw [hA] at hg
      · simp at hg
        exact hg.2.symm
      · simp at hg

theorem Trace.const {l : List Oper} (ht : Trace P W l gs ex e0 E HH X A) : ∀ (j i : Nat), j ≤ i → i ≤ l.length → (∀ (m : Nat) (o : Oper), j ≤ m → m < i → l[m]? = some o → fixed o.op = false) → HH i = HH j
  | j, 0, hj, _, _ => by rw [show j = 0 by omega]
  | j, i + 1, hj, hi, hu => by
    by_cases he : j = i + 1
    · rw [he]
    · have ho : l[i]? = some (l[i]'(by omega)) := List.getElem?_eq_getElem (by omega)
      rw [ht.still ho (.inl (hu i _ (by omega) (by omega) ho))]
      exact ht.const j i (by omega) (by omega) (fun m o h1 h2 h3 => hu m o h1 (by omega) h3)

theorem Agree.refl (W : List Nat) (H : List Ob) : Agree W H H := fun _ _ _ => rfl
theorem Agree.symm {W : List Nat} {H H' : List Ob} (h : Agree W H H') : Agree W H' H := fun n v hn => (h n v hn).symm
theorem Agree.trans {W : List Nat} {H H' H'' : List Ob} (h : Agree W H H') (h' : Agree W H' H'') : Agree W H H'' := fun n v hn => (h' n v hn).trans (h n v hn)

theorem Trace.agree1 {l : List Oper} {W' : List Nat} (ht : Trace P (some W') l gs ex e0 E HH X A) {k : Nat} {o : Oper} (ho : l[k]? = some o) (hx : fixed o.op = true → ex.getD k false = false) : Agree W' (HH k) (HH (k + 1)) := by
  by_cases hf : fixed o.op = false ∨ A k = false
  · rw [ht.still ho hf]; exact .refl _ _
  · have hf1 : fixed o.op = true := by
      cases h : fixed o.op with
      | true => rfl
      | false => exact absurd (.inl h) hf
    have hA : A k = true := by
      cases h : A k with
      | true => rfl
      | false => exact absurd (.inr h) hf
    obtain ⟨h1, h2⟩ := ht.step k o ho
    rcases h2 with ⟨_, hH⟩ | ⟨f, args, ts, c, caps, as, hop, _, _, hH, _⟩ | ⟨hc, hw, hg⟩
    · rw [hH]; exact .refl _ _
    · rw [hH]; exact .refl _ _
    · unfold gE at hg
      split at hg
      · rename_i x H1 hs
        simp only [Option.some.injEq, Prod.mk.injEq, hA, cond_true] at hg
        obtain ⟨_, rfl⟩ := hg
        refine stp_touch hf1 ?_ hs
        simpa only [wOk, hf1, hx hf1, if_true, Bool.false_or] using hw
      · simp [hA] at hg

theorem Trace.agree {l : List Oper} {W' : List Nat} (ht : Trace P (some W') l gs ex e0 E HH X A) : ∀ (j i : Nat), j ≤ i → i ≤ l.length → (∀ (m : Nat) (p : Oper), j ≤ m → m < i → l[m]? = some p → fixed p.op = true → ex.getD m false = false) → Agree W' (HH j) (HH i)
  | j, 0, hj, _, _ => by rw [show j = 0 by omega]; exact .refl _ _
  | j, i + 1, hj, hi, hx => by
    by_cases he : j = i + 1
    · rw [he]; exact .refl _ _
    · have ho : l[i]? = some (l[i]'(by omega)) := List.getElem?_eq_getElem (by omega)
      exact (ht.agree j i (by omega) (by omega) (fun m p h1 h2 => hx m p h1 (by omega))).trans (ht.agree1 ho (hx i _ (by omega) (by omega) ho))

end
end Go.Nx
