/- A region in the text's order: calls in it may turn the heap. -/
import Derived.Test.YtcnbkfgajnlbpaaNxX
namespace Go.Nx
set_option linter.unusedVariables false
set_option linter.unusedSimpArgs false

theorem put_sat {N : Nat} {Γ Γ' : Ctx} {e : Env} {a : Act} (sz : a.tmps.size = N) (henv : ∀ t x, e.get t = some x → ∃ y, a.tmps[t]? = some y ∧ concV Γ x y) (hle : Γ.Le Γ') {d : Option Nat} (hd : ∀ t, d = some t → t < N) {x : AVal} {v : Value} (hv : concV Γ' x v) :
    ∀ t z, (putE e d x).get t = some z → ∃ y, (a.put d v).tmps[t]? = some y ∧ concV Γ' z y := by
  intro t z hz
  rw [Env.get_put] at hz
  split at hz
  · rename_i he
    subst he
    cases hz
    exact ⟨v, put_same (by rw [sz]; exact hd t rfl), hv⟩
  · rename_i he
    obtain ⟨y, h1, h2⟩ := henv t z hz
    exact ⟨y, by rw [put_get he]; exact h1, concV_mono hle _ _ h2⟩


/-- What a guard says, in the text's order. -/
def wantE (A : List Oper) (e : Env) : Option (Nat × Bool) → Option Bool
  | none => some true
  | some (j, w) => match dstOf A j with
    | some s => match e.get s with
      | some (.c (.v (.bool b))) => some (b == w)
      | _ => none
    | none => none

/-- What is left of a region, in the text's order: 'A' is all of it. -/
def TextR (P : Program) (N : Nat) (Γ0 : Ctx) (A : List Oper) (l : List Oper) (e : Env) (H : List Ob) (K : Env → List Ob → Prop) : Prop :=
  ∀ (ops : Array Oper) (Q : Exit → Act → World → Prop), ops.toList = A → (∀ o ∈ ops.toList, ∀ t, o.dst = some t → t < N) → (∀ e H, K e H → ∀ a w, Sat N Γ0 ⟨e, H⟩ a w → Q .normal a w) →
    ∀ i, ops.toList.drop i = l → ∀ a w, Sat N Γ0 ⟨e, H⟩ a w → wpOps P ops Q (List.range' i l.length) a w

section
variable {P : Program} {N : Nat} {Γ0 : Ctx} {A os : List Oper} {e e' : Env} {H H' H1 : List Ob} {K : Env → List Ob → Prop} {d : Option Nat} {o1 : Op} {ty : TypeId} {pos : String} {after : Array Edge} {guard : Option (Nat × Bool)} {x : AVal}

theorem drop_next {ops : Array Oper} {i : Nat} {o : Oper} {os : List Oper} (hl : ops.toList.drop i = o :: os) : ops[i]? = some o ∧ ops.toList.drop (i + 1) = os ∧ o ∈ ops.toList := by
  have h1 : ops.toList[i]? = some o := by
    have := congrArg (fun l => l[0]?) hl
    simpa using this
  refine ⟨by simpa using h1, ?_, List.mem_of_getElem? h1⟩
  have := congrArg List.tail hl
  simpa using this

theorem good_env {Γ : Ctx} {e : Env} {a : Act} (henv : ∀ t x, e.get t = some x → ∃ y, a.tmps[t]? = some y ∧ concV Γ x y) : ∀ p, Good Γ e a p := by
  intro p
  cases p with
  | const v => exact good_const'
  | global g => exact good_global
  | func f => exact good_func
  | tmp t =>
    intro av hav
    obtain ⟨y, g3, g4⟩ := henv t av hav
    simpa [Act.eval, Array.getD_eq_getD_getElem?, g3] using g4

theorem wanted_eq {ops : Array Oper} (hA : ops.toList = A) {Γ : Ctx} {a : Act} (henv : ∀ t x, e.get t = some x → ∃ y, a.tmps[t]? = some y ∧ concV Γ x y) {o : Oper} {b : Bool} (h : wantE A e o.guard = some b) : Region.wanted o (yielded ops a.tmps) = b := by
  subst hA
  unfold wantE at h
  split at h
  · rename_i hg
    cases h
    simp [Region.wanted, hg]
  · rename_i j w hg
    split at h
    · rename_i s hd
      split at h
      · rename_i v hv
        cases h
        obtain ⟨y, h1, h2⟩ := henv s _ hv
        simp only [concV, conc] at h2
        obtain ⟨rfl, _⟩ := h2
        have hdo : ((ops[j]?).bind (·.dst)) = some s := by simpa [dstOf] using hd
        simp only [Region.wanted, hg, yielded, hdo, Option.bind_some, h1]
        simp
      · cases h
    · cases h

theorem TextR.nil (h : K e H) : TextR P N Γ0 A [] e H K := by
  intro ops Q hA hd hQ i hl a w hs
  simp only [List.length_nil, List.range'_zero, wpOps]
  exact hQ _ _ h a w hs

theorem TextR.opG (hg : wantE A e guard = some true) (hs : stp P e H o1 = some (x, H1)) (hr : TextR P N Γ0 A os (putE e d x) H1 K) : TextR P N Γ0 A (⟨d, o1, ty, pos, after, guard⟩ :: os) e H K := by
  intro ops Q hA hd hQ i hl a w hsat
  obtain ⟨hi, hl', hmem⟩ := drop_next hl
  rw [List.length_cons, List.range'_succ, wpOps_cons]
  obtain ⟨df, sz, Γ, rfl, hext, hok, henv⟩ := hsat
  unfold wpOp
  simp only [hi]
  rw [wanted_eq hA henv hg, if_pos rfl]
  left
  obtain ⟨y, Γ', hr', hext', hok', hcv⟩ := stp_sound (P := P) (o := ⟨d, o1, ty, pos, after, guard⟩) hok (fun p _ => good_env henv p) hs
  have hnx := hr ops Q hA hd hQ (i + 1) hl' (a.put d y) Γ'.w ⟨by rw [put_defers]; exact df, by rw [put_size]; exact sz, Γ', rfl, hext.trans hext', hok', put_sat sz henv hext'.le (hd _ hmem) hcv⟩
  unfold Oper.wp
  rcases hr' with hr' | ⟨hr', rfl⟩
  · rw [hr', Oper.upon_value]; exact hnx
  · rw [hr', Oper.upon_skip]; exact hnx

theorem TextR.op (hs : stp P e H o1 = some (x, H1)) (hr : TextR P N Γ0 A os (putE e d x) H1 K) : TextR P N Γ0 A (⟨d, o1, ty, pos, after, none⟩ :: os) e H K := .opG rfl hs hr

/-- What isn't wanted. -/
theorem TextR.off (hg : wantE A e guard = some false) (hr : TextR P N Γ0 A os (putE e d unit) H K) : TextR P N Γ0 A (⟨d, o1, ty, pos, after, guard⟩ :: os) e H K := by
  intro ops Q hA hd hQ i hl a w hsat
  obtain ⟨hi, hl', hmem⟩ := drop_next hl
  rw [List.length_cons, List.range'_succ, wpOps_cons]
  obtain ⟨df, sz, Γ, rfl, hext, hok, henv⟩ := hsat
  unfold wpOp
  simp only [hi]
  rw [wanted_eq hA henv hg, if_neg (by simp)]
  exact hr ops Q hA hd hQ (i + 1) hl' (a.put d undef) Γ.w ⟨by rw [put_defers]; exact df, by rw [put_size]; exact sz, Γ, rfl, hext, hok, put_sat sz henv (.refl Γ) (hd _ hmem) (by simp [concV, concVs, undef])⟩

theorem TextR.callG {f : Operand} {args : Array Operand} {ts : Array TypeId} {c : FuncId} {caps : List Leaf} {as : List AVal} {K' : AVal → List Ob → Prop} (hg : wantE A e guard = some true)
    (hf : evO e f = some (.c (.clo c caps))) (has : allV (args.toList.map (evO e)) = some as) (hc : Nx.Call P c (as ++ caps.map .c) H K')
    (hr : ∀ x H', K' x H' → TextR P N Γ0 A os (putE e d x) H' K) : TextR P N Γ0 A (⟨d, .call { callee := .value f, args := args, argTypes := ts }, ty, pos, after, guard⟩ :: os) e H K := by
  intro ops Q hA hd hQ i hl a w hsat
  obtain ⟨hi, hl', hmem⟩ := drop_next hl
  rw [List.length_cons, List.range'_succ, wpOps_cons]
  obtain ⟨df, sz, Γ, rfl, hext, hok, henv⟩ := hsat
  unfold wpOp
  simp only [hi]
  rw [wanted_eq hA henv hg, if_pos rfl]
  left
  have hcf := good_env henv f _ hf
  simp only [concV, conc] at hcf
  obtain ⟨ys, hfe, hys⟩ := hcf
  have has' := allV_spec (Γ := Γ) (a := a) args.toList as (fun p _ => good_env henv p) has
  have hrun := call_run (P := P) (w := Γ.w) (o := ⟨d, .call { callee := .value f, args := args, argTypes := ts }, ty, pos, after, guard⟩) rfl hfe hc.1
  unfold Oper.wp
  rw [hrun, Oper.upon_enter]
  refine (hc.2 Γ hok (args.map a.eval ++ ys) (by simpa using concVs_append has' (concVs_leaves hys))).mono fun e' w' he => ?_
  obtain ⟨y, r, Γ', H', rfl, hk, rfl, hext', hok', hcv⟩ := he
  exact hr r H' hk ops Q hA hd hQ (i + 1) hl' (a.put d y) Γ'.w ⟨by rw [put_defers]; exact df, by rw [put_size]; exact sz, Γ', rfl, hext.trans hext', hok', put_sat sz henv hext'.le (hd _ hmem) hcv⟩

theorem TextR.call {f : Operand} {args : Array Operand} {ts : Array TypeId} {c : FuncId} {caps : List Leaf} {as : List AVal} {K' : AVal → List Ob → Prop}
    (hf : evO e f = some (.c (.clo c caps))) (has : allV (args.toList.map (evO e)) = some as) (hc : Nx.Call P c (as ++ caps.map .c) H K')
    (hr : ∀ x H', K' x H' → TextR P N Γ0 A os (putE e d x) H' K) : TextR P N Γ0 A (⟨d, .call { callee := .value f, args := args, argTypes := ts }, ty, pos, after, none⟩ :: os) e H K := .callG rfl hf has hc hr

theorem TextR.weak (hw : ∀ a w, Sat N Γ0 ⟨e, H⟩ a w → Sat N Γ0 ⟨e', H'⟩ a w) (hr : TextR P N Γ0 A os e' H' K) : TextR P N Γ0 A os e H K :=
  fun ops Q hA hd hQ i hl a w hs => hr ops Q hA hd hQ i hl a w (hw a w hs)
end

theorem sat_sub {N : Nat} {Γ0 : Ctx} {e e' : Env} {H : List Ob} (h : ∀ t x, e'.get t = some x → e.get t = some x) {a : Act} {w : World} (hs : Sat N Γ0 ⟨e, H⟩ a w) : Sat N Γ0 ⟨e', H⟩ a w := by
  obtain ⟨d, s, Γ, hw, hext, hok, henv⟩ := hs
  exact ⟨d, s, Γ, hw, hext, hok, fun t x hx => henv t x (h t x hx)⟩

theorem Keeps.get {e : Env} {l : List Nat} {r : Env} (h : Keeps e l r) : ∀ t x, r.get t = some x → e.get t = some x := by
  intro t x hx
  rw [← h.sel] at hx
  exact (sel_get hx).2

theorem Wp.text {F : Fr} {Q : Exit → St → Prop} {S : St} {id : Nat} {l : List Oper} (live : List Nat) {n : Nat} (hn : F.n = n) (hd : (l.all fun o => match o.dst with | some t => Nat.blt t n | none => true) = true)
    (h : TextR F.P n F.Γ l l S.env S.heap (fun e' H' => ∃ r, Keeps e' live r ∧ Q .normal ⟨r, H'⟩)) : Wp F (.region id l.toArray false) Q S := by
  intro a w hs
  subst hn
  refine wp_region ?_
  rw [List.range_eq_range']
  refine h l.toArray (fun ex a' w' => ∃ S', Q ex S' ∧ Sat F.n F.Γ S' a' w') (by simp) (fun o ho t hot => ?_) (fun e' H' ⟨r, h1, h2⟩ a w h3 => ⟨⟨r, H'⟩, h2, sat_sub h1.get h3⟩) 0 (by simp) a w hs
  rw [List.all_eq_true] at hd
  have := hd o (by simpa using ho)
  rw [hot] at this
  simpa using this

def preQ (P : Program) (ops : Array Oper) (Q : Exit → Act → World → Prop) (js : List Nat) : Exit → Act → World → Prop
  | .normal, a, w => wpOps P ops Q js a w
  | e, a, w => Q e a w

theorem wp_preQ {P : Program} {ops : Array Oper} {Q : Exit → Act → World → Prop} {js : List Nat} {o : Oper} {a : Act} {w : World} {K : Act → World → Prop} (h : o.wp P a w K (preQ P ops Q js)) : o.wp P a w K Q := by
  unfold Oper.wp at *
  generalize (execOp a.eval o).run P w = r at *
  cases r with
  | ok n w' => cases n <;> exact h
  | halt x w' => cases x <;> exact h

theorem wpOps_pre {P : Program} {l1 l2 : List Oper} {Q : Exit → Act → World → Prop} {js : List Nat} (hg : ∀ (i : Nat) (o : Oper), l1[i]? = some o → ∀ j b, o.guard = some (j, b) → j < l1.length) :
    ∀ (is : List Nat), (∀ i ∈ is, i < l1.length) → ∀ a w, wpOps P l1.toArray (preQ P (l1 ++ l2).toArray Q js) is a w → wpOps P (l1 ++ l2).toArray Q (is ++ js) a w
  | [], _, a, w, h => h
  | i :: is, hi, a, w, h => by
    have hlt := hi i (by simp)
    have ih := fun a w => wpOps_pre (P := P) (l2 := l2) (Q := Q) (js := js) hg is (fun j hj => hi j (by simp [hj])) a w
    have ho : l1[i]? = some (l1[i]'hlt) := List.getElem?_eq_getElem hlt
    simp only [List.cons_append, wpOps, List.getElem?_toArray, List.getElem?_append_left hlt, ho] at h ⊢
    have hwant : Region.wanted (l1[i]'hlt) (yielded (l1 ++ l2).toArray a.tmps) = Region.wanted (l1[i]'hlt) (yielded l1.toArray a.tmps) := by
      cases hgd : (l1[i]'hlt).guard with
      | none => simp [Region.wanted, hgd]
      | some jb =>
        obtain ⟨j, b⟩ := jb
        have hj := hg i _ ho j b hgd
        simp only [Region.wanted, hgd, yielded, List.getElem?_toArray, List.getElem?_append_left hj]
    rw [hwant]
    split
    · rename_i hw
      rw [if_pos hw] at h
      rcases h with h | ⟨h1, a', w', h2⟩
      · exact .inl (Oper.wp_mono (fun a w hk => ih a w hk) (wp_preQ h))
      · exact .inr ⟨h1, a', w', h2⟩
    · rename_i hw
      rw [if_neg hw] at h
      exact ih _ _ h

theorem range'_split (i m n : Nat) : List.range' i (m + n) = List.range' i m ++ List.range' (i + m) n := by
  have := List.range'_append (s := i) (m := m) (n := n) (step := 1)
  rw [Nat.one_mul] at this
  exact this.symm

/-- The first part reckoned ahead, guards and all. -/
theorem TextR.pre {P : Program} {N : Nat} {Γ0 : Ctx} {l1 l2 A : List Oper} {e : Env} {H : List Ob} {K : Env → List Ob → Prop} (gs : List (List (Nat × Bool))) (live : List Nat) (hA : A = l1 ++ l2) (hchk : (chk l1 gs [] false N && liveOk l1 gs live) = true)
    (h : RunR P none l1 gs [] e H (fun e' H' => ∃ r, Keeps e' live r ∧ TextR P N Γ0 A l2 r H' K)) : TextR P N Γ0 A A e H K := by
  intro ops Q hA' hd hQ i hl a w hs
  subst hA
  rw [Bool.and_eq_true] at hchk
  have hi : i = 0 ∨ l1 ++ l2 = [] := by
    rw [hA'] at hl
    have := congrArg List.length hl
    simp only [List.length_drop, List.length_append] at this
    by_cases h0 : i = 0
    · exact .inl h0
    · right
      apply List.eq_nil_of_length_eq_zero
      simp only [List.length_append]
      omega
  obtain ⟨e', H', hrun, r, hkeep, htext⟩ := h
  obtain ⟨E, HH, X, B, h1, h2, h3, h4, h5⟩ := specR_trace hrun
  have ht : Trace P none l1.toArray.toList gs [] e E HH X B := ⟨h1, fun k o ho => (h5 k o (by simpa using ho)).1, fun k o ho => (h5 k o (by simpa using ho)).2⟩
  have hops : ops = (l1 ++ l2).toArray := by
    rw [← hA']
  have hmain : wpOps P (l1 ++ l2).toArray Q (List.range' 0 l1.length ++ List.range' (0 + l1.length) l2.length) a w := by
    refine wpOps_pre (fun i o ho j b hg => ?_) _ (fun i hi => by simpa using hi) a w ?_
    · have hc := chkOp_spec (chk_op hchk.1 ho)
      obtain ⟨q, _⟩ := hc.guard1 j b hg
      have := (List.getElem?_eq_some_iff.1 ho).1
      omega
    · have := sim_text (P := P) (ops := l1.toArray) (Q := preQ P (l1 ++ l2).toArray Q (List.range' (0 + l1.length) l2.length)) (by simpa using hchk.1) ht (fun a w hI => ?_) l1.toArray.toList.length 0 (by simp) a w (Inv.start h2 hs (fun k => by omega))
      · simpa using this
      · have hdone := Inv.done ht (by simpa using hchk.1) hI (fun k hk => hk) (by simpa using hchk.2 : liveOk l1.toArray.toList gs live = true)
        simp only [] at hdone
        rw [h3, h4] at hdone
        have := htext ops Q hA' hd hQ l1.length (by rw [hA']; simp) a w (by rw [hkeep.sel] at hdone; exact hdone)
        rw [hops] at this
        simpa [preQ] using this
  rcases hi with rfl | hnil
  · rw [hops]
    rw [List.length_append, range'_split]
    exact hmain
  · simp only [List.append_eq_nil_iff] at hnil
    obtain ⟨rfl, rfl⟩ := hnil
    simp only [List.append_nil, List.length_nil, List.range'_zero]
    rw [hops]
    simpa using hmain

theorem TextR.done {P : Program} {N : Nat} {Γ0 : Ctx} {A : List Oper} {e : Env} {H : List Ob} {Q : Exit → St → Prop} {live : List Nat} {r : Env} (h : Keeps e live r) (h2 : Q .normal ⟨r, H⟩) : TextR P N Γ0 A [] e H (fun e' H' => ∃ r, Keeps e' live r ∧ Q .normal ⟨r, H'⟩) := .nil ⟨r, h, h2⟩
end Go.Nx
