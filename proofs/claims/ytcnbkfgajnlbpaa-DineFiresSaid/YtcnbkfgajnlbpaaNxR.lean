/- The rules of the walk: code, loops, calls. -/
import Derived.Test.YtcnbkfgajnlbpaaNxQ
import Derived.Scope
import Derived.ScopeJumps
namespace Go.Nx
set_option linter.unusedVariables false
set_option linter.unusedSimpArgs false

/-- What stays fixed in a walk through one function: its program, how many slots, what there was. -/
structure Fr where
  P : Program
  n : Nat
  Γ : Ctx

def Wp (F : Fr) (c : Code) (Q : Exit → St → Prop) (S : St) : Prop :=
  ∀ a w, Sat F.n F.Γ S a w → c.wp F.P (fun ex a' w' => ∃ S', Q ex S' ∧ Sat F.n F.Γ S' a' w') a w

abbrev Exit.andThen (k : St → Prop) (Q : Exit → St → Prop) : Exit → St → Prop
  | .normal, S => k S
  | e, S => Q e S
abbrev Exit.ofBlock (id : Nat) (Q : Exit → St → Prop) : Exit → St → Prop
  | .exit id', S => match Nat.beq id' id with
    | true => Q .normal S
    | false => Q (.exit id') S
  | e, S => Q e S

section
variable {F : Fr} {Q : Exit → St → Prop} {S : St}

theorem Wp.seq {x y : Code} (h : Wp F x (Exit.andThen (Wp F y Q) Q) S) : Wp F (.seq x y) Q S := by
  intro a w hs
  refine wp_seq (wp_mono (h a w hs) fun e a' w' he => ?_)
  obtain ⟨S', hq, hs'⟩ := he
  cases e with
  | normal => exact hq a' w' hs'
  | _ => exact ⟨S', hq, hs'⟩

theorem Wp.skip (h : Q .normal S) : Wp F .skip Q S := fun a w hs => wp_skip ⟨S, h, hs⟩
theorem Wp.label {l : Nat} (h : Q .normal S) : Wp F (.label l) Q S := fun a w hs => wp_label ⟨S, h, hs⟩
theorem Wp.ret (h : Q .ret S) : Wp F .ret Q S := fun a w hs => wp_ret ⟨S, h, hs⟩
theorem Wp.exit {id : Nat} (h : Q (.exit id) S) : Wp F (.exit id) Q S := fun a w hs => wp_exit ⟨S, h, hs⟩
theorem Wp.goto {l : Nat} (h : Q (.goto l) S) : Wp F (.goto l) Q S := fun a w hs => wp_goto ⟨S, h, hs⟩

theorem Wp.block {id : Nat} {c : Code} (h : Wp F c (Exit.ofBlock id Q) S) : Wp F (.block id c) Q S := by
  intro a w hs
  refine wp_block (wp_mono (h a w hs) fun e a' w' he => ?_)
  obtain ⟨S', hq, hs'⟩ := he
  cases e with
  | exit id' =>
    simp only [Exit.ofBlock] at hq
    simp only [Exit.inBlock]
    split
    · rename_i hid
      subst hid
      simp only [Nat.beq_refl] at hq
      exact ⟨S', hq, hs'⟩
    · rename_i hid
      have : Nat.beq id' id = false := by
        cases h : Nat.beq id' id with
        | true => exact absurd (Nat.eq_of_beq_eq_true h) hid
        | false => rfl
      simp only [this] at hq
      exact ⟨S', hq, hs'⟩
  | _ => exact ⟨S', hq, hs'⟩

theorem Wp.cond {t : Nat} {x y : Code} {b : Bool} (hb : S.env.get t = some (.c (.v (.bool b)))) (ht : b = true → Wp F x Q S) (hf : b = false → Wp F y Q S) : Wp F (.cond (.tmp t) x y) Q S := by
  intro a w hs
  obtain ⟨d, s, Γ, rfl, hext, hok, henv⟩ := hs
  obtain ⟨v, h1, h2⟩ := henv t _ hb
  simp only [concV, conc] at h2
  have he : a.eval (.tmp t) = .bool b := by simp [Act.eval, Array.getD_eq_getD_getElem?, h1, h2.1]
  exact wp_cond_split he (fun h => ht h a _ ⟨d, s, Γ, rfl, hext, hok, henv⟩) (fun h => hf h a _ ⟨d, s, Γ, rfl, hext, hok, henv⟩)

theorem Wp.mono {c : Code} {Q' : Exit → St → Prop} (h : Wp F c Q S) (hq : ∀ e S', Q e S' → Q' e S') : Wp F c Q' S :=
  fun a w hs => wp_mono (h a w hs) fun e a' w' ⟨S', h1, h2⟩ => ⟨S', hq e S' h1, h2⟩

/-- What is known may be known less well. -/
def St.Weak (F : Fr) (S S' : St) : Prop := ∀ a w, Sat F.n F.Γ S a w → Sat F.n F.Γ S' a w

theorem St.Weak.refl {S : St} : S.Weak F S := fun _ _ h => h
theorem St.Weak.trans {S S' S'' : St} (h : S.Weak F S') (h' : S'.Weak F S'') : S.Weak F S'' := fun a w hs => h' a w (h a w hs)

theorem Wp.weak {c : Code} {S' : St} (hw : S.Weak F S') (h : Wp F c Q S') : Wp F c Q S := fun a w hs => h a w (hw a w hs)

/-- A loop: what holds at each round's head, under a number that each round lowers. -/
theorem Wp.loop {c : Code} (I : Nat → St → Prop) (m : Nat) (h0 : I m S) (round : ∀ m S, I m S → Wp F c (Exit.andThen (fun S' => ∃ m', m' < m ∧ ∃ S'', S'.Weak F S'' ∧ I m' S'') Q) S) : Wp F (.loop c) Q S := by
  intro a w hs b k cs
  have key : ∀ m S a w, I m S → Sat F.n F.Γ S a w →
      ∃ e a' w', (∃ S', Q e S' ∧ Sat F.n F.Γ S' a' w') ∧ Arrives F.P (lone (b.at a (.code c :: .inLoop c :: k)) cs w) b k cs e a' w' := by
    intro m
    induction m using Nat.strongRecOn with
    | _ m ih =>
      intro S a w hI hs
      obtain ⟨e, a₁, w₁, ⟨S', hq, hs'⟩, harr⟩ := round m S hI a w hs b (.inLoop c :: k) cs
      cases e with
      | normal =>
        obtain ⟨m', hlt, S'', hweak, hI'⟩ := hq
        obtain ⟨e₂, a₂, w₂, hq₂, harr₂⟩ := ih m' hlt S'' a₁ w₁ hI' (hweak _ _ hs')
        exact ⟨e₂, a₂, w₂, hq₂, .of_steps (Steps.trans harr (.one step_inLoop)) harr₂⟩
      | exit id => exact ⟨_, a₁, w₁, ⟨S', hq, hs'⟩, .pass (x := .inLoop c) rfl (fun _ _ => .inl (by simp)) harr⟩
      | goto l => exact ⟨_, a₁, w₁, ⟨S', hq, hs'⟩, .pass (x := .inLoop c) rfl (fun _ _ => .inl (by simp)) harr⟩
      | ret => exact ⟨_, a₁, w₁, ⟨S', hq, hs'⟩, .pass (x := .inLoop c) rfl (fun _ _ => .inl (by simp)) harr⟩
      | panic ch => exact ⟨_, a₁, w₁, ⟨S', hq, hs'⟩, .pass (x := .inLoop c) rfl (fun _ _ => .inl (by simp)) harr⟩
      | outgrown => exact ⟨_, a₁, w₁, ⟨S', hq, hs'⟩, .pass (x := .inLoop c) rfl (fun _ _ => .inl (by simp)) harr⟩
  obtain ⟨e, a', w', hq, harr⟩ := key m S a w h0 hs
  exact ⟨e, a', w', hq, .of_steps (.one step_loop) harr⟩

/-- A region without calls that turn the heap. -/
theorem Wp.region {id : Nat} {ops : Array Oper} (draw : Bool) (W : Option (List Nat)) (gs : List (List (Nat × Bool))) (ex : List Bool) (live : List Nat) {n : Nat} (hm : F.P.follows .mixedOrders = true) (hn : F.n = n) (hW : draw = true → ∃ W', W = some W')
    (hchk : (chk ops.toList gs ex draw n && liveOk ops.toList gs live) = true) {e' : Env} {H' : List Ob} {S1 : St} (hs : SpecR F.P W ops.toList gs ex S.env S.heap e' H') (hS1 : St.mk (sel live e') H' = S1) (hQ : Q .normal S1) : Wp F (.region id ops draw) Q S := by
  intro a w hsat
  subst hn
  rw [Bool.and_eq_true] at hchk
  exact region_rule id hm hW hchk.1 hs hchk.2 hsat (fun a w h => ⟨S1, hQ, by rw [← hS1]; exact h⟩)

theorem Wp.regionL {id : Nat} {l : List Oper} (draw : Bool) (W : Option (List Nat)) (gs : List (List (Nat × Bool))) (ex : List Bool) (live : List Nat) {n : Nat} (hm : F.P.follows .mixedOrders = true) (hn : F.n = n) (hW : (draw && W.isNone) = false)
    (hchk : (chk l gs ex draw n && liveOk l gs live) = true) {e' : Env} {H' : List Ob} {S1 : St} (hs : SpecR F.P W l gs ex S.env S.heap e' H') (hS1 : St.mk (sel live e') H' = S1) (hQ : Q .normal S1) : Wp F (.region id l.toArray draw) Q S :=
  Wp.region draw W gs ex live hm hn (fun hd => by
    subst hd
    cases W with
    | none => simp at hW
    | some W => exact ⟨W, rfl⟩) (by simpa using hchk) (by simpa using hs) hS1 hQ

end

/-! A function: from its body to a call of it. -/
def envOf : Nat → List AVal → Env
  | _, [] => []
  | k, x :: xs => (k, x) :: envOf (k + 1) xs

theorem envOf_get {Γ : Ctx} : ∀ (k : Nat) (xs : List AVal) (ys : List Value) (t : Nat) (x : AVal), concVs Γ xs ys → (envOf k xs).get t = some x → k ≤ t ∧ ∃ y, ys[t - k]? = some y ∧ concV Γ x y
  | k, [], ys, t, x, _, h => by simp [envOf, Env.get] at h
  | k, a :: xs, ys, t, x, hc, h => by
    simp only [concVs] at hc
    obtain ⟨y, ys', rfl, h2, h3⟩ := hc
    simp only [envOf, Env.get] at h
    split at h
    · rename_i he
      subst he
      cases h
      exact ⟨Nat.le_refl _, y, by simp, h2⟩
    · obtain ⟨g1, z, g2, g3⟩ := envOf_get (k + 1) xs ys' t x h3 h
      refine ⟨by omega, z, ?_, g3⟩
      rw [show t - k = (t - (k + 1)) + 1 by omega]
      simpa using g2

/-- What is handed back. -/
def resV (P : Program) (S : St) : ResultVar → Option AVal
  | .tmp t => S.env.get t
  | .cell t ty => match tk P ty, S.env.get t with
    | some (true, n), some (.c p) => (ldN S.heap n p).map .agg
    | some (false, _), some (.c p) => (ld1 S.heap p).map .c
    | _, _ => none
def retV (P : Program) (S : St) (rs : List ResultVar) : Option AVal :=
  match rs.mapM (resV P S) with
  | some [x] => some x
  | some xs => some (.tup xs)
  | none => none

theorem retV_sound {P : Program} {Γ : Ctx} {S : St} (hok : HeapOk Γ S.heap) {a : Act} (henv : ∀ t x, S.env.get t = some x → ∃ y, a.tmps[t]? = some y ∧ concV Γ x y) {fn : Func} {x : AVal} (h : retV P S fn.results.toList = some x) :
    ∃ v, (results fn a.tmps).run P Γ.w = .ok v Γ.w ∧ concV Γ x v := by
  have one : ∀ (r : ResultVar) (x : AVal), resV P S r = some x → ∃ v, ((match r with | .tmp t => pure (a.tmps.getD t undef) | .cell t ty => do loadVar ty (← asAddr (a.tmps.getD t undef)) : Sem Value)).run P Γ.w = .ok v Γ.w ∧ concV Γ x v := by
    intro r x hr
    cases r with
    | tmp t =>
      obtain ⟨y, h1, h2⟩ := henv t x hr
      exact ⟨y, by simp [Array.getD_eq_getD_getElem?, h1], h2⟩
    | cell t ty =>
      have hld : ∀ p y, conc Γ p y → (∃ n cs, ldN S.heap n p = some cs) ∨ (∃ l, ld1 S.heap p = some l) → ∃ ad, y = .pointer (some ad) := by
        intro p y hc h
        rcases h with ⟨n, cs, h⟩ | ⟨l, h⟩
        · obtain ⟨r, k, hp, _⟩ := ldN_spec h
          obtain ⟨b, o, rfl, _⟩ := readable hok hc hp
          exact ⟨_, rfl⟩
        · obtain ⟨r, k, hp, _⟩ := ld1_spec h
          obtain ⟨b, o, rfl, _⟩ := readable hok hc hp
          exact ⟨_, rfl⟩
      simp only [resV] at hr
      split at hr
      · rename_i n p ht hp
        simp only [Option.map_eq_some_iff] at hr
        obtain ⟨cs, h1, rfl⟩ := hr
        obtain ⟨y, g1, g2⟩ := henv t _ hp
        simp only [concV] at g2
        obtain ⟨ys, g3, g4⟩ := (load_sound (P := P) hok g2).1 n cs ht h1
        obtain ⟨ad, rfl⟩ := hld p y g2 (.inl ⟨n, cs, h1⟩)
        refine ⟨.agg ys, ?_, ⟨ys, rfl, g4⟩⟩
        simp only [Instr.loadAt, Instr.sureAddr, Sem.run_bind, Sem.run_pure, Result.andThen_ok] at g3
        simp [Array.getD_eq_getD_getElem?, g1, asAddr, g3]
      · rename_i n p ht hp
        simp only [Option.map_eq_some_iff] at hr
        obtain ⟨l, h1, rfl⟩ := hr
        obtain ⟨y, g1, g2⟩ := henv t _ hp
        simp only [concV] at g2
        obtain ⟨z, g3, g4⟩ := (load_sound (P := P) hok g2).2 n l ht h1
        obtain ⟨ad, rfl⟩ := hld p y g2 (.inr ⟨l, h1⟩)
        refine ⟨z, ?_, by simpa [concV] using g4⟩
        simp only [Instr.loadAt, Instr.sureAddr, Sem.run_bind, Sem.run_pure, Result.andThen_ok] at g3
        simp [Array.getD_eq_getD_getElem?, g1, asAddr, g3]
      · cases hr
  have all : ∀ (rs : List ResultVar) (xs : List AVal), rs.mapM (resV P S) = some xs → ∃ vs, (rs.mapM (fun r => (match r with | .tmp t => pure (a.tmps.getD t undef) | .cell t ty => do loadVar ty (← asAddr (a.tmps.getD t undef)) : Sem Value))).run P Γ.w = .ok vs Γ.w ∧ concVs Γ xs vs := by
    intro rs
    induction rs with
    | nil => intro xs h; simp at h; subst h; exact ⟨[], by simp, by simp [concVs]⟩
    | cons r rs ih =>
      intro xs h
      simp only [List.mapM_cons, Option.bind_eq_bind, Option.bind_eq_some_iff, Option.pure_def, Option.some.injEq] at h
      obtain ⟨x, h1, xs', h2, rfl⟩ := h
      obtain ⟨v, g1, g2⟩ := one r x h1
      obtain ⟨vs, g3, g4⟩ := ih xs' h2
      refine ⟨v :: vs, ?_, ?_⟩
      · simp only [List.mapM_cons, Sem.run_bind, g1, Result.andThen_ok, g3, Sem.run_pure]
      · simp only [concVs]
        exact ⟨v, vs, rfl, g2, g4⟩
  unfold retV at h
  cases hm : fn.results.toList.mapM (resV P S) with
  | none => rw [hm] at h; simp at h
  | some xs =>
    rw [hm] at h
    obtain ⟨vs, g1, g2⟩ := all _ xs hm
    have hrun : (results fn a.tmps).run P Γ.w = .ok (if h : vs.toArray.size = 1 then vs.toArray[0] else .tuple vs.toArray) Γ.w := by
      unfold results
      rw [Array.mapM_eq_mapM_toList]
      simp only [Sem.run_bind, Sem.run_map]
      have g1' : (fn.results.toList.mapM (fun x => match x with | ResultVar.tmp t => (pure (a.tmps.getD t undef) : Sem Value) | ResultVar.cell a_1 t => do loadVar t (← asAddr (a.tmps.getD a_1 undef)))).run P Γ.w = .ok vs Γ.w := by
        rw [← g1]
      have g2' := congrArg (fun r => (Result.andThen r fun a w' => Result.ok a.toArray w').andThen fun a w' => Sem.run P (pure (if h : a.size = 1 then a[0] else Value.tuple a)) w') g1'
      refine Eq.trans ?_ (g2'.trans (by simp))
      congr 3
    match xs, h with
    | [], h =>
      simp only [concVs] at g2
      subst g2
      simp only [Option.some.injEq] at h
      subst h
      exact ⟨_, hrun, by simp [concV, concVs]⟩
    | [y], h =>
      simp only [concVs] at g2
      obtain ⟨z, _, rfl, g2, rfl⟩ := g2
      simp only [Option.some.injEq] at h
      subst h
      exact ⟨_, hrun, by simpa using g2⟩
    | y :: z :: r, h =>
      simp only [Option.some.injEq] at h
      subst h
      have g2' := g2
      simp only [concVs] at g2
      obtain ⟨a1, _, rfl, _, a2, _, rfl, _, _⟩ := g2
      refine ⟨_, hrun, ?_⟩
      rw [dif_neg (by simp)]
      exact ⟨_, rfl, g2'⟩

/-- How a body may end. -/
def Ret (P : Program) (fn : Func) (K : AVal → List Ob → Prop) : Exit → St → Prop
  | .normal, S | .ret, S => ∃ x, retV P S fn.results.toList = some x ∧ K x S.heap
  | _, _ => False

theorem Call.of_body {P : Program} {f : FuncId} {fn : Func} {c : Code} {args : List AVal} {H : List Ob} {K : AVal → List Ob → Prop} (hf : P.funcs[f]? = some fn) (hb : fn.body = some c) (he : enters P f = true) {n : Nat} (hn : fn.ntmps = n) (hl : Nat.ble args.length n = true)
    (h : ∀ Γ, HeapOk Γ H → Wp ⟨P, n, Γ⟩ c (Ret P fn K) ⟨envOf 0 args, H⟩) : Call P f args H K := by
  have hl := Nat.le_of_ble_eq_true hl
  refine ⟨he, fun Γ hok args' hc => ?_⟩
  have hlen : ∀ (xs : List AVal) (ys : List Value), concVs Γ xs ys → ys.length = xs.length := by
    intro xs
    induction xs with
    | nil => intro ys h; simp only [concVs] at h; subst h; rfl
    | cons x xs ih => intro ys h; simp only [concVs] at h; obtain ⟨y, ys', rfl, _, h3⟩ := h; simp [ih ys' h3]
  have hal := hlen _ _ hc
  simp only [Array.length_toList] at hal
  refine calls_of_wp hf hb (wp_mono (h Γ hok _ Γ.w ⟨rfl, by simp [hn]; omega, Γ, rfl, .refl Γ, hok, fun t x hx => ?_⟩) fun e a' w' he => ?_)
  · obtain ⟨_, y, g1, g2⟩ := envOf_get 0 args args'.toList t x hc hx
    refine ⟨y, ?_, g2⟩
    have hlt : t < args'.size := by
      have := (List.getElem?_eq_some_iff.1 g1).1
      simpa using this
    rw [Array.getElem?_append_left hlt]
    simpa using g1
  · obtain ⟨S', hq, d, s, Γ', rfl, hext, hok', henv⟩ := he
    have fin : (∃ x, retV P S' fn.results.toList = some x ∧ K x S'.heap) → a'.defers = [] ∧ ∃ v, (results fn a'.tmps).run P Γ'.w = .ok v Γ'.w ∧ (∃ y r Γ'' H', Ending.returned v = .returned y ∧ K r H' ∧ Γ''.w = Γ'.w ∧ Γ.Ext Γ'' ∧ HeapOk Γ'' H' ∧ concV Γ'' r y) := by
      rintro ⟨x, h1, h2⟩
      obtain ⟨v, g1, g2⟩ := retV_sound (P := P) hok' henv h1
      exact ⟨d, v, g1, v, x, Γ', S'.heap, rfl, h2, rfl, hext, hok', g2⟩
    cases e with
    | normal => exact fin hq
    | ret => exact fin hq
    | _ => exact hq.elim

end Go.Nx
