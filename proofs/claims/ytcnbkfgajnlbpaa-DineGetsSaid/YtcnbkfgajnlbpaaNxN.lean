/- A region, soundly. -/
import Derived.Test.YtcnbkfgajnlbpaaNxM
namespace Go.Nx
set_option linter.unusedVariables false
set_option linter.unusedSimpArgs false

def isCall : Op → Bool
  | .call { callee := .value _, .. } => true
  | _ => false

/-- One operation of the reckoning. -/
def StepR (P : Program) (W : Option (List Nat)) (g : List (Nat × Bool)) (ex : Bool) (o : Oper) (e : Env) (H : List Ob) (b : Bool) (x : AVal) (H' : List Ob) : Prop :=
  actE e g = some b ∧ ((b = false ∧ H' = H) ∨ (∃ f args ts c caps as, o.op = .call { callee := .value f, args := args, argTypes := ts } ∧ evO e f = some (.c (.clo c caps)) ∧ allV (args.toList.map (evO e)) = some as ∧ H' = H ∧
      Obl.ok P ⟨b, c, as ++ caps.map .c, if ex then none else some H, x⟩) ∨
    (isCall o.op = false ∧ wOk W ex e H o.op = true ∧ gE b H (stp P e H o.op) = some (x, H')))

/-- The region, reckoned in the order of the text. -/
inductive SpecR (P : Program) (W : Option (List Nat)) : List Oper → List (List (Nat × Bool)) → List Bool → Env → List Ob → Env → List Ob → Prop
  | nil {gs ex e H} : SpecR P W [] gs ex e H e H
  | cons {o os gs ex e H b x H1 e' H'} (h : StepR P W (gs.headD []) (ex.headD false) o e H b x H1) (hr : SpecR P W os gs.tail ex.tail (putE e o.dst x) H1 e' H') : SpecR P W (o :: os) gs ex e H e' H'

theorem specR_trace {P : Program} {W : Option (List Nat)} {ops : List Oper} {gs : List (List (Nat × Bool))} {ex : List Bool} {e : Env} {H : List Ob} {e' : Env} {H' : List Ob} (h : SpecR P W ops gs ex e H e' H') :
    ∃ (E : Nat → Env) (HH : Nat → List Ob) (X : Nat → AVal) (A : Nat → Bool), E 0 = e ∧ HH 0 = H ∧ E ops.length = e' ∧ HH ops.length = H' ∧
      ∀ (k : Nat) (o : Oper), ops[k]? = some o → StepR P W (gs.getD k []) (ex.getD k false) o (E k) (HH k) (A k) (X k) (HH (k + 1)) ∧ E (k + 1) = putE (E k) o.dst (X k) := by
  induction h with
  | nil => exact ⟨fun _ => _, fun _ => _, fun _ => unit, fun _ => true, rfl, rfl, rfl, rfl, fun k o hk => by simp at hk⟩
  | @cons o os gs ex e H b x H1 e' H' hs hr ih =>
    obtain ⟨E, HH, X, A, h1, h2, h3, h4, h5⟩ := ih
    refine ⟨fun k => match k with | 0 => e | k + 1 => E k, fun k => match k with | 0 => H | k + 1 => HH k, fun k => match k with | 0 => x | k + 1 => X k, fun k => match k with | 0 => b | k + 1 => A k, rfl, rfl, h3, h4, fun k o' hk => ?_⟩
    cases k with
    | zero =>
      simp at hk
      subst hk
      simp only [h1, h2, and_true]
      have e1 : gs.getD 0 [] = gs.headD [] := by cases gs <;> rfl
      have e2 : ex.getD 0 false = ex.headD false := by cases ex <;> rfl
      rw [e1, e2]
      exact hs
    | succ k =>
      have e1 : gs.getD (k + 1) [] = gs.tail.getD k [] := by cases gs <;> simp
      have e2 : ex.getD (k + 1) false = ex.tail.getD k false := by cases ex <;> simp
      rw [e1, e2]
      exact h5 k o' (by simpa using hk)

/-! What the edges must say. -/
def maskOf (acc : List Nat) (o : Oper) : Nat := o.after.toList.foldl (fun s ed => if Region.binds .any ed then s ||| (2 ^ ed.on ||| acc.getD ed.on 0) else s) 0
def masks : List Oper → List Nat → List Nat
  | [], acc => acc
  | o :: os, acc => masks os (acc ++ [maskOf acc o])
def anc (ms : List Nat) (j k : Nat) : Bool := (ms.getD k 0).testBit j
def tmpsOf (op : Op) : List Nat := op.operands.toList.filterMap fun | .tmp t => some t | _ => none
def dstOf (ops : List Oper) (k : Nat) : Option Nat := (ops[k]?).bind (·.dst)
def subG (a b : List (Nat × Bool)) : Bool := a.all fun g => b.contains g
/-- What must be wanted where an operand is. -/
def needG (op : Op) (g : List (Nat × Bool)) (t : Nat) : List (Nat × Bool) :=
  match op with
  | .pick (.tmp c) p q =>
    if t = c then g else match p, q with
      | .tmp a, .tmp b => if t = a ∧ t = b then g else if t = a then (c, true) :: g else (c, false) :: g
      | .tmp a, _ => if t = a then (c, true) :: g else g
      | _, .tmp b => if t = b then (c, false) :: g else g
      | _, _ => g
  | _ => g
def chkOp (ops : List Oper) (gs : List (List (Nat × Bool))) (ex : List Bool) (draw : Bool) (n : Nat) (ms : List Nat) (k : Nat) (o : Oper) : Bool :=
  let len := ops.length
  let g := gs.getD k []
  (o.after.toList.all fun ed => !Region.binds .any ed || ed.on < k) &&
  (match o.dst with | some d => d < n | none => true) &&
  ((List.range len).all fun j => j == k || o.dst == none || dstOf ops j != o.dst) &&
  (match o.guard with
    | none => g == []
    | some (j, w) => j < k && (match dstOf ops j with | some s => g == (s, w) :: gs.getD j [] | none => false) && (!draw || anc ms j k)) &&
  ((tmpsOf o.op).all fun t => o.dst != some t && (List.range len).all fun j => if dstOf ops j = some t then (if j < k then (!draw || anc ms j k) && subG (gs.getD j []) (needG o.op g t) else !draw || anc ms k j) else true) &&
  (g.all fun (s, _) => o.dst != some s && (List.range len).all fun j => if dstOf ops j = some s then j < k && (!draw || anc ms j k) else true) &&
  (!draw || (List.range len).all fun j => if j < k then (match ops[j]? with
      | some p => (if fixed o.op && fixed p.op then anc ms j k else true) && (if fixed o.op && !fixed p.op then (ex.getD j false && !ex.getD k false) || anc ms j k else true) && (if !fixed o.op && fixed p.op then (ex.getD k false && !ex.getD j false) || anc ms j k else true)
      | none => true) else true)
def chk (ops : List Oper) (gs : List (List (Nat × Bool))) (ex : List Bool) (draw : Bool) (n : Nat) : Bool :=
  let ms := masks ops []
  (List.range ops.length).all fun k => match ops[k]? with
    | some o => chkOp ops gs ex draw n ms k o
    | none => true

theorem masks_append : ∀ (ops : List Oper) (acc : List Nat), ∃ l, masks ops acc = acc ++ l ∧ l.length = ops.length ∧ ∀ (k : Nat) (o : Oper), ops[k]? = some o → l[k]? = some (maskOf (acc ++ l.take k) o)
  | [], acc => ⟨[], by simp [masks], rfl, by simp⟩
  | o :: os, acc => by
    obtain ⟨l, h1, h2, h3⟩ := masks_append os (acc ++ [maskOf acc o])
    refine ⟨maskOf acc o :: l, by simp [masks, h1], by simp [h2], fun k p hk => ?_⟩
    cases k with
    | zero => simp at hk; subst hk; simp
    | succ k =>
      have := h3 k p (by simpa using hk)
      simpa using this

theorem maskOf_testBit (acc : List Nat) (o : Oper) (j : Nat) (h : (maskOf acc o).testBit j = true) : ∃ ed ∈ o.after.toList, Region.binds .any ed = true ∧ (ed.on = j ∨ (acc.getD ed.on 0).testBit j = true) := by
  unfold maskOf at h
  have key : ∀ (l : List Edge) (s : Nat), (l.foldl (fun s ed => if Region.binds .any ed then s ||| (2 ^ ed.on ||| acc.getD ed.on 0) else s) s).testBit j = true →
      s.testBit j = true ∨ ∃ ed ∈ l, Region.binds .any ed = true ∧ (ed.on = j ∨ (acc.getD ed.on 0).testBit j = true) := by
    intro l
    induction l with
    | nil => intro s h; exact .inl h
    | cons ed l ih =>
      intro s h
      simp only [List.foldl_cons] at h
      rcases ih _ h with h1 | ⟨ed', h1, h2, h3⟩
      · split at h1
        · rename_i hb
          rw [Nat.testBit_or, Nat.testBit_or] at h1
          simp only [Bool.or_eq_true] at h1
          rcases h1 with h1 | h1 | h1
          · exact .inl h1
          · right
            refine ⟨ed, by simp, hb, .inl ?_⟩
            simpa [Nat.testBit_two_pow] using h1
          · exact .inr ⟨ed, by simp, hb, .inr h1⟩
        · exact .inl h1
      · exact .inr ⟨ed', by simp [h1], h2, h3⟩
  rcases key _ 0 h with h1 | h1
  · simp at h1
  · exact h1

/-- What an operation waits for has been done. -/
theorem anc_listed {ops : List Oper} {listed : Nat → Prop} (hlt : ∀ (k : Nat) (o : Oper), ops[k]? = some o → ∀ ed ∈ o.after.toList, Region.binds .any ed = true → ed.on < k)
    (hcl : ∀ (k : Nat) (o : Oper), ops[k]? = some o → listed k → ∀ ed ∈ o.after.toList, Region.binds .any ed = true → listed ed.on) :
    ∀ (k : Nat) (o : Oper), ops[k]? = some o → (∀ ed ∈ o.after.toList, Region.binds .any ed = true → listed ed.on) → ∀ j, anc (masks ops []) j k = true → listed j := by
  obtain ⟨l, h1, h2, h3⟩ := masks_append ops []
  simp only [List.nil_append] at h1 h3
  intro k
  induction k using Nat.strongRecOn with
  | _ k ih =>
    intro o ho hdep j hj
    have hkl : k < ops.length := (List.getElem?_eq_some_iff.1 ho).1
    have hm := h3 k o ho
    unfold anc at hj
    rw [h1, List.getD_eq_getElem?_getD, hm, Option.getD_some] at hj
    obtain ⟨ed, he1, he2, he3⟩ := maskOf_testBit _ o j hj
    rcases he3 with rfl | he3
    · exact hdep ed he1 he2
    · have hlt' := hlt k o ho ed he1 he2
      obtain ⟨o', ho'⟩ : ∃ o', ops[ed.on]? = some o' := ⟨ops[ed.on]'(by omega), List.getElem?_eq_getElem (by omega)⟩
      refine ih ed.on hlt' o' ho' (hcl ed.on o' ho' (hdep ed he1 he2)) j ?_
      unfold anc
      rw [h1]
      rw [List.getD_eq_getElem?_getD, List.getElem?_take_of_lt hlt'] at he3
      rw [List.getD_eq_getElem?_getD]
      exact he3

end Go.Nx
