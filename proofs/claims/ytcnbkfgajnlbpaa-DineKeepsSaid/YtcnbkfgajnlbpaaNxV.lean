/- The same rules, ahead: what is to hold in the end is carried along. -/
import Derived.Test.YtcnbkfgajnlbpaaNxU
namespace Go.Nx
set_option linter.unusedVariables false
set_option linter.unusedSimpArgs false

def RunR (P : Program) (W : Option (List Nat)) (os : List Oper) (gs : List (List (Nat × Bool))) (ex : List Bool) (e : Env) (H : List Ob) (K : Env → List Ob → Prop) : Prop :=
  ∃ e' H', SpecR P W os gs ex e H e' H' ∧ K e' H'

/-- The slots that are kept. -/
inductive Keeps (e : Env) : List Nat → Env → Prop
  | nil : Keeps e [] []
  | cons {t : Nat} {x : AVal} {l : List Nat} {r : Env} : e.get t = some x → Keeps e l r → Keeps e (t :: l) ((t, x) :: r)

theorem Keeps.sel {e : Env} {l : List Nat} {r : Env} (h : Keeps e l r) : sel l e = r := by
  induction h with
  | nil => rfl
  | cons h1 _ ih => unfold Nx.sel at ih ⊢; rw [List.filterMap_cons]; simp [h1, ih]

section
variable {P : Program} {W : Option (List Nat)} {os : List Oper} {gs : List (List (Nat × Bool))} {ex : List Bool} {e : Env} {H H1 : List Ob} {ty : TypeId} {pos : String} {after : Array Edge} {guard : Option (Nat × Bool)} {b : Bool} {t : Nat} {K : Env → List Ob → Prop}

theorem RunR.nil (h : K e H) : RunR P W [] gs ex e H K := ⟨e, H, .nil, h⟩

theorem Wp.go {F : Fr} {Q : Exit → St → Prop} {S : St} {id : Nat} {l : List Oper} (draw : Bool) (W : Option (List Nat)) (gs : List (List (Nat × Bool))) (ex : List Bool) (live : List Nat) {n : Nat} (hm : F.P.follows .mixedOrders = true) (hn : F.n = n) (hW : (draw && W.isNone) = false)
    (hchk : (chk l gs ex draw n && liveOk l gs live) = true) (h : RunR F.P W l gs ex S.env S.heap (fun e' H' => ∃ r, Keeps e' live r ∧ Q .normal ⟨r, H'⟩)) : Wp F (.region id l.toArray draw) Q S := by
  obtain ⟨e', H', h1, r, h2, h3⟩ := h
  exact Wp.regionL draw W gs ex live hm hn hW hchk h1 rfl (by rw [h2.sel]; exact h3)

theorem Wp.goS {F : Fr} {Q : Exit → St → Prop} {S : St} {id : Nat} {l : List Oper} {y : Code} (draw : Bool) (W : Option (List Nat)) (gs : List (List (Nat × Bool))) (ex : List Bool) (live : List Nat) {n : Nat} (hm : F.P.follows .mixedOrders = true) (hn : F.n = n) (hW : (draw && W.isNone) = false)
    (hchk : (chk l gs ex draw n && liveOk l gs live) = true) (h : RunR F.P W l gs ex S.env S.heap (fun e' H' => ∃ r, Keeps e' live r ∧ Wp F y Q ⟨r, H'⟩)) : Wp F (.seq (.region id l.toArray draw) y) Q S :=
  Wp.seq (Wp.go draw W gs ex live hm hn hW hchk h)

theorem RunR.done {F : Fr} {Q : Exit → St → Prop} {live : List Nat} {r : Env} {y : Code} (h : Keeps e live r) (h2 : Wp F y Q ⟨r, H⟩) : RunR P W [] gs ex e H (fun e' H' => ∃ r, Keeps e' live r ∧ Wp F y Q ⟨r, H'⟩) := .nil ⟨r, h, h2⟩
theorem RunR.doneQ {Q : Exit → St → Prop} {live : List Nat} {r : Env} (h : Keeps e live r) (h2 : Q .normal ⟨r, H⟩) : RunR P W [] gs ex e H (fun e' H' => ∃ r, Keeps e' live r ∧ Q .normal ⟨r, H'⟩) := .nil ⟨r, h, h2⟩

theorem RunR.mob {op : Op} {x : AVal} (hf : fixed op = false) (hc : isCall op = false) (ha : actE e (gs.headD []) = some b) (hw : wOk W (ex.headD false) e H op = true) (hs : stp P e H op = some (x, H)) (hr : RunR P W os gs.tail ex.tail ((t, x) :: e) H K) : RunR P W (⟨some t, op, ty, pos, after, guard⟩ :: os) gs ex e H K := by
  obtain ⟨e', H', hr1, hr2⟩ := hr
  exact ⟨e', H', SpecR.mob hf hc ha hw hs hr1, hr2⟩
theorem RunR.fix {op : Op} {x : AVal} {d : Option Nat} (hc : isCall op = false) (ha : actE e (gs.headD []) = some true) (hw : wOk W (ex.headD false) e H op = true) (hs : stp P e H op = some (x, H1)) (hr : RunR P W os gs.tail ex.tail (putE e d x) H1 K) : RunR P W (⟨d, op, ty, pos, after, guard⟩ :: os) gs ex e H K := by
  obtain ⟨e', H', hr1, hr2⟩ := hr
  exact ⟨e', H', SpecR.fix hc ha hw hs hr1, hr2⟩
theorem RunR.off {op : Op} {d : Option Nat} (ha : actE e (gs.headD []) = some false) (hr : RunR P W os gs.tail ex.tail (putE e d unit) H K) : RunR P W (⟨d, op, ty, pos, after, guard⟩ :: os) gs ex e H K := by
  obtain ⟨e', H', hr1, hr2⟩ := hr
  exact ⟨e', H', SpecR.off ha hr1, hr2⟩
theorem RunR.call {f : Operand} {args : Array Operand} {ts : Array TypeId} {c : FuncId} {caps : List Leaf} {as : List AVal} {x : AVal} {d : Option Nat} (ha : actE e (gs.headD []) = some b) (hf : evO e f = some (.c (.clo c caps))) (has : allV (args.toList.map (evO e)) = some as) (hD : ∀ H, DCall P c (as ++ caps.map .c) H x) (hr : RunR P W os gs.tail ex.tail (putE e d x) H K) : RunR P W (⟨d, .call { callee := .value f, args := args, argTypes := ts }, ty, pos, after, guard⟩ :: os) gs ex e H K := by
  obtain ⟨e', H', hr1, hr2⟩ := hr
  exact ⟨e', H', SpecR.call ha hf has hD hr1, hr2⟩
theorem RunR.callH {f : Operand} {args : Array Operand} {ts : Array TypeId} {c : FuncId} {caps : List Leaf} {as : List AVal} {x : AVal} {d : Option Nat} (ha : actE e (gs.headD []) = some b) (hf : evO e f = some (.c (.clo c caps))) (has : allV (args.toList.map (evO e)) = some as) (hx : ex.headD false = false) (hD : b = true → DCall P c (as ++ caps.map .c) H x) (hr : RunR P W os gs.tail ex.tail (putE e d x) H K) : RunR P W (⟨d, .call { callee := .value f, args := args, argTypes := ts }, ty, pos, after, guard⟩ :: os) gs ex e H K := by
  obtain ⟨e', H', hr1, hr2⟩ := hr
  exact ⟨e', H', SpecR.callH ha hf has hx hD hr1, hr2⟩
theorem RunR.callG {f : Operand} {args : Array Operand} {ts : Array TypeId} {c : FuncId} {caps : List Leaf} {as : List AVal} {x : AVal} {d : Option Nat} (ha : actE e (gs.headD []) = some b) (hf : evO e f = some (.c (.clo c caps))) (has : allV (args.toList.map (evO e)) = some as) (hD : b = true → ∀ H, DCall P c (as ++ caps.map .c) H x) (hr : RunR P W os gs.tail ex.tail (putE e d x) H K) : RunR P W (⟨d, .call { callee := .value f, args := args, argTypes := ts }, ty, pos, after, guard⟩ :: os) gs ex e H K := by
  obtain ⟨e', H', hr1, hr2⟩ := hr
  exact ⟨e', H', SpecR.callG ha hf has hD hr1, hr2⟩
theorem RunR.move {y : Operand} {x : AVal} (ha : actE e (gs.headD []) = some b) (hw : wOk W (ex.headD false) e H (.move y) = true) (h : evO e y = some x) (hr : RunR P W os gs.tail ex.tail ((t, x) :: e) H K) : RunR P W (⟨some t, .move y, ty, pos, after, guard⟩ :: os) gs ex e H K := by
  obtain ⟨e', H', hr1, hr2⟩ := hr
  exact ⟨e', H', SpecR.move ha hw h hr1, hr2⟩
theorem RunR.assign {y : Operand} {x : AVal} (ha : actE e (gs.headD []) = some b) (hw : wOk W (ex.headD false) e H (.assign y) = true) (h : evO e y = some x) (hr : RunR P W os gs.tail ex.tail ((t, x) :: e) H K) : RunR P W (⟨some t, .assign y, ty, pos, after, guard⟩ :: os) gs ex e H K := by
  obtain ⟨e', H', hr1, hr2⟩ := hr
  exact ⟨e', H', SpecR.assign ha hw h hr1, hr2⟩
theorem RunR.pickB {c p q : Operand} {v x y : Bool} (ha : actE e (gs.headD []) = some b) (hw : wOk W (ex.headD false) e H (.pick c p q) = true) (hc : evO e c = some (.c (B v))) (hp : evO e p = some (.c (B x))) (hq : evO e q = some (.c (B y))) (hr : RunR P W os gs.tail ex.tail ((t, .c (B (bif v then x else y))) :: e) H K) : RunR P W (⟨some t, .pick c p q, ty, pos, after, guard⟩ :: os) gs ex e H K := by
  obtain ⟨e', H', hr1, hr2⟩ := hr
  exact ⟨e', H', SpecR.pickB ha hw hc hp hq hr1, hr2⟩
theorem RunR.pickAnd {c p : Operand} {v x : Bool} (ha : actE e (gs.headD []) = some b) (hw : wOk W (ex.headD false) e H (.pick c p (.const (.bool false))) = true) (hc : evO e c = some (.c (B v))) (hp : evO e p = some (.c (B x))) (hr : RunR P W os gs.tail ex.tail ((t, .c (B (v && x))) :: e) H K) : RunR P W (⟨some t, .pick c p (.const (.bool false)), ty, pos, after, guard⟩ :: os) gs ex e H K := by
  obtain ⟨e', H', hr1, hr2⟩ := hr
  exact ⟨e', H', SpecR.pickAnd ha hw hc hp hr1, hr2⟩
theorem RunR.pickOr {c p : Operand} {v x : Bool} (ha : actE e (gs.headD []) = some b) (hw : wOk W (ex.headD false) e H (.pick c (.const (.bool true)) p) = true) (hc : evO e c = some (.c (B v))) (hp : evO e p = some (.c (B x))) (hr : RunR P W os gs.tail ex.tail ((t, .c (B (v || x))) :: e) H K) : RunR P W (⟨some t, .pick c (.const (.bool true)) p, ty, pos, after, guard⟩ :: os) gs ex e H K := by
  obtain ⟨e', H', hr1, hr2⟩ := hr
  exact ⟨e', H', SpecR.pickOr ha hw hc hp hr1, hr2⟩
theorem RunR.pickAnd0 {c p : Operand} {x : AVal} (ha : actE e (gs.headD []) = some b) (hw : wOk W (ex.headD false) e H (.pick c p (.const (.bool false))) = true) (hc : evO e c = some (.c (B false))) (hp : evO e p = some x) (hr : RunR P W os gs.tail ex.tail ((t, .c (B false)) :: e) H K) : RunR P W (⟨some t, .pick c p (.const (.bool false)), ty, pos, after, guard⟩ :: os) gs ex e H K := by
  obtain ⟨e', H', hr1, hr2⟩ := hr
  exact ⟨e', H', SpecR.pickAnd0 ha hw hc hp hr1, hr2⟩
theorem RunR.pickOr1 {c p : Operand} {x : AVal} (ha : actE e (gs.headD []) = some b) (hw : wOk W (ex.headD false) e H (.pick c (.const (.bool true)) p) = true) (hc : evO e c = some (.c (B true))) (hp : evO e p = some x) (hr : RunR P W os gs.tail ex.tail ((t, .c (B true)) :: e) H K) : RunR P W (⟨some t, .pick c (.const (.bool true)) p, ty, pos, after, guard⟩ :: os) gs ex e H K := by
  obtain ⟨e', H', hr1, hr2⟩ := hr
  exact ⟨e', H', SpecR.pickOr1 ha hw hc hp hr1, hr2⟩
theorem RunR.load1 {ty0 n : Nat} {y : Operand} {p l : Leaf} (ht : tk P ty0 = some (false, n)) (ha : actE e (gs.headD []) = some b) (hw : wOk W (ex.headD false) e H (.load ty0 y) = true) (hy : evO e y = some (.c p)) (hl : ld1 H p = some l) (hr : RunR P W os gs.tail ex.tail ((t, .c l) :: e) H K) : RunR P W (⟨some t, .load ty0 y, ty, pos, after, guard⟩ :: os) gs ex e H K := by
  obtain ⟨e', H', hr1, hr2⟩ := hr
  exact ⟨e', H', SpecR.load1 ht ha hw hy hl hr1, hr2⟩
theorem RunR.loadN {ty0 n : Nat} {y : Operand} {p : Leaf} {cs : List Leaf} (ht : tk P ty0 = some (true, n)) (ha : actE e (gs.headD []) = some b) (hw : wOk W (ex.headD false) e H (.load ty0 y) = true) (hy : evO e y = some (.c p)) (hl : ldN H n p = some cs) (hr : RunR P W os gs.tail ex.tail ((t, .agg cs) :: e) H K) : RunR P W (⟨some t, .load ty0 y, ty, pos, after, guard⟩ :: os) gs ex e H K := by
  obtain ⟨e', H', hr1, hr2⟩ := hr
  exact ⟨e', H', SpecR.loadN ht ha hw hy hl hr1, hr2⟩
theorem RunR.fieldAddr {s f off n : Nat} {g : Bool} {y : Operand} {p l : Leaf} (ht : fo P s f = some (off, n, g)) (hn : (n == 0) = false) (ha : actE e (gs.headD []) = some b) (hw : wOk W (ex.headD false) e H (.fieldAddr s y f) = true) (hy : evO e y = some (.c p)) (hl : fieldL H off p = some l) (hr : RunR P W os gs.tail ex.tail ((t, .c l) :: e) H K) : RunR P W (⟨some t, .fieldAddr s y f, ty, pos, after, guard⟩ :: os) gs ex e H K := by
  obtain ⟨e', H', hr1, hr2⟩ := hr
  exact ⟨e', H', SpecR.fieldAddr ht hn ha hw hy hl hr1, hr2⟩
theorem RunR.nilCheck {y : Operand} {l : Leaf} (ha : actE e (gs.headD []) = some b) (hw : wOk W (ex.headD false) e H (.nilCheck y) = true) (hy : evO e y = some (.c l)) (hl : alive H l = true) (hr : RunR P W os gs.tail ex.tail ((t, .c l) :: e) H K) : RunR P W (⟨some t, .nilCheck y, ty, pos, after, guard⟩ :: os) gs ex e H K := by
  obtain ⟨e', H', hr1, hr2⟩ := hr
  exact ⟨e', H', SpecR.nilCheck ha hw hy hl hr1, hr2⟩
theorem RunR.field {s f off n : Nat} {g : Bool} {y : Operand} {cs : List Leaf} {x : AVal} (ht : fo P s f = some (off, n, g)) (ha : actE e (gs.headD []) = some b) (hw : wOk W (ex.headD false) e H (.field s y f) = true) (hy : evO e y = some (.agg cs)) (hl : mkSeg g cs off n = some x) (hr : RunR P W os gs.tail ex.tail ((t, x) :: e) H K) : RunR P W (⟨some t, .field s y f, ty, pos, after, guard⟩ :: os) gs ex e H K := by
  obtain ⟨e', H', hr1, hr2⟩ := hr
  exact ⟨e', H', SpecR.field ht ha hw hy hl hr1, hr2⟩
theorem RunR.extract {y : Operand} {i : Nat} {vs : List AVal} {x : AVal} (ha : actE e (gs.headD []) = some b) (hw : wOk W (ex.headD false) e H (.extract y i) = true) (hy : evO e y = some (.tup vs)) (hl : vs[i]? = some x) (hr : RunR P W os gs.tail ex.tail ((t, x) :: e) H K) : RunR P W (⟨some t, .extract y i, ty, pos, after, guard⟩ :: os) gs ex e H K := by
  obtain ⟨e', H', hr1, hr2⟩ := hr
  exact ⟨e', H', SpecR.extract ha hw hy hl hr1, hr2⟩
theorem RunR.int {op : BinOp} {ty0 ty1 : Nat} {y z : Operand} {k : IntKind} {m n : Int} {l : Leaf} (ha : actE e (gs.headD []) = some b) (hw : wOk W (ex.headD false) e H (.binOp op ty0 y z ty1) = true) (hy : evO e y = some (.c (.v (.int k m)))) (hz : evO e z = some (.c (.v (.int k n)))) (hl : intBin op k m n = some l) (hr : RunR P W os gs.tail ex.tail ((t, .c l) :: e) H K) : RunR P W (⟨some t, .binOp op ty0 y z ty1, ty, pos, after, guard⟩ :: os) gs ex e H K := by
  obtain ⟨e', H', hr1, hr2⟩ := hr
  exact ⟨e', H', SpecR.int ha hw hy hz hl hr1, hr2⟩
theorem RunR.bin {op : BinOp} {ty0 ty1 : Nat} {y z : Operand} {u v : AVal} {l : Leaf} (ha : actE e (gs.headD []) = some b) (hw : wOk W (ex.headD false) e H (.binOp op ty0 y z ty1) = true) (hy : evO e y = some u) (hz : evO e z = some v) (hl : binV P H op ty0 u v = some l) (hr : RunR P W os gs.tail ex.tail ((t, .c l) :: e) H K) : RunR P W (⟨some t, .binOp op ty0 y z ty1, ty, pos, after, guard⟩ :: os) gs ex e H K := by
  obtain ⟨e', H', hr1, hr2⟩ := hr
  exact ⟨e', H', SpecR.bin ha hw hy hz hl hr1, hr2⟩
theorem RunR.eqAgg {ty0 ty1 : Nat} {y z : Operand} {as bs : List Leaf} {s : List Sh} {v : Bool} (ht : eqs P ty0 = some s) (ha : actE e (gs.headD []) = some b) (hw : wOk W (ex.headD false) e H (.binOp .eql ty0 y z ty1) = true) (hy : evO e y = some (.agg as)) (hz : evO e z = some (.agg bs)) (hl : eqCells s as bs = some v) (hr : RunR P W os gs.tail ex.tail ((t, .c (B v)) :: e) H K) : RunR P W (⟨some t, .binOp .eql ty0 y z ty1, ty, pos, after, guard⟩ :: os) gs ex e H K := by
  obtain ⟨e', H', hr1, hr2⟩ := hr
  exact ⟨e', H', SpecR.eqAgg ht ha hw hy hz hl hr1, hr2⟩
theorem RunR.neAgg {ty0 ty1 : Nat} {y z : Operand} {as bs : List Leaf} {s : List Sh} {v : Bool} (ht : eqs P ty0 = some s) (ha : actE e (gs.headD []) = some b) (hw : wOk W (ex.headD false) e H (.binOp .neq ty0 y z ty1) = true) (hy : evO e y = some (.agg as)) (hz : evO e z = some (.agg bs)) (hl : eqCells s as bs = some v) (hr : RunR P W os gs.tail ex.tail ((t, .c (B (!v))) :: e) H K) : RunR P W (⟨some t, .binOp .neq ty0 y z ty1, ty, pos, after, guard⟩ :: os) gs ex e H K := by
  obtain ⟨e', H', hr1, hr2⟩ := hr
  exact ⟨e', H', SpecR.neAgg ht ha hw hy hz hl hr1, hr2⟩
theorem RunR.eqBool {ty0 ty1 : Nat} {y z : Operand} {u v : Bool} (ht : P.underlying ty0 = some .bool) (ha : actE e (gs.headD []) = some b) (hw : wOk W (ex.headD false) e H (.binOp .eql ty0 y z ty1) = true) (hy : evO e y = some (.c (B u))) (hz : evO e z = some (.c (B v))) (hr : RunR P W os gs.tail ex.tail ((t, .c (B (u == v))) :: e) H K) : RunR P W (⟨some t, .binOp .eql ty0 y z ty1, ty, pos, after, guard⟩ :: os) gs ex e H K := by
  obtain ⟨e', H', hr1, hr2⟩ := hr
  exact ⟨e', H', SpecR.eqBool ht ha hw hy hz hr1, hr2⟩
theorem RunR.neBool {ty0 ty1 : Nat} {y z : Operand} {u v : Bool} (ht : P.underlying ty0 = some .bool) (ha : actE e (gs.headD []) = some b) (hw : wOk W (ex.headD false) e H (.binOp .neq ty0 y z ty1) = true) (hy : evO e y = some (.c (B u))) (hz : evO e z = some (.c (B v))) (hr : RunR P W os gs.tail ex.tail ((t, .c (B (!(u == v)))) :: e) H K) : RunR P W (⟨some t, .binOp .neq ty0 y z ty1, ty, pos, after, guard⟩ :: os) gs ex e H K := by
  obtain ⟨e', H', hr1, hr2⟩ := hr
  exact ⟨e', H', SpecR.neBool ht ha hw hy hz hr1, hr2⟩
theorem RunR.not {ty0 : Nat} {y : Operand} {v : Bool} (ha : actE e (gs.headD []) = some b) (hw : wOk W (ex.headD false) e H (.unOp .not ty0 y) = true) (hy : evO e y = some (.c (B v))) (hr : RunR P W os gs.tail ex.tail ((t, .c (B (!v))) :: e) H K) : RunR P W (⟨some t, .unOp .not ty0 y, ty, pos, after, guard⟩ :: os) gs ex e H K := by
  obtain ⟨e', H', hr1, hr2⟩ := hr
  exact ⟨e', H', SpecR.not ha hw hy hr1, hr2⟩
theorem RunR.convert {ty0 ty1 : Nat} {y : Operand} {k0 k k2 : IntKind} {n : Int} (h0 : ik P ty0 = some k0) (h1 : ik P ty1 = some k) (ha : actE e (gs.headD []) = some b) (hw : wOk W (ex.headD false) e H (.convert ty0 ty1 y) = true) (hy : evO e y = some (.c (.v (.int k2 n)))) (hr : RunR P W os gs.tail ex.tail ((t, .c (.v (.int k (k.wrap n)))) :: e) H K) : RunR P W (⟨some t, .convert ty0 ty1 y, ty, pos, after, guard⟩ :: os) gs ex e H K := by
  obtain ⟨e', H', hr1, hr2⟩ := hr
  exact ⟨e', H', SpecR.convert h0 h1 ha hw hy hr1, hr2⟩
theorem RunR.makeFunc {f : FuncId} {caps : Array Operand} {cs : List Leaf} (ha : actE e (gs.headD []) = some b) (hw : wOk W (ex.headD false) e H (.makeFunc (.func f) #[] caps) = true) (hl : leafL (caps.toList.map (evO e)) = some cs) (hr : RunR P W os gs.tail ex.tail ((t, .c (.clo f cs)) :: e) H K) : RunR P W (⟨some t, .makeFunc (.func f) #[] caps, ty, pos, after, guard⟩ :: os) gs ex e H K := by
  obtain ⟨e', H', hr1, hr2⟩ := hr
  exact ⟨e', H', SpecR.makeFunc ha hw hl hr1, hr2⟩
theorem RunR.len {el : TypeId} {y : Operand} {ts : TypeId} {l : Leaf} {n : Nat} (ht : P.underlying ts = some (.slice el)) (ha : actE e (gs.headD []) = some b) (hw : wOk W (ex.headD false) e H (.call { callee := .builtin .len, args := #[y], argTypes := #[ts] }) = true) (hy : evO e y = some (.c l)) (hl : lenL l = some n) (hr : RunR P W os gs.tail ex.tail ((t, .c (I (n : Int))) :: e) H K) : RunR P W (⟨some t, .call { callee := .builtin .len, args := #[y], argTypes := #[ts] }, ty, pos, after, guard⟩ :: os) gs ex e H K := by
  obtain ⟨e', H', hr1, hr2⟩ := hr
  exact ⟨e', H', SpecR.len ht ha hw hy hl hr1, hr2⟩
theorem RunR.minmax {bi : Builtin} {args : Array Operand} {ts : Array TypeId} {n : Int} (hbi : bi = .min ∨ bi = .max) (ha : actE e (gs.headD []) = some b) (hw : wOk W (ex.headD false) e H (.call { callee := .builtin bi, args := args, argTypes := ts }) = true) (hl : foldInt (if bi = .min then min else max) (args.toList.map (evO e)) = some n) (hr : RunR P W os gs.tail ex.tail ((t, .c (I n)) :: e) H K) : RunR P W (⟨some t, .call { callee := .builtin bi, args := args, argTypes := ts }, ty, pos, after, guard⟩ :: os) gs ex e H K := by
  obtain ⟨e', H', hr1, hr2⟩ := hr
  exact ⟨e', H', SpecR.minmax hbi ha hw hl hr1, hr2⟩
theorem RunR.indexF {ts : TypeId} {y z : Operand} {el size : Nat} {rest : Nat × List Leaf} {l : Leaf} {k : IntKind} {n : Int} {rows : List (List Leaf)} {r : List Leaf} (ht : se P ts = some (el, size, rest)) (ha : actE e (gs.headD []) = some b) (hw : wOk W (ex.headD false) e H (.indexAddr ts y z) = true) (hy : evO e y = some (.c l)) (hz : evO e z = some (.c (.v (.int k n)))) (hl : asF l = some rows) (hn : 0 ≤ n) (hi : rows[n.toNat]? = some r) (hs : r.length = size) (hr : RunR P W os gs.tail ex.tail ((t, .c (.fptr rows n.toNat 0)) :: e) H K) : RunR P W (⟨some t, .indexAddr ts y z, ty, pos, after, guard⟩ :: os) gs ex e H K := by
  obtain ⟨e', H', hr1, hr2⟩ := hr
  exact ⟨e', H', SpecR.indexF ht ha hw hy hz hl hn hi hs hr1, hr2⟩
end
end Go.Nx
