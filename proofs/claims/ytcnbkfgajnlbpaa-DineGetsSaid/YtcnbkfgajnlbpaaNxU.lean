/- The operations, one rule each. -/
import Derived.Test.YtcnbkfgajnlbpaaNxS
namespace Go.Nx
set_option linter.unusedVariables false
set_option linter.unusedSimpArgs false

section
variable {P : Program} {W : Option (List Nat)} {os : List Oper} {gs : List (List (Nat × Bool))} {ex : List Bool} {e e' : Env} {H H' H1 : List Ob} {ty : TypeId} {pos : String} {after : Array Edge} {guard : Option (Nat × Bool)} {b : Bool} {t : Nat}

theorem SpecR.mob {op : Op} {x : AVal} (hf : fixed op = false) (hc : isCall op = false) (ha : actE e (gs.headD []) = some b) (hw : wOk W (ex.headD false) e H op = true) (hs : stp P e H op = some (x, H))
    (hr : SpecR P W os gs.tail ex.tail ((t, x) :: e) H e' H') : SpecR P W (⟨some t, op, ty, pos, after, guard⟩ :: os) gs ex e H e' H' :=
  .cons (b := b) (x := x) (H1 := H) ⟨ha, .inr (.inr ⟨hc, hw, by simp [gE, hs]⟩)⟩ hr

theorem SpecR.fix {op : Op} {x : AVal} {d : Option Nat} (hc : isCall op = false) (ha : actE e (gs.headD []) = some true) (hw : wOk W (ex.headD false) e H op = true) (hs : stp P e H op = some (x, H1))
    (hr : SpecR P W os gs.tail ex.tail (putE e d x) H1 e' H') : SpecR P W (⟨d, op, ty, pos, after, guard⟩ :: os) gs ex e H e' H' :=
  .cons (b := true) (x := x) (H1 := H1) ⟨ha, .inr (.inr ⟨hc, hw, by simp [gE, hs]⟩)⟩ hr

/-- What isn't wanted. -/
theorem SpecR.off {op : Op} {d : Option Nat} (ha : actE e (gs.headD []) = some false) (hr : SpecR P W os gs.tail ex.tail (putE e d unit) H e' H') : SpecR P W (⟨d, op, ty, pos, after, guard⟩ :: os) gs ex e H e' H' :=
  .cons (b := false) (x := unit) (H1 := H) ⟨ha, .inl ⟨rfl, rfl⟩⟩ hr

theorem SpecR.call {f : Operand} {args : Array Operand} {ts : Array TypeId} {c : FuncId} {caps : List Leaf} {as : List AVal} {x : AVal} {d : Option Nat} (ha : actE e (gs.headD []) = some b) (hf : evO e f = some (.c (.clo c caps))) (has : allV (args.toList.map (evO e)) = some as)
    (hD : ∀ H, DCall P c (as ++ caps.map .c) H x) (hr : SpecR P W os gs.tail ex.tail (putE e d x) H e' H') : SpecR P W (⟨d, .call { callee := .value f, args := args, argTypes := ts }, ty, pos, after, guard⟩ :: os) gs ex e H e' H' :=
  .cons (b := b) (x := x) (H1 := H) ⟨ha, .inr (.inl ⟨f, args, ts, c, caps, as, rfl, hf, has, rfl, fun _ => by cases ex.headD false <;> simp [hD]⟩)⟩ hr

/-- The same, where it is proved of this heap alone, or under what is wanted. -/
theorem SpecR.callH {f : Operand} {args : Array Operand} {ts : Array TypeId} {c : FuncId} {caps : List Leaf} {as : List AVal} {x : AVal} {d : Option Nat} (ha : actE e (gs.headD []) = some b) (hf : evO e f = some (.c (.clo c caps))) (has : allV (args.toList.map (evO e)) = some as)
    (hx : ex.headD false = false) (hD : b = true → DCall P c (as ++ caps.map .c) H x) (hr : SpecR P W os gs.tail ex.tail (putE e d x) H e' H') : SpecR P W (⟨d, .call { callee := .value f, args := args, argTypes := ts }, ty, pos, after, guard⟩ :: os) gs ex e H e' H' :=
  .cons (b := b) (x := x) (H1 := H) ⟨ha, .inr (.inl ⟨f, args, ts, c, caps, as, rfl, hf, has, rfl, fun hb => by simp only [hx, Bool.false_eq_true, if_false]; exact hD hb⟩)⟩ hr
theorem SpecR.callG {f : Operand} {args : Array Operand} {ts : Array TypeId} {c : FuncId} {caps : List Leaf} {as : List AVal} {x : AVal} {d : Option Nat} (ha : actE e (gs.headD []) = some b) (hf : evO e f = some (.c (.clo c caps))) (has : allV (args.toList.map (evO e)) = some as)
    (hD : b = true → ∀ H, DCall P c (as ++ caps.map .c) H x) (hr : SpecR P W os gs.tail ex.tail (putE e d x) H e' H') : SpecR P W (⟨d, .call { callee := .value f, args := args, argTypes := ts }, ty, pos, after, guard⟩ :: os) gs ex e H e' H' :=
  .cons (b := b) (x := x) (H1 := H) ⟨ha, .inr (.inl ⟨f, args, ts, c, caps, as, rfl, hf, has, rfl, fun hb => by cases ex.headD false <;> simp [hD hb]⟩)⟩ hr

theorem SpecR.move {y : Operand} {x : AVal} (ha : actE e (gs.headD []) = some b) (hw : wOk W (ex.headD false) e H (.move y) = true) (h : evO e y = some x)
    (hr : SpecR P W os gs.tail ex.tail ((t, x) :: e) H e' H') : SpecR P W (⟨some t, .move y, ty, pos, after, guard⟩ :: os) gs ex e H e' H' := .mob rfl rfl ha hw (by simp [stp, h]) hr
theorem SpecR.assign {y : Operand} {x : AVal} (ha : actE e (gs.headD []) = some b) (hw : wOk W (ex.headD false) e H (.assign y) = true) (h : evO e y = some x)
    (hr : SpecR P W os gs.tail ex.tail ((t, x) :: e) H e' H') : SpecR P W (⟨some t, .assign y, ty, pos, after, guard⟩ :: os) gs ex e H e' H' := .mob rfl rfl ha hw (by simp [stp, h]) hr

/-- A guarded operand picked. -/
theorem SpecR.pickB {c p q : Operand} {v x y : Bool} (ha : actE e (gs.headD []) = some b) (hw : wOk W (ex.headD false) e H (.pick c p q) = true) (hc : evO e c = some (.c (B v))) (hp : evO e p = some (.c (B x))) (hq : evO e q = some (.c (B y)))
    (hr : SpecR P W os gs.tail ex.tail ((t, .c (B (bif v then x else y))) :: e) H e' H') : SpecR P W (⟨some t, .pick c p q, ty, pos, after, guard⟩ :: os) gs ex e H e' H' := .mob rfl rfl ha hw (by simp [stp, hc, hp, hq, pickV]) hr
/-- a && b -/
theorem SpecR.pickAnd {c p : Operand} {v x : Bool} (ha : actE e (gs.headD []) = some b) (hw : wOk W (ex.headD false) e H (.pick c p (.const (.bool false))) = true) (hc : evO e c = some (.c (B v))) (hp : evO e p = some (.c (B x)))
    (hr : SpecR P W os gs.tail ex.tail ((t, .c (B (v && x))) :: e) H e' H') : SpecR P W (⟨some t, .pick c p (.const (.bool false)), ty, pos, after, guard⟩ :: os) gs ex e H e' H' :=
  .mob rfl rfl ha hw (by
    have hk : evO e (.const (.bool false)) = some (.c (B false)) := rfl
    cases v <;> simp [stp, hc, hp, hk, pickV]) hr
/-- a || b -/
theorem SpecR.pickOr {c p : Operand} {v x : Bool} (ha : actE e (gs.headD []) = some b) (hw : wOk W (ex.headD false) e H (.pick c (.const (.bool true)) p) = true) (hc : evO e c = some (.c (B v))) (hp : evO e p = some (.c (B x)))
    (hr : SpecR P W os gs.tail ex.tail ((t, .c (B (v || x))) :: e) H e' H') : SpecR P W (⟨some t, .pick c (.const (.bool true)) p, ty, pos, after, guard⟩ :: os) gs ex e H e' H' :=
  .mob rfl rfl ha hw (by
    have hk : evO e (.const (.bool true)) = some (.c (B true)) := rfl
    cases v <;> simp [stp, hc, hp, hk, pickV]) hr
/-- a && b, where a is known to be false: b was not reckoned. -/
theorem SpecR.pickAnd0 {c p : Operand} {x : AVal} (ha : actE e (gs.headD []) = some b) (hw : wOk W (ex.headD false) e H (.pick c p (.const (.bool false))) = true) (hc : evO e c = some (.c (B false))) (hp : evO e p = some x)
    (hr : SpecR P W os gs.tail ex.tail ((t, .c (B false)) :: e) H e' H') : SpecR P W (⟨some t, .pick c p (.const (.bool false)), ty, pos, after, guard⟩ :: os) gs ex e H e' H' :=
  .mob rfl rfl ha hw (by
    have hk : evO e (.const (.bool false)) = some (.c (B false)) := rfl
    simp only [stp, hc, hp, hk]
    unfold pickV
    split
    · simp_all
    · simp) hr
theorem SpecR.pickOr1 {c p : Operand} {x : AVal} (ha : actE e (gs.headD []) = some b) (hw : wOk W (ex.headD false) e H (.pick c (.const (.bool true)) p) = true) (hc : evO e c = some (.c (B true))) (hp : evO e p = some x)
    (hr : SpecR P W os gs.tail ex.tail ((t, .c (B true)) :: e) H e' H') : SpecR P W (⟨some t, .pick c (.const (.bool true)) p, ty, pos, after, guard⟩ :: os) gs ex e H e' H' :=
  .mob rfl rfl ha hw (by
    have hk : evO e (.const (.bool true)) = some (.c (B true)) := rfl
    simp only [stp, hc, hp, hk]
    unfold pickV
    split
    · simp_all
    · simp) hr

theorem SpecR.load1 {ty0 n : Nat} {y : Operand} {p l : Leaf} (ht : tk P ty0 = some (false, n)) (ha : actE e (gs.headD []) = some b) (hw : wOk W (ex.headD false) e H (.load ty0 y) = true) (hy : evO e y = some (.c p)) (hl : ld1 H p = some l)
    (hr : SpecR P W os gs.tail ex.tail ((t, .c l) :: e) H e' H') : SpecR P W (⟨some t, .load ty0 y, ty, pos, after, guard⟩ :: os) gs ex e H e' H' := .mob rfl rfl ha hw (by simp [stp, ht, hy, hl]) hr
theorem SpecR.loadN {ty0 n : Nat} {y : Operand} {p : Leaf} {cs : List Leaf} (ht : tk P ty0 = some (true, n)) (ha : actE e (gs.headD []) = some b) (hw : wOk W (ex.headD false) e H (.load ty0 y) = true) (hy : evO e y = some (.c p)) (hl : ldN H n p = some cs)
    (hr : SpecR P W os gs.tail ex.tail ((t, .agg cs) :: e) H e' H') : SpecR P W (⟨some t, .load ty0 y, ty, pos, after, guard⟩ :: os) gs ex e H e' H' := .mob rfl rfl ha hw (by simp [stp, ht, hy, hl]) hr

/-- Where a field lies. -/
def fieldL (H : List Ob) (off : Nat) : Leaf → Option Leaf
  | .ptr h ver i k => match obj H h ver with
    | some _ => some (.ptr h ver i (k + off))
    | none => none
  | .fptr rows i k => some (.fptr rows i (k + off))
  | _ => none
theorem SpecR.fieldAddr {s f off n : Nat} {g : Bool} {y : Operand} {p l : Leaf} (ht : fo P s f = some (off, n, g)) (hn : (n == 0) = false) (ha : actE e (gs.headD []) = some b) (hw : wOk W (ex.headD false) e H (.fieldAddr s y f) = true) (hy : evO e y = some (.c p)) (hl : fieldL H off p = some l)
    (hr : SpecR P W os gs.tail ex.tail ((t, .c l) :: e) H e' H') : SpecR P W (⟨some t, .fieldAddr s y f, ty, pos, after, guard⟩ :: os) gs ex e H e' H' :=
  .mob rfl rfl ha hw (by
    have hn' : n ≠ 0 := by simpa using hn
    cases p <;> simp [fieldL] at hl
    · rename_i h ver i k
      cases ho : obj H h ver with
      | none => simp [ho] at hl
      | some zr => simp [ho] at hl; subst hl; simp [stp, ht, hy, hn', ho]
    · subst hl; simp [stp, ht, hy, hn']) hr
def alive (H : List Ob) : Leaf → Bool
  | .ptr h ver _ _ => (obj H h ver).isSome
  | .fptr _ _ _ => true
  | .clo _ _ => true
  | _ => false
theorem SpecR.nilCheck {y : Operand} {l : Leaf} (ha : actE e (gs.headD []) = some b) (hw : wOk W (ex.headD false) e H (.nilCheck y) = true) (hy : evO e y = some (.c l)) (hl : alive H l = true)
    (hr : SpecR P W os gs.tail ex.tail ((t, .c l) :: e) H e' H') : SpecR P W (⟨some t, .nilCheck y, ty, pos, after, guard⟩ :: os) gs ex e H e' H' :=
  .mob rfl rfl ha hw (by
    cases l <;> simp [alive] at hl
    · rename_i h ver i k
      obtain ⟨zr, ho⟩ := Option.isSome_iff_exists.1 hl
      simp [stp, hy, ho]
    · simp [stp, hy]
    · simp [stp, hy]) hr
theorem SpecR.field {s f off n : Nat} {g : Bool} {y : Operand} {cs : List Leaf} {x : AVal} (ht : fo P s f = some (off, n, g)) (ha : actE e (gs.headD []) = some b) (hw : wOk W (ex.headD false) e H (.field s y f) = true) (hy : evO e y = some (.agg cs)) (hl : mkSeg g cs off n = some x)
    (hr : SpecR P W os gs.tail ex.tail ((t, x) :: e) H e' H') : SpecR P W (⟨some t, .field s y f, ty, pos, after, guard⟩ :: os) gs ex e H e' H' := .mob rfl rfl ha hw (by simp [stp, ht, hy, hl]) hr
theorem SpecR.extract {y : Operand} {i : Nat} {vs : List AVal} {x : AVal} (ha : actE e (gs.headD []) = some b) (hw : wOk W (ex.headD false) e H (.extract y i) = true) (hy : evO e y = some (.tup vs)) (hl : vs[i]? = some x)
    (hr : SpecR P W os gs.tail ex.tail ((t, x) :: e) H e' H') : SpecR P W (⟨some t, .extract y i, ty, pos, after, guard⟩ :: os) gs ex e H e' H' := .mob rfl rfl ha hw (by simp [stp, hy, hl]) hr
theorem SpecR.int {op : BinOp} {ty0 ty1 : Nat} {y z : Operand} {k : IntKind} {m n : Int} {l : Leaf} (ha : actE e (gs.headD []) = some b) (hw : wOk W (ex.headD false) e H (.binOp op ty0 y z ty1) = true) (hy : evO e y = some (.c (.v (.int k m)))) (hz : evO e z = some (.c (.v (.int k n)))) (hl : intBin op k m n = some l)
    (hr : SpecR P W os gs.tail ex.tail ((t, .c l) :: e) H e' H') : SpecR P W (⟨some t, .binOp op ty0 y z ty1, ty, pos, after, guard⟩ :: os) gs ex e H e' H' := .mob rfl rfl ha hw (by simp [stp, hy, hz, binV, hl]) hr
theorem SpecR.bin {op : BinOp} {ty0 ty1 : Nat} {y z : Operand} {u v : AVal} {l : Leaf} (ha : actE e (gs.headD []) = some b) (hw : wOk W (ex.headD false) e H (.binOp op ty0 y z ty1) = true) (hy : evO e y = some u) (hz : evO e z = some v) (hl : binV P H op ty0 u v = some l)
    (hr : SpecR P W os gs.tail ex.tail ((t, .c l) :: e) H e' H') : SpecR P W (⟨some t, .binOp op ty0 y z ty1, ty, pos, after, guard⟩ :: os) gs ex e H e' H' := .mob rfl rfl ha hw (by simp [stp, hy, hz, hl]) hr
theorem SpecR.eqAgg {ty0 ty1 : Nat} {y z : Operand} {as bs : List Leaf} {s : List Sh} {v : Bool} (ht : eqs P ty0 = some s) (ha : actE e (gs.headD []) = some b) (hw : wOk W (ex.headD false) e H (.binOp .eql ty0 y z ty1) = true) (hy : evO e y = some (.agg as)) (hz : evO e z = some (.agg bs)) (hl : eqCells s as bs = some v)
    (hr : SpecR P W os gs.tail ex.tail ((t, .c (B v)) :: e) H e' H') : SpecR P W (⟨some t, .binOp .eql ty0 y z ty1, ty, pos, after, guard⟩ :: os) gs ex e H e' H' := .mob rfl rfl ha hw (by simp [stp, hy, hz, binV, ht, hl]) hr
theorem SpecR.neAgg {ty0 ty1 : Nat} {y z : Operand} {as bs : List Leaf} {s : List Sh} {v : Bool} (ht : eqs P ty0 = some s) (ha : actE e (gs.headD []) = some b) (hw : wOk W (ex.headD false) e H (.binOp .neq ty0 y z ty1) = true) (hy : evO e y = some (.agg as)) (hz : evO e z = some (.agg bs)) (hl : eqCells s as bs = some v)
    (hr : SpecR P W os gs.tail ex.tail ((t, .c (B (!v))) :: e) H e' H') : SpecR P W (⟨some t, .binOp .neq ty0 y z ty1, ty, pos, after, guard⟩ :: os) gs ex e H e' H' := .mob rfl rfl ha hw (by simp [stp, hy, hz, binV, ht, hl]) hr
theorem SpecR.eqBool {ty0 ty1 : Nat} {y z : Operand} {u v : Bool} (ht : P.underlying ty0 = some .bool) (ha : actE e (gs.headD []) = some b) (hw : wOk W (ex.headD false) e H (.binOp .eql ty0 y z ty1) = true) (hy : evO e y = some (.c (B u))) (hz : evO e z = some (.c (B v)))
    (hr : SpecR P W os gs.tail ex.tail ((t, .c (B (u == v))) :: e) H e' H') : SpecR P W (⟨some t, .binOp .eql ty0 y z ty1, ty, pos, after, guard⟩ :: os) gs ex e H e' H' := .mob rfl rfl ha hw (by simp [stp, hy, hz, binV, ht]) hr
theorem SpecR.neBool {ty0 ty1 : Nat} {y z : Operand} {u v : Bool} (ht : P.underlying ty0 = some .bool) (ha : actE e (gs.headD []) = some b) (hw : wOk W (ex.headD false) e H (.binOp .neq ty0 y z ty1) = true) (hy : evO e y = some (.c (B u))) (hz : evO e z = some (.c (B v)))
    (hr : SpecR P W os gs.tail ex.tail ((t, .c (B (!(u == v)))) :: e) H e' H') : SpecR P W (⟨some t, .binOp .neq ty0 y z ty1, ty, pos, after, guard⟩ :: os) gs ex e H e' H' := .mob rfl rfl ha hw (by simp [stp, hy, hz, binV, ht]) hr
theorem SpecR.not {ty0 : Nat} {y : Operand} {v : Bool} (ha : actE e (gs.headD []) = some b) (hw : wOk W (ex.headD false) e H (.unOp .not ty0 y) = true) (hy : evO e y = some (.c (B v)))
    (hr : SpecR P W os gs.tail ex.tail ((t, .c (B (!v))) :: e) H e' H') : SpecR P W (⟨some t, .unOp .not ty0 y, ty, pos, after, guard⟩ :: os) gs ex e H e' H' := .mob rfl rfl ha hw (by simp [stp, hy]) hr
theorem SpecR.convert {ty0 ty1 : Nat} {y : Operand} {k0 k k2 : IntKind} {n : Int} (h0 : ik P ty0 = some k0) (h1 : ik P ty1 = some k) (ha : actE e (gs.headD []) = some b) (hw : wOk W (ex.headD false) e H (.convert ty0 ty1 y) = true) (hy : evO e y = some (.c (.v (.int k2 n))))
    (hr : SpecR P W os gs.tail ex.tail ((t, .c (.v (.int k (k.wrap n)))) :: e) H e' H') : SpecR P W (⟨some t, .convert ty0 ty1 y, ty, pos, after, guard⟩ :: os) gs ex e H e' H' := .mob rfl rfl ha hw (by simp [stp, h0, h1, hy]) hr
theorem SpecR.makeFunc {f : FuncId} {caps : Array Operand} {cs : List Leaf} (ha : actE e (gs.headD []) = some b) (hw : wOk W (ex.headD false) e H (.makeFunc (.func f) #[] caps) = true) (hl : leafL (caps.toList.map (evO e)) = some cs)
    (hr : SpecR P W os gs.tail ex.tail ((t, .c (.clo f cs)) :: e) H e' H') : SpecR P W (⟨some t, .makeFunc (.func f) #[] caps, ty, pos, after, guard⟩ :: os) gs ex e H e' H' := .mob rfl rfl ha hw (by simp [stp, hl]) hr
theorem SpecR.len {el : TypeId} {y : Operand} {ts : TypeId} {l : Leaf} {n : Nat} (ht : P.underlying ts = some (.slice el)) (ha : actE e (gs.headD []) = some b) (hw : wOk W (ex.headD false) e H (.call { callee := .builtin .len, args := #[y], argTypes := #[ts] }) = true) (hy : evO e y = some (.c l)) (hl : lenL l = some n)
    (hr : SpecR P W os gs.tail ex.tail ((t, .c (I (n : Int))) :: e) H e' H') : SpecR P W (⟨some t, .call { callee := .builtin .len, args := #[y], argTypes := #[ts] }, ty, pos, after, guard⟩ :: os) gs ex e H e' H' := .mob rfl rfl ha hw (by simp [stp, ht, hy, hl]) hr
theorem SpecR.minmax {bi : Builtin} {args : Array Operand} {ts : Array TypeId} {n : Int} (hbi : bi = .min ∨ bi = .max) (ha : actE e (gs.headD []) = some b) (hw : wOk W (ex.headD false) e H (.call { callee := .builtin bi, args := args, argTypes := ts }) = true) (hl : foldInt (if bi = .min then min else max) (args.toList.map (evO e)) = some n)
    (hr : SpecR P W os gs.tail ex.tail ((t, .c (I n)) :: e) H e' H') : SpecR P W (⟨some t, .call { callee := .builtin bi, args := args, argTypes := ts }, ty, pos, after, guard⟩ :: os) gs ex e H e' H' := by
  rcases hbi with rfl | rfl
  · exact .mob rfl rfl ha hw (by simp at hl; simp [stp, hl]) hr
  · exact .mob rfl rfl ha hw (by simp at hl; simp [stp, hl]) hr
/-- An element of a slice that is only read. -/
def asF : Leaf → Option (List (List Leaf))
  | .slv rows => some rows
  | .slq rows => some rows
  | _ => none
theorem SpecR.indexF {ts : TypeId} {y z : Operand} {el size : Nat} {rest : Nat × List Leaf} {l : Leaf} {k : IntKind} {n : Int} {rows : List (List Leaf)} {r : List Leaf} (ht : se P ts = some (el, size, rest)) (ha : actE e (gs.headD []) = some b) (hw : wOk W (ex.headD false) e H (.indexAddr ts y z) = true) (hy : evO e y = some (.c l)) (hz : evO e z = some (.c (.v (.int k n))))
    (hl : asF l = some rows) (hn : 0 ≤ n) (hi : rows[n.toNat]? = some r) (hs : r.length = size)
    (hr : SpecR P W os gs.tail ex.tail ((t, .c (.fptr rows n.toNat 0)) :: e) H e' H') : SpecR P W (⟨some t, .indexAddr ts y z, ty, pos, after, guard⟩ :: os) gs ex e H e' H' :=
  .mob rfl rfl ha hw (by
    have hlt : n.toNat < rows.length := (List.getElem?_eq_some_iff.1 hi).1
    have hb : 0 ≤ n ∧ n < rows.length := ⟨hn, by omega⟩
    unfold asF at hl
    split at hl <;> cases hl
    all_goals
      simp only [stp, hy, hz, indexAddrV, view, ht]
      rw [if_pos hb]
      simp [hi, hs]) hr
end
end Go.Nx
