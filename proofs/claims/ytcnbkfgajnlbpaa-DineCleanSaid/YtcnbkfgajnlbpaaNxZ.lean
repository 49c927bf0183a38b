/- The rules of the operations, for a region in the text's order. -/
import Derived.Test.YtcnbkfgajnlbpaaNxY
namespace Go.Nx
set_option linter.unusedVariables false
set_option linter.unusedSimpArgs false
section
variable {P : Program} {N : Nat} {Γ0 : Ctx} {A os : List Oper} {e : Env} {H H1 : List Ob} {ty : TypeId} {pos : String} {after : Array Edge} {t : Nat} {K : Env → List Ob → Prop}
theorem TextR.move {y : Operand} {x : AVal} (h : evO e y = some x) (hr : TextR P N Γ0 A os ((t, x) :: e) H K) : TextR P N Γ0 A (⟨some t, .move y, ty, pos, after, none⟩ :: os) e H K := .op (by simp [stp, h]) hr
theorem TextR.gmove {guard : Option (Nat × Bool)} (hg : wantE A e guard = some true) {y : Operand} {x : AVal} (h : evO e y = some x) (hr : TextR P N Γ0 A os ((t, x) :: e) H K) : TextR P N Γ0 A (⟨some t, .move y, ty, pos, after, guard⟩ :: os) e H K := .opG hg (by simp [stp, h]) hr
theorem TextR.assign {y : Operand} {x : AVal} (h : evO e y = some x) (hr : TextR P N Γ0 A os ((t, x) :: e) H K) : TextR P N Γ0 A (⟨some t, .assign y, ty, pos, after, none⟩ :: os) e H K := .op (by simp [stp, h]) hr
theorem TextR.gassign {guard : Option (Nat × Bool)} (hg : wantE A e guard = some true) {y : Operand} {x : AVal} (h : evO e y = some x) (hr : TextR P N Γ0 A os ((t, x) :: e) H K) : TextR P N Γ0 A (⟨some t, .assign y, ty, pos, after, guard⟩ :: os) e H K := .opG hg (by simp [stp, h]) hr
theorem TextR.pickB {c p q : Operand} {v x y : Bool} (hc : evO e c = some (.c (B v))) (hp : evO e p = some (.c (B x))) (hq : evO e q = some (.c (B y))) (hr : TextR P N Γ0 A os ((t, .c (B (bif v then x else y))) :: e) H K) : TextR P N Γ0 A (⟨some t, .pick c p q, ty, pos, after, none⟩ :: os) e H K := .op (by simp [stp, hc, hp, hq, pickV]) hr
theorem TextR.gpickB {guard : Option (Nat × Bool)} (hg : wantE A e guard = some true) {c p q : Operand} {v x y : Bool} (hc : evO e c = some (.c (B v))) (hp : evO e p = some (.c (B x))) (hq : evO e q = some (.c (B y))) (hr : TextR P N Γ0 A os ((t, .c (B (bif v then x else y))) :: e) H K) : TextR P N Γ0 A (⟨some t, .pick c p q, ty, pos, after, guard⟩ :: os) e H K := .opG hg (by simp [stp, hc, hp, hq, pickV]) hr
theorem TextR.pickAnd {c p : Operand} {v x : Bool} (hc : evO e c = some (.c (B v))) (hp : evO e p = some (.c (B x))) (hr : TextR P N Γ0 A os ((t, .c (B (v && x))) :: e) H K) : TextR P N Γ0 A (⟨some t, .pick c p (.const (.bool false)), ty, pos, after, none⟩ :: os) e H K :=
  .op (by
    have hk : evO e (.const (.bool false)) = some (.c (B false)) := rfl
    cases v <;> simp [stp, hc, hp, hk, pickV]) hr
theorem TextR.gpickAnd {guard : Option (Nat × Bool)} (hg : wantE A e guard = some true) {c p : Operand} {v x : Bool} (hc : evO e c = some (.c (B v))) (hp : evO e p = some (.c (B x))) (hr : TextR P N Γ0 A os ((t, .c (B (v && x))) :: e) H K) : TextR P N Γ0 A (⟨some t, .pick c p (.const (.bool false)), ty, pos, after, guard⟩ :: os) e H K :=
  .opG hg (by
    have hk : evO e (.const (.bool false)) = some (.c (B false)) := rfl
    cases v <;> simp [stp, hc, hp, hk, pickV]) hr
theorem TextR.pickOr {c p : Operand} {v x : Bool} (hc : evO e c = some (.c (B v))) (hp : evO e p = some (.c (B x))) (hr : TextR P N Γ0 A os ((t, .c (B (v || x))) :: e) H K) : TextR P N Γ0 A (⟨some t, .pick c (.const (.bool true)) p, ty, pos, after, none⟩ :: os) e H K :=
  .op (by
    have hk : evO e (.const (.bool true)) = some (.c (B true)) := rfl
    cases v <;> simp [stp, hc, hp, hk, pickV]) hr
theorem TextR.gpickOr {guard : Option (Nat × Bool)} (hg : wantE A e guard = some true) {c p : Operand} {v x : Bool} (hc : evO e c = some (.c (B v))) (hp : evO e p = some (.c (B x))) (hr : TextR P N Γ0 A os ((t, .c (B (v || x))) :: e) H K) : TextR P N Γ0 A (⟨some t, .pick c (.const (.bool true)) p, ty, pos, after, guard⟩ :: os) e H K :=
  .opG hg (by
    have hk : evO e (.const (.bool true)) = some (.c (B true)) := rfl
    cases v <;> simp [stp, hc, hp, hk, pickV]) hr
theorem TextR.pickAnd0 {c p : Operand} {x : AVal} (hc : evO e c = some (.c (B false))) (hp : evO e p = some x) (hr : TextR P N Γ0 A os ((t, .c (B false)) :: e) H K) : TextR P N Γ0 A (⟨some t, .pick c p (.const (.bool false)), ty, pos, after, none⟩ :: os) e H K :=
  .op (by
    have hk : evO e (.const (.bool false)) = some (.c (B false)) := rfl
    simp only [stp, hc, hp, hk]
    unfold pickV
    split
    · simp_all
    · simp) hr
theorem TextR.gpickAnd0 {guard : Option (Nat × Bool)} (hg : wantE A e guard = some true) {c p : Operand} {x : AVal} (hc : evO e c = some (.c (B false))) (hp : evO e p = some x) (hr : TextR P N Γ0 A os ((t, .c (B false)) :: e) H K) : TextR P N Γ0 A (⟨some t, .pick c p (.const (.bool false)), ty, pos, after, guard⟩ :: os) e H K :=
  .opG hg (by
    have hk : evO e (.const (.bool false)) = some (.c (B false)) := rfl
    simp only [stp, hc, hp, hk]
    unfold pickV
    split
    · simp_all
    · simp) hr
theorem TextR.pickOr1 {c p : Operand} {x : AVal} (hc : evO e c = some (.c (B true))) (hp : evO e p = some x) (hr : TextR P N Γ0 A os ((t, .c (B true)) :: e) H K) : TextR P N Γ0 A (⟨some t, .pick c (.const (.bool true)) p, ty, pos, after, none⟩ :: os) e H K :=
  .op (by
    have hk : evO e (.const (.bool true)) = some (.c (B true)) := rfl
    simp only [stp, hc, hp, hk]
    unfold pickV
    split
    · simp_all
    · simp) hr
theorem TextR.gpickOr1 {guard : Option (Nat × Bool)} (hg : wantE A e guard = some true) {c p : Operand} {x : AVal} (hc : evO e c = some (.c (B true))) (hp : evO e p = some x) (hr : TextR P N Γ0 A os ((t, .c (B true)) :: e) H K) : TextR P N Γ0 A (⟨some t, .pick c (.const (.bool true)) p, ty, pos, after, guard⟩ :: os) e H K :=
  .opG hg (by
    have hk : evO e (.const (.bool true)) = some (.c (B true)) := rfl
    simp only [stp, hc, hp, hk]
    unfold pickV
    split
    · simp_all
    · simp) hr
theorem TextR.load1 {ty0 n : Nat} {y : Operand} {p l : Leaf} (ht : tk P ty0 = some (false, n)) (hy : evO e y = some (.c p)) (hl : ld1 H p = some l) (hr : TextR P N Γ0 A os ((t, .c l) :: e) H K) : TextR P N Γ0 A (⟨some t, .load ty0 y, ty, pos, after, none⟩ :: os) e H K := .op (by simp [stp, ht, hy, hl]) hr
theorem TextR.gload1 {guard : Option (Nat × Bool)} (hg : wantE A e guard = some true) {ty0 n : Nat} {y : Operand} {p l : Leaf} (ht : tk P ty0 = some (false, n)) (hy : evO e y = some (.c p)) (hl : ld1 H p = some l) (hr : TextR P N Γ0 A os ((t, .c l) :: e) H K) : TextR P N Γ0 A (⟨some t, .load ty0 y, ty, pos, after, guard⟩ :: os) e H K := .opG hg (by simp [stp, ht, hy, hl]) hr
theorem TextR.loadN {ty0 n : Nat} {y : Operand} {p : Leaf} {cs : List Leaf} (ht : tk P ty0 = some (true, n)) (hy : evO e y = some (.c p)) (hl : ldN H n p = some cs) (hr : TextR P N Γ0 A os ((t, .agg cs) :: e) H K) : TextR P N Γ0 A (⟨some t, .load ty0 y, ty, pos, after, none⟩ :: os) e H K := .op (by simp [stp, ht, hy, hl]) hr
theorem TextR.gloadN {guard : Option (Nat × Bool)} (hg : wantE A e guard = some true) {ty0 n : Nat} {y : Operand} {p : Leaf} {cs : List Leaf} (ht : tk P ty0 = some (true, n)) (hy : evO e y = some (.c p)) (hl : ldN H n p = some cs) (hr : TextR P N Γ0 A os ((t, .agg cs) :: e) H K) : TextR P N Γ0 A (⟨some t, .load ty0 y, ty, pos, after, guard⟩ :: os) e H K := .opG hg (by simp [stp, ht, hy, hl]) hr
theorem TextR.fieldAddr {s f off n : Nat} {g : Bool} {y : Operand} {p l : Leaf} (ht : fo P s f = some (off, n, g)) (hn : (n == 0) = false) (hy : evO e y = some (.c p)) (hl : fieldL H off p = some l) (hr : TextR P N Γ0 A os ((t, .c l) :: e) H K) : TextR P N Γ0 A (⟨some t, .fieldAddr s y f, ty, pos, after, none⟩ :: os) e H K :=
  .op (by
    have hn' : n ≠ 0 := by simpa using hn
    cases p <;> simp [fieldL] at hl
    · rename_i h ver i k
      cases ho : obj H h ver with
      | none => simp [ho] at hl
      | some zr => simp [ho] at hl; subst hl; simp [stp, ht, hy, hn', ho]
    · subst hl; simp [stp, ht, hy, hn']) hr
theorem TextR.gfieldAddr {guard : Option (Nat × Bool)} (hg : wantE A e guard = some true) {s f off n : Nat} {g : Bool} {y : Operand} {p l : Leaf} (ht : fo P s f = some (off, n, g)) (hn : (n == 0) = false) (hy : evO e y = some (.c p)) (hl : fieldL H off p = some l) (hr : TextR P N Γ0 A os ((t, .c l) :: e) H K) : TextR P N Γ0 A (⟨some t, .fieldAddr s y f, ty, pos, after, guard⟩ :: os) e H K :=
  .opG hg (by
    have hn' : n ≠ 0 := by simpa using hn
    cases p <;> simp [fieldL] at hl
    · rename_i h ver i k
      cases ho : obj H h ver with
      | none => simp [ho] at hl
      | some zr => simp [ho] at hl; subst hl; simp [stp, ht, hy, hn', ho]
    · subst hl; simp [stp, ht, hy, hn']) hr
theorem TextR.nilCheck {y : Operand} {l : Leaf} (hy : evO e y = some (.c l)) (hl : alive H l = true) (hr : TextR P N Γ0 A os ((t, .c l) :: e) H K) : TextR P N Γ0 A (⟨some t, .nilCheck y, ty, pos, after, none⟩ :: os) e H K :=
  .op (by
    cases l <;> simp [alive] at hl
    · rename_i h ver i k
      obtain ⟨zr, ho⟩ := Option.isSome_iff_exists.1 hl
      simp [stp, hy, ho]
    · simp [stp, hy]
    · simp [stp, hy]) hr
theorem TextR.gnilCheck {guard : Option (Nat × Bool)} (hg : wantE A e guard = some true) {y : Operand} {l : Leaf} (hy : evO e y = some (.c l)) (hl : alive H l = true) (hr : TextR P N Γ0 A os ((t, .c l) :: e) H K) : TextR P N Γ0 A (⟨some t, .nilCheck y, ty, pos, after, guard⟩ :: os) e H K :=
  .opG hg (by
    cases l <;> simp [alive] at hl
    · rename_i h ver i k
      obtain ⟨zr, ho⟩ := Option.isSome_iff_exists.1 hl
      simp [stp, hy, ho]
    · simp [stp, hy]
    · simp [stp, hy]) hr
theorem TextR.field {s f off n : Nat} {g : Bool} {y : Operand} {cs : List Leaf} {x : AVal} (ht : fo P s f = some (off, n, g)) (hy : evO e y = some (.agg cs)) (hl : mkSeg g cs off n = some x) (hr : TextR P N Γ0 A os ((t, x) :: e) H K) : TextR P N Γ0 A (⟨some t, .field s y f, ty, pos, after, none⟩ :: os) e H K := .op (by simp [stp, ht, hy, hl]) hr
theorem TextR.gfield {guard : Option (Nat × Bool)} (hg : wantE A e guard = some true) {s f off n : Nat} {g : Bool} {y : Operand} {cs : List Leaf} {x : AVal} (ht : fo P s f = some (off, n, g)) (hy : evO e y = some (.agg cs)) (hl : mkSeg g cs off n = some x) (hr : TextR P N Γ0 A os ((t, x) :: e) H K) : TextR P N Γ0 A (⟨some t, .field s y f, ty, pos, after, guard⟩ :: os) e H K := .opG hg (by simp [stp, ht, hy, hl]) hr
theorem TextR.extract {y : Operand} {i : Nat} {vs : List AVal} {x : AVal} (hy : evO e y = some (.tup vs)) (hl : vs[i]? = some x) (hr : TextR P N Γ0 A os ((t, x) :: e) H K) : TextR P N Γ0 A (⟨some t, .extract y i, ty, pos, after, none⟩ :: os) e H K := .op (by simp [stp, hy, hl]) hr
theorem TextR.gextract {guard : Option (Nat × Bool)} (hg : wantE A e guard = some true) {y : Operand} {i : Nat} {vs : List AVal} {x : AVal} (hy : evO e y = some (.tup vs)) (hl : vs[i]? = some x) (hr : TextR P N Γ0 A os ((t, x) :: e) H K) : TextR P N Γ0 A (⟨some t, .extract y i, ty, pos, after, guard⟩ :: os) e H K := .opG hg (by simp [stp, hy, hl]) hr
theorem TextR.int {op : BinOp} {ty0 ty1 : Nat} {y z : Operand} {k : IntKind} {m n : Int} {l : Leaf} (hy : evO e y = some (.c (.v (.int k m)))) (hz : evO e z = some (.c (.v (.int k n)))) (hl : intBin op k m n = some l) (hr : TextR P N Γ0 A os ((t, .c l) :: e) H K) : TextR P N Γ0 A (⟨some t, .binOp op ty0 y z ty1, ty, pos, after, none⟩ :: os) e H K := .op (by simp [stp, hy, hz, binV, hl]) hr
theorem TextR.gint {guard : Option (Nat × Bool)} (hg : wantE A e guard = some true) {op : BinOp} {ty0 ty1 : Nat} {y z : Operand} {k : IntKind} {m n : Int} {l : Leaf} (hy : evO e y = some (.c (.v (.int k m)))) (hz : evO e z = some (.c (.v (.int k n)))) (hl : intBin op k m n = some l) (hr : TextR P N Γ0 A os ((t, .c l) :: e) H K) : TextR P N Γ0 A (⟨some t, .binOp op ty0 y z ty1, ty, pos, after, guard⟩ :: os) e H K := .opG hg (by simp [stp, hy, hz, binV, hl]) hr
theorem TextR.bin {op : BinOp} {ty0 ty1 : Nat} {y z : Operand} {u v : AVal} {l : Leaf} (hy : evO e y = some u) (hz : evO e z = some v) (hl : binV P H op ty0 u v = some l) (hr : TextR P N Γ0 A os ((t, .c l) :: e) H K) : TextR P N Γ0 A (⟨some t, .binOp op ty0 y z ty1, ty, pos, after, none⟩ :: os) e H K := .op (by simp [stp, hy, hz, hl]) hr
theorem TextR.gbin {guard : Option (Nat × Bool)} (hg : wantE A e guard = some true) {op : BinOp} {ty0 ty1 : Nat} {y z : Operand} {u v : AVal} {l : Leaf} (hy : evO e y = some u) (hz : evO e z = some v) (hl : binV P H op ty0 u v = some l) (hr : TextR P N Γ0 A os ((t, .c l) :: e) H K) : TextR P N Γ0 A (⟨some t, .binOp op ty0 y z ty1, ty, pos, after, guard⟩ :: os) e H K := .opG hg (by simp [stp, hy, hz, hl]) hr
theorem TextR.eqAgg {ty0 ty1 : Nat} {y z : Operand} {as bs : List Leaf} {s : List Sh} {v : Bool} (ht : eqs P ty0 = some s) (hy : evO e y = some (.agg as)) (hz : evO e z = some (.agg bs)) (hl : eqCells s as bs = some v) (hr : TextR P N Γ0 A os ((t, .c (B v)) :: e) H K) : TextR P N Γ0 A (⟨some t, .binOp .eql ty0 y z ty1, ty, pos, after, none⟩ :: os) e H K := .op (by simp [stp, hy, hz, binV, ht, hl]) hr
theorem TextR.geqAgg {guard : Option (Nat × Bool)} (hg : wantE A e guard = some true) {ty0 ty1 : Nat} {y z : Operand} {as bs : List Leaf} {s : List Sh} {v : Bool} (ht : eqs P ty0 = some s) (hy : evO e y = some (.agg as)) (hz : evO e z = some (.agg bs)) (hl : eqCells s as bs = some v) (hr : TextR P N Γ0 A os ((t, .c (B v)) :: e) H K) : TextR P N Γ0 A (⟨some t, .binOp .eql ty0 y z ty1, ty, pos, after, guard⟩ :: os) e H K := .opG hg (by simp [stp, hy, hz, binV, ht, hl]) hr
theorem TextR.neAgg {ty0 ty1 : Nat} {y z : Operand} {as bs : List Leaf} {s : List Sh} {v : Bool} (ht : eqs P ty0 = some s) (hy : evO e y = some (.agg as)) (hz : evO e z = some (.agg bs)) (hl : eqCells s as bs = some v) (hr : TextR P N Γ0 A os ((t, .c (B (!v))) :: e) H K) : TextR P N Γ0 A (⟨some t, .binOp .neq ty0 y z ty1, ty, pos, after, none⟩ :: os) e H K := .op (by simp [stp, hy, hz, binV, ht, hl]) hr
theorem TextR.gneAgg {guard : Option (Nat × Bool)} (hg : wantE A e guard = some true) {ty0 ty1 : Nat} {y z : Operand} {as bs : List Leaf} {s : List Sh} {v : Bool} (ht : eqs P ty0 = some s) (hy : evO e y = some (.agg as)) (hz : evO e z = some (.agg bs)) (hl : eqCells s as bs = some v) (hr : TextR P N Γ0 A os ((t, .c (B (!v))) :: e) H K) : TextR P N Γ0 A (⟨some t, .binOp .neq ty0 y z ty1, ty, pos, after, guard⟩ :: os) e H K := .opG hg (by simp [stp, hy, hz, binV, ht, hl]) hr
theorem TextR.eqBool {ty0 ty1 : Nat} {y z : Operand} {u v : Bool} (ht : P.underlying ty0 = some .bool) (hy : evO e y = some (.c (B u))) (hz : evO e z = some (.c (B v))) (hr : TextR P N Γ0 A os ((t, .c (B (u == v))) :: e) H K) : TextR P N Γ0 A (⟨some t, .binOp .eql ty0 y z ty1, ty, pos, after, none⟩ :: os) e H K := .op (by simp [stp, hy, hz, binV, ht]) hr
theorem TextR.geqBool {guard : Option (Nat × Bool)} (hg : wantE A e guard = some true) {ty0 ty1 : Nat} {y z : Operand} {u v : Bool} (ht : P.underlying ty0 = some .bool) (hy : evO e y = some (.c (B u))) (hz : evO e z = some (.c (B v))) (hr : TextR P N Γ0 A os ((t, .c (B (u == v))) :: e) H K) : TextR P N Γ0 A (⟨some t, .binOp .eql ty0 y z ty1, ty, pos, after, guard⟩ :: os) e H K := .opG hg (by simp [stp, hy, hz, binV, ht]) hr
theorem TextR.neBool {ty0 ty1 : Nat} {y z : Operand} {u v : Bool} (ht : P.underlying ty0 = some .bool) (hy : evO e y = some (.c (B u))) (hz : evO e z = some (.c (B v))) (hr : TextR P N Γ0 A os ((t, .c (B (!(u == v)))) :: e) H K) : TextR P N Γ0 A (⟨some t, .binOp .neq ty0 y z ty1, ty, pos, after, none⟩ :: os) e H K := .op (by simp [stp, hy, hz, binV, ht]) hr
theorem TextR.gneBool {guard : Option (Nat × Bool)} (hg : wantE A e guard = some true) {ty0 ty1 : Nat} {y z : Operand} {u v : Bool} (ht : P.underlying ty0 = some .bool) (hy : evO e y = some (.c (B u))) (hz : evO e z = some (.c (B v))) (hr : TextR P N Γ0 A os ((t, .c (B (!(u == v)))) :: e) H K) : TextR P N Γ0 A (⟨some t, .binOp .neq ty0 y z ty1, ty, pos, after, guard⟩ :: os) e H K := .opG hg (by simp [stp, hy, hz, binV, ht]) hr
theorem TextR.not {ty0 : Nat} {y : Operand} {v : Bool} (hy : evO e y = some (.c (B v))) (hr : TextR P N Γ0 A os ((t, .c (B (!v))) :: e) H K) : TextR P N Γ0 A (⟨some t, .unOp .not ty0 y, ty, pos, after, none⟩ :: os) e H K := .op (by simp [stp, hy]) hr
theorem TextR.gnot {guard : Option (Nat × Bool)} (hg : wantE A e guard = some true) {ty0 : Nat} {y : Operand} {v : Bool} (hy : evO e y = some (.c (B v))) (hr : TextR P N Γ0 A os ((t, .c (B (!v))) :: e) H K) : TextR P N Γ0 A (⟨some t, .unOp .not ty0 y, ty, pos, after, guard⟩ :: os) e H K := .opG hg (by simp [stp, hy]) hr
theorem TextR.convert {ty0 ty1 : Nat} {y : Operand} {k0 k k2 : IntKind} {n : Int} (h0 : ik P ty0 = some k0) (h1 : ik P ty1 = some k) (hy : evO e y = some (.c (.v (.int k2 n)))) (hr : TextR P N Γ0 A os ((t, .c (.v (.int k (k.wrap n)))) :: e) H K) : TextR P N Γ0 A (⟨some t, .convert ty0 ty1 y, ty, pos, after, none⟩ :: os) e H K := .op (by simp [stp, h0, h1, hy]) hr
theorem TextR.gconvert {guard : Option (Nat × Bool)} (hg : wantE A e guard = some true) {ty0 ty1 : Nat} {y : Operand} {k0 k k2 : IntKind} {n : Int} (h0 : ik P ty0 = some k0) (h1 : ik P ty1 = some k) (hy : evO e y = some (.c (.v (.int k2 n)))) (hr : TextR P N Γ0 A os ((t, .c (.v (.int k (k.wrap n)))) :: e) H K) : TextR P N Γ0 A (⟨some t, .convert ty0 ty1 y, ty, pos, after, guard⟩ :: os) e H K := .opG hg (by simp [stp, h0, h1, hy]) hr
theorem TextR.makeFunc {f : FuncId} {caps : Array Operand} {cs : List Leaf} (hl : leafL (caps.toList.map (evO e)) = some cs) (hr : TextR P N Γ0 A os ((t, .c (.clo f cs)) :: e) H K) : TextR P N Γ0 A (⟨some t, .makeFunc (.func f) #[] caps, ty, pos, after, none⟩ :: os) e H K := .op (by simp [stp, hl]) hr
theorem TextR.gmakeFunc {guard : Option (Nat × Bool)} (hg : wantE A e guard = some true) {f : FuncId} {caps : Array Operand} {cs : List Leaf} (hl : leafL (caps.toList.map (evO e)) = some cs) (hr : TextR P N Γ0 A os ((t, .c (.clo f cs)) :: e) H K) : TextR P N Γ0 A (⟨some t, .makeFunc (.func f) #[] caps, ty, pos, after, guard⟩ :: os) e H K := .opG hg (by simp [stp, hl]) hr
theorem TextR.len {el : TypeId} {y : Operand} {ts : TypeId} {l : Leaf} {n : Nat} (ht : P.underlying ts = some (.slice el)) (hy : evO e y = some (.c l)) (hl : lenL l = some n) (hr : TextR P N Γ0 A os ((t, .c (I (n : Int))) :: e) H K) : TextR P N Γ0 A (⟨some t, .call { callee := .builtin .len, args := #[y], argTypes := #[ts] }, ty, pos, after, none⟩ :: os) e H K := .op (by simp [stp, ht, hy, hl]) hr
theorem TextR.glen {guard : Option (Nat × Bool)} (hg : wantE A e guard = some true) {el : TypeId} {y : Operand} {ts : TypeId} {l : Leaf} {n : Nat} (ht : P.underlying ts = some (.slice el)) (hy : evO e y = some (.c l)) (hl : lenL l = some n) (hr : TextR P N Γ0 A os ((t, .c (I (n : Int))) :: e) H K) : TextR P N Γ0 A (⟨some t, .call { callee := .builtin .len, args := #[y], argTypes := #[ts] }, ty, pos, after, guard⟩ :: os) e H K := .opG hg (by simp [stp, ht, hy, hl]) hr
theorem TextR.minmax {bi : Builtin} {args : Array Operand} {ts : Array TypeId} {n : Int} (hbi : bi = .min ∨ bi = .max) (hl : foldInt (if bi = .min then min else max) (args.toList.map (evO e)) = some n) (hr : TextR P N Γ0 A os ((t, .c (I n)) :: e) H K) : TextR P N Γ0 A (⟨some t, .call { callee := .builtin bi, args := args, argTypes := ts }, ty, pos, after, none⟩ :: os) e H K := by
  rcases hbi with rfl | rfl
  · exact .op (by simp at hl; simp [stp, hl]) hr
  · exact .op (by simp at hl; simp [stp, hl]) hr
theorem TextR.gminmax {guard : Option (Nat × Bool)} (hg : wantE A e guard = some true) {bi : Builtin} {args : Array Operand} {ts : Array TypeId} {n : Int} (hbi : bi = .min ∨ bi = .max) (hl : foldInt (if bi = .min then min else max) (args.toList.map (evO e)) = some n) (hr : TextR P N Γ0 A os ((t, .c (I n)) :: e) H K) : TextR P N Γ0 A (⟨some t, .call { callee := .builtin bi, args := args, argTypes := ts }, ty, pos, after, guard⟩ :: os) e H K := by
  rcases hbi with rfl | rfl
  · exact .opG hg (by simp at hl; simp [stp, hl]) hr
  · exact .opG hg (by simp at hl; simp [stp, hl]) hr
theorem TextR.indexF {ts : TypeId} {y z : Operand} {el size : Nat} {rest : Nat × List Leaf} {l : Leaf} {k : IntKind} {n : Int} {rows : List (List Leaf)} {r : List Leaf} (ht : se P ts = some (el, size, rest)) (hy : evO e y = some (.c l)) (hz : evO e z = some (.c (.v (.int k n)))) (hl : asF l = some rows) (hn : 0 ≤ n) (hi : rows[n.toNat]? = some r) (hs : r.length = size) (hr : TextR P N Γ0 A os ((t, .c (.fptr rows n.toNat 0)) :: e) H K) : TextR P N Γ0 A (⟨some t, .indexAddr ts y z, ty, pos, after, none⟩ :: os) e H K :=
  .op (by
    have hlt : n.toNat < rows.length := (List.getElem?_eq_some_iff.1 hi).1
    have hb : 0 ≤ n ∧ n < rows.length := ⟨hn, by omega⟩
    unfold asF at hl
    split at hl <;> cases hl
    all_goals
      simp only [stp, hy, hz, indexAddrV, view, ht]
      rw [if_pos hb]
      simp [hi, hs]) hr
theorem TextR.gindexF {guard : Option (Nat × Bool)} (hg : wantE A e guard = some true) {ts : TypeId} {y z : Operand} {el size : Nat} {rest : Nat × List Leaf} {l : Leaf} {k : IntKind} {n : Int} {rows : List (List Leaf)} {r : List Leaf} (ht : se P ts = some (el, size, rest)) (hy : evO e y = some (.c l)) (hz : evO e z = some (.c (.v (.int k n)))) (hl : asF l = some rows) (hn : 0 ≤ n) (hi : rows[n.toNat]? = some r) (hs : r.length = size) (hr : TextR P N Γ0 A os ((t, .c (.fptr rows n.toNat 0)) :: e) H K) : TextR P N Γ0 A (⟨some t, .indexAddr ts y z, ty, pos, after, guard⟩ :: os) e H K :=
  .opG hg (by
    have hlt : n.toNat < rows.length := (List.getElem?_eq_some_iff.1 hi).1
    have hb : 0 ≤ n ∧ n < rows.length := ⟨hn, by omega⟩
    unfold asF at hl
    split at hl <;> cases hl
    all_goals
      simp only [stp, hy, hz, indexAddrV, view, ht]
      rw [if_pos hb]
      simp [hi, hs]) hr
theorem TextR.alloc {ty0 : TypeId} {z : Leaf} {zs : List Leaf} (h : Nat) {m : Nat} (hz : zc P ty0 = some (z :: zs)) (hh : H.length = h) (hm : zs.length + 1 = m) (hs : Snoc (.live 0 m [z :: zs]) H H1) (hr : TextR P N Γ0 A os ((t, .c (.ptr h 0 0 0)) :: e) H1 K) : TextR P N Γ0 A (⟨some t, .alloc ty0, ty, pos, after, none⟩ :: os) e H K :=
  .op (x := .c (.ptr h 0 0 0)) (H1 := H1) (by simp [stp, hz, hh, hm, hs.eq]) hr
theorem TextR.galloc {guard : Option (Nat × Bool)} (hg : wantE A e guard = some true) {ty0 : TypeId} {z : Leaf} {zs : List Leaf} (h : Nat) {m : Nat} (hz : zc P ty0 = some (z :: zs)) (hh : H.length = h) (hm : zs.length + 1 = m) (hs : Snoc (.live 0 m [z :: zs]) H H1) (hr : TextR P N Γ0 A os ((t, .c (.ptr h 0 0 0)) :: e) H1 K) : TextR P N Γ0 A (⟨some t, .alloc ty0, ty, pos, after, guard⟩ :: os) e H K :=
  .opG hg (x := .c (.ptr h 0 0 0)) (H1 := H1) (by simp [stp, hz, hh, hm, hs.eq]) hr
theorem TextR.box {ty0 : TypeId} {y : Operand} {v : AVal} {cs : List Leaf} (h : Nat) {m : Nat} (hy : evO e y = some v) (hc : v.cells = some cs) (hh : H.length = h) (hm : cs.length = m + 1) (hs : Snoc (.live 0 (m + 1) [cs]) H H1) (hr : TextR P N Γ0 A os ((t, .c (.ptr h 0 0 0)) :: e) H1 K) : TextR P N Γ0 A (⟨some t, .box ty0 y, ty, pos, after, none⟩ :: os) e H K :=
  .op (x := .c (.ptr h 0 0 0)) (H1 := H1) (by
    cases cs with
    | nil => simp at hm
    | cons z zs =>
      have hm' : zs.length = m := by simpa using hm
      simp [stp, hy, hc, hh, hm', hs.eq]) hr
theorem TextR.gbox {guard : Option (Nat × Bool)} (hg : wantE A e guard = some true) {ty0 : TypeId} {y : Operand} {v : AVal} {cs : List Leaf} (h : Nat) {m : Nat} (hy : evO e y = some v) (hc : v.cells = some cs) (hh : H.length = h) (hm : cs.length = m + 1) (hs : Snoc (.live 0 (m + 1) [cs]) H H1) (hr : TextR P N Γ0 A os ((t, .c (.ptr h 0 0 0)) :: e) H1 K) : TextR P N Γ0 A (⟨some t, .box ty0 y, ty, pos, after, guard⟩ :: os) e H K :=
  .opG hg (x := .c (.ptr h 0 0 0)) (H1 := H1) (by
    cases cs with
    | nil => simp at hm
    | cons z zs =>
      have hm' : zs.length = m := by simpa using hm
      simp [stp, hy, hc, hh, hm', hs.eq]) hr
theorem TextR.build {ty0 : TypeId} {ps : Array (Nat × Operand)} {z cs : List Leaf} {places : List (Nat × Nat)} (hz : cm P ty0 = some (z, places)) (hl : fillL places z (ps.toList.map fun (i, x) => (i, evO e x)) = some cs) (hr : TextR P N Γ0 A os ((t, .agg cs) :: e) H K) : TextR P N Γ0 A (⟨some t, .build ty0 ps, ty, pos, after, none⟩ :: os) e H K :=
  .op (by simp [stp, hz, hl]) hr
theorem TextR.gbuild {guard : Option (Nat × Bool)} (hg : wantE A e guard = some true) {ty0 : TypeId} {ps : Array (Nat × Operand)} {z cs : List Leaf} {places : List (Nat × Nat)} (hz : cm P ty0 = some (z, places)) (hl : fillL places z (ps.toList.map fun (i, x) => (i, evO e x)) = some cs) (hr : TextR P N Γ0 A os ((t, .agg cs) :: e) H K) : TextR P N Γ0 A (⟨some t, .build ty0 ps, ty, pos, after, guard⟩ :: os) e H K :=
  .opG hg (by simp [stp, hz, hl]) hr
theorem TextR.buildSlice {ty0 : TypeId} {n size by' : Nat} {el : TypeId} {ps : Array (Nat × Operand)} {z : List Leaf} {rows : List (List Leaf)} (h : Nat) (hz : se P ty0 = some (el, size, by', z)) (hh : H.length = h) (hc : (Nat.blt 0 size && Nat.ble (n * size) 16777216 && Nat.beq z.length size && Nat.ble n maxLen) = true) (hl : rowsL size (List.replicate n z) (ps.toList.map fun (i, x) => (i, evO e x)) = some rows) (hs : Snoc (.live 0 size rows) H H1) (hr : TextR P N Γ0 A os ((t, .c (.sl h 0 0 n)) :: e) H1 K) : TextR P N Γ0 A (⟨some t, .buildSlice ty0 n ps, ty, pos, after, none⟩ :: os) e H K :=
  .op (x := .c (.sl h 0 0 n)) (H1 := H1) (by
    simp only [Bool.and_eq_true, Nat.blt_eq, Nat.ble_eq, Nat.beq_eq] at hc
    have hc' : 0 < size ∧ n * size ≤ 16777216 ∧ z.length = size ∧ n ≤ maxLen := ⟨hc.1.1.1, hc.1.1.2, hc.1.2, hc.2⟩
    simp [stp, hz, hh, hc', hl, hs.eq]) hr
theorem TextR.gbuildSlice {guard : Option (Nat × Bool)} (hg : wantE A e guard = some true) {ty0 : TypeId} {n size by' : Nat} {el : TypeId} {ps : Array (Nat × Operand)} {z : List Leaf} {rows : List (List Leaf)} (h : Nat) (hz : se P ty0 = some (el, size, by', z)) (hh : H.length = h) (hc : (Nat.blt 0 size && Nat.ble (n * size) 16777216 && Nat.beq z.length size && Nat.ble n maxLen) = true) (hl : rowsL size (List.replicate n z) (ps.toList.map fun (i, x) => (i, evO e x)) = some rows) (hs : Snoc (.live 0 size rows) H H1) (hr : TextR P N Γ0 A os ((t, .c (.sl h 0 0 n)) :: e) H1 K) : TextR P N Γ0 A (⟨some t, .buildSlice ty0 n ps, ty, pos, after, guard⟩ :: os) e H K :=
  .opG hg (x := .c (.sl h 0 0 n)) (H1 := H1) (by
    simp only [Bool.and_eq_true, Nat.blt_eq, Nat.ble_eq, Nat.beq_eq] at hc
    have hc' : 0 < size ∧ n * size ≤ 16777216 ∧ z.length = size ∧ n ≤ maxLen := ⟨hc.1.1.1, hc.1.1.2, hc.1.2, hc.2⟩
    simp [stp, hz, hh, hc', hl, hs.eq]) hr
theorem TextR.makeSlice {ty0 : TypeId} {size by' n : Nat} {el : TypeId} {l c : Operand} {k k' : IntKind} {z : List Leaf} (h : Nat) (hz : se P ty0 = some (el, size, by', z)) (hh : H.length = h) (hl : evO e l = some (.c (.v (.int k (n : Int))))) (hc : evO e c = some (.c (.v (.int k' (n : Int))))) (hz1 : (Nat.blt 0 size && Nat.beq z.length size) = true) (hb : (by' : Int) * n ≤ 281474976710656) (hn : n ≤ maxLen) (hs : Snoc (.live 0 size (List.replicate n z)) H H1) (hr : TextR P N Γ0 A os ((t, .c (.sl h 0 0 n)) :: e) H1 K) : TextR P N Γ0 A (⟨some t, .makeSlice ty0 l c, ty, pos, after, none⟩ :: os) e H K :=
  .op (x := .c (.sl h 0 0 n)) (H1 := H1) (by
    simp only [Bool.and_eq_true, Nat.blt_eq, Nat.beq_eq] at hz1
    have hc' : 0 < size ∧ z.length = size ∧ (0 : Int) ≤ n ∧ (n : Int) = n ∧ (by' : Int) * n ≤ 281474976710656 ∧ (n : Int) ≤ maxLen := ⟨hz1.1, hz1.2, by omega, rfl, hb, by omega⟩
    simp [stp, hz, hl, hc, hh, hc', hs.eq]) hr
theorem TextR.gmakeSlice {guard : Option (Nat × Bool)} (hg : wantE A e guard = some true) {ty0 : TypeId} {size by' n : Nat} {el : TypeId} {l c : Operand} {k k' : IntKind} {z : List Leaf} (h : Nat) (hz : se P ty0 = some (el, size, by', z)) (hh : H.length = h) (hl : evO e l = some (.c (.v (.int k (n : Int))))) (hc : evO e c = some (.c (.v (.int k' (n : Int))))) (hz1 : (Nat.blt 0 size && Nat.beq z.length size) = true) (hb : (by' : Int) * n ≤ 281474976710656) (hn : n ≤ maxLen) (hs : Snoc (.live 0 size (List.replicate n z)) H H1) (hr : TextR P N Γ0 A os ((t, .c (.sl h 0 0 n)) :: e) H1 K) : TextR P N Γ0 A (⟨some t, .makeSlice ty0 l c, ty, pos, after, guard⟩ :: os) e H K :=
  .opG hg (x := .c (.sl h 0 0 n)) (H1 := H1) (by
    simp only [Bool.and_eq_true, Nat.blt_eq, Nat.beq_eq] at hz1
    have hc' : 0 < size ∧ z.length = size ∧ (0 : Int) ≤ n ∧ (n : Int) = n ∧ (by' : Int) * n ≤ 281474976710656 ∧ (n : Int) ≤ maxLen := ⟨hz1.1, hz1.2, by omega, rfl, hb, by omega⟩
    simp [stp, hz, hl, hc, hh, hc', hs.eq]) hr
theorem TextR.store1 {ty0 : TypeId} {y x : Operand} {v : AVal} {h ver n z : Nat} {g : Bool} {cs r : List Leaf} (ht : tk P ty0 = some (g, n)) (hy : evO e y = some (.c (.ptr h ver 0 0))) (hx : evO e x = some v) (hc : v.cells = some cs) (ho : obj H h ver = some (z, [r])) (hn : cs.length = n) (hrl : r.length = n) (hs : SetAt (.live ver z [cs]) H h H1) (hr : TextR P N Γ0 A os e H1 K) : TextR P N Γ0 A (⟨none, .store ty0 y x, ty, pos, after, none⟩ :: os) e H K :=
  .op (x := unit) (H1 := H1) (by
    have hp : ∀ (r cs : List Leaf) (k : Nat) (p : List Leaf), p.length = k → r.length = cs.length → putSeg (p ++ r) k cs = p ++ cs := by
      intro r cs
      induction cs generalizing r with
      | nil => intro k p _ h; simp at h; simp [putSeg, h]
      | cons c cs ih =>
        intro k p hk h
        cases r with
        | nil => simp at h
        | cons a r =>
          simp only [putSeg]
          have hset : (p ++ a :: r).set k c = (p ++ [c]) ++ r := by
            subst hk
            simp [List.set_append_right]
          rw [hset, ih r (k + 1) (p ++ [c]) (by simp [hk]) (by simpa using h)]
          simp
    have hp' := hp r cs 0 [] rfl (by omega)
    simp only [List.nil_append] at hp'
    simp [stp, ht, hy, hx, hc, ho, hn, hrl, hp', hs.eq]) (by simpa [putE] using hr)
theorem TextR.gstore1 {guard : Option (Nat × Bool)} (hg : wantE A e guard = some true) {ty0 : TypeId} {y x : Operand} {v : AVal} {h ver n z : Nat} {g : Bool} {cs r : List Leaf} (ht : tk P ty0 = some (g, n)) (hy : evO e y = some (.c (.ptr h ver 0 0))) (hx : evO e x = some v) (hc : v.cells = some cs) (ho : obj H h ver = some (z, [r])) (hn : cs.length = n) (hrl : r.length = n) (hs : SetAt (.live ver z [cs]) H h H1) (hr : TextR P N Γ0 A os e H1 K) : TextR P N Γ0 A (⟨none, .store ty0 y x, ty, pos, after, guard⟩ :: os) e H K :=
  .opG hg (x := unit) (H1 := H1) (by
    have hp : ∀ (r cs : List Leaf) (k : Nat) (p : List Leaf), p.length = k → r.length = cs.length → putSeg (p ++ r) k cs = p ++ cs := by
      intro r cs
      induction cs generalizing r with
      | nil => intro k p _ h; simp at h; simp [putSeg, h]
      | cons c cs ih =>
        intro k p hk h
        cases r with
        | nil => simp at h
        | cons a r =>
          simp only [putSeg]
          have hset : (p ++ a :: r).set k c = (p ++ [c]) ++ r := by
            subst hk
            simp [List.set_append_right]
          rw [hset, ih r (k + 1) (p ++ [c]) (by simp [hk]) (by simpa using h)]
          simp
    have hp' := hp r cs 0 [] rfl (by omega)
    simp only [List.nil_append] at hp'
    simp [stp, ht, hy, hx, hc, ho, hn, hrl, hp', hs.eq]) (by simpa [putE] using hr)
theorem TextR.storeF {ty0 : TypeId} {y x : Operand} {v : AVal} {h ver n z k : Nat} {g : Bool} {cs r r' : List Leaf} (ht : tk P ty0 = some (g, n)) (hy : evO e y = some (.c (.ptr h ver 0 k))) (hx : evO e x = some v) (hc : v.cells = some cs) (ho : obj H h ver = some (z, [r])) (hn : cs.length = n) (hrl : Nat.ble (k + n) r.length = true) (hp : putSeg r k cs = r') (hs : SetAt (.live ver z [r']) H h H1) (hr : TextR P N Γ0 A os e H1 K) : TextR P N Γ0 A (⟨none, .store ty0 y x, ty, pos, after, none⟩ :: os) e H K :=
  .op (x := unit) (H1 := H1) (by
    have hrl' := Nat.le_of_ble_eq_true hrl
    simp [stp, ht, hy, hx, hc, ho, hn, hrl', hp, hs.eq]) (by simpa [putE] using hr)
theorem TextR.gstoreF {guard : Option (Nat × Bool)} (hg : wantE A e guard = some true) {ty0 : TypeId} {y x : Operand} {v : AVal} {h ver n z k : Nat} {g : Bool} {cs r r' : List Leaf} (ht : tk P ty0 = some (g, n)) (hy : evO e y = some (.c (.ptr h ver 0 k))) (hx : evO e x = some v) (hc : v.cells = some cs) (ho : obj H h ver = some (z, [r])) (hn : cs.length = n) (hrl : Nat.ble (k + n) r.length = true) (hp : putSeg r k cs = r') (hs : SetAt (.live ver z [r']) H h H1) (hr : TextR P N Γ0 A os e H1 K) : TextR P N Γ0 A (⟨none, .store ty0 y x, ty, pos, after, guard⟩ :: os) e H K :=
  .opG hg (x := unit) (H1 := H1) (by
    have hrl' := Nat.le_of_ble_eq_true hrl
    simp [stp, ht, hy, hx, hc, ho, hn, hrl', hp, hs.eq]) (by simpa [putE] using hr)
theorem TextR.storeE {ty0 : TypeId} {y x : Operand} {v : AVal} {h ver n z i k : Nat} {g : Bool} {cs r : List Leaf} {rows rows' : List (List Leaf)} (ht : tk P ty0 = some (g, n)) (hy : evO e y = some (.c (.ptr h ver i k))) (hx : evO e x = some v) (hc : v.cells = some cs) (ho : obj H h ver = some (z, rows)) (hn : cs.length = n) (hi : rows[i]? = some r) (hrl : k + n ≤ r.length) (hp : rows.set i (putSeg r k cs) = rows') (hs : SetAt (.live ver z rows') H h H1) (hr : TextR P N Γ0 A os e H1 K) : TextR P N Γ0 A (⟨none, .store ty0 y x, ty, pos, after, none⟩ :: os) e H K :=
  .op (x := unit) (H1 := H1) (by
    simp [stp, ht, hy, hx, hc, ho, hn, hi, hrl, hp, hs.eq]) (by simpa [putE] using hr)
theorem TextR.gstoreE {guard : Option (Nat × Bool)} (hg : wantE A e guard = some true) {ty0 : TypeId} {y x : Operand} {v : AVal} {h ver n z i k : Nat} {g : Bool} {cs r : List Leaf} {rows rows' : List (List Leaf)} (ht : tk P ty0 = some (g, n)) (hy : evO e y = some (.c (.ptr h ver i k))) (hx : evO e x = some v) (hc : v.cells = some cs) (ho : obj H h ver = some (z, rows)) (hn : cs.length = n) (hi : rows[i]? = some r) (hrl : k + n ≤ r.length) (hp : rows.set i (putSeg r k cs) = rows') (hs : SetAt (.live ver z rows') H h H1) (hr : TextR P N Γ0 A os e H1 K) : TextR P N Γ0 A (⟨none, .store ty0 y x, ty, pos, after, guard⟩ :: os) e H K :=
  .opG hg (x := unit) (H1 := H1) (by
    simp [stp, ht, hy, hx, hc, ho, hn, hi, hrl, hp, hs.eq]) (by simpa [putE] using hr)
theorem TextR.add {ty0 ty1 : Nat} {y z : Operand} {k : IntKind} {m n s : Int} (hy : evO e y = some (.c (.v (.int k m)))) (hz : evO e z = some (.c (.v (.int k n)))) (hs : k.wrap (m + n) = s) (hr : TextR P N Γ0 A os ((t, .c (.v (.int k s))) :: e) H K) : TextR P N Γ0 A (⟨some t, .binOp .add ty0 y z ty1, ty, pos, after, none⟩ :: os) e H K := .int  hy hz (by simp [intBin, hs]) hr
theorem TextR.gadd {guard : Option (Nat × Bool)} (hg : wantE A e guard = some true) {ty0 ty1 : Nat} {y z : Operand} {k : IntKind} {m n s : Int} (hy : evO e y = some (.c (.v (.int k m)))) (hz : evO e z = some (.c (.v (.int k n)))) (hs : k.wrap (m + n) = s) (hr : TextR P N Γ0 A os ((t, .c (.v (.int k s))) :: e) H K) : TextR P N Γ0 A (⟨some t, .binOp .add ty0 y z ty1, ty, pos, after, guard⟩ :: os) e H K := .gint hg  hy hz (by simp [intBin, hs]) hr
theorem TextR.sub {ty0 ty1 : Nat} {y z : Operand} {k : IntKind} {m n s : Int} (hy : evO e y = some (.c (.v (.int k m)))) (hz : evO e z = some (.c (.v (.int k n)))) (hs : k.wrap (m - n) = s) (hr : TextR P N Γ0 A os ((t, .c (.v (.int k s))) :: e) H K) : TextR P N Γ0 A (⟨some t, .binOp .sub ty0 y z ty1, ty, pos, after, none⟩ :: os) e H K := .int  hy hz (by simp [intBin, hs]) hr
theorem TextR.gsub {guard : Option (Nat × Bool)} (hg : wantE A e guard = some true) {ty0 ty1 : Nat} {y z : Operand} {k : IntKind} {m n s : Int} (hy : evO e y = some (.c (.v (.int k m)))) (hz : evO e z = some (.c (.v (.int k n)))) (hs : k.wrap (m - n) = s) (hr : TextR P N Γ0 A os ((t, .c (.v (.int k s))) :: e) H K) : TextR P N Γ0 A (⟨some t, .binOp .sub ty0 y z ty1, ty, pos, after, guard⟩ :: os) e H K := .gint hg  hy hz (by simp [intBin, hs]) hr
theorem TextR.indexM {α : Type} {ts : TypeId} {y z : Operand} {el size i : Nat} {rest : Nat × List Leaf} {l : Leaf} {k : IntKind} {xs : List α} {x : α} {f : α → List Leaf} (ht : se P ts = some (el, size, rest)) (hy : evO e y = some (.c l)) (hz : evO e z = some (.c (.v (.int k (i : Int))))) (hl : asF l = some (xs.map f)) (hi : xs[i]? = some x) (hs : (f x).length = size) (hr : TextR P N Γ0 A os ((t, .c (.fptr (xs.map f) i 0)) :: e) H K) : TextR P N Γ0 A (⟨some t, .indexAddr ts y z, ty, pos, after, none⟩ :: os) e H K :=
  .indexF ht  hy hz hl (by omega) (by simp [hi]) hs hr
theorem TextR.gindexM {guard : Option (Nat × Bool)} (hg : wantE A e guard = some true) {α : Type} {ts : TypeId} {y z : Operand} {el size i : Nat} {rest : Nat × List Leaf} {l : Leaf} {k : IntKind} {xs : List α} {x : α} {f : α → List Leaf} (ht : se P ts = some (el, size, rest)) (hy : evO e y = some (.c l)) (hz : evO e z = some (.c (.v (.int k (i : Int))))) (hl : asF l = some (xs.map f)) (hi : xs[i]? = some x) (hs : (f x).length = size) (hr : TextR P N Γ0 A os ((t, .c (.fptr (xs.map f) i 0)) :: e) H K) : TextR P N Γ0 A (⟨some t, .indexAddr ts y z, ty, pos, after, guard⟩ :: os) e H K :=
  .gindexF hg ht  hy hz hl (by omega) (by simp [hi]) hs hr
theorem TextR.loadNM {α : Type} {ty0 n i : Nat} {y : Operand} {xs : List α} {x : α} {f : α → List Leaf} (ht : tk P ty0 = some (true, n)) (hy : evO e y = some (.c (.fptr (xs.map f) i 0))) (hi : xs[i]? = some x) (hs : (f x).length = n) (hr : TextR P N Γ0 A os ((t, .agg (f x)) :: e) H K) : TextR P N Γ0 A (⟨some t, .load ty0 y, ty, pos, after, none⟩ :: os) e H K :=
  .loadN ht  hy (by simp [ldN, hi, seg, ← hs]) hr
theorem TextR.gloadNM {guard : Option (Nat × Bool)} (hg : wantE A e guard = some true) {α : Type} {ty0 n i : Nat} {y : Operand} {xs : List α} {x : α} {f : α → List Leaf} (ht : tk P ty0 = some (true, n)) (hy : evO e y = some (.c (.fptr (xs.map f) i 0))) (hi : xs[i]? = some x) (hs : (f x).length = n) (hr : TextR P N Γ0 A os ((t, .agg (f x)) :: e) H K) : TextR P N Γ0 A (⟨some t, .load ty0 y, ty, pos, after, guard⟩ :: os) e H K :=
  .gloadN hg ht  hy (by simp [ldN, hi, seg, ← hs]) hr
theorem TextR.load1M {α : Type} {ty0 n i k : Nat} {y : Operand} {xs : List α} {x : α} {f : α → List Leaf} {l : Leaf} (ht : tk P ty0 = some (false, n)) (hy : evO e y = some (.c (.fptr (xs.map f) i k))) (hi : xs[i]? = some x) (hs : (f x)[k]? = some l) (hr : TextR P N Γ0 A os ((t, .c l) :: e) H K) : TextR P N Γ0 A (⟨some t, .load ty0 y, ty, pos, after, none⟩ :: os) e H K :=
  .load1 ht  hy (by simp [ld1, hi, hs]) hr
theorem TextR.gload1M {guard : Option (Nat × Bool)} (hg : wantE A e guard = some true) {α : Type} {ty0 n i k : Nat} {y : Operand} {xs : List α} {x : α} {f : α → List Leaf} {l : Leaf} (ht : tk P ty0 = some (false, n)) (hy : evO e y = some (.c (.fptr (xs.map f) i k))) (hi : xs[i]? = some x) (hs : (f x)[k]? = some l) (hr : TextR P N Γ0 A os ((t, .c l) :: e) H K) : TextR P N Γ0 A (⟨some t, .load ty0 y, ty, pos, after, guard⟩ :: os) e H K :=
  .gload1 hg ht  hy (by simp [ld1, hi, hs]) hr
theorem TextR.loadSM {α : Type} {ty0 n i k : Nat} {y : Operand} {xs : List α} {x : α} {f : α → List Leaf} {cs : List Leaf} (ht : tk P ty0 = some (true, n)) (hy : evO e y = some (.c (.fptr (xs.map f) i k))) (hi : xs[i]? = some x) (hs : Nat.ble (k + n) (f x).length = true) (hc : seg (f x) k n = cs) (hr : TextR P N Γ0 A os ((t, .agg cs) :: e) H K) : TextR P N Γ0 A (⟨some t, .load ty0 y, ty, pos, after, none⟩ :: os) e H K :=
  .loadN ht  hy (by have := Nat.le_of_ble_eq_true hs; simp [ldN, hi, this, hc]) hr
theorem TextR.gloadSM {guard : Option (Nat × Bool)} (hg : wantE A e guard = some true) {α : Type} {ty0 n i k : Nat} {y : Operand} {xs : List α} {x : α} {f : α → List Leaf} {cs : List Leaf} (ht : tk P ty0 = some (true, n)) (hy : evO e y = some (.c (.fptr (xs.map f) i k))) (hi : xs[i]? = some x) (hs : Nat.ble (k + n) (f x).length = true) (hc : seg (f x) k n = cs) (hr : TextR P N Γ0 A os ((t, .agg cs) :: e) H K) : TextR P N Γ0 A (⟨some t, .load ty0 y, ty, pos, after, guard⟩ :: os) e H K :=
  .gloadN hg ht  hy (by have := Nat.le_of_ble_eq_true hs; simp [ldN, hi, this, hc]) hr
theorem TextR.lenM {α : Type} {el : TypeId} {y : Operand} {ts : TypeId} {l : Leaf} {xs : List α} {f : α → List Leaf} (ht : P.underlying ts = some (.slice el)) (hy : evO e y = some (.c l)) (hl : asF l = some (xs.map f)) (hr : TextR P N Γ0 A os ((t, .c (I (xs.length : Int))) :: e) H K) : TextR P N Γ0 A (⟨some t, .call { callee := .builtin .len, args := #[y], argTypes := #[ts] }, ty, pos, after, none⟩ :: os) e H K :=
  .len ht  hy (by
    unfold asF at hl
    split at hl <;> cases hl <;> simp [lenL]) hr
theorem TextR.glenM {guard : Option (Nat × Bool)} (hg : wantE A e guard = some true) {α : Type} {el : TypeId} {y : Operand} {ts : TypeId} {l : Leaf} {xs : List α} {f : α → List Leaf} (ht : P.underlying ts = some (.slice el)) (hy : evO e y = some (.c l)) (hl : asF l = some (xs.map f)) (hr : TextR P N Γ0 A os ((t, .c (I (xs.length : Int))) :: e) H K) : TextR P N Γ0 A (⟨some t, .call { callee := .builtin .len, args := #[y], argTypes := #[ts] }, ty, pos, after, guard⟩ :: os) e H K :=
  .glen hg ht  hy (by
    unfold asF at hl
    split at hl <;> cases hl <;> simp [lenL]) hr
end
end Go.Nx
