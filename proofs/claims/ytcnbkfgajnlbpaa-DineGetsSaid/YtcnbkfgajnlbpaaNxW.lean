/- Rules for what makes or writes objects. -/
import Derived.Test.YtcnbkfgajnlbpaaNxV
namespace Go.Nx
set_option linter.unusedVariables false
set_option linter.unusedSimpArgs false

/-- One more at the end. -/
inductive Snoc {α : Type} (x : α) : List α → List α → Prop
  | nil : Snoc x [] [x]
  | cons {a : α} {l r : List α} : Snoc x l r → Snoc x (a :: l) (a :: r)
theorem Snoc.eq {α : Type} {x : α} {l r : List α} (h : Snoc x l r) : l ++ [x] = r := by
  induction h with
  | nil => rfl
  | cons _ ih => simp [ih]
/-- One changed. -/
inductive SetAt {α : Type} (x : α) : List α → Nat → List α → Prop
  | zero {a : α} {l : List α} : SetAt x (a :: l) 0 (x :: l)
  | succ {a : α} {l r : List α} {n : Nat} : SetAt x l n r → SetAt x (a :: l) (n + 1) (a :: r)
theorem SetAt.eq {α : Type} {x : α} {l r : List α} {n : Nat} (h : SetAt x l n r) : l.set n x = r := by
  induction h with
  | zero => rfl
  | succ _ ih => simp [ih]

section
variable {P : Program} {W : Option (List Nat)} {os : List Oper} {gs : List (List (Nat × Bool))} {ex : List Bool} {e : Env} {H H1 : List Ob} {ty : TypeId} {pos : String} {after : Array Edge} {guard : Option (Nat × Bool)} {b : Bool} {t : Nat} {K : Env → List Ob → Prop}

theorem RunR.alloc {ty0 : TypeId} {z : Leaf} {zs : List Leaf} (h : Nat) {m : Nat} (hz : zc P ty0 = some (z :: zs)) (ha : actE e (gs.headD []) = some true) (hw : wOk W (ex.headD false) e H (.alloc ty0) = true) (hh : H.length = h) (hm : zs.length + 1 = m)
    (hs : Snoc (.live 0 m [z :: zs]) H H1) (hr : RunR P W os gs.tail ex.tail ((t, .c (.ptr h 0 0 0)) :: e) H1 K) : RunR P W (⟨some t, .alloc ty0, ty, pos, after, guard⟩ :: os) gs ex e H K :=
  .fix rfl ha hw (x := .c (.ptr h 0 0 0)) (H1 := H1) (by simp [stp, hz, hh, hm, hs.eq]) hr

theorem RunR.box {ty0 : TypeId} {y : Operand} {v : AVal} {cs : List Leaf} (h : Nat) {m : Nat} (ha : actE e (gs.headD []) = some true) (hw : wOk W (ex.headD false) e H (.box ty0 y) = true) (hy : evO e y = some v) (hc : v.cells = some cs) (hh : H.length = h) (hm : cs.length = m + 1)
    (hs : Snoc (.live 0 (m + 1) [cs]) H H1) (hr : RunR P W os gs.tail ex.tail ((t, .c (.ptr h 0 0 0)) :: e) H1 K) : RunR P W (⟨some t, .box ty0 y, ty, pos, after, guard⟩ :: os) gs ex e H K :=
  .fix rfl ha hw (x := .c (.ptr h 0 0 0)) (H1 := H1) (by
    cases cs with
    | nil => simp at hm
    | cons z zs =>
      have hm' : zs.length = m := by simpa using hm
      simp [stp, hy, hc, hh, hm', hs.eq]) hr

theorem RunR.build {ty0 : TypeId} {ps : Array (Nat × Operand)} {z cs : List Leaf} {places : List (Nat × Nat)} (hz : cm P ty0 = some (z, places)) (ha : actE e (gs.headD []) = some b) (hw : wOk W (ex.headD false) e H (.build ty0 ps) = true) (hl : fillL places z (ps.toList.map fun (i, x) => (i, evO e x)) = some cs)
    (hr : RunR P W os gs.tail ex.tail ((t, .agg cs) :: e) H K) : RunR P W (⟨some t, .build ty0 ps, ty, pos, after, guard⟩ :: os) gs ex e H K :=
  .mob rfl rfl ha hw (by simp [stp, hz, hl]) hr

theorem RunR.buildSlice {ty0 : TypeId} {n size by' : Nat} {el : TypeId} {ps : Array (Nat × Operand)} {z : List Leaf} {rows : List (List Leaf)} (h : Nat) (hz : se P ty0 = some (el, size, by', z)) (ha : actE e (gs.headD []) = some true) (hw : wOk W (ex.headD false) e H (.buildSlice ty0 n ps) = true) (hh : H.length = h)
    (hc : (Nat.blt 0 size && Nat.ble (n * size) 16777216 && Nat.beq z.length size && Nat.ble n maxLen) = true) (hl : rowsL size (List.replicate n z) (ps.toList.map fun (i, x) => (i, evO e x)) = some rows)
    (hs : Snoc (.live 0 size rows) H H1) (hr : RunR P W os gs.tail ex.tail ((t, .c (.sl h 0 0 n)) :: e) H1 K) : RunR P W (⟨some t, .buildSlice ty0 n ps, ty, pos, after, guard⟩ :: os) gs ex e H K :=
  .fix rfl ha hw (x := .c (.sl h 0 0 n)) (H1 := H1) (by
    simp only [Bool.and_eq_true, Nat.blt_eq, Nat.ble_eq, Nat.beq_eq] at hc
    have hc' : 0 < size ∧ n * size ≤ 16777216 ∧ z.length = size ∧ n ≤ maxLen := ⟨hc.1.1.1, hc.1.1.2, hc.1.2, hc.2⟩
    simp [stp, hz, hh, hc', hl, hs.eq]) hr

theorem RunR.makeSlice {ty0 : TypeId} {size by' n : Nat} {el : TypeId} {l c : Operand} {k k' : IntKind} {z : List Leaf} (h : Nat) (hz : se P ty0 = some (el, size, by', z)) (ha : actE e (gs.headD []) = some true) (hw : wOk W (ex.headD false) e H (.makeSlice ty0 l c) = true) (hh : H.length = h)
    (hl : evO e l = some (.c (.v (.int k (n : Int))))) (hc : evO e c = some (.c (.v (.int k' (n : Int)))))
    (hz1 : (Nat.blt 0 size && Nat.beq z.length size) = true) (hb : (by' : Int) * n ≤ 281474976710656) (hn : n ≤ maxLen)
    (hs : Snoc (.live 0 size (List.replicate n z)) H H1) (hr : RunR P W os gs.tail ex.tail ((t, .c (.sl h 0 0 n)) :: e) H1 K) : RunR P W (⟨some t, .makeSlice ty0 l c, ty, pos, after, guard⟩ :: os) gs ex e H K :=
  .fix rfl ha hw (x := .c (.sl h 0 0 n)) (H1 := H1) (by
    simp only [Bool.and_eq_true, Nat.blt_eq, Nat.beq_eq] at hz1
    have hc' : 0 < size ∧ z.length = size ∧ (0 : Int) ≤ n ∧ (n : Int) = n ∧ (by' : Int) * n ≤ 281474976710656 ∧ (n : Int) ≤ maxLen := ⟨hz1.1, hz1.2, by omega, rfl, hb, by omega⟩
    simp [stp, hz, hl, hc, hh, hc', hs.eq]) hr

/-- A whole object of one row written. -/
theorem RunR.store1 {ty0 : TypeId} {y x : Operand} {v : AVal} {h ver n z : Nat} {g : Bool} {cs r : List Leaf} (ht : tk P ty0 = some (g, n)) (ha : actE e (gs.headD []) = some true) (hw : wOk W (ex.headD false) e H (.store ty0 y x) = true) (hy : evO e y = some (.c (.ptr h ver 0 0))) (hx : evO e x = some v) (hc : v.cells = some cs)
    (ho : obj H h ver = some (z, [r])) (hn : cs.length = n) (hrl : r.length = n)
    (hs : SetAt (.live ver z [cs]) H h H1) (hr : RunR P W os gs.tail ex.tail e H1 K) : RunR P W (⟨none, .store ty0 y x, ty, pos, after, guard⟩ :: os) gs ex e H K :=
  .fix rfl ha hw (x := unit) (H1 := H1) (by
    have hp : ∀ (r cs : List Leaf) (k : Nat) (p : List Leaf), p.length = k → r.length = cs.length → putSeg (p ++ r) k cs = p ++ cs := by
      intro r cs
      induction cs generalizing r with
      | nil => intro k p _ h; simp at h; simp [putSeg, h]
      | cons c cs ih =>
        intro k p hk h
        cases r with
        | nil => simp at h
        | cons a r =>
          simp only [putSeg]
          have hset : (p ++ a :: r).set k c = (p ++ [c]) ++ r := by
            subst hk
            simp [List.set_append_right]
          rw [hset, ih r (k + 1) (p ++ [c]) (by simp [hk]) (by simpa using h)]
          simp
    have hp' := hp r cs 0 [] rfl (by omega)
    simp only [List.nil_append] at hp'
    simp [stp, ht, hy, hx, hc, ho, hn, hrl, hp', hs.eq]) (by simpa [putE] using hr)

/-- A field of an object of one row written. -/
theorem RunR.storeF {ty0 : TypeId} {y x : Operand} {v : AVal} {h ver n z k : Nat} {g : Bool} {cs r r' : List Leaf} (ht : tk P ty0 = some (g, n)) (ha : actE e (gs.headD []) = some true) (hw : wOk W (ex.headD false) e H (.store ty0 y x) = true) (hy : evO e y = some (.c (.ptr h ver 0 k))) (hx : evO e x = some v) (hc : v.cells = some cs)
    (ho : obj H h ver = some (z, [r])) (hn : cs.length = n) (hrl : Nat.ble (k + n) r.length = true) (hp : putSeg r k cs = r')
    (hs : SetAt (.live ver z [r']) H h H1) (hr : RunR P W os gs.tail ex.tail e H1 K) : RunR P W (⟨none, .store ty0 y x, ty, pos, after, guard⟩ :: os) gs ex e H K :=
  .fix rfl ha hw (x := unit) (H1 := H1) (by
    have hrl' := Nat.le_of_ble_eq_true hrl
    simp [stp, ht, hy, hx, hc, ho, hn, hrl', hp, hs.eq]) (by simpa [putE] using hr)

/-- A cell of an element of an own array written; or the element whole. -/
theorem RunR.storeE {ty0 : TypeId} {y x : Operand} {v : AVal} {h ver n z i k : Nat} {g : Bool} {cs r : List Leaf} {rows rows' : List (List Leaf)} (ht : tk P ty0 = some (g, n)) (ha : actE e (gs.headD []) = some true) (hw : wOk W (ex.headD false) e H (.store ty0 y x) = true) (hy : evO e y = some (.c (.ptr h ver i k))) (hx : evO e x = some v) (hc : v.cells = some cs)
    (ho : obj H h ver = some (z, rows)) (hn : cs.length = n) (hi : rows[i]? = some r) (hrl : k + n ≤ r.length) (hp : rows.set i (putSeg r k cs) = rows')
    (hs : SetAt (.live ver z rows') H h H1) (hr : RunR P W os gs.tail ex.tail e H1 K) : RunR P W (⟨none, .store ty0 y x, ty, pos, after, guard⟩ :: os) gs ex e H K :=
  .fix rfl ha hw (x := unit) (H1 := H1) (by
    simp [stp, ht, hy, hx, hc, ho, hn, hi, hrl, hp, hs.eq]) (by simpa [putE] using hr)

/-- A sum that stays within its kind. -/
theorem RunR.add {ty0 ty1 : Nat} {y z : Operand} {k : IntKind} {m n s : Int} (ha : actE e (gs.headD []) = some b) (hw : wOk W (ex.headD false) e H (.binOp .add ty0 y z ty1) = true) (hy : evO e y = some (.c (.v (.int k m)))) (hz : evO e z = some (.c (.v (.int k n)))) (hs : k.wrap (m + n) = s)
    (hr : RunR P W os gs.tail ex.tail ((t, .c (.v (.int k s))) :: e) H K) : RunR P W (⟨some t, .binOp .add ty0 y z ty1, ty, pos, after, guard⟩ :: os) gs ex e H K := .int ha hw hy hz (by simp [intBin, hs]) hr
theorem RunR.sub {ty0 ty1 : Nat} {y z : Operand} {k : IntKind} {m n s : Int} (ha : actE e (gs.headD []) = some b) (hw : wOk W (ex.headD false) e H (.binOp .sub ty0 y z ty1) = true) (hy : evO e y = some (.c (.v (.int k m)))) (hz : evO e z = some (.c (.v (.int k n)))) (hs : k.wrap (m - n) = s)
    (hr : RunR P W os gs.tail ex.tail ((t, .c (.v (.int k s))) :: e) H K) : RunR P W (⟨some t, .binOp .sub ty0 y z ty1, ty, pos, after, guard⟩ :: os) gs ex e H K := .int ha hw hy hz (by simp [intBin, hs]) hr
end

theorem wrap_i64 {n : Int} (h1 : -9223372036854775808 ≤ n) (h2 : n < 9223372036854775808) : IntKind.i64.wrap n = n := by
  have hb : (2 : Int) ^ IntKind.i64.bits = 18446744073709551616 := rfl
  have hm := Int.emod_nonneg n (b := 18446744073709551616) (by decide)
  unfold IntKind.wrap
  have hb2 : (2 : Int) ^ (IntKind.i64.bits - 1) = 9223372036854775808 := rfl
  have hs : IntKind.i64.signed = true := rfl
  simp only [hb, hb2, hs, Bool.true_and, decide_eq_true_eq]
  split <;> omega
end Go.Nx
