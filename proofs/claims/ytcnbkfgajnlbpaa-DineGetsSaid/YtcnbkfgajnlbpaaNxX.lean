/- Frozen slices as mapped lists; what is handed back. -/
import Derived.Test.YtcnbkfgajnlbpaaNxW
namespace Go.Nx
set_option linter.unusedVariables false
set_option linter.unusedSimpArgs false

section
variable {P : Program} {W : Option (List Nat)} {os : List Oper} {gs : List (List (Nat × Bool))} {ex : List Bool} {e : Env} {H H1 : List Ob} {ty : TypeId} {pos : String} {after : Array Edge} {guard : Option (Nat × Bool)} {b : Bool} {t : Nat} {K : Env → List Ob → Prop}

theorem RunR.indexM {α : Type} {ts : TypeId} {y z : Operand} {el size i : Nat} {rest : Nat × List Leaf} {l : Leaf} {k : IntKind} {xs : List α} {x : α} {f : α → List Leaf} (ht : se P ts = some (el, size, rest)) (ha : actE e (gs.headD []) = some b) (hw : wOk W (ex.headD false) e H (.indexAddr ts y z) = true) (hy : evO e y = some (.c l)) (hz : evO e z = some (.c (.v (.int k (i : Int)))))
    (hl : asF l = some (xs.map f)) (hi : xs[i]? = some x) (hs : (f x).length = size)
    (hr : RunR P W os gs.tail ex.tail ((t, .c (.fptr (xs.map f) i 0)) :: e) H K) : RunR P W (⟨some t, .indexAddr ts y z, ty, pos, after, guard⟩ :: os) gs ex e H K :=
  .indexF ht ha hw hy hz hl (by omega) (by simp [hi]) hs hr
theorem RunR.loadNM {α : Type} {ty0 n i : Nat} {y : Operand} {xs : List α} {x : α} {f : α → List Leaf} (ht : tk P ty0 = some (true, n)) (ha : actE e (gs.headD []) = some b) (hw : wOk W (ex.headD false) e H (.load ty0 y) = true) (hy : evO e y = some (.c (.fptr (xs.map f) i 0))) (hi : xs[i]? = some x) (hs : (f x).length = n)
    (hr : RunR P W os gs.tail ex.tail ((t, .agg (f x)) :: e) H K) : RunR P W (⟨some t, .load ty0 y, ty, pos, after, guard⟩ :: os) gs ex e H K :=
  .loadN ht ha hw hy (by simp [ldN, hi, seg, ← hs]) hr
theorem RunR.load1M {α : Type} {ty0 n i k : Nat} {y : Operand} {xs : List α} {x : α} {f : α → List Leaf} {l : Leaf} (ht : tk P ty0 = some (false, n)) (ha : actE e (gs.headD []) = some b) (hw : wOk W (ex.headD false) e H (.load ty0 y) = true) (hy : evO e y = some (.c (.fptr (xs.map f) i k))) (hi : xs[i]? = some x) (hs : (f x)[k]? = some l)
    (hr : RunR P W os gs.tail ex.tail ((t, .c l) :: e) H K) : RunR P W (⟨some t, .load ty0 y, ty, pos, after, guard⟩ :: os) gs ex e H K :=
  .load1 ht ha hw hy (by simp [ld1, hi, hs]) hr
theorem RunR.loadSM {α : Type} {ty0 n i k : Nat} {y : Operand} {xs : List α} {x : α} {f : α → List Leaf} {cs : List Leaf} (ht : tk P ty0 = some (true, n)) (ha : actE e (gs.headD []) = some b) (hw : wOk W (ex.headD false) e H (.load ty0 y) = true) (hy : evO e y = some (.c (.fptr (xs.map f) i k))) (hi : xs[i]? = some x) (hs : Nat.ble (k + n) (f x).length = true) (hc : seg (f x) k n = cs)
    (hr : RunR P W os gs.tail ex.tail ((t, .agg cs) :: e) H K) : RunR P W (⟨some t, .load ty0 y, ty, pos, after, guard⟩ :: os) gs ex e H K :=
  .loadN ht ha hw hy (by have := Nat.le_of_ble_eq_true hs; simp [ldN, hi, this, hc]) hr
theorem RunR.lenM {α : Type} {el : TypeId} {y : Operand} {ts : TypeId} {l : Leaf} {xs : List α} {f : α → List Leaf} (ht : P.underlying ts = some (.slice el)) (ha : actE e (gs.headD []) = some b) (hw : wOk W (ex.headD false) e H (.call { callee := .builtin .len, args := #[y], argTypes := #[ts] }) = true) (hy : evO e y = some (.c l)) (hl : asF l = some (xs.map f))
    (hr : RunR P W os gs.tail ex.tail ((t, .c (I (xs.length : Int))) :: e) H K) : RunR P W (⟨some t, .call { callee := .builtin .len, args := #[y], argTypes := #[ts] }, ty, pos, after, guard⟩ :: os) gs ex e H K :=
  .len ht ha hw hy (by
    unfold asF at hl
    split at hl <;> cases hl <;> simp [lenL]) hr
end

theorem resV_tmp {P : Program} {S : St} {t : Nat} {x : AVal} (h : S.env.get t = some x) : resV P S (.tmp t) = some x := h
theorem resV_cellN {P : Program} {S : St} {t ty n : Nat} {p : Leaf} {cs : List Leaf} (ht : tk P ty = some (true, n)) (hp : S.env.get t = some (.c p)) (hl : ldN S.heap n p = some cs) : resV P S (.cell t ty) = some (.agg cs) := by simp [resV, ht, hp, hl]
theorem resV_cell1 {P : Program} {S : St} {t ty n : Nat} {p l : Leaf} (ht : tk P ty = some (false, n)) (hp : S.env.get t = some (.c p)) (hl : ld1 S.heap p = some l) : resV P S (.cell t ty) = some (.c l) := by simp [resV, ht, hp, hl]
theorem Ret.zero {P : Program} {fn : Func} {K : AVal → List Ob → Prop} {S : St} (hr : fn.results.toList = []) (hk : K (.tup []) S.heap) : Ret P fn K .ret S := ⟨_, by rw [hr]; rfl, hk⟩
theorem Ret.one {P : Program} {fn : Func} {K : AVal → List Ob → Prop} {S : St} {r : ResultVar} {x : AVal} (hr : fn.results.toList = [r]) (h1 : resV P S r = some x) (hk : K x S.heap) : Ret P fn K .ret S := ⟨x, by rw [hr]; simp [retV, h1], hk⟩
theorem Ret.two {P : Program} {fn : Func} {K : AVal → List Ob → Prop} {S : St} {r r2 : ResultVar} {x x2 : AVal} (hr : fn.results.toList = [r, r2]) (h1 : resV P S r = some x) (h2 : resV P S r2 = some x2) (hk : K (.tup [x, x2]) S.heap) : Ret P fn K .ret S := ⟨.tup [x, x2], by rw [hr]; simp [retV, h1, h2], hk⟩
theorem Ret.three {P : Program} {fn : Func} {K : AVal → List Ob → Prop} {S : St} {r r2 r3 : ResultVar} {x x2 x3 : AVal} (hr : fn.results.toList = [r, r2, r3]) (h1 : resV P S r = some x) (h2 : resV P S r2 = some x2) (h3 : resV P S r3 = some x3) (hk : K (.tup [x, x2, x3]) S.heap) : Ret P fn K .ret S := ⟨.tup [x, x2, x3], by rw [hr]; simp [retV, h1, h2, h3], hk⟩

end Go.Nx
