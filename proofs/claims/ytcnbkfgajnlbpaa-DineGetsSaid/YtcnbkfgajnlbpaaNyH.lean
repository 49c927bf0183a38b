/- Rules for walks that go along a model: what the model says is carried as 'h : model = some r'. -/
import Derived.Test.YtcnbkfgajnlbpaaNyG
namespace Go.Nx
set_option linter.unusedVariables false
set_option linter.unusedSimpArgs false

/-! Words of the models. -/
abbrev w64 (n : Int) : Int := IntKind.i64.wrap n
def at? {α : Type} (xs : List α) (i : Int) : Option α := if 0 ≤ i then xs[i.toNat]? else none
def set? {α : Type} (xs : List α) (i : Int) (x : α) : List α := xs.set i.toNat x
def sub? {α : Type} (xs : List α) (lo hi : Int) : Option (List α) := if 0 ≤ lo ∧ lo ≤ hi ∧ hi ≤ (xs.length : Int) then some ((xs.take hi.toNat).drop lo.toNat) else none
def app? {α : Type} (xs ys : List α) : Option (List α) := if xs.length + ys.length ≤ 10000000000 then some (xs ++ ys) else none
def mk? {α : Type} (n : Int) (z : α) : Option (List α) := if 0 ≤ n ∧ n ≤ 10000000000 then some (List.replicate n.toNat z) else none

theorem bind_some {α β : Type} {o : Option α} {f : α → Option β} {r : β} (h : Option.bind o f = some r) : ∃ x, o = some x ∧ f x = some r := by
  cases o with
  | none => cases h
  | some x => exact ⟨x, rfl, h⟩
theorem at_get {α : Type} {xs : List α} {i : Int} {x : α} (h : at? xs i = some x) : xs[i.toNat]? = some x := by
  unfold at? at h
  split at h
  · exact h
  · cases h
theorem at_pos {α : Type} {xs : List α} {i : Int} {x : α} (h : at? xs i = some x) : 0 ≤ i := by
  unfold at? at h
  split at h
  · assumption
  · cases h
theorem at_set {α : Type} {xs : List α} {i : Nat} {x y : α} (h : xs[i]? = some x) : (xs.set i y)[i]? = some y := by
  have := (List.getElem?_eq_some_iff.1 h).1
  simp [this]
theorem ifT {α : Type} {g : Bool} {b : Bool} {o : Option α} {d x : α} (h : (if g = true then o else some d) = some x) (hg : b = true → g = true) : b = true → o = some x := fun hb => by
  rw [if_pos (hg hb)] at h
  exact h
theorem ifAt {α : Type} {g : Bool} {b : Bool} {xs : List α} {i : Int} {d x : α} (h : (if g = true then at? xs i else some d) = some x) (hg : b = true → g = true) : b = true → xs[i.toNat]? = some x := fun hb => at_get (ifT h hg hb)
theorem ifPos {α : Type} {g : Bool} {b : Bool} {xs : List α} {i : Int} {d x : α} (h : (if g = true then at? xs i else some d) = some x) (hg : b = true → g = true) : b = true → 0 ≤ i := fun hb => at_pos (ifT h hg hb)
/-- The innermost guard. -/
theorem gT {v c : Bool} : ((v == true) && c) = true → v = true := by cases v <;> simp
theorem gF {v c : Bool} : ((v == false) && c) = true → (!v) = true := by cases v <;> simp

section
variable {F : Fr} {Q : Exit → St → Prop} {S : St}

theorem Wp.condM {α : Type} {t : Nat} {x y : Code} {b : Bool} {A B : Option α} {r : α} (h : (if b = true then A else B) = some r) (hb : S.env.get t = some (.c (.v (.bool b)))) (ht : b = true → A = some r → Wp F x Q S) (hf : b = false → B = some r → Wp F y Q S) : Wp F (.cond (.tmp t) x y) Q S :=
  .cond hb (fun hc => ht hc (by rw [if_pos hc] at h; exact h)) (fun hc => hf hc (by rw [if_neg (by simp [hc])] at h; exact h))
abbrev Exit.frN (I : St → Prop) : Exit → St → Prop
  | .normal, S => I S
  | _, _ => False
abbrev Exit.frR (I J : St → Prop) : Exit → St → Prop
  | .normal, S => I S
  | .ret, S => J S
  | _, _ => False
abbrev Exit.frX (I J : St → Prop) (X : Nat → St → Prop) : Exit → St → Prop
  | .normal, S => I S
  | .ret, S => J S
  | .exit k, S => X k S
  | _, _ => False
/-- A piece after which one goes on behind it. -/
theorem Wp.fragN {c : Code} (I : St → Prop) (h1 : Wp F c (Exit.frN I) S) (h2 : ∀ S', I S' → Q .normal S') : Wp F c Q S :=
  .mono h1 fun e S' h => by cases e <;> first | exact h2 _ h | exact h.elim
/-- A piece after which one goes on, or has done. -/
theorem Wp.fragR {c : Code} (I J : St → Prop) (h1 : Wp F c (Exit.frR I J) S) (h2 : ∀ S', I S' → Q .normal S') (h3 : ∀ S', J S' → Q .ret S') : Wp F c Q S :=
  .mono h1 fun e S' h => by cases e <;> first | exact h2 _ h | exact h3 _ h | exact h.elim
/-- .. or leaves a block. -/
theorem Wp.fragX {c : Code} (I J : St → Prop) (X : Nat → St → Prop) (h1 : Wp F c (Exit.frX I J X) S) (h2 : ∀ S', I S' → Q .normal S') (h3 : ∀ S', J S' → Q .ret S') (h4 : ∀ k S', X k S' → Q (.exit k) S') : Wp F c Q S :=
  .mono h1 fun e S' h => by cases e <;> first | exact h2 _ h | exact h3 _ h | exact h4 _ _ h | exact h.elim
theorem Wp.eqS {c : Code} {S' : St} (he : S = S') (h : Wp F c Q S') : Wp F c Q S := by rw [he]; exact h
/-- What cannot be. -/
theorem Wp.absurdM {c : Code} {α : Type} {r : α} (h : (none : Option α) = some r) : Wp F c Q S := by cases h

end

section
variable {P : Program} {W : Option (List Nat)} {os : List Oper} {gs : List (List (Nat × Bool))} {ex : List Bool} {e : Env} {H H1 : List Ob} {ty : TypeId} {pos : String} {after : Array Edge} {guard : Option (Nat × Bool)} {b : Bool} {t : Nat} {K : Env → List Ob → Prop}

/-- What need be right only where it is wanted. -/
theorem RunR.mobG {op : Op} {x : AVal} (hf : fixed op = false) (hc : isCall op = false) (ha : actE e (gs.headD []) = some b) (hw : wOk W (ex.headD false) e H op = true) (hs : b = true → stp P e H op = some (x, H)) (hr : RunR P W os gs.tail ex.tail ((t, x) :: e) H K) : RunR P W (⟨some t, op, ty, pos, after, guard⟩ :: os) gs ex e H K := by
  obtain ⟨e', H', h1, h2⟩ := hr
  refine ⟨e', H', .cons (b := b) (x := x) (H1 := H) ⟨ha, ?_⟩ h1, h2⟩
  cases b with
  | false => exact .inl ⟨rfl, rfl⟩
  | true => exact .inr (.inr ⟨hc, hw, by simp [gE, hs rfl]⟩)

theorem RunR.indexA {α : Type} {ts : TypeId} {y z : Operand} {el size : Nat} {rest : Nat × List Leaf} {l : Leaf} {k : IntKind} {n : Int} {xs : List α} {x : α} {f : α → List Leaf} (ht : se P ts = some (el, size, rest)) (ha : actE e (gs.headD []) = some b) (hw : wOk W (ex.headD false) e H (.indexAddr ts y z) = true) (hy : evO e y = some (.c l)) (hz : evO e z = some (.c (.v (.int k n))))
    (hl : asF l = some (xs.map f)) (hi : at? xs n = some x) (hs : (f x).length = size)
    (hr : RunR P W os gs.tail ex.tail ((t, .c (.fptr (xs.map f) n.toNat 0)) :: e) H K) : RunR P W (⟨some t, .indexAddr ts y z, ty, pos, after, guard⟩ :: os) gs ex e H K :=
  .indexF ht ha hw hy hz hl (at_pos hi) (by simp [at_get hi]) hs hr

theorem stp_indexF {ts : TypeId} {y z : Operand} {el size : Nat} {rest : Nat × List Leaf} {l : Leaf} {k : IntKind} {n : Int} {rows : List (List Leaf)} {r : List Leaf} (ht : se P ts = some (el, size, rest)) (hy : evO e y = some (.c l)) (hz : evO e z = some (.c (.v (.int k n))))
    (hl : asF l = some rows) (hn : 0 ≤ n) (hi : rows[n.toNat]? = some r) (hs : r.length = size) : stp P e H (.indexAddr ts y z) = some (.c (.fptr rows n.toNat 0), H) := by
  have hlt : n.toNat < rows.length := (List.getElem?_eq_some_iff.1 hi).1
  have hb : 0 ≤ n ∧ n < (rows.length : Int) := ⟨hn, by omega⟩
  have hv : view H l = some rows ∧ indexAddrV P H ts l n = (match se P ts, view H l with
    | some (_, size, _), some rows => if 0 ≤ n ∧ n < rows.length then match rows[n.toNat]? with
        | some r => if r.length = size then some (.fptr rows n.toNat 0) else none
        | none => none
      else none
    | _, _ => none) := by
    cases l <;> simp [asF] at hl <;> subst hl <;> exact ⟨rfl, rfl⟩
  simp only [stp, hy, hz, hv.2, hv.1, ht]
  rw [if_pos hb]
  simp only [hi]
  rw [if_pos hs]
  rfl

theorem RunR.indexAG {α : Type} {ts : TypeId} {y z : Operand} {el size : Nat} {rest : Nat × List Leaf} {l : Leaf} {k : IntKind} {n : Int} {xs : List α} {x : α} {f : α → List Leaf} (ht : se P ts = some (el, size, rest)) (ha : actE e (gs.headD []) = some b) (hw : wOk W (ex.headD false) e H (.indexAddr ts y z) = true) (hy : evO e y = some (.c l)) (hz : evO e z = some (.c (.v (.int k n))))
    (hl : asF l = some (xs.map f)) (h0 : b = true → 0 ≤ n) (hi : b = true → xs[n.toNat]? = some x) (hs : (f x).length = size)
    (hr : RunR P W os gs.tail ex.tail ((t, .c (.fptr (xs.map f) n.toNat 0)) :: e) H K) : RunR P W (⟨some t, .indexAddr ts y z, ty, pos, after, guard⟩ :: os) gs ex e H K :=
  .mobG rfl rfl ha hw (fun hb => stp_indexF ht hy hz hl (h0 hb) (by simp [hi hb]) hs) hr
theorem RunR.loadNG {α : Type} {ty0 n i : Nat} {y : Operand} {xs : List α} {x : α} {f : α → List Leaf} (ht : tk P ty0 = some (true, n)) (ha : actE e (gs.headD []) = some b) (hw : wOk W (ex.headD false) e H (.load ty0 y) = true) (hy : evO e y = some (.c (.fptr (xs.map f) i 0))) (hi : b = true → xs[i]? = some x) (hs : (f x).length = n)
    (hr : RunR P W os gs.tail ex.tail ((t, .agg (f x)) :: e) H K) : RunR P W (⟨some t, .load ty0 y, ty, pos, after, guard⟩ :: os) gs ex e H K :=
  .mobG rfl rfl ha hw (fun hb => by simp [stp, ht, hy, ldN, hi hb, seg, ← hs]) hr
theorem RunR.load1G {α : Type} {ty0 n i k : Nat} {y : Operand} {xs : List α} {x : α} {f : α → List Leaf} {l : Leaf} (ht : tk P ty0 = some (false, n)) (ha : actE e (gs.headD []) = some b) (hw : wOk W (ex.headD false) e H (.load ty0 y) = true) (hy : evO e y = some (.c (.fptr (xs.map f) i k))) (hi : b = true → xs[i]? = some x) (hs : (f x)[k]? = some l)
    (hr : RunR P W os gs.tail ex.tail ((t, .c l) :: e) H K) : RunR P W (⟨some t, .load ty0 y, ty, pos, after, guard⟩ :: os) gs ex e H K :=
  .mobG rfl rfl ha hw (fun hb => by simp [stp, ht, hy, ld1, hi hb, hs]) hr
theorem RunR.loadSG {α : Type} {ty0 n i k : Nat} {y : Operand} {xs : List α} {x : α} {f : α → List Leaf} {cs : List Leaf} (ht : tk P ty0 = some (true, n)) (ha : actE e (gs.headD []) = some b) (hw : wOk W (ex.headD false) e H (.load ty0 y) = true) (hy : evO e y = some (.c (.fptr (xs.map f) i k))) (hi : b = true → xs[i]? = some x) (hs : Nat.ble (k + n) (f x).length = true) (hc : seg (f x) k n = cs)
    (hr : RunR P W os gs.tail ex.tail ((t, .agg cs) :: e) H K) : RunR P W (⟨some t, .load ty0 y, ty, pos, after, guard⟩ :: os) gs ex e H K :=
  .mobG rfl rfl ha hw (fun hb => by have := Nat.le_of_ble_eq_true hs; simp [stp, ht, hy, ldN, hi hb, this, hc]) hr

/-! An own array, whole or in part. -/
theorem stp_indexO {ts : TypeId} {y z : Operand} {el size h ver lo len : Nat} {rest : Nat × List Leaf} {k : IntKind} {n : Int} {rows : List (List Leaf)} (ht : se P ts = some (el, size, rest)) (hy : evO e y = some (.c (.sl h ver lo len))) (hz : evO e z = some (.c (.v (.int k n))))
    (ho : obj H h ver = some (size, rows)) (h0 : 0 ≤ n) (hl : n < (len : Int)) (hr : lo + len ≤ rows.length) : stp P e H (.indexAddr ts y z) = some (.c (.ptr h ver (lo + n.toNat) 0), H) := by
  have hb : 0 ≤ n ∧ n < (len : Int) ∧ True ∧ lo + n.toNat < rows.length := ⟨h0, hl, trivial, by omega⟩
  simp only [stp, hy, hz, indexAddrV, ht, ho]
  rw [if_pos hb]
  simp
theorem RunR.indexOA {α : Type} {ts : TypeId} {y z : Operand} {el size h ver : Nat} {rest : Nat × List Leaf} {k : IntKind} {n : Int} {xs : List α} {x : α} {f : α → List Leaf} (ht : se P ts = some (el, size, rest)) (ha : actE e (gs.headD []) = some b) (hw : wOk W (ex.headD false) e H (.indexAddr ts y z) = true) (hy : evO e y = some (.c (.sl h ver 0 xs.length))) (hz : evO e z = some (.c (.v (.int k n))))
    (ho : obj H h ver = some (size, xs.map f)) (hi : at? xs n = some x)
    (hr : RunR P W os gs.tail ex.tail ((t, .c (.ptr h ver n.toNat 0)) :: e) H K) : RunR P W (⟨some t, .indexAddr ts y z, ty, pos, after, guard⟩ :: os) gs ex e H K :=
  .mob rfl rfl ha hw (by
    have h0 := at_pos hi
    have h1 := (List.getElem?_eq_some_iff.1 (at_get hi)).1
    have := stp_indexO (H := H) ht hy hz ho h0 (by omega) (by simp)
    simpa using this) hr
theorem RunR.indexOAG {α : Type} {ts : TypeId} {y z : Operand} {el size h ver : Nat} {rest : Nat × List Leaf} {k : IntKind} {n : Int} {xs : List α} {x : α} {f : α → List Leaf} (ht : se P ts = some (el, size, rest)) (ha : actE e (gs.headD []) = some b) (hw : wOk W (ex.headD false) e H (.indexAddr ts y z) = true) (hy : evO e y = some (.c (.sl h ver 0 xs.length))) (hz : evO e z = some (.c (.v (.int k n))))
    (ho : obj H h ver = some (size, xs.map f)) (h0 : b = true → 0 ≤ n) (hi : b = true → xs[n.toNat]? = some x)
    (hr : RunR P W os gs.tail ex.tail ((t, .c (.ptr h ver n.toNat 0)) :: e) H K) : RunR P W (⟨some t, .indexAddr ts y z, ty, pos, after, guard⟩ :: os) gs ex e H K :=
  .mobG rfl rfl ha hw (fun hb => by
    have h0 := h0 hb
    have h1 := (List.getElem?_eq_some_iff.1 (hi hb)).1
    have := stp_indexO (H := H) ht hy hz ho h0 (by omega) (by simp)
    simpa using this) hr
theorem RunR.loadNOG {α : Type} {ty0 n i h ver z : Nat} {y : Operand} {xs : List α} {x : α} {f : α → List Leaf} (ht : tk P ty0 = some (true, n)) (ha : actE e (gs.headD []) = some b) (hw : wOk W (ex.headD false) e H (.load ty0 y) = true) (hy : evO e y = some (.c (.ptr h ver i 0))) (ho : obj H h ver = some (z, xs.map f)) (hi : b = true → xs[i]? = some x) (hs : (f x).length = n)
    (hr : RunR P W os gs.tail ex.tail ((t, .agg (f x)) :: e) H K) : RunR P W (⟨some t, .load ty0 y, ty, pos, after, guard⟩ :: os) gs ex e H K :=
  .mobG rfl rfl ha hw (fun hb => by simp [stp, ht, hy, ldN, ho, hi hb, seg, ← hs]) hr
theorem RunR.load1OG {α : Type} {ty0 n i k h ver z : Nat} {y : Operand} {xs : List α} {x : α} {f : α → List Leaf} {l : Leaf} (ht : tk P ty0 = some (false, n)) (ha : actE e (gs.headD []) = some b) (hw : wOk W (ex.headD false) e H (.load ty0 y) = true) (hy : evO e y = some (.c (.ptr h ver i k))) (ho : obj H h ver = some (z, xs.map f)) (hi : b = true → xs[i]? = some x) (hs : (f x)[k]? = some l)
    (hr : RunR P W os gs.tail ex.tail ((t, .c l) :: e) H K) : RunR P W (⟨some t, .load ty0 y, ty, pos, after, guard⟩ :: os) gs ex e H K :=
  .mobG rfl rfl ha hw (fun hb => by simp [stp, ht, hy, ld1, ho, hi hb, hs]) hr

theorem sub_len {α : Type} {xs ys : List α} {lo hi : Int} (h : sub? xs lo hi = some ys) : 0 ≤ lo ∧ lo ≤ hi ∧ hi ≤ (xs.length : Int) ∧ (xs.take hi.toNat).drop lo.toNat = ys := by
  unfold sub? at h
  split at h
  · rename_i hc
    cases h
    exact ⟨hc.1, hc.2.1, hc.2.2, rfl⟩
  · cases h
/-- A piece of a slice that is only read. -/
theorem RunR.sliceM {α : Type} {ts : TypeId} {y : Operand} {lo hi : Option Operand} {el size : Nat} {rest : Nat × List Leaf} {lo' hi' : Option Int} {m n : Int} {xs ys : List α} {f : α → List Leaf} (ht : se P ts = some (el, size, rest)) (ha : actE e (gs.headD []) = some b) (hw : wOk W (ex.headD false) e H (.slice ts y lo hi none) = true) (hy : evO e y = some (.c (.slv (xs.map f)))) (hlo : optInt e lo = some lo') (hhi : optInt e hi = some hi')
    (hm : lo'.getD 0 = m) (hn : hi'.getD (xs.length : Int) = n) (hsub : sub? xs m n = some ys) (hs : ∀ x, (f x).length = size)
    (hr : RunR P W os gs.tail ex.tail ((t, .c (.slv (ys.map f))) :: e) H K) : RunR P W (⟨some t, .slice ts y lo hi none, ty, pos, after, guard⟩ :: os) gs ex e H K :=
  .mob rfl rfl ha hw (by
    obtain ⟨h1, h2, h3, rfl⟩ := sub_len hsub
    subst hm hn
    have hall : ∀ r ∈ xs.map f, r.length = size := by
      intro r hr
      obtain ⟨y, _, rfl⟩ := List.mem_map.1 hr
      exact hs y
    have hb : 0 ≤ lo'.getD 0 ∧ lo'.getD 0 ≤ hi'.getD (xs.length : Int) ∧ hi'.getD (xs.length : Int) ≤ (xs.length : Int) := ⟨h1, h2, h3⟩
    simp only [stp, hy, hlo, hhi, sliceV, ht, lenL, List.length_map]
    rw [if_pos hb, if_pos hall]
    simp [List.map_take, List.map_drop]) hr
/-- A new array of equal elements. -/
theorem RunR.makeM {α : Type} {ty0 : TypeId} {size by' : Nat} {n : Int} {el : TypeId} {l c : Operand} {k k' : IntKind} {z : List Leaf} {x : α} {xs : List α} {f : α → List Leaf} (h : Nat) (hz : se P ty0 = some (el, size, by', z)) (ha : actE e (gs.headD []) = some true) (hw : wOk W (ex.headD false) e H (.makeSlice ty0 l c) = true) (hh : H.length = h)
    (hl : evO e l = some (.c (.v (.int k n)))) (hc : evO e c = some (.c (.v (.int k' n)))) (hsz : (Nat.blt 0 size && Nat.ble by' 10000 && (z.length == size)) = true) (hx : mk? n x = some xs) (hf : f x = z)
    (hs : Snoc (.live 0 size (xs.map f)) H H1) (hr : RunR P W os gs.tail ex.tail ((t, .c (.sl h 0 0 xs.length)) :: e) H1 K) : RunR P W (⟨some t, .makeSlice ty0 l c, ty, pos, after, guard⟩ :: os) gs ex e H K :=
  .fix rfl ha hw (d := some t) (x := .c (.sl h 0 0 xs.length)) (H1 := H1) (by
    unfold mk? at hx
    split at hx
    · rename_i hb
      cases hx
      simp only [Bool.and_eq_true, Nat.blt_eq, Nat.ble_eq, beq_iff_eq] at hsz
      have h2 : (by' : Int) * n ≤ 281474976710656 := by
        have h3 : (by' : Int) * n ≤ 10000 * 10000000000 := Int.mul_le_mul (by omega) hb.2 hb.1 (by decide)
        omega
      have h4 : n ≤ (maxLen : Int) := Int.le_trans hb.2 (by decide)
      have h5 : 0 < size ∧ z.length = size ∧ 0 ≤ n ∧ True ∧ (by' : Int) * n ≤ 281474976710656 ∧ n ≤ (maxLen : Int) := ⟨hsz.1.1, hsz.2, hb.1, trivial, h2, h4⟩
      have h6 : n ≤ ((maxLen : Nat) : Int) := h4
      simp only [stp, hz, hl, hc]
      rw [if_pos h5, ← hs.eq, hh]
      simp [hf]
    · cases hx) hr
end
end Go.Nx
