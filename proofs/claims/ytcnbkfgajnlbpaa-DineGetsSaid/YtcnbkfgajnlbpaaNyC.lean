/- Own arrays, as mapped lists. -/
import Derived.Test.YtcnbkfgajnlbpaaNyB
namespace Go.Nx
set_option linter.unusedVariables false
set_option linter.unusedSimpArgs false

/-- nil in a slot: an own array of none, of any version. -/
theorem HeapOk_nilV {Γ : Ctx} {H : List Ob} (hok : HeapOk Γ H) (ver sz : Nat) : HeapOk { Γ with hs := Γ.hs ++ [(⟨none, 0, 0, 0⟩, ver)] } (H ++ [.live ver sz []]) := by
  have hle : Γ.Le { Γ with hs := Γ.hs ++ [(⟨none, 0, 0, 0⟩, ver)] } := ⟨fun _ h => h, fun _ _ => rfl, fun h inf v hh => ⟨inf, v, by
    show (Γ.hs ++ _)[h]? = _
    rw [List.getElem?_append_left (List.getElem?_eq_some_iff.1 hh).1]; exact hh, Nat.le_refl _, fun _ => rfl⟩⟩
  refine ⟨by simp [hok.len], fun h o ho => ?_, fun h h' v v' z1 z2 r r' inf inf' b h1 h2 h3 h4 h5 h6 => ?_, hok.F, hok.X⟩
  · by_cases hlt : h < H.length
    · rw [List.getElem?_append_left hlt] at ho
      refine ObOk.keep hle (fun _ _ _ _ => ?_) (fun ver z rows inf b _ _ _ hx hf => ⟨rfl, hf, hx⟩) (hok.ob h o ho)
      show (Γ.hs ++ _)[h]? = _
      rw [List.getElem?_append_left (by rw [← hok.len]; exact hlt)]
    · have he : h = H.length := by
        have := (List.getElem?_eq_some_iff.1 ho).1
        simp at this; omega
      subst he
      simp at ho
      subst ho
      exact ⟨⟨none, 0, 0, 0⟩, by simp [hok.len], Nat.zero_le _, rfl⟩
  · have old : ∀ (n : Nat) (vv zz : Nat) (rr : List (List Leaf)) (ii : Info), ii.base = some b → (H ++ [Ob.live ver sz []])[n]? = some (.live vv zz rr) → (Γ.hs ++ [((⟨none, 0, 0, 0⟩ : Info), ver)])[n]? = some (ii, vv) →
        H[n]? = some (.live vv zz rr) ∧ Γ.hs[n]? = some (ii, vv) := by
      intro n vv zz rr ii e0 e1 e2
      by_cases hlt : n < H.length
      · rw [List.getElem?_append_left hlt] at e1
        rw [List.getElem?_append_left (by rw [← hok.len]; exact hlt)] at e2
        exact ⟨e1, e2⟩
      · have he : n = H.length := by
          have := (List.getElem?_eq_some_iff.1 e1).1
          simp at this; omega
        subst he
        rw [hok.len] at e2
        simp at e2
        rw [← e2.1] at e0
        cases e0
    obtain ⟨a1, a2⟩ := old h v z1 r inf h5 h1 h3
    obtain ⟨b1, b2⟩ := old h' v' z2 r' inf' h6 h2 h4
    exact hok.apart h h' v v' z1 z2 r r' inf inf' b a1 b1 a2 b2 h5 h6

theorem nilV_sat {N : Nat} {Γ0 : Ctx} {e : Env} {H H1 : List Ob} {t : Nat} (ver sz : Nat) (h : Nat) (ht : e.get t = some (.c nilS)) (hh : H.length = h) (hsn : Snoc (.live ver sz []) H H1) {a : Act} {w : World} (hs : Sat N Γ0 ⟨e, H⟩ a w) : Sat N Γ0 ⟨(t, .c (.sl h ver 0 0)) :: e, H1⟩ a w := by
  subst hh
  obtain ⟨d, s, Γ, rfl, hext, hok, henv⟩ := hs
  have hle : Γ.Le { Γ with hs := Γ.hs ++ [(⟨none, 0, 0, 0⟩, ver)] } := ⟨fun _ h => h, fun _ _ => rfl, fun h inf v hh => ⟨inf, v, by
    show (Γ.hs ++ _)[h]? = _
    rw [List.getElem?_append_left (List.getElem?_eq_some_iff.1 hh).1]; exact hh, Nat.le_refl _, fun _ => rfl⟩⟩
  refine ⟨d, s, { Γ with hs := Γ.hs ++ [(⟨none, 0, 0, 0⟩, ver)] }, rfl, hext.trans ⟨hle, rfl, rfl, rfl, Nat.le_refl _, fun _ _ _ => rfl, fun _ h => .inl h, fun _ h => .inl h⟩, by rw [← hsn.eq]; exact HeapOk_nilV hok ver sz, fun t' x hx => ?_⟩
  simp only [Env.get] at hx
  split at hx
  · rename_i heq
    subst heq
    cases hx
    obtain ⟨y, h1, h2⟩ := henv _ _ ht
    refine ⟨y, h1, ?_⟩
    simp only [concV, conc] at h2 ⊢
    obtain ⟨rfl, _⟩ := h2
    refine ⟨⟨none, 0, 0, 0⟩, ver, none, 0, by simp [hok.len], Nat.le_refl _, rfl, fun _ => .inl (by simp)⟩
  · obtain ⟨y, h1, h2⟩ := henv _ _ hx
    exact ⟨y, h1, concV_mono hle _ _ h2⟩

section
variable {P : Program} {W : Option (List Nat)} {os : List Oper} {gs : List (List (Nat × Bool))} {ex : List Bool} {e : Env} {H H1 : List Ob} {ty : TypeId} {pos : String} {after : Array Edge} {guard : Option (Nat × Bool)} {b : Bool} {t : Nat} {K : Env → List Ob → Prop}

/-- More at an own array's end. -/
theorem RunR.appendM {α : Type} {ts : TypeId} {y z : Operand} {el size by' h ver : Nat} {z0 : List Leaf} {l : Leaf} (f : α → List Leaf) (xs ys zs : List α) (hzs : xs ++ ys = zs) (ht : se P ts = some (el, size, by', z0)) (ha : actE e (gs.headD []) = some true) (hw : wOk W (ex.headD false) e H (.call { callee := .builtin .append, args := #[y, z], argTypes := #[ts, ts] }) = true)
    (hy : evO e y = some (.c (.sl h ver 0 xs.length))) (ho : obj H h ver = some (size, xs.map f)) (hz : evO e z = some (.c l)) (hv : view H l = some (ys.map f)) (hf : ∀ x, (f x).length = size) (hsz : (Nat.blt 0 size && Nat.ble by' 10000) = true) (hn : xs.length + ys.length ≤ 10000000000)
    (hs : SetAt (.live (ver + 1) size (zs.map f)) H h H1) (hr : RunR P W os gs.tail ex.tail ((t, .c (.sl h (ver + 1) 0 zs.length)) :: e) H1 K) : RunR P W (⟨some t, .call { callee := .builtin .append, args := #[y, z], argTypes := #[ts, ts] }, ty, pos, after, guard⟩ :: os) gs ex e H K :=
  .fix rfl ha hw (x := .c (.sl h (ver + 1) 0 zs.length)) (H1 := H1) (by
    subst hzs
    simp only [Bool.and_eq_true, Nat.blt_eq, Nat.ble_eq] at hsz
    have h1 : ∀ r ∈ ys.map f, r.length = size := by
      intro r hr
      obtain ⟨y, _, rfl⟩ := List.mem_map.1 hr
      exact hf y
    have h2 : (xs.length + ys.length) * by' ≤ 140737488355328 := Nat.le_trans (Nat.mul_le_mul hn hsz.2) (by decide)
    have h3 : xs.length + ys.length ≤ maxLen := Nat.le_trans hn (by decide)
    have h4 : 0 + xs.length ≤ (xs.map f).length ∧ True ∧ xs.length + (ys.map f).length ≤ maxLen ∧ (xs.length + (ys.map f).length) * by' ≤ 140737488355328 := by
      simp only [List.length_map]
      exact ⟨by omega, trivial, h3, h2⟩
    simp only [stp, hy, hz, appendV, ht, hv]
    rw [if_pos ⟨trivial, hsz.1, h1⟩]
    simp only [ho]
    rw [if_pos h4]
    have h5 : (List.take xs.length (List.drop 0 (xs.map f)) ++ ys.map f) = (xs ++ ys).map f := by
      rw [List.drop_zero, List.take_of_length_le (by simp), List.map_append]
    rw [h5, hs.eq]
    simp) hr

/-- Is a slice nil? -/
theorem RunR.eqNil {ty0 ty1 : Nat} {el : TypeId} {y : Operand} {l : Leaf} {v : Bool} (ht : P.underlying ty0 = some (.slice el)) (ha : actE e (gs.headD []) = some b) (hw : wOk W (ex.headD false) e H (.binOp .eql ty0 y (.const (.slice none 0 0)) ty1) = true) (hy : evO e y = some (.c l)) (hv : nilB H l = some v)
    (hr : RunR P W os gs.tail ex.tail ((t, .c (B v)) :: e) H K) : RunR P W (⟨some t, .binOp .eql ty0 y (.const (.slice none 0 0)) ty1, ty, pos, after, guard⟩ :: os) gs ex e H K :=
  .mob rfl rfl ha hw (by
    have hk : evO e (.const (.slice none 0 0)) = some (.c nilS) := rfl
    simp only [stp, hy, hk]
    cases l with
    | v x => cases x <;> first | (simp [nilB] at hv; done) | simp [binV, isNilS, ht, hv]
    | _ => simp [binV, isNilS, ht, hv]) hr
theorem RunR.neNil {ty0 ty1 : Nat} {el : TypeId} {y : Operand} {l : Leaf} {v : Bool} (ht : P.underlying ty0 = some (.slice el)) (ha : actE e (gs.headD []) = some b) (hw : wOk W (ex.headD false) e H (.binOp .neq ty0 y (.const (.slice none 0 0)) ty1) = true) (hy : evO e y = some (.c l)) (hv : nilB H l = some v)
    (hr : RunR P W os gs.tail ex.tail ((t, .c (B (!v))) :: e) H K) : RunR P W (⟨some t, .binOp .neq ty0 y (.const (.slice none 0 0)) ty1, ty, pos, after, guard⟩ :: os) gs ex e H K :=
  .mob rfl rfl ha hw (by
    have hk : evO e (.const (.slice none 0 0)) = some (.c nilS) := rfl
    simp only [stp, hy, hk]
    cases l with
    | v x => cases x <;> first | (simp [nilB] at hv; done) | simp [binV, isNilS, ht, hv]
    | _ => simp [binV, isNilS, ht, hv]) hr

/-- An element of an own array: where it lies. -/
theorem RunR.indexO {α : Type} {ts : TypeId} {y z : Operand} {el size i h ver len : Nat} {rest : Nat × List Leaf} {k : IntKind} {xs : List α} {x : α} {f : α → List Leaf} (ht : se P ts = some (el, size, rest)) (ha : actE e (gs.headD []) = some b) (hw : wOk W (ex.headD false) e H (.indexAddr ts y z) = true) (hy : evO e y = some (.c (.sl h ver 0 len))) (hz : evO e z = some (.c (.v (.int k (i : Int)))))
    (ho : obj H h ver = some (size, xs.map f)) (hi : xs[i]? = some x) (hlen : len = xs.length)
    (hr : RunR P W os gs.tail ex.tail ((t, .c (.ptr h ver i 0)) :: e) H K) : RunR P W (⟨some t, .indexAddr ts y z, ty, pos, after, guard⟩ :: os) gs ex e H K :=
  .mob rfl rfl ha hw (by
    have hlt : i < xs.length := (List.getElem?_eq_some_iff.1 hi).1
    have hb : (0 : Int) ≤ (i : Int) ∧ (i : Int) < (len : Int) ∧ True ∧ 0 + (i : Int).toNat < (xs.map f).length := ⟨by omega, by omega, trivial, by simp; omega⟩
    simp only [stp, hy, hz, indexAddrV, ht, ho]
    rw [if_pos hb]
    simp) hr
theorem RunR.loadNO {α : Type} {ty0 n i h ver z : Nat} {y : Operand} {xs : List α} {x : α} {f : α → List Leaf} (ht : tk P ty0 = some (true, n)) (ha : actE e (gs.headD []) = some b) (hw : wOk W (ex.headD false) e H (.load ty0 y) = true) (hy : evO e y = some (.c (.ptr h ver i 0))) (ho : obj H h ver = some (z, xs.map f)) (hi : xs[i]? = some x) (hs : (f x).length = n)
    (hr : RunR P W os gs.tail ex.tail ((t, .agg (f x)) :: e) H K) : RunR P W (⟨some t, .load ty0 y, ty, pos, after, guard⟩ :: os) gs ex e H K :=
  .loadN ht ha hw hy (by simp [ldN, ho, hi, seg, ← hs]) hr
theorem RunR.load1O {α : Type} {ty0 n i k h ver z : Nat} {y : Operand} {xs : List α} {x : α} {f : α → List Leaf} {l : Leaf} (ht : tk P ty0 = some (false, n)) (ha : actE e (gs.headD []) = some b) (hw : wOk W (ex.headD false) e H (.load ty0 y) = true) (hy : evO e y = some (.c (.ptr h ver i k))) (ho : obj H h ver = some (z, xs.map f)) (hi : xs[i]? = some x) (hs : (f x)[k]? = some l)
    (hr : RunR P W os gs.tail ex.tail ((t, .c l) :: e) H K) : RunR P W (⟨some t, .load ty0 y, ty, pos, after, guard⟩ :: os) gs ex e H K :=
  .load1 ht ha hw hy (by simp [ld1, ho, hi, hs]) hr
theorem RunR.loadSO {α : Type} {ty0 n i k h ver z : Nat} {y : Operand} {xs : List α} {x : α} {f : α → List Leaf} {cs : List Leaf} (ht : tk P ty0 = some (true, n)) (ha : actE e (gs.headD []) = some b) (hw : wOk W (ex.headD false) e H (.load ty0 y) = true) (hy : evO e y = some (.c (.ptr h ver i k))) (ho : obj H h ver = some (z, xs.map f)) (hi : xs[i]? = some x) (hs : Nat.ble (k + n) (f x).length = true) (hc : seg (f x) k n = cs)
    (hr : RunR P W os gs.tail ex.tail ((t, .agg cs) :: e) H K) : RunR P W (⟨some t, .load ty0 y, ty, pos, after, guard⟩ :: os) gs ex e H K :=
  .loadN ht ha hw hy (by have := Nat.le_of_ble_eq_true hs; simp [ldN, ho, hi, this, hc]) hr

theorem map_set_eq {α : Type} {f : α → List Leaf} {xs : List α} {i : Nat} {x' : α} {r : List Leaf} (h : r = f x') : (xs.map f).set i r = (xs.set i x').map f := by
  rw [h, List.map_set]

/-- An element of an own array, or a cell of one, written. -/
theorem RunR.storeO {α : Type} {ty0 : TypeId} {y x0 : Operand} {v : AVal} {h ver n z i k : Nat} {g : Bool} {cs : List Leaf} {xs : List α} {x : α} {f : α → List Leaf} (x' : α) (ht : tk P ty0 = some (g, n)) (ha : actE e (gs.headD []) = some true) (hw : wOk W (ex.headD false) e H (.store ty0 y x0) = true) (hy : evO e y = some (.c (.ptr h ver i k))) (hx : evO e x0 = some v) (hc : v.cells = some cs)
    (ho : obj H h ver = some (z, xs.map f)) (hn : cs.length = n) (hi : xs[i]? = some x) (hrl : Nat.ble (k + n) (f x).length = true) (hp : putSeg (f x) k cs = f x')
    (hs : SetAt (.live ver z ((xs.set i x').map f)) H h H1) (hr : RunR P W os gs.tail ex.tail e H1 K) : RunR P W (⟨none, .store ty0 y x0, ty, pos, after, guard⟩ :: os) gs ex e H K :=
  .storeE ht ha hw hy hx hc ho hn (by rw [List.getElem?_map, hi]; rfl) (Nat.le_of_ble_eq_true hrl) (map_set_eq hp) hs hr

end
end Go.Nx
