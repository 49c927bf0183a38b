/- The rules of the operations, for a region in the text's order. -/
import Derived.Test.YtcnbkfgajnlbpaaNyC
namespace Go.Nx
set_option linter.unusedVariables false
set_option linter.unusedSimpArgs false
section
variable {P : Program} {N : Nat} {Γ0 : Ctx} {A os : List Oper} {e : Env} {H H1 : List Ob} {ty : TypeId} {pos : String} {after : Array Edge} {t : Nat} {K : Env → List Ob → Prop}
theorem TextR.appendM {α : Type} {ts : TypeId} {y z : Operand} {el size by' h ver : Nat} {z0 : List Leaf} {l : Leaf} (f : α → List Leaf) (xs ys zs : List α) (hzs : xs ++ ys = zs) (ht : se P ts = some (el, size, by', z0)) (hy : evO e y = some (.c (.sl h ver 0 xs.length))) (ho : obj H h ver = some (size, xs.map f)) (hz : evO e z = some (.c l)) (hv : view H l = some (ys.map f)) (hf : ∀ x, (f x).length = size) (hsz : (Nat.blt 0 size && Nat.ble by' 10000) = true) (hn : xs.length + ys.length ≤ 10000000000) (hs : SetAt (.live (ver + 1) size (zs.map f)) H h H1) (hr : TextR P N Γ0 A os ((t, .c (.sl h (ver + 1) 0 zs.length)) :: e) H1 K) : TextR P N Γ0 A (⟨some t, .call { callee := .builtin .append, args := #[y, z], argTypes := #[ts, ts] }, ty, pos, after, none⟩ :: os) e H K :=
  .op (x := .c (.sl h (ver + 1) 0 zs.length)) (H1 := H1) (by
    subst hzs
    simp only [Bool.and_eq_true, Nat.blt_eq, Nat.ble_eq] at hsz
    have h1 : ∀ r ∈ ys.map f, r.length = size := by
      intro r hr
      obtain ⟨y, _, rfl⟩ := List.mem_map.1 hr
      exact hf y
    have h2 : (xs.length + ys.length) * by' ≤ 140737488355328 := Nat.le_trans (Nat.mul_le_mul hn hsz.2) (by decide)
    have h3 : xs.length + ys.length ≤ maxLen := Nat.le_trans hn (by decide)
    have h4 : 0 + xs.length ≤ (xs.map f).length ∧ True ∧ xs.length + (ys.map f).length ≤ maxLen ∧ (xs.length + (ys.map f).length) * by' ≤ 140737488355328 := by
      simp only [List.length_map]
      exact ⟨by omega, trivial, h3, h2⟩
    simp only [stp, hy, hz, appendV, ht, hv]
    rw [if_pos ⟨trivial, hsz.1, h1⟩]
    simp only [ho]
    rw [if_pos h4]
    have h5 : (List.take xs.length (List.drop 0 (xs.map f)) ++ ys.map f) = (xs ++ ys).map f := by
      rw [List.drop_zero, List.take_of_length_le (by simp), List.map_append]
    rw [h5, hs.eq]
    simp) hr
theorem TextR.gappendM {guard : Option (Nat × Bool)} (hg : wantE A e guard = some true) {α : Type} {ts : TypeId} {y z : Operand} {el size by' h ver : Nat} {z0 : List Leaf} {l : Leaf} (f : α → List Leaf) (xs ys zs : List α) (hzs : xs ++ ys = zs) (ht : se P ts = some (el, size, by', z0)) (hy : evO e y = some (.c (.sl h ver 0 xs.length))) (ho : obj H h ver = some (size, xs.map f)) (hz : evO e z = some (.c l)) (hv : view H l = some (ys.map f)) (hf : ∀ x, (f x).length = size) (hsz : (Nat.blt 0 size && Nat.ble by' 10000) = true) (hn : xs.length + ys.length ≤ 10000000000) (hs : SetAt (.live (ver + 1) size (zs.map f)) H h H1) (hr : TextR P N Γ0 A os ((t, .c (.sl h (ver + 1) 0 zs.length)) :: e) H1 K) : TextR P N Γ0 A (⟨some t, .call { callee := .builtin .append, args := #[y, z], argTypes := #[ts, ts] }, ty, pos, after, guard⟩ :: os) e H K :=
  .opG hg (x := .c (.sl h (ver + 1) 0 zs.length)) (H1 := H1) (by
    subst hzs
    simp only [Bool.and_eq_true, Nat.blt_eq, Nat.ble_eq] at hsz
    have h1 : ∀ r ∈ ys.map f, r.length = size := by
      intro r hr
      obtain ⟨y, _, rfl⟩ := List.mem_map.1 hr
      exact hf y
    have h2 : (xs.length + ys.length) * by' ≤ 140737488355328 := Nat.le_trans (Nat.mul_le_mul hn hsz.2) (by decide)
    have h3 : xs.length + ys.length ≤ maxLen := Nat.le_trans hn (by decide)
    have h4 : 0 + xs.length ≤ (xs.map f).length ∧ True ∧ xs.length + (ys.map f).length ≤ maxLen ∧ (xs.length + (ys.map f).length) * by' ≤ 140737488355328 := by
      simp only [List.length_map]
      exact ⟨by omega, trivial, h3, h2⟩
    simp only [stp, hy, hz, appendV, ht, hv]
    rw [if_pos ⟨trivial, hsz.1, h1⟩]
    simp only [ho]
    rw [if_pos h4]
    have h5 : (List.take xs.length (List.drop 0 (xs.map f)) ++ ys.map f) = (xs ++ ys).map f := by
      rw [List.drop_zero, List.take_of_length_le (by simp), List.map_append]
    rw [h5, hs.eq]
    simp) hr
theorem TextR.eqNil {ty0 ty1 : Nat} {el : TypeId} {y : Operand} {l : Leaf} {v : Bool} (ht : P.underlying ty0 = some (.slice el)) (hy : evO e y = some (.c l)) (hv : nilB H l = some v) (hr : TextR P N Γ0 A os ((t, .c (B v)) :: e) H K) : TextR P N Γ0 A (⟨some t, .binOp .eql ty0 y (.const (.slice none 0 0)) ty1, ty, pos, after, none⟩ :: os) e H K :=
  .op (by
    have hk : evO e (.const (.slice none 0 0)) = some (.c nilS) := rfl
    simp only [stp, hy, hk]
    cases l with
    | v x => cases x <;> first | (simp [nilB] at hv; done) | simp [binV, isNilS, ht, hv]
    | _ => simp [binV, isNilS, ht, hv]) hr
theorem TextR.geqNil {guard : Option (Nat × Bool)} (hg : wantE A e guard = some true) {ty0 ty1 : Nat} {el : TypeId} {y : Operand} {l : Leaf} {v : Bool} (ht : P.underlying ty0 = some (.slice el)) (hy : evO e y = some (.c l)) (hv : nilB H l = some v) (hr : TextR P N Γ0 A os ((t, .c (B v)) :: e) H K) : TextR P N Γ0 A (⟨some t, .binOp .eql ty0 y (.const (.slice none 0 0)) ty1, ty, pos, after, guard⟩ :: os) e H K :=
  .opG hg (by
    have hk : evO e (.const (.slice none 0 0)) = some (.c nilS) := rfl
    simp only [stp, hy, hk]
    cases l with
    | v x => cases x <;> first | (simp [nilB] at hv; done) | simp [binV, isNilS, ht, hv]
    | _ => simp [binV, isNilS, ht, hv]) hr
theorem TextR.neNil {ty0 ty1 : Nat} {el : TypeId} {y : Operand} {l : Leaf} {v : Bool} (ht : P.underlying ty0 = some (.slice el)) (hy : evO e y = some (.c l)) (hv : nilB H l = some v) (hr : TextR P N Γ0 A os ((t, .c (B (!v))) :: e) H K) : TextR P N Γ0 A (⟨some t, .binOp .neq ty0 y (.const (.slice none 0 0)) ty1, ty, pos, after, none⟩ :: os) e H K :=
  .op (by
    have hk : evO e (.const (.slice none 0 0)) = some (.c nilS) := rfl
    simp only [stp, hy, hk]
    cases l with
    | v x => cases x <;> first | (simp [nilB] at hv; done) | simp [binV, isNilS, ht, hv]
    | _ => simp [binV, isNilS, ht, hv]) hr
theorem TextR.gneNil {guard : Option (Nat × Bool)} (hg : wantE A e guard = some true) {ty0 ty1 : Nat} {el : TypeId} {y : Operand} {l : Leaf} {v : Bool} (ht : P.underlying ty0 = some (.slice el)) (hy : evO e y = some (.c l)) (hv : nilB H l = some v) (hr : TextR P N Γ0 A os ((t, .c (B (!v))) :: e) H K) : TextR P N Γ0 A (⟨some t, .binOp .neq ty0 y (.const (.slice none 0 0)) ty1, ty, pos, after, guard⟩ :: os) e H K :=
  .opG hg (by
    have hk : evO e (.const (.slice none 0 0)) = some (.c nilS) := rfl
    simp only [stp, hy, hk]
    cases l with
    | v x => cases x <;> first | (simp [nilB] at hv; done) | simp [binV, isNilS, ht, hv]
    | _ => simp [binV, isNilS, ht, hv]) hr
theorem TextR.indexO {α : Type} {ts : TypeId} {y z : Operand} {el size i h ver len : Nat} {rest : Nat × List Leaf} {k : IntKind} {xs : List α} {x : α} {f : α → List Leaf} (ht : se P ts = some (el, size, rest)) (hy : evO e y = some (.c (.sl h ver 0 len))) (hz : evO e z = some (.c (.v (.int k (i : Int))))) (ho : obj H h ver = some (size, xs.map f)) (hi : xs[i]? = some x) (hlen : len = xs.length) (hr : TextR P N Γ0 A os ((t, .c (.ptr h ver i 0)) :: e) H K) : TextR P N Γ0 A (⟨some t, .indexAddr ts y z, ty, pos, after, none⟩ :: os) e H K :=
  .op (by
    have hlt : i < xs.length := (List.getElem?_eq_some_iff.1 hi).1
    have hb : (0 : Int) ≤ (i : Int) ∧ (i : Int) < (len : Int) ∧ True ∧ 0 + (i : Int).toNat < (xs.map f).length := ⟨by omega, by omega, trivial, by simp; omega⟩
    simp only [stp, hy, hz, indexAddrV, ht, ho]
    rw [if_pos hb]
    simp) hr
theorem TextR.gindexO {guard : Option (Nat × Bool)} (hg : wantE A e guard = some true) {α : Type} {ts : TypeId} {y z : Operand} {el size i h ver len : Nat} {rest : Nat × List Leaf} {k : IntKind} {xs : List α} {x : α} {f : α → List Leaf} (ht : se P ts = some (el, size, rest)) (hy : evO e y = some (.c (.sl h ver 0 len))) (hz : evO e z = some (.c (.v (.int k (i : Int))))) (ho : obj H h ver = some (size, xs.map f)) (hi : xs[i]? = some x) (hlen : len = xs.length) (hr : TextR P N Γ0 A os ((t, .c (.ptr h ver i 0)) :: e) H K) : TextR P N Γ0 A (⟨some t, .indexAddr ts y z, ty, pos, after, guard⟩ :: os) e H K :=
  .opG hg (by
    have hlt : i < xs.length := (List.getElem?_eq_some_iff.1 hi).1
    have hb : (0 : Int) ≤ (i : Int) ∧ (i : Int) < (len : Int) ∧ True ∧ 0 + (i : Int).toNat < (xs.map f).length := ⟨by omega, by omega, trivial, by simp; omega⟩
    simp only [stp, hy, hz, indexAddrV, ht, ho]
    rw [if_pos hb]
    simp) hr
theorem TextR.loadNO {α : Type} {ty0 n i h ver z : Nat} {y : Operand} {xs : List α} {x : α} {f : α → List Leaf} (ht : tk P ty0 = some (true, n)) (hy : evO e y = some (.c (.ptr h ver i 0))) (ho : obj H h ver = some (z, xs.map f)) (hi : xs[i]? = some x) (hs : (f x).length = n) (hr : TextR P N Γ0 A os ((t, .agg (f x)) :: e) H K) : TextR P N Γ0 A (⟨some t, .load ty0 y, ty, pos, after, none⟩ :: os) e H K :=
  .loadN ht  hy (by simp [ldN, ho, hi, seg, ← hs]) hr
theorem TextR.gloadNO {guard : Option (Nat × Bool)} (hg : wantE A e guard = some true) {α : Type} {ty0 n i h ver z : Nat} {y : Operand} {xs : List α} {x : α} {f : α → List Leaf} (ht : tk P ty0 = some (true, n)) (hy : evO e y = some (.c (.ptr h ver i 0))) (ho : obj H h ver = some (z, xs.map f)) (hi : xs[i]? = some x) (hs : (f x).length = n) (hr : TextR P N Γ0 A os ((t, .agg (f x)) :: e) H K) : TextR P N Γ0 A (⟨some t, .load ty0 y, ty, pos, after, guard⟩ :: os) e H K :=
  .gloadN hg ht  hy (by simp [ldN, ho, hi, seg, ← hs]) hr
theorem TextR.load1O {α : Type} {ty0 n i k h ver z : Nat} {y : Operand} {xs : List α} {x : α} {f : α → List Leaf} {l : Leaf} (ht : tk P ty0 = some (false, n)) (hy : evO e y = some (.c (.ptr h ver i k))) (ho : obj H h ver = some (z, xs.map f)) (hi : xs[i]? = some x) (hs : (f x)[k]? = some l) (hr : TextR P N Γ0 A os ((t, .c l) :: e) H K) : TextR P N Γ0 A (⟨some t, .load ty0 y, ty, pos, after, none⟩ :: os) e H K :=
  .load1 ht  hy (by simp [ld1, ho, hi, hs]) hr
theorem TextR.gload1O {guard : Option (Nat × Bool)} (hg : wantE A e guard = some true) {α : Type} {ty0 n i k h ver z : Nat} {y : Operand} {xs : List α} {x : α} {f : α → List Leaf} {l : Leaf} (ht : tk P ty0 = some (false, n)) (hy : evO e y = some (.c (.ptr h ver i k))) (ho : obj H h ver = some (z, xs.map f)) (hi : xs[i]? = some x) (hs : (f x)[k]? = some l) (hr : TextR P N Γ0 A os ((t, .c l) :: e) H K) : TextR P N Γ0 A (⟨some t, .load ty0 y, ty, pos, after, guard⟩ :: os) e H K :=
  .gload1 hg ht  hy (by simp [ld1, ho, hi, hs]) hr
theorem TextR.loadSO {α : Type} {ty0 n i k h ver z : Nat} {y : Operand} {xs : List α} {x : α} {f : α → List Leaf} {cs : List Leaf} (ht : tk P ty0 = some (true, n)) (hy : evO e y = some (.c (.ptr h ver i k))) (ho : obj H h ver = some (z, xs.map f)) (hi : xs[i]? = some x) (hs : Nat.ble (k + n) (f x).length = true) (hc : seg (f x) k n = cs) (hr : TextR P N Γ0 A os ((t, .agg cs) :: e) H K) : TextR P N Γ0 A (⟨some t, .load ty0 y, ty, pos, after, none⟩ :: os) e H K :=
  .loadN ht  hy (by have := Nat.le_of_ble_eq_true hs; simp [ldN, ho, hi, this, hc]) hr
theorem TextR.gloadSO {guard : Option (Nat × Bool)} (hg : wantE A e guard = some true) {α : Type} {ty0 n i k h ver z : Nat} {y : Operand} {xs : List α} {x : α} {f : α → List Leaf} {cs : List Leaf} (ht : tk P ty0 = some (true, n)) (hy : evO e y = some (.c (.ptr h ver i k))) (ho : obj H h ver = some (z, xs.map f)) (hi : xs[i]? = some x) (hs : Nat.ble (k + n) (f x).length = true) (hc : seg (f x) k n = cs) (hr : TextR P N Γ0 A os ((t, .agg cs) :: e) H K) : TextR P N Γ0 A (⟨some t, .load ty0 y, ty, pos, after, guard⟩ :: os) e H K :=
  .gloadN hg ht  hy (by have := Nat.le_of_ble_eq_true hs; simp [ldN, ho, hi, this, hc]) hr
theorem TextR.storeO {α : Type} {ty0 : TypeId} {y x0 : Operand} {v : AVal} {h ver n z i k : Nat} {g : Bool} {cs : List Leaf} {xs : List α} {x : α} {f : α → List Leaf} (x' : α) (ht : tk P ty0 = some (g, n)) (hy : evO e y = some (.c (.ptr h ver i k))) (hx : evO e x0 = some v) (hc : v.cells = some cs) (ho : obj H h ver = some (z, xs.map f)) (hn : cs.length = n) (hi : xs[i]? = some x) (hrl : Nat.ble (k + n) (f x).length = true) (hp : putSeg (f x) k cs = f x') (hs : SetAt (.live ver z ((xs.set i x').map f)) H h H1) (hr : TextR P N Γ0 A os e H1 K) : TextR P N Γ0 A (⟨none, .store ty0 y x0, ty, pos, after, none⟩ :: os) e H K :=
  .storeE ht  hy hx hc ho hn (by rw [List.getElem?_map, hi]; rfl) (Nat.le_of_ble_eq_true hrl) (map_set_eq hp) hs hr
theorem TextR.gstoreO {guard : Option (Nat × Bool)} (hg : wantE A e guard = some true) {α : Type} {ty0 : TypeId} {y x0 : Operand} {v : AVal} {h ver n z i k : Nat} {g : Bool} {cs : List Leaf} {xs : List α} {x : α} {f : α → List Leaf} (x' : α) (ht : tk P ty0 = some (g, n)) (hy : evO e y = some (.c (.ptr h ver i k))) (hx : evO e x0 = some v) (hc : v.cells = some cs) (ho : obj H h ver = some (z, xs.map f)) (hn : cs.length = n) (hi : xs[i]? = some x) (hrl : Nat.ble (k + n) (f x).length = true) (hp : putSeg (f x) k cs = f x') (hs : SetAt (.live ver z ((xs.set i x').map f)) H h H1) (hr : TextR P N Γ0 A os e H1 K) : TextR P N Γ0 A (⟨none, .store ty0 y x0, ty, pos, after, guard⟩ :: os) e H K :=
  .gstoreE hg ht  hy hx hc ho hn (by rw [List.getElem?_map, hi]; rfl) (Nat.le_of_ble_eq_true hrl) (map_set_eq hp) hs hr
end
end Go.Nx
