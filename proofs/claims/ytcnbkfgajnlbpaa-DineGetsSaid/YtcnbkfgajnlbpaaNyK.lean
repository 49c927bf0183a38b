/- The rules of the operations, for a region in the text's order. -/
import Derived.Test.YtcnbkfgajnlbpaaNyJ
namespace Go.Nx
set_option linter.unusedVariables false
set_option linter.unusedSimpArgs false
section
variable {P : Program} {N : Nat} {Γ0 : Ctx} {A os : List Oper} {e : Env} {H H1 : List Ob} {ty : TypeId} {pos : String} {after : Array Edge} {t : Nat} {K : Env → List Ob → Prop}
theorem TextR.appendN {α : Type} {ts : TypeId} {y z : Operand} {el size by' : Nat} {z0 : List Leaf} {l : Leaf} (h : Nat) (f : α → List Leaf) (ys zs : List α) (happ : app? [] ys = some zs) (ht : se P ts = some (el, size, by', z0)) (hy : evO e y = some (.c nilS)) (hz : evO e z = some (.c l)) (hv : view H l = some (ys.map f)) (hf : ∀ x, (f x).length = size) (hsz : (Nat.blt 0 size && Nat.ble by' 10000) = true) (hh : H.length = h) (hs : Snoc (.live 0 size (zs.map f)) H H1) (hr : TextR P N Γ0 A os ((t, .c (.sl h 0 0 zs.length)) :: e) H1 K) : TextR P N Γ0 A (⟨some t, .call { callee := .builtin .append, args := #[y, z], argTypes := #[ts, ts] }, ty, pos, after, none⟩ :: os) e H K :=
  .op (x := .c (.sl h 0 0 zs.length)) (H1 := H1) (by
    have hzs := app_eq happ
    have hn := app_len happ
    simp only [List.nil_append] at hzs
    subst hzs
    subst hh
    simp only [Bool.and_eq_true, Nat.blt_eq, Nat.ble_eq] at hsz
    simp only [List.length_nil, Nat.zero_add] at hn
    have h1 : ∀ r ∈ ys.map f, r.length = size := by
      intro r hr
      obtain ⟨y, _, rfl⟩ := List.mem_map.1 hr
      exact hf y
    have h2 : ys.length * by' ≤ 140737488355328 := Nat.le_trans (Nat.mul_le_mul hn hsz.2) (by decide)
    have h3 : ys.length ≤ maxLen := Nat.le_trans hn (by decide)
    have h4 : (ys.map f).length ≤ maxLen ∧ (ys.map f).length * by' ≤ 140737488355328 := by
      simp only [List.length_map]
      exact ⟨h3, h2⟩
    simp only [stp, hy, hz, appendV, ht, hv]
    rw [if_pos ⟨trivial, hsz.1, h1⟩]
    rw [if_pos h4, hs.eq]
    simp) hr
theorem TextR.gappendN {guard : Option (Nat × Bool)} (hg : wantE A e guard = some true) {α : Type} {ts : TypeId} {y z : Operand} {el size by' : Nat} {z0 : List Leaf} {l : Leaf} (h : Nat) (f : α → List Leaf) (ys zs : List α) (happ : app? [] ys = some zs) (ht : se P ts = some (el, size, by', z0)) (hy : evO e y = some (.c nilS)) (hz : evO e z = some (.c l)) (hv : view H l = some (ys.map f)) (hf : ∀ x, (f x).length = size) (hsz : (Nat.blt 0 size && Nat.ble by' 10000) = true) (hh : H.length = h) (hs : Snoc (.live 0 size (zs.map f)) H H1) (hr : TextR P N Γ0 A os ((t, .c (.sl h 0 0 zs.length)) :: e) H1 K) : TextR P N Γ0 A (⟨some t, .call { callee := .builtin .append, args := #[y, z], argTypes := #[ts, ts] }, ty, pos, after, guard⟩ :: os) e H K :=
  .opG hg (x := .c (.sl h 0 0 zs.length)) (H1 := H1) (by
    have hzs := app_eq happ
    have hn := app_len happ
    simp only [List.nil_append] at hzs
    subst hzs
    subst hh
    simp only [Bool.and_eq_true, Nat.blt_eq, Nat.ble_eq] at hsz
    simp only [List.length_nil, Nat.zero_add] at hn
    have h1 : ∀ r ∈ ys.map f, r.length = size := by
      intro r hr
      obtain ⟨y, _, rfl⟩ := List.mem_map.1 hr
      exact hf y
    have h2 : ys.length * by' ≤ 140737488355328 := Nat.le_trans (Nat.mul_le_mul hn hsz.2) (by decide)
    have h3 : ys.length ≤ maxLen := Nat.le_trans hn (by decide)
    have h4 : (ys.map f).length ≤ maxLen ∧ (ys.map f).length * by' ≤ 140737488355328 := by
      simp only [List.length_map]
      exact ⟨h3, h2⟩
    simp only [stp, hy, hz, appendV, ht, hv]
    rw [if_pos ⟨trivial, hsz.1, h1⟩]
    rw [if_pos h4, hs.eq]
    simp) hr
end
end Go.Nx
