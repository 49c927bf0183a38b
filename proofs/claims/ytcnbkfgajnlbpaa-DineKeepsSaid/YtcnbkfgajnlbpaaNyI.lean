/- The rules of the operations, for a region in the text's order. -/
import Derived.Test.YtcnbkfgajnlbpaaNyH
namespace Go.Nx
set_option linter.unusedVariables false
set_option linter.unusedSimpArgs false
section
variable {P : Program} {N : Nat} {Γ0 : Ctx} {A os : List Oper} {e : Env} {H H1 : List Ob} {ty : TypeId} {pos : String} {after : Array Edge} {t : Nat} {K : Env → List Ob → Prop}
theorem TextR.indexA {α : Type} {ts : TypeId} {y z : Operand} {el size : Nat} {rest : Nat × List Leaf} {l : Leaf} {k : IntKind} {n : Int} {xs : List α} {x : α} {f : α → List Leaf} (ht : se P ts = some (el, size, rest)) (hy : evO e y = some (.c l)) (hz : evO e z = some (.c (.v (.int k n)))) (hl : asF l = some (xs.map f)) (hi : at? xs n = some x) (hs : (f x).length = size) (hr : TextR P N Γ0 A os ((t, .c (.fptr (xs.map f) n.toNat 0)) :: e) H K) : TextR P N Γ0 A (⟨some t, .indexAddr ts y z, ty, pos, after, none⟩ :: os) e H K :=
  .indexF ht  hy hz hl (at_pos hi) (by simp [at_get hi]) hs hr
theorem TextR.gindexA {guard : Option (Nat × Bool)} (hg : wantE A e guard = some true) {α : Type} {ts : TypeId} {y z : Operand} {el size : Nat} {rest : Nat × List Leaf} {l : Leaf} {k : IntKind} {n : Int} {xs : List α} {x : α} {f : α → List Leaf} (ht : se P ts = some (el, size, rest)) (hy : evO e y = some (.c l)) (hz : evO e z = some (.c (.v (.int k n)))) (hl : asF l = some (xs.map f)) (hi : at? xs n = some x) (hs : (f x).length = size) (hr : TextR P N Γ0 A os ((t, .c (.fptr (xs.map f) n.toNat 0)) :: e) H K) : TextR P N Γ0 A (⟨some t, .indexAddr ts y z, ty, pos, after, guard⟩ :: os) e H K :=
  .gindexF hg ht  hy hz hl (at_pos hi) (by simp [at_get hi]) hs hr
theorem TextR.indexOA {α : Type} {ts : TypeId} {y z : Operand} {el size h ver : Nat} {rest : Nat × List Leaf} {k : IntKind} {n : Int} {xs : List α} {x : α} {f : α → List Leaf} (ht : se P ts = some (el, size, rest)) (hy : evO e y = some (.c (.sl h ver 0 xs.length))) (hz : evO e z = some (.c (.v (.int k n)))) (ho : obj H h ver = some (size, xs.map f)) (hi : at? xs n = some x) (hr : TextR P N Γ0 A os ((t, .c (.ptr h ver n.toNat 0)) :: e) H K) : TextR P N Γ0 A (⟨some t, .indexAddr ts y z, ty, pos, after, none⟩ :: os) e H K :=
  .op (by
    have h0 := at_pos hi
    have h1 := (List.getElem?_eq_some_iff.1 (at_get hi)).1
    have := stp_indexO (H := H) ht hy hz ho h0 (by omega) (by simp)
    simpa using this) hr
theorem TextR.gindexOA {guard : Option (Nat × Bool)} (hg : wantE A e guard = some true) {α : Type} {ts : TypeId} {y z : Operand} {el size h ver : Nat} {rest : Nat × List Leaf} {k : IntKind} {n : Int} {xs : List α} {x : α} {f : α → List Leaf} (ht : se P ts = some (el, size, rest)) (hy : evO e y = some (.c (.sl h ver 0 xs.length))) (hz : evO e z = some (.c (.v (.int k n)))) (ho : obj H h ver = some (size, xs.map f)) (hi : at? xs n = some x) (hr : TextR P N Γ0 A os ((t, .c (.ptr h ver n.toNat 0)) :: e) H K) : TextR P N Γ0 A (⟨some t, .indexAddr ts y z, ty, pos, after, guard⟩ :: os) e H K :=
  .opG hg (by
    have h0 := at_pos hi
    have h1 := (List.getElem?_eq_some_iff.1 (at_get hi)).1
    have := stp_indexO (H := H) ht hy hz ho h0 (by omega) (by simp)
    simpa using this) hr
theorem TextR.sliceM {α : Type} {ts : TypeId} {y : Operand} {lo hi : Option Operand} {el size : Nat} {rest : Nat × List Leaf} {lo' hi' : Option Int} {m n : Int} {xs ys : List α} {f : α → List Leaf} (ht : se P ts = some (el, size, rest)) (hy : evO e y = some (.c (.slv (xs.map f)))) (hlo : optInt e lo = some lo') (hhi : optInt e hi = some hi') (hm : lo'.getD 0 = m) (hn : hi'.getD (xs.length : Int) = n) (hsub : sub? xs m n = some ys) (hs : ∀ x, (f x).length = size) (hr : TextR P N Γ0 A os ((t, .c (.slv (ys.map f))) :: e) H K) : TextR P N Γ0 A (⟨some t, .slice ts y lo hi none, ty, pos, after, none⟩ :: os) e H K :=
  .op (by
    obtain ⟨h1, h2, h3, rfl⟩ := sub_len hsub
    subst hm hn
    have hall : ∀ r ∈ xs.map f, r.length = size := by
      intro r hr
      obtain ⟨y, _, rfl⟩ := List.mem_map.1 hr
      exact hs y
    have hb : 0 ≤ lo'.getD 0 ∧ lo'.getD 0 ≤ hi'.getD (xs.length : Int) ∧ hi'.getD (xs.length : Int) ≤ (xs.length : Int) := ⟨h1, h2, h3⟩
    simp only [stp, hy, hlo, hhi, sliceV, ht, lenL, List.length_map]
    rw [if_pos hb, if_pos hall]
    simp [List.map_take, List.map_drop]) hr
theorem TextR.gsliceM {guard : Option (Nat × Bool)} (hg : wantE A e guard = some true) {α : Type} {ts : TypeId} {y : Operand} {lo hi : Option Operand} {el size : Nat} {rest : Nat × List Leaf} {lo' hi' : Option Int} {m n : Int} {xs ys : List α} {f : α → List Leaf} (ht : se P ts = some (el, size, rest)) (hy : evO e y = some (.c (.slv (xs.map f)))) (hlo : optInt e lo = some lo') (hhi : optInt e hi = some hi') (hm : lo'.getD 0 = m) (hn : hi'.getD (xs.length : Int) = n) (hsub : sub? xs m n = some ys) (hs : ∀ x, (f x).length = size) (hr : TextR P N Γ0 A os ((t, .c (.slv (ys.map f))) :: e) H K) : TextR P N Γ0 A (⟨some t, .slice ts y lo hi none, ty, pos, after, guard⟩ :: os) e H K :=
  .opG hg (by
    obtain ⟨h1, h2, h3, rfl⟩ := sub_len hsub
    subst hm hn
    have hall : ∀ r ∈ xs.map f, r.length = size := by
      intro r hr
      obtain ⟨y, _, rfl⟩ := List.mem_map.1 hr
      exact hs y
    have hb : 0 ≤ lo'.getD 0 ∧ lo'.getD 0 ≤ hi'.getD (xs.length : Int) ∧ hi'.getD (xs.length : Int) ≤ (xs.length : Int) := ⟨h1, h2, h3⟩
    simp only [stp, hy, hlo, hhi, sliceV, ht, lenL, List.length_map]
    rw [if_pos hb, if_pos hall]
    simp [List.map_take, List.map_drop]) hr
theorem TextR.makeM {α : Type} {ty0 : TypeId} {size by' : Nat} {n : Int} {el : TypeId} {l c : Operand} {k k' : IntKind} {z : List Leaf} {x : α} {xs : List α} {f : α → List Leaf} (h : Nat) (hz : se P ty0 = some (el, size, by', z)) (hh : H.length = h) (hl : evO e l = some (.c (.v (.int k n)))) (hc : evO e c = some (.c (.v (.int k' n)))) (hsz : (Nat.blt 0 size && Nat.ble by' 10000 && (z.length == size)) = true) (hx : mk? n x = some xs) (hf : f x = z) (hs : Snoc (.live 0 size (xs.map f)) H H1) (hr : TextR P N Γ0 A os ((t, .c (.sl h 0 0 xs.length)) :: e) H1 K) : TextR P N Γ0 A (⟨some t, .makeSlice ty0 l c, ty, pos, after, none⟩ :: os) e H K :=
  .op (d := some t) (x := .c (.sl h 0 0 xs.length)) (H1 := H1) (by
    unfold mk? at hx
    split at hx
    · rename_i hb
      cases hx
      simp only [Bool.and_eq_true, Nat.blt_eq, Nat.ble_eq, beq_iff_eq] at hsz
      have h2 : (by' : Int) * n ≤ 281474976710656 := by
        have h3 : (by' : Int) * n ≤ 10000 * 10000000000 := Int.mul_le_mul (by omega) hb.2 hb.1 (by decide)
        omega
      have h4 : n ≤ (maxLen : Int) := Int.le_trans hb.2 (by decide)
      have h5 : 0 < size ∧ z.length = size ∧ 0 ≤ n ∧ True ∧ (by' : Int) * n ≤ 281474976710656 ∧ n ≤ (maxLen : Int) := ⟨hsz.1.1, hsz.2, hb.1, trivial, h2, h4⟩
      have h6 : n ≤ ((maxLen : Nat) : Int) := h4
      simp only [stp, hz, hl, hc]
      rw [if_pos h5, ← hs.eq, hh]
      simp [hf]
    · cases hx) hr
theorem TextR.gmakeM {guard : Option (Nat × Bool)} (hg : wantE A e guard = some true) {α : Type} {ty0 : TypeId} {size by' : Nat} {n : Int} {el : TypeId} {l c : Operand} {k k' : IntKind} {z : List Leaf} {x : α} {xs : List α} {f : α → List Leaf} (h : Nat) (hz : se P ty0 = some (el, size, by', z)) (hh : H.length = h) (hl : evO e l = some (.c (.v (.int k n)))) (hc : evO e c = some (.c (.v (.int k' n)))) (hsz : (Nat.blt 0 size && Nat.ble by' 10000 && (z.length == size)) = true) (hx : mk? n x = some xs) (hf : f x = z) (hs : Snoc (.live 0 size (xs.map f)) H H1) (hr : TextR P N Γ0 A os ((t, .c (.sl h 0 0 xs.length)) :: e) H1 K) : TextR P N Γ0 A (⟨some t, .makeSlice ty0 l c, ty, pos, after, guard⟩ :: os) e H K :=
  .opG hg (d := some t) (x := .c (.sl h 0 0 xs.length)) (H1 := H1) (by
    unfold mk? at hx
    split at hx
    · rename_i hb
      cases hx
      simp only [Bool.and_eq_true, Nat.blt_eq, Nat.ble_eq, beq_iff_eq] at hsz
      have h2 : (by' : Int) * n ≤ 281474976710656 := by
        have h3 : (by' : Int) * n ≤ 10000 * 10000000000 := Int.mul_le_mul (by omega) hb.2 hb.1 (by decide)
        omega
      have h4 : n ≤ (maxLen : Int) := Int.le_trans hb.2 (by decide)
      have h5 : 0 < size ∧ z.length = size ∧ 0 ≤ n ∧ True ∧ (by' : Int) * n ≤ 281474976710656 ∧ n ≤ (maxLen : Int) := ⟨hsz.1.1, hsz.2, hb.1, trivial, h2, h4⟩
      have h6 : n ≤ ((maxLen : Nat) : Int) := h4
      simp only [stp, hz, hl, hc]
      rw [if_pos h5, ← hs.eq, hh]
      simp [hf]
    · cases hx) hr
end
end Go.Nx
