/- Rules of the walk. -/
import Derived.Test.YtdhhkpjbfkbcjaaFwC
import Derived.Sort.Row
import Derived.Sort.Grow
/- More ways of code: scopes, jumps, tests of constants; an own array narrowed, its version forgotten; an own array lent. -/
namespace Go.Nx
set_option linter.unusedVariables false
set_option linter.unusedSimpArgs false

section
variable {F : Fr} {Q : Exit → St → Prop} {S : St}
abbrev Exit.noJ (Q : Exit → St → Prop) : Exit → St → Prop
  | .goto _, _ => False
  | e, S => Q e S
abbrev Exit.jmp (l : Nat) (J : St → Prop) (Q : Exit → St → Prop) : Exit → St → Prop
  | .goto l', S => l' = l ∧ J S
  | e, S => Q e S
theorem least {p : Nat → Prop} : ∀ n, p n → ∃ m, p m ∧ ∀ k, p k → m ≤ k := by
  intro n
  induction n using Nat.strongRecOn with
  | _ n ih =>
    intro hp
    by_cases h : ∃ k, k < n ∧ p k
    · obtain ⟨k, h1, h2⟩ := h
      exact ih k h1 h2
    · exact ⟨n, hp, fun k hk => by
        rcases Nat.lt_or_ge k n with h1 | h1
        · exact absurd ⟨k, h1, hk⟩ h
        · exact h1⟩
open Classical in
end

section
variable {P : Program} {W : Option WW} {os : List Oper} {gs : List (List (Nat × Bool))} {ex : List Bool} {e : Env} {H H1 : List Ob} {ty : TypeId} {pos : String} {after : Array Edge} {guard : Option (Nat × Bool)} {b : Bool} {t : Nat} {K : Env → List Ob → Prop}
/-- A piece of an own array. -/
theorem RunR.sliceOM {α : Type} {ts : TypeId} {y : Operand} {lo hi : Option Operand} {el size h ver : Nat} {rest : Nat × List Leaf} {lo' hi' : Option Int} {m n : Int} {xs ys : List α} {f : α → List Leaf} (ht : se P ts = some (el, size, rest)) (ha : actE e (gs.headD []) = some b) (hw : wOk W (ex.headD false) e H (.slice ts y lo hi none) = true) (hy : evO e y = some (.c (.sl h ver 0 xs.length))) (hlo : optInt e lo = some lo') (hhi : optInt e hi = some hi')
    (ho : obj H h ver = some (size, xs.map f)) (hm : lo'.getD 0 = m) (hn : hi'.getD (xs.length : Int) = n) (hsub : sub? xs m n = some ys)
    (hr : RunR P W os gs.tail ex.tail ((t, .c (.sl h ver m.toNat ys.length)) :: e) H K) : RunR P W (⟨some t, .slice ts y lo hi none, ty, pos, after, guard⟩ :: os) gs ex e H K :=
  .mob rfl rfl ha hw (by
    obtain ⟨h1, h2, h3, rfl⟩ := sub_len hsub
    subst hm hn
    have hb : 0 ≤ lo'.getD 0 ∧ lo'.getD 0 ≤ hi'.getD (xs.length : Int) ∧ hi'.getD (xs.length : Int) ≤ (xs.length : Int) := ⟨h1, h2, h3⟩
    simp only [stp, hy, hlo, hhi, sliceV, ht, lenL, ho]
    rw [if_pos hb]
    simp
    omega) hr
end


theorem ik_under {P : Program} {t : TypeId} {k : IntKind} (h : ik P t = some k) : P.underlying t = some (.int k) := by
  unfold ik at h
  split at h
  · rename_i hu
    cases h
    exact hu
  · cases h
/-- Bit by bit, of two integers of a kind. -/
def andI (k : IntKind) (a b : Int) : Int := k.wrap ((BitVec.ofInt k.bits a &&& BitVec.ofInt k.bits b).toNat)
theorem sub_le {α : Type} {xs ys : List α} {m n : Int} (h : sub? xs m n = some ys) : m.toNat + ys.length ≤ xs.length := by
  obtain ⟨h1, h2, h3, rfl⟩ := sub_len h
  simp
  omega
theorem view_piece {α : Type} {H : List Ob} {h ver z lo len : Nat} {xs : List α} {f : α → List Leaf} (ho : obj H h ver = some (z, xs.map f)) (hle : lo + len ≤ xs.length) : view H (.sl h ver lo len) = some (((xs.drop lo).take len).map f) := by
  have hl : lo + len ≤ (xs.map f).length := by simpa using hle
  simp only [view, ho]
  rw [if_pos hl]
  simp [List.map_take, List.map_drop]
section
variable {P : Program} {W : Option WW} {os : List Oper} {gs : List (List (Nat × Bool))} {ex : List Bool} {e : Env} {H H1 : List Ob} {ty : TypeId} {pos : String} {after : Array Edge} {guard : Option (Nat × Bool)} {b : Bool} {t : Nat} {d : Option Nat} {K : Env → List Ob → Prop}
/-- A piece written over with another slice's first elements. -/
def cpy {α : Type} (xs : List α) (lo len : Nat) (ys : List α) : List α := xs.take lo ++ ys.take len ++ xs.drop (lo + min len ys.length)
theorem RunR.copyM {α : Type} {ts ts' : TypeId} {y z : Operand} {el size h ver lo len : Nat} {rest : Nat × List Leaf} {l : Leaf} (f : α → List Leaf) (xs ys : List α) (ht : se P ts = some (el, size, rest)) (ha : actE e (gs.headD []) = some true) (hw : wOk W (ex.headD false) e H (.call { callee := .builtin .copy, args := #[y, z], argTypes := #[ts, ts'] }) = true)
    (hy : evO e y = some (.c (.sl h ver lo len))) (ho : obj H h ver = some (size, xs.map f)) (hle : lo + len ≤ xs.length) (hz : evO e z = some (.c l)) (hv : view H l = some (ys.map f)) (hf : ∀ x, (f x).length = size)
    (hs : SetAt (.live ver size ((cpy xs lo len ys).map f)) H h H1) (hr : RunR P W os gs.tail ex.tail (putE e d (.c (I ((min ys.length len : Nat) : Int)))) H1 K) : RunR P W (⟨d, .call { callee := .builtin .copy, args := #[y, z], argTypes := #[ts, ts'] }, ty, pos, after, guard⟩ :: os) gs ex e H K :=
  .fix rfl ha hw (x := .c (I ((min ys.length len : Nat) : Int))) (H1 := H1) (by
    have h1 : ∀ r ∈ ys.map f, r.length = size := by
      intro r hr
      obtain ⟨y, _, rfl⟩ := List.mem_map.1 hr
      exact hf y
    have h4 : lo + len ≤ (xs.map f).length ∧ True ∧ ∀ r ∈ ys.map f, r.length = size := ⟨by simpa using hle, trivial, h1⟩
    simp only [stp, hy, hz, copyV, ht, hv, ho]
    rw [if_pos h4]
    have h5 : segRows (xs.map f) lo ((ys.map f).take len) = (cpy xs lo len ys).map f := by
      simp [segRows, cpy, List.map_take, List.map_drop]
    rw [h5, hs.eq]
    simp) hr
theorem length_cpy {α : Type} (xs : List α) (lo len : Nat) (ys : List α) (h : lo + len ≤ xs.length) : (cpy xs lo len ys).length = xs.length := by
  simp [cpy]
  omega
/-- A piece made nought. -/
def clr {α : Type} (xs : List α) (lo len : Nat) (z : α) : List α := xs.take lo ++ List.replicate len z ++ xs.drop (lo + len)
theorem length_clr {α : Type} (xs : List α) (lo len : Nat) (z : α) (h : lo + len ≤ xs.length) : (clr xs lo len z).length = xs.length := by
  simp [clr]
  omega
theorem RunR.clearM {α : Type} {ts : TypeId} {y : Operand} {el size by' h ver lo len : Nat} {z0 : List Leaf} (f : α → List Leaf) (xs : List α) (z : α) (ht : se P ts = some (el, size, by', z0)) (ha : actE e (gs.headD []) = some true) (hw : wOk W (ex.headD false) e H (.call { callee := .builtin .clear, args := #[y], argTypes := #[ts] }) = true)
    (hy : evO e y = some (.c (.sl h ver lo len))) (ho : obj H h ver = some (size, xs.map f)) (hle : lo + len ≤ xs.length) (hz : f z = z0) (hf : ∀ x, (f x).length = size)
    (hs : SetAt (.live ver size ((clr xs lo len z).map f)) H h H1) (hr : RunR P W os gs.tail ex.tail (putE e d unit) H1 K) : RunR P W (⟨d, .call { callee := .builtin .clear, args := #[y], argTypes := #[ts] }, ty, pos, after, guard⟩ :: os) gs ex e H K :=
  .fix rfl ha hw (x := unit) (H1 := H1) (by
    have h4 : lo + len ≤ (xs.map f).length ∧ True ∧ z0.length = size := ⟨by simpa using hle, trivial, by rw [← hz]; exact hf z⟩
    simp only [stp, hy, clearV, ht, ho]
    rw [if_pos h4]
    have h5 : segRows (xs.map f) lo (List.replicate len z0) = (clr xs lo len z).map f := by
      simp [segRows, clr, List.map_take, List.map_drop, hz]
    rw [h5, hs.eq]) hr
/-- So many zero values, appended to nothing. -/
theorem RunR.appendZ {α : Type} {ts ti : TypeId} {y z : Operand} {el size by' : Nat} {z0 : List Leaf} {k k' : IntKind} {n : Int} (h : Nat) (f : α → List Leaf) (zv : α) (zs : List α) (hm : mk? n zv = some zs) (hti : ik P ti = some k') (ht : se P ts = some (el, size, by', z0)) (ha : actE e (gs.headD []) = some true) (hw : wOk W (ex.headD false) e H (.call { callee := .builtin .append, args := #[y, z], argTypes := #[ts, ti] }) = true)
    (hy : evO e y = some (.c nilS)) (hz : evO e z = some (.c (.v (.int k n)))) (hfz : f zv = z0) (hsz : (Nat.blt 0 size && (Nat.ble by' 10000 && Nat.beq z0.length size)) = true) (hh : H.length = h)
    (hs : Snoc (.live 0 size (zs.map f)) H H1) (hr : RunR P W os gs.tail ex.tail ((t, .c (.sl h 0 0 zs.length)) :: e) H1 K) : RunR P W (⟨some t, .call { callee := .builtin .append, args := #[y, z], argTypes := #[ts, ti] }, ty, pos, after, guard⟩ :: os) gs ex e H K :=
  .fix rfl ha hw (x := .c (.sl h 0 0 zs.length)) (H1 := H1) (by
    unfold mk? at hm
    split at hm
    case isFalse => cases hm
    rename_i hb
    cases hm
    have hu := ik_under hti
    simp only [Bool.and_eq_true, Nat.blt_eq, Nat.ble_eq, Nat.beq_eq] at hsz
    have h2 : n.toNat * by' ≤ 140737488355328 := Nat.le_trans (Nat.mul_le_mul (show n.toNat ≤ 10000000000 by omega) hsz.2.1) (by decide)
    simp only [stp, hy, hz, appendV, ht, view, Go.Nx.appendZ, hu]
    rw [if_pos ⟨hsz.1, hsz.2.2, hb.1, by omega, h2⟩, hh, ← hs.eq]
    simp [hfz]) hr
end
theorem narrow_ctx {Γ : Ctx} {H : List Ob} (hok : HeapOk Γ H) {h ver z lo len : Nat} {rows rows' : List (List Leaf)} {y : Value} (hy2 : conc Γ (.sl h ver lo len) y) (ho : obj H h ver = some (z, rows)) (hle : lo + len ≤ rows.length) (hrows : (rows.drop lo).take len = rows') :
    ∃ Γ', Γ'.w = Γ.w ∧ Γ.Ext Γ' ∧ HeapOk Γ' (H.set h (.live (ver + 1) z rows')) ∧ conc Γ' (.sl h (ver + 1) 0 len) y := by
  subst hrows
  obtain ⟨inf, hin, hcap, hb⟩ := hok.obj ho
  have hhl : h < H.length := (List.getElem?_eq_some_iff.1 (obj_some ho)).1
  have hhs : h < Γ.hs.length := by rw [← hok.len]; exact hhl
  have hy3 := hy2
  simp only [conc] at hy3
  obtain ⟨inf2, ver2, a', cap, hin2, _, hyv, hv⟩ := hy3
  rw [hin] at hin2
  cases hin2
  have hv := hv rfl
  have hold_len : ((rows.drop lo).take len).length = len := by simp; omega
  rcases hv with ⟨hbase, rfl, rfl, rfl, rfl⟩ | ⟨b, a2, hbase, rfl, rfl, hlc, ha⟩
  · simp only [hbase] at hb
    subst hb
    refine ⟨Γ.bump h inf (ver + 1), rfl, ⟨Le_bump hin (by omega), rfl, rfl, rfl, Nat.le_refl _, fun _ _ _ => rfl, fun _ h => .inl h, fun _ h => .inl h⟩, by simpa using HeapOk_bump hok (obj_some ho) hin hbase, ?_⟩
    simp only [conc]
    exact ⟨inf, ver + 1, none, 0, by simp [Ctx.bump, hhs], Nat.le_refl _, hyv, fun _ => .inl (by simp [hbase])⟩
  · simp only [hbase] at hb
    obtain ⟨hzz, hX, hF, hrc, hisz, cells, T, hh, hcs, hrows⟩ := hb
    have hbl := hok.X b hX
    have hnewinf : inf.off + lo * inf.sz + (inf.cap - lo) * inf.sz ≤ cells.size := by
      rw [Nat.add_assoc, ← Nat.add_mul, show lo + (inf.cap - lo) = inf.cap by omega]; exact hcs
    have hle' : Γ.Le (Γ.turn Γ.w h ⟨some b, inf.off + lo * inf.sz, inf.cap - lo, inf.sz⟩ (ver + 1) b) := Le_turn hin (.inl (by omega)) (fun _ _ => rfl)
    refine ⟨Γ.turn Γ.w h ⟨some b, inf.off + lo * inf.sz, inf.cap - lo, inf.sz⟩ (ver + 1) b, rfl, ⟨hle', rfl, rfl, rfl, Nat.le_refl _, fun _ _ _ => rfl, fun _ h => .inl h, fun c hc => ?_⟩, ?_, ?_⟩
    · rcases hc with hc | hc
      · exact .inl hc
      · exact .inl (hc ▸ hX)
    · refine HeapOk_turn (Γ' := Γ.turn Γ.w h ⟨some b, inf.off + lo * inf.sz, inf.cap - lo, inf.sz⟩ (ver + 1) b) hok (obj_some ho) hin hle' rfl rfl (fun c => Iff.rfl) (Nat.le_refl _) rfl (fun _ _ _ => rfl) (.inl hbase) hbl (by simp only; omega) ?_ hisz hzz cells T hh hnewinf ?_
      · simp only [hold_len]; omega
      · exact concRows_mk fun k r hk => by
          have := concRows_get (concRows_take (concRows_drop hrows lo) len) hk
          exact ⟨this.1, concRow_of hle' b _ r (fun _ _ _ => rfl) this.2⟩
    · simp only [conc]
      refine ⟨⟨some b, inf.off + lo * inf.sz, inf.cap - lo, inf.sz⟩, ver + 1, some a2, inf.cap - lo, by simp [Ctx.turn, hhs], Nat.le_refl _, hyv, fun _ => .inr ⟨b, a2, rfl, rfl, by simp, by simp; omega, fun hlt => ?_⟩⟩
      simp only at hlt
      rw [ha (by omega)]
      simp
/-- The piece is the whole from here on; older names of the array are stale. -/
theorem narrowE {F : Fr} {e : Env} {H H1 : List Ob} {t h ver z lo len : Nat} {rows : List (List Leaf)} {rows' : List (List Leaf)} (ht : e.get t = some (.c (.sl h ver lo len))) (ho : obj H h ver = some (z, rows)) (hle : lo + len ≤ rows.length) (hrows : (rows.drop lo).take len = rows') (hs : SetAt (.live (ver + 1) z rows') H h H1) : St.Weak F ⟨e, H⟩ ⟨(t, .c (.sl h (ver + 1) 0 len)) :: e, H1⟩ := by
  rw [← hs.eq]
  intro a w hsat
  obtain ⟨d, s, Γ, rfl, hext, hok, henv⟩ := hsat
  obtain ⟨y, hy1, hy2⟩ := henv t _ ht
  obtain ⟨Γ', hw, hE, hH, hc⟩ := narrow_ctx hok (by simpa only [concV] using hy2) ho hle hrows
  refine ⟨d, s, Γ', hw, hext.trans hE, hH, fun t' x hx => ?_⟩
  simp only [Env.get] at hx
  split at hx
  · rename_i htt
    subst htt
    cases hx
    exact ⟨y, hy1, hc⟩
  · obtain ⟨y', k1, k2⟩ := henv t' x hx
    exact ⟨y', k1, concV_mono hE.le _ _ k2⟩
theorem sub_rows {α : Type} {f : α → List Leaf} {xs ys : List α} {m n : Int} (h : sub? xs m n = some ys) : ((xs.map f).drop m.toNat).take ys.length = ys.map f := by
  obtain ⟨h1, h2, h3, rfl⟩ := sub_len h
  rw [← List.map_drop, ← List.map_take]
  congr 1
  apply List.ext_getElem?
  intro j
  simp only [List.getElem?_take, List.getElem?_drop, List.length_drop, List.length_take]
  split
  · rw [if_pos (by omega)]
  · rw [if_neg (by omega)]

/-! An own array of which only a piece is named from here on; an own array's version forgotten. -/
def nr0 (h : Nat) : Leaf → Bool
  | .sl h' _ _ _ => !(Nat.beq h' h)
  | .ptr h' _ _ _ => !(Nat.beq h' h)
  | l => hfL l
def nwL (h ver lo len : Nat) : Leaf → Leaf
  | .sl h' v lo' len' => bif Nat.beq h' h then .sl h 0 0 len else .sl h' v lo' len'
  | l => l
def nwK (h ver lo len : Nat) : Leaf → Bool
  | .sl h' v lo' len' => if h' = h then v == ver && (lo' == lo && len' == len) else true
  | .ptr h' _ _ _ => !(Nat.beq h' h)
  | .clo _ caps => caps.all (nr0 h)
  | l => hfL l
def rvL (h ver : Nat) : Leaf → Leaf
  | .sl h' v lo' len' => bif Nat.beq h' h then .sl h 0 lo' len' else .sl h' v lo' len'
  | .ptr h' v i k => bif Nat.beq h' h then .ptr h 0 i k else .ptr h' v i k
  | l => l
def rvK (h ver : Nat) : Leaf → Bool
  | .sl h' v _ _ => if h' = h then v == ver else true
  | .ptr h' v _ _ => if h' = h then v == ver else true
  | .clo _ caps => caps.all (nr0 h)
  | l => hfL l
def allVp (p : Leaf → Bool) : AVal → Bool
  | .c l => p l
  | .agg cs => cs.all p
  | .tup _ => false
def allO (p : Leaf → Bool) : Ob → Bool
  | .live _ _ rows => rows.all fun r => r.all p
  | .dead => true

end Go.Nx
/- The rules of the operations, for a region in the text's order. -/
namespace Go.Nx
set_option linter.unusedVariables false
set_option linter.unusedSimpArgs false
section
variable {P : Program} {N : Nat} {Γ0 : Ctx} {A os : List Oper} {e : Env} {H H1 : List Ob} {ty : TypeId} {pos : String} {after : Array Edge} {t : Nat} {d : Option Nat} {K : Env → List Ob → Prop}
theorem TextR.sliceOM {α : Type} {ts : TypeId} {y : Operand} {lo hi : Option Operand} {el size h ver : Nat} {rest : Nat × List Leaf} {lo' hi' : Option Int} {m n : Int} {xs ys : List α} {f : α → List Leaf} (ht : se P ts = some (el, size, rest)) (hy : evO e y = some (.c (.sl h ver 0 xs.length))) (hlo : optInt e lo = some lo') (hhi : optInt e hi = some hi') (ho : obj H h ver = some (size, xs.map f)) (hm : lo'.getD 0 = m) (hn : hi'.getD (xs.length : Int) = n) (hsub : sub? xs m n = some ys) (hr : TextR P N Γ0 A os ((t, .c (.sl h ver m.toNat ys.length)) :: e) H K) : TextR P N Γ0 A (⟨some t, .slice ts y lo hi none, ty, pos, after, none⟩ :: os) e H K :=
  .op (by
    obtain ⟨h1, h2, h3, rfl⟩ := sub_len hsub
    subst hm hn
    have hb : 0 ≤ lo'.getD 0 ∧ lo'.getD 0 ≤ hi'.getD (xs.length : Int) ∧ hi'.getD (xs.length : Int) ≤ (xs.length : Int) := ⟨h1, h2, h3⟩
    simp only [stp, hy, hlo, hhi, sliceV, ht, lenL, ho]
    rw [if_pos hb]
    simp
    omega) hr
theorem TextR.copyM {α : Type} {ts ts' : TypeId} {y z : Operand} {el size h ver lo len : Nat} {rest : Nat × List Leaf} {l : Leaf} (f : α → List Leaf) (xs ys : List α) (ht : se P ts = some (el, size, rest)) (hy : evO e y = some (.c (.sl h ver lo len))) (ho : obj H h ver = some (size, xs.map f)) (hle : lo + len ≤ xs.length) (hz : evO e z = some (.c l)) (hv : view H l = some (ys.map f)) (hf : ∀ x, (f x).length = size) (hs : SetAt (.live ver size ((cpy xs lo len ys).map f)) H h H1) (hr : TextR P N Γ0 A os (putE e d (.c (I ((min ys.length len : Nat) : Int)))) H1 K) : TextR P N Γ0 A (⟨d, .call { callee := .builtin .copy, args := #[y, z], argTypes := #[ts, ts'] }, ty, pos, after, none⟩ :: os) e H K :=
  .op (x := .c (I ((min ys.length len : Nat) : Int))) (H1 := H1) (by
    have h1 : ∀ r ∈ ys.map f, r.length = size := by
      intro r hr
      obtain ⟨y, _, rfl⟩ := List.mem_map.1 hr
      exact hf y
    have h4 : lo + len ≤ (xs.map f).length ∧ True ∧ ∀ r ∈ ys.map f, r.length = size := ⟨by simpa using hle, trivial, h1⟩
    simp only [stp, hy, hz, copyV, ht, hv, ho]
    rw [if_pos h4]
    have h5 : segRows (xs.map f) lo ((ys.map f).take len) = (cpy xs lo len ys).map f := by
      simp [segRows, cpy, List.map_take, List.map_drop]
    rw [h5, hs.eq]
    simp) hr
theorem TextR.clearM {α : Type} {ts : TypeId} {y : Operand} {el size by' h ver lo len : Nat} {z0 : List Leaf} (f : α → List Leaf) (xs : List α) (z : α) (ht : se P ts = some (el, size, by', z0)) (hy : evO e y = some (.c (.sl h ver lo len))) (ho : obj H h ver = some (size, xs.map f)) (hle : lo + len ≤ xs.length) (hz : f z = z0) (hf : ∀ x, (f x).length = size) (hs : SetAt (.live ver size ((clr xs lo len z).map f)) H h H1) (hr : TextR P N Γ0 A os (putE e d unit) H1 K) : TextR P N Γ0 A (⟨d, .call { callee := .builtin .clear, args := #[y], argTypes := #[ts] }, ty, pos, after, none⟩ :: os) e H K :=
  .op (x := unit) (H1 := H1) (by
    have h4 : lo + len ≤ (xs.map f).length ∧ True ∧ z0.length = size := ⟨by simpa using hle, trivial, by rw [← hz]; exact hf z⟩
    simp only [stp, hy, clearV, ht, ho]
    rw [if_pos h4]
    have h5 : segRows (xs.map f) lo (List.replicate len z0) = (clr xs lo len z).map f := by
      simp [segRows, clr, List.map_take, List.map_drop, hz]
    rw [h5, hs.eq]) hr
theorem TextR.appendZ {α : Type} {ts ti : TypeId} {y z : Operand} {el size by' : Nat} {z0 : List Leaf} {k k' : IntKind} {n : Int} (h : Nat) (f : α → List Leaf) (zv : α) (zs : List α) (hm : mk? n zv = some zs) (hti : ik P ti = some k') (ht : se P ts = some (el, size, by', z0)) (hy : evO e y = some (.c nilS)) (hz : evO e z = some (.c (.v (.int k n)))) (hfz : f zv = z0) (hsz : (Nat.blt 0 size && (Nat.ble by' 10000 && Nat.beq z0.length size)) = true) (hh : H.length = h) (hs : Snoc (.live 0 size (zs.map f)) H H1) (hr : TextR P N Γ0 A os ((t, .c (.sl h 0 0 zs.length)) :: e) H1 K) : TextR P N Γ0 A (⟨some t, .call { callee := .builtin .append, args := #[y, z], argTypes := #[ts, ti] }, ty, pos, after, none⟩ :: os) e H K :=
  .op (x := .c (.sl h 0 0 zs.length)) (H1 := H1) (by
    unfold mk? at hm
    split at hm
    case isFalse => cases hm
    rename_i hb
    cases hm
    have hu := ik_under hti
    simp only [Bool.and_eq_true, Nat.blt_eq, Nat.ble_eq, Nat.beq_eq] at hsz
    have h2 : n.toNat * by' ≤ 140737488355328 := Nat.le_trans (Nat.mul_le_mul (show n.toNat ≤ 10000000000 by omega) hsz.2.1) (by decide)
    simp only [stp, hy, hz, appendV, ht, view, Go.Nx.appendZ, hu]
    rw [if_pos ⟨hsz.1, hsz.2.2, hb.1, by omega, h2⟩, hh, ← hs.eq]
    simp [hfz]) hr
end
end Go.Nx
/- An own array of integers that a callee turns in place. -/
namespace Go.Nx
open Go.Sort
set_option linter.unusedVariables false
set_option linter.unusedSimpArgs false

abbrev rI (x : Int) : List Leaf := [.v (.int .i64 x)]
theorem concRow_rI {Γ : Ctx} {b off : Nat} {x : Int} : concRow Γ b off (rI x) ↔ Γ.w.cell? ⟨b, off, none⟩ = some (.int .i64 x) := by
  simp only [rI, concRow, conc, and_true]
  constructor
  · rintro ⟨y, h1, h2, _⟩
    rw [h1, h2]
  · intro h
    exact ⟨_, h, rfl, rfl⟩
theorem concRows_rI {Γ : Ctx} {b : Nat} : ∀ {off : Nat} {xs : List Int}, concRows Γ b 1 off (xs.map rI) ↔ ∀ j x, xs[j]? = some x → Γ.w.cell? ⟨b, off + j, none⟩ = some (.int .i64 x)
  | off, [] => by simp [concRows]
  | off, x :: xs => by
    simp only [List.map_cons, concRows, concRow_rI, concRows_rI (off := off + 1) (xs := xs)]
    constructor
    · rintro ⟨_, h1, h2⟩ j y hj
      cases j with
      | zero => simp at hj; subst hj; simpa using h1
      | succ j =>
        have := h2 j y (by simpa using hj)
        rwa [show off + (j + 1) = off + 1 + j by omega]
    · intro h
      refine ⟨rfl, by simpa using h 0 x rfl, fun j y hj => ?_⟩
      have := h (j + 1) y (by simpa using hj)
      rwa [show off + (j + 1) = off + 1 + j by omega] at this
theorem row_turn {Γ : Ctx} {H : List Ob} (hok : HeapOk Γ H) {h ver : Nat} {xs ys : List Int} (ho : H[h]? = some (.live ver 1 (xs.map rI))) {inf : Info} {b : Nat} (hin : Γ.hs[h]? = some (inf, ver)) (hb : inf.base = some b) (hl : ys.length = xs.length) (n : Nat) (os : Array Obj) :
    ∃ Γ', Γ'.w = grow (putRow (Value.int .i64) (Sort.ahead Γ.w n) b inf.off ys.toArray) os ∧ Γ.Ext Γ' ∧ HeapOk Γ' (H.set h (.live ver 1 (ys.map rI))) ∧ Γ'.hs = Γ.hs := by
  obtain ⟨i2, g1, hcap, g2⟩ := hok.ob h _ ho
  rw [hin] at g1
  cases g1
  simp only [hb] at g2
  obtain ⟨b1, hx, hnF, b4, b5, cells, T, b6, b7, b8⟩ := g2
  have hbl := hok.X b hx
  have hput : (putRow (Value.int .i64) (Sort.ahead Γ.w n) b inf.off ys.toArray).heap[b]? = some (.cells (putCells (Value.int .i64) inf.off ys.toArray cells) T (0, 0)) := by
    simp [putRow, mapBlock, Sort.ahead, Array.getElem?_modify, b6, onCells]
  have hsz1 : (putRow (Value.int .i64) (Sort.ahead Γ.w n) b inf.off ys.toArray).heap.size = Γ.w.heap.size := by simp [putRow, mapBlock, Sort.ahead]
  have hmem : ∀ c, c < Γ.w.heap.size → c ≠ b → (grow (putRow (Value.int .i64) (Sort.ahead Γ.w n) b inf.off ys.toArray) os).heap[c]? = Γ.w.heap[c]? := by
    intro c hc hcb
    rw [heap_grow_old _ _ (by rw [hsz1]; exact hc)]
    have : b ≠ c := fun e => hcb e.symm
    simp [putRow, mapBlock, Sort.ahead, Array.getElem?_modify, this]
  have hcell : (grow (putRow (Value.int .i64) (Sort.ahead Γ.w n) b inf.off ys.toArray) os).heap[b]? = some (.cells (putCells (Value.int .i64) inf.off ys.toArray cells) T (0, 0)) := by
    rw [heap_grow_old _ _ (by rw [hsz1]; exact hbl), hput]
  have hle : Γ.Le (Γ.turn (grow (putRow (Value.int .i64) (Sort.ahead Γ.w n) b inf.off ys.toArray) os) h inf ver b) :=
    Le_turn hin (.inr ⟨rfl, rfl⟩) (fun c hF => hmem c (hok.F c hF) (fun e => hnF (e ▸ hF)))
  have hsize : Γ.w.heap.size ≤ (grow (putRow (Value.int .i64) (Sort.ahead Γ.w n) b inf.off ys.toArray) os).heap.size := by
    simp only [grow, Array.size_append, hsz1]
    omega
  have hset : Γ.hs.set h (inf, ver) = Γ.hs := by
    apply List.ext_getElem?
    intro j
    by_cases hj : j = h
    · subst hj
      rw [List.getElem?_set_self (List.getElem?_eq_some_iff.1 hin).1, hin]
    · rw [List.getElem?_set_ne (fun e => hj e.symm)]
  refine ⟨Γ.turn (grow (putRow (Value.int .i64) (Sort.ahead Γ.w n) b inf.off ys.toArray) os) h inf ver b, rfl, ⟨hle, rfl, rfl, rfl, hsize, fun c hc hX => hmem c hc (fun e => hX (e ▸ hx)), fun c hF => .inl hF, fun c hX => ?_⟩, ?_, hset⟩
  · rcases hX with hX | hX
    · exact .inl hX
    · exact .inl (hX ▸ hx)
  · simp only [List.length_map] at b4
    refine HeapOk_turn (Γ' := Γ.turn (grow (putRow (Value.int .i64) (Sort.ahead Γ.w n) b inf.off ys.toArray) os) h inf ver b) hok ho hin hle rfl rfl (fun c => Iff.rfl) hsize hb (fun c hc hcb => hmem c hc hcb) (.inl hb) (Nat.lt_of_lt_of_le hbl hsize)
      hcap (by simp; omega) b5 b1 _ T hcell (by simpa [putCells] using b7) ?_
    rw [b1, concRows_rI]
    intro j x hj
    have hjl : j < ys.length := (List.getElem?_eq_some_iff.1 hj).1
    rw [show (Γ.turn (grow (putRow (Value.int .i64) (Sort.ahead Γ.w n) b inf.off ys.toArray) os) h inf ver b).w = grow (putRow (Value.int .i64) (Sort.ahead Γ.w n) b inf.off ys.toArray) os from rfl, cell_of hcell]
    rw [b1] at b7
    have hc : inf.off + j < cells.size := by omega
    have he : ys[j] = x := (List.getElem?_eq_some_iff.1 hj).2
    simp [putCells, hc, hjl, he]

/-- A callee that turns an own array of integers in place, and answers nothing. -/
theorem Call.turns {P : Program} {f : FuncId} {H H1 : List Ob} {h ver : Nat} {xs ys : List Int} (hent : enters P f = true) (ho : H[h]? = some (.live ver 1 (xs.map rI))) (hl : ys.length = xs.length) (hs : H.set h (.live ver 1 (ys.map rI)) = H1)
    (hC : 0 < xs.length → ∀ (blk off cap : Nat) (w : World), Holds (Value.int .i64) w blk off xs.toArray → blk < w.heap.size → xs.length ≤ cap →
      Calls P f #[.slice (some ⟨blk, off, none⟩) xs.length cap] w fun e w' => e = .returned (.tuple #[]) ∧ ∃ n os, w' = grow (putRow (Value.int .i64) (Sort.ahead w n) blk off ys.toArray) os)
    (hE : xs.length = 0 → ∀ (p : Option Addr) (cap : Nat) (w : World), Calls P f #[.slice p 0 cap] w fun e w' => e = .returned (.tuple #[]) ∧ w' = w) :
    Nx.Call P f [.c (.sl h ver 0 xs.length)] H fun r' H' => r' = .tup [] ∧ H' = H1 := by
  subst hs
  refine ⟨hent, fun Γ hok args' hc => ?_⟩
  simp only [concVs, concV] at hc
  obtain ⟨y, ys', e1, hy, rfl⟩ := hc
  obtain rfl : args' = #[y] := by cases args'; simp_all
  simp only [conc] at hy
  obtain ⟨inf, ver', a, cap, h1, h2, rfl, h4⟩ := hy
  obtain ⟨i2, g1, hcap, g2⟩ := hok.ob h _ ho
  rw [h1] at g1
  cases g1
  rcases Nat.eq_zero_or_pos xs.length with h0 | h0
  · have e0 : xs = [] := List.eq_nil_of_length_eq_zero h0
    subst e0
    obtain rfl : ys = [] := List.eq_nil_of_length_eq_zero (by simpa using hl)
    refine (hE rfl a cap Γ.w).mono fun e w' ⟨he, hw⟩ => ?_
    subst he hw
    refine ⟨_, _, Γ, _, rfl, ⟨rfl, rfl⟩, rfl, .refl Γ, ?_, ?_⟩
    · have : H.set h (.live ver 1 ([].map rI)) = H := by
        apply List.ext_getElem?
        intro j
        by_cases hj : j = h
        · subst hj
          rw [List.getElem?_set_self (List.getElem?_eq_some_iff.1 ho).1, ho]
        · rw [List.getElem?_set_ne (fun e => hj e.symm)]
      rw [this]
      exact hok
    · simp only [concV, concVs]
      exact ⟨#[], rfl, rfl⟩
  · rcases h4 rfl with ⟨_, _, _, _, c5⟩ | ⟨b, a', c1, c2, c3, c4, c5⟩
    · omega
    · have h5 := c5 (by omega)
      subst h5 c2
      simp only [Nat.zero_mul, Nat.add_zero]
      have g3 := g2
      simp only [c1] at g3
      obtain ⟨b1, hx, hnF, b4, b5, cells, T, b6, b7, b8⟩ := g3
      rw [b1] at b8
      have b9 := concRows_rI.1 b8
      refine (hC h0 b inf.off cap Γ.w (fun j hj => ⟨?_, by simp [World.frozen?, b6]⟩) (hok.X b hx) (by rw [c3]; omega)).mono fun e w' ⟨he, n, os, hw⟩ => ?_
      · have hj' : j < xs.length := by simpa using hj
        have := b9 j xs[j] (by simp [hj'])
        rw [this]
        simp [hj']
      · obtain ⟨Γ', k1, k2, k3, k4⟩ := row_turn hok ho h1 c1 hl n os
        refine ⟨_, _, Γ', _, he, ⟨rfl, rfl⟩, by rw [k1, hw], k2, k3, ?_⟩
        simp only [concV, concVs]
        exact ⟨#[], rfl, rfl⟩

/-- A callee that turns an own array of integers in place, and answers its first part. -/
theorem Call.turnsCut {P : Program} {f : FuncId} {H H1 : List Ob} {h ver m : Nat} {xs ys : List Int} (hent : enters P f = true) (ho : H[h]? = some (.live ver 1 (xs.map rI))) (hl : ys.length = xs.length) (hm : m ≤ xs.length) (hs : H.set h (.live ver 1 (ys.map rI)) = H1)
    (hC : 0 < xs.length → ∀ (blk off cap : Nat) (w : World), Holds (Value.int .i64) w blk off xs.toArray → blk < w.heap.size → xs.length ≤ cap →
      Calls P f #[.slice (some ⟨blk, off, none⟩) xs.length cap] w fun e w' => e = .returned (.slice (some ⟨blk, off, none⟩) m cap) ∧ ∃ n os, w' = grow (putRow (Value.int .i64) (Sort.ahead w n) blk off ys.toArray) os)
    (hE : xs.length = 0 → ∀ (p : Option Addr) (cap : Nat) (w : World), Calls P f #[.slice p 0 cap] w fun e w' => e = .returned (.slice p 0 cap) ∧ w' = w) :
    Nx.Call P f [.c (.sl h ver 0 xs.length)] H fun r' H' => r' = .c (.sl h ver 0 m) ∧ H' = H1 := by
  subst hs
  refine ⟨hent, fun Γ hok args' hc => ?_⟩
  simp only [concVs, concV] at hc
  obtain ⟨y, ys', e1, hy, rfl⟩ := hc
  obtain rfl : args' = #[y] := by cases args'; simp_all
  have hy0 := hy
  simp only [conc] at hy
  obtain ⟨inf, ver', a, cap, h1, h2, rfl, h4⟩ := hy
  obtain ⟨i2, g1, hcap, g2⟩ := hok.ob h _ ho
  rw [h1] at g1
  cases g1
  rcases Nat.eq_zero_or_pos xs.length with h0 | h0
  · have e0 : xs = [] := List.eq_nil_of_length_eq_zero h0
    subst e0
    obtain rfl : ys = [] := List.eq_nil_of_length_eq_zero (by simpa using hl)
    obtain rfl : m = 0 := by simpa using hm
    refine (hE rfl a cap Γ.w).mono fun e w' ⟨he, hw⟩ => ?_
    subst he hw
    refine ⟨_, _, Γ, _, rfl, ⟨rfl, rfl⟩, rfl, .refl Γ, ?_, hy0⟩
    have : H.set h (.live ver 1 ([].map rI)) = H := by
      apply List.ext_getElem?
      intro j
      by_cases hj : j = h
      · subst hj
        rw [List.getElem?_set_self (List.getElem?_eq_some_iff.1 ho).1, ho]
      · rw [List.getElem?_set_ne (fun e => hj e.symm)]
    rw [this]
    exact hok
  · rcases h4 rfl with ⟨_, _, _, _, c5⟩ | ⟨b, a', c1, c2, c3, c4, c5⟩
    · omega
    · have h5 := c5 (by omega)
      subst h5 c2
      simp only [Nat.zero_mul, Nat.add_zero]
      have g3 := g2
      simp only [c1] at g3
      obtain ⟨b1, hx, hnF, b4, b5, cells, T, b6, b7, b8⟩ := g3
      rw [b1] at b8
      have b9 := concRows_rI.1 b8
      refine (hC h0 b inf.off cap Γ.w (fun j hj => ⟨?_, by simp [World.frozen?, b6]⟩) (hok.X b hx) (by rw [c3]; omega)).mono fun e w' ⟨he, n, os, hw⟩ => ?_
      · have hj' : j < xs.length := by simpa using hj
        have := b9 j xs[j] (by simp [hj'])
        rw [this]
        simp [hj']
      · obtain ⟨Γ', k1, k2, k3, k4⟩ := row_turn hok ho h1 c1 hl n os
        refine ⟨_, _, Γ', _, he, ⟨rfl, rfl⟩, by rw [k1, hw], k2, k3, ?_⟩
        simp only [concV, conc]
        refine ⟨inf, ver, _, cap, by rw [k4]; exact h1, Nat.le_refl _, rfl, fun _ => .inr ⟨b, _, c1, rfl, c3, by omega, fun _ => by simp⟩⟩
end Go.Nx
/- A region of which operations may go many ways: all of them. -/
namespace Go.Nx
set_option linter.unusedVariables false
set_option linter.unusedSimpArgs false

/-- What goes on without a call. -/
def Calm (r : Result Next) : Prop :=
  match r with
  | .ok (.enter _ _) _ => False
  | .ok (.row _ _) _ => False
  | _ => True
def calmOp : Op → Bool
  | .move _ | .assign _ | .alloc _ | .box _ _ | .build _ _ | .buildSlice _ _ _ | .load _ _ | .store _ _ _ | .binOp _ _ _ _ _ | .unOp _ _ _ | .convert _ _ _ | .makeSlice _ _ _ | .slice _ _ _ _ _ | .fieldAddr _ _ _ | .field _ _ _ | .indexAddr _ _ _ | .index _ _ _ | .extract _ _ => true
  | .call { callee := .builtin .append, .. } | .call { callee := .builtin .len, .. } => true
  | _ => false
/-- What can't begin ahead of both of the two. -/
def shutOk (l : List Oper) (B : List Nat) (x y : Nat) : Bool :=
  B.contains x && B.contains y && (List.range l.length).all fun k => match l[k]? with
    | none => true
    | some o => if B.contains k then (Nat.beq k x || Nat.beq k y || o.after.any fun e => Region.binds .any e && B.contains e.on) else calmOp o.op
/-- Wherever a region's operations begin. -/
def RegAny (F : Fr) (l : List Oper) (Q : Exit → St → Prop) (S : St) : Prop :=
  ∀ a w, Sat F.n F.Γ S a w → wpAny F.P .any l.toArray (fun ex a' w' => ∃ S', Q ex S' ∧ Sat F.n F.Γ S' a' w') l.length (Array.replicate l.length false) a w

theorem Match.start {ps : List Nat} {l : List Oper} {y : Nat} (hr : RowOk l ps y) : Match ps l.length (Array.replicate l.length false) (Array.replicate l.length false) :=
  ⟨by simp, by simp, fun i hi => by
    have h1 := hr.lt1 i hi
    rw [Array.getD_eq_getD_getElem?, Array.getD_eq_getD_getElem?, Array.getElem?_replicate, Array.getElem?_replicate, if_pos hi, if_pos h1]⟩
theorem RegAny.leaf {F : Fr} {S S0 : St} {l l' : List Oper} (W : WW) (gs : List (List (Nat × Bool))) (ex : List Bool) (live : List Nat) {n : Nat} (hn : F.n = n) (hchk : (chk (owOf (some W)) l gs ex true n && liveOk l gs live) = true) (hk : l.map keyO = l'.map keyO)
    (h : RunR F.P (some W) l' gs ex S.env S.heap (fun e' H' => ∃ r, Keeps e' live r ∧ St.Weak F ⟨r, H'⟩ S0)) : RegAny F l (fun ex S' => ex = .normal ∧ S'.Weak F S0) S := by
  intro a w hs
  subst hn
  simp only [Bool.and_eq_true] at hchk
  obtain ⟨k1, k2⟩ := hchk
  obtain ⟨e', H', hs1, r, hkp, hw⟩ := RunR.congr hk h
  obtain ⟨E, HH, X, A, h1, h2, h3, h4, h5⟩ := specR_trace hs1
  have ht : Trace F.P (some W) l gs ex S.env E HH X A := ⟨h1, fun k o ho => (h5 k o ho).1, fun k o ho => (h5 k o ho).2⟩
  refine sim_any (P := F.P) (ops := l.toArray) (W := some W) (Γ0 := F.Γ) ⟨W, rfl⟩ (by simpa using k1) (by simpa using ht) (fun a' w' hI => ?_) l.length _ (by simp) ?_ (fun k o _ hk => ?_) a w (Inv.start h2 hs (fun k hk => ?_))
  · have hI' : Inv (owOf (some W)) F.n F.Γ l S.env HH X A (fun k => k < l.length) a' w' := by simpa using hI
    have hd := Inv.done ht k1 hI' (fun k hk => hk) k2
    rw [h3, h4, hkp.sel] at hd
    exact ⟨_, ⟨rfl, hw⟩, hd⟩
  · have := List.countP_le_length (p := fun k => !(Array.replicate l.length false).getD k false) (l := List.range l.length)
    rw [List.length_range] at this
    simpa using this
  all_goals
    simp [Array.getD_eq_getD_getElem?, Array.getElem?_replicate] at hk
    split at hk <;> simp at hk
theorem Wp.ways {F : Fr} {Q : Exit → St → Prop} {S S0 : St} {id : Nat} {l : List Oper} (hm : F.P.follows .mixedOrders = true) (h : RegAny F l (fun ex S' => ex = .normal ∧ S'.Weak F S0) S) (hQ : Q .normal S0) : Wp F (.region id l.toArray true) Q S := by
  have h1 : Wp F (.region id l.toArray true) (fun ex S' => ex = .normal ∧ S'.Weak F S0) S := fun a w hs => wp_region_any hm (by simpa using h a _ hs.drew)
  intro a w hs
  refine wp_mono (h1 a w hs) fun ex a' w' he => ?_
  obtain ⟨S', ⟨rfl, hw⟩, hs'⟩ := he
  exact ⟨S0, hQ, hw a' w' hs'⟩
end Go.Nx
