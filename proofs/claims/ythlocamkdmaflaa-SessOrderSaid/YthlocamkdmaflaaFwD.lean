/- Rules of the walk. -/
import Derived.Test.YthlocamkdmaflaaFwC
import Derived.Sort.Row
import Derived.Sort.Grow
/- More ways of code: scopes, jumps, tests of constants; an own array narrowed, its version forgotten; an own array lent. -/
namespace Go.Nx
set_option linter.unusedVariables false
set_option linter.unusedSimpArgs false

section
variable {F : Fr} {Q : Exit → St → Prop} {S : St}
abbrev Exit.noJ (Q : Exit → St → Prop) : Exit → St → Prop
  | .goto _, _ => False
  | e, S => Q e S
abbrev Exit.jmp (l : Nat) (J : St → Prop) (Q : Exit → St → Prop) : Exit → St → Prop
  | .goto l', S => l' = l ∧ J S
  | e, S => Q e S
open Classical in
end

section
variable {P : Program} {W : Option WW} {os : List Oper} {gs : List (List (Nat × Bool))} {ex : List Bool} {e : Env} {H H1 : List Ob} {ty : TypeId} {pos : String} {after : Array Edge} {guard : Option (Nat × Bool)} {b : Bool} {t : Nat} {K : Env → List Ob → Prop}
theorem stp_sliceM {α : Type} {ts : TypeId} {y : Operand} {lo hi : Option Operand} {el size : Nat} {rest : Nat × List Leaf} {lo' hi' : Option Int} {m n : Int} {xs ys : List α} {f : α → List Leaf} (ht : se P ts = some (el, size, rest)) (hy : evO e y = some (.c (.slv (xs.map f)))) (hlo : optInt e lo = some lo') (hhi : optInt e hi = some hi')
    (hm : lo'.getD 0 = m) (hn : hi'.getD (xs.length : Int) = n) (hsub : sub? xs m n = some ys) (hs : ∀ x, (f x).length = size) : stp P e H (.slice ts y lo hi none) = some (.c (.slv (ys.map f)), H) := by
  obtain ⟨h1, h2, h3, rfl⟩ := sub_len hsub
  subst hm hn
  have hall : ∀ r ∈ xs.map f, r.length = size := by
    intro r hr
    obtain ⟨y, _, rfl⟩ := List.mem_map.1 hr
    exact hs y
  have hb : 0 ≤ lo'.getD 0 ∧ lo'.getD 0 ≤ hi'.getD (xs.length : Int) ∧ hi'.getD (xs.length : Int) ≤ (xs.length : Int) := ⟨h1, h2, h3⟩
  simp only [stp, hy, hlo, hhi, sliceV, ht, lenL, List.length_map]
  rw [if_pos hb, if_pos hall]
  simp [List.map_take, List.map_drop]
theorem RunR.sliceMG {α : Type} {ts : TypeId} {y : Operand} {lo hi : Option Operand} {el size : Nat} {rest : Nat × List Leaf} {lo' hi' : Option Int} {m n : Int} {xs ys : List α} {f : α → List Leaf} (ht : se P ts = some (el, size, rest)) (ha : actE e (gs.headD []) = some b) (hw : wOk W (ex.headD false) e H (.slice ts y lo hi none) = true) (hy : evO e y = some (.c (.slv (xs.map f)))) (hlo : optInt e lo = some lo') (hhi : optInt e hi = some hi')
    (hm : lo'.getD 0 = m) (hn : hi'.getD (xs.length : Int) = n) (hsub : b = true → sub? xs m n = some ys) (hs : ∀ x, (f x).length = size)
    (hr : RunR P W os gs.tail ex.tail ((t, .c (.slv (ys.map f))) :: e) H K) : RunR P W (⟨some t, .slice ts y lo hi none, ty, pos, after, guard⟩ :: os) gs ex e H K :=
  .mobG rfl rfl ha hw (fun hb => stp_sliceM ht hy hlo hhi hm hn (hsub hb) hs) hr
/-- A piece of an own array. -/
theorem RunR.sliceOM {α : Type} {ts : TypeId} {y : Operand} {lo hi : Option Operand} {el size h ver : Nat} {rest : Nat × List Leaf} {lo' hi' : Option Int} {m n : Int} {xs ys : List α} {f : α → List Leaf} (ht : se P ts = some (el, size, rest)) (ha : actE e (gs.headD []) = some b) (hw : wOk W (ex.headD false) e H (.slice ts y lo hi none) = true) (hy : evO e y = some (.c (.sl h ver 0 xs.length))) (hlo : optInt e lo = some lo') (hhi : optInt e hi = some hi')
    (ho : obj H h ver = some (size, xs.map f)) (hm : lo'.getD 0 = m) (hn : hi'.getD (xs.length : Int) = n) (hsub : sub? xs m n = some ys)
    (hr : RunR P W os gs.tail ex.tail ((t, .c (.sl h ver m.toNat ys.length)) :: e) H K) : RunR P W (⟨some t, .slice ts y lo hi none, ty, pos, after, guard⟩ :: os) gs ex e H K :=
  .mob rfl rfl ha hw (by
    obtain ⟨h1, h2, h3, rfl⟩ := sub_len hsub
    subst hm hn
    have hb : 0 ≤ lo'.getD 0 ∧ lo'.getD 0 ≤ hi'.getD (xs.length : Int) ∧ hi'.getD (xs.length : Int) ≤ (xs.length : Int) := ⟨h1, h2, h3⟩
    simp only [stp, hy, hlo, hhi, sliceV, ht, lenL, ho]
    rw [if_pos hb]
    simp
    omega) hr
end


theorem ik_under {P : Program} {t : TypeId} {k : IntKind} (h : ik P t = some k) : P.underlying t = some (.int k) := by
  unfold ik at h
  split at h
  · rename_i hu
    cases h
    exact hu
  · cases h
/-- Bit by bit, of two integers of a kind. -/
def andI (k : IntKind) (a b : Int) : Int := k.wrap ((BitVec.ofInt k.bits a &&& BitVec.ofInt k.bits b).toNat)
theorem sub_le {α : Type} {xs ys : List α} {m n : Int} (h : sub? xs m n = some ys) : m.toNat + ys.length ≤ xs.length := by
  obtain ⟨h1, h2, h3, rfl⟩ := sub_len h
  simp
  omega
theorem view_piece {α : Type} {H : List Ob} {h ver z lo len : Nat} {xs : List α} {f : α → List Leaf} (ho : obj H h ver = some (z, xs.map f)) (hle : lo + len ≤ xs.length) : view H (.sl h ver lo len) = some (((xs.drop lo).take len).map f) := by
  have hl : lo + len ≤ (xs.map f).length := by simpa using hle
  simp only [view, ho]
  rw [if_pos hl]
  simp [List.map_take, List.map_drop]
section
variable {P : Program} {W : Option WW} {os : List Oper} {gs : List (List (Nat × Bool))} {ex : List Bool} {e : Env} {H H1 : List Ob} {ty : TypeId} {pos : String} {after : Array Edge} {guard : Option (Nat × Bool)} {b : Bool} {t : Nat} {d : Option Nat} {K : Env → List Ob → Prop}
/-- A piece written over with another slice's first elements. -/
def cpy {α : Type} (xs : List α) (lo len : Nat) (ys : List α) : List α := xs.take lo ++ ys.take len ++ xs.drop (lo + min len ys.length)
theorem length_cpy {α : Type} (xs : List α) (lo len : Nat) (ys : List α) (h : lo + len ≤ xs.length) : (cpy xs lo len ys).length = xs.length := by
  simp [cpy]
  omega
/-- A piece made nought. -/
def clr {α : Type} (xs : List α) (lo len : Nat) (z : α) : List α := xs.take lo ++ List.replicate len z ++ xs.drop (lo + len)
theorem length_clr {α : Type} (xs : List α) (lo len : Nat) (z : α) (h : lo + len ≤ xs.length) : (clr xs lo len z).length = xs.length := by
  simp [clr]
  omega
/-- So many zero values, appended to nothing. -/
theorem RunR.appendZ {α : Type} {ts ti : TypeId} {y z : Operand} {el size by' : Nat} {z0 : List Leaf} {k k' : IntKind} {n : Int} (h : Nat) (f : α → List Leaf) (zv : α) (zs : List α) (hm : mk? n zv = some zs) (hti : ik P ti = some k') (ht : se P ts = some (el, size, by', z0)) (ha : actE e (gs.headD []) = some true) (hw : wOk W (ex.headD false) e H (.call { callee := .builtin .append, args := #[y, z], argTypes := #[ts, ti] }) = true)
    (hy : evO e y = some (.c nilS)) (hz : evO e z = some (.c (.v (.int k n)))) (hfz : f zv = z0) (hsz : (Nat.blt 0 size && (Nat.ble by' 10000 && Nat.beq z0.length size)) = true) (hh : H.length = h)
    (hs : Snoc (.live 0 size (zs.map f)) H H1) (hr : RunR P W os gs.tail ex.tail ((t, .c (.sl h 0 0 zs.length)) :: e) H1 K) : RunR P W (⟨some t, .call { callee := .builtin .append, args := #[y, z], argTypes := #[ts, ti] }, ty, pos, after, guard⟩ :: os) gs ex e H K :=
  .fix rfl ha hw (x := .c (.sl h 0 0 zs.length)) (H1 := H1) (by
    unfold mk? at hm
    split at hm
    case isFalse => cases hm
    rename_i hb
    cases hm
    have hu := ik_under hti
    simp only [Bool.and_eq_true, Nat.blt_eq, Nat.ble_eq, Nat.beq_eq] at hsz
    have h2 : n.toNat * by' ≤ 140737488355328 := Nat.le_trans (Nat.mul_le_mul (show n.toNat ≤ 10000000000 by omega) hsz.2.1) (by decide)
    simp only [stp, hy, hz, appendV, ht, view, Go.Nx.appendZ, hu]
    rw [if_pos ⟨hsz.1, hsz.2.2, hb.1, by omega, h2⟩, hh, ← hs.eq]
    simp [hfz]) hr
end
theorem narrow_ctx {Γ : Ctx} {H : List Ob} (hok : HeapOk Γ H) {h ver z lo len : Nat} {rows rows' : List (List Leaf)} {y : Value} (hy2 : conc Γ (.sl h ver lo len) y) (ho : obj H h ver = some (z, rows)) (hle : lo + len ≤ rows.length) (hrows : (rows.drop lo).take len = rows') :
    ∃ Γ', Γ'.w = Γ.w ∧ Γ.Ext Γ' ∧ HeapOk Γ' (H.set h (.live (ver + 1) z rows')) ∧ conc Γ' (.sl h (ver + 1) 0 len) y := by
  subst hrows
  obtain ⟨inf, hin, hcap, hb⟩ := hok.obj ho
  have hhl : h < H.length := (List.getElem?_eq_some_iff.1 (obj_some ho)).1
  have hhs : h < Γ.hs.length := by rw [← hok.len]; exact hhl
  have hy3 := hy2
  simp only [conc] at hy3
  obtain ⟨inf2, ver2, a', cap, hin2, _, hyv, hv⟩ := hy3
  rw [hin] at hin2
  cases hin2
  have hv := hv rfl
  have hold_len : ((rows.drop lo).take len).length = len := by simp; omega
  rcases hv with ⟨hbase, rfl, rfl, rfl, rfl⟩ | ⟨b, a2, hbase, rfl, rfl, hlc, ha⟩
  · simp only [hbase] at hb
    subst hb
    refine ⟨Γ.bump h inf (ver + 1), rfl, ⟨Le_bump hin (by omega), rfl, rfl, rfl, Nat.le_refl _, fun _ _ _ => rfl, fun _ h => .inl h, fun _ h => .inl h⟩, by simpa using HeapOk_bump hok (obj_some ho) hin hbase, ?_⟩
    simp only [conc]
    exact ⟨inf, ver + 1, none, 0, by simp [Ctx.bump, hhs], Nat.le_refl _, hyv, fun _ => .inl (by simp [hbase])⟩
  · simp only [hbase] at hb
    obtain ⟨hzz, hX, hF, hrc, hisz, cells, T, hh, hcs, hrows⟩ := hb
    have hbl := hok.X b hX
    have hnewinf : inf.off + lo * inf.sz + (inf.cap - lo) * inf.sz ≤ cells.size := by
      rw [Nat.add_assoc, ← Nat.add_mul, show lo + (inf.cap - lo) = inf.cap by omega]; exact hcs
    have hle' : Γ.Le (Γ.turn Γ.w h ⟨some b, inf.off + lo * inf.sz, inf.cap - lo, inf.sz⟩ (ver + 1) b) := Le_turn hin (.inl (by omega)) (fun _ _ => rfl)
    refine ⟨Γ.turn Γ.w h ⟨some b, inf.off + lo * inf.sz, inf.cap - lo, inf.sz⟩ (ver + 1) b, rfl, ⟨hle', rfl, rfl, rfl, Nat.le_refl _, fun _ _ _ => rfl, fun _ h => .inl h, fun c hc => ?_⟩, ?_, ?_⟩
    · rcases hc with hc | hc
      · exact .inl hc
      · exact .inl (hc ▸ hX)
    · refine HeapOk_turn (Γ' := Γ.turn Γ.w h ⟨some b, inf.off + lo * inf.sz, inf.cap - lo, inf.sz⟩ (ver + 1) b) hok (obj_some ho) hin hle' rfl rfl (fun c => Iff.rfl) (Nat.le_refl _) rfl (fun _ _ _ => rfl) (.inl hbase) hbl (by simp only; omega) ?_ hisz hzz cells T hh hnewinf ?_
      · simp only [hold_len]; omega
      · exact concRows_mk fun k r hk => by
          have := concRows_get (concRows_take (concRows_drop hrows lo) len) hk
          exact ⟨this.1, concRow_of hle' b _ r (fun _ _ _ => rfl) this.2⟩
    · simp only [conc]
      refine ⟨⟨some b, inf.off + lo * inf.sz, inf.cap - lo, inf.sz⟩, ver + 1, some a2, inf.cap - lo, by simp [Ctx.turn, hhs], Nat.le_refl _, hyv, fun _ => .inr ⟨b, a2, rfl, rfl, by simp, by simp; omega, fun hlt => ?_⟩⟩
      simp only at hlt
      rw [ha (by omega)]
      simp
/-- The piece is the whole from here on; older names of the array are stale. -/
theorem narrowE {F : Fr} {e : Env} {H H1 : List Ob} {t h ver z lo len : Nat} {rows : List (List Leaf)} {rows' : List (List Leaf)} (ht : e.get t = some (.c (.sl h ver lo len))) (ho : obj H h ver = some (z, rows)) (hle : lo + len ≤ rows.length) (hrows : (rows.drop lo).take len = rows') (hs : SetAt (.live (ver + 1) z rows') H h H1) : St.Weak F ⟨e, H⟩ ⟨(t, .c (.sl h (ver + 1) 0 len)) :: e, H1⟩ := by
  rw [← hs.eq]
  intro a w hsat
  obtain ⟨d, s, Γ, rfl, hext, hok, henv⟩ := hsat
  obtain ⟨y, hy1, hy2⟩ := henv t _ ht
  obtain ⟨Γ', hw, hE, hH, hc⟩ := narrow_ctx hok (by simpa only [concV] using hy2) ho hle hrows
  refine ⟨d, s, Γ', hw, hext.trans hE, hH, fun t' x hx => ?_⟩
  simp only [Env.get] at hx
  split at hx
  · rename_i htt
    subst htt
    cases hx
    exact ⟨y, hy1, hc⟩
  · obtain ⟨y', k1, k2⟩ := henv t' x hx
    exact ⟨y', k1, concV_mono hE.le _ _ k2⟩
theorem sub_rows {α : Type} {f : α → List Leaf} {xs ys : List α} {m n : Int} (h : sub? xs m n = some ys) : ((xs.map f).drop m.toNat).take ys.length = ys.map f := by
  obtain ⟨h1, h2, h3, rfl⟩ := sub_len h
  rw [← List.map_drop, ← List.map_take]
  congr 1
  apply List.ext_getElem?
  intro j
  simp only [List.getElem?_take, List.getElem?_drop, List.length_drop, List.length_take]
  split
  · rw [if_pos (by omega)]
  · rw [if_neg (by omega)]

/-! An own array of which only a piece is named from here on; an own array's version forgotten. -/
def nr0 (h : Nat) : Leaf → Bool
  | .sl h' _ _ _ => !(Nat.beq h' h)
  | .ptr h' _ _ _ => !(Nat.beq h' h)
  | l => hfL l
def nwL (h ver lo len : Nat) : Leaf → Leaf
  | .sl h' v lo' len' => bif Nat.beq h' h then .sl h 0 0 len else .sl h' v lo' len'
  | l => l
def nwK (h ver lo len : Nat) : Leaf → Bool
  | .sl h' v lo' len' => if h' = h then v == ver && (lo' == lo && len' == len) else true
  | .ptr h' _ _ _ => !(Nat.beq h' h)
  | .clo _ caps => caps.all (nr0 h)
  | l => hfL l
def rvL (h ver : Nat) : Leaf → Leaf
  | .sl h' v lo' len' => bif Nat.beq h' h then .sl h 0 lo' len' else .sl h' v lo' len'
  | .ptr h' v i k => bif Nat.beq h' h then .ptr h 0 i k else .ptr h' v i k
  | l => l
def rvK (h ver : Nat) : Leaf → Bool
  | .sl h' v _ _ => if h' = h then v == ver else true
  | .ptr h' v _ _ => if h' = h then v == ver else true
  | .clo _ caps => caps.all (nr0 h)
  | l => hfL l
def allVp (p : Leaf → Bool) : AVal → Bool
  | .c l => p l
  | .agg cs => cs.all p
  | .tup _ => false
def allO (p : Leaf → Bool) : Ob → Bool
  | .live _ _ rows => rows.all fun r => r.all p
  | .dead => true

theorem beq_ne {a b : Nat} (h : a ≠ b) : Nat.beq a b = false := by
  cases hb : Nat.beq a b with
  | false => rfl
  | true => exact absurd (Nat.eq_of_beq_eq_true hb) h
theorem turnedW {F : Fr} {e e' : Env} {H H' : List Ob} {h ver z lo : Nat} {rows rows' : List (List Leaf)} (n0 : Nat) (hn0 : F.Γ.hs.length = n0) (hh : Nat.ble n0 h = true) (ho : obj H h ver = some (z, rows)) (g : Leaf → Leaf) (p : Leaf → Bool)
    (hrows : rows' = (rows.drop lo).take rows'.length) (hle : lo + rows'.length ≤ rows.length)
    (hself : ∀ r ∈ rows', r.all p = true ∧ r.map g = r)
    (hg : ∀ (Γ Γ' : Ctx) (inf : Info), Γ'.w = Γ.w → Γ'.F = Γ.F → HeapOk Γ H → Γ.hs[h]? = some (inf, ver) → Γ'.hs = Γ.hs.set h (⟨inf.base, inf.off + lo * inf.sz, inf.cap - lo, inf.sz⟩, 0) → (∀ b, inf.base = some b → lo ≤ inf.cap) → (inf.base = none → rows = []) → ∀ l y, p l = true → conc Γ l y → conc Γ' (g l) y)
    (he : (e.all fun q => allVp p q.2) = true) (hH : ((H.set h .dead).all (allO p)) = true) (he' : mpE g e = e') (hH' : ((H.map (mpO g)).set h (.live 0 z rows')) = H') : St.Weak F ⟨e, H⟩ ⟨e', H'⟩ := by
  subst he' hH'
  intro a w hs
  obtain ⟨d, s, Γ, rfl, hext, hok, henv⟩ := hs
  have hoH := obj_some ho
  have hlt := (List.getElem?_eq_some_iff.1 hoH).1
  obtain ⟨inf, hi, hcap, hbase⟩ := hok.ob h _ hoH
  have hln := hok.len
  simp only at hln
  have hhs : h < Γ.hs.length := (List.getElem?_eq_some_iff.1 hi).1
  have hn : n0 ≤ h := Nat.le_of_ble_eq_true hh
  obtain ⟨Γ', hΓ'⟩ : ∃ Γ' : Ctx, Γ' = { w := Γ.w, F := Γ.F, X := Γ.X, hs := Γ.hs.set h (⟨inf.base, inf.off + lo * inf.sz, inf.cap - lo, inf.sz⟩, 0) } := ⟨_, rfl⟩
  have ew : Γ'.w = Γ.w := by rw [hΓ']
  have eF : Γ'.F = Γ.F := by rw [hΓ']
  have eX : Γ'.X = Γ.X := by rw [hΓ']
  have ehs : Γ'.hs = Γ.hs.set h (⟨inf.base, inf.off + lo * inf.sz, inf.cap - lo, inf.sz⟩, 0) := by rw [hΓ']
  have hcapb : ∀ b, inf.base = some b → lo ≤ inf.cap := fun b hb => by
    simp only [hb] at hbase
    have := hbase.2.2.2.1
    omega
  have hnone : inf.base = none → rows = [] := fun hb => by simpa only [hb] using hbase
  have hcl := hg Γ Γ' inf ew eF hok hi ehs hcapb hnone
  have hal : ∀ (ls : List Leaf) (ys : List Value), ls.all p = true → concAll Γ ls ys → concAll Γ' (ls.map g) ys := by
    intro ls
    induction ls with
    | nil => intro ys _ h; simpa [concAll] using h
    | cons l ls ih =>
      intro ys hm h
      simp only [List.all_cons, Bool.and_eq_true] at hm
      simp only [concAll] at h
      obtain ⟨y, ys', rfl, h2, h3⟩ := h
      simp only [List.map_cons, concAll]
      exact ⟨y, ys', rfl, hcl _ _ hm.1 h2, ih _ hm.2 h3⟩
  have hrow : ∀ (b off : Nat) (r : List Leaf), r.all p = true → concRow Γ b off r → concRow Γ' b off (r.map g) := by
    intro b off r
    induction r generalizing off with
    | nil => intro _ _; simp [concRow]
    | cons l ls ih =>
      intro hm h
      simp only [List.all_cons, Bool.and_eq_true] at hm
      simp only [List.map_cons, concRow] at h ⊢
      obtain ⟨⟨y, h1, h2⟩, h3⟩ := h
      exact ⟨⟨y, by rw [ew]; exact h1, hcl _ _ hm.1 h2⟩, ih _ hm.2 h3⟩
  have hrowsA : ∀ (b sz off : Nat) (rows : List (List Leaf)), (rows.all fun r => r.all p) = true → concRows Γ b sz off rows → concRows Γ' b sz off (rows.map fun r => r.map g) := by
    intro b sz off rows
    induction rows generalizing off with
    | nil => intro _ _; simp [concRows]
    | cons r rs ih =>
      intro hm h
      simp only [List.all_cons, Bool.and_eq_true] at hm
      simp only [List.map_cons, concRows] at h ⊢
      exact ⟨by simpa using h.1, hrow _ _ _ hm.1 h.2.1, ih _ hm.2 h.2.2⟩
  have hother : ∀ n, n ≠ h → Γ'.hs[n]? = Γ.hs[n]? := fun n hne => by
    rw [ehs, List.getElem?_set_ne (fun e => hne e.symm)]
  have hself' : Γ'.hs[h]? = some (⟨inf.base, inf.off + lo * inf.sz, inf.cap - lo, inf.sz⟩, 0) := by
    rw [ehs, List.getElem?_set_self hhs]
  rw [List.all_eq_true] at hH
  refine ⟨d, s, Γ', ew, ⟨⟨fun b hb => by rw [eF]; exact hext.le.F b hb, fun b hb => by rw [ew]; exact hext.le.mem b hb, fun n i v h1 => ?_⟩, by rw [ew]; exact hext.os, by rw [ew]; exact hext.tape, by rw [ew]; exact hext.output, by rw [ew]; exact hext.size, by rw [ew]; exact hext.frame, by rw [eF]; exact hext.Fnew, by rw [eX]; exact hext.Xnew⟩,
    ⟨by rw [ehs]; simp [hln], fun n o hno => ?_, fun n n' v v' z1 z2 r1 r2 i1 i2 b h1 h2 h3 h4 h5 h6 => ?_, by rw [eF, ew]; exact hok.F, by rw [eX, ew]; exact hok.X⟩, fun t x hx => ?_⟩
  · have hnlt : n < n0 := by
      have := (List.getElem?_eq_some_iff.1 h1).1
      omega
    obtain ⟨i', v', g1, g2⟩ := hext.le.hs n i v h1
    exact ⟨i', v', by rw [hother n (by omega)]; exact g1, g2⟩
  · by_cases hne : n = h
    · subst hne
      rw [List.getElem?_set_self (by simpa using hlt)] at hno
      cases hno
      refine ⟨_, hself', Nat.le_trans (Nat.sub_le _ _) hcap, ?_⟩
      cases hb : inf.base with
      | none =>
        have := hnone hb
        rw [this] at hrows
        simp only
        rw [hrows]; simp
      | some b =>
        simp only [hb] at hbase ⊢
        obtain ⟨b1, b2, b3, b4, b5, cells, T, b6, b7, b8⟩ := hbase
        refine ⟨b1, by rw [eX]; exact b2, by rw [eF]; exact b3, by omega, b5, cells, T, by rw [ew]; exact b6, ?_, ?_⟩
        · have : lo ≤ inf.cap := hcapb b hb
          have e1 : inf.cap * inf.sz = lo * inf.sz + (inf.cap - lo) * inf.sz := by rw [← Nat.add_mul]; congr 1; omega
          omega
        · have h9 := concRows_take (concRows_drop b8 lo) rows'.length
          rw [← hrows] at h9
          have h10 := hrowsA b inf.sz _ rows' (by rw [List.all_eq_true]; exact fun r hr => (hself r hr).1) h9
          have h11 : (rows'.map fun r => r.map g) = rows' := by
            have : rows'.map (fun r => r.map g) = rows'.map id := List.map_congr_left (fun r hr => (hself r hr).2)
            simpa using this
          rwa [h11] at h10
    · rw [List.getElem?_set_ne (fun e => hne e.symm), List.getElem?_map] at hno
      simp only [Option.map_eq_some_iff] at hno
      obtain ⟨o', ho', rfl⟩ := hno
      have hmv : allO p o' = true := hH o' (List.mem_of_getElem? (i := n) (by rw [List.getElem?_set_ne (fun e => hne e.symm)]; exact ho'))
      have hob := hok.ob n o' ho'
      cases o' with
      | dead => trivial
      | live ver2 sz2 rows2 =>
        obtain ⟨inf2, g1, g2, g3⟩ := hob
        refine ⟨inf2, by rw [hother n hne]; exact g1, g2, ?_⟩
        cases hb : inf2.base with
        | none => simp only [hb] at g3 ⊢; subst g3; rfl
        | some b =>
          simp only [hb] at g3 ⊢
          obtain ⟨b1, b2, b3, b4, b5, cells, T, b6, b7, b8⟩ := g3
          exact ⟨b1, by rw [eX]; exact b2, by rw [eF]; exact b3, by simpa using b4, b5, cells, T, by rw [ew]; exact b6, b7, hrowsA _ _ _ _ (by simpa [allO] using hmv) b8⟩
  · have look : ∀ (n v z : Nat) (r : List (List Leaf)) (i : Info) (b : Nat), ((H.map (mpO g)).set h (.live 0 z rows'))[n]? = some (.live v z r) → True := fun _ _ _ _ _ _ _ => trivial
    have base : ∀ (n v z1 : Nat) (r : List (List Leaf)) (i : Info), ((H.map (mpO g)).set h (.live 0 z rows'))[n]? = some (.live v z1 r) → Γ'.hs[n]? = some (i, v) → ∃ v0 z0 r0 i0, H[n]? = some (.live v0 z0 r0) ∧ Γ.hs[n]? = some (i0, v0) ∧ i0.base = i.base := by
      intro n v z1 r i q1 q2
      by_cases hne : n = h
      · subst hne
        rw [hself'] at q2
        cases q2
        exact ⟨_, _, _, _, hoH, hi, rfl⟩
      · rw [List.getElem?_set_ne (fun e => hne e.symm), List.getElem?_map] at q1
        simp only [Option.map_eq_some_iff] at q1
        obtain ⟨o', ho', q3⟩ := q1
        obtain ⟨r0, rfl⟩ := mpO_live q3
        rw [hother n hne] at q2
        exact ⟨_, _, _, _, ho', q2, rfl⟩
    obtain ⟨a1, a2, a3, a4, a5, a6, a7⟩ := base n v z1 r1 i1 h1 h3
    obtain ⟨c1, c2, c3, c4, c5, c6, c7⟩ := base n' v' z2 r2 i2 h2 h4
    exact hok.apart n n' _ _ _ _ _ _ _ _ b a5 c5 a6 c6 (by rw [a7]; exact h5) (by rw [c7]; exact h6)
  · obtain ⟨zv, h1, rfl⟩ := mpE_get hx
    obtain ⟨y, h2, h3⟩ := henv t zv h1
    refine ⟨y, h2, ?_⟩
    have hm : allVp p zv = true := by
      rw [List.all_eq_true] at he
      exact he _ (Env.get_mem h1)
    cases zv with
    | c l => simp only [mpV, concV] at h3 ⊢; exact hcl _ _ hm h3
    | agg cs =>
      simp only [mpV, concV] at h3 ⊢
      obtain ⟨ys, g1, g2⟩ := h3
      exact ⟨ys, g1, hal _ _ hm g2⟩
    | tup vs => simp [allVp] at hm

theorem conc_same {Γ Γ' : Ctx} (hw : Γ'.w = Γ.w) (hF : Γ'.F = Γ.F) {h : Nat} (hhs : ∀ n, n ≠ h → Γ'.hs[n]? = Γ.hs[n]?) {l : Leaf} {y : Value} (hl : nr0 h l = true) (hc : conc Γ l y) : conc Γ' l y := by
  cases l with
  | sl h' v lo len =>
    have : h' ≠ h := fun e => by subst e; simp [nr0, Nat.beq_refl] at hl
    simp only [conc] at hc ⊢
    obtain ⟨inf, ver', a, cap, h1, h2⟩ := hc
    exact ⟨inf, ver', a, cap, by rw [hhs _ this]; exact h1, h2⟩
  | ptr h' v i k =>
    have : h' ≠ h := fun e => by subst e; simp [nr0, Nat.beq_refl] at hl
    simp only [conc] at hc ⊢
    obtain ⟨inf, ver', p, h1, h2⟩ := hc
    exact ⟨inf, ver', p, by rw [hhs _ this]; exact h1, h2⟩
  | v x => exact conc_hf hw (fun _ h => by rw [hF]; exact h) (.v x) y rfl hc
  | slv rows => exact conc_hf hw (fun _ h => by rw [hF]; exact h) (.slv rows) y hl hc
  | slq rows => exact conc_hf hw (fun _ h => by rw [hF]; exact h) (.slq rows) y hl hc
  | fptr rows i k => exact conc_hf hw (fun _ h => by rw [hF]; exact h) (.fptr rows i k) y hl hc
  | clo f caps => exact conc_hf hw (fun _ h => by rw [hF]; exact h) (.clo f caps) y hl hc
theorem concAll_same {Γ Γ' : Ctx} (hw : Γ'.w = Γ.w) (hF : Γ'.F = Γ.F) {h : Nat} (hhs : ∀ n, n ≠ h → Γ'.hs[n]? = Γ.hs[n]?) : ∀ {ls : List Leaf} {ys : List Value}, ls.all (nr0 h) = true → concAll Γ ls ys → concAll Γ' ls ys
  | [], ys, _, hc => by simpa [concAll] using hc
  | l :: ls, ys, hl, hc => by
    simp only [List.all_cons, Bool.and_eq_true] at hl
    simp only [concAll] at hc ⊢
    obtain ⟨y, ys', h1, h2, h3⟩ := hc
    exact ⟨y, ys', h1, conc_same hw hF hhs hl.1 h2, concAll_same hw hF hhs hl.2 h3⟩
theorem hs_set {Γ Γ' : Ctx} {h : Nat} {q : Info × Nat} (he : Γ'.hs = Γ.hs.set h q) : ∀ n, n ≠ h → Γ'.hs[n]? = Γ.hs[n]? := fun n hn => by
  rw [he, List.getElem?_set_ne (fun e => hn e.symm)]

/-- How often it grew is forgotten. -/
theorem reverW {F : Fr} {e e' : Env} {H H' : List Ob} {h ver z : Nat} {rows : List (List Leaf)} (n0 : Nat) (hn0 : F.Γ.hs.length = n0) (hh : Nat.ble n0 h = true) (ho : obj H h ver = some (z, rows))
    (hself : ∀ r ∈ rows, r.all (rvK h ver) = true ∧ r.map (rvL h ver) = r) (he : (e.all fun q => allVp (rvK h ver) q.2) = true) (hH : ((H.set h .dead).all (allO (rvK h ver))) = true) (he' : mpE (rvL h ver) e = e') (hH' : ((H.map (mpO (rvL h ver))).set h (.live 0 z rows)) = H') : St.Weak F ⟨e, H⟩ ⟨e', H'⟩ := by
  refine turnedW (lo := 0) n0 hn0 hh ho (rvL h ver) (rvK h ver) (by simp) (by simp) hself (fun Γ Γ' inf hw hF hok hi hhs hcap hnone l y hl hc => ?_) he hH he' hH'
  have hoth := hs_set hhs
  have hlt := (List.getElem?_eq_some_iff.1 hi).1
  cases l with
  | sl h' v lo' len' =>
    by_cases hne : h' = h
    · subst hne
      simp only [rvK, if_true, beq_iff_eq] at hl
      subst hl
      simp only [rvL, Nat.beq_refl, cond_true]
      simp only [conc] at hc ⊢
      obtain ⟨inf', ver', a, cap, h1, h2, h3, h4⟩ := hc
      rw [hi] at h1
      cases h1
      refine ⟨_, 0, a, cap, by rw [hhs, List.getElem?_set_self hlt], Nat.le_refl _, h3, fun _ => ?_⟩
      rcases h4 rfl with ⟨g1, g2, g3, g4, g5⟩ | ⟨b, a', g1, g2, g3, g4, g5⟩
      · exact .inl ⟨g1, g2, g3, g4, g5⟩
      · refine .inr ⟨b, a', g1, g2, by simpa using g3, by simpa using g4, fun h6 => ?_⟩
        rw [g5 (by simpa using h6)]
        simp
    · simp only [rvL, beq_ne hne, cond_false]
      exact conc_same hw hF hoth (by simp [nr0, beq_ne hne]) hc
  | ptr h' v i k =>
    by_cases hne : h' = h
    · subst hne
      simp only [rvK, if_true, beq_iff_eq] at hl
      subst hl
      simp only [rvL, Nat.beq_refl, cond_true]
      simp only [conc] at hc ⊢
      obtain ⟨inf', ver', q, h1, h2, h3, h4⟩ := hc
      rw [hi] at h1
      cases h1
      refine ⟨_, 0, q, by rw [hhs, List.getElem?_set_self hlt], Nat.le_refl _, h3, fun _ => ?_⟩
      obtain ⟨b, g1, g2⟩ := h4 rfl
      exact ⟨b, g1, by rw [g2]; simp⟩
    · simp only [rvL, beq_ne hne, cond_false]
      exact conc_same hw hF hoth (by simp [nr0, beq_ne hne]) hc
  | clo f caps =>
    simp only [rvL, conc] at hc ⊢
    obtain ⟨ys, h1, h2⟩ := hc
    exact ⟨ys, h1, concAll_same hw hF hoth hl h2⟩
  | v x => exact conc_same hw hF hoth (l := .v x) rfl hc
  | slv rows => exact conc_same hw hF hoth (l := .slv rows) hl hc
  | slq rows => exact conc_same hw hF hoth (l := .slq rows) hl hc
  | fptr rows i k => exact conc_same hw hF hoth (l := .fptr rows i k) hl hc
end Go.Nx
/- The rules of the operations, for a region in the text's order. -/
namespace Go.Nx
set_option linter.unusedVariables false
set_option linter.unusedSimpArgs false
section
variable {P : Program} {N : Nat} {Γ0 : Ctx} {A os : List Oper} {e : Env} {H H1 : List Ob} {ty : TypeId} {pos : String} {after : Array Edge} {t : Nat} {d : Option Nat} {K : Env → List Ob → Prop}
theorem TextR.sliceOM {α : Type} {ts : TypeId} {y : Operand} {lo hi : Option Operand} {el size h ver : Nat} {rest : Nat × List Leaf} {lo' hi' : Option Int} {m n : Int} {xs ys : List α} {f : α → List Leaf} (ht : se P ts = some (el, size, rest)) (hy : evO e y = some (.c (.sl h ver 0 xs.length))) (hlo : optInt e lo = some lo') (hhi : optInt e hi = some hi') (ho : obj H h ver = some (size, xs.map f)) (hm : lo'.getD 0 = m) (hn : hi'.getD (xs.length : Int) = n) (hsub : sub? xs m n = some ys) (hr : TextR P N Γ0 A os ((t, .c (.sl h ver m.toNat ys.length)) :: e) H K) : TextR P N Γ0 A (⟨some t, .slice ts y lo hi none, ty, pos, after, none⟩ :: os) e H K :=
  .op (by
    obtain ⟨h1, h2, h3, rfl⟩ := sub_len hsub
    subst hm hn
    have hb : 0 ≤ lo'.getD 0 ∧ lo'.getD 0 ≤ hi'.getD (xs.length : Int) ∧ hi'.getD (xs.length : Int) ≤ (xs.length : Int) := ⟨h1, h2, h3⟩
    simp only [stp, hy, hlo, hhi, sliceV, ht, lenL, ho]
    rw [if_pos hb]
    simp
    omega) hr
theorem TextR.appendZ {α : Type} {ts ti : TypeId} {y z : Operand} {el size by' : Nat} {z0 : List Leaf} {k k' : IntKind} {n : Int} (h : Nat) (f : α → List Leaf) (zv : α) (zs : List α) (hm : mk? n zv = some zs) (hti : ik P ti = some k') (ht : se P ts = some (el, size, by', z0)) (hy : evO e y = some (.c nilS)) (hz : evO e z = some (.c (.v (.int k n)))) (hfz : f zv = z0) (hsz : (Nat.blt 0 size && (Nat.ble by' 10000 && Nat.beq z0.length size)) = true) (hh : H.length = h) (hs : Snoc (.live 0 size (zs.map f)) H H1) (hr : TextR P N Γ0 A os ((t, .c (.sl h 0 0 zs.length)) :: e) H1 K) : TextR P N Γ0 A (⟨some t, .call { callee := .builtin .append, args := #[y, z], argTypes := #[ts, ti] }, ty, pos, after, none⟩ :: os) e H K :=
  .op (x := .c (.sl h 0 0 zs.length)) (H1 := H1) (by
    unfold mk? at hm
    split at hm
    case isFalse => cases hm
    rename_i hb
    cases hm
    have hu := ik_under hti
    simp only [Bool.and_eq_true, Nat.blt_eq, Nat.ble_eq, Nat.beq_eq] at hsz
    have h2 : n.toNat * by' ≤ 140737488355328 := Nat.le_trans (Nat.mul_le_mul (show n.toNat ≤ 10000000000 by omega) hsz.2.1) (by decide)
    simp only [stp, hy, hz, appendV, ht, view, Go.Nx.appendZ, hu]
    rw [if_pos ⟨hsz.1, hsz.2.2, hb.1, by omega, h2⟩, hh, ← hs.eq]
    simp [hfz]) hr
end
end Go.Nx
/- An own array of integers that a callee turns in place. -/
namespace Go.Nx
open Go.Sort
set_option linter.unusedVariables false
set_option linter.unusedSimpArgs false

abbrev rI (x : Int) : List Leaf := [.v (.int .i64 x)]
theorem concRow_rI {Γ : Ctx} {b off : Nat} {x : Int} : concRow Γ b off (rI x) ↔ Γ.w.cell? ⟨b, off, none⟩ = some (.int .i64 x) := by
  simp only [rI, concRow, conc, and_true]
  constructor
  · rintro ⟨y, h1, h2, _⟩
    rw [h1, h2]
  · intro h
    exact ⟨_, h, rfl, rfl⟩
theorem concRows_rI {Γ : Ctx} {b : Nat} : ∀ {off : Nat} {xs : List Int}, concRows Γ b 1 off (xs.map rI) ↔ ∀ j x, xs[j]? = some x → Γ.w.cell? ⟨b, off + j, none⟩ = some (.int .i64 x)
  | off, [] => by simp [concRows]
  | off, x :: xs => by
    simp only [List.map_cons, concRows, concRow_rI, concRows_rI (off := off + 1) (xs := xs)]
    constructor
    · rintro ⟨_, h1, h2⟩ j y hj
      cases j with
      | zero => simp at hj; subst hj; simpa using h1
      | succ j =>
        have := h2 j y (by simpa using hj)
        rwa [show off + (j + 1) = off + 1 + j by omega]
    · intro h
      refine ⟨rfl, by simpa using h 0 x rfl, fun j y hj => ?_⟩
      have := h (j + 1) y (by simpa using hj)
      rwa [show off + (j + 1) = off + 1 + j by omega] at this
theorem row_turn {Γ : Ctx} {H : List Ob} (hok : HeapOk Γ H) {h ver : Nat} {xs ys : List Int} (ho : H[h]? = some (.live ver 1 (xs.map rI))) {inf : Info} {b : Nat} (hin : Γ.hs[h]? = some (inf, ver)) (hb : inf.base = some b) (hl : ys.length = xs.length) (n : Nat) (os : Array Obj) :
    ∃ Γ', Γ'.w = grow (putRow (Value.int .i64) (Sort.ahead Γ.w n) b inf.off ys.toArray) os ∧ Γ.Ext Γ' ∧ HeapOk Γ' (H.set h (.live ver 1 (ys.map rI))) ∧ Γ'.hs = Γ.hs := by
  obtain ⟨i2, g1, hcap, g2⟩ := hok.ob h _ ho
  rw [hin] at g1
  cases g1
  simp only [hb] at g2
  obtain ⟨b1, hx, hnF, b4, b5, cells, T, b6, b7, b8⟩ := g2
  have hbl := hok.X b hx
  have hput : (putRow (Value.int .i64) (Sort.ahead Γ.w n) b inf.off ys.toArray).heap[b]? = some (.cells (putCells (Value.int .i64) inf.off ys.toArray cells) T (0, 0)) := by
    simp [putRow, mapBlock, Sort.ahead, Array.getElem?_modify, b6, onCells]
  have hsz1 : (putRow (Value.int .i64) (Sort.ahead Γ.w n) b inf.off ys.toArray).heap.size = Γ.w.heap.size := by simp [putRow, mapBlock, Sort.ahead]
  have hmem : ∀ c, c < Γ.w.heap.size → c ≠ b → (grow (putRow (Value.int .i64) (Sort.ahead Γ.w n) b inf.off ys.toArray) os).heap[c]? = Γ.w.heap[c]? := by
    intro c hc hcb
    rw [heap_grow_old _ _ (by rw [hsz1]; exact hc)]
    have : b ≠ c := fun e => hcb e.symm
    simp [putRow, mapBlock, Sort.ahead, Array.getElem?_modify, this]
  have hcell : (grow (putRow (Value.int .i64) (Sort.ahead Γ.w n) b inf.off ys.toArray) os).heap[b]? = some (.cells (putCells (Value.int .i64) inf.off ys.toArray cells) T (0, 0)) := by
    rw [heap_grow_old _ _ (by rw [hsz1]; exact hbl), hput]
  have hle : Γ.Le (Γ.turn (grow (putRow (Value.int .i64) (Sort.ahead Γ.w n) b inf.off ys.toArray) os) h inf ver b) :=
    Le_turn hin (.inr ⟨rfl, rfl⟩) (fun c hF => hmem c (hok.F c hF) (fun e => hnF (e ▸ hF)))
  have hsize : Γ.w.heap.size ≤ (grow (putRow (Value.int .i64) (Sort.ahead Γ.w n) b inf.off ys.toArray) os).heap.size := by
    simp only [grow, Array.size_append, hsz1]
    omega
  have hset : Γ.hs.set h (inf, ver) = Γ.hs := by
    apply List.ext_getElem?
    intro j
    by_cases hj : j = h
    · subst hj
      rw [List.getElem?_set_self (List.getElem?_eq_some_iff.1 hin).1, hin]
    · rw [List.getElem?_set_ne (fun e => hj e.symm)]
  refine ⟨Γ.turn (grow (putRow (Value.int .i64) (Sort.ahead Γ.w n) b inf.off ys.toArray) os) h inf ver b, rfl, ⟨hle, rfl, rfl, rfl, hsize, fun c hc hX => hmem c hc (fun e => hX (e ▸ hx)), fun c hF => .inl hF, fun c hX => ?_⟩, ?_, hset⟩
  · rcases hX with hX | hX
    · exact .inl hX
    · exact .inl (hX ▸ hx)
  · simp only [List.length_map] at b4
    refine HeapOk_turn (Γ' := Γ.turn (grow (putRow (Value.int .i64) (Sort.ahead Γ.w n) b inf.off ys.toArray) os) h inf ver b) hok ho hin hle rfl rfl (fun c => Iff.rfl) hsize hb (fun c hc hcb => hmem c hc hcb) (.inl hb) (Nat.lt_of_lt_of_le hbl hsize)
      hcap (by simp; omega) b5 b1 _ T hcell (by simpa [putCells] using b7) ?_
    rw [b1, concRows_rI]
    intro j x hj
    have hjl : j < ys.length := (List.getElem?_eq_some_iff.1 hj).1
    rw [show (Γ.turn (grow (putRow (Value.int .i64) (Sort.ahead Γ.w n) b inf.off ys.toArray) os) h inf ver b).w = grow (putRow (Value.int .i64) (Sort.ahead Γ.w n) b inf.off ys.toArray) os from rfl, cell_of hcell]
    rw [b1] at b7
    have hc : inf.off + j < cells.size := by omega
    have he : ys[j] = x := (List.getElem?_eq_some_iff.1 hj).2
    simp [putCells, hc, hjl, he]

/-- A callee that turns an own array of integers in place, and answers nothing. -/
theorem Call.turns {P : Program} {f : FuncId} {H H1 : List Ob} {h ver : Nat} {xs ys : List Int} (hent : enters P f = true) (ho : H[h]? = some (.live ver 1 (xs.map rI))) (hl : ys.length = xs.length) (hs : H.set h (.live ver 1 (ys.map rI)) = H1)
    (hC : 0 < xs.length → ∀ (blk off cap : Nat) (w : World), Holds (Value.int .i64) w blk off xs.toArray → blk < w.heap.size → xs.length ≤ cap →
      Calls P f #[.slice (some ⟨blk, off, none⟩) xs.length cap] w fun e w' => e = .returned (.tuple #[]) ∧ ∃ n os, w' = grow (putRow (Value.int .i64) (Sort.ahead w n) blk off ys.toArray) os)
    (hE : xs.length = 0 → ∀ (p : Option Addr) (cap : Nat) (w : World), Calls P f #[.slice p 0 cap] w fun e w' => e = .returned (.tuple #[]) ∧ w' = w) :
    Nx.Call P f [.c (.sl h ver 0 xs.length)] H fun r' H' => r' = .tup [] ∧ H' = H1 := by
  subst hs
  refine ⟨hent, fun Γ hok args' hc => ?_⟩
  simp only [concVs, concV] at hc
  obtain ⟨y, ys', e1, hy, rfl⟩ := hc
  obtain rfl : args' = #[y] := by cases args'; simp_all
  simp only [conc] at hy
  obtain ⟨inf, ver', a, cap, h1, h2, rfl, h4⟩ := hy
  obtain ⟨i2, g1, hcap, g2⟩ := hok.ob h _ ho
  rw [h1] at g1
  cases g1
  rcases Nat.eq_zero_or_pos xs.length with h0 | h0
  · have e0 : xs = [] := List.eq_nil_of_length_eq_zero h0
    subst e0
    obtain rfl : ys = [] := List.eq_nil_of_length_eq_zero (by simpa using hl)
    refine (hE rfl a cap Γ.w).mono fun e w' ⟨he, hw⟩ => ?_
    subst he hw
    refine ⟨_, _, Γ, _, rfl, ⟨rfl, rfl⟩, rfl, .refl Γ, ?_, ?_⟩
    · have : H.set h (.live ver 1 ([].map rI)) = H := by
        apply List.ext_getElem?
        intro j
        by_cases hj : j = h
        · subst hj
          rw [List.getElem?_set_self (List.getElem?_eq_some_iff.1 ho).1, ho]
        · rw [List.getElem?_set_ne (fun e => hj e.symm)]
      rw [this]
      exact hok
    · simp only [concV, concVs]
      exact ⟨#[], rfl, rfl⟩
  · rcases h4 rfl with ⟨_, _, _, _, c5⟩ | ⟨b, a', c1, c2, c3, c4, c5⟩
    · omega
    · have h5 := c5 (by omega)
      subst h5 c2
      simp only [Nat.zero_mul, Nat.add_zero]
      have g3 := g2
      simp only [c1] at g3
      obtain ⟨b1, hx, hnF, b4, b5, cells, T, b6, b7, b8⟩ := g3
      rw [b1] at b8
      have b9 := concRows_rI.1 b8
      refine (hC h0 b inf.off cap Γ.w (fun j hj => ⟨?_, by simp [World.frozen?, b6]⟩) (hok.X b hx) (by rw [c3]; omega)).mono fun e w' ⟨he, n, os, hw⟩ => ?_
      · have hj' : j < xs.length := by simpa using hj
        have := b9 j xs[j] (by simp [hj'])
        rw [this]
        simp [hj']
      · obtain ⟨Γ', k1, k2, k3, k4⟩ := row_turn hok ho h1 c1 hl n os
        refine ⟨_, _, Γ', _, he, ⟨rfl, rfl⟩, by rw [k1, hw], k2, k3, ?_⟩
        simp only [concV, concVs]
        exact ⟨#[], rfl, rfl⟩

/-- A callee that turns an own array of integers in place, and answers its first part. -/
theorem Call.turnsCut {P : Program} {f : FuncId} {H H1 : List Ob} {h ver m : Nat} {xs ys : List Int} (hent : enters P f = true) (ho : H[h]? = some (.live ver 1 (xs.map rI))) (hl : ys.length = xs.length) (hm : m ≤ xs.length) (hs : H.set h (.live ver 1 (ys.map rI)) = H1)
    (hC : 0 < xs.length → ∀ (blk off cap : Nat) (w : World), Holds (Value.int .i64) w blk off xs.toArray → blk < w.heap.size → xs.length ≤ cap →
      Calls P f #[.slice (some ⟨blk, off, none⟩) xs.length cap] w fun e w' => e = .returned (.slice (some ⟨blk, off, none⟩) m cap) ∧ ∃ n os, w' = grow (putRow (Value.int .i64) (Sort.ahead w n) blk off ys.toArray) os)
    (hE : xs.length = 0 → ∀ (p : Option Addr) (cap : Nat) (w : World), Calls P f #[.slice p 0 cap] w fun e w' => e = .returned (.slice p 0 cap) ∧ w' = w) :
    Nx.Call P f [.c (.sl h ver 0 xs.length)] H fun r' H' => r' = .c (.sl h ver 0 m) ∧ H' = H1 := by
  subst hs
  refine ⟨hent, fun Γ hok args' hc => ?_⟩
  simp only [concVs, concV] at hc
  obtain ⟨y, ys', e1, hy, rfl⟩ := hc
  obtain rfl : args' = #[y] := by cases args'; simp_all
  have hy0 := hy
  simp only [conc] at hy
  obtain ⟨inf, ver', a, cap, h1, h2, rfl, h4⟩ := hy
  obtain ⟨i2, g1, hcap, g2⟩ := hok.ob h _ ho
  rw [h1] at g1
  cases g1
  rcases Nat.eq_zero_or_pos xs.length with h0 | h0
  · have e0 : xs = [] := List.eq_nil_of_length_eq_zero h0
    subst e0
    obtain rfl : ys = [] := List.eq_nil_of_length_eq_zero (by simpa using hl)
    obtain rfl : m = 0 := by simpa using hm
    refine (hE rfl a cap Γ.w).mono fun e w' ⟨he, hw⟩ => ?_
    subst he hw
    refine ⟨_, _, Γ, _, rfl, ⟨rfl, rfl⟩, rfl, .refl Γ, ?_, hy0⟩
    have : H.set h (.live ver 1 ([].map rI)) = H := by
      apply List.ext_getElem?
      intro j
      by_cases hj : j = h
      · subst hj
        rw [List.getElem?_set_self (List.getElem?_eq_some_iff.1 ho).1, ho]
      · rw [List.getElem?_set_ne (fun e => hj e.symm)]
    rw [this]
    exact hok
  · rcases h4 rfl with ⟨_, _, _, _, c5⟩ | ⟨b, a', c1, c2, c3, c4, c5⟩
    · omega
    · have h5 := c5 (by omega)
      subst h5 c2
      simp only [Nat.zero_mul, Nat.add_zero]
      have g3 := g2
      simp only [c1] at g3
      obtain ⟨b1, hx, hnF, b4, b5, cells, T, b6, b7, b8⟩ := g3
      rw [b1] at b8
      have b9 := concRows_rI.1 b8
      refine (hC h0 b inf.off cap Γ.w (fun j hj => ⟨?_, by simp [World.frozen?, b6]⟩) (hok.X b hx) (by rw [c3]; omega)).mono fun e w' ⟨he, n, os, hw⟩ => ?_
      · have hj' : j < xs.length := by simpa using hj
        have := b9 j xs[j] (by simp [hj'])
        rw [this]
        simp [hj']
      · obtain ⟨Γ', k1, k2, k3, k4⟩ := row_turn hok ho h1 c1 hl n os
        refine ⟨_, _, Γ', _, he, ⟨rfl, rfl⟩, by rw [k1, hw], k2, k3, ?_⟩
        simp only [concV, conc]
        refine ⟨inf, ver, _, cap, by rw [k4]; exact h1, Nat.le_refl _, rfl, fun _ => .inr ⟨b, _, c1, rfl, c3, by omega, fun _ => by simp⟩⟩
end Go.Nx
/- A region of which operations may go many ways: all of them. -/
namespace Go.Nx
set_option linter.unusedVariables false
set_option linter.unusedSimpArgs false

/-- What goes on without a call. -/
def Calm (r : Result Next) : Prop :=
  match r with
  | .ok (.enter _ _) _ => False
  | .ok (.row _ _) _ => False
  | _ => True
theorem calm_v {P : Program} {w : World} (s : Sem Value) : Calm ((do pure (Next.value (← s)) : Sem Next).run P w) := by
  simp only [Sem.run_bind]
  cases s.run P w <;> simp [Calm]
theorem calm_u {P : Program} {w : World} (s : Sem Unit) : Calm ((do s; pure Next.skip : Sem Next).run P w) := by
  simp only [Sem.run_bind]
  cases s.run P w <;> simp [Calm]
def calmOp : Op → Bool
  | .move _ | .assign _ | .alloc _ | .box _ _ | .build _ _ | .buildSlice _ _ _ | .load _ _ | .store _ _ _ | .binOp _ _ _ _ _ | .unOp _ _ _ | .convert _ _ _ | .makeSlice _ _ _ | .slice _ _ _ _ _ | .fieldAddr _ _ _ | .field _ _ _ | .indexAddr _ _ _ | .index _ _ _ | .extract _ _ => true
  | .call { callee := .builtin .append, .. } | .call { callee := .builtin .len, .. } => true
  | _ => false
theorem calm_op {P : Program} {w : World} {ρ : Operand → Value} {o : Oper} (h : calmOp o.op = true) : Calm ((execOp ρ o).run P w) := by
  unfold execOp
  cases ho : o.op with
  | move x => simp [Calm]
  | assign x => simp [Calm]
  | alloc t => exact calm_v _
  | box t x => exact calm_v _
  | build t ps => exact calm_v _
  | buildSlice t n ps => exact calm_v _
  | load t x => exact calm_v _
  | store t x y => exact calm_u _
  | binOp op t x y t' => exact calm_v _
  | unOp op t x => exact calm_v _
  | convert t t' x => exact calm_v _
  | makeSlice t l c => exact calm_v _
  | slice t x l h m => exact calm_v _
  | fieldAddr t x f => exact calm_v _
  | field t x f => exact calm_v _
  | indexAddr t x i => exact calm_v _
  | index t x i => exact calm_v _
  | extract x i => exact calm_v _
  | call c =>
    rw [ho] at h
    obtain ⟨callee, args, ts⟩ := c
    cases callee with
    | builtin b =>
      cases b with
      | append =>
        simp only [resolve, Sem.run_bind, Sem.run_pure, Result.andThen_ok, invoke, builtin]
        generalize (Builtin.append_ ts o.type (args.map ρ)).run P w = r
        cases r <;> simp [Calm]
      | len =>
        simp only [resolve, Sem.run_bind, Sem.run_pure, Result.andThen_ok, invoke, builtin]
        generalize (Builtin.len_ ts o.type (args.map ρ)).run P w = r
        cases r <;> simp [Calm]
      | _ => simp [calmOp] at h
    | _ => simp [calmOp] at h
  | _ => rw [ho] at h; simp [calmOp] at h
theorem wp_both {P : Program} {o : Oper} {a : Act} {w : World} {K K' : Act → World → Prop} {Q : Exit → Act → World → Prop} (hc : calmOp o.op = true) (h : o.wp P a w K Q) (h' : o.wp P a w K' Q) : o.wp P a w (fun a w => K a w ∧ K' a w) Q := by
  have hr := calm_op (P := P) (w := w) (ρ := a.eval) hc
  unfold Oper.wp at *
  generalize (execOp a.eval o).run P w = r at *
  cases r with
  | ok n w' =>
    cases n with
    | value v => exact ⟨h, h'⟩
    | skip => exact ⟨h, h'⟩
    | defer d => exact ⟨h, h'⟩
    | enter f args => exact hr.elim
    | row r args => exact hr.elim
    | _ => exact h
  | halt e w' => cases e <;> first | exact h | exact h.elim
theorem wpOp_both {P : Program} {ops : Array Oper} {i : Nat} {o : Oper} (ho : ops[i]? = some o) (hc : calmOp o.op = true) {a : Act} {w : World} {K K' : Act → World → Prop} {Q : Exit → Act → World → Prop} (h : wpOp P ops Q i K a w) (h' : wpOp P ops Q i K' a w) : wpOp P ops Q i (fun a w => K a w ∧ K' a w) a w := by
  unfold wpOp at *
  rw [ho] at *
  simp only at *
  split
  · rename_i hw
    rw [if_pos hw] at h h'
    rcases h with h | h
    · rcases h' with h' | h'
      · exact .inl (wp_both hc h h')
      · exact .inr h'
    · exact .inr h
  · rename_i hw
    rw [if_neg hw] at h h'
    exact ⟨h, h'⟩

/-- What can't begin ahead of both of the two. -/
def shutOk (l : List Oper) (B : List Nat) (x y : Nat) : Bool :=
  B.contains x && B.contains y && (List.range l.length).all fun k => match l[k]? with
    | none => true
    | some o => if B.contains k then (Nat.beq k x || Nat.beq k y || o.after.any fun e => Region.binds .any e && B.contains e.on) else calmOp o.op
theorem shutOk_spec {l : List Oper} {B : List Nat} {x y : Nat} (h : shutOk l B x y = true) : B.contains x = true ∧ B.contains y = true ∧ ∀ k o, l[k]? = some o → (B.contains k = false → calmOp o.op = true) ∧ (B.contains k = true → k = x ∨ k = y ∨ ∃ e ∈ o.after, Region.binds .any e = true ∧ B.contains e.on = true) := by
  unfold shutOk at h
  rw [Bool.and_eq_true, Bool.and_eq_true, List.all_eq_true] at h
  obtain ⟨⟨h1, h2⟩, h3⟩ := h
  refine ⟨h1, h2, fun k o ho => ?_⟩
  have := h3 k (List.mem_range.2 (List.getElem?_eq_some_iff.1 ho).1)
  rw [ho] at this
  simp only at this
  constructor
  · intro hb
    rw [hb] at this
    simpa using this
  · intro hb
    rw [if_pos hb] at this
    rw [Bool.or_eq_true, Bool.or_eq_true] at this
    rcases this with (h | h) | h
    · exact .inl (Nat.eq_of_beq_eq_true h)
    · exact .inr (.inl (Nat.eq_of_beq_eq_true h))
    · rw [Array.any_eq_true'] at h
      obtain ⟨e, he, hb⟩ := h
      rw [Bool.and_eq_true] at hb
      exact .inr (.inr ⟨e, he, hb.1, hb.2⟩)
/-- One of two comes first. -/
theorem any_fork {P : Program} {psA psB : List Nat} {l : List Oper} {x y : Nat} (B : List Nat) (hrA : RowOk l psA y) (hrB : RowOk l psB x) (hxy : x ≠ y) (hBx : B.contains x = true) (hBy : B.contains y = true) (hq : ∀ k o, l[k]? = some o → (B.contains k = false → calmOp o.op = true) ∧ (B.contains k = true → k = x ∨ k = y ∨ ∃ e ∈ o.after, Region.binds .any e = true ∧ B.contains e.on = true)) {Q : Exit → Act → World → Prop} : ∀ (fuel : Nat) (listed lA lB : Array Bool) (a : Act) (w : World),
    Match psA l.length listed lA → Match psB l.length listed lB → (∀ j, B.contains j = true → listed.getD j false = false) →
    wpAny P .any (rerow l psA x y).toArray Q fuel lA a w → wpAny P .any (rerow l psB y x).toArray Q fuel lB a w → wpAny P .any l.toArray Q fuel listed a w := by
  intro fuel
  induction fuel with
  | zero =>
    intro listed lA lB a w hmA hmB hinv hA hB
    have hx := hinv x hBx
    have hy := hinv y hBy
    refine ⟨?_, hA.2⟩
    cases hrd : Region.ready .any l.toArray listed with
    | nil => rfl
    | cons k r =>
      by_cases hk : k = x
      · obtain ⟨i, _, _, hi⟩ := ready_forth (x := y) hrB hmB (k := k) (by rw [hrd]; simp) (fun he => absurd (hk.symm.trans he) hxy)
        rw [hB.1] at hi
        cases hi
      · obtain ⟨i, _, _, hi⟩ := ready_forth (x := x) hrA hmA (k := k) (by rw [hrd]; simp) (fun he => absurd he hk)
        rw [hA.1] at hi
        cases hi
  | succ fuel ih =>
    intro listed lA lB a w hmA hmB hinv hA hB
    have hx := hinv x hBx
    have hy := hinv y hBy
    refine ⟨fun he => hA.1 ?_, fun k hk => ?_⟩
    · cases hrd : Region.ready .any (rerow l psA x y).toArray lA with
      | nil => rfl
      | cons i r =>
        have := (ready_back hrA hmA (i := i) (by rw [hrd]; simp)).2
        rw [he] at this
        cases this
    · have hkl : k < l.length := by
        obtain ⟨_, o, ho, _⟩ := mem_ready.1 hk
        simp only [List.getElem?_toArray] at ho
        exact (List.getElem?_eq_some_iff.1 ho).1
      have hset : ∀ z, (listed.setIfInBounds k true).getD z false = true ↔ (listed.getD z false = true ∨ z = k) := by
        intro z
        have hsz := hmA.1
        by_cases hki : z = k
        · subst hki
          simp [Array.getD_eq_getD_getElem?, hsz, hkl]
        · rw [Array.getD_eq_getD_getElem?, Array.getElem?_setIfInBounds_ne (fun e => hki e.symm), ← Array.getD_eq_getD_getElem?]
          simp [hki]
      by_cases hkx : k = x
      · obtain ⟨i, hil, hpi, hi⟩ := ready_forth (x := y) hrB hmB hk (fun he => absurd (hkx.symm.trans he) hxy)
        have := wpOp_row (x := y) hrB hil (fun a w hn => any_row hrB fuel _ _ a w (hmB.set hrB hil) (by rw [hpi, hset, hkx]; exact .inr rfl) hn) (hB.2 i hi)
        rw [hpi] at this
        exact this
      · obtain ⟨i, hil, hpi, hi⟩ := ready_forth (x := x) hrA hmA hk (fun he => absurd he hkx)
        by_cases hky : k = y
        · have := wpOp_row (x := x) hrA hil (fun a w hn => any_row hrA fuel _ _ a w (hmA.set hrA hil) (by rw [hpi, hset, hky]; exact .inr rfl) hn) (hA.2 i hi)
          rw [hpi] at this
          exact this
        · obtain ⟨j, hjl, hpj, hj⟩ := ready_forth (x := y) hrB hmB hk (fun he => absurd he hky)
          have h1 := wpOp_row (x := x) hrA hil (fun a w hn => hn) (hA.2 i hi)
          have h2 := wpOp_row (x := y) hrB hjl (fun a w hn => hn) (hB.2 j hj)
          rw [hpi] at h1
          rw [hpj] at h2
          have ho : l.toArray[k]? = some (l.getD k noOper) := by simp only [List.getElem?_toArray]; exact getD_get hkl
          have hkB : B.contains k = false := by
            cases hkb : B.contains k with
            | false => rfl
            | true =>
              rcases (hq k _ (getD_get hkl)).2 hkb with h | h | ⟨e, he, hbi, hbe⟩
              · exact absurd h hkx
              · exact absurd h hky
              · obtain ⟨_, o', ho', hdep⟩ := mem_ready.1 hk
                rw [ho] at ho'
                cases ho'
                have := hdep e he hbi
                rw [hinv _ hbe] at this
                cases this
          have hb := wpOp_both ho ((hq k _ (getD_get hkl)).1 hkB) h1 h2
          have hng : ∀ z, z ≠ k → listed.getD z false = false → (listed.setIfInBounds k true).getD z false = false := by
            intro z hz hf
            cases h : (listed.setIfInBounds k true).getD z false with
            | false => rfl
            | true =>
              rcases (hset z).1 h with h3 | h3
              · rw [hf] at h3; cases h3
              · exact absurd h3 hz
          have hmono : ∀ {K K' : Act → World → Prop}, (∀ a w, K a w → K' a w) → wpOp P l.toArray Q k K a w → wpOp P l.toArray Q k K' a w := by
            intro K K' hKK h
            unfold wpOp at *
            rw [ho] at *
            simp only at *
            split
            · rename_i hw
              rw [if_pos hw] at h
              rcases h with h | h
              · exact .inl (Oper.wp_mono hKK h)
              · exact .inr h
            · rename_i hw
              rw [if_neg hw] at h
              exact hKK _ _ h
          refine hmono (fun a' w' hh => ih _ _ _ a' w' ?_ ?_ (fun j hj => hng j (fun e => by rw [e, hkB] at hj; cases hj) (hinv j hj)) hh.1 hh.2) hb
          · have := hmA.set hrA hil
            rwa [hpi] at this
          · have := hmB.set hrB hjl
            rwa [hpj] at this

/-- Wherever a region's operations begin. -/
def RegAny (F : Fr) (l : List Oper) (Q : Exit → St → Prop) (S : St) : Prop :=
  ∀ a w, Sat F.n F.Γ S a w → wpAny F.P .any l.toArray (fun ex a' w' => ∃ S', Q ex S' ∧ Sat F.n F.Γ S' a' w') l.length (Array.replicate l.length false) a w

theorem Match.start {ps : List Nat} {l : List Oper} {y : Nat} (hr : RowOk l ps y) : Match ps l.length (Array.replicate l.length false) (Array.replicate l.length false) :=
  ⟨by simp, by simp, fun i hi => by
    have h1 := hr.lt1 i hi
    rw [Array.getD_eq_getD_getElem?, Array.getD_eq_getD_getElem?, Array.getElem?_replicate, Array.getElem?_replicate, if_pos hi, if_pos h1]⟩
theorem RegAny.fork {F : Fr} {Q : Exit → St → Prop} {S : St} {l : List Oper} (x y : Nat) (psA psB : List Nat) (hA : rowOk l psA y = true) (hB : rowOk l psB x = true) (B : List Nat) (hxy : Nat.beq x y = false) (hq : shutOk l B x y = true)
    (h1 : RegAny F (rerow l psA x y) Q S) (h2 : RegAny F (rerow l psB y x) Q S) : RegAny F l Q S := by
  intro a w hs
  have hrA := rowOk_spec hA
  have hrB := rowOk_spec hB
  have e1 : (rerow l psA x y).length = l.length := by simp [rerow, hrA.len]
  have e2 : (rerow l psB y x).length = l.length := by simp [rerow, hrB.len]
  have g1 := h1 a w hs
  have g2 := h2 a w hs
  rw [e1] at g1
  rw [e2] at g2
  obtain ⟨q1, q2, q3⟩ := shutOk_spec hq
  exact any_fork B hrA hrB (fun e => by subst e; simp at hxy) q1 q2 q3 _ _ _ _ a w (Match.start hrA) (Match.start hrB) (fun j _ => by simp [Array.getD_eq_getD_getElem?, Array.getElem?_replicate]; split <;> rfl) g1 g2
theorem RegAny.leaf {F : Fr} {S S0 : St} {l l' : List Oper} (W : WW) (gs : List (List (Nat × Bool))) (ex : List Bool) (live : List Nat) {n : Nat} (hn : F.n = n) (hchk : (chk (owOf (some W)) l gs ex true n && liveOk l gs live) = true) (hk : l.map keyO = l'.map keyO)
    (h : RunR F.P (some W) l' gs ex S.env S.heap (fun e' H' => ∃ r, Keeps e' live r ∧ St.Weak F ⟨r, H'⟩ S0)) : RegAny F l (fun ex S' => ex = .normal ∧ S'.Weak F S0) S := by
  intro a w hs
  subst hn
  simp only [Bool.and_eq_true] at hchk
  obtain ⟨k1, k2⟩ := hchk
  obtain ⟨e', H', hs1, r, hkp, hw⟩ := RunR.congr hk h
  obtain ⟨E, HH, X, A, h1, h2, h3, h4, h5⟩ := specR_trace hs1
  have ht : Trace F.P (some W) l gs ex S.env E HH X A := ⟨h1, fun k o ho => (h5 k o ho).1, fun k o ho => (h5 k o ho).2⟩
  refine sim_any (P := F.P) (ops := l.toArray) (W := some W) (Γ0 := F.Γ) ⟨W, rfl⟩ (by simpa using k1) (by simpa using ht) (fun a' w' hI => ?_) l.length _ (by simp) ?_ (fun k o _ hk => ?_) a w (Inv.start h2 hs (fun k hk => ?_))
  · have hI' : Inv (owOf (some W)) F.n F.Γ l S.env HH X A (fun k => k < l.length) a' w' := by simpa using hI
    have hd := Inv.done ht k1 hI' (fun k hk => hk) k2
    rw [h3, h4, hkp.sel] at hd
    exact ⟨_, ⟨rfl, hw⟩, hd⟩
  · have := List.countP_le_length (p := fun k => !(Array.replicate l.length false).getD k false) (l := List.range l.length)
    rw [List.length_range] at this
    simpa using this
  all_goals
    simp [Array.getD_eq_getD_getElem?, Array.getElem?_replicate] at hk
    split at hk <;> simp at hk
theorem Wp.ways {F : Fr} {Q : Exit → St → Prop} {S S0 : St} {id : Nat} {l : List Oper} (hm : F.P.follows .mixedOrders = true) (h : RegAny F l (fun ex S' => ex = .normal ∧ S'.Weak F S0) S) (hQ : Q .normal S0) : Wp F (.region id l.toArray true) Q S := by
  have h1 : Wp F (.region id l.toArray true) (fun ex S' => ex = .normal ∧ S'.Weak F S0) S := fun a w hs => wp_region_any hm (by simpa using h a _ hs.drew)
  intro a w hs
  refine wp_mono (h1 a w hs) fun ex a' w' he => ?_
  obtain ⟨S', ⟨rfl, hw⟩, hs'⟩ := he
  exact ⟨S0, hQ, hw a' w' hs'⟩
end Go.Nx
