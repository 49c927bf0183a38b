/- Every operation, together. -/
import Derived.Test.YtcnbkfgajnlbpaaNxG
namespace Go.Nx
set_option linter.unusedVariables false
set_option linter.unusedSimpArgs false

theorem fo_spec {P : Program} {s f off n : Nat} {g : Bool} (h : fo P s f = some (off, n, g)) :
    ∃ fs fd, P.underlying s = some (.struct fs) ∧ fs[f]? = some fd ∧ fd.offset = off ∧ tk P fd.type = some (g, n) := by
  unfold fo at h
  split at h
  · rename_i fs hu
    split at h
    · rename_i fd hf
      simp only [Option.map_eq_some_iff, Prod.mk.injEq, Prod.exists] at h
      obtain ⟨g', n', h1, rfl, rfl, rfl⟩ := h
      exact ⟨fs, fd, hu, hf, rfl, h1⟩
    · cases h
  · cases h

theorem ar_spec {P : Program} {t n s : Nat} {g : Bool} (h : ar P t = some (n, s, g)) : ∃ e, P.underlying t = some (.array n e) ∧ tk P e = some (g, s) := by
  unfold ar at h
  split at h
  · rename_i n' e hu
    simp only [Option.map_eq_some_iff, Prod.mk.injEq, Prod.exists] at h
    obtain ⟨g', s', h1, rfl, rfl, rfl⟩ := h
    exact ⟨e, hu, h1⟩
  · cases h

theorem ptr_value {Γ : Ctx} {H : List Ob} (hok : HeapOk Γ H) {h ver i k : Nat} {y : Value} (hc : conc Γ (.ptr h ver i k) y) {z : Nat} {rows : List (List Leaf)} (ho : obj H h ver = some (z, rows)) :
    ∃ inf b, Γ.hs[h]? = some (inf, ver) ∧ inf.base = some b ∧ y = .pointer (some ⟨b, inf.off + i * inf.sz + k, none⟩) := by
  obtain ⟨inf, h1, _, _⟩ := hok.obj ho
  simp only [conc] at hc
  obtain ⟨inf', ver', p, g1, _, rfl, g3⟩ := hc
  rw [h1] at g1
  cases g1
  obtain ⟨b, hb, rfl⟩ := g3 rfl
  exact ⟨inf, b, h1, hb, rfl⟩

theorem conc_ptr_mk {Γ : Ctx} {h ver i k b : Nat} {inf : Info} {p : Option Addr} (h1 : Γ.hs[h]? = some (inf, ver)) (hb : inf.base = some b) (hp : p = some ⟨b, inf.off + i * inf.sz + k, none⟩) : conc Γ (.ptr h ver i k) (.pointer p) := by
  simp only [conc]
  exact ⟨inf, ver, p, h1, Nat.le_refl _, rfl, fun _ => ⟨b, hb, hp⟩⟩

theorem fieldAt_run {P : Program} {w : World} {s f off n b o : Nat} {g : Bool} (h : fo P s f = some (off, n, g)) (hn : n ≠ 0) :
    (Instr.fieldAt s (.pointer (some ⟨b, o, none⟩)) f).run P w = .ok (.pointer (some ⟨b, o + off, none⟩)) w := by
  obtain ⟨fs, fd, hu, hf, rfl, ht⟩ := fo_spec h
  have hs := (tk_spec ht w).2
  simp [Instr.fieldAt, Instr.sureAddr, run_underlying hu, hf, fieldPlace, hs, hn, add_off]

theorem fieldAddr_sound {P : Program} {Γ : Ctx} {H : List Ob} (hok : HeapOk Γ H) {s f off n : Nat} {g : Bool} (h : fo P s f = some (off, n, g)) (hn : n ≠ 0) {l : Leaf} {y : Value} (hc : conc Γ l y) :
    (∀ hd ver i k z rows, l = .ptr hd ver i k → obj H hd ver = some (z, rows) → ∃ v, (Instr.fieldAt s y f).run P Γ.w = .ok v Γ.w ∧ conc Γ (.ptr hd ver i (k + off)) v) ∧
    (∀ rows i k, l = .fptr rows i k → ∃ v, (Instr.fieldAt s y f).run P Γ.w = .ok v Γ.w ∧ conc Γ (.fptr rows i (k + off)) v) := by
  constructor
  · rintro hd ver i k z rows rfl ho
    obtain ⟨inf, b, h1, hb, rfl⟩ := ptr_value hok hc ho
    exact ⟨_, fieldAt_run h hn, conc_ptr_mk h1 hb (by rw [Nat.add_assoc])⟩
  · rintro rows i k rfl
    simp only [conc] at hc
    obtain ⟨b, o, sz, rfl, h2, h3⟩ := hc
    refine ⟨_, fieldAt_run h hn, ?_⟩
    simp only [conc]
    exact ⟨b, o, sz, by rw [← Nat.add_assoc], h2, h3⟩

theorem intBin_sound {P : Program} {Γ : Ctx} {op : BinOp} {k : IntKind} {m n : Int} {l : Leaf} (h : intBin op k m n = some l) (t : TypeId) :
    ∃ y, (binOp op t (.int k m) (.int k n)).run P Γ.w = .ok y Γ.w ∧ conc Γ l y := by
  unfold intBin at h
  cases op <;> simp only [reduceCtorEq] at h
  all_goals first
    | (simp only [Option.some.injEq] at h; subst h; exact ⟨_, by simp [binOp, Op.intArith, Op.intCmp]; rfl, by simp [conc, Value.oneCell']⟩)
    | (split at h
       · cases h
       · rename_i hn
         simp only [Option.some.injEq] at h
         subst h
         exact ⟨_, by simp [binOp, Op.intDiv, hn]; rfl, by simp [conc, Value.oneCell']⟩)

theorem bool_eq_run {P : Program} {w : World} (t : TypeId) (m n : Bool) (op : BinOp) (hop : op = .eql ∨ op = .neq) (ht : P.underlying t = some .bool) :
    (binOp op t (.bool m) (.bool n)).run P w = .ok (.bool (if op = .eql then m == n else !(m == n))) w := by
  have := run_equalIn_bool' (P := P) w 9999 t m n ht
  rcases hop with rfl | rfl <;> simp [binOp, Op.equal, Op.maxDepth, this]

theorem slice_nil_run {P : Program} {w : World} {t e : TypeId} (ht : P.underlying t = some (.slice e)) (a : Option Addr) (n c : Nat) (op : BinOp) (hop : op = .eql ∨ op = .neq) :
    (binOp op t (.slice a n c) (.slice none 0 0)).run P w = .ok (.bool (if op = .eql then a.isNone else !a.isNone)) w := by
  have h : ∀ d, (Op.equalIn (d + 1) t (.slice a n c) (.slice none 0 0)).run P w = .ok a.isNone w := by
    intro d
    cases a <;> simp [Op.equalIn, run_underlying ht]
  have h := h 9999
  rcases hop with rfl | rfl <;> simp [binOp, Op.equal, Op.maxDepth, h]

theorem nilB_spec {Γ : Ctx} {H : List Ob} (hok : HeapOk Γ H) {l : Leaf} {b : Bool} (h : nilB H l = some b) {y : Value} (hc : conc Γ l y) : ∃ a n c, y = .slice a n c ∧ a.isNone = b := by
  unfold nilB at h
  split at h
  · split at h
    · simp only [Option.some.injEq] at h
      subst h
      simp only [conc] at hc
      rcases hc with ⟨_, h0⟩ | ⟨a, cap, sz, rfl, _⟩
      · cases h0
      · exact ⟨some a, _, cap, rfl, rfl⟩
    · cases h
  · simp only [Option.some.injEq] at h
    subst h
    simp only [conc] at hc
    obtain ⟨a, cap, sz, rfl, _⟩ := hc
    exact ⟨some a, _, cap, rfl, rfl⟩
  · simp only [Option.some.injEq] at h
    subst h
    simp only [conc] at hc
    exact ⟨none, 0, 0, hc.1, rfl⟩
  · rename_i hd ver lo len
    split at h
    · rename_i zr ho
      obtain ⟨z, rows⟩ := zr
      split at h
      · rename_i hlen
        simp only [Option.some.injEq] at h
        subst h
        obtain ⟨inf, h1, _, _⟩ := hok.obj ho
        simp only [conc] at hc
        obtain ⟨inf', ver', a, cap, g1, _, rfl, g3⟩ := hc
        rw [h1] at g1
        cases g1
        rcases g3 rfl with ⟨_, _, _, _, h0⟩ | ⟨b, a', _, rfl, _⟩
        · omega
        · exact ⟨some a', _, _, rfl, rfl⟩
      · cases h
    · cases h
  · cases h

theorem isNilS_spec {b : Leaf} (h : isNilS b = true) : b = .v (.slice none 0 0) := by
  unfold isNilS at h
  split at h
  · rfl
  · cases h

theorem eqGuard_slice {P : Program} {w : World} (op : BinOp) (t : TypeId) (x y : Operand) (a b : Option Addr) (n m c d : Nat) : (eqGuard op t x y (.slice a n c) (.slice b m d)).run P w = .ok () w := by
  cases op <;> simp [eqGuard]
theorem eqGuard_int {P : Program} {w : World} (op : BinOp) (t : TypeId) (x y : Operand) (k k' : IntKind) (m n : Int) : (eqGuard op t x y (.int k m) (.int k' n)).run P w = .ok () w := by
  cases op <;> simp [eqGuard]
theorem eqGuard_bool {P : Program} {w : World} (op : BinOp) (t : TypeId) (x y : Operand) (m n : Bool) : (eqGuard op t x y (.bool m) (.bool n)).run P w = .ok () w := by
  cases op <;> simp [eqGuard]

theorem agg_eq_run {P : Program} {Γ : Ctx} {t : TypeId} {s : List Sh} (hs : eqs P t = some s) {as bs : List Leaf} {xs ys : Array Value} (hx : concAll Γ as xs.toList) (hy : concAll Γ bs ys.toList) {b : Bool} (he : eqCells s as bs = some b) (x y : Operand) (op : BinOp) (hop : op = .eql ∨ op = .neq) :
    (eqGuard op t x y (.agg xs) (.agg ys)).run P Γ.w = .ok () Γ.w ∧ (binOp op t (.agg xs) (.agg ys)).run P Γ.w = .ok (.bool (if op = .eql then b else !b)) Γ.w := by
  unfold eqs at hs
  split at hs
  case h_2 => cases hs
  rename_i fs hu
  split at hs
  · cases hs
  · rename_i hgt
    refine ⟨run_eqGuard_agg (P := P) Γ.w op t x y xs ys (by simpa using hgt), ?_⟩
    have h := eq_shape (P := P) (w := Γ.w) 8 t s hs as bs xs.toList ys.toList b hx hy he 10000 (by omega)
    have e1 : ofCells P t xs.toList = .agg xs := by simp [ofCells, hu]
    have e2 : ofCells P t ys.toList = .agg ys := by simp [ofCells, hu]
    rw [e1, e2] at h
    rcases hop with rfl | rfl
    · rw [run_eql_struct, h]; simp
    · rw [run_neq_struct, h]; simp

theorem binV_sound {P : Program} {Γ : Ctx} {H : List Ob} (hok : HeapOk Γ H) {op : BinOp} {t : TypeId} {u v : AVal} {l : Leaf} (h : binV P H op t u v = some l) (x y : Operand) {a b : Value} (ha : concV Γ u a) (hb : concV Γ v b) :
    (eqGuard op t x y a b).run P Γ.w = .ok () Γ.w ∧ ∃ z, (binOp op t a b).run P Γ.w = .ok z Γ.w ∧ conc Γ l z := by
  unfold binV at h
  split at h
  · rename_i k m k' n
    split at h
    · rename_i hk
      subst hk
      simp only [concV, conc] at ha hb
      obtain ⟨rfl, _⟩ := ha
      obtain ⟨rfl, _⟩ := hb
      exact ⟨eqGuard_int op t x y k k m n, intBin_sound h t⟩
    · cases h
  · rename_i m n
    simp only [concV, conc] at ha hb
    obtain ⟨rfl, _⟩ := ha
    obtain ⟨rfl, _⟩ := hb
    split at h
    case h_2 => cases h
    rename_i ht
    split at h
    · simp only [Option.some.injEq] at h
      subst h
      exact ⟨eqGuard_bool _ t x y m n, _, bool_eq_run t m n .eql (.inl rfl) ht, by simp [conc, Value.oneCell']⟩
    · simp only [Option.some.injEq] at h
      subst h
      exact ⟨eqGuard_bool _ t x y m n, _, bool_eq_run t m n .neq (.inr rfl) ht, by simp [conc, Value.oneCell']⟩
    · cases h
  · rename_i as bs
    split at h
    case h_2 => cases h
    rename_i s hs
    simp only [concV] at ha hb
    obtain ⟨xs, rfl, hx⟩ := ha
    obtain ⟨ys, rfl, hy⟩ := hb
    split at h
    · simp only [Option.map_eq_some_iff] at h
      obtain ⟨e, he, rfl⟩ := h
      have := agg_eq_run hs hx hy he x y .eql (.inl rfl)
      exact ⟨this.1, _, this.2, by simp [conc, Value.oneCell']⟩
    · simp only [Option.map_eq_some_iff] at h
      obtain ⟨e, he, rfl⟩ := h
      have := agg_eq_run hs hx hy he x y .neq (.inr rfl)
      exact ⟨this.1, _, this.2, by simp [conc, Value.oneCell']⟩
    · cases h
  · rename_i c d _ _
    split at h
    case isFalse => cases h
    rename_i hn
    have := isNilS_spec hn
    subst this
    simp only [concV] at ha hb
    simp only [conc] at hb
    obtain ⟨rfl, _⟩ := hb
    split at h
    case h_2 => cases h
    rename_i e ht
    split at h
    · simp only [Option.map_eq_some_iff] at h
      obtain ⟨e, he, rfl⟩ := h
      obtain ⟨a, n, c, rfl, rfl⟩ := nilB_spec hok he ha
      exact ⟨eqGuard_slice _ t x y _ _ _ _ _ _, _, slice_nil_run ht a n c .eql (.inl rfl), by simp [conc, Value.oneCell']⟩
    · simp only [Option.map_eq_some_iff] at h
      obtain ⟨e, he, rfl⟩ := h
      obtain ⟨a, n, c, rfl, rfl⟩ := nilB_spec hok he ha
      exact ⟨eqGuard_slice _ t x y _ _ _ _ _ _, _, slice_nil_run ht a n c .neq (.inr rfl), by simp [conc, Value.oneCell']⟩
    · cases h
  · cases h

theorem sliceBound_run {P : Program} {w : World} (k : IntKind) (i : Int) (y : Nat) (code : BoundsCode) (h0 : 0 ≤ i) (h1 : i ≤ y) : (Instr.sliceBound (.int k i) y code).run P w = .ok i.toNat w := by
  simp [Instr.sliceBound, asIntOf, h0, h1]

theorem slice_run {P : Program} {w : World} {t e : TypeId} {size : Nat} (ht : P.underlying t = some (.slice e)) (hs : (sizeOf e).run P w = .ok size w) (a : Option Addr) (n cap : Nat) (lo hi : Option Value) (l h : Int)
    (hlo : (lo = none ∧ l = 0) ∨ ∃ k, lo = some (.int k l)) (hhi : (hi = none ∧ h = n) ∨ ∃ k, hi = some (.int k h)) (h0 : 0 ≤ l) (h1 : l ≤ h) (h2 : h ≤ n) (hnc : n ≤ cap) :
    (Instr.sliceAt t (.slice a n cap) lo hi none).run P w = .ok (.slice (if cap = l.toNat then a else a.map (·.add (l.toNat * size))) (h.toNat - l.toNat) (cap - l.toNat)) w := by
  have e1 : ((h.toNat : Nat) : Int) = h := by omega
  rcases hlo with ⟨rfl, rfl⟩ | ⟨k, rfl⟩ <;> rcases hhi with ⟨rfl, rfl⟩ | ⟨k', rfl⟩
  · simp [Instr.sliceAt, run_underlying ht, Instr.slice, Instr.sliceBounds, hs]
  · have hb := sliceBound_run (P := P) (w := w) k' h cap .sliceAcap (by omega) (by omega)
    simp [Instr.sliceAt, run_underlying ht, Instr.slice, Instr.sliceBounds, hs, hb]
  · have hb := sliceBound_run (P := P) (w := w) k l n .sliceB h0 (by omega)
    simp [Instr.sliceAt, run_underlying ht, Instr.slice, Instr.sliceBounds, hs, hb]
  · have hb' := sliceBound_run (P := P) (w := w) k' h cap .sliceAcap (by omega) (by omega)
    have hb := sliceBound_run (P := P) (w := w) k l h.toNat .sliceB h0 (by omega)
    simp [Instr.sliceAt, run_underlying ht, Instr.slice, Instr.sliceBounds, hs, hb, hb']

theorem frozen_slice {Γ : Ctx} {rows : List (List Leaf)} {a : Addr} {cap sz size : Nat} (hcap : rows.length ≤ cap) (h3 : rows = [] ∨ (a.spot = none ∧ Γ.F a.block ∧ concRows Γ a.block sz a.off rows)) (hl : ∀ r ∈ rows, r.length = size)
    (l h : Nat) (h1 : l ≤ h) (h2 : h ≤ rows.length) :
    ∃ a' cap' sz', Value.slice (if cap = l then some a else some (a.add (l * size))) (h - l) (cap - l) = .slice (some a') ((rows.take h).drop l).length cap' ∧ ((rows.take h).drop l).length ≤ cap' ∧
      ((rows.take h).drop l = [] ∨ (a'.spot = none ∧ Γ.F a'.block ∧ concRows Γ a'.block sz' a'.off ((rows.take h).drop l))) := by
  have hlen : ((rows.take h).drop l).length = h - l := by simp; omega
  refine ⟨if cap = l then a else a.add (l * size), cap - l, sz, ?_, by rw [hlen]; omega, ?_⟩
  · rw [hlen]; congr 1; split <;> rfl
  · by_cases h0 : h = l
    · left
      exact List.eq_nil_of_length_eq_zero (by rw [hlen]; omega)
    · right
      rcases h3 with rfl | ⟨g1, g2, g3⟩
      · simp at h2; omega
      · have hsz : size = sz := by
          cases rows with
          | nil => simp at h2; omega
          | cons r rs => rw [← hl r (by simp), (concRows_get g3 (i := 0) (r := r) (by simp)).1]
        subst hsz
        rw [if_neg (by omega)]
        obtain ⟨b, o, s⟩ := a
        simp only at g1 g2 g3
        subst g1
        rw [add_off]
        exact ⟨rfl, g2, concRows_drop (concRows_take g3 h) l⟩

theorem sliceV_sound {P : Program} {Γ : Ctx} {H : List Ob} (hok : HeapOk Γ H) {t : TypeId} {x r : Leaf} {lo hi : Option Int} (hv : sliceV P H t x lo hi = some r) {y : Value} (hc : conc Γ x y) (vlo vhi : Option Value)
    (hlo : (vlo = none ∧ lo = none) ∨ ∃ k n, vlo = some (.int k n) ∧ lo = some n) (hhi : (vhi = none ∧ hi = none) ∨ ∃ k n, vhi = some (.int k n) ∧ hi = some n) :
    ∃ z, (Instr.sliceAt t y vlo vhi none).run P Γ.w = .ok z Γ.w ∧ conc Γ r z := by
  unfold sliceV at hv
  split at hv
  case h_2 => cases hv
  rename_i e size rest n hse hn
  obtain ⟨bytes, zz⟩ := rest
  obtain ⟨ht, i, zv, hi', rfl, _, _, _, _⟩ := se_spec hse
  have hs : (sizeOf e).run P Γ.w = .ok i.size Γ.w := by simp [sizeOf, typeInfo, hi']
  split at hv
  case isFalse => cases hv
  rename_i hb
  obtain ⟨b1, b2, b3⟩ := hb
  have hlo' : (vlo = none ∧ lo.getD 0 = 0) ∨ ∃ k, vlo = some (.int k (lo.getD 0)) := by
    rcases hlo with ⟨h1, h2⟩ | ⟨k, m, h1, h2⟩
    · exact .inl ⟨h1, by simp [h2]⟩
    · exact .inr ⟨k, by simp [h1, h2]⟩
  have hhi' : (vhi = none ∧ hi.getD n = n) ∨ ∃ k, vhi = some (.int k (hi.getD n)) := by
    rcases hhi with ⟨h1, h2⟩ | ⟨k, m, h1, h2⟩
    · exact .inl ⟨h1, by simp [h2]⟩
    · exact .inr ⟨k, by simp [h1, h2]⟩
  generalize lo.getD 0 = l at *
  generalize hi.getD (n : Int) = h at *
  clear hlo hhi
  have frozen : ∀ rows : List (List Leaf), n = rows.length → (∀ r ∈ rows, r.length = i.size) → (∃ a cap sz, y = .slice (some a) rows.length cap ∧ rows.length ≤ cap ∧ (rows = [] ∨ (a.spot = none ∧ Γ.F a.block ∧ concRows Γ a.block sz a.off rows))) →
      ∃ z, (Instr.sliceAt t y vlo vhi none).run P Γ.w = .ok z Γ.w ∧ ∃ a' cap' sz', z = .slice (some a') ((rows.take h.toNat).drop l.toNat).length cap' ∧ ((rows.take h.toNat).drop l.toNat).length ≤ cap' ∧
        ((rows.take h.toNat).drop l.toNat = [] ∨ (a'.spot = none ∧ Γ.F a'.block ∧ concRows Γ a'.block sz' a'.off ((rows.take h.toNat).drop l.toNat))) := by
    rintro rows rfl hl ⟨a, cap, sz, rfl, hcap, h3⟩
    have hr := slice_run (P := P) (w := Γ.w) ht hs (some a) rows.length cap vlo vhi l h hlo' hhi' b1 b2 b3 hcap
    simp only [Option.map_some] at hr
    exact ⟨_, hr, frozen_slice hcap h3 hl l.toNat h.toNat (by omega) (by omega)⟩
  split at hv
  · rename_i rows
    split at hv
    case isFalse => cases hv
    rename_i hl
    cases hv
    simp only [lenL, Option.some.injEq] at hn
    simp only [conc] at hc
    rcases hc with ⟨rfl, rfl⟩ | hc
    · simp at hn
      subst hn
      have e1 : l = 0 := by omega
      have e2 : h = 0 := by omega
      subst e1 e2
      have hr := slice_run (P := P) (w := Γ.w) ht hs none 0 0 vlo vhi 0 0 hlo' (by simpa using hhi') (by omega) (by omega) (by omega) (by omega)
      exact ⟨_, hr, by simp [conc]⟩
    · obtain ⟨z, g1, g2⟩ := frozen rows hn.symm hl hc
      exact ⟨z, g1, by simp only [conc]; exact .inr g2⟩
  · rename_i rows
    split at hv
    case isFalse => cases hv
    rename_i hl
    cases hv
    simp only [lenL, Option.some.injEq] at hn
    simp only [conc] at hc
    obtain ⟨z, g1, g2⟩ := frozen rows hn.symm hl hc
    exact ⟨z, g1, by simp only [conc]; exact g2⟩
  · rename_i hd ver lo0 len
    split at hv
    case h_2 => cases hv
    rename_i z rows ho
    split at hv
    case isFalse => cases hv
    rename_i hz
    cases hv
    simp only [lenL, Option.some.injEq] at hn
    subst hn
    obtain ⟨inf, h1, hm, h2⟩ := hok.obj ho
    simp only [conc] at hc
    obtain ⟨inf', ver', a, cap, g1, _, rfl, g3⟩ := hc
    rw [h1] at g1
    cases g1
    rcases g3 rfl with ⟨hb0, rfl, rfl, rfl, rfl⟩ | ⟨b, a', hb0, rfl, rfl, hlc, ha⟩
    · have e1 : l = 0 := by omega
      have e2 : h = 0 := by omega
      subst e1 e2
      have hr := slice_run (P := P) (w := Γ.w) ht hs none 0 0 vlo vhi 0 0 hlo' (by simpa using hhi') (by omega) (by omega) (by omega) (by omega)
      refine ⟨_, hr, ?_⟩
      simp only [conc]
      exact ⟨inf, ver, none, 0, h1, Nat.le_refl _, by simp, fun _ => .inl ⟨hb0, rfl, rfl, by simp, by simp⟩⟩
    · simp only [hb0] at h2
      have hsz : inf.sz = i.size := by rw [h2.1, hz]
      have hr := slice_run (P := P) (w := Γ.w) ht hs (some a') len (inf.cap - lo0) vlo vhi l h hlo' hhi' b1 b2 b3 (by omega)
      refine ⟨_, hr, ?_⟩
      simp only [conc]
      refine ⟨inf, ver, _, _, h1, Nat.le_refl _, rfl, fun _ => .inr ⟨b, if inf.cap - lo0 = l.toNat then a' else a'.add (l.toNat * i.size), hb0, by split <;> rfl, by omega, by omega, fun hlt => ?_⟩⟩
      rw [if_neg (by omega), ha (by omega), add_off, hsz, Nat.add_mul, Nat.add_assoc]
  · cases hv
    simp only [lenL, Option.some.injEq] at hn
    subst hn
    simp only [conc] at hc
    obtain ⟨rfl, _⟩ := hc
    have e1 : l = 0 := by omega
    have e2 : h = 0 := by omega
    subst e1 e2
    have hr := slice_run (P := P) (w := Γ.w) ht hs none 0 0 vlo vhi 0 0 hlo' (by simpa using hhi') (by omega) (by omega) (by omega) (by omega)
    exact ⟨_, hr, by simp [conc, Value.oneCell']⟩
  · cases hv

theorem indexAt_run {P : Program} {w : World} {t e : TypeId} {size : Nat} (ht : P.underlying t = some (.slice e)) (hs : (sizeOf e).run P w = .ok size w) (b o n cap : Nat) (k : IntKind) (i : Int) (h0 : 0 ≤ i) (h1 : i < n) :
    (Instr.indexAt t (.slice (some ⟨b, o, none⟩) n cap) (.int k i)).run P w = .ok (.pointer (some ⟨b, o + i.toNat * size, none⟩)) w := by
  simp [Instr.indexAt, asIntOf, run_underlying ht, h0, h1, hs, add_off]

theorem indexAt_arr_run {P : Program} {w : World} {t e n : TypeId} {size : Nat} (ht : P.underlying t = some (.array n e)) (hs : (sizeOf e).run P w = .ok size w) (b o : Nat) (k : IntKind) (i : Int) (h0 : 0 ≤ i) (h1 : i < n) :
    (Instr.indexAt t (.pointer (some ⟨b, o, none⟩)) (.int k i)).run P w = .ok (.pointer (some ⟨b, o + i.toNat * size, none⟩)) w := by
  simp [Instr.indexAt, Instr.sureAddr, asIntOf, run_underlying ht, h0, h1, hs, add_off]

theorem indexAddrV_sound {P : Program} {Γ : Ctx} {H : List Ob} (hok : HeapOk Γ H) {t : TypeId} {x r : Leaf} {i : Int} (hv : indexAddrV P H t x i = some r) {y : Value} (hc : conc Γ x y) (k : IntKind) :
    ∃ z, (Instr.indexAt t y (.int k i)).run P Γ.w = .ok z Γ.w ∧ conc Γ r z := by
  unfold indexAddrV at hv
  split at hv
  · rename_i hd ver lo len
    split at hv
    case h_2 => cases hv
    rename_i e size rest z rows hse ho
    obtain ⟨bytes, zz⟩ := rest
    split at hv
    case isFalse => cases hv
    rename_i hb
    obtain ⟨b1, b2, rfl, b4⟩ := hb
    cases hv
    obtain ⟨ht, ii, zv, hi', rfl, _, _, _, _⟩ := se_spec hse
    have hs : (sizeOf e).run P Γ.w = .ok ii.size Γ.w := by simp [sizeOf, typeInfo, hi']
    obtain ⟨inf, h1, hm, h2⟩ := hok.obj ho
    simp only [conc] at hc
    obtain ⟨inf', ver', a, cap, g1, _, rfl, g3⟩ := hc
    rw [h1] at g1
    cases g1
    rcases g3 rfl with ⟨hb0, rfl, rfl, rfl, rfl⟩ | ⟨b, a', hb0, rfl, rfl, hlc, ha⟩
    · omega
    · simp only [hb0] at h2
      rw [ha (by omega)]
      refine ⟨_, indexAt_run ht hs b _ len _ k i b1 b2, conc_ptr_mk h1 hb0 ?_⟩
      rw [h2.1, Nat.add_mul]
      simp [Nat.add_assoc]
  · rename_i hd ver ri k'
    split at hv
    case h_2 => cases hv
    rename_i n size g zr har ho
    obtain ⟨z, rows⟩ := zr
    split at hv
    case isFalse => cases hv
    rename_i hb
    cases hv
    obtain ⟨e, ht, hte⟩ := ar_spec har
    obtain ⟨inf, b, h1, hb0, rfl⟩ := ptr_value hok hc ho
    exact ⟨_, indexAt_arr_run ht (tk_spec hte Γ.w).2 b _ k i hb.1 hb.2, conc_ptr_mk h1 hb0 (by rw [Nat.add_assoc])⟩
  · rename_i hx1 hx2
    split at hv
    case h_2 => cases hv
    rename_i e size rest rows hse hview
    obtain ⟨bytes, zz⟩ := rest
    split at hv
    case isFalse => cases hv
    rename_i hb
    split at hv
    case h_2 => cases hv
    rename_i row hrow
    split at hv
    case isFalse => cases hv
    rename_i hrl
    cases hv
    obtain ⟨ht, ii, zv, hi', rfl, _, _, _, _⟩ := se_spec hse
    have hs : (sizeOf e).run P Γ.w = .ok ii.size Γ.w := by simp [sizeOf, typeInfo, hi']
    have hF : ∃ a cap sz, y = .slice (some a) rows.length cap ∧ (rows = [] ∨ (a.spot = none ∧ Γ.F a.block ∧ concRows Γ a.block sz a.off rows)) := by
      cases x with
      | slv rs =>
        simp only [view, Option.some.injEq] at hview
        subst hview
        simp only [conc] at hc
        rcases hc with ⟨_, rfl⟩ | ⟨a, cap, sz, h1, _, h3⟩
        · simp at hb; omega
        · exact ⟨a, cap, sz, h1, h3⟩
      | slq rs =>
        simp only [view, Option.some.injEq] at hview
        subst hview
        simp only [conc] at hc
        obtain ⟨a, cap, sz, h1, _, h3⟩ := hc
        exact ⟨a, cap, sz, h1, h3⟩
      | v w =>
        unfold view at hview
        split at hview <;> first | (rename_i heq; cases heq; done) | skip
        all_goals (try (simp only [Option.some.injEq] at hview; subst hview; simp at hb; omega))
        all_goals (try cases hview)
      | sl a b c d => exact absurd rfl (hx1 a b c d)
      | _ => simp [view] at hview
    obtain ⟨a, cap, sz, rfl, h3⟩ := hF
    rcases h3 with rfl | ⟨g1, g2, g3⟩
    · simp at hb; omega
    · obtain ⟨b, o, s⟩ := a
      simp only at g1 g2 g3
      subst g1
      refine ⟨_, indexAt_run ht hs b o rows.length cap k i hb.1 hb.2, ?_⟩
      simp only [conc]
      refine ⟨b, o, sz, ?_, g2, g3⟩
      rw [← hrl, (concRows_get g3 hrow).1]
      simp

end Go.Nx
