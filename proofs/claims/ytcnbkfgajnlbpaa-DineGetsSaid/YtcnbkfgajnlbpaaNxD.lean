/- Each operation does what 'stp' says. -/
import Derived.Test.YtcnbkfgajnlbpaaNxC
import Derived.Orders
namespace Go.Nx
set_option linter.unusedVariables false
set_option linter.unusedSimpArgs false

def Good (Γ : Ctx) (e : Env) (a : Act) (p : Operand) : Prop := ∀ av, evO e p = some av → concV Γ av (a.eval p)

def OpRes (Γ : Ctx) (r : Result Next) (x : AVal) (H' : List Ob) : Prop :=
  ∃ y Γ', (r = .ok (.value y) Γ'.w ∨ (r = .ok .skip Γ'.w ∧ y = undef)) ∧ Γ.Ext Γ' ∧ HeapOk Γ' H' ∧ concV Γ' x y

theorem OpRes.val {Γ : Ctx} {r : Result Next} {x : AVal} {H : List Ob} {y : Value} (hok : HeapOk Γ H) (hr : r = .ok (.value y) Γ.w) (hc : concV Γ x y) : OpRes Γ r x H :=
  ⟨y, Γ, .inl hr, .refl Γ, hok, hc⟩

theorem conc_leaves {Γ : Ctx} {v : Value} {ls : List Leaf} (h : leaves v = some ls) : concAll Γ ls v.cells.toList := by
  unfold leaves at h
  split at h
  · rename_i ha
    cases h
    refine concAll_mk (by simp) fun k l y hk hy => ?_
    rw [List.getElem?_map, hy] at hk
    cases hk
    simp only [conc, true_and]
    rw [List.all_eq_true] at ha
    exact ha y (List.mem_of_getElem? hy)
  · cases h

theorem good_const {Γ : Ctx} {e : Env} {a : Act} {v : Value} (hv : ∀ vs, v ≠ .tuple vs) : Good Γ e a (.const v) := by
  intro av h
  unfold evO at h
  cases v <;> simp only [Option.some.injEq, Option.map_eq_some_iff, reduceCtorEq] at h
  case agg cs =>
    obtain ⟨ls, h1, rfl⟩ := h
    exact ⟨cs, rfl, conc_leaves h1⟩
  all_goals subst h; simp [concV, conc, Act.eval, Value.oneCell']

theorem good_const' {Γ : Ctx} {e : Env} {a : Act} {v : Value} : Good Γ e a (.const v) := by
  cases v with
  | tuple vs => intro av h; simp [evO] at h
  | _ => exact good_const (by simp)

theorem good_func {Γ : Ctx} {e : Env} {a : Act} {f : FuncId} : Good Γ e a (.func f) := by
  intro av h
  simp [evO] at h
  subst h
  simp [concV, conc, Act.eval, concAll]

theorem good_global {Γ : Ctx} {e : Env} {a : Act} {g : Nat} : Good Γ e a (.global g) := by
  intro av h
  simp [evO] at h

theorem tk_spec {P : Program} {t : TypeId} {g : Bool} {n : Nat} (h : tk P t = some (g, n)) (w : World) : (isAgg t).run P w = .ok g w ∧ (sizeOf t).run P w = .ok n w := by
  unfold tk at h
  split at h
  · rename_i d i hd hi
    simp only [Option.some.injEq, Prod.mk.injEq] at h
    obtain ⟨h1, h2⟩ := h
    subst h1 h2
    constructor
    · cases d <;> simp [isAgg, run_underlying hd]
    · simp [sizeOf, typeInfo, hi]
  · cases h

theorem ptr_row {Γ : Ctx} {H : List Ob} (hok : HeapOk Γ H) {h ver i k : Nat} {y : Value} (hc : conc Γ (.ptr h ver i k) y) {z : Nat} {rows : List (List Leaf)} (ho : obj H h ver = some (z, rows)) {r : List Leaf} (hr : rows[i]? = some r) :
    ∃ inf b cells T, Γ.hs[h]? = some (inf, ver) ∧ inf.base = some b ∧ y = .pointer (some ⟨b, inf.off + i * inf.sz + k, none⟩) ∧ r.length = inf.sz ∧ concRow Γ b (inf.off + i * inf.sz) r ∧
      Γ.w.heap[b]? = some (.cells cells T (0, 0)) ∧ inf.off + inf.cap * inf.sz ≤ cells.size ∧ rows.length ≤ inf.cap ∧ concRows Γ b inf.sz inf.off rows ∧ inf.cap ≤ maxLen ∧ Γ.X b ∧ 0 < inf.sz ∧ inf.sz = z := by
  obtain ⟨inf, h1, hm, h2⟩ := hok.obj ho
  simp only [conc] at hc
  obtain ⟨inf', ver', p, g1, _, rfl, g3⟩ := hc
  rw [h1] at g1
  cases g1
  obtain ⟨b, hb, rfl⟩ := g3 rfl
  simp only [hb] at h2
  obtain ⟨hzz, hx, hf, hlen, hsz, cells, T, hh, hcs, hrows⟩ := h2
  have := concRows_get hrows hr
  exact ⟨inf, b, cells, T, h1, hb, rfl, this.1, this.2, hh, hcs, hlen, hrows, hm, hx, hsz, hzz⟩

/-- A pointer that may be read: its row. -/
theorem readable {Γ : Ctx} {H : List Ob} (hok : HeapOk Γ H) {p : Leaf} {y : Value} (hc : conc Γ p y) {r : List Leaf} {k : Nat}
    (hp : (∃ h ver i z rows, p = .ptr h ver i k ∧ obj H h ver = some (z, rows) ∧ rows[i]? = some r) ∨ (∃ i rows, p = .fptr rows i k ∧ rows[i]? = some r)) :
    ∃ b o, y = .pointer (some ⟨b, o + k, none⟩) ∧ concRow Γ b o r := by
  rcases hp with ⟨h, ver, i, z, rows, rfl, ho, hr⟩ | ⟨i, rows, rfl, hr⟩
  · obtain ⟨inf, b, _, _, _, _, hy, _, hrow, _⟩ := ptr_row hok hc ho hr
    exact ⟨b, _, hy, hrow⟩
  · simp only [conc] at hc
    obtain ⟨b, off, sz, rfl, _, hrows⟩ := hc
    exact ⟨b, _, rfl, (concRows_get hrows hr).2⟩

theorem ldN_spec {H : List Ob} {n : Nat} {p : Leaf} {cs : List Leaf} (h : ldN H n p = some cs) :
    ∃ r k, ((∃ h ver i z rows, p = .ptr h ver i k ∧ obj H h ver = some (z, rows) ∧ rows[i]? = some r) ∨ (∃ i rows, p = .fptr rows i k ∧ rows[i]? = some r)) ∧ k + n ≤ r.length ∧ cs = seg r k n := by
  unfold ldN at h
  split at h
  · rename_i hd ver i k
    split at h
    · rename_i z rows ho
      split at h
      · rename_i r hr
        split at h
        · rename_i hle
          cases h
          exact ⟨r, k, .inl ⟨hd, ver, i, z, rows, rfl, ho, hr⟩, hle, rfl⟩
        · cases h
      · cases h
    · cases h
  · rename_i rows i k
    split at h
    · rename_i r hr
      split at h
      · rename_i hle
        cases h
        exact ⟨r, k, .inr ⟨i, rows, rfl, hr⟩, hle, rfl⟩
      · cases h
    · cases h
  · cases h

theorem ld1_spec {H : List Ob} {p : Leaf} {l : Leaf} (h : ld1 H p = some l) :
    ∃ r k, ((∃ h ver i z rows, p = .ptr h ver i k ∧ obj H h ver = some (z, rows) ∧ rows[i]? = some r) ∨ (∃ i rows, p = .fptr rows i k ∧ rows[i]? = some r)) ∧ r[k]? = some l := by
  unfold ld1 at h
  split at h
  · rename_i hd ver i k
    split at h
    · rename_i z rows ho
      split at h
      · rename_i r hr
        exact ⟨r, k, .inl ⟨hd, ver, i, z, rows, rfl, ho, hr⟩, h⟩
      · cases h
    · cases h
  · rename_i rows i k
    split at h
    · rename_i r hr
      exact ⟨r, k, .inr ⟨i, rows, rfl, hr⟩, h⟩
    · cases h
  · cases h

theorem load_sound {P : Program} {Γ : Ctx} {H : List Ob} (hok : HeapOk Γ H) {t : TypeId} {p : Leaf} {y : Value} (hc : conc Γ p y) :
    (∀ n cs, tk P t = some (true, n) → ldN H n p = some cs → ∃ ys, (Instr.loadAt t y).run P Γ.w = .ok (.agg ys) Γ.w ∧ concAll Γ cs ys.toList) ∧
    (∀ n l, tk P t = some (false, n) → ld1 H p = some l → ∃ z, (Instr.loadAt t y).run P Γ.w = .ok z Γ.w ∧ conc Γ l z) := by
  constructor
  · intro n cs ht hl
    obtain ⟨r, k, hp, hle, rfl⟩ := ldN_spec hl
    obtain ⟨b, o, rfl, hrow⟩ := readable hok hc hp
    obtain ⟨g1, g2⟩ := tk_spec ht Γ.w
    obtain ⟨ys, h1, h2⟩ := concRow_cells (concRow_take (concRow_drop hrow k) n)
    have hlen : ys.length = n := by rw [concAll_length h1]; simp; omega
    refine ⟨ys.toArray, ?_, by simpa [seg] using h1⟩
    have hlc := run_loadCells_list (P := P) Γ.w ⟨b, o + k, none⟩ ys (fun j v hj => by rw [add_off]; exact h2 j v hj)
    rw [hlen] at hlc
    simp [Instr.loadAt, Instr.sureAddr, loadVar, g1, g2, hlc]
  · intro n l ht hl
    obtain ⟨r, k, hp, hk⟩ := ld1_spec hl
    obtain ⟨b, o, rfl, hrow⟩ := readable hok hc hp
    obtain ⟨g1, _⟩ := tk_spec ht Γ.w
    obtain ⟨z, h1, h2⟩ := concRow_get hrow hk
    refine ⟨z, ?_, h2⟩
    simp [Instr.loadAt, Instr.sureAddr, loadVar, g1, run_load, h1]

theorem cells_spec {Γ : Ctx} {v : AVal} {y : Value} (hc : concV Γ v y) {cs : List Leaf} (h : v.cells = some cs) : concAll Γ cs y.cells.toList := by
  cases v with
  | c l =>
    simp only [AVal.cells, Option.some.injEq] at h
    subst h
    simp only [concV] at hc
    have h1 := conc_one hc
    have : y.cells = #[y] := by cases y <;> first | rfl | (simp [Value.oneCell'] at h1)
    rw [this]
    simp [concAll, hc]
  | agg ls =>
    simp only [AVal.cells, Option.some.injEq] at h
    subst h
    simp only [concV] at hc
    obtain ⟨ys, rfl, h2⟩ := hc
    exact h2
  | tup vs => simp [AVal.cells] at h

end Go.Nx
