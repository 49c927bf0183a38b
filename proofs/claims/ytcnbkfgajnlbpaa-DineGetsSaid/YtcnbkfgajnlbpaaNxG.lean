/- The other operations. -/
import Derived.Test.YtcnbkfgajnlbpaaNxF
namespace Go.Nx
set_option linter.unusedVariables false
set_option linter.unusedSimpArgs false

/-- A value of a type, of its cells. -/
def ofCells (P : Program) (t : TypeId) (xs : List Value) : Value :=
  match P.underlying t with
  | some (.struct _) => .agg xs.toArray
  | _ => xs.headD undef

theorem eqCells_cons {x : Sh} {s : List Sh} {as bs : List Leaf} {b : Bool} (h : eqCells (x :: s) as bs = some b) :
    ∃ a as' c bs' b1 b2, as = a :: as' ∧ bs = c :: bs' ∧ eq1 x a c = some b1 ∧ eqCells s as' bs' = some b2 ∧ b = (b1 && b2) := by
  cases as with
  | nil => simp [eqCells] at h
  | cons a as =>
    cases bs with
    | nil => simp [eqCells] at h
    | cons c bs =>
      simp only [eqCells] at h
      split at h
      · rename_i b1 b2 h1 h2
        simp only [Option.some.injEq] at h
        exact ⟨a, as, c, bs, b1, b2, rfl, rfl, h1, h2, h.symm⟩
      · cases h

theorem eqCells_nil {as bs : List Leaf} {b : Bool} (h : eqCells [] as bs = some b) : as = [] ∧ bs = [] ∧ b = true := by
  cases as <;> cases bs <;> simp [eqCells] at h
  exact ⟨rfl, rfl, h⟩

theorem eqCells_append : ∀ (s s' : List Sh) (as bs : List Leaf) (b : Bool), eqCells (s ++ s') as bs = some b →
    ∃ b1 b2, eqCells s (as.take s.length) (bs.take s.length) = some b1 ∧ eqCells s' (as.drop s.length) (bs.drop s.length) = some b2 ∧ b = (b1 && b2)
  | [], s', as, bs, b, h => ⟨true, b, by simp [eqCells], by simpa using h, by simp⟩
  | x :: s, s', as, bs, b, h => by
    obtain ⟨a, as', c, bs', b1, b2, rfl, rfl, h1, h2, rfl⟩ := eqCells_cons (by simpa using h)
    obtain ⟨c1, c2, g1, g2, rfl⟩ := eqCells_append s s' as' bs' b2 h2
    exact ⟨b1 && c1, c2, by simp [eqCells, h1, g1], by simpa using g2, by simp [Bool.and_assoc]⟩

theorem eqCells_length : ∀ {s : List Sh} {as bs : List Leaf} {b : Bool}, eqCells s as bs = some b → as.length = s.length ∧ bs.length = s.length
  | [], as, bs, b, h => by obtain ⟨rfl, rfl, _⟩ := eqCells_nil h; simp
  | x :: s, as, bs, b, h => by
    obtain ⟨a, as', c, bs', b1, b2, rfl, rfl, h1, h2, rfl⟩ := eqCells_cons h
    have := eqCells_length h2
    simp [this]

theorem seg_array (xs : List Value) (off n : Nat) : xs.toArray.extract off (off + n) = ((xs.drop off).take n).toArray := by
  apply Array.ext'
  simp [List.take_drop]

theorem part_run {P : Program} {w : World} {t : TypeId} {g : Bool} {n : Nat} (ht : tk P t = some (g, n)) (xs : List Value) (off : Nat) (hle : off + n ≤ xs.length) (hn : g = false → n = 1) :
    (part t xs.toArray off).run P w = .ok (if g then .agg ((xs.drop off).take n).toArray else ((xs.drop off).take n).headD undef) w := by
  obtain ⟨g1, g2⟩ := tk_spec ht w
  cases g with
  | true =>
    simp only [part, Sem.run_bind, g1, Result.andThen_ok, g2, if_true, Sem.run_pure, seg_array]
  | false =>
    have := hn rfl
    subst this
    have hlt : off < xs.length := by omega
    simp only [part, Sem.run_bind, g1, Result.andThen_ok, Bool.false_eq_true, if_false]
    have h1 : (xs.drop off).take 1 = [xs[off]] := by
      rw [List.drop_eq_getElem_cons hlt]
      rfl
    rw [h1]
    simp [hlt]

theorem tk_agg {P : Program} {t : TypeId} {g : Bool} {n : Nat} (h : tk P t = some (g, n)) : ∃ d, P.underlying t = some d ∧ g = (match d with | .struct _ | .array _ _ => true | _ => false) := by
  unfold tk at h
  split at h
  · rename_i d i hd hi
    simp only [Option.some.injEq, Prod.mk.injEq] at h
    exact ⟨d, hd, h.1.symm⟩
  · cases h

theorem eq1_spec {Γ : Ctx} {x : Sh} {a c : Leaf} {b : Bool} (h : eq1 x a c = some b) {y z : Value} (ha : conc Γ a y) (hc : conc Γ c z) :
    (∃ k m n, x = .int ∧ y = .int k m ∧ z = .int k n ∧ b = (m == n)) ∨ (∃ m n, x = .bool ∧ y = .bool m ∧ z = .bool n ∧ b = (m == n)) ∨ (∃ m n, x = .str ∧ y = .string m ∧ z = .string n ∧ b = (m.toList == n.toList)) := by
  unfold eq1 at h
  split at h
  · split at h
    · rename_i k m k' n hk
      subst hk
      simp only [Option.some.injEq] at h
      simp only [conc] at ha hc
      exact .inl ⟨k, m, n, rfl, ha.1, hc.1, h.symm⟩
    · cases h
  · rename_i m n
    simp only [Option.some.injEq] at h
    simp only [conc] at ha hc
    exact .inr (.inl ⟨m, n, rfl, ha.1, hc.1, h.symm⟩)
  · rename_i m n
    simp only [Option.some.injEq] at h
    simp only [conc] at ha hc
    exact .inr (.inr ⟨m, n, rfl, ha.1, hc.1, h.symm⟩)
  · cases h

theorem shp_one {P : Program} {d : Nat} {t : TypeId} {s : List Sh} (h : shp P d t = some s) : ∃ D, P.underlying t = some D ∧ ((∃ fs, D = .struct fs) ∨ (s.length = 1 ∧ (match D with | .struct _ | .array _ _ => true | _ => false) = false)) := by
  cases d with
  | zero => simp [shp] at h
  | succ d =>
    unfold shp at h
    split at h
    · rename_i hu; cases h; exact ⟨_, hu, .inr ⟨rfl, rfl⟩⟩
    · rename_i hu; cases h; exact ⟨_, hu, .inr ⟨rfl, rfl⟩⟩
    · rename_i hu; cases h; exact ⟨_, hu, .inr ⟨rfl, rfl⟩⟩
    · rename_i fs hu; exact ⟨_, hu, .inl ⟨fs, rfl⟩⟩
    · cases h

theorem ofCells_part {P : Program} {t : TypeId} {g : Bool} {n d : Nat} {s : List Sh} (ht : tk P t = some (g, n)) (hs : shp P d t = some s) (xs : List Value) :
    (if g then Value.agg xs.toArray else xs.headD undef) = ofCells P t xs := by
  obtain ⟨D, hu, hg⟩ := tk_agg ht
  obtain ⟨D', hu', hD⟩ := shp_one hs
  rw [hu] at hu'
  cases hu'
  subst hg
  unfold ofCells
  rw [hu]
  rcases hD with ⟨fs, rfl⟩ | ⟨_, hD⟩
  · simp
  · cases D <;> simp at hD ⊢

theorem eq_shape {P : Program} {w : World} {Γ : Ctx} : ∀ (d : Nat) (t : TypeId) (s : List Sh), shp P d t = some s → ∀ (as bs : List Leaf) (xs ys : List Value) (b : Bool), concAll Γ as xs → concAll Γ bs ys → eqCells s as bs = some b →
    ∀ D, d ≤ D → (Op.equalIn D t (ofCells P t xs) (ofCells P t ys)).run P w = .ok b w
  | 0, t, s, h, _, _, _, _, _, _, _, _, _, _ => by simp [shp] at h
  | d + 1, t, s, h, as, bs, xs, ys, b, hx, hy, he, D, hD => by
    obtain ⟨D, rfl⟩ : ∃ D', D = D' + 1 := ⟨D - 1, by omega⟩
    have one : ∀ x : Sh, s = [x] → ∃ y z, xs = [y] ∧ ys = [z] ∧ ∃ a c, conc Γ a y ∧ conc Γ c z ∧ eq1 x a c = some b := by
      rintro x rfl
      obtain ⟨a, as', c, bs', b1, b2, rfl, rfl, h1, h2, rfl⟩ := eqCells_cons he
      obtain ⟨rfl, rfl, rfl⟩ := eqCells_nil h2
      simp only [concAll] at hx hy
      obtain ⟨y, _, rfl, hya, rfl⟩ := hx
      obtain ⟨z, _, rfl, hzc, rfl⟩ := hy
      exact ⟨y, z, rfl, rfl, a, c, hya, hzc, by simpa using h1⟩
    unfold shp at h
    split at h
    · rename_i k hu
      cases h
      obtain ⟨y, z, rfl, rfl, a, c, hya, hzc, h1⟩ := one .int rfl
      rcases eq1_spec h1 hya hzc with ⟨k', m, n, _, rfl, rfl, rfl⟩ | ⟨m, n, hn, _⟩ | ⟨m, n, hn, _⟩
      · simp [ofCells, hu, run_equalIn_int (P := P) w D t k' k m n hu]
      · cases hn
      · cases hn
    · rename_i hu
      cases h
      obtain ⟨y, z, rfl, rfl, a, c, hya, hzc, h1⟩ := one .bool rfl
      rcases eq1_spec h1 hya hzc with ⟨k', m, n, hn, _⟩ | ⟨m, n, _, rfl, rfl, rfl⟩ | ⟨m, n, hn, _⟩
      · cases hn
      · simp [ofCells, hu, run_equalIn_bool' (P := P) w D t m n hu]
      · cases hn
    · rename_i hu
      cases h
      obtain ⟨y, z, rfl, rfl, a, c, hya, hzc, h1⟩ := one .str rfl
      rcases eq1_spec h1 hya hzc with ⟨k', m, n, hn, _⟩ | ⟨m, n, hn, _⟩ | ⟨m, n, _, rfl, rfl, rfl⟩
      · cases hn
      · cases hn
      · simp [ofCells, hu, run_equalIn_string (P := P) w D t m n hu]
    · rename_i fs hu
      split at h
      · cases h
      · rename_i hst
        have hfo : P.fieldsOf t = fs := by simp [Program.fieldsOf, hu]
        have hu' : P.underlying t = some (.struct (P.fieldsOf t)) := by rw [hfo]; exact hu
        have e1 : ofCells P t xs = .agg xs.toArray := by simp [ofCells, hu]
        have e2 : ofCells P t ys = .agg ys.toArray := by simp [ofCells, hu]
        rw [e1, e2, run_equalIn_struct (P := P) w D t _ _ hu' (by simpa using hst), hfo]
        clear e1 e2 hfo hu' hst hu one
        have key : ∀ (l : List Field) (off : Nat) (s : List Sh) (as bs : List Leaf) (b : Bool), shpFs P (shp P d) off l = some s → concAll Γ as (xs.drop off) → concAll Γ bs (ys.drop off) → eqCells s as bs = some b →
            (Op.eqFields D xs.toArray ys.toArray l).run P w = .ok b w := by
          intro l
          induction l with
          | nil =>
            intro off s as bs b hs _ _ he
            simp [shpFs] at hs
            subst hs
            obtain ⟨_, _, rfl⟩ := eqCells_nil he
            simp [Op.eqFields]
          | cons f fs ih =>
            intro off s as bs b hs hxs hys he
            simp only [shpFs] at hs
            split at hs
            · rename_i hf
              split at hs
              · rename_i sf g n hsf htk
                split at hs
                · rename_i hn0
                  obtain ⟨hn, hpos⟩ := hn0
                  simp only [Option.map_eq_some_iff] at hs
                  obtain ⟨s', hs', rfl⟩ := hs
                  obtain ⟨b1, b2, g1, g2, rfl⟩ := eqCells_append sf s' as bs b he
                  have hl1 := eqCells_length g1
                  have hal := concAll_length hxs
                  have hbl := concAll_length hys
                  simp only [List.length_take] at hl1
                  simp only [List.length_drop] at hal hbl
                  have hg : g = false → n = 1 := by
                    intro hg
                    obtain ⟨DD, hu1, hg1⟩ := tk_agg htk
                    obtain ⟨DD', hu2, hD2⟩ := shp_one hsf
                    rw [hu1] at hu2
                    cases hu2
                    rcases hD2 with ⟨fs', rfl⟩ | ⟨h1, _⟩
                    · rw [hg] at hg1; simp at hg1
                    · omega
                  have px := part_run (P := P) (w := w) htk xs f.offset (by rw [hf.2]; omega) hg
                  have py := part_run (P := P) (w := w) htk ys f.offset (by rw [hf.2]; omega) hg
                  rw [ofCells_part htk hsf] at px py
                  have heq := eq_shape (w := w) d f.type sf hsf (as.take sf.length) (bs.take sf.length) ((xs.drop f.offset).take n) ((ys.drop f.offset).take n) b1 (by rw [hn, hf.2]; exact concAll_take hxs _) (by rw [hn, hf.2]; exact concAll_take hys _) g1 D (by omega)
                  have ih' := ih (off + sf.length) s' (as.drop sf.length) (bs.drop sf.length) b2 hs' (by rw [← List.drop_drop]; exact concAll_drop hxs _) (by rw [← List.drop_drop]; exact concAll_drop hys _) g2
                  simp only [Op.eqFields, hf.1, ne_eq, not_false_eq_true, if_true, Sem.run_bind, px, py, heq, Result.andThen_ok]
                  cases b1 with
                  | true => simpa using ih'
                  | false => simp
                · cases hs
              · cases hs
            · cases hs
        exact key fs.toList 0 s as bs b h (by simpa using hx) (by simpa using hy) he
    · cases h

end Go.Nx
