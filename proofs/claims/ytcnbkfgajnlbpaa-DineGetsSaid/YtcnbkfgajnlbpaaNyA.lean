/- What is known, said in other words: an own array that is only read from here on; what nobody names; nil as an own array. -/
import Derived.Test.YtcnbkfgajnlbpaaNxZ
import Derived.Test.YtcnbkfgajnlbpaaNxS
namespace Go.Nx
set_option linter.unusedVariables false
set_option linter.unusedSimpArgs false
set_option linter.unusedSectionVars false

/-! A leaf for a leaf. -/
mutual
def mpV (g : Leaf → Leaf) : AVal → AVal
  | .c l => .c (g l)
  | .agg cs => .agg (cs.map g)
  | .tup vs => .tup (mpVs g vs)
def mpVs (g : Leaf → Leaf) : List AVal → List AVal
  | [] => []
  | v :: vs => mpV g v :: mpVs g vs
end
def mpO (g : Leaf → Leaf) : Ob → Ob
  | .live ver sz rows => .live ver sz (rows.map fun r => r.map g)
  | .dead => .dead
def mpE (g : Leaf → Leaf) (e : Env) : Env := e.map fun (t, x) => (t, mpV g x)

section
variable {Γ Γ' : Ctx} {g : Leaf → Leaf} (hw : Γ'.w = Γ.w) (hg : ∀ l y, conc Γ l y → conc Γ' (g l) y)
include hg
theorem concAll_mp : ∀ {ls : List Leaf} {ys : List Value}, concAll Γ ls ys → concAll Γ' (ls.map g) ys
  | [], ys, h => by simpa [concAll] using h
  | l :: ls, ys, h => by
    simp only [concAll] at h
    obtain ⟨y, ys', rfl, h2, h3⟩ := h
    simp only [List.map_cons, concAll]
    exact ⟨y, ys', rfl, hg _ _ h2, concAll_mp h3⟩
mutual
theorem concV_mp : ∀ (v : AVal) (y : Value), concV Γ v y → concV Γ' (mpV g v) y
  | .c l, y, h => by simp only [mpV, concV] at *; exact hg _ _ h
  | .agg cs, y, h => by
    simp only [mpV, concV] at *
    obtain ⟨ys, h1, h2⟩ := h
    exact ⟨ys, h1, concAll_mp hg h2⟩
  | .tup vs, y, h => by
    simp only [mpV, concV] at *
    obtain ⟨ys, h1, h2⟩ := h
    exact ⟨ys, h1, concVs_mp vs _ h2⟩
theorem concVs_mp : ∀ (vs : List AVal) (ys : List Value), concVs Γ vs ys → concVs Γ' (mpVs g vs) ys
  | [], ys, h => by simpa [mpVs, concVs] using h
  | v :: vs, ys, h => by
    simp only [mpVs, concVs] at *
    obtain ⟨y, ys', h1, h2, h3⟩ := h
    exact ⟨y, ys', h1, concV_mp v y h2, concVs_mp vs ys' h3⟩
end
include hw
theorem concRow_mp {b : Nat} : ∀ {off : Nat} {r : List Leaf}, concRow Γ b off r → concRow Γ' b off (r.map g)
  | _, [], _ => by simp [concRow]
  | off, l :: ls, h => by
    simp only [List.map_cons, concRow] at h ⊢
    obtain ⟨⟨y, h1, h2⟩, h3⟩ := h
    exact ⟨⟨y, by rw [hw]; exact h1, hg _ _ h2⟩, concRow_mp h3⟩
theorem concRows_mp {b sz : Nat} : ∀ {off : Nat} {rows : List (List Leaf)}, concRows Γ b sz off rows → concRows Γ' b sz off (rows.map fun r => r.map g)
  | _, [], _ => by simp [concRows]
  | off, r :: rs, h => by
    simp only [List.map_cons, concRows] at h ⊢
    exact ⟨by simpa using h.1, concRow_mp hw hg h.2.1, concRows_mp h.2.2⟩
end

theorem concRows_le {Γ Γ' : Ctx} (hw : Γ'.w = Γ.w) (hle : Γ.Le Γ') {b sz off : Nat} {rows : List (List Leaf)} (h : concRows Γ b sz off rows) : concRows Γ' b sz off rows := by
  have := concRows_mp (g := fun l => l) hw (fun l y hc => conc_mono hle l y hc) h
  simpa using this

theorem mpE_get {g : Leaf → Leaf} {e : Env} {t : Nat} {x : AVal} (h : (mpE g e).get t = some x) : ∃ z, e.get t = some z ∧ x = mpV g z := by
  induction e with
  | nil => simp [mpE, Env.get] at h
  | cons p e ih =>
    obtain ⟨s, v⟩ := p
    simp only [mpE, List.map_cons, Env.get] at h
    split at h
    · rename_i he
      subst he
      cases h
      exact ⟨v, by simp [Env.get], rfl⟩
    · rename_i he
      obtain ⟨z, h1, h2⟩ := ih h
      exact ⟨z, by simp [Env.get, he, h1], h2⟩

theorem mpO_live {g : Leaf → Leaf} {o : Ob} {v z : Nat} {rows : List (List Leaf)} (h : mpO g o = .live v z rows) : ∃ rows', o = .live v z rows' := by
  cases o with
  | dead => simp [mpO] at h
  | live v' z' r' =>
    simp only [mpO, Ob.live.injEq] at h
    obtain ⟨rfl, rfl, _⟩ := h
    exact ⟨r', rfl⟩

/-- Objects, leaf for leaf, in a context of the same world. -/
theorem ObOk.mp {Γ Γ' : Ctx} {g : Leaf → Leaf} (hw : Γ'.w = Γ.w) (hg : ∀ l y, conc Γ l y → conc Γ' (g l) y) {h : Nat} {o : Ob} (hs : ∀ ver z rows, o = .live ver z rows → Γ'.hs[h]? = Γ.hs[h]?)
    (hb : ∀ ver z rows inf b, o = .live ver z rows → Γ.hs[h]? = some (inf, ver) → inf.base = some b → Γ.X b → ¬ Γ.F b → ¬ Γ'.F b ∧ Γ'.X b) (ho : ObOk Γ h o) : ObOk Γ' h (mpO g o) := by
  cases o with
  | dead => trivial
  | live ver z rows =>
    obtain ⟨inf, h1, hm, h2⟩ := ho
    refine ⟨inf, (hs ver z rows rfl).trans h1, hm, ?_⟩
    cases hbase : inf.base with
    | none => simp only [hbase] at h2 ⊢; subst h2; rfl
    | some b =>
      simp only [hbase] at h2 ⊢
      obtain ⟨hzz, hx, hf, hc, hsz, cells, T, hh, hcs, hrows⟩ := h2
      obtain ⟨g2, g3⟩ := hb ver z rows inf b rfl h1 hbase hx hf
      exact ⟨hzz, g3, g2, by simpa using hc, hsz, cells, T, by rw [hw]; exact hh, hcs, concRows_mp hw hg hrows⟩

/-! An own array that is only read from here on. -/
def fzL (h ver : Nat) (rows : List (List Leaf)) : Leaf → Leaf
  | .sl h' ver' lo len => if h' = h ∧ ver' = ver ∧ lo + len ≤ rows.length then .slv ((rows.drop lo).take len) else .sl h' ver' lo len
  | .ptr h' ver' i k => if h' = h ∧ ver' = ver then .fptr rows i k else .ptr h' ver' i k
  | l => l

theorem freeze_sat {N : Nat} {Γ0 : Ctx} {e : Env} {H : List Ob} {h ver z : Nat} {rows : List (List Leaf)} (ho : obj H h ver = some (z, rows)) {a : Act} {w : World} (hs : Sat N Γ0 ⟨e, H⟩ a w) :
    Sat N Γ0 ⟨mpE (fzL h ver rows) e, (H.map (mpO (fzL h ver rows))).set h .dead⟩ a w := by
  obtain ⟨d, s, Γ, rfl, hext, hok, henv⟩ := hs
  have hH : H[h]? = some (.live ver z rows) := by
    unfold obj at ho
    split at ho
    · rename_i v z' r heq
      split at ho
      · rename_i hv
        subst hv
        cases ho
        exact heq
      · cases ho
    · cases ho
  obtain ⟨inf, hi, hcap, hbase⟩ := hok.ob h _ hH
  let Γ' : Ctx := { w := Γ.w, F := fun b => Γ.F b ∨ inf.base = some b, X := Γ.X, hs := Γ.hs }
  have hle : Γ.Le Γ' := ⟨fun b hb => .inl hb, fun _ _ => rfl, fun n i v hn => ⟨i, v, hn, Nat.le_refl _, fun _ => rfl⟩⟩
  have hX : ∀ b, inf.base = some b → Γ.X b := fun b hb => by
    simp only [hb] at hbase
    exact hbase.2.1
  have hext' : Γ.Ext Γ' := ⟨hle, rfl, rfl, rfl, Nat.le_refl _, fun _ _ _ => rfl, fun b hb => by
    rcases hb with hb | hb
    · exact .inl hb
    · exact .inr (.inl (hX b hb)), fun b hb => .inl hb⟩
  have hg : ∀ l y, conc Γ l y → conc Γ' (fzL h ver rows l) y := by
    intro l y hc
    cases l with
    | sl h' ver' lo len =>
      simp only [fzL]
      split
      · rename_i heq
        obtain ⟨rfl, rfl, hlen⟩ := heq
        simp only [conc] at hc ⊢
        obtain ⟨inf', v', a', cap, g1, g2, rfl, g3⟩ := hc
        rw [hi] at g1
        cases g1
        have hll : ((rows.drop lo).take len).length = len := by simp; omega
        rcases g3 rfl with ⟨e1, rfl, rfl, rfl, rfl⟩ | ⟨b, a'', e1, rfl, e2, e3, e4⟩
        · left
          simp
        · right
          simp only [e1] at hbase
          obtain ⟨b1, b2, b3, b4, b5, cells, T, b6, b7, b8⟩ := hbase
          refine ⟨a'', cap, inf.sz, by rw [hll], by rw [hll]; omega, ?_⟩
          by_cases hz : (rows.drop lo).take len = []
          · exact .inl hz
          · right
            have hpos : 0 < len := by
              rcases Nat.eq_zero_or_pos len with h0 | h0
              · subst h0; simp at hz
              · exact h0
            have hlt : lo < inf.cap := by omega
            have := e4 hlt
            subst this
            have hrt := concRows_take (concRows_drop b8 lo) len
            exact ⟨rfl, .inr e1, concRows_le (Γ := Γ) (Γ' := Γ') rfl hle hrt⟩
      · exact conc_mono hle _ _ hc
    | ptr h' ver' i k =>
      simp only [fzL]
      split
      · rename_i heq
        obtain ⟨rfl, rfl⟩ := heq
        simp only [conc] at hc ⊢
        obtain ⟨inf', v', p, g1, g2, rfl, g3⟩ := hc
        rw [hi] at g1
        cases g1
        obtain ⟨b, e1, rfl⟩ := g3 rfl
        simp only [e1] at hbase
        obtain ⟨b1, b2, b3, b4, b5, cells, T, b6, b7, b8⟩ := hbase
        exact ⟨b, inf.off, inf.sz, rfl, .inr e1, concRows_le (Γ := Γ) (Γ' := Γ') rfl hle b8⟩
      · exact conc_mono hle _ _ hc
    | v x => exact conc_mono hle _ _ hc
    | slv r => exact conc_mono hle _ _ hc
    | slq r => exact conc_mono hle _ _ hc
    | fptr r i k => exact conc_mono hle _ _ hc
    | clo f cs => exact conc_mono hle _ _ hc
  have hlook : ∀ (n : Nat) (o : Ob), ((H.map (mpO (fzL h ver rows))).set h .dead)[n]? = some o → o = .dead ∨ (n ≠ h ∧ ∃ o', H[n]? = some o' ∧ o = mpO (fzL h ver rows) o') := by
    intro n o hn
    rw [List.getElem?_set] at hn
    split at hn
    · left
      split at hn
      · simpa using hn.symm
      · cases hn
    · rename_i hne
      right
      rw [List.getElem?_map] at hn
      simp only [Option.map_eq_some_iff] at hn
      obtain ⟨o', h1, rfl⟩ := hn
      exact ⟨fun h => hne h.symm, o', h1, rfl⟩
  refine ⟨d, s, Γ', rfl, hext.trans hext', ⟨by simp [hok.len]; rfl, fun n o hn => ?_, fun n n' v v' z1 z2 r r' i1 i2 b h1 h2 h3 h4 h5 h6 => ?_, fun b hb => ?_, fun b hb => hok.X b hb⟩, fun t x hx => ?_⟩
  · rcases hlook n o hn with rfl | ⟨hne, o', h1, rfl⟩
    · trivial
    · refine ObOk.mp (Γ := Γ) (Γ' := Γ') rfl hg (fun _ _ _ _ => rfl) (fun v z' r i b e1 e2 e3 e4 e5 => ⟨fun hf => ?_, e4⟩) (hok.ob n o' h1)
      rcases hf with hf | hf
      · exact e5 hf
      · subst e1
        exact hne (hok.apart n h v ver z' z r rows i inf b h1 hH e2 hi e3 hf)
  · rcases hlook n _ h1 with h1 | ⟨hne, o1, h1, e1⟩
    · cases h1
    · rcases hlook n' _ h2 with h2 | ⟨hne', o2, h2, e2⟩
      · cases h2
      · obtain ⟨q1, rfl⟩ := mpO_live e1.symm
        obtain ⟨q2, rfl⟩ := mpO_live e2.symm
        exact hok.apart n n' v v' z1 z2 q1 q2 i1 i2 b h1 h2 h3 h4 h5 h6
  · rcases hb with hb | hb
    · exact hok.F b hb
    · exact hok.X b (hX b hb)
  · obtain ⟨x', h1, rfl⟩ := mpE_get hx
    obtain ⟨y, h2, h3⟩ := henv t x' h1
    exact ⟨y, h2, concV_mp hg _ _ h3⟩
end Go.Nx
