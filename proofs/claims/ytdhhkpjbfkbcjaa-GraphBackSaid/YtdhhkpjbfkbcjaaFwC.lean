/- Rules of the walk. -/
import Derived.Test.YtdhhkpjbfkbcjaaFwB
/- What is known, said in other words: an own array that is only read from here on; what nobody names; nil as an own array. -/
namespace Go.Nx
set_option linter.unusedVariables false
set_option linter.unusedSimpArgs false
set_option linter.unusedSectionVars false

/-! A leaf for a leaf. -/
mutual
def mpV (g : Leaf → Leaf) : AVal → AVal
  | .c l => .c (g l)
  | .agg cs => .agg (cs.map g)
  | .tup vs => .tup (mpVs g vs)
def mpVs (g : Leaf → Leaf) : List AVal → List AVal
  | [] => []
  | v :: vs => mpV g v :: mpVs g vs
end
def mpO (g : Leaf → Leaf) : Ob → Ob
  | .live ver sz rows => .live ver sz (rows.map fun r => r.map g)
  | .dead => .dead
def mpE (g : Leaf → Leaf) (e : Env) : Env := e.map fun (t, x) => (t, mpV g x)

section
variable {Γ Γ' : Ctx} {g : Leaf → Leaf} (hw : Γ'.w = Γ.w) (hg : ∀ l y, conc Γ l y → conc Γ' (g l) y)
include hg
theorem concAll_mp : ∀ {ls : List Leaf} {ys : List Value}, concAll Γ ls ys → concAll Γ' (ls.map g) ys
  | [], ys, h => by simpa [concAll] using h
  | l :: ls, ys, h => by
    simp only [concAll] at h
    obtain ⟨y, ys', rfl, h2, h3⟩ := h
    simp only [List.map_cons, concAll]
    exact ⟨y, ys', rfl, hg _ _ h2, concAll_mp h3⟩
mutual
theorem concV_mp : ∀ (v : AVal) (y : Value), concV Γ v y → concV Γ' (mpV g v) y
  | .c l, y, h => by simp only [mpV, concV] at *; exact hg _ _ h
  | .agg cs, y, h => by
    simp only [mpV, concV] at *
    obtain ⟨ys, h1, h2⟩ := h
    exact ⟨ys, h1, concAll_mp hg h2⟩
  | .tup vs, y, h => by
    simp only [mpV, concV] at *
    obtain ⟨ys, h1, h2⟩ := h
    exact ⟨ys, h1, concVs_mp vs _ h2⟩
theorem concVs_mp : ∀ (vs : List AVal) (ys : List Value), concVs Γ vs ys → concVs Γ' (mpVs g vs) ys
  | [], ys, h => by simpa [mpVs, concVs] using h
  | v :: vs, ys, h => by
    simp only [mpVs, concVs] at *
    obtain ⟨y, ys', h1, h2, h3⟩ := h
    exact ⟨y, ys', h1, concV_mp v y h2, concVs_mp vs ys' h3⟩
end
include hw
theorem concRow_mp {b : Nat} : ∀ {off : Nat} {r : List Leaf}, concRow Γ b off r → concRow Γ' b off (r.map g)
  | _, [], _ => by simp [concRow]
  | off, l :: ls, h => by
    simp only [List.map_cons, concRow] at h ⊢
    obtain ⟨⟨y, h1, h2⟩, h3⟩ := h
    exact ⟨⟨y, by rw [hw]; exact h1, hg _ _ h2⟩, concRow_mp h3⟩
theorem concRows_mp {b sz : Nat} : ∀ {off : Nat} {rows : List (List Leaf)}, concRows Γ b sz off rows → concRows Γ' b sz off (rows.map fun r => r.map g)
  | _, [], _ => by simp [concRows]
  | off, r :: rs, h => by
    simp only [List.map_cons, concRows] at h ⊢
    exact ⟨by simpa using h.1, concRow_mp hw hg h.2.1, concRows_mp h.2.2⟩
end

theorem concRows_le {Γ Γ' : Ctx} (hw : Γ'.w = Γ.w) (hle : Γ.Le Γ') {b sz off : Nat} {rows : List (List Leaf)} (h : concRows Γ b sz off rows) : concRows Γ' b sz off rows := by
  have := concRows_mp (g := fun l => l) hw (fun l y hc => conc_mono hle l y hc) h
  simpa using this

theorem mpE_get {g : Leaf → Leaf} {e : Env} {t : Nat} {x : AVal} (h : (mpE g e).get t = some x) : ∃ z, e.get t = some z ∧ x = mpV g z := by
  induction e with
  | nil => simp [mpE, Env.get] at h
  | cons p e ih =>
    obtain ⟨s, v⟩ := p
    simp only [mpE, List.map_cons, Env.get] at h
    split at h
    · rename_i he
      subst he
      cases h
      exact ⟨v, by simp [Env.get], rfl⟩
    · rename_i he
      obtain ⟨z, h1, h2⟩ := ih h
      exact ⟨z, by simp [Env.get, he, h1], h2⟩

theorem mpO_live {g : Leaf → Leaf} {o : Ob} {v z : Nat} {rows : List (List Leaf)} (h : mpO g o = .live v z rows) : ∃ rows', o = .live v z rows' := by
  cases o with
  | dead => simp [mpO] at h
  | live v' z' r' =>
    simp only [mpO, Ob.live.injEq] at h
    obtain ⟨rfl, rfl, _⟩ := h
    exact ⟨r', rfl⟩

/-- Objects, leaf for leaf, in a context of the same world. -/
theorem ObOk.mp {Γ Γ' : Ctx} {g : Leaf → Leaf} (hw : Γ'.w = Γ.w) (hg : ∀ l y, conc Γ l y → conc Γ' (g l) y) {h : Nat} {o : Ob} (hs : ∀ ver z rows, o = .live ver z rows → Γ'.hs[h]? = Γ.hs[h]?)
    (hb : ∀ ver z rows inf b, o = .live ver z rows → Γ.hs[h]? = some (inf, ver) → inf.base = some b → Γ.X b → ¬ Γ.F b → ¬ Γ'.F b ∧ Γ'.X b) (ho : ObOk Γ h o) : ObOk Γ' h (mpO g o) := by
  cases o with
  | dead => trivial
  | live ver z rows =>
    obtain ⟨inf, h1, hm, h2⟩ := ho
    refine ⟨inf, (hs ver z rows rfl).trans h1, hm, ?_⟩
    cases hbase : inf.base with
    | none => simp only [hbase] at h2 ⊢; subst h2; rfl
    | some b =>
      simp only [hbase] at h2 ⊢
      obtain ⟨hzz, hx, hf, hc, hsz, cells, T, hh, hcs, hrows⟩ := h2
      obtain ⟨g2, g3⟩ := hb ver z rows inf b rfl h1 hbase hx hf
      exact ⟨hzz, g3, g2, by simpa using hc, hsz, cells, T, by rw [hw]; exact hh, hcs, concRows_mp hw hg hrows⟩

/-! An own array that is only read from here on. -/
def fzL (h ver : Nat) (rows : List (List Leaf)) : Leaf → Leaf
  | .sl h' ver' lo len => if h' = h ∧ ver' = ver ∧ lo + len ≤ rows.length then .slv ((rows.drop lo).take len) else .sl h' ver' lo len
  | .ptr h' ver' i k => if h' = h ∧ ver' = ver then .fptr rows i k else .ptr h' ver' i k
  | l => l

theorem freeze_sat {N : Nat} {Γ0 : Ctx} {e : Env} {H : List Ob} {h ver z : Nat} {rows : List (List Leaf)} (ho : obj H h ver = some (z, rows)) {a : Act} {w : World} (hs : Sat N Γ0 ⟨e, H⟩ a w) :
    Sat N Γ0 ⟨mpE (fzL h ver rows) e, (H.map (mpO (fzL h ver rows))).set h .dead⟩ a w := by
  obtain ⟨d, s, Γ, rfl, hext, hok, henv⟩ := hs
  have hH : H[h]? = some (.live ver z rows) := by
    unfold obj at ho
    split at ho
    · rename_i v z' r heq
      split at ho
      · rename_i hv
        subst hv
        cases ho
        exact heq
      · cases ho
    · cases ho
  obtain ⟨inf, hi, hcap, hbase⟩ := hok.ob h _ hH
  let Γ' : Ctx := { w := Γ.w, F := fun b => Γ.F b ∨ inf.base = some b, X := Γ.X, hs := Γ.hs }
  have hle : Γ.Le Γ' := ⟨fun b hb => .inl hb, fun _ _ => rfl, fun n i v hn => ⟨i, v, hn, Nat.le_refl _, fun _ => rfl⟩⟩
  have hX : ∀ b, inf.base = some b → Γ.X b := fun b hb => by
    simp only [hb] at hbase
    exact hbase.2.1
  have hext' : Γ.Ext Γ' := ⟨hle, rfl, rfl, rfl, Nat.le_refl _, fun _ _ _ => rfl, fun b hb => by
    rcases hb with hb | hb
    · exact .inl hb
    · exact .inr (.inl (hX b hb)), fun b hb => .inl hb⟩
  have hg : ∀ l y, conc Γ l y → conc Γ' (fzL h ver rows l) y := by
    intro l y hc
    cases l with
    | sl h' ver' lo len =>
      simp only [fzL]
      split
      · rename_i heq
        obtain ⟨rfl, rfl, hlen⟩ := heq
        simp only [conc] at hc ⊢
        obtain ⟨inf', v', a', cap, g1, g2, rfl, g3⟩ := hc
        rw [hi] at g1
        cases g1
        have hll : ((rows.drop lo).take len).length = len := by simp; omega
        rcases g3 rfl with ⟨e1, rfl, rfl, rfl, rfl⟩ | ⟨b, a'', e1, rfl, e2, e3, e4⟩
        · left
          simp
        · right
          simp only [e1] at hbase
          obtain ⟨b1, b2, b3, b4, b5, cells, T, b6, b7, b8⟩ := hbase
          refine ⟨a'', cap, inf.sz, by rw [hll], by rw [hll]; omega, ?_⟩
          by_cases hz : (rows.drop lo).take len = []
          · exact .inl hz
          · right
            have hpos : 0 < len := by
              rcases Nat.eq_zero_or_pos len with h0 | h0
              · subst h0; simp at hz
              · exact h0
            have hlt : lo < inf.cap := by omega
            have := e4 hlt
            subst this
            have hrt := concRows_take (concRows_drop b8 lo) len
            exact ⟨rfl, .inr e1, concRows_le (Γ := Γ) (Γ' := Γ') rfl hle hrt⟩
      · exact conc_mono hle _ _ hc
    | ptr h' ver' i k =>
      simp only [fzL]
      split
      · rename_i heq
        obtain ⟨rfl, rfl⟩ := heq
        simp only [conc] at hc ⊢
        obtain ⟨inf', v', p, g1, g2, rfl, g3⟩ := hc
        rw [hi] at g1
        cases g1
        obtain ⟨b, e1, rfl⟩ := g3 rfl
        simp only [e1] at hbase
        obtain ⟨b1, b2, b3, b4, b5, cells, T, b6, b7, b8⟩ := hbase
        exact ⟨b, inf.off, inf.sz, rfl, .inr e1, concRows_le (Γ := Γ) (Γ' := Γ') rfl hle b8⟩
      · exact conc_mono hle _ _ hc
    | v x => exact conc_mono hle _ _ hc
    | slv r => exact conc_mono hle _ _ hc
    | slq r => exact conc_mono hle _ _ hc
    | fptr r i k => exact conc_mono hle _ _ hc
    | clo f cs => exact conc_mono hle _ _ hc
  have hlook : ∀ (n : Nat) (o : Ob), ((H.map (mpO (fzL h ver rows))).set h .dead)[n]? = some o → o = .dead ∨ (n ≠ h ∧ ∃ o', H[n]? = some o' ∧ o = mpO (fzL h ver rows) o') := by
    intro n o hn
    rw [List.getElem?_set] at hn
    split at hn
    · left
      split at hn
      · simpa using hn.symm
      · cases hn
    · rename_i hne
      right
      rw [List.getElem?_map] at hn
      simp only [Option.map_eq_some_iff] at hn
      obtain ⟨o', h1, rfl⟩ := hn
      exact ⟨fun h => hne h.symm, o', h1, rfl⟩
  refine ⟨d, s, Γ', rfl, hext.trans hext', ⟨by simp [hok.len]; rfl, fun n o hn => ?_, fun n n' v v' z1 z2 r r' i1 i2 b h1 h2 h3 h4 h5 h6 => ?_, fun b hb => ?_, fun b hb => hok.X b hb⟩, fun t x hx => ?_⟩
  · rcases hlook n o hn with rfl | ⟨hne, o', h1, rfl⟩
    · trivial
    · refine ObOk.mp (Γ := Γ) (Γ' := Γ') rfl hg (fun _ _ _ _ => rfl) (fun v z' r i b e1 e2 e3 e4 e5 => ⟨fun hf => ?_, e4⟩) (hok.ob n o' h1)
      rcases hf with hf | hf
      · exact e5 hf
      · subst e1
        exact hne (hok.apart n h v ver z' z r rows i inf b h1 hH e2 hi e3 hf)
  · rcases hlook n _ h1 with h1 | ⟨hne, o1, h1, e1⟩
    · cases h1
    · rcases hlook n' _ h2 with h2 | ⟨hne', o2, h2, e2⟩
      · cases h2
      · obtain ⟨q1, rfl⟩ := mpO_live e1.symm
        obtain ⟨q2, rfl⟩ := mpO_live e2.symm
        exact hok.apart n n' v v' z1 z2 q1 q2 i1 i2 b h1 h2 h3 h4 h5 h6
  · rcases hb with hb | hb
    · exact hok.F b hb
    · exact hok.X b (hX b hb)
  · obtain ⟨x', h1, rfl⟩ := mpE_get hx
    obtain ⟨y, h2, h3⟩ := henv t x' h1
    exact ⟨y, h2, concV_mp hg _ _ h3⟩
end Go.Nx
/- More of that: what nobody names falls away; nil becomes an own array; an own array lent to a call. -/
namespace Go.Nx
set_option linter.unusedVariables false
set_option linter.unusedSimpArgs false

theorem sh0_zero : sh0 0 = fun l => l := by
  funext l
  cases l <;> simp [sh0]
theorem shL_zero : shL 0 = fun l => l := by
  funext l
  cases l <;> simp [shL, sh0_zero]
theorem shV_zero (v : AVal) : shV 0 v = v := by
  cases v with
  | c l => simp [shV, shL_zero]
  | agg cs => simp [shV, shL_zero]
  | tup vs =>
    simp only [shV, shL_zero]
    congr 1
    conv => rhs; rw [← List.map_id vs]
    apply List.map_congr_left
    intro v _
    cases v <;> simp

theorem Env.get_mem {e : Env} {t : Nat} {x : AVal} (h : e.get t = some x) : (t, x) ∈ e := by
  induction e with
  | nil => simp [Env.get] at h
  | cons p e ih =>
    obtain ⟨s, v⟩ := p
    simp only [Env.get] at h
    split at h
    · rename_i he
      subst he
      cases h
      simp
    · exact List.mem_cons_of_mem _ (ih h)

/-- What nobody names falls away. -/
theorem drop_sat {N : Nat} {Γ0 : Ctx} {e : Env} {H H1 J : List Ob} (hJ : H1 = H ++ J) (hl : Γ0.hs.length ≤ H.length) (he : (e.all fun p => mvV H.length p.2) = true) (hH : H.all (mvO H.length) = true) {a : Act} {w : World} (hs : Sat N Γ0 ⟨e, H1⟩ a w) : Sat N Γ0 ⟨e, H⟩ a w := by
  subst hJ
  obtain ⟨d, s, Γ, rfl, hext, hok, henv⟩ := hs
  have hln := hok.len
  simp only [List.length_append] at hln
  let Γ' : Ctx := { w := Γ.w, F := Γ.F, X := Γ.X, hs := Γ.hs.take H.length }
  have hh : ∀ (h : Nat) (p : Info × Nat), h < H.length → Γ.hs[h]? = some p → Γ'.hs[0 + h]? = some p := fun h p hlt hp => by
    show (Γ.hs.take H.length)[0 + h]? = some p
    rw [Nat.zero_add, List.getElem?_take_of_lt hlt]
    exact hp
  have hh' : ∀ (h : Nat) (p : Info × Nat), Γ'.hs[h]? = some p → h < H.length ∧ Γ.hs[h]? = some p := fun h p hp => by
    have hlt : h < H.length := by
      have := (List.getElem?_eq_some_iff.1 hp).1
      simp only [Γ', List.length_take] at this
      omega
    refine ⟨hlt, ?_⟩
    have : (Γ.hs.take H.length)[h]? = some p := hp
    rwa [List.getElem?_take_of_lt hlt] at this
  refine ⟨d, s, Γ', rfl, ⟨⟨hext.le.F, hext.le.mem, fun h inf ver h1 => ?_⟩, hext.os, hext.tape, hext.output, hext.size, hext.frame, hext.Fnew, hext.Xnew⟩, ⟨by simp only [Γ', List.length_take]; omega, fun h o ho => ?_, fun h h' v v' z z' rows rows' inf inf' b h1 h2 h3 h4 h5 h6 => ?_, hok.F, hok.X⟩, fun t x hx => ?_⟩
  · obtain ⟨inf', ver', g1, g2⟩ := hext.le.hs h inf ver h1
    have hlt : h < H.length := by
      have := (List.getElem?_eq_some_iff.1 h1).1
      omega
    exact ⟨inf', ver', by simpa using hh h _ hlt g1, g2⟩
  · have hlt := (List.getElem?_eq_some_iff.1 ho).1
    have hob := hok.ob h o (by rw [List.getElem?_append_left hlt]; exact ho)
    cases o with
    | dead => trivial
    | live ver sz rows =>
      have hmv : mvO H.length (.live ver sz rows) = true := by
        rw [List.all_eq_true] at hH
        exact hH _ (List.mem_of_getElem? ho)
      obtain ⟨inf, g1, g2, g3⟩ := hob
      refine ⟨inf, by simpa using hh h _ hlt g1, g2, ?_⟩
      cases hb : inf.base with
      | none => simp only [hb] at g3 ⊢; exact g3
      | some b =>
        simp only [hb] at g3 ⊢
        obtain ⟨b1, b2, b3, b4, b5, cells, T, b6, b7, b8⟩ := g3
        refine ⟨b1, b2, b3, b4, b5, cells, T, b6, b7, ?_⟩
        have := concRows_sh (Γ := Γ) (Γ' := Γ') (n := 0) (m := H.length) rfl (fun _ h => h) hh (by simpa [mvO] using hmv) b8
        simpa [shL_zero] using this
  · have l1 := (List.getElem?_eq_some_iff.1 h1).1
    have l2 := (List.getElem?_eq_some_iff.1 h2).1
    exact hok.apart h h' v v' z z' rows rows' inf inf' b (by rw [List.getElem?_append_left l1]; exact h1) (by rw [List.getElem?_append_left l2]; exact h2) (hh' _ _ h3).2 (hh' _ _ h4).2 h5 h6
  · obtain ⟨y, h1, h2⟩ := henv t x hx
    refine ⟨y, h1, ?_⟩
    rw [List.all_eq_true] at he
    have := concV_sh (Γ := Γ) (Γ' := Γ') (n := 0) (m := H.length) rfl (fun _ h => h) hh (he _ (Env.get_mem hx)) h2
    rwa [shV_zero] at this

/-- nil in a cell of an own object. -/
theorem nilCell_sat {N : Nat} {Γ0 : Ctx} {e : Env} {H H1 H2 : List Ob} {g ver z i k : Nat} {rows rows' : List (List Leaf)} {r : List Leaf} (sz : Nat) (h : Nat) (ho : obj H g ver = some (z, rows)) (hr : rows[i]? = some r) (hk : r[k]? = some nilS) (hh : H.length = h)
    (hrows : rows.set i (r.set k (.sl h 0 0 0)) = rows') (hsn : Snoc (.live 0 sz []) H H1) (hset : SetAt (.live ver z rows') H1 g H2) {a : Act} {w : World} (hs : Sat N Γ0 ⟨e, H⟩ a w) : Sat N Γ0 ⟨e, H2⟩ a w := by
  subst hh hrows
  obtain ⟨d, s, Γ, rfl, hext, hok, henv⟩ := hs
  have hok1 : HeapOk Γ.nilOb H1 := by rw [← hsn.eq]; exact HeapOk_nilOb hok sz
  have hg := obj_some ho
  have hlt := (List.getElem?_eq_some_iff.1 hg).1
  have hg1 : H1[g]? = some (.live ver z rows) := by rw [← hsn.eq, List.getElem?_append_left hlt]; exact hg
  have hlook : ∀ (n : Nat) (o : Ob), H2[n]? = some o → (n = g ∧ o = .live ver z (rows.set i (r.set k (.sl H.length 0 0 0)))) ∨ (n ≠ g ∧ H1[n]? = some o) := by
    intro n o hn
    rw [← hset.eq, List.getElem?_set] at hn
    split at hn
    · rename_i he
      subst he
      left
      split at hn
      · simp at hn
        exact ⟨rfl, hn.symm⟩
      · cases hn
    · rename_i he
      exact .inr ⟨fun h => he h.symm, hn⟩
  have hlen2 : H2.length = H1.length := by rw [← hset.eq]; simp
  refine ⟨d, s, Γ.nilOb, rfl, hext.trans (Ext_nilOb Γ), ⟨by rw [hlen2]; exact hok1.len, fun n o hn => ?_, fun n n' v v' z1 z2 r1 r2 i1 i2 b h1 h2 h3 h4 h5 h6 => ?_, hok1.F, hok1.X⟩, fun t' x hx => ?_⟩
  · rcases hlook n o hn with ⟨rfl, rfl⟩ | ⟨_, h1⟩
    · obtain ⟨inf, g1, g2, g3⟩ := hok1.ob n _ hg1
      refine ⟨inf, g1, g2, ?_⟩
      cases hb : inf.base with
      | none =>
        simp only [hb] at g3 ⊢
        subst g3
        simp at hr
      | some b =>
        simp only [hb] at g3 ⊢
        obtain ⟨b1, b2, b3, b4, b5, cells, T, b6, b7, b8⟩ := g3
        refine ⟨b1, b2, b3, by simpa using b4, b5, cells, T, b6, b7, ?_⟩
        refine concRows_mk fun j q hq => ?_
        rw [List.getElem?_set] at hq
        split at hq
        · rename_i hj
          subst hj
          split at hq
          · simp only [Option.some.injEq] at hq
            subst hq
            obtain ⟨c1, c2⟩ := concRows_get b8 hr
            refine ⟨by simpa using c1, concRow_mk fun m l hl => ?_⟩
            rw [List.getElem?_set] at hl
            split at hl
            · rename_i hm
              subst hm
              split at hl
              · simp only [Option.some.injEq] at hl
                subst hl
                obtain ⟨y, c3, c4⟩ := concRow_get c2 hk
                refine ⟨y, c3, ?_⟩
                simp only [conc] at c4 ⊢
                obtain ⟨rfl, _⟩ := c4
                exact ⟨⟨none, 0, 0, 0⟩, 0, none, 0, by simp [Ctx.nilOb, hok.len], Nat.le_refl _, rfl, fun _ => .inl (by simp)⟩
              · cases hl
            · exact concRow_get c2 hl
          · cases hq
        · exact concRows_get b8 hq
    · exact hok1.ob n o h1
  · have back : ∀ (n v z1 : Nat) (r1 : List (List Leaf)), H2[n]? = some (.live v z1 r1) → ∃ r1', H1[n]? = some (.live v z1 r1') := by
      intro n v z1 r1 hn
      rcases hlook n _ hn with ⟨rfl, he⟩ | ⟨_, h1⟩
      · cases he
        exact ⟨rows, hg1⟩
      · exact ⟨r1, h1⟩
    obtain ⟨q1, e1⟩ := back n v z1 r1 h1
    obtain ⟨q2, e2⟩ := back n' v' z2 r2 h2
    exact hok1.apart n n' v v' z1 z2 q1 q2 i1 i2 b e1 e2 h3 h4 h5 h6
  · obtain ⟨y, h1, h2⟩ := henv _ _ hx
    exact ⟨y, h1, concV_mono (Le_nilOb Γ) _ _ h2⟩

theorem TextR.dcall {P : Program} {N : Nat} {Γ0 : Ctx} {A os : List Oper} {e : Env} {H : List Ob} {ty : TypeId} {pos : String} {after : Array Edge} {K : Env → List Ob → Prop} {d : Option Nat} {f : Operand} {args : Array Operand} {ts : Array TypeId} {c : FuncId} {caps : List Leaf} {as : List AVal} {x : AVal}
    (hf : evO e f = some (.c (.clo c caps))) (has : allV (args.toList.map (evO e)) = some as) (hc : DCall P c (as ++ caps.map .c) H x)
    (hr : TextR P N Γ0 A os (putE e d x) H K) : TextR P N Γ0 A (⟨d, .call { callee := .value f, args := args, argTypes := ts }, ty, pos, after, none⟩ :: os) e H K :=
  .call hf has hc (by rintro _ _ ⟨rfl, rfl⟩; exact hr)

/-- What is called may be told apart. -/
theorem Call.cases {P : Program} {f : FuncId} {args : List AVal} {H : List Ob} {K : AVal → List Ob → Prop} (he : enters P f = true) (h : ∀ Γ args', HeapOk Γ H → concVs Γ args args' → ∃ as, Nx.Call P f as H K ∧ concVs Γ as args') : Nx.Call P f args H K :=
  ⟨he, fun Γ hok args' hc => by
    obtain ⟨as, h1, h2⟩ := h Γ _ hok hc
    exact h1.2 Γ hok args' h2⟩

theorem conc_slv_nil {Γ : Ctx} {rows : List (List Leaf)} {y : Value} (h : conc Γ (.slv rows) y) : (rows = [] ∧ conc Γ nilS y) ∨ conc Γ (.slq rows) y := by
  simp only [conc] at h ⊢
  rcases h with ⟨rfl, rfl⟩ | h
  · exact .inl ⟨rfl, rfl, rfl⟩
  · exact .inr h
theorem conc_slq_slv {Γ : Ctx} {rows : List (List Leaf)} {y : Value} (h : conc Γ (.slq rows) y) : conc Γ (.slv rows) y := by
  simp only [conc] at h ⊢
  exact .inr h
theorem conc_nil_slv {Γ : Ctx} {y : Value} (h : conc Γ nilS y) : conc Γ (.slv []) y := by
  simp only [conc] at h ⊢
  exact .inl ⟨h.1, trivial⟩

/-! An own array lent. -/
def bwL (H : List Ob) : Leaf → Leaf
  | .sl h ver lo len => match obj H h ver with
    | some (_, rows) => if lo + len ≤ rows.length then .slv ((rows.drop lo).take len) else .sl h ver lo len
    | none => .sl h ver lo len
  | .ptr h ver i k => match obj H h ver with
    | some (_, rows) => .fptr rows i k
    | none => .ptr h ver i k
  | l => l
mutual
/-- What says nothing of the heap. -/
def flV : AVal → Bool
  | .c l => match l with | .v _ => true | _ => false
  | .agg cs => cs.all fun | .v _ => true | _ => false
  | .tup vs => flVs vs
def flVs : List AVal → Bool
  | [] => true
  | v :: vs => flV v && flVs vs
end
section
variable {Γ Γ' : Ctx}
theorem concAll_fl : ∀ (ls : List Leaf) (ys : List Value), (ls.all fun | .v _ => true | _ => false) = true → concAll Γ ls ys → concAll Γ' ls ys
  | [], ys, _, h => by simpa [concAll] using h
  | l :: ls, ys, hf, h => by
    simp only [List.all_cons, Bool.and_eq_true] at hf
    simp only [concAll] at h ⊢
    obtain ⟨y, ys', h1, h2, h3⟩ := h
    refine ⟨y, ys', h1, ?_, concAll_fl ls ys' hf.2 h3⟩
    cases l with
    | v x => simpa [conc] using h2
    | _ => simp at hf
mutual
theorem concV_fl : ∀ (v : AVal) (y : Value), flV v = true → concV Γ v y → concV Γ' v y
  | .c l, y, hf, h => by
    cases l with
    | v x => simpa [concV, conc] using h
    | _ => simp [flV] at hf
  | .agg cs, y, hf, h => by
    simp only [flV, concV] at *
    obtain ⟨ys, h1, h2⟩ := h
    exact ⟨ys, h1, concAll_fl _ _ hf h2⟩
  | .tup vs, y, hf, h => by
    simp only [flV, concV] at *
    obtain ⟨ys, h1, h2⟩ := h
    exact ⟨ys, h1, concVs_fl _ _ hf h2⟩
theorem concVs_fl : ∀ (vs : List AVal) (ys : List Value), flVs vs = true → concVs Γ vs ys → concVs Γ' vs ys
  | [], ys, _, h => by simpa [concVs] using h
  | v :: vs, ys, hf, h => by
    simp only [flVs, Bool.and_eq_true] at hf
    simp only [concVs] at h ⊢
    obtain ⟨y, ys', h1, h2, h3⟩ := h
    exact ⟨y, ys', h1, concV_fl v y hf.1 h2, concVs_fl vs ys' hf.2 h3⟩
end
end

theorem DCall.borrow {P : Program} {f : FuncId} {args fs : List AVal} {H : List Ob} {r : AVal} (hb : mpVs (bwL H) args = fs) (ha : hfVs fs = true) (hr : flV r = true) (h : Nx.Call P f fs [] fun r' _ => r' = r) : DCall P f args H r := by
  subst hb
  refine ⟨h.1, fun Γ hok args' hc => ?_⟩
  let Fb : Nat → Prop := fun b => ∃ (h : Nat) (v z : Nat) (rows : List (List Leaf)) (inf : Info), H[h]? = some (.live v z rows) ∧ Γ.hs[h]? = some (inf, v) ∧ inf.base = some b
  have hFb : ∀ b, Fb b → b < Γ.w.heap.size := fun b ⟨h, v, z, rows, inf, h1, h2, h3⟩ => by
    obtain ⟨i2, g1, _, g2⟩ := hok.ob h _ h1
    rw [h2] at g1
    cases g1
    simp only [h3] at g2
    exact hok.X b g2.2.1
  let Γ0 : Ctx := { w := Γ.w, F := fun b => Γ.F b ∨ Fb b, X := fun _ => False, hs := Γ.hs }
  let Γ1 : Ctx := { w := Γ.w, F := fun b => Γ.F b ∨ Fb b, X := fun _ => False, hs := [] }
  have hle0 : Γ.Le Γ0 := ⟨fun b hb => .inl hb, fun _ _ => rfl, fun n i v hn => ⟨i, v, hn, Nat.le_refl _, fun _ => rfl⟩⟩
  have hg : ∀ l y, conc Γ l y → conc Γ0 (bwL H l) y := by
    intro l y hc
    cases l with
    | sl h ver lo len =>
      simp only [bwL]
      split
      · rename_i z rows ho
        split
        · rename_i hlen
          have hH := obj_some ho
          obtain ⟨inf, hi, hcap, hbase⟩ := hok.ob h _ hH
          simp only [conc] at hc ⊢
          obtain ⟨inf', v', a', cap, g1, g2, rfl, g3⟩ := hc
          rw [hi] at g1
          cases g1
          have hll : ((rows.drop lo).take len).length = len := by simp; omega
          rcases g3 rfl with ⟨e1, rfl, rfl, rfl, rfl⟩ | ⟨b, a'', e1, rfl, e2, e3, e4⟩
          · left
            simp
          · right
            simp only [e1] at hbase
            obtain ⟨b1, b2, b3, b4, b5, cells, T, b6, b7, b8⟩ := hbase
            refine ⟨a'', cap, inf.sz, by rw [hll], by rw [hll]; omega, ?_⟩
            by_cases hz : (rows.drop lo).take len = []
            · exact .inl hz
            · right
              have hpos : 0 < len := by
                rcases Nat.eq_zero_or_pos len with h0 | h0
                · subst h0; simp at hz
                · exact h0
              have hlt : lo < inf.cap := by omega
              have := e4 hlt
              subst this
              have hrt := concRows_take (concRows_drop b8 lo) len
              exact ⟨rfl, .inr ⟨h, ver, z, rows, inf, hH, hi, e1⟩, concRows_le (Γ := Γ) (Γ' := Γ0) rfl hle0 hrt⟩
        · exact conc_mono hle0 _ _ hc
      · exact conc_mono hle0 _ _ hc
    | ptr h ver i k =>
      simp only [bwL]
      split
      · rename_i z rows ho
        have hH := obj_some ho
        obtain ⟨inf, hi, hcap, hbase⟩ := hok.ob h _ hH
        simp only [conc] at hc ⊢
        obtain ⟨inf', v', p, g1, g2, rfl, g3⟩ := hc
        rw [hi] at g1
        cases g1
        obtain ⟨b, e1, rfl⟩ := g3 rfl
        simp only [e1] at hbase
        obtain ⟨b1, b2, b3, b4, b5, cells, T, b6, b7, b8⟩ := hbase
        exact ⟨b, inf.off, inf.sz, rfl, .inr ⟨h, ver, z, rows, inf, hH, hi, e1⟩, concRows_le (Γ := Γ) (Γ' := Γ0) rfl hle0 b8⟩
      · exact conc_mono hle0 _ _ hc
    | v x => exact conc_mono hle0 _ _ hc
    | slv r => exact conc_mono hle0 _ _ hc
    | slq r => exact conc_mono hle0 _ _ hc
    | fptr r i k => exact conc_mono hle0 _ _ hc
    | clo f cs => exact conc_mono hle0 _ _ hc
  have hc0 := concVs_mp hg _ _ hc
  have hc1 : concVs Γ1 (mpVs (bwL H) args) args'.toList := concVs_hf (Γ := Γ0) (Γ' := Γ1) rfl (fun _ h => h) _ _ ha hc0
  have hok1 : HeapOk Γ1 [] := ⟨rfl, fun h o hh => by simp at hh, fun h h' v v' z z' rows rows' inf inf' b h1 => by simp at h1, fun b hb => by
    rcases hb with hb | hb
    · exact hok.F b hb
    · exact hFb b hb, fun b hb => hb.elim⟩
  refine (h.2 Γ1 hok1 args' hc1).mono fun e w' he => ?_
  obtain ⟨y, r', Γ1', H', rfl, rfl, rfl, hext, hok', hcv⟩ := he
  have hold : ∀ b, b < Γ.w.heap.size → Γ1'.w.heap[b]? = Γ.w.heap[b]? := fun b hb => hext.frame b hb (fun h => h)
  let Γ' : Ctx := { w := Γ1'.w, F := Γ.F, X := Γ.X, hs := Γ.hs }
  have hle : Γ.Le Γ' := ⟨fun b hb => hb, fun b hb => hold b (hok.F b hb), fun n i v hn => ⟨i, v, hn, Nat.le_refl _, fun _ => rfl⟩⟩
  refine ⟨y, r', Γ', H, rfl, ⟨rfl, rfl⟩, rfl, ⟨hle, hext.os, hext.tape, hext.output, hext.size, fun b hb _ => hold b hb, fun b hb => .inl hb, fun b hb => .inl hb⟩, ⟨hok.len, fun h o ho => ?_, hok.apart, fun b hb => Nat.lt_of_lt_of_le (hok.F b hb) hext.size, fun b hb => Nat.lt_of_lt_of_le (hok.X b hb) hext.size⟩, concV_fl _ _ hr hcv⟩
  exact (hok.ob h o ho).keep hle (fun _ _ _ _ => rfl) (fun ver z rows inf b _ _ _ hx hf => ⟨hold b (hok.X b hx), hf, hx⟩)

theorem hfRows_map {α : Type} {f : α → List Leaf} (h : ∀ x, hfAll (f x) = true) (xs : List α) : hfRows (xs.map f) = true := by
  induction xs with
  | nil => rfl
  | cons x xs ih => simp [hfRows, h, ih]
end Go.Nx
/- Own arrays, as mapped lists. -/
namespace Go.Nx
set_option linter.unusedVariables false
set_option linter.unusedSimpArgs false

/-- nil in a slot: an own array of none, of any version. -/
theorem HeapOk_nilV {Γ : Ctx} {H : List Ob} (hok : HeapOk Γ H) (ver sz : Nat) : HeapOk { Γ with hs := Γ.hs ++ [(⟨none, 0, 0, 0⟩, ver)] } (H ++ [.live ver sz []]) := by
  have hle : Γ.Le { Γ with hs := Γ.hs ++ [(⟨none, 0, 0, 0⟩, ver)] } := ⟨fun _ h => h, fun _ _ => rfl, fun h inf v hh => ⟨inf, v, by
    show (Γ.hs ++ _)[h]? = _
    rw [List.getElem?_append_left (List.getElem?_eq_some_iff.1 hh).1]; exact hh, Nat.le_refl _, fun _ => rfl⟩⟩
  refine ⟨by simp [hok.len], fun h o ho => ?_, fun h h' v v' z1 z2 r r' inf inf' b h1 h2 h3 h4 h5 h6 => ?_, hok.F, hok.X⟩
  · by_cases hlt : h < H.length
    · rw [List.getElem?_append_left hlt] at ho
      refine ObOk.keep hle (fun _ _ _ _ => ?_) (fun ver z rows inf b _ _ _ hx hf => ⟨rfl, hf, hx⟩) (hok.ob h o ho)
      show (Γ.hs ++ _)[h]? = _
      rw [List.getElem?_append_left (by rw [← hok.len]; exact hlt)]
    · have he : h = H.length := by
        have := (List.getElem?_eq_some_iff.1 ho).1
        simp at this; omega
      subst he
      simp at ho
      subst ho
      exact ⟨⟨none, 0, 0, 0⟩, by simp [hok.len], Nat.zero_le _, rfl⟩
  · have old : ∀ (n : Nat) (vv zz : Nat) (rr : List (List Leaf)) (ii : Info), ii.base = some b → (H ++ [Ob.live ver sz []])[n]? = some (.live vv zz rr) → (Γ.hs ++ [((⟨none, 0, 0, 0⟩ : Info), ver)])[n]? = some (ii, vv) →
        H[n]? = some (.live vv zz rr) ∧ Γ.hs[n]? = some (ii, vv) := by
      intro n vv zz rr ii e0 e1 e2
      by_cases hlt : n < H.length
      · rw [List.getElem?_append_left hlt] at e1
        rw [List.getElem?_append_left (by rw [← hok.len]; exact hlt)] at e2
        exact ⟨e1, e2⟩
      · have he : n = H.length := by
          have := (List.getElem?_eq_some_iff.1 e1).1
          simp at this; omega
        subst he
        rw [hok.len] at e2
        simp at e2
        rw [← e2.1] at e0
        cases e0
    obtain ⟨a1, a2⟩ := old h v z1 r inf h5 h1 h3
    obtain ⟨b1, b2⟩ := old h' v' z2 r' inf' h6 h2 h4
    exact hok.apart h h' v v' z1 z2 r r' inf inf' b a1 b1 a2 b2 h5 h6

theorem nilV_sat {N : Nat} {Γ0 : Ctx} {e : Env} {H H1 : List Ob} {t : Nat} (ver sz : Nat) (h : Nat) (ht : e.get t = some (.c nilS)) (hh : H.length = h) (hsn : Snoc (.live ver sz []) H H1) {a : Act} {w : World} (hs : Sat N Γ0 ⟨e, H⟩ a w) : Sat N Γ0 ⟨(t, .c (.sl h ver 0 0)) :: e, H1⟩ a w := by
  subst hh
  obtain ⟨d, s, Γ, rfl, hext, hok, henv⟩ := hs
  have hle : Γ.Le { Γ with hs := Γ.hs ++ [(⟨none, 0, 0, 0⟩, ver)] } := ⟨fun _ h => h, fun _ _ => rfl, fun h inf v hh => ⟨inf, v, by
    show (Γ.hs ++ _)[h]? = _
    rw [List.getElem?_append_left (List.getElem?_eq_some_iff.1 hh).1]; exact hh, Nat.le_refl _, fun _ => rfl⟩⟩
  refine ⟨d, s, { Γ with hs := Γ.hs ++ [(⟨none, 0, 0, 0⟩, ver)] }, rfl, hext.trans ⟨hle, rfl, rfl, rfl, Nat.le_refl _, fun _ _ _ => rfl, fun _ h => .inl h, fun _ h => .inl h⟩, by rw [← hsn.eq]; exact HeapOk_nilV hok ver sz, fun t' x hx => ?_⟩
  simp only [Env.get] at hx
  split at hx
  · rename_i heq
    subst heq
    cases hx
    obtain ⟨y, h1, h2⟩ := henv _ _ ht
    refine ⟨y, h1, ?_⟩
    simp only [concV, conc] at h2 ⊢
    obtain ⟨rfl, _⟩ := h2
    refine ⟨⟨none, 0, 0, 0⟩, ver, none, 0, by simp [hok.len], Nat.le_refl _, rfl, fun _ => .inl (by simp)⟩
  · obtain ⟨y, h1, h2⟩ := henv _ _ hx
    exact ⟨y, h1, concV_mono hle _ _ h2⟩

section
variable {P : Program} {W : Option WW} {os : List Oper} {gs : List (List (Nat × Bool))} {ex : List Bool} {e : Env} {H H1 : List Ob} {ty : TypeId} {pos : String} {after : Array Edge} {guard : Option (Nat × Bool)} {b : Bool} {t : Nat} {K : Env → List Ob → Prop}

/-- More at an own array's end. -/
theorem RunR.appendM {α : Type} {ts : TypeId} {y z : Operand} {el size by' h ver : Nat} {z0 : List Leaf} {l : Leaf} (f : α → List Leaf) (xs ys zs : List α) (hzs : xs ++ ys = zs) (ht : se P ts = some (el, size, by', z0)) (ha : actE e (gs.headD []) = some true) (hw : wOk W (ex.headD false) e H (.call { callee := .builtin .append, args := #[y, z], argTypes := #[ts, ts] }) = true)
    (hy : evO e y = some (.c (.sl h ver 0 xs.length))) (ho : obj H h ver = some (size, xs.map f)) (hz : evO e z = some (.c l)) (hv : view H l = some (ys.map f)) (hf : ∀ x, (f x).length = size) (hsz : (Nat.blt 0 size && Nat.ble by' 10000) = true) (hn : xs.length + ys.length ≤ 10000000000)
    (hs : SetAt (.live (ver + 1) size (zs.map f)) H h H1) (hr : RunR P W os gs.tail ex.tail ((t, .c (.sl h (ver + 1) 0 zs.length)) :: e) H1 K) : RunR P W (⟨some t, .call { callee := .builtin .append, args := #[y, z], argTypes := #[ts, ts] }, ty, pos, after, guard⟩ :: os) gs ex e H K :=
  .fix rfl ha hw (x := .c (.sl h (ver + 1) 0 zs.length)) (H1 := H1) (by
    subst hzs
    simp only [Bool.and_eq_true, Nat.blt_eq, Nat.ble_eq] at hsz
    have h1 : ∀ r ∈ ys.map f, r.length = size := by
      intro r hr
      obtain ⟨y, _, rfl⟩ := List.mem_map.1 hr
      exact hf y
    have h2 : (xs.length + ys.length) * by' ≤ 140737488355328 := Nat.le_trans (Nat.mul_le_mul hn hsz.2) (by decide)
    have h3 : xs.length + ys.length ≤ maxLen := Nat.le_trans hn (by decide)
    have h4 : 0 + xs.length ≤ (xs.map f).length ∧ True ∧ xs.length + (ys.map f).length ≤ maxLen ∧ (xs.length + (ys.map f).length) * by' ≤ 140737488355328 := by
      simp only [List.length_map]
      exact ⟨by omega, trivial, h3, h2⟩
    simp only [stp, hy, hz, appendV, ht, hv]
    rw [if_pos ⟨trivial, hsz.1, h1⟩]
    simp only [ho]
    rw [if_pos h4]
    have h5 : (List.take xs.length (List.drop 0 (xs.map f)) ++ ys.map f) = (xs ++ ys).map f := by
      rw [List.drop_zero, List.take_of_length_le (by simp), List.map_append]
    rw [h5, hs.eq]
    simp) hr

/-- Is a slice nil? -/
theorem RunR.eqNil {ty0 ty1 : Nat} {el : TypeId} {y : Operand} {l : Leaf} {v : Bool} (ht : P.underlying ty0 = some (.slice el)) (ha : actE e (gs.headD []) = some b) (hw : wOk W (ex.headD false) e H (.binOp .eql ty0 y (.const (.slice none 0 0)) ty1) = true) (hy : evO e y = some (.c l)) (hv : nilB H l = some v)
    (hr : RunR P W os gs.tail ex.tail ((t, .c (B v)) :: e) H K) : RunR P W (⟨some t, .binOp .eql ty0 y (.const (.slice none 0 0)) ty1, ty, pos, after, guard⟩ :: os) gs ex e H K :=
  .mob rfl rfl ha hw (by
    have hk : evO e (.const (.slice none 0 0)) = some (.c nilS) := rfl
    simp only [stp, hy, hk]
    cases l with
    | v x => cases x <;> first | (simp [nilB] at hv; done) | simp [binV, isNilS, ht, hv]
    | _ => simp [binV, isNilS, ht, hv]) hr
theorem RunR.loadNO {α : Type} {ty0 n i h ver z : Nat} {y : Operand} {xs : List α} {x : α} {f : α → List Leaf} (ht : tk P ty0 = some (true, n)) (ha : actE e (gs.headD []) = some b) (hw : wOk W (ex.headD false) e H (.load ty0 y) = true) (hy : evO e y = some (.c (.ptr h ver i 0))) (ho : obj H h ver = some (z, xs.map f)) (hi : xs[i]? = some x) (hs : (f x).length = n)
    (hr : RunR P W os gs.tail ex.tail ((t, .agg (f x)) :: e) H K) : RunR P W (⟨some t, .load ty0 y, ty, pos, after, guard⟩ :: os) gs ex e H K :=
  .loadN ht ha hw hy (by simp [ldN, ho, hi, seg, ← hs]) hr
theorem RunR.load1O {α : Type} {ty0 n i k h ver z : Nat} {y : Operand} {xs : List α} {x : α} {f : α → List Leaf} {l : Leaf} (ht : tk P ty0 = some (false, n)) (ha : actE e (gs.headD []) = some b) (hw : wOk W (ex.headD false) e H (.load ty0 y) = true) (hy : evO e y = some (.c (.ptr h ver i k))) (ho : obj H h ver = some (z, xs.map f)) (hi : xs[i]? = some x) (hs : (f x)[k]? = some l)
    (hr : RunR P W os gs.tail ex.tail ((t, .c l) :: e) H K) : RunR P W (⟨some t, .load ty0 y, ty, pos, after, guard⟩ :: os) gs ex e H K :=
  .load1 ht ha hw hy (by simp [ld1, ho, hi, hs]) hr
theorem map_set_eq {α : Type} {f : α → List Leaf} {xs : List α} {i : Nat} {x' : α} {r : List Leaf} (h : r = f x') : (xs.map f).set i r = (xs.set i x').map f := by
  rw [h, List.map_set]

/-- An element of an own array, or a cell of one, written. -/
theorem RunR.storeO {α : Type} {ty0 : TypeId} {y x0 : Operand} {v : AVal} {h ver n z i k : Nat} {g : Bool} {cs : List Leaf} {xs : List α} {x : α} {f : α → List Leaf} (x' : α) (ht : tk P ty0 = some (g, n)) (ha : actE e (gs.headD []) = some true) (hw : wOk W (ex.headD false) e H (.store ty0 y x0) = true) (hy : evO e y = some (.c (.ptr h ver i k))) (hx : evO e x0 = some v) (hc : v.cells = some cs)
    (ho : obj H h ver = some (z, xs.map f)) (hn : cs.length = n) (hi : xs[i]? = some x) (hrl : Nat.ble (k + n) (f x).length = true) (hp : putSeg (f x) k cs = f x')
    (hs : SetAt (.live ver z ((xs.set i x').map f)) H h H1) (hr : RunR P W os gs.tail ex.tail e H1 K) : RunR P W (⟨none, .store ty0 y x0, ty, pos, after, guard⟩ :: os) gs ex e H K :=
  .storeE ht ha hw hy hx hc ho hn (by rw [List.getElem?_map, hi]; rfl) (Nat.le_of_ble_eq_true hrl) (map_set_eq hp) hs hr

end
end Go.Nx
/- The rules of the operations, for a region in the text's order. -/
namespace Go.Nx
set_option linter.unusedVariables false
set_option linter.unusedSimpArgs false
section
variable {P : Program} {N : Nat} {Γ0 : Ctx} {A os : List Oper} {e : Env} {H H1 : List Ob} {ty : TypeId} {pos : String} {after : Array Edge} {t : Nat} {K : Env → List Ob → Prop}
theorem TextR.appendM {α : Type} {ts : TypeId} {y z : Operand} {el size by' h ver : Nat} {z0 : List Leaf} {l : Leaf} (f : α → List Leaf) (xs ys zs : List α) (hzs : xs ++ ys = zs) (ht : se P ts = some (el, size, by', z0)) (hy : evO e y = some (.c (.sl h ver 0 xs.length))) (ho : obj H h ver = some (size, xs.map f)) (hz : evO e z = some (.c l)) (hv : view H l = some (ys.map f)) (hf : ∀ x, (f x).length = size) (hsz : (Nat.blt 0 size && Nat.ble by' 10000) = true) (hn : xs.length + ys.length ≤ 10000000000) (hs : SetAt (.live (ver + 1) size (zs.map f)) H h H1) (hr : TextR P N Γ0 A os ((t, .c (.sl h (ver + 1) 0 zs.length)) :: e) H1 K) : TextR P N Γ0 A (⟨some t, .call { callee := .builtin .append, args := #[y, z], argTypes := #[ts, ts] }, ty, pos, after, none⟩ :: os) e H K :=
  .op (x := .c (.sl h (ver + 1) 0 zs.length)) (H1 := H1) (by
    subst hzs
    simp only [Bool.and_eq_true, Nat.blt_eq, Nat.ble_eq] at hsz
    have h1 : ∀ r ∈ ys.map f, r.length = size := by
      intro r hr
      obtain ⟨y, _, rfl⟩ := List.mem_map.1 hr
      exact hf y
    have h2 : (xs.length + ys.length) * by' ≤ 140737488355328 := Nat.le_trans (Nat.mul_le_mul hn hsz.2) (by decide)
    have h3 : xs.length + ys.length ≤ maxLen := Nat.le_trans hn (by decide)
    have h4 : 0 + xs.length ≤ (xs.map f).length ∧ True ∧ xs.length + (ys.map f).length ≤ maxLen ∧ (xs.length + (ys.map f).length) * by' ≤ 140737488355328 := by
      simp only [List.length_map]
      exact ⟨by omega, trivial, h3, h2⟩
    simp only [stp, hy, hz, appendV, ht, hv]
    rw [if_pos ⟨trivial, hsz.1, h1⟩]
    simp only [ho]
    rw [if_pos h4]
    have h5 : (List.take xs.length (List.drop 0 (xs.map f)) ++ ys.map f) = (xs ++ ys).map f := by
      rw [List.drop_zero, List.take_of_length_le (by simp), List.map_append]
    rw [h5, hs.eq]
    simp) hr
theorem TextR.eqNil {ty0 ty1 : Nat} {el : TypeId} {y : Operand} {l : Leaf} {v : Bool} (ht : P.underlying ty0 = some (.slice el)) (hy : evO e y = some (.c l)) (hv : nilB H l = some v) (hr : TextR P N Γ0 A os ((t, .c (B v)) :: e) H K) : TextR P N Γ0 A (⟨some t, .binOp .eql ty0 y (.const (.slice none 0 0)) ty1, ty, pos, after, none⟩ :: os) e H K :=
  .op (by
    have hk : evO e (.const (.slice none 0 0)) = some (.c nilS) := rfl
    simp only [stp, hy, hk]
    cases l with
    | v x => cases x <;> first | (simp [nilB] at hv; done) | simp [binV, isNilS, ht, hv]
    | _ => simp [binV, isNilS, ht, hv]) hr
theorem TextR.loadNO {α : Type} {ty0 n i h ver z : Nat} {y : Operand} {xs : List α} {x : α} {f : α → List Leaf} (ht : tk P ty0 = some (true, n)) (hy : evO e y = some (.c (.ptr h ver i 0))) (ho : obj H h ver = some (z, xs.map f)) (hi : xs[i]? = some x) (hs : (f x).length = n) (hr : TextR P N Γ0 A os ((t, .agg (f x)) :: e) H K) : TextR P N Γ0 A (⟨some t, .load ty0 y, ty, pos, after, none⟩ :: os) e H K :=
  .loadN ht  hy (by simp [ldN, ho, hi, seg, ← hs]) hr
theorem TextR.load1O {α : Type} {ty0 n i k h ver z : Nat} {y : Operand} {xs : List α} {x : α} {f : α → List Leaf} {l : Leaf} (ht : tk P ty0 = some (false, n)) (hy : evO e y = some (.c (.ptr h ver i k))) (ho : obj H h ver = some (z, xs.map f)) (hi : xs[i]? = some x) (hs : (f x)[k]? = some l) (hr : TextR P N Γ0 A os ((t, .c l) :: e) H K) : TextR P N Γ0 A (⟨some t, .load ty0 y, ty, pos, after, none⟩ :: os) e H K :=
  .load1 ht  hy (by simp [ld1, ho, hi, hs]) hr
theorem TextR.storeO {α : Type} {ty0 : TypeId} {y x0 : Operand} {v : AVal} {h ver n z i k : Nat} {g : Bool} {cs : List Leaf} {xs : List α} {x : α} {f : α → List Leaf} (x' : α) (ht : tk P ty0 = some (g, n)) (hy : evO e y = some (.c (.ptr h ver i k))) (hx : evO e x0 = some v) (hc : v.cells = some cs) (ho : obj H h ver = some (z, xs.map f)) (hn : cs.length = n) (hi : xs[i]? = some x) (hrl : Nat.ble (k + n) (f x).length = true) (hp : putSeg (f x) k cs = f x') (hs : SetAt (.live ver z ((xs.set i x').map f)) H h H1) (hr : TextR P N Γ0 A os e H1 K) : TextR P N Γ0 A (⟨none, .store ty0 y x0, ty, pos, after, none⟩ :: os) e H K :=
  .storeE ht  hy hx hc ho hn (by rw [List.getElem?_map, hi]; rfl) (Nat.le_of_ble_eq_true hrl) (map_set_eq hp) hs hr
end
end Go.Nx
/- A region of which the first part is reckoned ahead. -/
namespace Go.Nx
set_option linter.unusedVariables false
set_option linter.unusedSimpArgs false
section
variable {P : Program} {N : Nat} {Γ0 : Ctx} {A os l : List Oper} {e : Env} {H : List Ob} {K : Env → List Ob → Prop}
theorem get_shadow {e : Env} {t : Nat} {x : AVal} (h : e.get t = some x) : ∀ s z, Env.get ((t, x) :: e) s = some z → e.get s = some z := by
  intro s z hz
  simp only [Env.get] at hz
  split at hz
  · rename_i he
    subst he
    cases hz
    exact h
  · exact hz

theorem TextR.byBool {v : Bool} (t : Nat) (hv : e.get t = some (.c (B v))) (h1 : v = true → TextR P N Γ0 A l ((t, .c (B true)) :: e) H K) (h0 : v = false → TextR P N Γ0 A l ((t, .c (B false)) :: e) H K) : TextR P N Γ0 A l e H K := by
  cases v with
  | true => exact .weak (fun a w hs => by
      obtain ⟨d, s, Γ, hw, hext, hok, henv⟩ := hs
      exact ⟨d, s, Γ, hw, hext, hok, fun t' x hx => henv t' x (get_shadow hv t' x hx)⟩) (h1 rfl)
  | false => exact .weak (fun a w hs => by
      obtain ⟨d, s, Γ, hw, hext, hok, henv⟩ := hs
      exact ⟨d, s, Γ, hw, hext, hok, fun t' x hx => henv t' x (get_shadow hv t' x hx)⟩) (h0 rfl)
end

/-- Every leaf said in other words. -/
theorem map_sat {g : Leaf → Leaf} (hg : ∀ Γ l y, conc Γ l y → conc Γ (g l) y) {N : Nat} {Γ0 : Ctx} {e : Env} {H : List Ob} {a : Act} {w : World} (hs : Sat N Γ0 ⟨e, H⟩ a w) : Sat N Γ0 ⟨mpE g e, H.map (mpO g)⟩ a w := by
  obtain ⟨d, s, Γ, rfl, hext, hok, henv⟩ := hs
  refine ⟨d, s, Γ, rfl, hext, ⟨by simp [hok.len], fun n o hn => ?_, fun n n' v v' z1 z2 r r' i1 i2 b h1 h2 h3 h4 h5 h6 => ?_, hok.F, hok.X⟩, fun t x hx => ?_⟩
  · rw [List.getElem?_map] at hn
    simp only [Option.map_eq_some_iff] at hn
    obtain ⟨o', h1, rfl⟩ := hn
    exact ObOk.mp (Γ := Γ) (Γ' := Γ) rfl (hg Γ) (fun _ _ _ _ => rfl) (fun v z' r i b e1 e2 e3 e4 e5 => ⟨e5, e4⟩) (hok.ob n o' h1)
  · rw [List.getElem?_map] at h1 h2
    simp only [Option.map_eq_some_iff] at h1 h2
    obtain ⟨o1, g1, e1⟩ := h1
    obtain ⟨o2, g2, e2⟩ := h2
    obtain ⟨q1, rfl⟩ := mpO_live e1
    obtain ⟨q2, rfl⟩ := mpO_live e2
    exact hok.apart n n' v v' z1 z2 q1 q2 i1 i2 b g1 g2 h3 h4 h5 h6
  · obtain ⟨x', h1, rfl⟩ := mpE_get hx
    obtain ⟨y, h2, h3⟩ := henv t x' h1
    exact ⟨y, h2, concV_mp (hg Γ) _ _ h3⟩

/-- Whether a slice is nil is forgotten. -/
def nzL : Leaf → Leaf
  | .v (.slice none 0 0) => .slv []
  | .slq r => .slv r
  | l => l
theorem nzL_sound (Γ : Ctx) (l : Leaf) (y : Value) (h : conc Γ l y) : conc Γ (nzL l) y := by
  unfold nzL
  split
  · exact conc_nil_slv h
  · exact conc_slq_slv h
  · exact h
theorem slv_sat {N : Nat} {Γ0 : Ctx} {e : Env} {H : List Ob} {a : Act} {w : World} (hs : Sat N Γ0 ⟨e, H⟩ a w) : Sat N Γ0 ⟨mpE nzL e, H.map (mpO nzL)⟩ a w := map_sat nzL_sound hs

section
variable {h ver : Nat} {rows : List (List Leaf)}
end
end Go.Nx
/- A region of which two operations may go either way: both ways. -/
namespace Go.Nx
set_option linter.unusedVariables false
set_option linter.unusedSimpArgs false

def re (o : Oper) (after : Array Edge) (guard : Option (Nat × Bool)) : Oper := ⟨o.dst, o.op, o.type, o.pos, after, guard⟩
def noOper : Oper := ⟨none, .move (.const (.bool true)), 0, "", #[], none⟩
def idx (ps : List Nat) (k : Nat) : Nat := ps.idxOf k
/-- An operation in another row, and one edge more: of 'x' on 'y'. -/
def reAt (l : List Oper) (ps : List Nat) (x y k : Nat) : Oper :=
  re (l.getD k noOper) ((l.getD k noOper).after.toList.map (fun e => (⟨idx ps e.on, e.ground⟩ : Edge)) ++ (if k = x then [(⟨idx ps y, .data⟩ : Edge)] else [])).toArray ((l.getD k noOper).guard.map fun jb => (idx ps jb.1, jb.2))
def rerow (l : List Oper) (ps : List Nat) (x y : Nat) : List Oper := ps.map (reAt l ps x y)
def rowOk (l : List Oper) (ps : List Nat) (y : Nat) : Bool :=
  Nat.beq ps.length l.length && (List.range l.length).all (fun k => Nat.beq (idx ps (ps.getD k 0)) k && Nat.beq (ps.getD (idx ps k) 0) k && Nat.blt (ps.getD k 0) l.length && Nat.blt (idx ps k) l.length) &&
    l.all (fun o => o.after.toList.all (fun e => Nat.blt e.on l.length) && (match o.guard with | some (j, _) => Nat.blt j l.length | none => true)) && Nat.blt y l.length

structure RowOk (l : List Oper) (ps : List Nat) (y : Nat) : Prop where
  len : ps.length = l.length
  inv1 : ∀ k, k < l.length → idx ps (ps.getD k 0) = k
  inv2 : ∀ k, k < l.length → ps.getD (idx ps k) 0 = k
  lt1 : ∀ k, k < l.length → ps.getD k 0 < l.length
  lt2 : ∀ k, k < l.length → idx ps k < l.length
  edge : ∀ o ∈ l, ∀ e ∈ o.after, e.on < l.length
  guard : ∀ o ∈ l, ∀ j b, o.guard = some (j, b) → j < l.length
  y : y < l.length

/-- What a row's marks say of another row's. -/
def Match (ps : List Nat) (n : Nat) (listed listed' : Array Bool) : Prop :=
  listed.size = n ∧ listed'.size = n ∧ ∀ i, i < n → listed'.getD i false = listed.getD (ps.getD i 0) false

theorem Match.set {ps : List Nat} {l : List Oper} {y : Nat} (hr : RowOk l ps y) {listed listed' : Array Bool} (h : Match ps l.length listed listed') {i : Nat} (hi : i < l.length) : Match ps l.length (listed.setIfInBounds (ps.getD i 0) true) (listed'.setIfInBounds i true) := by
  refine ⟨by simp [h.1], by simp [h.2.1], fun j hj => ?_⟩
  have h3 := h.2.2 j hj
  have hlj := hr.lt1 j hj
  have e1 : (listed'.setIfInBounds i true).getD j false = if i = j then true else listed'.getD j false := by
    simp only [Array.getD_eq_getD_getElem?, Array.getElem?_setIfInBounds]
    by_cases hij : i = j
    · subst hij; simp [h.2.1, hi]
    · simp [hij]
  have e2 : (listed.setIfInBounds (ps.getD i 0) true).getD (ps.getD j 0) false = if ps.getD i 0 = ps.getD j 0 then true else listed.getD (ps.getD j 0) false := by
    simp only [Array.getD_eq_getD_getElem?, Array.getElem?_setIfInBounds]
    by_cases hij : ps.getD i 0 = ps.getD j 0
    · rw [if_pos hij, if_pos hij, hij, h.1, if_pos hlj]; rfl
    · rw [if_neg hij, if_neg hij]
  rw [e1, e2, h3]
  by_cases hij : i = j
  · subst hij; simp
  · have : ps.getD i 0 ≠ ps.getD j 0 := fun he => hij (by rw [← hr.inv1 i hi, he, hr.inv1 j hj])
    rw [if_neg hij, if_neg this]

def rngL (l : List Oper) : List Nat := List.range l.length
def swpL (l : List Oper) (n1 : Nat) : List Nat := (List.range l.length).map fun k => if k = n1 then n1 + 1 else if k = n1 + 1 then n1 else k
abbrev rowA (l : List Oper) (n1 : Nat) : List Oper := rerow l (rngL l) (n1 + 1) n1
abbrev rowB (l : List Oper) (n1 : Nat) : List Oper := rerow l (swpL l n1) n1 (n1 + 1)
def forkOk (ow : List FuncId) (l : List Oper) (n1 : Nat) (gsA gsB : List (List (Nat × Bool))) (exA exB : List Bool) (live : List Nat) (n : Nat) : Bool :=
  rowOk l (rngL l) n1 && rowOk l (swpL l n1) (n1 + 1) && (chk ow (rowA l n1) gsA exA true n && liveOk (rowA l n1) gsA live) && (chk ow (rowB l n1) gsB exB true n && liveOk (rowB l n1) gsB live) &&
    (match (rowA l n1)[n1]? with | some o => fixedO ow o.op | none => false) && (match (rowB l n1)[n1]? with | some o => fixedO ow o.op | none => false) &&
    ((List.range l.length).all fun k => Nat.ble k (n1 + 1) || anc (masks (rowA l n1) []) n1 k) && (gsA.take n1 == gsB.take n1) && (exA.take n1 == exB.take n1)

end Go.Nx
/- Both ways to one end; two new objects, one named for the other. -/
namespace Go.Nx
set_option linter.unusedVariables false
set_option linter.unusedSimpArgs false

def swapAt {α : Type} : Nat → List α → List α
  | 0, a :: b :: r => b :: a :: r
  | n + 1, a :: r => a :: swapAt n r
  | _, l => l
def keyO (o : Oper) : Option Nat × Op := (o.dst, o.op)
theorem obj_of {H : List Ob} {h ver z : Nat} {rows : List (List Leaf)} (ho : H[h]? = some (.live ver z rows)) : obj H h ver = some (z, rows) := by simp [obj, ho]
theorem SpecR.congr {P : Program} {W : Option WW} {l : List Oper} {gs : List (List (Nat × Bool))} {ex : List Bool} {e e' : Env} {H H' : List Ob} (h : SpecR P W l gs ex e H e' H') : ∀ {l' : List Oper}, l'.map keyO = l.map keyO → SpecR P W l' gs ex e H e' H' := by
  induction h with
  | nil =>
    intro l' hl
    simp at hl
    subst hl
    exact .nil
  | @cons o os gs ex e H b x H1 e' H' hs hr ih =>
    intro l' hl
    cases l' with
    | nil => simp at hl
    | cons o' os' =>
      simp only [List.map_cons, List.cons.injEq, keyO, Prod.mk.injEq] at hl
      obtain ⟨⟨h1, h2⟩, h3⟩ := hl
      refine .cons (b := b) (x := x) (H1 := H1) ?_ (by rw [h1]; exact ih h3)
      unfold StepR at hs ⊢
      rw [h2]
      exact hs
theorem RunR.congr {P : Program} {W : Option WW} {l l' : List Oper} {gs : List (List (Nat × Bool))} {ex : List Bool} {e : Env} {H : List Ob} {K : Env → List Ob → Prop} (hl : l'.map keyO = l.map keyO) (h : RunR P W l gs ex e H K) : RunR P W l' gs ex e H K := by
  obtain ⟨e', H', h1, h2⟩ := h
  exact ⟨e', H', h1.congr hl, h2⟩

def swN (n h : Nat) : Nat := if h = n then n + 1 else if h = n + 1 then n else h
def swL (n : Nat) : Leaf → Leaf
  | .ptr h ver i k => .ptr (swN n h) ver i k
  | .sl h ver lo len => .sl (swN n h) ver lo len
  | l => l
end Go.Nx
/- Rules for walks that go along a model: what the model says is carried as 'h : model = some r'. -/
namespace Go.Nx
set_option linter.unusedVariables false
set_option linter.unusedSimpArgs false

/-! Words of the models. -/
abbrev w64 (n : Int) : Int := IntKind.i64.wrap n
def at? {α : Type} (xs : List α) (i : Int) : Option α := if 0 ≤ i then xs[i.toNat]? else none
def set? {α : Type} (xs : List α) (i : Int) (x : α) : List α := xs.set i.toNat x
def sub? {α : Type} (xs : List α) (lo hi : Int) : Option (List α) := if 0 ≤ lo ∧ lo ≤ hi ∧ hi ≤ (xs.length : Int) then some ((xs.take hi.toNat).drop lo.toNat) else none
def app? {α : Type} (xs ys : List α) : Option (List α) := if xs.length + ys.length ≤ 10000000000 then some (xs ++ ys) else none
def mk? {α : Type} (n : Int) (z : α) : Option (List α) := if 0 ≤ n ∧ n ≤ 10000000000 then some (List.replicate n.toNat z) else none

theorem bind_some {α β : Type} {o : Option α} {f : α → Option β} {r : β} (h : Option.bind o f = some r) : ∃ x, o = some x ∧ f x = some r := by
  cases o with
  | none => cases h
  | some x => exact ⟨x, rfl, h⟩
theorem at_get {α : Type} {xs : List α} {i : Int} {x : α} (h : at? xs i = some x) : xs[i.toNat]? = some x := by
  unfold at? at h
  split at h
  · exact h
  · cases h
theorem at_pos {α : Type} {xs : List α} {i : Int} {x : α} (h : at? xs i = some x) : 0 ≤ i := by
  unfold at? at h
  split at h
  · assumption
  · cases h
theorem ifT {α : Type} {g : Bool} {b : Bool} {o : Option α} {d x : α} (h : (if g = true then o else some d) = some x) (hg : b = true → g = true) : b = true → o = some x := fun hb => by
  rw [if_pos (hg hb)] at h
  exact h
theorem ifAt {α : Type} {g : Bool} {b : Bool} {xs : List α} {i : Int} {d x : α} (h : (if g = true then at? xs i else some d) = some x) (hg : b = true → g = true) : b = true → xs[i.toNat]? = some x := fun hb => at_get (ifT h hg hb)
theorem ifPos {α : Type} {g : Bool} {b : Bool} {xs : List α} {i : Int} {d x : α} (h : (if g = true then at? xs i else some d) = some x) (hg : b = true → g = true) : b = true → 0 ≤ i := fun hb => at_pos (ifT h hg hb)
/-- The innermost guard. -/
theorem gT {v c : Bool} : ((v == true) && c) = true → v = true := by cases v <;> simp
theorem gF {v c : Bool} : ((v == false) && c) = true → (!v) = true := by cases v <;> simp

section
variable {F : Fr} {Q : Exit → St → Prop} {S : St}

theorem Wp.condM {α : Type} {t : Nat} {x y : Code} {b : Bool} {A B : Option α} {r : α} (h : (if b = true then A else B) = some r) (hb : S.env.get t = some (.c (.v (.bool b)))) (ht : b = true → A = some r → Wp F x Q S) (hf : b = false → B = some r → Wp F y Q S) : Wp F (.cond (.tmp t) x y) Q S :=
  .cond hb (fun hc => ht hc (by rw [if_pos hc] at h; exact h)) (fun hc => hf hc (by rw [if_neg (by simp [hc])] at h; exact h))
abbrev Exit.frN (I : St → Prop) : Exit → St → Prop
  | .normal, S => I S
  | _, _ => False
abbrev Exit.frR (I J : St → Prop) : Exit → St → Prop
  | .normal, S => I S
  | .ret, S => J S
  | _, _ => False
abbrev Exit.frX (I J : St → Prop) (X : Nat → St → Prop) : Exit → St → Prop
  | .normal, S => I S
  | .ret, S => J S
  | .exit k, S => X k S
  | _, _ => False
/-- A piece after which one goes on behind it. -/
theorem Wp.fragN {c : Code} (I : St → Prop) (h1 : Wp F c (Exit.frN I) S) (h2 : ∀ S', I S' → Q .normal S') : Wp F c Q S :=
  .mono h1 fun e S' h => by cases e <;> first | exact h2 _ h | exact h.elim
/-- A piece after which one goes on, or has done. -/
theorem Wp.fragR {c : Code} (I J : St → Prop) (h1 : Wp F c (Exit.frR I J) S) (h2 : ∀ S', I S' → Q .normal S') (h3 : ∀ S', J S' → Q .ret S') : Wp F c Q S :=
  .mono h1 fun e S' h => by cases e <;> first | exact h2 _ h | exact h3 _ h | exact h.elim
end

section
variable {P : Program} {W : Option WW} {os : List Oper} {gs : List (List (Nat × Bool))} {ex : List Bool} {e : Env} {H H1 : List Ob} {ty : TypeId} {pos : String} {after : Array Edge} {guard : Option (Nat × Bool)} {b : Bool} {t : Nat} {K : Env → List Ob → Prop}

/-- What need be right only where it is wanted. -/
theorem RunR.mobG {op : Op} {x : AVal} (hf : fixed op = false) (hc : isCall op = false) (ha : actE e (gs.headD []) = some b) (hw : wOk W (ex.headD false) e H op = true) (hs : b = true → stp P e H op = some (x, H)) (hr : RunR P W os gs.tail ex.tail ((t, x) :: e) H K) : RunR P W (⟨some t, op, ty, pos, after, guard⟩ :: os) gs ex e H K := by
  obtain ⟨e', H', h1, h2⟩ := hr
  refine ⟨e', H', .cons (b := b) (x := x) (H1 := H) ⟨ha, ?_⟩ h1, h2⟩
  cases b with
  | false => exact .inl ⟨rfl, rfl⟩
  | true => exact .inr (.inr (.inl ⟨hc, hw, by simp [gE, hs rfl]⟩))

theorem RunR.indexA {α : Type} {ts : TypeId} {y z : Operand} {el size : Nat} {rest : Nat × List Leaf} {l : Leaf} {k : IntKind} {n : Int} {xs : List α} {x : α} {f : α → List Leaf} (ht : se P ts = some (el, size, rest)) (ha : actE e (gs.headD []) = some b) (hw : wOk W (ex.headD false) e H (.indexAddr ts y z) = true) (hy : evO e y = some (.c l)) (hz : evO e z = some (.c (.v (.int k n))))
    (hl : asF l = some (xs.map f)) (hi : at? xs n = some x) (hs : (f x).length = size)
    (hr : RunR P W os gs.tail ex.tail ((t, .c (.fptr (xs.map f) n.toNat 0)) :: e) H K) : RunR P W (⟨some t, .indexAddr ts y z, ty, pos, after, guard⟩ :: os) gs ex e H K :=
  .indexF ht ha hw hy hz hl (at_pos hi) (by simp [at_get hi]) hs hr

theorem stp_indexF {ts : TypeId} {y z : Operand} {el size : Nat} {rest : Nat × List Leaf} {l : Leaf} {k : IntKind} {n : Int} {rows : List (List Leaf)} {r : List Leaf} (ht : se P ts = some (el, size, rest)) (hy : evO e y = some (.c l)) (hz : evO e z = some (.c (.v (.int k n))))
    (hl : asF l = some rows) (hn : 0 ≤ n) (hi : rows[n.toNat]? = some r) (hs : r.length = size) : stp P e H (.indexAddr ts y z) = some (.c (.fptr rows n.toNat 0), H) := by
  have hlt : n.toNat < rows.length := (List.getElem?_eq_some_iff.1 hi).1
  have hb : 0 ≤ n ∧ n < (rows.length : Int) := ⟨hn, by omega⟩
  have hv : view H l = some rows ∧ indexAddrV P H ts l n = (match se P ts, view H l with
    | some (_, size, _), some rows => if 0 ≤ n ∧ n < rows.length then match rows[n.toNat]? with
        | some r => if r.length = size then some (.fptr rows n.toNat 0) else none
        | none => none
      else none
    | _, _ => none) := by
    cases l <;> simp [asF] at hl <;> subst hl <;> exact ⟨rfl, rfl⟩
  simp only [stp, hy, hz, hv.2, hv.1, ht]
  rw [if_pos hb]
  simp only [hi]
  rw [if_pos hs]
  rfl

theorem RunR.indexAG {α : Type} {ts : TypeId} {y z : Operand} {el size : Nat} {rest : Nat × List Leaf} {l : Leaf} {k : IntKind} {n : Int} {xs : List α} {x : α} {f : α → List Leaf} (ht : se P ts = some (el, size, rest)) (ha : actE e (gs.headD []) = some b) (hw : wOk W (ex.headD false) e H (.indexAddr ts y z) = true) (hy : evO e y = some (.c l)) (hz : evO e z = some (.c (.v (.int k n))))
    (hl : asF l = some (xs.map f)) (h0 : b = true → 0 ≤ n) (hi : b = true → xs[n.toNat]? = some x) (hs : (f x).length = size)
    (hr : RunR P W os gs.tail ex.tail ((t, .c (.fptr (xs.map f) n.toNat 0)) :: e) H K) : RunR P W (⟨some t, .indexAddr ts y z, ty, pos, after, guard⟩ :: os) gs ex e H K :=
  .mobG rfl rfl ha hw (fun hb => stp_indexF ht hy hz hl (h0 hb) (by simp [hi hb]) hs) hr
theorem RunR.loadNG {α : Type} {ty0 n i : Nat} {y : Operand} {xs : List α} {x : α} {f : α → List Leaf} (ht : tk P ty0 = some (true, n)) (ha : actE e (gs.headD []) = some b) (hw : wOk W (ex.headD false) e H (.load ty0 y) = true) (hy : evO e y = some (.c (.fptr (xs.map f) i 0))) (hi : b = true → xs[i]? = some x) (hs : (f x).length = n)
    (hr : RunR P W os gs.tail ex.tail ((t, .agg (f x)) :: e) H K) : RunR P W (⟨some t, .load ty0 y, ty, pos, after, guard⟩ :: os) gs ex e H K :=
  .mobG rfl rfl ha hw (fun hb => by simp [stp, ht, hy, ldN, hi hb, seg, ← hs]) hr
theorem RunR.load1G {α : Type} {ty0 n i k : Nat} {y : Operand} {xs : List α} {x : α} {f : α → List Leaf} {l : Leaf} (ht : tk P ty0 = some (false, n)) (ha : actE e (gs.headD []) = some b) (hw : wOk W (ex.headD false) e H (.load ty0 y) = true) (hy : evO e y = some (.c (.fptr (xs.map f) i k))) (hi : b = true → xs[i]? = some x) (hs : (f x)[k]? = some l)
    (hr : RunR P W os gs.tail ex.tail ((t, .c l) :: e) H K) : RunR P W (⟨some t, .load ty0 y, ty, pos, after, guard⟩ :: os) gs ex e H K :=
  .mobG rfl rfl ha hw (fun hb => by simp [stp, ht, hy, ld1, hi hb, hs]) hr
/-! An own array, whole or in part. -/
theorem stp_indexO {ts : TypeId} {y z : Operand} {el size h ver lo len : Nat} {rest : Nat × List Leaf} {k : IntKind} {n : Int} {rows : List (List Leaf)} (ht : se P ts = some (el, size, rest)) (hy : evO e y = some (.c (.sl h ver lo len))) (hz : evO e z = some (.c (.v (.int k n))))
    (ho : obj H h ver = some (size, rows)) (h0 : 0 ≤ n) (hl : n < (len : Int)) (hr : lo + len ≤ rows.length) : stp P e H (.indexAddr ts y z) = some (.c (.ptr h ver (lo + n.toNat) 0), H) := by
  have hb : 0 ≤ n ∧ n < (len : Int) ∧ True ∧ lo + n.toNat < rows.length := ⟨h0, hl, trivial, by omega⟩
  simp only [stp, hy, hz, indexAddrV, ht, ho]
  rw [if_pos hb]
  simp
theorem RunR.indexOA {α : Type} {ts : TypeId} {y z : Operand} {el size h ver : Nat} {rest : Nat × List Leaf} {k : IntKind} {n : Int} {xs : List α} {x : α} {f : α → List Leaf} (ht : se P ts = some (el, size, rest)) (ha : actE e (gs.headD []) = some b) (hw : wOk W (ex.headD false) e H (.indexAddr ts y z) = true) (hy : evO e y = some (.c (.sl h ver 0 xs.length))) (hz : evO e z = some (.c (.v (.int k n))))
    (ho : obj H h ver = some (size, xs.map f)) (hi : at? xs n = some x)
    (hr : RunR P W os gs.tail ex.tail ((t, .c (.ptr h ver n.toNat 0)) :: e) H K) : RunR P W (⟨some t, .indexAddr ts y z, ty, pos, after, guard⟩ :: os) gs ex e H K :=
  .mob rfl rfl ha hw (by
    have h0 := at_pos hi
    have h1 := (List.getElem?_eq_some_iff.1 (at_get hi)).1
    have := stp_indexO (H := H) ht hy hz ho h0 (by omega) (by simp)
    simpa using this) hr
theorem sub_len {α : Type} {xs ys : List α} {lo hi : Int} (h : sub? xs lo hi = some ys) : 0 ≤ lo ∧ lo ≤ hi ∧ hi ≤ (xs.length : Int) ∧ (xs.take hi.toNat).drop lo.toNat = ys := by
  unfold sub? at h
  split at h
  · rename_i hc
    cases h
    exact ⟨hc.1, hc.2.1, hc.2.2, rfl⟩
  · cases h
/-- A new array of equal elements. -/
theorem RunR.makeM {α : Type} {ty0 : TypeId} {size by' : Nat} {n : Int} {el : TypeId} {l c : Operand} {k k' : IntKind} {z : List Leaf} {x : α} {xs : List α} {f : α → List Leaf} (h : Nat) (hz : se P ty0 = some (el, size, by', z)) (ha : actE e (gs.headD []) = some true) (hw : wOk W (ex.headD false) e H (.makeSlice ty0 l c) = true) (hh : H.length = h)
    (hl : evO e l = some (.c (.v (.int k n)))) (hc : evO e c = some (.c (.v (.int k' n)))) (hsz : (Nat.blt 0 size && Nat.ble by' 10000 && (z.length == size)) = true) (hx : mk? n x = some xs) (hf : f x = z)
    (hs : Snoc (.live 0 size (xs.map f)) H H1) (hr : RunR P W os gs.tail ex.tail ((t, .c (.sl h 0 0 xs.length)) :: e) H1 K) : RunR P W (⟨some t, .makeSlice ty0 l c, ty, pos, after, guard⟩ :: os) gs ex e H K :=
  .fix rfl ha hw (d := some t) (x := .c (.sl h 0 0 xs.length)) (H1 := H1) (by
    unfold mk? at hx
    split at hx
    · rename_i hb
      cases hx
      simp only [Bool.and_eq_true, Nat.blt_eq, Nat.ble_eq, beq_iff_eq] at hsz
      have h2 : (by' : Int) * n ≤ 281474976710656 := by
        have h3 : (by' : Int) * n ≤ 10000 * 10000000000 := Int.mul_le_mul (by omega) hb.2 hb.1 (by decide)
        omega
      have h4 : n ≤ (maxLen : Int) := Int.le_trans hb.2 (by decide)
      have h5 : 0 < size ∧ z.length = size ∧ 0 ≤ n ∧ True ∧ (by' : Int) * n ≤ 281474976710656 ∧ n ≤ (maxLen : Int) := ⟨hsz.1.1, hsz.2, hb.1, trivial, h2, h4⟩
      have h6 : n ≤ ((maxLen : Nat) : Int) := h4
      simp only [stp, hz, hl, hc]
      rw [if_pos h5, ← hs.eq, hh]
      simp [hf]
    · cases hx) hr
end
end Go.Nx
/- The rules of the operations, for a region in the text's order. -/
namespace Go.Nx
set_option linter.unusedVariables false
set_option linter.unusedSimpArgs false
section
variable {P : Program} {N : Nat} {Γ0 : Ctx} {A os : List Oper} {e : Env} {H H1 : List Ob} {ty : TypeId} {pos : String} {after : Array Edge} {t : Nat} {K : Env → List Ob → Prop}
theorem TextR.indexA {α : Type} {ts : TypeId} {y z : Operand} {el size : Nat} {rest : Nat × List Leaf} {l : Leaf} {k : IntKind} {n : Int} {xs : List α} {x : α} {f : α → List Leaf} (ht : se P ts = some (el, size, rest)) (hy : evO e y = some (.c l)) (hz : evO e z = some (.c (.v (.int k n)))) (hl : asF l = some (xs.map f)) (hi : at? xs n = some x) (hs : (f x).length = size) (hr : TextR P N Γ0 A os ((t, .c (.fptr (xs.map f) n.toNat 0)) :: e) H K) : TextR P N Γ0 A (⟨some t, .indexAddr ts y z, ty, pos, after, none⟩ :: os) e H K :=
  .indexF ht  hy hz hl (at_pos hi) (by simp [at_get hi]) hs hr
theorem TextR.indexOA {α : Type} {ts : TypeId} {y z : Operand} {el size h ver : Nat} {rest : Nat × List Leaf} {k : IntKind} {n : Int} {xs : List α} {x : α} {f : α → List Leaf} (ht : se P ts = some (el, size, rest)) (hy : evO e y = some (.c (.sl h ver 0 xs.length))) (hz : evO e z = some (.c (.v (.int k n)))) (ho : obj H h ver = some (size, xs.map f)) (hi : at? xs n = some x) (hr : TextR P N Γ0 A os ((t, .c (.ptr h ver n.toNat 0)) :: e) H K) : TextR P N Γ0 A (⟨some t, .indexAddr ts y z, ty, pos, after, none⟩ :: os) e H K :=
  .op (by
    have h0 := at_pos hi
    have h1 := (List.getElem?_eq_some_iff.1 (at_get hi)).1
    have := stp_indexO (H := H) ht hy hz ho h0 (by omega) (by simp)
    simpa using this) hr
theorem TextR.makeM {α : Type} {ty0 : TypeId} {size by' : Nat} {n : Int} {el : TypeId} {l c : Operand} {k k' : IntKind} {z : List Leaf} {x : α} {xs : List α} {f : α → List Leaf} (h : Nat) (hz : se P ty0 = some (el, size, by', z)) (hh : H.length = h) (hl : evO e l = some (.c (.v (.int k n)))) (hc : evO e c = some (.c (.v (.int k' n)))) (hsz : (Nat.blt 0 size && Nat.ble by' 10000 && (z.length == size)) = true) (hx : mk? n x = some xs) (hf : f x = z) (hs : Snoc (.live 0 size (xs.map f)) H H1) (hr : TextR P N Γ0 A os ((t, .c (.sl h 0 0 xs.length)) :: e) H1 K) : TextR P N Γ0 A (⟨some t, .makeSlice ty0 l c, ty, pos, after, none⟩ :: os) e H K :=
  .op (d := some t) (x := .c (.sl h 0 0 xs.length)) (H1 := H1) (by
    unfold mk? at hx
    split at hx
    · rename_i hb
      cases hx
      simp only [Bool.and_eq_true, Nat.blt_eq, Nat.ble_eq, beq_iff_eq] at hsz
      have h2 : (by' : Int) * n ≤ 281474976710656 := by
        have h3 : (by' : Int) * n ≤ 10000 * 10000000000 := Int.mul_le_mul (by omega) hb.2 hb.1 (by decide)
        omega
      have h4 : n ≤ (maxLen : Int) := Int.le_trans hb.2 (by decide)
      have h5 : 0 < size ∧ z.length = size ∧ 0 ≤ n ∧ True ∧ (by' : Int) * n ≤ 281474976710656 ∧ n ≤ (maxLen : Int) := ⟨hsz.1.1, hsz.2, hb.1, trivial, h2, h4⟩
      have h6 : n ≤ ((maxLen : Nat) : Int) := h4
      simp only [stp, hz, hl, hc]
      rw [if_pos h5, ← hs.eq, hh]
      simp [hf]
    · cases hx) hr
end
end Go.Nx
/- What is known, said in other words: fewer slots, fewer objects, other numbers; appends that a model carries. -/
namespace Go.Nx
set_option linter.unusedVariables false
set_option linter.unusedSimpArgs false

theorem keepW {F : Fr} {e r : Env} {H : List Ob} {live : List Nat} (h : Keeps e live r) : St.Weak F ⟨e, H⟩ ⟨r, H⟩ := fun a w hs => sat_sub h.get hs

/-! Objects picked out, in any row. -/
def rn0 (τ : List Nat) : Leaf → Leaf
  | .ptr h ver i k => .ptr (τ.getD h 0) ver i k
  | .sl h ver lo len => .sl (τ.getD h 0) ver lo len
  | l => l
def rnL (τ : List Nat) : Leaf → Leaf
  | .clo f caps => .clo f (caps.map (rn0 τ))
  | l => rn0 τ l
def ok0 (σ τ : List Nat) : Leaf → Bool
  | .ptr h _ _ _ => σ[τ.getD h 0]? == some h
  | .sl h _ _ _ => σ[τ.getD h 0]? == some h
  | .clo _ caps => hfAll caps
  | .slv rows => hfRows rows
  | .slq rows => hfRows rows
  | .fptr rows _ _ => hfRows rows
  | .v _ => true
def okL (σ τ : List Nat) : Leaf → Bool
  | .clo _ caps => caps.all (ok0 σ τ)
  | l => ok0 σ τ l
def okV (σ τ : List Nat) : AVal → Bool
  | .c l => okL σ τ l
  | .agg cs => cs.all (okL σ τ)
  | .tup _ => false
def okO (σ τ : List Nat) : Ob → Bool
  | .live _ _ rows => rows.all fun r => r.all (okL σ τ)
  | .dead => true

theorem pickW {F : Fr} {e : Env} {H : List Ob} (σ τ : List Nat) (n0 : Nat) (hn0 : F.Γ.hs.length = n0) (h0 : ((List.range n0).all fun h => σ[h]? == some h) = true) (hin : (σ.all fun h => Nat.blt h H.length) = true) (hnd : σ.Nodup)
    (he : (e.all fun p => okV σ τ p.2) = true) (hH : (σ.all fun h => okO σ τ (H.getD h .dead)) = true) : St.Weak F ⟨e, H⟩ ⟨mpE (rnL τ) e, σ.map fun h => mpO (rnL τ) (H.getD h .dead)⟩ := by
  intro a w hs
  obtain ⟨d, s, Γ, rfl, hext, hok, henv⟩ := hs
  have hln := hok.len
  simp only at hln
  rw [List.all_eq_true] at hin h0 hH
  have hin' : ∀ h ∈ σ, h < H.length := fun h hh => by simpa using hin h hh
  obtain ⟨Γ', hΓ'⟩ : ∃ Γ' : Ctx, Γ' = { w := Γ.w, F := Γ.F, X := Γ.X, hs := σ.map fun h => Γ.hs.getD h (⟨none, 0, 0, 0⟩, 0) } := ⟨_, rfl⟩
  have ew : Γ'.w = Γ.w := by rw [hΓ']
  have eF : Γ'.F = Γ.F := by rw [hΓ']
  have eX : Γ'.X = Γ.X := by rw [hΓ']
  have hh : ∀ (j h : Nat), σ[j]? = some h → Γ'.hs[j]? = Γ.hs[h]? := fun j h hj => by
    rw [hΓ']
    show (σ.map _)[j]? = _
    rw [List.getElem?_map, hj]
    have := hin' h (List.mem_of_getElem? hj)
    simp [List.getD_eq_getElem?_getD, List.getElem?_eq_getElem (l := Γ.hs) (i := h) (by omega)]
  have hcl0 : ∀ (l : Leaf) (y : Value), ok0 σ τ l = true → conc Γ l y → conc Γ' (rn0 τ l) y := by
    intro l y hm hc
    cases l with
    | ptr h ver i k =>
      simp only [ok0, beq_iff_eq] at hm
      simp only [rn0, conc] at hc ⊢
      obtain ⟨inf, ver', p, h1, h2⟩ := hc
      exact ⟨inf, ver', p, by rw [hh _ _ hm]; exact h1, h2⟩
    | sl h ver lo len =>
      simp only [ok0, beq_iff_eq] at hm
      simp only [rn0, conc] at hc ⊢
      obtain ⟨inf, ver', a, cap, h1, h2⟩ := hc
      exact ⟨inf, ver', a, cap, by rw [hh _ _ hm]; exact h1, h2⟩
    | v x => exact conc_hf ew (fun _ h => by rw [eF]; exact h) (.v x) y rfl hc
    | slv rows => exact conc_hf ew (fun _ h => by rw [eF]; exact h) (.slv rows) y (by simpa [hfL, ok0] using hm) hc
    | slq rows => exact conc_hf ew (fun _ h => by rw [eF]; exact h) (.slq rows) y (by simpa [hfL, ok0] using hm) hc
    | fptr rows i k => exact conc_hf ew (fun _ h => by rw [eF]; exact h) (.fptr rows i k) y (by simpa [hfL, ok0] using hm) hc
    | clo f caps => exact conc_hf ew (fun _ h => by rw [eF]; exact h) (.clo f caps) y (by simpa [hfL, ok0] using hm) hc
  have hal0 : ∀ (ls : List Leaf) (ys : List Value), ls.all (ok0 σ τ) = true → concAll Γ ls ys → concAll Γ' (ls.map (rn0 τ)) ys := by
    intro ls
    induction ls with
    | nil => intro ys _ h; simpa [concAll] using h
    | cons l ls ih =>
      intro ys hm h
      simp only [List.all_cons, Bool.and_eq_true] at hm
      simp only [concAll] at h
      obtain ⟨y, ys', rfl, h2, h3⟩ := h
      simp only [List.map_cons, concAll]
      exact ⟨y, ys', rfl, hcl0 _ _ hm.1 h2, ih _ hm.2 h3⟩
  have hcl : ∀ (l : Leaf) (y : Value), okL σ τ l = true → conc Γ l y → conc Γ' (rnL τ l) y := by
    intro l y hm hc
    cases l with
    | clo f caps =>
      simp only [okL] at hm
      simp only [rnL, conc] at hc ⊢
      obtain ⟨ys, h1, h2⟩ := hc
      exact ⟨ys, h1, hal0 _ _ hm h2⟩
    | ptr h ver i k => exact hcl0 (.ptr h ver i k) y hm hc
    | sl h ver lo len => exact hcl0 (.sl h ver lo len) y hm hc
    | v x => exact hcl0 (.v x) y hm hc
    | slv rows => exact hcl0 (.slv rows) y hm hc
    | slq rows => exact hcl0 (.slq rows) y hm hc
    | fptr rows i k => exact hcl0 (.fptr rows i k) y hm hc
  have hal : ∀ (ls : List Leaf) (ys : List Value), ls.all (okL σ τ) = true → concAll Γ ls ys → concAll Γ' (ls.map (rnL τ)) ys := by
    intro ls
    induction ls with
    | nil => intro ys _ h; simpa [concAll] using h
    | cons l ls ih =>
      intro ys hm h
      simp only [List.all_cons, Bool.and_eq_true] at hm
      simp only [concAll] at h
      obtain ⟨y, ys', rfl, h2, h3⟩ := h
      simp only [List.map_cons, concAll]
      exact ⟨y, ys', rfl, hcl _ _ hm.1 h2, ih _ hm.2 h3⟩
  have hrow : ∀ (b off : Nat) (r : List Leaf), r.all (okL σ τ) = true → concRow Γ b off r → concRow Γ' b off (r.map (rnL τ)) := by
    intro b off r
    induction r generalizing off with
    | nil => intro _ _; simp [concRow]
    | cons l ls ih =>
      intro hm h
      simp only [List.all_cons, Bool.and_eq_true] at hm
      simp only [List.map_cons, concRow] at h ⊢
      obtain ⟨⟨y, h1, h2⟩, h3⟩ := h
      exact ⟨⟨y, by rw [ew]; exact h1, hcl _ _ hm.1 h2⟩, ih _ hm.2 h3⟩
  have hrows : ∀ (b sz off : Nat) (rows : List (List Leaf)), (rows.all fun r => r.all (okL σ τ)) = true → concRows Γ b sz off rows → concRows Γ' b sz off (rows.map fun r => r.map (rnL τ)) := by
    intro b sz off rows
    induction rows generalizing off with
    | nil => intro _ _; simp [concRows]
    | cons r rs ih =>
      intro hm h
      simp only [List.all_cons, Bool.and_eq_true] at hm
      simp only [List.map_cons, concRows] at h ⊢
      exact ⟨by simpa using h.1, hrow _ _ _ hm.1 h.2.1, ih _ hm.2 h.2.2⟩
  have hget : ∀ (j : Nat) (o : Ob), (σ.map fun h => mpO (rnL τ) (H.getD h .dead))[j]? = some o → ∃ h o', σ[j]? = some h ∧ H[h]? = some o' ∧ o = mpO (rnL τ) o' ∧ okO σ τ o' = true := fun j o hj => by
    rw [List.getElem?_map] at hj
    cases hσ : σ[j]? with
    | none => rw [hσ] at hj; simp at hj
    | some h =>
      rw [hσ] at hj
      have hlt := hin' h (List.mem_of_getElem? hσ)
      have hok' := hH h (List.mem_of_getElem? hσ)
      have e1 : H.getD h .dead = H[h] := by simp [List.getD_eq_getElem?_getD, List.getElem?_eq_getElem hlt]
      simp only [Option.map_some, Option.some.injEq] at hj
      rw [e1] at hj hok'
      exact ⟨h, _, rfl, List.getElem?_eq_getElem hlt, hj.symm, hok'⟩
  refine ⟨d, s, Γ', ew, ⟨⟨fun b hb => by rw [eF]; exact hext.le.F b hb, fun b hb => by rw [ew]; exact hext.le.mem b hb, fun h inf ver h1 => ?_⟩, by rw [ew]; exact hext.os, by rw [ew]; exact hext.tape, by rw [ew]; exact hext.output, by rw [ew]; exact hext.size, by rw [ew]; exact hext.frame, by rw [eF]; exact hext.Fnew, by rw [eX]; exact hext.Xnew⟩,
    ⟨by rw [hΓ']; simp, fun j o ho => ?_, fun j j' v v' z z' rows rows' inf inf' b h1 h2 h3 h4 h5 h6 => ?_, by rw [eF, ew]; exact hok.F, by rw [eX, ew]; exact hok.X⟩, fun t x hx => ?_⟩
  · have hlt : h < n0 := by
      have := (List.getElem?_eq_some_iff.1 h1).1
      omega
    have hσ : σ[h]? = some h := by simpa using h0 h (by simpa using hlt)
    obtain ⟨inf', ver', g1, g2⟩ := hext.le.hs h inf ver h1
    exact ⟨inf', ver', by rw [hh h h hσ]; exact g1, g2⟩
  · obtain ⟨h, o', hσ, ho', rfl, hmv⟩ := hget j o ho
    have hob := hok.ob h o' ho'
    cases o' with
    | dead => trivial
    | live ver sz rows =>
      obtain ⟨inf, g1, g2, g3⟩ := hob
      refine ⟨inf, by rw [hh j h hσ]; exact g1, g2, ?_⟩
      cases hb : inf.base with
      | none => simp only [hb] at g3 ⊢; subst g3; rfl
      | some b =>
        simp only [hb] at g3 ⊢
        obtain ⟨b1, b2, b3, b4, b5, cells, T, b6, b7, b8⟩ := g3
        exact ⟨b1, by rw [eX]; exact b2, by rw [eF]; exact b3, by simpa using b4, b5, cells, T, by rw [ew]; exact b6, b7, hrows _ _ _ _ (by simpa [okO] using hmv) b8⟩
  · obtain ⟨h, o1, hσ, ho1, e1, _⟩ := hget j _ h1
    obtain ⟨h', o2, hσ', ho2, e2, _⟩ := hget j' _ h2
    obtain ⟨r1, rfl⟩ := mpO_live e1.symm
    obtain ⟨r2, rfl⟩ := mpO_live e2.symm
    rw [hh j h hσ] at h3
    rw [hh j' h' hσ'] at h4
    have heq := hok.apart h h' v v' z z' r1 r2 inf inf' b ho1 ho2 h3 h4 h5 h6
    subst heq
    exact (List.getElem?_inj (List.getElem?_eq_some_iff.1 hσ).1 hnd).1 (hσ.trans hσ'.symm)
  · obtain ⟨z, h1, rfl⟩ := mpE_get hx
    obtain ⟨y, h2, h3⟩ := henv t z h1
    refine ⟨y, h2, ?_⟩
    have hm : okV σ τ z = true := by
      rw [List.all_eq_true] at he
      exact he _ (Env.get_mem h1)
    cases z with
    | c l => simp only [mpV, concV] at h3 ⊢; exact hcl _ _ hm h3
    | agg cs =>
      simp only [mpV, concV] at h3 ⊢
      obtain ⟨ys, g1, g2⟩ := h3
      exact ⟨ys, g1, hal _ _ hm g2⟩
    | tup vs => simp [okV] at hm

/-- An own array that is only read from here on. -/
theorem freezeW {F : Fr} {e e' : Env} {H H' : List Ob} {h ver z : Nat} {rows : List (List Leaf)} (ho : obj H h ver = some (z, rows)) (he : mpE (fzL h ver rows) e = e') (hH : (H.map (mpO (fzL h ver rows))).set h .dead = H') : St.Weak F ⟨e, H⟩ ⟨e', H'⟩ := by
  subst he hH
  exact fun a w hs => freeze_sat ho hs
theorem nzW {F : Fr} {e : Env} {H : List Ob} : St.Weak F ⟨e, H⟩ ⟨mpE nzL e, H.map (mpO nzL)⟩ := fun a w hs => slv_sat hs
theorem nilW {F : Fr} {e : Env} {H H1 : List Ob} {t : Nat} (ver sz : Nat) (h : Nat) (ht : e.get t = some (.c nilS)) (hh : H.length = h) (hsn : Snoc (.live ver sz []) H H1) : St.Weak F ⟨e, H⟩ ⟨(t, .c (.sl h ver 0 0)) :: e, H1⟩ := fun a w hs => nilV_sat ver sz h ht hh hsn hs
theorem nilCellW {F : Fr} {e : Env} {H H1 H2 : List Ob} {g ver z i k : Nat} {rows rows' : List (List Leaf)} {r : List Leaf} (sz : Nat) (h : Nat) (ho : obj H g ver = some (z, rows)) (hr : rows[i]? = some r) (hk : r[k]? = some nilS) (hh : H.length = h)
    (hrows : rows.set i (r.set k (.sl h 0 0 0)) = rows') (hsn : Snoc (.live 0 sz []) H H1) (hset : SetAt (.live ver z rows') H1 g H2) : St.Weak F ⟨e, H⟩ ⟨e, H2⟩ := fun a w hs => nilCell_sat sz h ho hr hk hh hrows hsn hset hs

theorem app_eq {α : Type} {xs ys zs : List α} (h : app? xs ys = some zs) : xs ++ ys = zs := by
  unfold app? at h
  split at h
  · cases h; rfl
  · cases h
theorem app_len {α : Type} {xs ys zs : List α} (h : app? xs ys = some zs) : xs.length + ys.length ≤ 10000000000 := by
  unfold app? at h
  split at h
  · assumption
  · cases h
theorem view_whole {α : Type} {H : List Ob} {h ver z : Nat} {xs : List α} {f : α → List Leaf} (ho : obj H h ver = some (z, xs.map f)) : view H (.sl h ver 0 xs.length) = some (xs.map f) := by
  have : 0 + xs.length ≤ (xs.map f).length := by simp
  simp only [view, ho]
  rw [if_pos this]
  simp [List.take_of_length_le]

section
variable {P : Program} {W : Option WW} {os : List Oper} {gs : List (List (Nat × Bool))} {ex : List Bool} {e : Env} {H H1 : List Ob} {ty : TypeId} {pos : String} {after : Array Edge} {guard : Option (Nat × Bool)} {b : Bool} {t : Nat} {K : Env → List Ob → Prop}

end

/-- What is handed in may be known better than the contract asks. -/
theorem Call.args {P : Program} {f : FuncId} {as as' : List AVal} {H : List Ob} {K : AVal → List Ob → Prop} (hw : ∀ Γ ys, concVs Γ as ys → concVs Γ as' ys) (h : Nx.Call P f as' H K) : Nx.Call P f as H K :=
  ⟨h.1, fun Γ hok args' hc => h.2 Γ hok args' (hw Γ _ hc)⟩
theorem DCall.nz {P : Program} {f : FuncId} {as as' : List AVal} {H : List Ob} {r : AVal} (he : mpVs nzL as = as') (h : DCall P f as' H r) : DCall P f as H r := by
  subst he
  exact Call.args (fun Γ ys hc => concVs_mp (g := nzL) (Γ' := Γ) (fun l y => nzL_sound Γ l y) as ys hc) h

/-- What the call leaves and nobody names falls away. -/
theorem Call.trim {P : Program} {f : FuncId} {args : List AVal} {H : List Ob} {r : AVal} {H1 : List Ob} (hl : H.length ≤ H1.length) (hr : mvV H1.length r = true) (hH : H1.all (mvO H1.length) = true) (h : Nx.Call P f args H fun r' H' => r' = r ∧ ∃ junk, H' = H1 ++ junk) :
    Nx.Call P f args H fun r' H' => r' = r ∧ H' = H1 := by
  refine ⟨h.1, fun Γ hok args' hc => (h.2 Γ hok args' hc).mono fun e w' he => ?_⟩
  obtain ⟨y, r', Γ', H', rfl, ⟨rfl, junk, rfl⟩, rfl, hext, hok', hcv⟩ := he
  obtain ⟨d, sz, Γ1, e1, e2, e3, e4⟩ := drop_sat (N := 1) (Γ0 := Γ) (e := [(0, r')]) (J := junk) (a := { tmps := #[y], defers := [] }) (w := Γ'.w) rfl (by rw [← hok.len]; exact hl) (by simpa using hr) hH
    ⟨rfl, rfl, Γ', rfl, hext, hok', fun t x hx => by
      simp only [Env.get] at hx
      split at hx
      · rename_i ht
        subst ht
        cases hx
        exact ⟨y, rfl, hcv⟩
      · cases hx⟩
  obtain ⟨y', g1, g2⟩ := e4 0 r' rfl
  simp at g1
  subst g1
  exact ⟨y, r', Γ1, H1, rfl, ⟨rfl, rfl⟩, e1, e2, e3, g2⟩
end Go.Nx
/- The rules of the operations, for a region in the text's order. -/
namespace Go.Nx
set_option linter.unusedVariables false
set_option linter.unusedSimpArgs false
section
variable {P : Program} {N : Nat} {Γ0 : Ctx} {A os : List Oper} {e : Env} {H H1 : List Ob} {ty : TypeId} {pos : String} {after : Array Edge} {t : Nat} {K : Env → List Ob → Prop}
end
end Go.Nx
/- Data's rows stay as they are under every renaming; a call's own array frozen. -/
namespace Go.Nx
set_option linter.unusedVariables false
set_option linter.unusedSimpArgs false

class Fix (g : Leaf → Leaf) : Prop where
  int : ∀ k n, g (.v (.int k n)) = .v (.int k n)
  bool : ∀ b, g (.v (.bool b)) = .v (.bool b)
  slv : ∀ r, g (.slv r) = .slv r
instance fix_fz {h ver : Nat} {rows : List (List Leaf)} : Fix (fzL h ver rows) := ⟨fun _ _ => rfl, fun _ => rfl, fun _ => rfl⟩
instance fix_sh {n : Nat} : Fix (shL n) := ⟨fun _ _ => rfl, fun _ => rfl, fun _ => rfl⟩
instance fix_rn {τ : List Nat} : Fix (rnL τ) := ⟨fun _ _ => rfl, fun _ => rfl, fun _ => rfl⟩
instance fix_nz : Fix nzL := ⟨fun _ _ => rfl, fun _ => rfl, fun _ => rfl⟩
class Okp (p : Leaf → Bool) : Prop where
  int : ∀ k n, p (.v (.int k n)) = true
  bool : ∀ b, p (.v (.bool b)) = true
  slv : ∀ r, p (.slv r) = hfRows r
instance okp_hf : Okp hfL := ⟨fun _ _ => rfl, fun _ => rfl, fun _ => rfl⟩
instance okp_mv {m : Nat} : Okp (mvL m) := ⟨fun _ _ => rfl, fun _ => rfl, fun _ => rfl⟩
instance okp_ok {σ τ : List Nat} : Okp (okL σ τ) := ⟨fun _ _ => rfl, fun _ => rfl, fun _ => rfl⟩
instance okp_o0 {σ τ : List Nat} : Okp (ok0 σ τ) := ⟨fun _ _ => rfl, fun _ => rfl, fun _ => rfl⟩
theorem nzI {k : IntKind} {n : Int} : nzL (.v (.int k n)) = .v (.int k n) := rfl
theorem nzB {b : Bool} : nzL (.v (.bool b)) = .v (.bool b) := rfl
theorem nzN : nzL nilS = .slv [] := rfl
theorem nzF {r : List (List Leaf)} : nzL (.slv r) = .slv r := rfl
theorem nzP {h v i k : Nat} : nzL (.ptr h v i k) = .ptr h v i k := rfl
theorem nzO {h v i k : Nat} : nzL (.sl h v i k) = .sl h v i k := rfl
theorem nzQ {r : List (List Leaf)} {i k : Nat} : nzL (.fptr r i k) = .fptr r i k := rfl
theorem nzC {f : FuncId} {c : List Leaf} : nzL (.clo f c) = .clo f c := rfl
theorem fixRows {α : Type} {f : α → List Leaf} {g : Leaf → Leaf} (h : ∀ x, (f x).map g = f x) (xs : List α) : (xs.map f).map (fun r => r.map g) = xs.map f := by
  simp [h]
theorem okRows {α : Type} {f : α → List Leaf} {p : Leaf → Bool} (h : ∀ x, (f x).all p = true) (xs : List α) : ((xs.map f).all fun r => r.all p) = true := by
  simp only [List.all_map, List.all_eq_true]
  intro x _
  exact h x
theorem eqW {F : Fr} {S S' : St} (h : S = S') : St.Weak F S S' := by rw [h]; exact .refl
theorem gN {x c : Bool} : (x && c) = true → c = true := by cases x <;> simp

theorem pickT {F : Fr} {e e' : Env} {H H' : List Ob} (σ τ : List Nat) (n0 : Nat) (hn0 : F.Γ.hs.length = n0) (h0 : ((List.range n0).all fun h => σ[h]? == some h) = true) (hin : (σ.all fun h => Nat.blt h H.length) = true) (hnd : σ.Nodup)
    (he : (e.all fun p => okV σ τ p.2) = true) (hH : (σ.all fun h => okO σ τ (H.getD h .dead)) = true) (he' : mpE (rnL τ) e = e') (hH' : (σ.map fun h => mpO (rnL τ) (H.getD h .dead)) = H') : St.Weak F ⟨e, H⟩ ⟨e', H'⟩ := by
  subst he' hH'
  exact pickW σ τ n0 hn0 h0 hin hnd he hH
theorem nzT {F : Fr} {e e' : Env} {H H' : List Ob} (he' : mpE nzL e = e') (hH' : H.map (mpO nzL) = H') : St.Weak F ⟨e, H⟩ ⟨e', H'⟩ := by
  subst he' hH'
  exact nzW

end Go.Nx
