/- A call that is proved from nothing of the call's own holds wherever it is made. -/
import Derived.Test.YtcnbkfgajnlbpaaNxR
namespace Go.Nx
set_option linter.unusedVariables false
set_option linter.unusedSimpArgs false
set_option linter.unusedSectionVars false

mutual
/-- No object of the call's own is named. -/
def hfL : Leaf → Bool
  | .v _ => true
  | .slv rows => hfRows rows
  | .slq rows => hfRows rows
  | .ptr _ _ _ _ => false
  | .sl _ _ _ _ => false
  | .fptr rows _ _ => hfRows rows
  | .clo _ caps => hfAll caps
def hfRows : List (List Leaf) → Bool
  | [] => true
  | r :: rs => hfAll r && hfRows rs
def hfAll : List Leaf → Bool
  | [] => true
  | l :: ls => hfL l && hfAll ls
end

theorem hfAll_iff (ls : List Leaf) : hfAll ls = ls.all hfL := by
  induction ls with
  | nil => rfl
  | cons l ls ih => simp [hfAll, ih]
theorem hfRows_iff (rs : List (List Leaf)) : hfRows rs = rs.all fun r => r.all hfL := by
  induction rs with
  | nil => rfl
  | cons l ls ih => simp [hfRows, ih, hfAll_iff]

mutual
def hfV : AVal → Bool
  | .c l => hfL l
  | .agg cs => hfAll cs
  | .tup vs => hfVs vs
def hfVs : List AVal → Bool
  | [] => true
  | v :: vs => hfV v && hfVs vs
end

section
variable {Γ Γ' : Ctx} (hw : Γ'.w = Γ.w) (hF : ∀ b, Γ.F b → Γ'.F b)
include hw hF
mutual
theorem conc_hf : ∀ (l : Leaf) (y : Value), hfL l = true → conc Γ l y → conc Γ' l y
  | .v x, y, _, hc => by simpa [conc] using hc
  | .slv rows, y, h, hc => by
    simp only [hfL] at h
    simp only [conc] at hc ⊢
    rcases hc with hc | ⟨a, cap, sz, h1, h2, h3⟩
    · exact .inl hc
    · refine .inr ⟨a, cap, sz, h1, h2, ?_⟩
      rcases h3 with h3 | ⟨h3, h4, h5⟩
      · exact .inl h3
      · exact .inr ⟨h3, hF _ h4, concRows_hf _ _ _ rows h h5⟩
  | .slq rows, y, h, hc => by
    simp only [hfL] at h
    simp only [conc] at hc ⊢
    obtain ⟨a, cap, sz, h1, h2, h3⟩ := hc
    refine ⟨a, cap, sz, h1, h2, ?_⟩
    rcases h3 with h3 | ⟨h3, h4, h5⟩
    · exact .inl h3
    · exact .inr ⟨h3, hF _ h4, concRows_hf _ _ _ rows h h5⟩
  | .ptr _ _ _ _, _, h, _ => by simp [hfL] at h
  | .sl _ _ _ _, _, h, _ => by simp [hfL] at h
  | .fptr rows i k, y, h, hc => by
    simp only [hfL] at h
    simp only [conc] at hc ⊢
    obtain ⟨b, off, sz, h1, h2, h3⟩ := hc
    exact ⟨b, off, sz, h1, hF _ h2, concRows_hf _ _ _ rows h h3⟩
  | .clo f caps, y, h, hc => by
    simp only [hfL] at h
    simp only [conc] at hc ⊢
    obtain ⟨ys, h1, h2⟩ := hc
    exact ⟨ys, h1, concAll_hf caps _ h h2⟩
theorem concRows_hf : ∀ (b sz off : Nat) (rows : List (List Leaf)), hfRows rows = true → concRows Γ b sz off rows → concRows Γ' b sz off rows
  | _, _, _, [], _, _ => by simp [concRows]
  | b, sz, off, r :: rs, h, hc => by
    simp only [hfRows, Bool.and_eq_true] at h
    simp only [concRows] at hc ⊢
    exact ⟨hc.1, concRow_hf b _ r h.1 hc.2.1, concRows_hf b sz _ rs h.2 hc.2.2⟩
theorem concRow_hf : ∀ (b off : Nat) (r : List Leaf), hfAll r = true → concRow Γ b off r → concRow Γ' b off r
  | _, _, [], _, _ => by simp [concRow]
  | b, off, l :: ls, h, hc => by
    simp only [hfAll, Bool.and_eq_true] at h
    simp only [concRow] at hc ⊢
    obtain ⟨⟨y, h1, h2⟩, h3⟩ := hc
    exact ⟨⟨y, by rw [hw]; exact h1, conc_hf l y h.1 h2⟩, concRow_hf b _ ls h.2 h3⟩
theorem concAll_hf : ∀ (ls : List Leaf) (ys : List Value), hfAll ls = true → concAll Γ ls ys → concAll Γ' ls ys
  | [], ys, _, hc => by simpa [concAll] using hc
  | l :: ls, ys, h, hc => by
    simp only [hfAll, Bool.and_eq_true] at h
    simp only [concAll] at hc ⊢
    obtain ⟨y, ys', h1, h2, h3⟩ := hc
    exact ⟨y, ys', h1, conc_hf l y h.1 h2, concAll_hf ls ys' h.2 h3⟩
end
mutual
theorem concV_hf : ∀ (v : AVal) (y : Value), hfV v = true → concV Γ v y → concV Γ' v y
  | .c l, y, h, hc => by simp only [concV, hfV] at *; exact conc_hf hw hF l y h hc
  | .agg cs, y, h, hc => by
    simp only [concV, hfV] at *
    obtain ⟨ys, h1, h2⟩ := hc
    exact ⟨ys, h1, concAll_hf hw hF _ _ h h2⟩
  | .tup vs, y, h, hc => by
    simp only [concV, hfV] at *
    obtain ⟨ys, h1, h2⟩ := hc
    exact ⟨ys, h1, concVs_hf _ _ h h2⟩
theorem concVs_hf : ∀ (vs : List AVal) (ys : List Value), hfVs vs = true → concVs Γ vs ys → concVs Γ' vs ys
  | [], ys, _, hc => by simpa [concVs] using hc
  | v :: vs, ys, h, hc => by
    simp only [hfVs, Bool.and_eq_true] at h
    simp only [concVs] at hc ⊢
    obtain ⟨y, ys', h1, h2, h3⟩ := hc
    exact ⟨y, ys', h1, concV_hf v y h.1 h2, concVs_hf vs ys' h.2 h3⟩
end
end

/-! Names of objects, moved on. -/
def shL (n : Nat) : Leaf → Leaf
  | .ptr h ver i k => .ptr (n + h) ver i k
  | .sl h ver lo len => .sl (n + h) ver lo len
  | l => l
def shV (n : Nat) : AVal → AVal
  | .c l => .c (shL n l)
  | .agg cs => .agg (cs.map (shL n))
  | .tup vs => .tup (vs.map fun | .c l => .c (shL n l) | .agg cs => .agg (cs.map (shL n)) | v => v)
def shO (n : Nat) : Ob → Ob
  | .live ver sz rows => .live ver sz (rows.map fun r => r.map (shL n))
  | .dead => .dead
/-- What may be moved: what is named lies on the surface. -/
def mvL (m : Nat) : Leaf → Bool
  | .ptr h _ _ _ => decide (h < m)
  | .sl h _ _ _ => decide (h < m)
  | l => hfL l
def mvV (m : Nat) : AVal → Bool
  | .c l => mvL m l
  | .agg cs => cs.all (mvL m)
  | .tup vs => vs.all fun | .c l => mvL m l | .agg cs => cs.all (mvL m) | .tup vs => hfVs vs
def mvO (m : Nat) : Ob → Bool
  | .live _ _ rows => rows.all fun r => r.all (mvL m)
  | .dead => true

section
variable {Γ Γ' : Ctx} {n m : Nat} (hw : Γ'.w = Γ.w) (hF : ∀ b, Γ.F b → Γ'.F b) (hh : ∀ (h : Nat) (p : Info × Nat), h < m → Γ.hs[h]? = some p → Γ'.hs[n + h]? = some p)
include hw hF hh
theorem conc_sh {l : Leaf} {y : Value} (hm : mvL m l = true) (hc : conc Γ l y) : conc Γ' (shL n l) y := by
  cases l with
  | ptr h ver i k =>
    simp only [shL, conc] at hc ⊢
    obtain ⟨inf, ver', p, h1, h2⟩ := hc
    exact ⟨inf, ver', p, hh _ _ (by simpa [mvL] using hm) h1, h2⟩
  | sl h ver lo len =>
    simp only [shL, conc] at hc ⊢
    obtain ⟨inf, ver', a, cap, h1, h2⟩ := hc
    exact ⟨inf, ver', a, cap, hh _ _ (by simpa [mvL] using hm) h1, h2⟩
  | v x => simp only [shL]; exact conc_hf hw hF _ y (by simpa [mvL] using hm) hc
  | slv rows => simp only [shL]; exact conc_hf hw hF _ y (by simpa [mvL] using hm) hc
  | slq rows => simp only [shL]; exact conc_hf hw hF _ y (by simpa [mvL] using hm) hc
  | fptr rows i k => simp only [shL]; exact conc_hf hw hF _ y (by simpa [mvL] using hm) hc
  | clo f caps => simp only [shL]; exact conc_hf hw hF _ y (by simpa [mvL] using hm) hc

theorem concAll_sh : ∀ {ls : List Leaf} {ys : List Value}, ls.all (mvL m) = true → concAll Γ ls ys → concAll Γ' (ls.map (shL n)) ys
  | [], ys, _, h => by simpa [concAll] using h
  | l :: ls, ys, hm, h => by
    simp only [List.all_cons, Bool.and_eq_true] at hm
    simp only [concAll] at h
    obtain ⟨y, ys', rfl, h2, h3⟩ := h
    simp only [List.map_cons, concAll]
    exact ⟨y, ys', rfl, conc_sh hw hF hh hm.1 h2, concAll_sh hm.2 h3⟩

theorem concV_sh {v : AVal} {y : Value} (hm : mvV m v = true) (hc : concV Γ v y) : concV Γ' (shV n v) y := by
  cases v with
  | c l => simp only [mvV, shV, concV] at *; exact conc_sh hw hF hh hm hc
  | agg cs =>
    simp only [mvV, shV, concV] at *
    obtain ⟨ys, h1, h2⟩ := hc
    exact ⟨ys, h1, concAll_sh hw hF hh hm h2⟩
  | tup vs =>
    simp only [mvV, shV, concV] at *
    obtain ⟨ys, h1, h2⟩ := hc
    refine ⟨ys, h1, ?_⟩
    have key : ∀ (vs : List AVal) (ys : List Value), (vs.all fun | .c l => mvL m l | .agg cs => cs.all (mvL m) | .tup vs => hfVs vs) = true → concVs Γ vs ys → concVs Γ' (vs.map fun | .c l => .c (shL n l) | .agg cs => .agg (cs.map (shL n)) | v => v) ys := by
      intro vs
      induction vs with
      | nil => intro ys _ h; simpa [concVs] using h
      | cons v vs ih =>
        intro ys hm h
        simp only [List.all_cons, Bool.and_eq_true] at hm
        simp only [concVs] at h
        obtain ⟨y, ys', rfl, h2, h3⟩ := h
        simp only [List.map_cons, concVs]
        refine ⟨y, ys', rfl, ?_, ih ys' hm.2 h3⟩
        cases v with
        | c l => simp only [concV] at h2 ⊢; exact conc_sh hw hF hh hm.1 h2
        | agg cs =>
          simp only [concV] at h2 ⊢
          obtain ⟨zs, e1, e2⟩ := h2
          exact ⟨zs, e1, concAll_sh hw hF hh hm.1 e2⟩
        | tup us =>
          simp only [concV] at h2 ⊢
          obtain ⟨zs, e1, e2⟩ := h2
          exact ⟨zs, e1, concVs_hf hw hF us _ hm.1 e2⟩
    exact key vs _ hm h2

theorem concRow_sh {b : Nat} : ∀ {off : Nat} {r : List Leaf}, r.all (mvL m) = true → concRow Γ b off r → concRow Γ' b off (r.map (shL n))
  | _, [], _, _ => by simp [concRow]
  | off, l :: ls, hm, h => by
    simp only [List.all_cons, Bool.and_eq_true] at hm
    simp only [List.map_cons, concRow] at h ⊢
    obtain ⟨⟨y, h1, h2⟩, h3⟩ := h
    exact ⟨⟨y, by rw [hw]; exact h1, conc_sh hw hF hh hm.1 h2⟩, concRow_sh hm.2 h3⟩

theorem concRows_sh {b sz : Nat} : ∀ {off : Nat} {rows : List (List Leaf)}, (rows.all fun r => r.all (mvL m)) = true → concRows Γ b sz off rows → concRows Γ' b sz off (rows.map fun r => r.map (shL n))
  | _, [], _, _ => by simp [concRows]
  | off, r :: rs, hm, h => by
    simp only [List.all_cons, Bool.and_eq_true] at hm
    simp only [List.map_cons, concRows] at h ⊢
    exact ⟨by simpa using h.1, concRow_sh hw hF hh hm.1 h.2.1, concRows_sh hm.2 h.2.2⟩
end

/-- From nothing to anywhere. -/
theorem Call.lift {P : Program} {f : FuncId} {args : List AVal} {r : AVal} {objs : List Ob} (ha : hfVs args = true) (hr : mvV objs.length r = true) (ho : objs.all (mvO objs.length) = true) (h : Call P f args [] fun r' H' => r' = r ∧ ∃ junk, H' = objs ++ junk) (H : List Ob) :
    Call P f args H fun r' H' => r' = shV H.length r ∧ H' = H ++ objs.map (shO H.length) := by
  refine ⟨h.1, fun Γ hok args' hc => ?_⟩
  let Γ1 : Ctx := { w := Γ.w, F := Γ.F, X := fun _ => False, hs := [] }
  have hok1 : HeapOk Γ1 [] := ⟨rfl, fun h o hh => by simp at hh, fun h h' v v' z z' rows rows' inf inf' b h1 => by simp at h1, hok.F, fun b hb => hb.elim⟩
  refine (h.2 Γ1 hok1 args' (concVs_hf (Γ := Γ) (Γ' := Γ1) rfl (fun _ h => h) args _ ha hc)).mono fun e w' he => ?_
  obtain ⟨y, r', Γ1', H', rfl, ⟨rfl, junk, rfl⟩, rfl, hext, hok', hcv⟩ := he
  have hln := hok'.len
  simp only [List.length_append] at hln
  have hold : ∀ b, b < Γ.w.heap.size → Γ1'.w.heap[b]? = Γ.w.heap[b]? := fun b hb => hext.frame b hb (fun h => h)
  have hFn : ∀ b, Γ1'.F b → Γ.F b ∨ Γ.w.heap.size ≤ b := fun b hb => by
    rcases hext.Fnew b hb with h1 | h1 | h1
    · exact .inl h1
    · exact h1.elim
    · exact .inr h1
  have hXn : ∀ b, Γ1'.X b → Γ.w.heap.size ≤ b := fun b hb => by
    rcases hext.Xnew b hb with h1 | h1
    · exact h1.elim
    · exact h1
  obtain ⟨Γ', hΓ'⟩ : ∃ Γ' : Ctx, Γ' = { w := Γ1'.w, F := Γ1'.F, X := fun b => Γ.X b ∨ Γ1'.X b, hs := Γ.hs ++ Γ1'.hs.take objs.length } := ⟨_, rfl⟩
  have ew : Γ'.w = Γ1'.w := by rw [hΓ']
  have eF : ∀ b, Γ1'.F b → Γ'.F b := by rw [hΓ']; exact fun _ h => h
  have hleft : ∀ h, h < H.length → Γ'.hs[h]? = Γ.hs[h]? := fun h hlt => by
    rw [hΓ']
    exact List.getElem?_append_left (by rw [← hok.len]; exact hlt)
  have hright : ∀ h, h < objs.length → Γ'.hs[H.length + h]? = Γ1'.hs[h]? := fun h hlt => by
    rw [hΓ']
    show (Γ.hs ++ _)[_]? = _
    rw [List.getElem?_append_right (by rw [hok.len]; omega), hok.len, Nat.add_sub_cancel_left, List.getElem?_take_of_lt hlt]
  have hnew : ∀ (h : Nat) (p : Info × Nat), h < objs.length → Γ1'.hs[h]? = some p → Γ'.hs[H.length + h]? = some p := fun h p hlt hh => by rw [hright h hlt]; exact hh
  have hle : Γ.Le Γ' := ⟨fun b hb => eF b (hext.le.F b hb), fun b hb => by rw [ew]; exact hext.le.mem b hb, fun h inf ver hh => ⟨inf, ver, by
    rw [hleft h (by rw [hok.len]; exact (List.getElem?_eq_some_iff.1 hh).1)]; exact hh, Nat.le_refl _, fun _ => rfl⟩⟩
  refine ⟨y, _, Γ', _, rfl, ⟨rfl, rfl⟩, ew, ⟨hle, by rw [ew]; exact hext.os, by rw [ew]; exact hext.tape, by rw [ew]; exact hext.output, by rw [ew]; exact hext.size, fun b hb _ => by rw [ew]; exact hold b hb, fun b hb => ?_, fun b hb => ?_⟩, ?_, concV_sh ew eF hnew hr hcv⟩
  · rw [hΓ'] at hb
    rcases hFn b hb with h1 | h1
    · exact .inl h1
    · exact .inr (.inr h1)
  · rw [hΓ'] at hb
    rcases hb with h1 | h1
    · exact .inl h1
    · exact .inr (hXn b h1)
  · have oldobj : ∀ (h : Nat) (o : Ob), H[h]? = some o → ObOk Γ' h o := fun h o hh => by
      have hlt : h < H.length := (List.getElem?_eq_some_iff.1 hh).1
      refine (hok.ob h o hh).keep hle (fun _ _ _ _ => hleft h hlt) (fun ver z rows inf b _ _ _ hx hf => ⟨by rw [ew]; exact hold b (hok.X b hx), ?_, by rw [hΓ']; exact .inl hx⟩)
      intro hf'
      rw [hΓ'] at hf'
      rcases hFn b hf' with h1 | h1
      · exact hf h1
      · have := hok.X b hx
        omega
    have newobj : ∀ (h : Nat) (o : Ob), objs[h]? = some o → ObOk Γ' (H.length + h) (shO H.length o) := fun h o hh => by
      have hlt : h < objs.length := (List.getElem?_eq_some_iff.1 hh).1
      have hob := hok'.ob h o (by rw [List.getElem?_append_left hlt]; exact hh)
      have hmv : mvO objs.length o = true := by
        rw [List.all_eq_true] at ho
        exact ho o (List.mem_of_getElem? hh)
      cases o with
      | dead => trivial
      | live ver sz rows =>
        obtain ⟨inf, h1, h2, h3⟩ := hob
        refine ⟨inf, hnew h _ hlt h1, h2, ?_⟩
        cases hb : inf.base with
        | none =>
          simp only [hb] at h3
          subst h3
          rfl
        | some b =>
          simp only [hb] at h3
          obtain ⟨g1, g2, g3, g4, g5, cells, T, g6, g7, g8⟩ := h3
          refine ⟨g1, by rw [hΓ']; exact .inr g2, by rw [hΓ']; exact g3, by simpa using g4, g5, cells, T, by rw [ew]; exact g6, g7, concRows_sh ew eF hnew (by simpa [mvO] using hmv) g8⟩
    have look : ∀ (n v z : Nat) (rows : List (List Leaf)), (H ++ objs.map (shO H.length))[n]? = some (.live v z rows) → (n < H.length ∧ H[n]? = some (.live v z rows)) ∨ ∃ h rows', n = H.length + h ∧ h < objs.length ∧ objs[h]? = some (.live v z rows') := by
      intro n v z rows hn
      by_cases hlt : n < H.length
      · rw [List.getElem?_append_left hlt] at hn
        exact .inl ⟨hlt, hn⟩
      · rw [List.getElem?_append_right (by omega), List.getElem?_map] at hn
        cases ho' : objs[n - H.length]? with
        | none => rw [ho'] at hn; simp at hn
        | some o =>
          rw [ho'] at hn
          simp only [Option.map_some, Option.some.injEq] at hn
          cases o with
          | dead => simp [shO] at hn
          | live v' z' rows' =>
            simp only [shO, Ob.live.injEq] at hn
            obtain ⟨rfl, rfl, _⟩ := hn
            exact .inr ⟨n - H.length, rows', by omega, (List.getElem?_eq_some_iff.1 ho').1, ho'⟩
    have xold : ∀ (h v z : Nat) (rows : List (List Leaf)) (inf : Info) (b : Nat), H[h]? = some (.live v z rows) → Γ.hs[h]? = some (inf, v) → inf.base = some b → b < Γ.w.heap.size := fun h v z rows inf b h1 h2 h3 => by
      obtain ⟨i2, g1, _, g2⟩ := hok.ob h _ h1
      rw [h2] at g1
      cases g1
      simp only [h3] at g2
      exact hok.X b g2.2.1
    have xnew : ∀ (h v z : Nat) (rows : List (List Leaf)) (inf : Info) (b : Nat), objs[h]? = some (.live v z rows) → Γ1'.hs[h]? = some (inf, v) → inf.base = some b → Γ.w.heap.size ≤ b := fun h v z rows inf b h1 h2 h3 => by
      obtain ⟨i2, g1, _, g2⟩ := hok'.ob h _ (by rw [List.getElem?_append_left (List.getElem?_eq_some_iff.1 h1).1]; exact h1)
      rw [h2] at g1
      cases g1
      simp only [h3] at g2
      exact hXn b g2.2.1
    refine ⟨?_, fun h o hh => ?_, fun h h' v v' z z' rows rows' inf inf' b h1 h2 h3 h4 h5 h6 => ?_, fun b hb => by rw [ew]; rw [hΓ'] at hb; exact hok'.F b hb, fun b hb => ?_⟩
    · rw [hΓ']
      simp only [List.length_append, List.length_map, List.length_take, hok.len]
      omega
    · by_cases hlt : h < H.length
      · rw [List.getElem?_append_left hlt] at hh
        exact oldobj h o hh
      · rw [List.getElem?_append_right (by omega), List.getElem?_map] at hh
        simp only [Option.map_eq_some_iff] at hh
        obtain ⟨o', ho', rfl⟩ := hh
        have := newobj _ _ ho'
        rwa [show H.length + (h - H.length) = h by omega] at this
    · rcases look h v z rows h1 with ⟨a1, a2⟩ | ⟨m, r1, rfl, a1, a2⟩ <;> rcases look h' v' z' rows' h2 with ⟨b1, b2⟩ | ⟨m', r2, rfl, b1, b2⟩
      · rw [hleft _ a1] at h3
        rw [hleft _ b1] at h4
        exact hok.apart h h' v v' z z' rows rows' inf inf' b a2 b2 h3 h4 h5 h6
      · rw [hleft _ a1] at h3
        rw [hright _ b1] at h4
        have := xold h v z rows inf b a2 h3 h5
        have := xnew m' v' z' r2 inf' b b2 h4 h6
        omega
      · rw [hright _ a1] at h3
        rw [hleft _ b1] at h4
        have := xnew m v z r1 inf b a2 h3 h5
        have := xold h' v' z' rows' inf' b b2 h4 h6
        omega
      · rw [hright _ a1] at h3
        rw [hright _ b1] at h4
        have := hok'.apart m m' v v' z z' r1 r2 inf inf' b (by rw [List.getElem?_append_left a1]; exact a2) (by rw [List.getElem?_append_left b1]; exact b2) h3 h4 h5 h6
        omega
    · rw [hΓ'] at hb
      rw [ew]
      rcases hb with h1 | h1
      · exact Nat.lt_of_lt_of_le (hok.X b h1) hext.size
      · exact hok'.X b h1

theorem Call.mono {P : Program} {f : FuncId} {args : List AVal} {H : List Ob} {K K' : AVal → List Ob → Prop} (h : Call P f args H K) (hk : ∀ r H', K r H' → K' r H') : Call P f args H K' :=
  ⟨h.1, fun Γ hok args' hc => (h.2 Γ hok args' hc).mono fun e w' ⟨y, r, Γ', H', h1, h2, h3⟩ => ⟨y, r, Γ', H', h1, hk _ _ h2, h3⟩⟩

/-- A call that hands back nothing of its own: everywhere. -/
theorem DCall.lift {P : Program} {f : FuncId} {args : List AVal} {r : AVal} (ha : hfVs args = true) (hr : mvV 0 r = true) (hs : ∀ n, shV n r = r) (h : Call P f args [] fun r' _ => r' = r) (H : List Ob) : DCall P f args H r := by
  have := Call.lift (r := r) (objs := []) ha hr rfl (h.mono fun r' H' h => ⟨h, H', rfl⟩) H
  exact this.mono fun r' H' ⟨h1, h2⟩ => ⟨by rw [h1, hs], by simpa using h2⟩

end Go.Nx
