/- What is made: structs, slices. -/
import Derived.Test.YtcnbkfgajnlbpaaNxH
namespace Go.Nx
set_option linter.unusedVariables false
set_option linter.unusedSimpArgs false

theorem concAll_putSeg {Γ : Ctx} {cells cs : List Leaf} {zs vs : List Value} (h : concAll Γ cells zs) (h' : concAll Γ cs vs) (k : Nat) (hk : k + cs.length ≤ cells.length) : concAll Γ (putSeg cells k cs) (putSeg zs k vs) := by
  have e1 := concAll_length h
  have e2 := concAll_length h'
  refine concAll_mk (by rw [putSeg_length, putSeg_length, e1]) fun j l y hl hy => ?_
  rw [putSeg_get _ _ _ _ hk] at hl
  rw [putSeg_get _ _ _ _ (by omega)] at hy
  rw [e2] at hy
  split at hl
  · rename_i hin
    rw [if_pos hin] at hy
    obtain ⟨z, g1, g2⟩ := concAll_get h' hl
    rw [hy] at g1
    cases g1
    exact g2
  · rename_i hin
    rw [if_neg hin] at hy
    obtain ⟨z, g1, g2⟩ := concAll_get h hl
    rw [hy] at g1
    cases g1
    exact g2

theorem fold_putSeg (off : Nat) : ∀ (l : List Value) (k : Nat) (cs : Array Value), ((l.zipIdx k).foldl (fun (cs : Array Value) (p : Value × Nat) => cs.setIfInBounds (off + p.2) p.1) cs).toList = putSeg cs.toList (off + k) l
  | [], k, cs => rfl
  | x :: l, k, cs => by
    simp only [List.zipIdx_cons, List.foldl_cons]
    rw [fold_putSeg off l (k + 1)]
    simp [putSeg, Array.toList_setIfInBounds, Nat.add_assoc]

theorem fill_step (off : Nat) (v cs : Array Value) : (v.zipIdx.foldl (fun cs (p : Value × Nat) => cs.setIfInBounds (off + p.2) p.1) cs).toList = putSeg cs.toList off v.toList := by
  rw [← Array.foldl_toList, Array.toList_zipIdx]
  simpa using fold_putSeg off v.toList 0 cs

/-- Parts, as the text has them and as they run. -/
def Parts (Γ : Ctx) : List (Nat × Option AVal) → List (Nat × Value) → Prop
  | [], ys => ys = []
  | (i, x) :: r, ys => ∃ v ys', ys = (i, v) :: ys' ∧ (∀ a, x = some a → concV Γ a v) ∧ Parts Γ r ys'

theorem fillL_spec {Γ : Ctx} (place : Nat → Option (Nat × Nat)) (places : List (Nat × Nat)) (hp : ∀ (i : Nat) (p : Nat × Nat), places[i]? = some p → place i = some p) :
    ∀ (parts : List (Nat × Option AVal)) (vs : List (Nat × Value)) (cells cs : List Leaf) (zs : Array Value), Parts Γ parts vs → concAll Γ cells zs.toList → fillL places cells parts = some cs →
      ∃ out, Instr.fill place zs vs = some out ∧ concAll Γ cs out.toList
  | [], vs, cells, cs, zs, hP, hc, hf => by
    simp only [Parts] at hP
    subst hP
    simp only [fillL, Option.some.injEq] at hf
    subst hf
    exact ⟨zs, rfl, hc⟩
  | (i, x) :: r, vs, cells, cs, zs, hP, hc, hf => by
    simp only [Parts] at hP
    obtain ⟨v, ys', rfl, hx, hP'⟩ := hP
    simp only [fillL] at hf
    split at hf
    case h_2 => cases hf
    rename_i off size av hpl
    split at hf
    case h_2 => cases hf
    rename_i ls hls
    split at hf
    case isFalse => cases hf
    rename_i hcond
    have hv := cells_spec (hx av rfl) hls
    have hvl := concAll_length hv
    have hzl := concAll_length hc
    simp only [Array.length_toList] at hvl hzl
    obtain ⟨out, g1, g2⟩ := fillL_spec place places hp r ys' (putSeg cells off ls) cs (v.cells.zipIdx.foldl (fun cs (p : Value × Nat) => cs.setIfInBounds (off + p.2) p.1) zs) hP' (by rw [fill_step]; exact concAll_putSeg hc hv off (by omega)) hf
    refine ⟨out, ?_, g2⟩
    have hpi := hp i _ hpl
    simp only [Instr.fill, hpi]
    rw [if_neg (by simp; omega)]
    exact g1

theorem zc_spec {P : Program} {t : TypeId} {z : List Leaf} (h : zc P t = some z) : ∃ i zv, P.info? t = some i ∧ i.zero = some zv ∧ zv.cells.size = i.size ∧ leaves zv = some z := by
  unfold zc at h
  split at h
  · rename_i i hi
    split at h
    · rename_i zv hz
      split at h
      · rename_i hs; exact ⟨i, zv, hi, hz, hs, h⟩
      · cases h
    · cases h
  · cases h

theorem build_sound {P : Program} {Γ : Ctx} {t : TypeId} {z cs : List Leaf} {places : List (Nat × Nat)} (h : cm P t = some (z, places)) {parts : List (Nat × Option AVal)} {vs : Array (Nat × Value)} (hP : Parts Γ parts vs.toList) (hf : fillL places z parts = some cs) :
    ∃ out, (Instr.build t vs).run P Γ.w = .ok (.agg out) Γ.w ∧ concAll Γ cs out.toList := by
  unfold cm at h
  split at h
  · rename_i fs hu
    split at h
    case h_2 => cases h
    rename_i z' ps hz hps
    simp only [Option.some.injEq, Prod.mk.injEq] at h
    obtain ⟨rfl, rfl⟩ := h
    obtain ⟨i, zv, hi, hzv, hs, hl⟩ := zc_spec hz
    obtain ⟨out, g1, g2⟩ := fillL_spec (Γ := Γ) (ps.toArray[·]?) ps (fun i p hp => by simpa using hp) parts vs.toList z' cs zv.cells hP (conc_leaves hl) hf
    refine ⟨out, run_build Γ.w t vs out ?_, g2⟩
    unfold Program.built
    simp only [hi, hu, hzv, hps]
    exact g1
  · rename_i n e hu
    split at h
    case h_2 => cases h
    rename_i z' ie hz hie
    simp only [Option.some.injEq, Prod.mk.injEq] at h
    obtain ⟨rfl, rfl⟩ := h
    obtain ⟨i, zv, hi, hzv, hs, hl⟩ := zc_spec hz
    obtain ⟨out, g1, g2⟩ := fillL_spec (Γ := Γ) (fun k => some (k * ie.size, ie.size)) _ (fun k p hp => by
      simp only [List.getElem?_map, Option.map_eq_some_iff] at hp
      obtain ⟨m, h1, rfl⟩ := hp
      obtain ⟨hlt, h1⟩ := List.getElem?_eq_some_iff.1 h1
      simp at h1
      rw [h1]) parts vs.toList z' cs zv.cells hP (conc_leaves hl) hf
    refine ⟨out, run_build Γ.w t vs out ?_, g2⟩
    unfold Program.built
    simp only [hi, hu, hzv, hie]
    exact g1
  · cases h

theorem replicate_get {α : Type} (l : List α) (hl : 0 < l.length) : ∀ (n j : Nat), (List.replicate n l).flatten[j]? = if j < n * l.length then l[j % l.length]? else none
  | 0, j => by simp
  | n + 1, j => by
    rw [List.replicate_succ, List.flatten_cons]
    by_cases h : j < l.length
    · rw [List.getElem?_append_left h, if_pos (by rw [Nat.add_mul]; omega), Nat.mod_eq_of_lt h]
    · rw [List.getElem?_append_right (by omega), replicate_get l hl n]
      rw [Nat.mod_eq_sub_mod (by omega : l.length ≤ j)]
      by_cases h2 : j < (n + 1) * l.length
      · rw [if_pos (by rw [Nat.add_mul] at h2; omega), if_pos h2]
      · rw [if_neg (by rw [Nat.add_mul] at h2; omega), if_neg h2]

theorem madeCells_list (z : Array Value) (n size : Nat) (hz : z.size = size) (hs : 0 < size) : (madeCells z (n * size)).toList = (List.replicate n z.toList).flatten := by
  apply List.ext_getElem?
  intro j
  rw [replicate_get z.toList (by simpa [hz] using hs) n j]
  simp only [madeCells, Array.toList_map, Array.toList_range, List.getElem?_map, Array.length_toList, hz]
  by_cases h : j < n * size
  · rw [if_pos h, List.getElem?_range h]
    have hlt : j % size < z.size := by rw [hz]; exact Nat.mod_lt _ hs
    simp [hlt]
  · rw [if_neg h]
    simp [h]

theorem set_flatten {α : Type} {size : Nat} : ∀ (rows : List (List α)) (i : Nat) (cs : List α), (∀ r ∈ rows, r.length = size) → cs.length = size → i < rows.length → (rows.set i cs).flatten = putSeg rows.flatten (i * size) cs
  | [], i, cs, _, _, hi => by simp at hi
  | r :: rs, i, cs, hl, hcs, hi => by
    have hr := hl r (by simp)
    have hfl : ∀ (rs : List (List α)), (∀ r ∈ rs, r.length = size) → rs.flatten.length = rs.length * size := by
      intro rs h
      induction rs with
      | nil => simp
      | cons x xs ih => simp only [List.flatten_cons, List.length_append, List.length_cons, h x (by simp), ih (fun y hy => h y (by simp [hy])), Nat.add_mul]; omega
    have hrs := hfl rs (fun x hx => hl x (by simp [hx]))
    apply List.ext_getElem?
    intro j
    rw [putSeg_get _ _ _ _ (by
      simp only [List.flatten_cons, List.length_append, hr, hrs, hcs]
      have : (i + 1) * size ≤ (rs.length + 1) * size := Nat.mul_le_mul_right _ (by simp at hi; omega)
      rw [Nat.add_mul, Nat.add_mul] at this
      omega)]
    cases i with
    | zero =>
      simp only [List.set_cons_zero, List.flatten_cons, Nat.zero_mul, Nat.zero_le, true_and, Nat.zero_add, Nat.sub_zero]
      by_cases h : j < cs.length
      · rw [if_pos h, List.getElem?_append_left h]
      · rw [if_neg h, List.getElem?_append_right (by omega), List.getElem?_append_right (by omega)]
        congr 1
        omega
    | succ i =>
      simp only [List.set_cons_succ, List.flatten_cons]
      have ih := set_flatten rs i cs (fun x hx => hl x (by simp [hx])) hcs (by simpa using hi)
      by_cases h : j < r.length
      · rw [List.getElem?_append_left h, if_neg (by rw [Nat.add_mul]; omega), List.getElem?_append_left h]
      · rw [List.getElem?_append_right (by omega), ih, putSeg_get _ _ _ _ (by
          rw [hrs, hcs]
          have : (i + 1) * size ≤ rs.length * size := Nat.mul_le_mul_right _ (by simp at hi; omega)
          rw [Nat.add_mul] at this
          omega)]
        by_cases h2 : i * size ≤ j - r.length ∧ j - r.length < i * size + cs.length
        · rw [if_pos h2, if_pos (by rw [Nat.add_mul]; omega)]
          congr 1
          rw [Nat.add_mul]
          omega
        · rw [if_neg h2, if_neg (by rw [Nat.add_mul]; omega), List.getElem?_append_right (by omega)]

theorem rowsL_spec {Γ : Ctx} {size : Nat} : ∀ (parts : List (Nat × Option AVal)) (vs : List (Nat × Value)) (rows out : List (List Leaf)) (zs : Array Value), Parts Γ parts vs → (∀ r ∈ rows, r.length = size) → concAll Γ rows.flatten zs.toList → rowsL size rows parts = some out →
      ∃ cells, Instr.fill (fun i => some (i * size, size)) zs vs = some cells ∧ concAll Γ out.flatten cells.toList ∧ (∀ r ∈ out, r.length = size) ∧ out.length = rows.length
  | [], vs, rows, out, zs, hP, hl, hc, hf => by
    simp only [Parts] at hP
    subst hP
    simp only [rowsL, Option.some.injEq] at hf
    subst hf
    exact ⟨zs, rfl, hc, hl, rfl⟩
  | (i, x) :: r, vs, rows, out, zs, hP, hl, hc, hf => by
    simp only [Parts] at hP
    obtain ⟨v, ys', rfl, hx, hP'⟩ := hP
    simp only [rowsL] at hf
    split at hf
    case h_2 => cases hf
    rename_i av
    split at hf
    case h_2 => cases hf
    rename_i ls hls
    split at hf
    case isFalse => cases hf
    rename_i hcond
    have hv := cells_spec (hx av rfl) hls
    have hvl := concAll_length hv
    have hzl := concAll_length hc
    rw [flatten_length hl] at hzl
    simp only [Array.length_toList] at hvl hzl
    have hb : (i + 1) * size ≤ rows.length * size := Nat.mul_le_mul_right _ (by omega)
    rw [Nat.add_mul] at hb
    have hset := set_flatten rows i ls hl hcond.1 hcond.2
    obtain ⟨cells, g1, g2, g3, g4⟩ := rowsL_spec r ys' (rows.set i ls) out (v.cells.zipIdx.foldl (fun cs (p : Value × Nat) => cs.setIfInBounds (i * size + p.2) p.1) zs) hP'
      (fun y hy => by
        rcases List.mem_or_eq_of_mem_set hy with h | h
        · exact hl y h
        · rw [h]; exact hcond.1)
      (by rw [fill_step, hset]; exact concAll_putSeg hc hv _ (by rw [flatten_length hl, hcond.1]; omega)) hf
    refine ⟨cells, ?_, g2, g3, by simpa using g4⟩
    simp only [Instr.fill]
    rw [if_neg (by simp; omega)]
    exact g1

theorem concAll_flatten_replicate {Γ : Ctx} {z : List Leaf} {zs : List Value} (h : concAll Γ z zs) : ∀ n, concAll Γ (List.replicate n z).flatten (List.replicate n zs).flatten
  | 0 => by simp [concAll]
  | n + 1 => by simpa [List.replicate_succ] using concAll_append h (concAll_flatten_replicate h n)

theorem buildSlice_sound {P : Program} {Γ : Ctx} {H : List Ob} (hok : HeapOk Γ H) {t e : TypeId} {n size bytes : Nat} {z : List Leaf} (h : se P t = some (e, size, bytes, z)) (hsz : 0 < size) (hn : n * size ≤ 16777216) (hzl : z.length = size) (hnm : n ≤ maxLen)
    {parts : List (Nat × Option AVal)} {vs : Array (Nat × Value)} (hP : Parts Γ parts vs.toList) {out : List (List Leaf)} (hf : rowsL size (List.replicate n z) parts = some out) :
    ∃ y Γ', (Instr.buildSlice t n vs).run P Γ.w = .ok y Γ'.w ∧ Γ.Ext Γ' ∧ HeapOk Γ' (H ++ [.live 0 size out]) ∧ conc Γ' (.sl H.length 0 0 n) y := by
  obtain ⟨ht, i, zv, hi, rfl, _, hzv, hzs, hl⟩ := se_spec h
  have hzc := conc_leaves (Γ := Γ) hl
  have hz0 : concAll Γ (List.replicate n z).flatten (madeCells zv.cells (n * i.size)).toList := by
    rw [madeCells_list zv.cells n i.size hzs hsz]
    exact concAll_flatten_replicate hzc n
  obtain ⟨cells, g1, g2, g3, g4⟩ := rowsL_spec parts vs.toList _ out _ hP (fun r hr => by rw [(List.mem_replicate.1 hr).2]; exact hzl) hz0 hf
  have hcl := concAll_length g2
  rw [flatten_length g3, g4] at hcl
  simp only [List.length_replicate, Array.length_toList] at hcl g4
  have hlim : ¬ (16777216 < n * i.size) := by omega
  have hso : (sizeOf e).run P Γ.w = .ok i.size Γ.w := by simp [sizeOf, typeInfo, hi]
  have hfill : Instr.fill (fun k => some (k * i.size, i.size)) ((Array.range (n * i.size)).map (zv.cells[· % zv.cells.size]!)) vs.toList = some cells := g1
  have hrun : (Instr.buildSlice t n vs).run P Γ.w = .ok (.slice (some ⟨Γ.w.heap.size, 0, none⟩) n n) (Γ.w.alloc (.cells cells e)) := by
    by_cases h0 : n * i.size = 0
    · have hn0 : n = 0 := by
        rcases Nat.mul_eq_zero.1 h0 with h | h
        · exact h
        · omega
      subst hn0
      have hr0 : Array.range 0 = #[] := rfl
      simp only [Nat.zero_mul, hr0, Array.map_empty] at hfill
      simp [Instr.buildSlice, run_underlying ht, hso, hr0, hfill, newRow]
    · simp [Instr.buildSlice, run_underlying ht, hso, hlim, h0, zeroValue, typeInfo, hi, hzv, hfill, newRow]
  refine ⟨_, Γ.alloc cells e ⟨some Γ.w.heap.size, 0, n, i.size⟩, hrun, Ext_alloc hok _ _ _, HeapOk_alloc hok cells e n i.size out hnm (by omega) hsz (by omega) g3 cells.toList g2 (fun k y hk => by simpa using hk), ?_⟩
  simp only [conc]
  exact ⟨⟨some Γ.w.heap.size, 0, n, i.size⟩, 0, _, n, by simp [Ctx.alloc, hok.len], Nat.le_refl _, rfl, fun _ => .inr ⟨Γ.w.heap.size, _, rfl, rfl, by simp, by simp, fun _ => by simp⟩⟩

theorem makeSlice_sound {P : Program} {Γ : Ctx} {H : List Ob} (hok : HeapOk Γ H) {t e : TypeId} {size bytes : Nat} {z : List Leaf} (h : se P t = some (e, size, bytes, z)) (hsz : 0 < size) (hzl : z.length = size) (kl kc : IntKind) (n : Int) (h0 : 0 ≤ n)
    (hb : (bytes : Int) * n ≤ 281474976710656) (hm : n ≤ maxLen) :
    ∃ y Γ', (Instr.makeSlice t (.int kl n) (.int kc n)).run P Γ.w = .ok y Γ'.w ∧ Γ.Ext Γ' ∧ HeapOk Γ' (H ++ [.live 0 size (List.replicate n.toNat z)]) ∧ conc Γ' (.sl H.length 0 0 n.toNat) y := by
  obtain ⟨ht, i, zv, hi, rfl, rfl, hzv, hzs, hl⟩ := se_spec h
  have hrun := run_make (P := P) Γ.w t e i zv ht hi hzv kl kc n n h0 (Int.le_refl _) hb (by unfold maxLen at hm; omega)
  refine ⟨_, Γ.alloc (madeCells zv.cells (n.toNat * i.size)) e ⟨some Γ.w.heap.size, 0, n.toNat, i.size⟩, hrun, Ext_alloc hok _ _ _, ?_, ?_⟩
  · refine HeapOk_alloc hok _ e n.toNat i.size _ (by omega) (by simp) hsz (by simp [size_madeCells]) (fun r hr => by rw [(List.mem_replicate.1 hr).2]; exact hzl) (madeCells zv.cells (n.toNat * i.size)).toList ?_ (fun k y hk => by simpa using hk)
    rw [madeCells_list zv.cells n.toNat i.size hzs hsz]
    exact concAll_flatten_replicate (conc_leaves hl) _
  · simp only [conc]
    exact ⟨⟨some Γ.w.heap.size, 0, n.toNat, i.size⟩, 0, _, n.toNat, by simp [Ctx.alloc, hok.len], Nat.le_refl _, rfl, fun _ => .inr ⟨Γ.w.heap.size, _, rfl, rfl, by simp, by simp, fun _ => by simp⟩⟩

/-- A new variable. -/
theorem newVar_sound {P : Program} {Γ : Ctx} {H : List Ob} (hok : HeapOk Γ H) (T : TypeId) {v : Value} {z : Leaf} {zs : List Leaf} (hc : concAll Γ (z :: zs) v.cells.toList) :
    ∃ Γ', (newVar T v).run P Γ.w = .ok ⟨Γ.w.heap.size, 0, none⟩ Γ'.w ∧ Γ.Ext Γ' ∧ HeapOk Γ' (H ++ [.live 0 (zs.length + 1) [z :: zs]]) ∧ conc Γ' (.ptr H.length 0 0 0) (.pointer (some ⟨Γ.w.heap.size, 0, none⟩)) := by
  have hl := concAll_length hc
  simp only [Array.length_toList, List.length_cons] at hl
  refine ⟨Γ.alloc v.cells T ⟨some Γ.w.heap.size, 0, 1, zs.length + 1⟩, by simp [newVar, newRow]; rfl, Ext_alloc hok _ _ _, HeapOk_alloc hok v.cells T 1 (zs.length + 1) [z :: zs] (by simp [maxLen]) (by simp) (by omega) (by omega) (by simp) v.cells.toList (by simpa using hc) (fun k y hk => by simpa using hk), ?_⟩
  simp only [conc]
  exact ⟨⟨some Γ.w.heap.size, 0, 1, zs.length + 1⟩, 0, _, by simp [Ctx.alloc, hok.len], Nat.le_refl _, rfl, fun _ => ⟨Γ.w.heap.size, rfl, by simp⟩⟩

end Go.Nx
