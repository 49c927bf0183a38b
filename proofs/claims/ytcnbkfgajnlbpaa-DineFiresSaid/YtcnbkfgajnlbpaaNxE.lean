/- A store; an append. -/
import Derived.Test.YtcnbkfgajnlbpaaNxD
namespace Go.Nx
set_option linter.unusedVariables false
set_option linter.unusedSimpArgs false

theorem putSeg_length {α : Type} : ∀ (cs r : List α) (k : Nat), (putSeg r k cs).length = r.length
  | [], r, k => rfl
  | c :: cs, r, k => by simp [putSeg, putSeg_length cs]

theorem putSeg_get {α : Type} : ∀ (cs r : List α) (k j : Nat), k + cs.length ≤ r.length → (putSeg r k cs)[j]? = if k ≤ j ∧ j < k + cs.length then cs[j - k]? else r[j]?
  | [], r, k, j, _ => by simp [putSeg]; omega
  | c :: cs, r, k, j, h => by
    simp only [List.length_cons] at h
    rw [putSeg, putSeg_get cs (r.set k c) (k + 1) j (by simp; omega)]
    by_cases h1 : k + 1 ≤ j ∧ j < k + 1 + cs.length
    · rw [if_pos h1, if_pos (by simp; omega)]
      rw [show j - k = (j - (k + 1)) + 1 by omega]
      simp
    · rw [if_neg h1]
      by_cases h2 : j = k
      · subst h2
        rw [if_pos (by simp)]
        rw [List.getElem?_set_self (by omega)]
        simp
      · rw [List.getElem?_set_ne (by omega), if_neg (by simp; omega)]

/-- Cells of a block, a run of them replaced. -/
def spliced (cur : List Value) (o : Nat) (vs : List Value) : List Value := cur.take o ++ vs ++ cur.drop (o + vs.length)

theorem spliced_length {cur : List Value} {o : Nat} {vs : List Value} (h : o + vs.length ≤ cur.length) : (spliced cur o vs).length = cur.length := by
  simp [spliced]; omega

theorem spliced_get {cur : List Value} {o : Nat} {vs : List Value} (h : o + vs.length ≤ cur.length) (j : Nat) : (spliced cur o vs)[j]? = if o ≤ j ∧ j < o + vs.length then vs[j - o]? else cur[j]? := by
  unfold spliced
  by_cases h1 : j < o
  · rw [List.getElem?_append_left (by simp; omega), List.getElem?_append_left (by simp; omega), List.getElem?_take, if_pos h1, if_neg (by omega)]
  · by_cases h2 : j < o + vs.length
    · rw [List.getElem?_append_left (by simp; omega), List.getElem?_append_right (by simp; omega), if_pos ⟨by omega, h2⟩]
      simp only [List.length_take]
      rw [Nat.min_eq_left (by omega)]
    · rw [List.getElem?_append_right (by simp; omega), if_neg (by omega), List.getElem?_drop]
      congr 1
      simp
      omega

theorem run_storeVar_at {P : Program} {w : World} {b o : Nat} {cells : Array Value} {T : TypeId} (hh : w.heap[b]? = some (.cells cells T (0, 0))) {t : TypeId} {n : Nat} {y : Value}
    (ht : (sizeOf t).run P w = .ok n w) (hn : y.cells.size = n) (h1 : ∀ v ∈ y.cells.toList, v.oneCell' = true) (hle : o + n ≤ cells.size) :
    (Instr.storeAt t (.pointer (some ⟨b, o, none⟩)) y).run P w = .ok () (w.setRow b (spliced cells.toList o y.cells.toList).toArray) := by
  have h := run_storeCells_at P b o T y.cells.toList 0 cells w hh (by simp; omega) h1
  simp [Instr.storeAt, Instr.sureAddr, storeVar, ht, hn, h, spliced]

/-- The context behind a store, or an append in place. -/
def Ctx.turn (Γ : Ctx) (w : World) (h : Nat) (inf : Info) (ver b : Nat) : Ctx := { w := w, F := Γ.F, X := fun c => Γ.X c ∨ c = b, hs := Γ.hs.set h (inf, ver) }

theorem Le_turn {Γ : Ctx} {h : Nat} {inf inf0 : Info} {ver ver0 b : Nat} {w : World} (h0 : Γ.hs[h]? = some (inf0, ver0)) (hv : ver0 < ver ∨ (ver0 = ver ∧ inf = inf0)) (hm : ∀ b, Γ.F b → w.heap[b]? = Γ.w.heap[b]?) :
    Γ.Le (Γ.turn w h inf ver b) where
  F _ h := h
  mem := hm
  hs n i v hn := by
    by_cases he : n = h
    · subst he
      rw [h0] at hn
      cases hn
      refine ⟨inf, ver, ?_, ?_, ?_⟩
      · simp only [Ctx.turn]
        rw [List.getElem?_set_self (List.getElem?_eq_some_iff.1 h0).1]
      · omega
      · rcases hv with hv | ⟨_, hv⟩
        · intro e; omega
        · intro _; exact hv
    · refine ⟨i, v, ?_, Nat.le_refl _, fun _ => rfl⟩
      simp only [Ctx.turn]
      rw [List.getElem?_set_ne (fun e => he e.symm)]
      exact hn

theorem store_sound {P : Program} {Γ : Ctx} {H : List Ob} (hok : HeapOk Γ H) {t : TypeId} {h ver i k n zz : Nat} {y z : Value} {g : Bool} (hc : conc Γ (.ptr h ver i k) y) (ht : tk P t = some (g, n))
    {rows : List (List Leaf)} {r cs : List Leaf} (ho : obj H h ver = some (zz, rows)) (hr : rows[i]? = some r) (hn : cs.length = n) (hle : k + n ≤ r.length) (hz : concAll Γ cs z.cells.toList) :
    ∃ Γ', (Instr.storeAt t y z).run P Γ.w = .ok () Γ'.w ∧ Γ.Ext Γ' ∧ HeapOk Γ' (H.set h (.live ver zz (rows.set i (putSeg r k cs)))) := by
  obtain ⟨inf, b, cells, T, hin, hb, rfl, hrl, hrow, hh, hcs, hrc, hrows, hm, hx, hsz, hzz⟩ := ptr_row hok hc ho hr
  have hzl : z.cells.toList.length = n := by rw [concAll_length hz, hn]
  have hir : i < rows.length := (List.getElem?_eq_some_iff.1 hr).1
  have hi1 : (i + 1) * inf.sz ≤ inf.cap * inf.sz := Nat.mul_le_mul_right _ (by omega)
  have hi2 : (i + 1) * inf.sz = i * inf.sz + inf.sz := by rw [Nat.add_mul, Nat.one_mul]
  have hfit : inf.off + i * inf.sz + k + n ≤ cells.size := by omega
  have hrun := run_storeVar_at (P := P) (t := t) (y := z) hh (tk_spec ht Γ.w).2 (by simpa using hzl) (concAll_one hz) hfit
  have hnF : ¬ Γ.F b := by
    obtain ⟨i2, g1, _, g2⟩ := hok.obj ho
    rw [hin] at g1
    cases g1
    simp only [hb] at g2
    exact g2.2.2.1
  have hbl := hok.X b hx
  have hheap' : (Γ.w.setRow b (spliced cells.toList (inf.off + i * inf.sz + k) z.cells.toList).toArray).heap[b]? = some (.cells (spliced cells.toList (inf.off + i * inf.sz + k) z.cells.toList).toArray T (0, 0)) := setRow_heap Γ.w b cells _ T (0, 0) hh
  have hoth : ∀ c, c ≠ b → (Γ.w.setRow b (spliced cells.toList (inf.off + i * inf.sz + k) z.cells.toList).toArray).heap[c]? = Γ.w.heap[c]? := fun c hcb => setRow_other Γ.w b c _ hcb
  have hle' : Γ.Le (Γ.turn (Γ.w.setRow b (spliced cells.toList (inf.off + i * inf.sz + k) z.cells.toList).toArray) h inf ver b) :=
    Le_turn hin (.inr ⟨rfl, rfl⟩) (fun c hF => hoth c (fun e => hnF (e ▸ hF)))
  refine ⟨_, hrun, ⟨hle', rfl, rfl, rfl, by simp [Ctx.turn], fun c _ hX => hoth c (fun e => hX (e ▸ hx)), fun c hF => .inl hF, fun c hX => ?_⟩, ?_⟩
  · rcases hX with hX | hX
    · exact .inl hX
    · exact .inl (hX ▸ hx)
  · have hsl : (spliced cells.toList (inf.off + i * inf.sz + k) z.cells.toList).length = cells.size := by
      rw [spliced_length (by simp [hzl] at *; omega)]; simp
    refine HeapOk_turn (Γ' := Γ.turn (Γ.w.setRow b (spliced cells.toList (inf.off + i * inf.sz + k) z.cells.toList).toArray) h inf ver b) hok (obj_some ho) hin hle' rfl rfl (fun c => Iff.rfl) (by simp [Ctx.turn]) hb (fun c _ hcb => hoth c hcb) (.inl hb) (by simpa [Ctx.turn] using hbl)
      hm (by simpa using hrc) hsz hzz _ T hheap' (by simp [hsl]; exact hcs) ?_
    refine concRows_mk fun i' r' hi' => ?_
    have key : ∀ j, (Γ.turn (Γ.w.setRow b (spliced cells.toList (inf.off + i * inf.sz + k) z.cells.toList).toArray) h inf ver b).w.cell? ⟨b, j, none⟩ = if inf.off + i * inf.sz + k ≤ j ∧ j < inf.off + i * inf.sz + k + n then z.cells.toList[j - (inf.off + i * inf.sz + k)]? else cells[j]? := by
      intro j
      rw [show (Γ.turn (Γ.w.setRow b (spliced cells.toList (inf.off + i * inf.sz + k) z.cells.toList).toArray) h inf ver b).w = Γ.w.setRow b (spliced cells.toList (inf.off + i * inf.sz + k) z.cells.toList).toArray from rfl, cell_of hheap']
      have := spliced_get (cur := cells.toList) (o := inf.off + i * inf.sz + k) (vs := z.cells.toList) (by rw [hzl]; simpa using hfit) j
      rw [hzl] at this
      simpa using this
    by_cases he : i' = i
    · subst he
      rw [List.getElem?_set_self hir] at hi'
      cases hi'
      refine ⟨by rw [putSeg_length, hrl], concRow_mk fun k' l hk' => ?_⟩
      rw [key]
      rw [putSeg_get _ _ _ _ (by omega)] at hk'
      split at hk'
      · rename_i hin'
        obtain ⟨v, g1, g2⟩ := concAll_get hz hk'
        refine ⟨v, ?_, conc_mono hle' _ _ g2⟩
        rw [if_pos (by omega), show inf.off + i' * inf.sz + k' - (inf.off + i' * inf.sz + k) = k' - k by omega]
        exact g1
      · rename_i hout
        obtain ⟨v, g1, g2⟩ := concRow_get hrow hk'
        have hk'l : k' < r.length := (List.getElem?_eq_some_iff.1 hk').1
        refine ⟨v, ?_, conc_mono hle' _ _ g2⟩
        rw [if_neg (by omega), ← cell_of hh]
        exact g1
    · rw [List.getElem?_set_ne (fun e => he e.symm)] at hi'
      obtain ⟨g1, g2⟩ := concRows_get hrows hi'
      refine ⟨g1, concRow_of hle' b _ r' (fun j a1 a2 => ?_) g2⟩
      rw [key, if_neg ?_, ← cell_of hh]
      rw [g1] at a2
      intro hcon
      rcases Nat.lt_or_gt_of_ne he with hlt | hlt
      · have : (i' + 1) * inf.sz ≤ i * inf.sz := Nat.mul_le_mul_right _ (by omega)
        rw [Nat.add_mul, Nat.one_mul] at this
        omega
      · have : (i + 1) * inf.sz ≤ i' * inf.sz := Nat.mul_le_mul_right _ (by omega)
        omega

def Ctx.drew (Γ : Ctx) : Ctx := { Γ with w := Γ.w.drew }

theorem Le_drew (Γ : Ctx) : Γ.Le Γ.drew := ⟨fun _ h => h, fun _ _ => rfl, fun _ inf ver h => ⟨inf, ver, h, Nat.le_refl _, fun _ => rfl⟩⟩
theorem Ext_drew (Γ : Ctx) : Γ.Ext Γ.drew := ⟨Le_drew Γ, rfl, rfl, rfl, Nat.le_refl _, fun _ _ _ => rfl, fun _ h => .inl h, fun _ h => .inl h⟩
theorem HeapOk_drew {Γ : Ctx} {H : List Ob} (hok : HeapOk Γ H) : HeapOk Γ.drew H :=
  ⟨hok.len, fun h o ho => (hok.ob h o ho).keep (Le_drew Γ) (fun _ _ _ _ => rfl) (fun _ _ _ _ _ _ _ _ hx hf => ⟨rfl, hf, hx⟩), hok.apart, hok.F, hok.X⟩

/-- What a slice shows: its elements' cells. -/
theorem view_spec {Γ : Ctx} {H : List Ob} (hok : HeapOk Γ H) {x : Leaf} {y : Value} (hc : conc Γ x y) {ys : List (List Leaf)} (hv : view H x = some ys) :
    (y = .slice none 0 0 ∧ ys = []) ∨ ∃ a cap, y = .slice (some a) ys.length cap ∧ ys.length ≤ cap ∧ (ys = [] ∨ ∃ b off sz, a = ⟨b, off, none⟩ ∧ concRows Γ b sz off ys) := by
  unfold view at hv
  split at hv
  · cases hv
    simp only [conc] at hc
    rcases hc with hc | ⟨a, cap, sz, rfl, h2, h3⟩
    · exact .inl hc
    · refine .inr ⟨a, cap, rfl, h2, ?_⟩
      rcases h3 with h3 | ⟨h3, _, h5⟩
      · exact .inl h3
      · obtain ⟨b, o, s⟩ := a
        simp only at h3 h5
        subst h3
        exact .inr ⟨b, o, sz, rfl, h5⟩
  · cases hv
    simp only [conc] at hc
    obtain ⟨a, cap, sz, rfl, h2, h3⟩ := hc
    refine .inr ⟨a, cap, rfl, h2, ?_⟩
    rcases h3 with h3 | ⟨h3, _, h5⟩
    · exact .inl h3
    · obtain ⟨b, o, s⟩ := a
      simp only at h3 h5
      subst h3
      exact .inr ⟨b, o, sz, rfl, h5⟩
  · cases hv
    simp only [conc] at hc
    exact .inl ⟨hc.1, rfl⟩
  · rename_i h ver lo len
    split at hv
    · rename_i z rows ho
      split at hv
      · rename_i hle
        cases hv
        simp only [conc] at hc
        obtain ⟨inf, ver', a, cap, h1, _, rfl, h3⟩ := hc
        obtain ⟨inf2, g1, _, g2⟩ := hok.obj ho
        rw [h1] at g1
        cases g1
        have hl : ((rows.drop lo).take len).length = len := by simp; omega
        rcases h3 rfl with ⟨hb, rfl, rfl, rfl, rfl⟩ | ⟨b, a', hb, rfl, rfl, hlc, ha⟩
        · simp
        · refine .inr ⟨a', _, by rw [hl], by rw [hl]; omega, ?_⟩
          by_cases hlen : len = 0
          · subst hlen; simp
          · right
            simp only [hb] at g2
            obtain ⟨_, _, _, _, _, _, _, _, _, hrows⟩ := g2
            refine ⟨b, _, inf.sz, ha (by omega), ?_⟩
            exact concRows_take (concRows_drop hrows lo) len
      · cases hv
    · cases hv
  · cases hv

theorem flatten_length {rows : List (List Leaf)} {sz : Nat} (h : ∀ r ∈ rows, r.length = sz) : rows.flatten.length = rows.length * sz := by
  induction rows with
  | nil => simp
  | cons r rs ih =>
    simp only [List.flatten_cons, List.length_append, List.length_cons]
    rw [ih (fun x hx => h x (by simp [hx])), h r (by simp), Nat.add_mul]
    omega

theorem flatten_inj_len {Γ : Ctx} {b sz off : Nat} {rows : List (List Leaf)} (h : concRows Γ b sz off rows) : ∀ r ∈ rows, r.length = sz := by
  intro r hr
  obtain ⟨i, hi⟩ := List.getElem?_of_mem hr
  exact (concRows_get h hi).1

/-- Where what is appended lies, as the builtin asks. -/
theorem source_spec {Γ : Ctx} {ys : List (List Leaf)} {y : Value} {size : Nat} (hl : ∀ r ∈ ys, r.length = size)
    (h : (y = .slice none 0 0 ∧ ys = []) ∨ ∃ a cap, y = .slice (some a) ys.length cap ∧ ys.length ≤ cap ∧ (ys = [] ∨ ∃ b off sz, a = ⟨b, off, none⟩ ∧ concRows Γ b sz off ys)) :
    ∃ news, concAll Γ ys.flatten news ∧ news.length = ys.length * size ∧ (y = .slice none 0 0 ∧ ys = [] ∨ ∃ a cap, y = .slice (some a) ys.length cap ∧ ∀ (j : Nat) (v : Value), news[j]? = some v → Γ.w.cell? (a.add j) = some v) := by
  rcases h with ⟨rfl, rfl⟩ | ⟨a, cap, rfl, h2, h3⟩
  · exact ⟨[], by simp [concAll], by simp, .inl ⟨rfl, rfl⟩⟩
  · rcases h3 with rfl | ⟨b, off, sz, rfl, hrows⟩
    · exact ⟨[], by simp [concAll], by simp, .inr ⟨a, cap, rfl, by simp⟩⟩
    · obtain ⟨news, g1, g2, g3⟩ := concRows_cells hrows
      refine ⟨news, g1, ?_, .inr ⟨_, cap, rfl, fun j v hj => by rw [add_off]; exact g3 j v hj⟩⟩
      rw [concAll_length g1, flatten_length hl]

end Go.Nx
