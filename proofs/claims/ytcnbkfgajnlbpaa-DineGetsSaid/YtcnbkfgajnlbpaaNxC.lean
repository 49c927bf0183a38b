/- How a heap that is known stays known: a new object, a store, an append. -/
import Derived.Test.YtcnbkfgajnlbpaaNxB
namespace Go.Nx
set_option linter.unusedVariables false
set_option linter.unusedSimpArgs false

theorem add_off (b o n : Nat) : (⟨b, o, none⟩ : Addr).add n = ⟨b, o + n, none⟩ := by
  unfold Addr.add; split <;> simp_all

theorem cell_of {w : World} {b : Nat} {cells : Array Value} {T : TypeId} {fr : Nat × Nat} (h : w.heap[b]? = some (.cells cells T fr)) (j : Nat) : w.cell? ⟨b, j, none⟩ = cells[j]? := by
  simp [World.cell?, h]

theorem cell_heap {w w' : World} {b : Nat} (h : w'.heap[b]? = w.heap[b]?) (j : Nat) : w'.cell? ⟨b, j, none⟩ = w.cell? ⟨b, j, none⟩ := by
  simp [World.cell?, h]

theorem conc_one {Γ : Ctx} {l : Leaf} {y : Value} (h : conc Γ l y) : y.oneCell' = true := by
  cases l with
  | v x => simp only [conc] at h; rw [h.1]; exact h.2
  | slv rows =>
    simp only [conc] at h
    rcases h with ⟨rfl, _⟩ | ⟨a, cap, sz, rfl, _⟩ <;> rfl
  | ptr a b c d => simp only [conc] at h; obtain ⟨inf, ver', p, h1, h2, rfl, h3⟩ := h; rfl
  | sl a b c d => simp only [conc] at h; obtain ⟨inf, ver', p, q, h1, h2, rfl, h3⟩ := h; rfl
  | fptr rows i k => simp only [conc] at h; obtain ⟨b, off, sz, rfl, _⟩ := h; rfl
  | slq rows => simp only [conc] at h; obtain ⟨a, cap, sz, rfl, _⟩ := h; rfl
  | clo f c => simp only [conc] at h; obtain ⟨ys, rfl, _⟩ := h; rfl

theorem concAll_one {Γ : Ctx} : ∀ {ls : List Leaf} {ys : List Value}, concAll Γ ls ys → ∀ y ∈ ys, y.oneCell' = true
  | [], ys, h => by simp only [concAll] at h; subst h; simp
  | l :: ls, ys, h => by
    simp only [concAll] at h
    obtain ⟨y, ys', rfl, h2, h3⟩ := h
    intro z hz
    rcases List.mem_cons.1 hz with rfl | hz
    · exact conc_one h2
    · exact concAll_one h3 z hz

/-- An object that nobody touched is as it was. -/
theorem ObOk.keep {Γ Γ' : Ctx} (hle : Γ.Le Γ') {h : Nat} {o : Ob} (hs : ∀ ver z rows, o = .live ver z rows → Γ'.hs[h]? = Γ.hs[h]?)
    (hb : ∀ ver z rows inf b, o = .live ver z rows → Γ.hs[h]? = some (inf, ver) → inf.base = some b → Γ.X b → ¬ Γ.F b → Γ'.w.heap[b]? = Γ.w.heap[b]? ∧ ¬ Γ'.F b ∧ Γ'.X b) (ho : ObOk Γ h o) : ObOk Γ' h o := by
  cases o with
  | dead => trivial
  | live ver z rows =>
    obtain ⟨inf, h1, hm, h2⟩ := ho
    refine ⟨inf, (hs ver z rows rfl).trans h1, hm, ?_⟩
    cases hbase : inf.base with
    | none => simp only [hbase] at h2 ⊢; exact h2
    | some b =>
      simp only [hbase] at h2 ⊢
      obtain ⟨hzz, hx, hf, hc, hsz, cells, T, hh, hcs, hrows⟩ := h2
      obtain ⟨g1, g2, g3⟩ := hb ver z rows inf b rfl h1 hbase hx hf
      exact ⟨hzz, g3, g2, hc, hsz, cells, T, g1.trans hh, hcs, concRows_of hle b inf.sz _ rows (fun j _ _ => cell_heap g1 j) hrows⟩

/-- The rows of an object that is there. -/
theorem obj_some {H : List Ob} {h ver : Nat} {z : Nat} {rows : List (List Leaf)} (ho : obj H h ver = some (z, rows)) : H[h]? = some (.live ver z rows) := by
  unfold obj at ho
  split at ho
  · rename_i v z' r hr
    split at ho
    · rename_i hv; subst hv; cases ho; exact hr
    · cases ho
  · cases ho

theorem HeapOk.obj {Γ : Ctx} {H : List Ob} (hok : HeapOk Γ H) {h ver : Nat} {z : Nat} {rows : List (List Leaf)} (ho : obj H h ver = some (z, rows)) : ObOk Γ h (.live ver z rows) := hok.ob h _ (obj_some ho)

/-- The context, with a new block that is the call's own. -/
def Ctx.alloc (Γ : Ctx) (cells : Array Value) (T : TypeId) (inf : Info) : Ctx :=
  { w := Γ.w.alloc (.cells cells T), F := Γ.F, X := fun b => Γ.X b ∨ b = Γ.w.heap.size, hs := Γ.hs ++ [(inf, 0)] }

theorem Le_alloc {Γ : Ctx} {H : List Ob} (hok : HeapOk Γ H) (cells : Array Value) (T : TypeId) (inf : Info) : Γ.Le (Γ.alloc cells T inf) where
  F _ h := h
  mem b hb := heap_alloc_old Γ.w _ b (hok.F b hb)
  hs h i v hh := ⟨i, v, by
    have hlt : h < Γ.hs.length := (List.getElem?_eq_some_iff.1 hh).1
    simp only [Ctx.alloc]
    rw [List.getElem?_append_left hlt]; exact hh, Nat.le_refl _, fun _ => rfl⟩

theorem Ext_alloc {Γ : Ctx} {H : List Ob} (hok : HeapOk Γ H) (cells : Array Value) (T : TypeId) (inf : Info) : Γ.Ext (Γ.alloc cells T inf) where
  le := Le_alloc hok cells T inf
  os := rfl
  tape := rfl
  output := rfl
  size := by simp [Ctx.alloc]
  frame b hb _ := heap_alloc_old Γ.w _ b hb
  Fnew b hb := .inl hb
  Xnew b hb := by
    rcases hb with hb | hb
    · exact .inl hb
    · exact .inr (by omega)

theorem HeapOk_alloc {Γ : Ctx} {H : List Ob} (hok : HeapOk Γ H) (cells : Array Value) (T : TypeId) (cap sz : Nat) (rows : List (List Leaf)) (hcap : cap ≤ maxLen) (hrc : rows.length ≤ cap) (hsz : 0 < sz)
    (hsize : cap * sz ≤ cells.size) (hl : ∀ r ∈ rows, r.length = sz) (ys : List Value) (hys : concAll Γ rows.flatten ys) (hpre : ∀ (k : Nat) (y : Value), ys[k]? = some y → cells[k]? = some y) :
    HeapOk (Γ.alloc cells T ⟨some Γ.w.heap.size, 0, cap, sz⟩) (H ++ [.live 0 sz rows]) := by
  have hle := Le_alloc hok cells T ⟨some Γ.w.heap.size, 0, cap, sz⟩
  have hnew : (Γ.alloc cells T ⟨some Γ.w.heap.size, 0, cap, sz⟩).w.heap[Γ.w.heap.size]? = some (.cells cells T (0, 0)) := heap_alloc_new Γ.w _
  have hrows : concRows (Γ.alloc cells T ⟨some Γ.w.heap.size, 0, cap, sz⟩) Γ.w.heap.size sz 0 rows := by
    have hys' := concAll_mono hle _ _ hys
    clear hys
    have key : ∀ (rs : List (List Leaf)) (off : Nat) (zs : List Value), (∀ r ∈ rs, r.length = sz) → concAll (Γ.alloc cells T ⟨some Γ.w.heap.size, 0, cap, sz⟩) rs.flatten zs → (∀ (k : Nat) (y : Value), zs[k]? = some y → cells[off + k]? = some y) →
        concRows (Γ.alloc cells T ⟨some Γ.w.heap.size, 0, cap, sz⟩) Γ.w.heap.size sz off rs := by
      intro rs
      induction rs with
      | nil => intro off zs _ _ _; simp [concRows]
      | cons r rs ih =>
        intro off zs hlen hz hc
        simp only [concRows]
        have hr := hlen r (by simp)
        have h1 := concAll_take hz r.length
        have h2 := concAll_drop hz r.length
        simp only [List.flatten_cons, List.take_left, List.drop_left] at h1 h2
        refine ⟨hr, concRow_mk fun k l hk => ?_, ih (off + sz) _ (fun x hx => hlen x (by simp [hx])) h2 fun k y hk => ?_⟩
        · obtain ⟨y, g1, g2⟩ := concAll_get h1 hk
          refine ⟨y, ?_, g2⟩
          rw [cell_of hnew]
          rw [List.getElem?_take] at g1
          split at g1
          · exact hc k y g1
          · cases g1
        · rw [List.getElem?_drop] at hk
          have := hc _ y hk
          rwa [show off + sz + k = off + (r.length + k) by omega]
    exact key rows 0 ys hl hys' (fun k y hk => by simpa using hpre k y hk)
  refine ⟨by simp [Ctx.alloc, hok.len], fun h o ho => ?_, fun h h' v v' z1 z2 r r' inf inf' b h1 h2 h3 h4 h5 h6 => ?_, fun b hb => ?_, fun b hb => ?_⟩
  · by_cases hlt : h < H.length
    · rw [List.getElem?_append_left hlt] at ho
      refine ObOk.keep hle (fun _ _ _ _ => ?_) (fun ver z rows inf b _ _ _ hx hf => ⟨heap_alloc_old Γ.w _ b (hok.X b hx), hf, .inl hx⟩) (hok.ob h o ho)
      simp only [Ctx.alloc]
      rw [List.getElem?_append_left (by rw [← hok.len]; exact hlt)]
    · have he : h = H.length := by
        have := (List.getElem?_eq_some_iff.1 ho).1
        simp at this; omega
      subst he
      simp at ho
      subst ho
      refine ⟨⟨some Γ.w.heap.size, 0, cap, sz⟩, by simp [Ctx.alloc, hok.len], hcap, ?_⟩
      refine ⟨rfl, .inr rfl, fun hf => ?_, hrc, hsz, cells, T, hnew, by simpa using hsize, hrows⟩
      have := hok.F _ hf
      omega
  · simp only [Ctx.alloc] at h3 h4
    have old : ∀ (n : Nat) (vv zz : Nat) (rr : List (List Leaf)) (ii : Info), (H ++ [Ob.live 0 sz rows])[n]? = some (.live vv zz rr) → (Γ.hs ++ [((⟨some Γ.w.heap.size, 0, cap, sz⟩ : Info), 0)])[n]? = some (ii, vv) →
        (n < H.length ∧ H[n]? = some (.live vv zz rr) ∧ Γ.hs[n]? = some (ii, vv)) ∨ (n = H.length ∧ ii.base = some Γ.w.heap.size) := by
      intro n vv zz rr ii e1 e2
      by_cases hlt : n < H.length
      · rw [List.getElem?_append_left hlt] at e1
        rw [List.getElem?_append_left (by rw [← hok.len]; exact hlt)] at e2
        exact .inl ⟨hlt, e1, e2⟩
      · have he : n = H.length := by
          have := (List.getElem?_eq_some_iff.1 e1).1
          simp at this; omega
        subst he
        rw [hok.len] at e2
        simp at e2
        exact .inr ⟨rfl, by rw [← e2.1]⟩
    have less : ∀ (n vv zz : Nat) (rr : List (List Leaf)) (ii : Info), H[n]? = some (.live vv zz rr) → Γ.hs[n]? = some (ii, vv) → ii.base = some b → b < Γ.w.heap.size := by
      intro n vv zz rr ii e1 e2 e3
      obtain ⟨i2, g1, _, g2⟩ := hok.ob n _ e1
      rw [e2] at g1
      cases g1
      simp only [e3] at g2
      exact hok.X b g2.2.1
    rcases old h v z1 r inf h1 h3 with ⟨a1, a2, a3⟩ | ⟨a1, a2⟩ <;> rcases old h' v' z2 r' inf' h2 h4 with ⟨b1, b2, b3⟩ | ⟨b1, b2⟩
    · exact hok.apart h h' v v' z1 z2 r r' inf inf' b a2 b2 a3 b3 h5 h6
    · have := less h v z1 r inf a2 a3 h5
      rw [b2] at h6
      cases h6
      omega
    · have := less h' v' z2 r' inf' b2 b3 h6
      rw [a2] at h5
      cases h5
      omega
    · omega
  · have := hok.F b hb
    simp [Ctx.alloc]; omega
  · rcases hb with hb | hb
    · have := hok.X b hb
      simp [Ctx.alloc]; omega
    · simp [Ctx.alloc, hb]

/-- The context, with a nil slice that the call may append to. -/
def Ctx.nilOb (Γ : Ctx) : Ctx := { Γ with hs := Γ.hs ++ [(⟨none, 0, 0, 0⟩, 0)] }

theorem Le_nilOb (Γ : Ctx) : Γ.Le Γ.nilOb where
  F _ h := h
  mem b _ := rfl
  hs h i v hh := ⟨i, v, by
    have hlt : h < Γ.hs.length := (List.getElem?_eq_some_iff.1 hh).1
    simp only [Ctx.nilOb]
    rw [List.getElem?_append_left hlt]; exact hh, Nat.le_refl _, fun _ => rfl⟩

theorem Ext_nilOb (Γ : Ctx) : Γ.Ext Γ.nilOb where
  le := Le_nilOb Γ
  os := rfl
  tape := rfl
  output := rfl
  size := Nat.le_refl _
  frame b hb _ := rfl
  Fnew b hb := .inl hb
  Xnew b hb := .inl hb

theorem HeapOk_nilOb {Γ : Ctx} {H : List Ob} (hok : HeapOk Γ H) (sz : Nat) : HeapOk Γ.nilOb (H ++ [.live 0 sz []]) := by
  refine ⟨by simp [Ctx.nilOb, hok.len], fun h o ho => ?_, fun h h' v v' z1 z2 r r' inf inf' b h1 h2 h3 h4 h5 h6 => ?_, hok.F, hok.X⟩
  · by_cases hlt : h < H.length
    · rw [List.getElem?_append_left hlt] at ho
      refine ObOk.keep (Le_nilOb Γ) (fun _ _ _ _ => ?_) (fun ver z rows inf b _ _ _ hx hf => ⟨rfl, hf, hx⟩) (hok.ob h o ho)
      simp only [Ctx.nilOb]
      rw [List.getElem?_append_left (by rw [← hok.len]; exact hlt)]
    · have he : h = H.length := by
        have := (List.getElem?_eq_some_iff.1 ho).1
        simp at this; omega
      subst he
      simp at ho
      subst ho
      exact ⟨⟨none, 0, 0, 0⟩, by simp [Ctx.nilOb, hok.len], Nat.zero_le _, rfl⟩
  · simp only [Ctx.nilOb] at h3 h4
    have old : ∀ (n : Nat) (vv zz : Nat) (rr : List (List Leaf)) (ii : Info), ii.base = some b → (H ++ [Ob.live 0 sz []])[n]? = some (.live vv zz rr) → (Γ.hs ++ [((⟨none, 0, 0, 0⟩ : Info), 0)])[n]? = some (ii, vv) →
        H[n]? = some (.live vv zz rr) ∧ Γ.hs[n]? = some (ii, vv) := by
      intro n vv zz rr ii e0 e1 e2
      by_cases hlt : n < H.length
      · rw [List.getElem?_append_left hlt] at e1
        rw [List.getElem?_append_left (by rw [← hok.len]; exact hlt)] at e2
        exact ⟨e1, e2⟩
      · have he : n = H.length := by
          have := (List.getElem?_eq_some_iff.1 e1).1
          simp at this; omega
        subst he
        rw [hok.len] at e2
        simp at e2
        rw [← e2.1] at e0
        cases e0
    obtain ⟨a1, a2⟩ := old h v z1 r inf h5 h1 h3
    obtain ⟨b1, b2⟩ := old h' v' z2 r' inf' h6 h2 h4
    exact hok.apart h h' v v' z1 z2 r r' inf inf' b a1 b1 a2 b2 h5 h6

/-- An object of the call's own is turned: its block written, or another block taken for it. -/
theorem HeapOk_turn {Γ Γ' : Ctx} {H : List Ob} (hok : HeapOk Γ H) {h ver ver' z z' : Nat} {rows rows' : List (List Leaf)} {inf inf' : Info} {b' : Nat} (ho : H[h]? = some (.live ver z rows)) (hin : Γ.hs[h]? = some (inf, ver))
    (hle : Γ.Le Γ') (hs : Γ'.hs = Γ.hs.set h (inf', ver')) (hF : Γ'.F = Γ.F) (hX : ∀ b, Γ'.X b ↔ (Γ.X b ∨ b = b')) (hsize : Γ.w.heap.size ≤ Γ'.w.heap.size)
    (hb' : inf'.base = some b') (hmem : ∀ b, b < Γ.w.heap.size → b ≠ b' → Γ'.w.heap[b]? = Γ.w.heap[b]?) (hown : inf.base = some b' ∨ b' = Γ.w.heap.size) (hlt : b' < Γ'.w.heap.size)
    (hcap : inf'.cap ≤ maxLen) (hrc : rows'.length ≤ inf'.cap) (hsz : 0 < inf'.sz) (hz' : inf'.sz = z') (cells : Array Value) (T : TypeId) (hcell : Γ'.w.heap[b']? = some (.cells cells T (0, 0))) (hcs : inf'.off + inf'.cap * inf'.sz ≤ cells.size)
    (hrows : concRows Γ' b' inf'.sz inf'.off rows') : HeapOk Γ' (H.set h (.live ver' z' rows')) := by
  have hh : h < H.length := (List.getElem?_eq_some_iff.1 ho).1
  have hother : ∀ (n vv zz : Nat) (rr : List (List Leaf)) (ii : Info), n ≠ h → H[n]? = some (.live vv zz rr) → Γ.hs[n]? = some (ii, vv) → ii.base ≠ some b' := by
    intro n vv zz rr ii hn e1 e2 e3
    rcases hown with hown | hown
    · exact hn (hok.apart n h vv ver zz z rr rows ii inf b' e1 ho e2 hin e3 hown)
    · obtain ⟨i2, g1, _, g2⟩ := hok.ob n _ e1
      rw [e2] at g1
      cases g1
      simp only [e3] at g2
      have := hok.X b' g2.2.1
      omega
  have hnF : ¬ Γ.F b' := by
    rcases hown with hown | hown
    · obtain ⟨i2, g1, _, g2⟩ := hok.ob h _ ho
      rw [hin] at g1
      cases g1
      simp only [hown] at g2
      exact g2.2.2.1
    · intro hf
      have := hok.F _ hf
      omega
  refine ⟨by rw [hs]; simp [hok.len], fun n o hn => ?_, fun n n' v v' z1 z2 r r' i1 i2 b h1 h2 h3 h4 h5 h6 => ?_, fun b hb => ?_, fun b hb => ?_⟩
  · by_cases he : n = h
    · subst he
      rw [List.getElem?_set_self hh] at hn
      cases hn
      refine ⟨inf', by rw [hs, List.getElem?_set_self (by rw [← hok.len]; exact hh)], hcap, ?_⟩
      rw [hb']
      exact ⟨hz', (hX b').2 (.inr rfl), by rw [hF]; exact hnF, hrc, hsz, cells, T, hcell, hcs, hrows⟩
    · rw [List.getElem?_set_ne (fun e => he e.symm)] at hn
      refine ObOk.keep hle (fun _ _ _ _ => by rw [hs, List.getElem?_set_ne (fun e => he e.symm)]) (fun vv zz rr ii b e1 e2 e3 hx hf => ?_) (hok.ob n o hn)
      subst e1
      have hne : b ≠ b' := fun e => hother n vv zz rr ii he hn e2 (by rw [e3, e])
      exact ⟨hmem b (hok.X b hx) hne, by rw [hF]; exact hf, (hX b).2 (.inl hx)⟩
  · rw [hs] at h3 h4
    by_cases e1 : n = h
    · by_cases e2 : n' = h
      · omega
      · subst e1
        rw [List.getElem?_set_ne (fun e => e2 e.symm)] at h2 h4
        rw [List.getElem?_set_self (by rw [← hok.len]; exact hh)] at h3
        cases h3
        rw [hb'] at h5
        cases h5
        exact absurd h6 (hother n' v' z2 r' i2 e2 h2 h4)
    · rw [List.getElem?_set_ne (fun e => e1 e.symm)] at h1 h3
      by_cases e2 : n' = h
      · subst e2
        rw [List.getElem?_set_self (by rw [← hok.len]; exact hh)] at h4
        cases h4
        rw [hb'] at h6
        cases h6
        exact absurd h5 (hother n v z1 r i1 e1 h1 h3)
      · rw [List.getElem?_set_ne (fun e => e2 e.symm)] at h2 h4
        exact hok.apart n n' v v' z1 z2 r r' i1 i2 b h1 h2 h3 h4 h5 h6
  · rw [hF] at hb
    exact Nat.lt_of_lt_of_le (hok.F b hb) hsize
  · rcases (hX b).1 hb with hb | hb
    · exact Nat.lt_of_lt_of_le (hok.X b hb) hsize
    · rw [hb]; exact hlt

end Go.Nx
