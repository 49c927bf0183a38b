/- Append. -/
import Derived.Test.YtcnbkfgajnlbpaaNxE
namespace Go.Nx
set_option linter.unusedVariables false
set_option linter.unusedSimpArgs false

theorem se_spec {P : Program} {t e : TypeId} {size bytes : Nat} {z : List Leaf} (h : se P t = some (e, size, bytes, z)) :
    P.underlying t = some (.slice e) ∧ ∃ i zv, P.info? e = some i ∧ i.size = size ∧ i.bytes = bytes ∧ i.zero = some zv ∧ zv.cells.size = size ∧ leaves zv = some z := by
  unfold se at h
  split at h
  · rename_i e' hu
    split at h
    · rename_i i z' hi hz
      simp only [Option.some.injEq, Prod.mk.injEq] at h
      obtain ⟨rfl, rfl, rfl, rfl⟩ := h
      unfold zc at hz
      rw [hi] at hz
      simp only at hz
      split at hz
      · rename_i zv hzv
        split at hz
        · rename_i hs
          exact ⟨hu, i, zv, hi, rfl, rfl, hzv, hs, hz⟩
        · cases hz
      · cases hz
    · cases h
  · cases h

/-- What is appended: nothing, or what lies somewhere. -/
def Src (w : World) (m : Nat) (news : List Value) (x : Value) : Prop :=
  (x = .slice none 0 0 ∧ m = 0 ∧ news = []) ∨ ∃ a c, x = .slice (some a) m c ∧ ∀ (j : Nat) (v : Value), news[j]? = some v → w.cell? (a.add j) = some v

theorem run_appended {P : Program} {w : World} {m size : Nat} {news : List Value} {x : Value} (hs : Src w m news x) (hl : news.length = m * size) :
    (Builtin.lenOf x).run P w = .ok m w ∧ ∀ w', w'.heap = w.heap → (Builtin.firstCells size m x).run P w' = .ok news.toArray w' := by
  rcases hs with ⟨rfl, rfl, rfl⟩ | ⟨a, c, rfl, hc⟩
  · exact ⟨by simp [Builtin.lenOf], fun w' _ => by simp [Builtin.firstCells]⟩
  · refine ⟨by simp [Builtin.lenOf], fun w' hw => run_firstCells_some (P := P) w' size m a m c news hl fun j v hj => ?_⟩
    rw [← hc j v hj]
    simp [World.cell?, hw]

theorem run_append_fits {P : Program} {w : World} {t ty e : TypeId} {i : TypeInfo} (ht : P.underlying t = some (.slice e)) (hi : P.info? e = some i) {m : Nat} {news : List Value} {x : Value} (hs : Src w m news x)
    (hl : news.length = m * i.size) (h1 : ∀ v ∈ news, v.oneCell' = true) (base : Option Addr) (n c : Nat) (hroom : n + m ≤ c)
    (hb : m = 0 ∨ ∃ b o cells T, base = some ⟨b, o, none⟩ ∧ w.heap[b]? = some (.cells cells T (0, 0)) ∧ o + n * i.size + news.length ≤ cells.size) :
    ∃ w', (Builtin.append_ #[t, t] ty #[.slice base n c, x]).run P w = .ok (.slice base (n + m) c) w' ∧
      ((m = 0 ∧ w' = w) ∨ ∃ b o cells T, base = some ⟨b, o, none⟩ ∧ w.heap[b]? = some (.cells cells T (0, 0)) ∧ o + n * i.size + news.length ≤ cells.size ∧ w' = w.setRow b (spliced cells.toList (o + n * i.size) news).toArray) := by
  obtain ⟨g1, g2⟩ := run_appended (P := P) hs hl
  have g3 := g2 w rfl
  rcases hb with rfl | ⟨b, o, cells, T, rfl, hh, hfit⟩
  · have hn : news = [] := List.eq_nil_of_length_eq_zero (by simpa using hl)
    subst hn
    refine ⟨w, ?_, .inl ⟨rfl, rfl⟩⟩
    cases base with
    | none => 
      simp only [Nat.add_zero] at hroom
      simp [Builtin.append_, run_underlying ht, sizeOf, typeInfo, hi, g1, hroom, g3]
    | some a => 
      simp only [Nat.add_zero] at hroom
      simp [Builtin.append_, run_underlying ht, sizeOf, typeInfo, hi, g1, hroom, g3, storeCells]
  · refine ⟨_, ?_, .inr ⟨b, o, cells, T, rfl, hh, hfit, rfl⟩⟩
    have hst := run_storeCells_at P b (o + n * i.size) T news 0 cells w hh (by simpa using hfit) h1
    simp only [Nat.add_zero] at hst
    simp [Builtin.append_, run_underlying ht, sizeOf, typeInfo, hi, g1, hroom, g3, add_off, hst, spliced]

theorem run_append_grows {P : Program} {w : World} {t ty e : TypeId} {i : TypeInfo} {z : Value} (ht : P.underlying t = some (.slice e)) (hi : P.info? e = some i) (hz : i.zero = some z) {m : Nat} {news : List Value} {x : Value} (hs : Src w m news x)
    (hl : news.length = m * i.size) (base : Option Addr) (n c : Nat) (olds : List Value) (hlo : olds.length = n * i.size) (hold : olds = [] ∨ ∃ a, base = some a ∧ ∀ (j : Nat) (v : Value), olds[j]? = some v → w.cell? (a.add j) = some v)
    (hg : c < n + m) (h63 : n + m ≤ maxLen) (hbytes : (n + m) * i.bytes ≤ 140737488355328) :
    (Builtin.append_ #[t, t] ty #[.slice base n c, x]).run P w = .ok (.slice (some ⟨w.heap.size, 0, none⟩) (n + m) (grownCap w (n + m) c e))
      (w.drew.alloc (.cells ((olds ++ news).toArray ++ Builtin.zeroCells z.cells (grownCap w (n + m) c e - (n + m))) e)) := by
  obtain ⟨g1, g2⟩ := run_appended (P := P) hs hl
  have g3 := g2 w.drew rfl
  have hn : ¬ (n + m ≤ c) := by omega
  have h63' : ¬ (9223372036854775807 < ((n : Int) + (m : Int))) := by unfold maxLen at h63; omega
  have hfit := growslice_fits hg hbytes
  have h48' : ¬ (281474976710656 < Builtin.nextslicecap (n + m) c * i.bytes) := by omega
  have hfo : (Builtin.firstCells i.size n (.slice base n c)).run P w.drew = .ok olds.toArray w.drew := by
    rcases hold with rfl | ⟨a, rfl, hc⟩
    · have h0 : n * i.size = 0 := by simpa using hlo.symm
      cases base with
      | none => simp [Builtin.firstCells]
      | some a => simp [Builtin.firstCells, loadCells, h0, loadCellsFrom]
    · exact run_firstCells_some (P := P) w.drew i.size n a n c olds hlo (by simpa using hc)
  simp [Builtin.append_, run_underlying ht, sizeOf, typeInfo, zeroValue, hi, hz, g1, hn, h63', h48', Question.forced, g3, hfo, newRow, grownCap]
  congr 2
  apply Array.ext'
  simp [List.append_assoc]

theorem Src.of {Γ : Ctx} {ys : List (List Leaf)} {news : List Value} {x : Value} {size : Nat} (hl : news.length = ys.length * size)
    (h : x = .slice none 0 0 ∧ ys = [] ∨ ∃ a cap, x = .slice (some a) ys.length cap ∧ ∀ (j : Nat) (v : Value), news[j]? = some v → Γ.w.cell? (a.add j) = some v) : Src Γ.w ys.length news x := by
  rcases h with ⟨rfl, rfl⟩ | ⟨a, cap, rfl, h⟩
  · exact .inl ⟨rfl, rfl, List.eq_nil_of_length_eq_zero (by simpa using hl)⟩
  · exact .inr ⟨a, cap, rfl, h⟩

theorem get_append_pre {xs zs : List Value} {ys : Array Value} (h : ys = xs.toArray ++ zs.toArray) : ∀ (k : Nat) (y : Value), xs[k]? = some y → ys[k]? = some y := by
  intro k y hk
  subst h
  have hlt : k < xs.length := (List.getElem?_eq_some_iff.1 hk).1
  simp [List.getElem?_append_left hlt, hk]

/-- The context in which an object's version goes on, and nothing else. -/
def Ctx.bump (Γ : Ctx) (h : Nat) (inf : Info) (ver : Nat) : Ctx := { Γ with hs := Γ.hs.set h (inf, ver) }

theorem Le_bump {Γ : Ctx} {h : Nat} {inf inf0 : Info} {ver ver0 : Nat} (h0 : Γ.hs[h]? = some (inf0, ver0)) (hv : ver0 < ver) : Γ.Le (Γ.bump h inf ver) where
  F _ h := h
  mem _ _ := rfl
  hs n i v hn := by
    by_cases he : n = h
    · subst he
      rw [h0] at hn
      cases hn
      refine ⟨inf, ver, ?_, by omega, fun e => by omega⟩
      simp only [Ctx.bump]
      rw [List.getElem?_set_self (List.getElem?_eq_some_iff.1 h0).1]
    · refine ⟨i, v, ?_, Nat.le_refl _, fun _ => rfl⟩
      simp only [Ctx.bump]
      rw [List.getElem?_set_ne (fun e => he e.symm)]
      exact hn

theorem HeapOk_bump {Γ : Ctx} {H : List Ob} (hok : HeapOk Γ H) {h ver z z' : Nat} {rows : List (List Leaf)} {inf : Info} (ho : H[h]? = some (.live ver z rows)) (hin : Γ.hs[h]? = some (inf, ver)) (hb : inf.base = none) :
    HeapOk (Γ.bump h inf (ver + 1)) (H.set h (.live (ver + 1) z' [])) := by
  have hle := Le_bump (Γ := Γ) (inf := inf) (ver := ver + 1) hin (by omega)
  have hhl : h < H.length := (List.getElem?_eq_some_iff.1 ho).1
  have hhs : h < Γ.hs.length := (List.getElem?_eq_some_iff.1 hin).1
  refine ⟨by simp [Ctx.bump, hok.len], fun n o hn => ?_, fun n n' v1 v2 z1 z2 r1 r2 i1 i2 bb q1 q2 q3 q4 q5 q6 => ?_, hok.F, hok.X⟩
  · by_cases he : n = h
    · subst he
      rw [List.getElem?_set_self hhl] at hn
      cases hn
      obtain ⟨i2, g1, g2, _⟩ := hok.ob n _ ho
      rw [hin] at g1
      cases g1
      exact ⟨inf, by simp [Ctx.bump, hhs], g2, by simp [hb]⟩
    · rw [List.getElem?_set_ne (fun e => he e.symm)] at hn
      exact (hok.ob n o hn).keep hle (fun _ _ _ _ => by simp only [Ctx.bump]; rw [List.getElem?_set_ne (fun e => he e.symm)]) (fun _ _ _ _ _ _ _ _ hx hf => ⟨rfl, hf, hx⟩)
  · simp only [Ctx.bump] at q3 q4
    by_cases e1 : n = h
    · subst e1
      rw [List.getElem?_set_self hhs] at q3
      cases q3
      rw [hb] at q5
      cases q5
    · by_cases e2 : n' = h
      · subst e2
        rw [List.getElem?_set_self hhs] at q4
        cases q4
        rw [hb] at q6
        cases q6
      · rw [List.getElem?_set_ne (fun e => e1 e.symm)] at q1 q3
        rw [List.getElem?_set_ne (fun e => e2 e.symm)] at q2 q4
        exact hok.apart n n' v1 v2 z1 z2 r1 r2 i1 i2 bb q1 q2 q3 q4 q5 q6

/-- Behind an append that took a new block: the object lies there now. -/
theorem HeapOk_moved {Γ : Ctx} {H : List Ob} (hok : HeapOk Γ H) {h ver z : Nat} {rows new : List (List Leaf)} {inf : Info} (ho : H[h]? = some (.live ver z rows)) (hin : Γ.hs[h]? = some (inf, ver))
    (cells : Array Value) (T : TypeId) (cap sz : Nat) (hcap : cap ≤ maxLen) (hrc : new.length ≤ cap) (hsz : 0 < sz) (hsize : cap * sz ≤ cells.size) (hl : ∀ r ∈ new, r.length = sz)
    (ys : List Value) (hys : concAll Γ new.flatten ys) (hpre : ∀ (k : Nat) (y : Value), ys[k]? = some y → cells[k]? = some y) :
    Γ.Ext (Γ.turn (Γ.w.alloc (.cells cells T)) h ⟨some Γ.w.heap.size, 0, cap, sz⟩ (ver + 1) Γ.w.heap.size) ∧
    HeapOk (Γ.turn (Γ.w.alloc (.cells cells T)) h ⟨some Γ.w.heap.size, 0, cap, sz⟩ (ver + 1) Γ.w.heap.size) (H.set h (.live (ver + 1) sz new)) := by
  have hnew : (Γ.w.alloc (.cells cells T)).heap[Γ.w.heap.size]? = some (.cells cells T (0, 0)) := heap_alloc_new Γ.w _
  have hle : Γ.Le (Γ.turn (Γ.w.alloc (.cells cells T)) h ⟨some Γ.w.heap.size, 0, cap, sz⟩ (ver + 1) Γ.w.heap.size) := Le_turn hin (.inl (by omega)) (fun b hb => heap_alloc_old Γ.w _ b (hok.F b hb))
  have hrows : concRows (Γ.turn (Γ.w.alloc (.cells cells T)) h ⟨some Γ.w.heap.size, 0, cap, sz⟩ (ver + 1) Γ.w.heap.size) Γ.w.heap.size sz 0 new := by
    -- the new block, seen in the context with one object more, then forgotten
    have h0 := HeapOk_alloc hok cells T cap sz new hcap hrc hsz hsize hl ys hys hpre
    have h1 := h0.ob H.length (.live 0 sz new) (by simp)
    obtain ⟨i2, g1, _, g2⟩ := h1
    simp only [Ctx.alloc, hok.len, List.getElem?_append_right (Nat.le_refl _), Nat.sub_self, List.getElem?_cons_zero, Option.some.injEq, Prod.mk.injEq, and_true] at g1
    subst g1
    have key : ∀ (rs : List (List Leaf)) (off : Nat) (zs : List Value), (∀ r ∈ rs, r.length = sz) → concAll (Γ.turn (Γ.w.alloc (.cells cells T)) h ⟨some Γ.w.heap.size, 0, cap, sz⟩ (ver + 1) Γ.w.heap.size) rs.flatten zs → (∀ (k : Nat) (y : Value), zs[k]? = some y → cells[off + k]? = some y) →
        concRows (Γ.turn (Γ.w.alloc (.cells cells T)) h ⟨some Γ.w.heap.size, 0, cap, sz⟩ (ver + 1) Γ.w.heap.size) Γ.w.heap.size sz off rs := by
      intro rs
      induction rs with
      | nil => intro off zs _ _ _; simp [concRows]
      | cons r rs ih =>
        intro off zs hlen hz hc
        simp only [concRows]
        have hr := hlen r (by simp)
        have h1 := concAll_take hz r.length
        have h2 := concAll_drop hz r.length
        simp only [List.flatten_cons, List.take_left, List.drop_left] at h1 h2
        refine ⟨hr, concRow_mk fun k l hk => ?_, ih (off + sz) _ (fun x hx => hlen x (by simp [hx])) h2 fun k y hk => ?_⟩
        · obtain ⟨y, g1, g2⟩ := concAll_get h1 hk
          refine ⟨y, ?_, g2⟩
          rw [show (Γ.turn (Γ.w.alloc (.cells cells T)) h ⟨some Γ.w.heap.size, 0, cap, sz⟩ (ver + 1) Γ.w.heap.size).w = Γ.w.alloc (.cells cells T) from rfl, cell_of hnew]
          rw [List.getElem?_take] at g1
          split at g1
          · exact hc k y g1
          · cases g1
        · rw [List.getElem?_drop] at hk
          have := hc _ y hk
          rwa [show off + sz + k = off + (r.length + k) by omega]
    exact key new 0 ys hl (concAll_mono hle _ _ hys) (fun k y hk => by simpa using hpre k y hk)
  refine ⟨⟨hle, rfl, rfl, rfl, by simp [Ctx.turn], fun b hb _ => heap_alloc_old Γ.w _ b hb, fun _ h => .inl h, fun b hb => ?_⟩, ?_⟩
  · rcases hb with hb | hb
    · exact .inl hb
    · exact .inr (by omega)
  · exact HeapOk_turn (Γ' := Γ.turn (Γ.w.alloc (.cells cells T)) h ⟨some Γ.w.heap.size, 0, cap, sz⟩ (ver + 1) Γ.w.heap.size) hok ho hin hle rfl rfl (fun _ => Iff.rfl) (by simp [Ctx.turn]) rfl (fun b hb _ => heap_alloc_old Γ.w _ b hb) (.inr rfl) (by simp [Ctx.turn]) hcap hrc hsz rfl cells T hnew (by simpa using hsize) hrows

theorem append_sound {P : Program} {Γ : Ctx} {H H' : List Ob} (hok : HeapOk Γ H) {t t' ty : TypeId} {s x : Leaf} {ys yx : Value} {v : AVal} (hs : conc Γ s ys) (hx : conc Γ x yx) (h : appendV P H t t' s x = some (v, H')) :
    ∃ y Γ', (Builtin.append_ #[t, t'] ty #[ys, yx]).run P Γ.w = .ok y Γ'.w ∧ Γ.Ext Γ' ∧ HeapOk Γ' H' ∧ concV Γ' v y := by
  unfold appendV at h
  split at h
  case h_2 => cases h
  rename_i e size bytes z new hse hview
  split at h
  case isFalse => cases h
  rename_i hcond
  obtain ⟨rfl, hsz, hnl⟩ := hcond
  obtain ⟨ht, i, zv, hi, rfl, rfl, hz, hzs, hzl⟩ := se_spec hse
  obtain ⟨news, hcn, hnews, hsrc⟩ := source_spec hnl (view_spec hok hx hview)
  have hS : Src Γ.w new.length news yx := Src.of hnews hsrc
  have h1 := concAll_one hcn
  have hcapm : ∀ (need old : Nat), need ≤ maxLen → grownCap Γ.w need old e ≤ maxLen := fun need old hm => grownCap_le_maxLen Γ.w need old e hm
  split at h
  · -- to nothing
    split at h
    case isFalse => cases h
    rename_i hbd
    cases h
    simp only [conc] at hs
    obtain ⟨rfl, _⟩ := hs
    by_cases hm : new.length = 0
    · have hne : new = [] := List.eq_nil_of_length_eq_zero hm
      subst hne
      obtain ⟨w', hr, hw⟩ := run_append_fits (P := P) (ty := ty) ht hi hS hnews h1 none 0 0 (by simp) (.inl rfl)
      have : w' = Γ.w := by
        rcases hw with ⟨_, hw⟩ | ⟨b, o, cells, T, hb, _⟩
        · exact hw
        · cases hb
      subst this
      refine ⟨_, Γ.nilOb, hr, Ext_nilOb Γ, HeapOk_nilOb hok _, ?_⟩
      simp only [concV, conc]
      exact ⟨⟨none, 0, 0, 0⟩, 0, none, 0, by simp [Ctx.nilOb, hok.len], Nat.le_refl _, by simp, fun _ => .inl (by simp)⟩
    · have hr := run_append_grows (P := P) (ty := ty) ht hi hz hS hnews none 0 0 [] (by simp) (.inl rfl) (by omega) (by simpa using hbd.1) (by simpa using hbd.2)
      simp only [Nat.zero_add, List.nil_append] at hr
      have hge := grownCap_ge Γ.w new.length 0 e
      have hokd := HeapOk_drew hok
      have hext := (Ext_drew Γ).trans (Ext_alloc hokd (news.toArray ++ Builtin.zeroCells zv.cells (grownCap Γ.w new.length 0 e - new.length)) e ⟨some Γ.w.heap.size, 0, grownCap Γ.w new.length 0 e, i.size⟩)
      refine ⟨_, _, hr, hext, HeapOk_alloc hokd _ e (grownCap Γ.w new.length 0 e) i.size new (hcapm _ _ hbd.1) hge hsz ?_ hnl news (concAll_mono (Le_drew Γ) _ _ hcn) (get_append_pre (zs := (Builtin.zeroCells zv.cells (grownCap Γ.w new.length 0 e - new.length)).toList) (by simp)), ?_⟩
      · simp only [Array.size_append, List.size_toArray, size_zeroCells, hzs, hnews, ← Nat.add_mul]
        exact Nat.le_of_eq (by congr 1; omega)
      · simp only [concV, conc]
        refine ⟨_, 0, some ⟨Γ.w.heap.size, 0, none⟩, grownCap Γ.w new.length 0 e, by simp [Ctx.alloc, Ctx.drew, hok.len]; rfl, Nat.le_refl _, rfl, fun _ => .inr ⟨Γ.w.heap.size, _, rfl, rfl, by simp, by simpa using hge, fun _ => by simp⟩⟩
  · -- to what is the call's own
    rename_i h ver lo len
    split at h
    case h_2 => cases h
    rename_i zz rows ho
    split at h
    case isFalse => cases h
    rename_i hbd
    obtain ⟨hle, rfl, h63, hby⟩ := hbd
    cases h
    have hob := hok.obj ho
    obtain ⟨inf, hin, hm, hb⟩ := hob
    have hhl : h < H.length := (List.getElem?_eq_some_iff.1 (obj_some ho)).1
    have hhs : h < Γ.hs.length := by rw [← hok.len]; exact hhl
    simp only [conc] at hs
    obtain ⟨inf2, ver2, a, cap, hin2, _, rfl, hv⟩ := hs
    rw [hin] at hin2
    cases hin2
    have hv := hv rfl
    have hold_len : ((rows.drop lo).take len).length = len := by simp; omega
    by_cases hroom : len + new.length ≤ cap
    · -- it fits
      rcases hv with ⟨hbase, rfl, rfl, rfl, rfl⟩ | ⟨b, a', hbase, rfl, rfl, hlc, ha⟩
      · -- nil: nothing is appended
        have hne : new = [] := List.eq_nil_of_length_eq_zero (by omega)
        subst hne
        simp only [hbase] at hb
        subst hb
        obtain ⟨w', hr, hw⟩ := run_append_fits (P := P) (ty := ty) ht hi hS hnews h1 none 0 0 (by simp) (.inl rfl)
        have : w' = Γ.w := by
          rcases hw with ⟨_, hw⟩ | ⟨b, o, cells, T, hb, _⟩
          · exact hw
          · cases hb
        subst this
        refine ⟨_, Γ.bump h inf (ver + 1), hr, ⟨Le_bump hin (by omega), rfl, rfl, rfl, Nat.le_refl _, fun _ _ _ => rfl, fun _ h => .inl h, fun _ h => .inl h⟩, by simpa using HeapOk_bump hok (obj_some ho) hin hbase, ?_⟩
        simp only [concV, conc]
        exact ⟨inf, ver + 1, none, 0, by simp [Ctx.bump, hhs], Nat.le_refl _, by simp, fun _ => .inl (by simp [hbase])⟩
      · simp only [hbase] at hb
        obtain ⟨hzz, hX, hF, hrc, hisz, cells, T, hh, hcs, hrows⟩ := hb
        have hbl := hok.X b hX
        have hnewinf : inf.off + lo * inf.sz + (inf.cap - lo) * inf.sz ≤ cells.size := by
          rw [Nat.add_assoc, ← Nat.add_mul, show lo + (inf.cap - lo) = inf.cap by omega]; exact hcs
        by_cases hm0 : new.length = 0
        · -- nothing is appended
          have hne : new = [] := List.eq_nil_of_length_eq_zero hm0
          subst hne
          obtain ⟨w', hr, hw⟩ := run_append_fits (P := P) (ty := ty) ht hi hS hnews h1 (some a') len (inf.cap - lo) (by simpa using hroom) (.inl rfl)
          have hw' : w' = Γ.w := by
            rcases hw with ⟨_, hw⟩ | ⟨b2, o2, cells2, T2, _, hh2, _, hw⟩
            · exact hw
            · have hn0 : news = [] := List.eq_nil_of_length_eq_zero (by simpa using hnews)
              subst hn0
              rw [hw]
              have : (spliced cells2.toList (o2 + len * i.size) []).toArray = cells2 := by simp [spliced]
              rw [this]
              exact setRow_self Γ.w b2 cells2 T2 (0, 0) hh2
          subst hw'
          have hle' : Γ.Le (Γ.turn Γ.w h ⟨some b, inf.off + lo * inf.sz, inf.cap - lo, inf.sz⟩ (ver + 1) b) := Le_turn hin (.inl (by omega)) (fun _ _ => rfl)
          refine ⟨_, Γ.turn Γ.w h ⟨some b, inf.off + lo * inf.sz, inf.cap - lo, inf.sz⟩ (ver + 1) b, hr, ⟨hle', rfl, rfl, rfl, Nat.le_refl _, fun _ _ _ => rfl, fun _ h => .inl h, fun c hc => ?_⟩, ?_, ?_⟩
          · rcases hc with hc | hc
            · exact .inl hc
            · exact .inl (hc ▸ hX)
          · refine HeapOk_turn (Γ' := Γ.turn Γ.w h ⟨some b, inf.off + lo * inf.sz, inf.cap - lo, inf.sz⟩ (ver + 1) b) hok (obj_some ho) hin hle' rfl rfl (fun c => Iff.rfl) (Nat.le_refl _) rfl (fun _ _ _ => rfl) (.inl hbase) hbl (by simp only; omega) ?_ hisz hzz cells T hh hnewinf ?_
            · simp only [List.append_nil, hold_len]; omega
            · simp only [List.append_nil]
              exact concRows_mk fun k r hk => by
                have := concRows_get (concRows_take (concRows_drop hrows lo) len) hk
                exact ⟨this.1, concRow_of hle' b _ r (fun _ _ _ => rfl) this.2⟩
          · simp only [concV, conc]
            refine ⟨⟨some b, inf.off + lo * inf.sz, inf.cap - lo, inf.sz⟩, ver + 1, some a', inf.cap - lo, by simp [Ctx.turn, hhs], Nat.le_refl _, by simp, fun _ => .inr ⟨b, a', rfl, rfl, by simp, by simp; omega, fun hlt => ?_⟩⟩
            simp only at hlt
            rw [ha (by omega)]
            simp
        · have ha := ha (by omega)
          subst ha
          have hfit : inf.off + lo * inf.sz + len * i.size + news.length ≤ cells.size := by
            have h2 : (len + new.length) * inf.sz ≤ (inf.cap - lo) * inf.sz := Nat.mul_le_mul_right _ hroom
            rw [Nat.add_mul] at h2
            rw [hnews, ← hzz]
            omega
          obtain ⟨w', hr, hw⟩ := run_append_fits (P := P) (ty := ty) ht hi hS hnews h1 (some ⟨b, inf.off + lo * inf.sz, none⟩) len (inf.cap - lo) hroom (.inr ⟨b, _, cells, T, rfl, hh, hfit⟩)
          have hw' : w' = Γ.w.setRow b (spliced cells.toList (inf.off + lo * inf.sz + len * i.size) news).toArray := by
            rcases hw with ⟨h0, _⟩ | ⟨b2, o2, cells2, T2, hbo, hh2, _, hw⟩
            · exact absurd h0 hm0
            · simp only [Option.some.injEq, Addr.mk.injEq, and_true] at hbo
              obtain ⟨rfl, rfl⟩ := hbo
              rw [hh] at hh2
              cases hh2
              exact hw
          subst hw'
          have hheap' : (Γ.w.setRow b (spliced cells.toList (inf.off + lo * inf.sz + len * i.size) news).toArray).heap[b]? = some (.cells (spliced cells.toList (inf.off + lo * inf.sz + len * i.size) news).toArray T (0, 0)) := setRow_heap Γ.w b cells _ T (0, 0) hh
          have hoth : ∀ c, c ≠ b → (Γ.w.setRow b (spliced cells.toList (inf.off + lo * inf.sz + len * i.size) news).toArray).heap[c]? = Γ.w.heap[c]? := fun c hcb => setRow_other Γ.w b c _ hcb
          have hle' : Γ.Le (Γ.turn (Γ.w.setRow b (spliced cells.toList (inf.off + lo * inf.sz + len * i.size) news).toArray) h ⟨some b, inf.off + lo * inf.sz, inf.cap - lo, inf.sz⟩ (ver + 1) b) :=
            Le_turn hin (.inl (by omega)) (fun c hFc => hoth c (fun e => hF (e ▸ hFc)))
          have hsl : (spliced cells.toList (inf.off + lo * inf.sz + len * i.size) news).length = cells.size := by rw [spliced_length (by simpa using hfit)]; simp
          refine ⟨_, Γ.turn (Γ.w.setRow b (spliced cells.toList (inf.off + lo * inf.sz + len * i.size) news).toArray) h ⟨some b, inf.off + lo * inf.sz, inf.cap - lo, inf.sz⟩ (ver + 1) b, hr, ⟨hle', rfl, rfl, rfl, by simp [Ctx.turn], fun c _ hXc => hoth c (fun e => hXc (e ▸ hX)), fun _ h => .inl h, fun c hc => ?_⟩, ?_, ?_⟩
          · rcases hc with hc | hc
            · exact .inl hc
            · exact .inl (hc ▸ hX)
          · refine HeapOk_turn (Γ' := Γ.turn (Γ.w.setRow b (spliced cells.toList (inf.off + lo * inf.sz + len * i.size) news).toArray) h ⟨some b, inf.off + lo * inf.sz, inf.cap - lo, inf.sz⟩ (ver + 1) b) hok (obj_some ho) hin hle' rfl rfl (fun c => Iff.rfl) (by simp [Ctx.turn]) rfl (fun c _ hcb => hoth c hcb) (.inl hbase) (by simpa [Ctx.turn] using hbl) (by simp only; omega) ?_ hisz hzz _ T hheap' (by simp [hsl]; exact hnewinf) ?_
            · simp only [List.length_append, hold_len]; omega
            · have hcell : ∀ j, (Γ.turn (Γ.w.setRow b (spliced cells.toList (inf.off + lo * inf.sz + len * i.size) news).toArray) h ⟨some b, inf.off + lo * inf.sz, inf.cap - lo, inf.sz⟩ (ver + 1) b).w.cell? ⟨b, j, none⟩ = if inf.off + lo * inf.sz + len * i.size ≤ j ∧ j < inf.off + lo * inf.sz + len * i.size + news.length then news[j - (inf.off + lo * inf.sz + len * i.size)]? else cells[j]? := by
                intro j
                rw [show (Γ.turn (Γ.w.setRow b (spliced cells.toList (inf.off + lo * inf.sz + len * i.size) news).toArray) h ⟨some b, inf.off + lo * inf.sz, inf.cap - lo, inf.sz⟩ (ver + 1) b).w = Γ.w.setRow b (spliced cells.toList (inf.off + lo * inf.sz + len * i.size) news).toArray from rfl, cell_of hheap']
                have := spliced_get (cur := cells.toList) (o := inf.off + lo * inf.sz + len * i.size) (vs := news) (by simpa using hfit) j
                simpa using this
              refine concRows_append ?_ ?_
              · have h2 := concRows_take (concRows_drop hrows lo) len
                refine concRows_of hle' b inf.sz _ _ (fun j a1 a2 => ?_) h2
                rw [hold_len] at a2
                rw [hcell, if_neg ?_, cell_of hh]
                simp only at a1 a2
                rw [hzz] at a2
                rw [hzz]
                omega
              · rw [hold_len]
                refine concRows_mk fun k r hk => ⟨by rw [hzz]; exact hnl r (List.mem_of_getElem? hk), concRow_mk fun k' l hk' => ?_⟩
                have hkl : k < new.length := (List.getElem?_eq_some_iff.1 hk).1
                have hrl : r.length = i.size := hnl r (List.mem_of_getElem? hk)
                have hk'l : k' < r.length := (List.getElem?_eq_some_iff.1 hk').1
                have hflat : new.flatten[k * i.size + k']? = some l := by
                  clear hcn hr hS hsrc hnews h1 hfit hw hheap' hoth hle' hsl hcell hview hby h63 hroom hm0
                  induction new generalizing k with
                  | nil => simp at hk
                  | cons x xs ih =>
                    simp only [List.flatten_cons]
                    have hxl : x.length = i.size := hnl x (by simp)
                    cases k with
                    | zero =>
                      simp at hk
                      subst hk
                      rw [List.getElem?_append_left (by omega)]
                      simpa using hk'
                    | succ k =>
                      rw [List.getElem?_append_right (by rw [hxl, Nat.add_mul]; omega), hxl, show (k + 1) * i.size + k' - i.size = k * i.size + k' by rw [Nat.add_mul]; omega]
                      exact ih (fun y hy => hnl y (by simp [hy])) k (by simpa using hk) (by simpa using hkl)
                obtain ⟨v', g1, g2⟩ := concAll_get hcn hflat
                refine ⟨v', ?_, conc_mono hle' _ _ g2⟩
                have hb1 : (k + 1) * i.size ≤ new.length * i.size := Nat.mul_le_mul_right _ (by omega)
                rw [Nat.add_mul] at hb1
                rw [hcell, if_pos ?_]
                · rw [← hzz] at g1 ⊢
                  rw [show inf.off + lo * inf.sz + len * inf.sz + k * inf.sz + k' - (inf.off + lo * inf.sz + len * inf.sz) = k * inf.sz + k' by omega]
                  exact g1
                · simp only
                  rw [hnews, hzz]
                  omega
          · simp only [concV, conc]
            refine ⟨⟨some b, inf.off + lo * inf.sz, inf.cap - lo, inf.sz⟩, ver + 1, some ⟨b, inf.off + lo * inf.sz, none⟩, inf.cap - lo, by simp [Ctx.turn, hhs], Nat.le_refl _, by simp, fun _ => .inr ⟨b, _, rfl, rfl, by simp, by simp; omega, fun _ => by simp⟩⟩
    · -- it takes a new block
      have holds : ∃ olds, concAll Γ ((rows.drop lo).take len).flatten olds ∧ olds.length = len * i.size ∧ (olds = [] ∨ ∃ a0, a = some a0 ∧ ∀ (j : Nat) (v : Value), olds[j]? = some v → Γ.w.cell? (a0.add j) = some v) := by
        rcases hv with ⟨hbase, rfl, rfl, rfl, rfl⟩ | ⟨b, a', hbase, rfl, rfl, hlc, ha⟩
        · exact ⟨[], by simp [concAll], by simp, .inl rfl⟩
        · simp only [hbase] at hb
          obtain ⟨hzz, hX, hF, hrc, hisz, cells, T, hh, hcs, hrows⟩ := hb
          obtain ⟨olds, g1, g2, g3⟩ := concRows_cells (concRows_take (concRows_drop hrows lo) len)
          refine ⟨olds, g1, by rw [g2, hold_len, hzz], ?_⟩
          by_cases hl0 : len = 0
          · left
            exact List.eq_nil_of_length_eq_zero (by rw [g2, hold_len, hl0]; simp)
          · right
            refine ⟨a', rfl, fun j v hj => ?_⟩
            rw [ha (by omega), add_off]
            exact g3 j v hj
      obtain ⟨olds, ho1, ho2, ho3⟩ := holds
      have hr := run_append_grows (P := P) (ty := ty) ht hi hz hS hnews a len cap olds ho2 ho3 (by omega) h63 hby
      have hge := grownCap_ge Γ.w (len + new.length) cap e
      have hokd := HeapOk_drew hok
      have hrl : ∀ r ∈ (rows.drop lo).take len, r.length = i.size := by
        intro r hr
        have hrm : r ∈ rows := List.mem_of_mem_drop (List.mem_of_mem_take hr)
        cases hbase : inf.base with
        | none =>
          simp only [hbase] at hb
          subst hb
          cases hrm
        | some b =>
          simp only [hbase] at hb
          obtain ⟨hzz, _, _, _, _, _, _, _, _, hrows⟩ := hb
          rw [← hzz]
          exact flatten_inj_len hrows r hrm
      have hmv := HeapOk_moved (new := (rows.drop lo).take len ++ new) hokd (obj_some ho) hin ((olds ++ news).toArray ++ Builtin.zeroCells zv.cells (grownCap Γ.w (len + new.length) cap e - (len + new.length))) e (grownCap Γ.w (len + new.length) cap e) i.size
        (hcapm _ _ h63) (by simp only [List.length_append, hold_len]; exact hge) hsz ?_ ?_ (olds ++ news) ?_ ?_
      · exact ⟨_, _, hr, (Ext_drew Γ).trans hmv.1, hmv.2, by
          simp only [concV, conc]
          refine ⟨_, ver + 1, some ⟨Γ.w.heap.size, 0, none⟩, grownCap Γ.w (len + new.length) cap e, by simp [Ctx.turn, Ctx.drew, hhs]; rfl, Nat.le_refl _, rfl, fun _ => .inr ⟨Γ.w.heap.size, _, rfl, rfl, by simp, by simpa using hge, fun _ => by simp⟩⟩⟩
      · simp only [Array.size_append, List.size_toArray, List.length_append, size_zeroCells, hzs, hnews, ho2, ← Nat.add_mul]
        exact Nat.le_of_eq (by congr 1; omega)
      · intro r hr
        rcases List.mem_append.1 hr with hr | hr
        · exact hrl r hr
        · exact hnl r hr
      · rw [List.flatten_append]
        exact concAll_mono (Le_drew Γ) _ _ (concAll_append ho1 hcn)
      · exact get_append_pre (zs := (Builtin.zeroCells zv.cells (grownCap Γ.w (len + new.length) cap e - (len + new.length))).toList) (by simp)
  · cases h

end Go.Nx
