/- More of that: what nobody names falls away; nil becomes an own array; an own array lent to a call. -/
import Derived.Test.YtcnbkfgajnlbpaaNyA
namespace Go.Nx
set_option linter.unusedVariables false
set_option linter.unusedSimpArgs false

theorem shL_zero : shL 0 = fun l => l := by
  funext l
  cases l <;> simp [shL]
theorem shV_zero (v : AVal) : shV 0 v = v := by
  cases v with
  | c l => simp [shV, shL_zero]
  | agg cs => simp [shV, shL_zero]
  | tup vs =>
    simp only [shV, shL_zero]
    congr 1
    conv => rhs; rw [← List.map_id vs]
    apply List.map_congr_left
    intro v _
    cases v <;> simp

theorem Env.get_mem {e : Env} {t : Nat} {x : AVal} (h : e.get t = some x) : (t, x) ∈ e := by
  induction e with
  | nil => simp [Env.get] at h
  | cons p e ih =>
    obtain ⟨s, v⟩ := p
    simp only [Env.get] at h
    split at h
    · rename_i he
      subst he
      cases h
      simp
    · exact List.mem_cons_of_mem _ (ih h)

/-- What nobody names falls away. -/
theorem drop_sat {N : Nat} {Γ0 : Ctx} {e : Env} {H H1 J : List Ob} (hJ : H1 = H ++ J) (hl : Γ0.hs.length ≤ H.length) (he : (e.all fun p => mvV H.length p.2) = true) (hH : H.all (mvO H.length) = true) {a : Act} {w : World} (hs : Sat N Γ0 ⟨e, H1⟩ a w) : Sat N Γ0 ⟨e, H⟩ a w := by
  subst hJ
  obtain ⟨d, s, Γ, rfl, hext, hok, henv⟩ := hs
  have hln := hok.len
  simp only [List.length_append] at hln
  let Γ' : Ctx := { w := Γ.w, F := Γ.F, X := Γ.X, hs := Γ.hs.take H.length }
  have hh : ∀ (h : Nat) (p : Info × Nat), h < H.length → Γ.hs[h]? = some p → Γ'.hs[0 + h]? = some p := fun h p hlt hp => by
    show (Γ.hs.take H.length)[0 + h]? = some p
    rw [Nat.zero_add, List.getElem?_take_of_lt hlt]
    exact hp
  have hh' : ∀ (h : Nat) (p : Info × Nat), Γ'.hs[h]? = some p → h < H.length ∧ Γ.hs[h]? = some p := fun h p hp => by
    have hlt : h < H.length := by
      have := (List.getElem?_eq_some_iff.1 hp).1
      simp only [Γ', List.length_take] at this
      omega
    refine ⟨hlt, ?_⟩
    have : (Γ.hs.take H.length)[h]? = some p := hp
    rwa [List.getElem?_take_of_lt hlt] at this
  refine ⟨d, s, Γ', rfl, ⟨⟨hext.le.F, hext.le.mem, fun h inf ver h1 => ?_⟩, hext.os, hext.tape, hext.output, hext.size, hext.frame, hext.Fnew, hext.Xnew⟩, ⟨by simp only [Γ', List.length_take]; omega, fun h o ho => ?_, fun h h' v v' z z' rows rows' inf inf' b h1 h2 h3 h4 h5 h6 => ?_, hok.F, hok.X⟩, fun t x hx => ?_⟩
  · obtain ⟨inf', ver', g1, g2⟩ := hext.le.hs h inf ver h1
    have hlt : h < H.length := by
      have := (List.getElem?_eq_some_iff.1 h1).1
      omega
    exact ⟨inf', ver', by simpa using hh h _ hlt g1, g2⟩
  · have hlt := (List.getElem?_eq_some_iff.1 ho).1
    have hob := hok.ob h o (by rw [List.getElem?_append_left hlt]; exact ho)
    cases o with
    | dead => trivial
    | live ver sz rows =>
      have hmv : mvO H.length (.live ver sz rows) = true := by
        rw [List.all_eq_true] at hH
        exact hH _ (List.mem_of_getElem? ho)
      obtain ⟨inf, g1, g2, g3⟩ := hob
      refine ⟨inf, by simpa using hh h _ hlt g1, g2, ?_⟩
      cases hb : inf.base with
      | none => simp only [hb] at g3 ⊢; exact g3
      | some b =>
        simp only [hb] at g3 ⊢
        obtain ⟨b1, b2, b3, b4, b5, cells, T, b6, b7, b8⟩ := g3
        refine ⟨b1, b2, b3, b4, b5, cells, T, b6, b7, ?_⟩
        have := concRows_sh (Γ := Γ) (Γ' := Γ') (n := 0) (m := H.length) rfl (fun _ h => h) hh (by simpa [mvO] using hmv) b8
        simpa [shL_zero] using this
  · have l1 := (List.getElem?_eq_some_iff.1 h1).1
    have l2 := (List.getElem?_eq_some_iff.1 h2).1
    exact hok.apart h h' v v' z z' rows rows' inf inf' b (by rw [List.getElem?_append_left l1]; exact h1) (by rw [List.getElem?_append_left l2]; exact h2) (hh' _ _ h3).2 (hh' _ _ h4).2 h5 h6
  · obtain ⟨y, h1, h2⟩ := henv t x hx
    refine ⟨y, h1, ?_⟩
    rw [List.all_eq_true] at he
    have := concV_sh (Γ := Γ) (Γ' := Γ') (n := 0) (m := H.length) rfl (fun _ h => h) hh (he _ (Env.get_mem hx)) h2
    rwa [shV_zero] at this

/-- nil in a slot: an own array of none. -/
theorem nil_sat {N : Nat} {Γ0 : Ctx} {e : Env} {H H1 : List Ob} {t : Nat} (sz : Nat) (h : Nat) (ht : e.get t = some (.c nilS)) (hh : H.length = h) (hsn : Snoc (.live 0 sz []) H H1) {a : Act} {w : World} (hs : Sat N Γ0 ⟨e, H⟩ a w) : Sat N Γ0 ⟨(t, .c (.sl h 0 0 0)) :: e, H1⟩ a w := by
  subst hh
  obtain ⟨d, s, Γ, rfl, hext, hok, henv⟩ := hs
  refine ⟨d, s, Γ.nilOb, rfl, hext.trans (Ext_nilOb Γ), by rw [← hsn.eq]; exact HeapOk_nilOb hok sz, fun t' x hx => ?_⟩
  simp only [Env.get] at hx
  split at hx
  · rename_i heq
    subst heq
    cases hx
    obtain ⟨y, h1, h2⟩ := henv _ _ ht
    refine ⟨y, h1, ?_⟩
    simp only [concV, conc] at h2 ⊢
    obtain ⟨rfl, _⟩ := h2
    refine ⟨⟨none, 0, 0, 0⟩, 0, none, 0, by simp [Ctx.nilOb, hok.len], Nat.le_refl _, rfl, fun _ => .inl (by simp)⟩
  · obtain ⟨y, h1, h2⟩ := henv _ _ hx
    exact ⟨y, h1, concV_mono (Le_nilOb Γ) _ _ h2⟩

/-- nil in a cell of an own object. -/
theorem nilCell_sat {N : Nat} {Γ0 : Ctx} {e : Env} {H H1 H2 : List Ob} {g ver z i k : Nat} {rows rows' : List (List Leaf)} {r : List Leaf} (sz : Nat) (h : Nat) (ho : obj H g ver = some (z, rows)) (hr : rows[i]? = some r) (hk : r[k]? = some nilS) (hh : H.length = h)
    (hrows : rows.set i (r.set k (.sl h 0 0 0)) = rows') (hsn : Snoc (.live 0 sz []) H H1) (hset : SetAt (.live ver z rows') H1 g H2) {a : Act} {w : World} (hs : Sat N Γ0 ⟨e, H⟩ a w) : Sat N Γ0 ⟨e, H2⟩ a w := by
  subst hh hrows
  obtain ⟨d, s, Γ, rfl, hext, hok, henv⟩ := hs
  have hok1 : HeapOk Γ.nilOb H1 := by rw [← hsn.eq]; exact HeapOk_nilOb hok sz
  have hg := obj_some ho
  have hlt := (List.getElem?_eq_some_iff.1 hg).1
  have hg1 : H1[g]? = some (.live ver z rows) := by rw [← hsn.eq, List.getElem?_append_left hlt]; exact hg
  have hlook : ∀ (n : Nat) (o : Ob), H2[n]? = some o → (n = g ∧ o = .live ver z (rows.set i (r.set k (.sl H.length 0 0 0)))) ∨ (n ≠ g ∧ H1[n]? = some o) := by
    intro n o hn
    rw [← hset.eq, List.getElem?_set] at hn
    split at hn
    · rename_i he
      subst he
      left
      split at hn
      · simp at hn
        exact ⟨rfl, hn.symm⟩
      · cases hn
    · rename_i he
      exact .inr ⟨fun h => he h.symm, hn⟩
  have hlen2 : H2.length = H1.length := by rw [← hset.eq]; simp
  refine ⟨d, s, Γ.nilOb, rfl, hext.trans (Ext_nilOb Γ), ⟨by rw [hlen2]; exact hok1.len, fun n o hn => ?_, fun n n' v v' z1 z2 r1 r2 i1 i2 b h1 h2 h3 h4 h5 h6 => ?_, hok1.F, hok1.X⟩, fun t' x hx => ?_⟩
  · rcases hlook n o hn with ⟨rfl, rfl⟩ | ⟨_, h1⟩
    · obtain ⟨inf, g1, g2, g3⟩ := hok1.ob n _ hg1
      refine ⟨inf, g1, g2, ?_⟩
      cases hb : inf.base with
      | none =>
        simp only [hb] at g3 ⊢
        subst g3
        simp at hr
      | some b =>
        simp only [hb] at g3 ⊢
        obtain ⟨b1, b2, b3, b4, b5, cells, T, b6, b7, b8⟩ := g3
        refine ⟨b1, b2, b3, by simpa using b4, b5, cells, T, b6, b7, ?_⟩
        refine concRows_mk fun j q hq => ?_
        rw [List.getElem?_set] at hq
        split at hq
        · rename_i hj
          subst hj
          split at hq
          · simp only [Option.some.injEq] at hq
            subst hq
            obtain ⟨c1, c2⟩ := concRows_get b8 hr
            refine ⟨by simpa using c1, concRow_mk fun m l hl => ?_⟩
            rw [List.getElem?_set] at hl
            split at hl
            · rename_i hm
              subst hm
              split at hl
              · simp only [Option.some.injEq] at hl
                subst hl
                obtain ⟨y, c3, c4⟩ := concRow_get c2 hk
                refine ⟨y, c3, ?_⟩
                simp only [conc] at c4 ⊢
                obtain ⟨rfl, _⟩ := c4
                exact ⟨⟨none, 0, 0, 0⟩, 0, none, 0, by simp [Ctx.nilOb, hok.len], Nat.le_refl _, rfl, fun _ => .inl (by simp)⟩
              · cases hl
            · exact concRow_get c2 hl
          · cases hq
        · exact concRows_get b8 hq
    · exact hok1.ob n o h1
  · have back : ∀ (n v z1 : Nat) (r1 : List (List Leaf)), H2[n]? = some (.live v z1 r1) → ∃ r1', H1[n]? = some (.live v z1 r1') := by
      intro n v z1 r1 hn
      rcases hlook n _ hn with ⟨rfl, he⟩ | ⟨_, h1⟩
      · cases he
        exact ⟨rows, hg1⟩
      · exact ⟨r1, h1⟩
    obtain ⟨q1, e1⟩ := back n v z1 r1 h1
    obtain ⟨q2, e2⟩ := back n' v' z2 r2 h2
    exact hok1.apart n n' v v' z1 z2 q1 q2 i1 i2 b e1 e2 h3 h4 h5 h6
  · obtain ⟨y, h1, h2⟩ := henv _ _ hx
    exact ⟨y, h1, concV_mono (Le_nilOb Γ) _ _ h2⟩

theorem TextR.dcall {P : Program} {N : Nat} {Γ0 : Ctx} {A os : List Oper} {e : Env} {H : List Ob} {ty : TypeId} {pos : String} {after : Array Edge} {K : Env → List Ob → Prop} {d : Option Nat} {f : Operand} {args : Array Operand} {ts : Array TypeId} {c : FuncId} {caps : List Leaf} {as : List AVal} {x : AVal}
    (hf : evO e f = some (.c (.clo c caps))) (has : allV (args.toList.map (evO e)) = some as) (hc : DCall P c (as ++ caps.map .c) H x)
    (hr : TextR P N Γ0 A os (putE e d x) H K) : TextR P N Γ0 A (⟨d, .call { callee := .value f, args := args, argTypes := ts }, ty, pos, after, none⟩ :: os) e H K :=
  .call hf has hc (by rintro _ _ ⟨rfl, rfl⟩; exact hr)

/-- What is called may be told apart. -/
theorem Call.cases {P : Program} {f : FuncId} {args : List AVal} {H : List Ob} {K : AVal → List Ob → Prop} (he : enters P f = true) (h : ∀ Γ args', HeapOk Γ H → concVs Γ args args' → ∃ as, Nx.Call P f as H K ∧ concVs Γ as args') : Nx.Call P f args H K :=
  ⟨he, fun Γ hok args' hc => by
    obtain ⟨as, h1, h2⟩ := h Γ _ hok hc
    exact h1.2 Γ hok args' h2⟩

theorem conc_slv_nil {Γ : Ctx} {rows : List (List Leaf)} {y : Value} (h : conc Γ (.slv rows) y) : (rows = [] ∧ conc Γ nilS y) ∨ conc Γ (.slq rows) y := by
  simp only [conc] at h ⊢
  rcases h with ⟨rfl, rfl⟩ | h
  · exact .inl ⟨rfl, rfl, rfl⟩
  · exact .inr h
theorem conc_slq_slv {Γ : Ctx} {rows : List (List Leaf)} {y : Value} (h : conc Γ (.slq rows) y) : conc Γ (.slv rows) y := by
  simp only [conc] at h ⊢
  exact .inr h
theorem conc_nil_slv {Γ : Ctx} {y : Value} (h : conc Γ nilS y) : conc Γ (.slv []) y := by
  simp only [conc] at h ⊢
  exact .inl ⟨h.1, trivial⟩

/-! An own array lent. -/
def bwL (H : List Ob) : Leaf → Leaf
  | .sl h ver lo len => match obj H h ver with
    | some (_, rows) => if lo + len ≤ rows.length then .slv ((rows.drop lo).take len) else .sl h ver lo len
    | none => .sl h ver lo len
  | .ptr h ver i k => match obj H h ver with
    | some (_, rows) => .fptr rows i k
    | none => .ptr h ver i k
  | l => l
mutual
/-- What says nothing of the heap. -/
def flV : AVal → Bool
  | .c l => match l with | .v _ => true | _ => false
  | .agg cs => cs.all fun | .v _ => true | _ => false
  | .tup vs => flVs vs
def flVs : List AVal → Bool
  | [] => true
  | v :: vs => flV v && flVs vs
end
section
variable {Γ Γ' : Ctx}
theorem concAll_fl : ∀ (ls : List Leaf) (ys : List Value), (ls.all fun | .v _ => true | _ => false) = true → concAll Γ ls ys → concAll Γ' ls ys
  | [], ys, _, h => by simpa [concAll] using h
  | l :: ls, ys, hf, h => by
    simp only [List.all_cons, Bool.and_eq_true] at hf
    simp only [concAll] at h ⊢
    obtain ⟨y, ys', h1, h2, h3⟩ := h
    refine ⟨y, ys', h1, ?_, concAll_fl ls ys' hf.2 h3⟩
    cases l with
    | v x => simpa [conc] using h2
    | _ => simp at hf
mutual
theorem concV_fl : ∀ (v : AVal) (y : Value), flV v = true → concV Γ v y → concV Γ' v y
  | .c l, y, hf, h => by
    cases l with
    | v x => simpa [concV, conc] using h
    | _ => simp [flV] at hf
  | .agg cs, y, hf, h => by
    simp only [flV, concV] at *
    obtain ⟨ys, h1, h2⟩ := h
    exact ⟨ys, h1, concAll_fl _ _ hf h2⟩
  | .tup vs, y, hf, h => by
    simp only [flV, concV] at *
    obtain ⟨ys, h1, h2⟩ := h
    exact ⟨ys, h1, concVs_fl _ _ hf h2⟩
theorem concVs_fl : ∀ (vs : List AVal) (ys : List Value), flVs vs = true → concVs Γ vs ys → concVs Γ' vs ys
  | [], ys, _, h => by simpa [concVs] using h
  | v :: vs, ys, hf, h => by
    simp only [flVs, Bool.and_eq_true] at hf
    simp only [concVs] at h ⊢
    obtain ⟨y, ys', h1, h2, h3⟩ := h
    exact ⟨y, ys', h1, concV_fl v y hf.1 h2, concVs_fl vs ys' hf.2 h3⟩
end
end

theorem DCall.borrow {P : Program} {f : FuncId} {args as : List AVal} {H : List Ob} {r : AVal} (hb : mpVs (bwL H) args = as) (ha : hfVs as = true) (hr : flV r = true) (h : Nx.Call P f as [] fun r' _ => r' = r) : DCall P f args H r := by
  subst hb
  refine ⟨h.1, fun Γ hok args' hc => ?_⟩
  let Fb : Nat → Prop := fun b => ∃ (h : Nat) (v z : Nat) (rows : List (List Leaf)) (inf : Info), H[h]? = some (.live v z rows) ∧ Γ.hs[h]? = some (inf, v) ∧ inf.base = some b
  have hFb : ∀ b, Fb b → b < Γ.w.heap.size := fun b ⟨h, v, z, rows, inf, h1, h2, h3⟩ => by
    obtain ⟨i2, g1, _, g2⟩ := hok.ob h _ h1
    rw [h2] at g1
    cases g1
    simp only [h3] at g2
    exact hok.X b g2.2.1
  let Γ0 : Ctx := { w := Γ.w, F := fun b => Γ.F b ∨ Fb b, X := fun _ => False, hs := Γ.hs }
  let Γ1 : Ctx := { w := Γ.w, F := fun b => Γ.F b ∨ Fb b, X := fun _ => False, hs := [] }
  have hle0 : Γ.Le Γ0 := ⟨fun b hb => .inl hb, fun _ _ => rfl, fun n i v hn => ⟨i, v, hn, Nat.le_refl _, fun _ => rfl⟩⟩
  have hg : ∀ l y, conc Γ l y → conc Γ0 (bwL H l) y := by
    intro l y hc
    cases l with
    | sl h ver lo len =>
      simp only [bwL]
      split
      · rename_i z rows ho
        split
        · rename_i hlen
          have hH := obj_some ho
          obtain ⟨inf, hi, hcap, hbase⟩ := hok.ob h _ hH
          simp only [conc] at hc ⊢
          obtain ⟨inf', v', a', cap, g1, g2, rfl, g3⟩ := hc
          rw [hi] at g1
          cases g1
          have hll : ((rows.drop lo).take len).length = len := by simp; omega
          rcases g3 rfl with ⟨e1, rfl, rfl, rfl, rfl⟩ | ⟨b, a'', e1, rfl, e2, e3, e4⟩
          · left
            simp
          · right
            simp only [e1] at hbase
            obtain ⟨b1, b2, b3, b4, b5, cells, T, b6, b7, b8⟩ := hbase
            refine ⟨a'', cap, inf.sz, by rw [hll], by rw [hll]; omega, ?_⟩
            by_cases hz : (rows.drop lo).take len = []
            · exact .inl hz
            · right
              have hpos : 0 < len := by
                rcases Nat.eq_zero_or_pos len with h0 | h0
                · subst h0; simp at hz
                · exact h0
              have hlt : lo < inf.cap := by omega
              have := e4 hlt
              subst this
              have hrt := concRows_take (concRows_drop b8 lo) len
              exact ⟨rfl, .inr ⟨h, ver, z, rows, inf, hH, hi, e1⟩, concRows_le (Γ := Γ) (Γ' := Γ0) rfl hle0 hrt⟩
        · exact conc_mono hle0 _ _ hc
      · exact conc_mono hle0 _ _ hc
    | ptr h ver i k =>
      simp only [bwL]
      split
      · rename_i z rows ho
        have hH := obj_some ho
        obtain ⟨inf, hi, hcap, hbase⟩ := hok.ob h _ hH
        simp only [conc] at hc ⊢
        obtain ⟨inf', v', p, g1, g2, rfl, g3⟩ := hc
        rw [hi] at g1
        cases g1
        obtain ⟨b, e1, rfl⟩ := g3 rfl
        simp only [e1] at hbase
        obtain ⟨b1, b2, b3, b4, b5, cells, T, b6, b7, b8⟩ := hbase
        exact ⟨b, inf.off, inf.sz, rfl, .inr ⟨h, ver, z, rows, inf, hH, hi, e1⟩, concRows_le (Γ := Γ) (Γ' := Γ0) rfl hle0 b8⟩
      · exact conc_mono hle0 _ _ hc
    | v x => exact conc_mono hle0 _ _ hc
    | slv r => exact conc_mono hle0 _ _ hc
    | slq r => exact conc_mono hle0 _ _ hc
    | fptr r i k => exact conc_mono hle0 _ _ hc
    | clo f cs => exact conc_mono hle0 _ _ hc
  have hc0 := concVs_mp hg _ _ hc
  have hc1 : concVs Γ1 (mpVs (bwL H) args) args'.toList := concVs_hf (Γ := Γ0) (Γ' := Γ1) rfl (fun _ h => h) _ _ ha hc0
  have hok1 : HeapOk Γ1 [] := ⟨rfl, fun h o hh => by simp at hh, fun h h' v v' z z' rows rows' inf inf' b h1 => by simp at h1, fun b hb => by
    rcases hb with hb | hb
    · exact hok.F b hb
    · exact hFb b hb, fun b hb => hb.elim⟩
  refine (h.2 Γ1 hok1 args' hc1).mono fun e w' he => ?_
  obtain ⟨y, r', Γ1', H', rfl, rfl, rfl, hext, hok', hcv⟩ := he
  have hold : ∀ b, b < Γ.w.heap.size → Γ1'.w.heap[b]? = Γ.w.heap[b]? := fun b hb => hext.frame b hb (fun h => h)
  let Γ' : Ctx := { w := Γ1'.w, F := Γ.F, X := Γ.X, hs := Γ.hs }
  have hle : Γ.Le Γ' := ⟨fun b hb => hb, fun b hb => hold b (hok.F b hb), fun n i v hn => ⟨i, v, hn, Nat.le_refl _, fun _ => rfl⟩⟩
  refine ⟨y, r', Γ', H, rfl, ⟨rfl, rfl⟩, rfl, ⟨hle, hext.os, hext.tape, hext.output, hext.size, fun b hb _ => hold b hb, fun b hb => .inl hb, fun b hb => .inl hb⟩, ⟨hok.len, fun h o ho => ?_, hok.apart, fun b hb => Nat.lt_of_lt_of_le (hok.F b hb) hext.size, fun b hb => Nat.lt_of_lt_of_le (hok.X b hb) hext.size⟩, concV_fl _ _ hr hcv⟩
  exact (hok.ob h o ho).keep hle (fun _ _ _ _ => rfl) (fun ver z rows inf b _ _ _ hx hf => ⟨hold b (hok.X b hx), hf, hx⟩)

theorem hfRows_map {α : Type} {f : α → List Leaf} (h : ∀ x, hfAll (f x) = true) (xs : List α) : hfRows (xs.map f) = true := by
  induction xs with
  | nil => rfl
  | cons x xs ih => simp [hfRows, h, ih]
theorem mvRows_map {α : Type} {f : α → List Leaf} {m : Nat} (h : ∀ x, (f x).all (mvL m) = true) (xs : List α) : ((xs.map f).all fun r => r.all (mvL m)) = true := by
  rw [List.all_eq_true]
  intro r hr
  obtain ⟨x, _, rfl⟩ := List.mem_map.1 hr
  exact h x
end Go.Nx
