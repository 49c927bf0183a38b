/- A region of which two operations may go either way: both ways. -/
import Derived.Test.YtcnbkfgajnlbpaaNyE
namespace Go.Nx
set_option linter.unusedVariables false
set_option linter.unusedSimpArgs false

def re (o : Oper) (after : Array Edge) (guard : Option (Nat × Bool)) : Oper := ⟨o.dst, o.op, o.type, o.pos, after, guard⟩
theorem re_wp {P : Program} {o : Oper} {A : Array Edge} {g : Option (Nat × Bool)} {a : Act} {w : World} {K : Act → World → Prop} {Q : Exit → Act → World → Prop} : (re o A g).wp P a w K Q = o.wp P a w K Q := rfl
theorem re_asks {P : Program} {o : Oper} {A : Array Edge} {g : Option (Nat × Bool)} {a : Act} {w : World} : (re o A g).asks P a w = o.asks P a w := rfl

def noOper : Oper := ⟨none, .move (.const (.bool true)), 0, "", #[], none⟩
def idx (ps : List Nat) (k : Nat) : Nat := ps.idxOf k
/-- An operation in another row, and one edge more: of 'x' on 'y'. -/
def reAt (l : List Oper) (ps : List Nat) (x y k : Nat) : Oper :=
  re (l.getD k noOper) ((l.getD k noOper).after.toList.map (fun e => (⟨idx ps e.on, e.ground⟩ : Edge)) ++ (if k = x then [(⟨idx ps y, .data⟩ : Edge)] else [])).toArray ((l.getD k noOper).guard.map fun jb => (idx ps jb.1, jb.2))
def rerow (l : List Oper) (ps : List Nat) (x y : Nat) : List Oper := ps.map (reAt l ps x y)
def rowOk (l : List Oper) (ps : List Nat) (y : Nat) : Bool :=
  Nat.beq ps.length l.length && (List.range l.length).all (fun k => Nat.beq (idx ps (ps.getD k 0)) k && Nat.beq (ps.getD (idx ps k) 0) k && Nat.blt (ps.getD k 0) l.length && Nat.blt (idx ps k) l.length) &&
    l.all (fun o => o.after.toList.all (fun e => Nat.blt e.on l.length) && (match o.guard with | some (j, _) => Nat.blt j l.length | none => true)) && Nat.blt y l.length

theorem getD_get {l : List Oper} {k : Nat} (h : k < l.length) : l[k]? = some (l.getD k noOper) := by
  rw [List.getD_eq_getElem?_getD, List.getElem?_eq_getElem h]
  rfl

theorem rerow_get {l : List Oper} {ps : List Nat} {x y i : Nat} (hi : i < ps.length) : (rerow l ps x y)[i]? = some (reAt l ps x y (ps.getD i 0)) := by
  have h1 : ps.getD i 0 = ps[i] := by simp [List.getD, hi]
  rw [h1, rerow, List.getElem?_map, List.getElem?_eq_getElem hi]
  rfl

structure RowOk (l : List Oper) (ps : List Nat) (y : Nat) : Prop where
  len : ps.length = l.length
  inv1 : ∀ k, k < l.length → idx ps (ps.getD k 0) = k
  inv2 : ∀ k, k < l.length → ps.getD (idx ps k) 0 = k
  lt1 : ∀ k, k < l.length → ps.getD k 0 < l.length
  lt2 : ∀ k, k < l.length → idx ps k < l.length
  edge : ∀ o ∈ l, ∀ e ∈ o.after, e.on < l.length
  guard : ∀ o ∈ l, ∀ j b, o.guard = some (j, b) → j < l.length
  y : y < l.length

theorem rowOk_spec {l : List Oper} {ps : List Nat} {y : Nat} (h : rowOk l ps y = true) : RowOk l ps y := by
  simp only [rowOk, Bool.and_eq_true, List.all_eq_true, List.mem_range, Nat.beq_eq, Nat.blt_eq] at h
  obtain ⟨⟨⟨h1, h2⟩, h3⟩, h4⟩ := h
  refine ⟨h1, fun k hk => (h2 k hk).1.1.1, fun k hk => (h2 k hk).1.1.2, fun k hk => (h2 k hk).1.2, fun k hk => (h2 k hk).2, fun o ho e he => (h3 o ho).1 e (by simpa using he), fun o ho j b hg => ?_, h4⟩
  have := (h3 o ho).2
  rw [hg] at this
  simpa using this

/-- What a row's marks say of another row's. -/
def Match (ps : List Nat) (n : Nat) (listed listed' : Array Bool) : Prop :=
  listed.size = n ∧ listed'.size = n ∧ ∀ i, i < n → listed'.getD i false = listed.getD (ps.getD i 0) false

theorem getD_lt {listed : Array Bool} {k : Nat} (hk : k < listed.size) (b : Bool) : listed.getD k b = listed.getD k false := by simp [Array.getD, hk]

theorem Match.set {ps : List Nat} {l : List Oper} {y : Nat} (hr : RowOk l ps y) {listed listed' : Array Bool} (h : Match ps l.length listed listed') {i : Nat} (hi : i < l.length) : Match ps l.length (listed.setIfInBounds (ps.getD i 0) true) (listed'.setIfInBounds i true) := by
  refine ⟨by simp [h.1], by simp [h.2.1], fun j hj => ?_⟩
  have h3 := h.2.2 j hj
  have hlj := hr.lt1 j hj
  have e1 : (listed'.setIfInBounds i true).getD j false = if i = j then true else listed'.getD j false := by
    simp only [Array.getD_eq_getD_getElem?, Array.getElem?_setIfInBounds]
    by_cases hij : i = j
    · subst hij; simp [h.2.1, hi]
    · simp [hij]
  have e2 : (listed.setIfInBounds (ps.getD i 0) true).getD (ps.getD j 0) false = if ps.getD i 0 = ps.getD j 0 then true else listed.getD (ps.getD j 0) false := by
    simp only [Array.getD_eq_getD_getElem?, Array.getElem?_setIfInBounds]
    by_cases hij : ps.getD i 0 = ps.getD j 0
    · rw [if_pos hij, if_pos hij, hij, h.1, if_pos hlj]; rfl
    · rw [if_neg hij, if_neg hij]
  rw [e1, e2, h3]
  by_cases hij : i = j
  · subst hij; simp
  · have : ps.getD i 0 ≠ ps.getD j 0 := fun he => hij (by rw [← hr.inv1 i hi, he, hr.inv1 j hj])
    rw [if_neg hij, if_neg this]

theorem ready_back {ps : List Nat} {l : List Oper} {x y : Nat} (hr : RowOk l ps y) {listed listed' : Array Bool} (h : Match ps l.length listed listed') {i : Nat} (hi : i ∈ Region.ready .any (rerow l ps x y).toArray listed') : i < l.length ∧ ps.getD i 0 ∈ Region.ready .any l.toArray listed := by
  obtain ⟨h1, o', ho', h2⟩ := mem_ready.1 hi
  have hil : i < l.length := by
    have := (Array.getElem?_eq_some_iff.1 ho').1
    simp only [List.size_toArray, rerow, List.length_map] at this
    rw [← hr.len]; exact this
  refine ⟨hil, mem_ready.2 ⟨?_, l.getD (ps.getD i 0) noOper, ?_, fun e he hb => ?_⟩⟩
  · rw [getD_lt (by rw [h.2.1]; exact hil)] at h1
    rw [getD_lt (by rw [h.1]; exact hr.lt1 i hil), ← h.2.2 i hil]
    exact h1
  · simp only [List.getElem?_toArray]
    exact getD_get (hr.lt1 i hil)
  · simp only [List.getElem?_toArray] at ho'
    rw [rerow_get (by rw [hr.len]; exact hil)] at ho'
    cases ho'
    have hmem : l.getD (ps.getD i 0) noOper ∈ l := List.mem_of_getElem? (getD_get (hr.lt1 i hil))
    have hon := hr.edge _ hmem e he
    have := h2 ⟨idx ps e.on, e.ground⟩ (by
      simp only [reAt, re, List.mem_toArray, List.mem_append, List.mem_map]
      exact .inl ⟨e, by simpa using he, rfl⟩) hb
    rw [h.2.2 _ (hr.lt2 _ hon), hr.inv2 _ hon] at this
    exact this

theorem ready_forth {ps : List Nat} {l : List Oper} {x y : Nat} (hr : RowOk l ps y) {listed listed' : Array Bool} (h : Match ps l.length listed listed') {k : Nat} (hk : k ∈ Region.ready .any l.toArray listed) (hx : k = x → listed.getD y false = true) :
    ∃ i, i < l.length ∧ ps.getD i 0 = k ∧ i ∈ Region.ready .any (rerow l ps x y).toArray listed' := by
  obtain ⟨h1, o, ho, h2⟩ := mem_ready.1 hk
  simp only [List.getElem?_toArray] at ho
  have hkl : k < l.length := (List.getElem?_eq_some_iff.1 ho).1
  have hio := hr.lt2 k hkl
  have hpk := hr.inv2 k hkl
  refine ⟨idx ps k, hio, hpk, mem_ready.2 ⟨?_, _, by simp only [List.getElem?_toArray]; exact rerow_get (by rw [hr.len]; exact hio), fun e he hb => ?_⟩⟩
  · rw [getD_lt (by rw [h.2.1]; exact hio), h.2.2 _ hio, hpk]
    rw [getD_lt (by rw [h.1]; exact hkl)] at h1
    exact h1
  · have hgo : l.getD k noOper = o := by simp [List.getD, ho]
    rw [hpk, reAt, hgo] at he
    simp only [re, List.mem_toArray, List.mem_append, List.mem_map] at he
    rcases he with ⟨e0, he0, rfl⟩ | he
    · have he0 : e0 ∈ o.after := by simpa using he0
      have hon := hr.edge o (List.mem_of_getElem? ho) e0 he0
      show listed'.getD (idx ps e0.on) false = true
      rw [h.2.2 _ (hr.lt2 _ hon), hr.inv2 _ hon]
      exact h2 e0 he0 hb
    · split at he
      · rename_i hkx
        have hee : e = ⟨idx ps y, .data⟩ := by simpa using he
        subst hee
        show listed'.getD (idx ps y) false = true
        rw [h.2.2 _ (hr.lt2 _ hr.y), hr.inv2 _ hr.y]
        exact hx hkx
      · simp at he

theorem wpOp_row {P : Program} {ps : List Nat} {l : List Oper} {x y : Nat} (hr : RowOk l ps y) {Q : Exit → Act → World → Prop} {i : Nat} (hi : i < l.length) {K K' : Act → World → Prop} (hK : ∀ a w, K' a w → K a w) {a : Act} {w : World}
    (h : wpOp P (rerow l ps x y).toArray Q i K' a w) : wpOp P l.toArray Q (ps.getD i 0) K a w := by
  have hpl := hr.lt1 i hi
  unfold wpOp at h ⊢
  have e1 : (rerow l ps x y).toArray[i]? = some (reAt l ps x y (ps.getD i 0)) := by simp only [List.getElem?_toArray]; exact rerow_get (by rw [hr.len]; exact hi)
  have e2 : l.toArray[ps.getD i 0]? = some (l.getD (ps.getD i 0) noOper) := by simp only [List.getElem?_toArray]; exact getD_get hpl
  rw [e1] at h
  rw [e2]
  simp only at h ⊢
  have hmem : l.getD (ps.getD i 0) noOper ∈ l := List.mem_of_getElem? (getD_get hpl)
  have hwant : Region.wanted (reAt l ps x y (ps.getD i 0)) (yielded (rerow l ps x y).toArray a.tmps) = Region.wanted (l.getD (ps.getD i 0) noOper) (yielded l.toArray a.tmps) := by
    cases hg : (l.getD (ps.getD i 0) noOper).guard with
    | none => simp only [Region.wanted, reAt, re, hg, Option.map_none]
    | some jb =>
      obtain ⟨j, b⟩ := jb
      have hj := hr.guard _ hmem j b hg
      have e3 : (rerow l ps x y).toArray[idx ps j]? = some (reAt l ps x y (ps.getD (idx ps j) 0)) := by simp only [List.getElem?_toArray]; exact rerow_get (by rw [hr.len]; exact hr.lt2 j hj)
      rw [hr.inv2 j hj] at e3
      have e4 : l.toArray[j]? = some (l.getD j noOper) := by simp only [List.getElem?_toArray]; exact getD_get hj
      simp only [Region.wanted, reAt, re, hg, Option.map_some, yielded, e3, e4, Option.bind_some]
  rw [hwant] at h
  split
  · rename_i hw
    rw [if_pos hw] at h
    rcases h with h | h
    · rw [reAt, re_wp] at h
      exact .inl (Oper.wp_mono hK h)
    · rw [reAt, re_asks] at h
      exact .inr h
  · rename_i hw
    rw [if_neg hw] at h
    exact hK _ _ h

/-- Once the edge more is no more in the way. -/
theorem any_row {P : Program} {ps : List Nat} {l : List Oper} {x y : Nat} (hr : RowOk l ps y) {Q : Exit → Act → World → Prop} : ∀ (fuel : Nat) (listed listed' : Array Bool) (a : Act) (w : World), Match ps l.length listed listed' → listed.getD y false = true →
    wpAny P .any (rerow l ps x y).toArray Q fuel listed' a w → wpAny P .any l.toArray Q fuel listed a w := by
  intro fuel
  induction fuel with
  | zero =>
    intro listed listed' a w hm hy h
    refine ⟨?_, h.2⟩
    cases hrd : Region.ready .any l.toArray listed with
    | nil => rfl
    | cons k r =>
      obtain ⟨i, _, _, hi⟩ := ready_forth (x := x) hr hm (k := k) (by rw [hrd]; simp) (fun _ => hy)
      rw [h.1] at hi
      cases hi
  | succ fuel ih =>
    intro listed listed' a w hm hy h
    refine ⟨fun he => h.1 ?_, fun k hk => ?_⟩
    · cases hrd : Region.ready .any (rerow l ps x y).toArray listed' with
      | nil => rfl
      | cons i r =>
        have := (ready_back hr hm (i := i) (by rw [hrd]; simp)).2
        rw [he] at this
        cases this
    · obtain ⟨i, hil, rfl, hi⟩ := ready_forth (x := x) hr hm hk (fun _ => hy)
      refine wpOp_row (x := x) hr hil (fun a w hn => ih _ _ a w (hm.set hr hil) ?_ hn) (h.2 i hi)
      simp only [Array.getD_eq_getD_getElem?, Array.getElem?_setIfInBounds]
      split
      · rename_i he
        split <;> simp_all
      · simpa [Array.getD_eq_getD_getElem?] using hy

/-- Two reckonings, one behind the other. -/
theorem Trace.glue {P : Program} {W : Option (List Nat)} {l : List Oper} {gs : List (List (Nat × Bool))} {ex : List Bool} {n1 : Nat} {e0 : Env} {E1 E2 : Nat → Env} {HH1 HH2 : Nat → List Ob} {X1 X2 : Nat → AVal} {A1 A2 : Nat → Bool} (hn : n1 ≤ l.length) (h0 : E1 0 = e0)
    (h1 : ∀ (k : Nat) (o : Oper), (l.take n1)[k]? = some o → StepR P W (gs.getD k []) (ex.getD k false) o (E1 k) (HH1 k) (A1 k) (X1 k) (HH1 (k + 1)) ∧ E1 (k + 1) = putE (E1 k) o.dst (X1 k)) (hE : E2 0 = E1 n1) (hH : HH2 0 = HH1 n1)
    (h2 : ∀ (k : Nat) (o : Oper), (l.drop n1)[k]? = some o → StepR P W ((gs.drop n1).getD k []) ((ex.drop n1).getD k false) o (E2 k) (HH2 k) (A2 k) (X2 k) (HH2 (k + 1)) ∧ E2 (k + 1) = putE (E2 k) o.dst (X2 k)) :
    Trace P W l gs ex e0 (fun k => if k ≤ n1 then E1 k else E2 (k - n1)) (fun k => if k ≤ n1 then HH1 k else HH2 (k - n1)) (fun k => if k < n1 then X1 k else X2 (k - n1)) (fun k => if k < n1 then A1 k else A2 (k - n1)) := by
  have key : ∀ (k : Nat) (o : Oper), l[k]? = some o → StepR P W (gs.getD k []) (ex.getD k false) o (if k ≤ n1 then E1 k else E2 (k - n1)) (if k ≤ n1 then HH1 k else HH2 (k - n1)) (if k < n1 then A1 k else A2 (k - n1)) (if k < n1 then X1 k else X2 (k - n1)) (if k + 1 ≤ n1 then HH1 (k + 1) else HH2 (k + 1 - n1)) ∧
      (if k + 1 ≤ n1 then E1 (k + 1) else E2 (k + 1 - n1)) = putE (if k ≤ n1 then E1 k else E2 (k - n1)) o.dst (if k < n1 then X1 k else X2 (k - n1)) := by
    intro k o ho
    by_cases hk : k < n1
    · rw [if_pos (by omega), if_pos (by omega), if_pos hk, if_pos hk, if_pos (by omega), if_pos (by omega)]
      exact h1 k o (by rw [List.getElem?_take_of_lt hk]; exact ho)
    · have hE' : (if k ≤ n1 then E1 k else E2 (k - n1)) = E2 (k - n1) := by
        split
        · have : k = n1 := by omega
          subst this
          rw [Nat.sub_self, hE]
        · rfl
      have hH' : (if k ≤ n1 then HH1 k else HH2 (k - n1)) = HH2 (k - n1) := by
        split
        · have : k = n1 := by omega
          subst this
          rw [Nat.sub_self, hH]
        · rfl
      rw [hE', hH', if_neg hk, if_neg hk, if_neg (by omega), if_neg (by omega)]
      have := h2 (k - n1) o (by rw [List.getElem?_drop, show n1 + (k - n1) = k by omega]; exact ho)
      rw [show k + 1 - n1 = k - n1 + 1 by omega]
      have g1 : (gs.drop n1).getD (k - n1) [] = gs.getD k [] := by
        rw [List.getD_eq_getElem?_getD, List.getElem?_drop, show n1 + (k - n1) = k by omega, List.getD_eq_getElem?_getD]
      have g2 : (ex.drop n1).getD (k - n1) false = ex.getD k false := by
        rw [List.getD_eq_getElem?_getD, List.getElem?_drop, show n1 + (k - n1) = k by omega, List.getD_eq_getElem?_getD]
      rw [g1, g2] at this
      exact this
  exact ⟨by simp [h0], fun k o ho => (key k o ho).1, fun k o ho => (key k o ho).2⟩

def rngL (l : List Oper) : List Nat := List.range l.length
def swpL (l : List Oper) (n1 : Nat) : List Nat := (List.range l.length).map fun k => if k = n1 then n1 + 1 else if k = n1 + 1 then n1 else k
abbrev rowA (l : List Oper) (n1 : Nat) : List Oper := rerow l (rngL l) (n1 + 1) n1
abbrev rowB (l : List Oper) (n1 : Nat) : List Oper := rerow l (swpL l n1) n1 (n1 + 1)
def forkOk (l : List Oper) (n1 : Nat) (gsA gsB : List (List (Nat × Bool))) (exA exB : List Bool) (live : List Nat) (n : Nat) : Bool :=
  rowOk l (rngL l) n1 && rowOk l (swpL l n1) (n1 + 1) && (chk (rowA l n1) gsA exA true n && liveOk (rowA l n1) gsA live) && (chk (rowB l n1) gsB exB true n && liveOk (rowB l n1) gsB live) &&
    (match (rowA l n1)[n1]? with | some o => fixed o.op | none => false) && (match (rowB l n1)[n1]? with | some o => fixed o.op | none => false) &&
    ((List.range l.length).all fun k => Nat.ble k (n1 + 1) || anc (masks (rowA l n1) []) n1 k) && (gsA.take n1 == gsB.take n1) && (exA.take n1 == exB.take n1)

theorem wp_fork {P : Program} {Γ0 : Ctx} {W : List Nat} {l : List Oper} {n1 n : Nat} {gsA gsB : List (List (Nat × Bool))} {exA exB : List Bool} {e0 : Env} {EA EB : Nat → Env} {HA HB : Nat → List Ob} {XA XB : Nat → AVal} {AA AB : Nat → Bool} {Q : Exit → Act → World → Prop}
    (hrA : RowOk l (rngL l) n1) (hrB : RowOk l (swpL l n1) (n1 + 1)) (hcA : chk (rowA l n1) gsA exA true n = true) (hcB : chk (rowB l n1) gsB exB true n = true) (hpre : (rowA l n1).take n1 = (rowB l n1).take n1)
    (hfA : ∃ o, (rowA l n1)[n1]? = some o ∧ fixed o.op = true) (hpost : ∀ k, k < l.length → n1 + 1 < k → anc (masks (rowA l n1) []) n1 k = true)
    (htA : Trace P (some W) (rowA l n1) gsA exA e0 EA HA XA AA) (htB : Trace P (some W) (rowB l n1) gsB exB e0 EB HB XB AB)
    (hH : ∀ c, c ≤ n1 → HA c = HB c) (hX : ∀ k, k < n1 → XA k = XB k) (hA : ∀ k, k < n1 → AA k = AB k)
    (hQA : ∀ a w, Inv n Γ0 (rowA l n1) e0 HA XA AA (fun k => k < (rowA l n1).length) a w → Q .normal a w) (hQB : ∀ a w, Inv n Γ0 (rowB l n1) e0 HB XB AB (fun k => k < (rowB l n1).length) a w → Q .normal a w) :
    ∀ (fuel : Nat) (listed : Array Bool), listed.size = l.length → (List.range l.length).countP (fun k => !listed.getD k false) ≤ fuel → (∀ k, listed.getD k false = true → k < n1) →
      (∀ (k : Nat) (o : Oper), (rowA l n1)[k]? = some o → listed.getD k false = true → ∀ ed ∈ o.after.toList, Region.binds .any ed = true → listed.getD ed.on false = true) →
      ∀ a w, Inv n Γ0 (rowA l n1) e0 HA XA AA (fun k => listed.getD k false = true) a w → wpAny P .any l.toArray Q fuel listed a w := by
  have hlA : (rowA l n1).length = l.length := by simp [rerow, hrA.len]
  have hlB : (rowB l n1).length = l.length := by simp [rerow, hrB.len]
  have hn1 : n1 < l.length := hrA.y
  have hn2 : n1 + 1 < l.length := hrB.y
  have hgetAB : ∀ k, k < n1 → (rowA l n1)[k]? = (rowB l n1)[k]? := fun k hk => by
    have := congrArg (fun l => l[k]?) hpre
    simpa [List.getElem?_take_of_lt hk] using this
  have hrng : ∀ k, k < l.length → (rngL l).getD k 0 = k := fun k hk => by simp [rngL, List.getD, hk]
  have hswp : ∀ k, k < l.length → (swpL l n1).getD k 0 = if k = n1 then n1 + 1 else if k = n1 + 1 then n1 else k := fun k hk => by simp [swpL, List.getD, hk]
  -- the two rows say the same, as long as neither of the two is done
  have hconv : ∀ (listed : Array Bool) a w, (∀ k, listed.getD k false = true → k < n1) → Inv n Γ0 (rowA l n1) e0 HA XA AA (fun k => listed.getD k false = true) a w → Inv n Γ0 (rowB l n1) e0 HB XB AB (fun k => listed.getD k false = true) a w := by
    intro listed a w hlt hI
    obtain ⟨dfr, sz, Γ, c, hw, hext, hok, hcl, hcut, h1, h2⟩ := hI
    obtain ⟨ox, hox, hfx⟩ := hfA
    have hc : c ≤ n1 := by
      rcases Nat.lt_or_ge n1 c with h | h
      · have := hlt n1 ((hcut n1 ox hox hfx).1 h)
        omega
      · exact h
    refine ⟨dfr, sz, Γ, c, hw, hext, by rw [← hH c hc]; exact hok, by omega, fun k o ho hf => ?_, fun t x hx hno => h1 t x hx (fun k hk hd hL => ?_), fun k t hk hL hd => ?_⟩
    · by_cases hk : k < n1
      · exact hcut k o (by rw [hgetAB k hk]; exact ho) hf
      · constructor
        · intro h; omega
        · intro h; have := hlt k h; omega
    · have hk1 := hlt k hL
      exact hno k (by omega) (by rw [dstOf, ← hgetAB k hk1]; exact hd) hL
    · have hk1 := hlt k hL
      have := h2 k t (by omega) hL (by rw [dstOf, hgetAB k hk1]; exact hd)
      rw [← hX k hk1, ← hA k hk1]
      exact this
  have hmA : ∀ listed : Array Bool, listed.size = l.length → Match (rngL l) l.length listed listed := fun listed hsz => ⟨hsz, hsz, fun i hi => by rw [hrng i hi]⟩
  have hmB : ∀ listed : Array Bool, listed.size = l.length → (∀ k, listed.getD k false = true → k < n1) → Match (swpL l n1) l.length listed listed := fun listed hsz hlt => ⟨hsz, hsz, fun i hi => by
    rw [hswp i hi]
    have hf : ∀ k, ¬ k < n1 → listed.getD k false = false := fun k hk => by
      cases h : listed.getD k false with
      | false => rfl
      | true => exact absurd (hlt k h) hk
    split
    · rename_i h
      subst h
      rw [hf _ (by omega), hf _ (by omega)]
    · split
      · rename_i h
        subst h
        rw [hf _ (by omega), hf _ (by omega)]
      · rfl⟩
  have anyA := fun fuel listed => sim_any (P := P) (ops := (rowA l n1).toArray) (W := some W) (Q := Q) (Γ0 := Γ0) ⟨W, rfl⟩ (by simpa using hcA) (by simpa using htA) (by simpa using hQA) fuel listed
  have anyB := fun fuel listed => sim_any (P := P) (ops := (rowB l n1).toArray) (W := some W) (Q := Q) (Γ0 := Γ0) ⟨W, rfl⟩ (by simpa using hcB) (by simpa using htB) (by simpa using hQB) fuel listed
  simp only [] at anyA anyB
  have hclB : ∀ listed : Array Bool, (∀ k, listed.getD k false = true → k < n1) → (∀ (k : Nat) (o : Oper), (rowA l n1)[k]? = some o → listed.getD k false = true → ∀ ed ∈ o.after.toList, Region.binds .any ed = true → listed.getD ed.on false = true) →
      ∀ (k : Nat) (o : Oper), (rowB l n1)[k]? = some o → listed.getD k false = true → ∀ ed ∈ o.after.toList, Region.binds .any ed = true → listed.getD ed.on false = true :=
    fun listed hlt hcl k o ho hL => hcl k o (by rw [hgetAB k (hlt k hL)]; exact ho) hL
  have hedges : ∀ (k : Nat) (o : Oper), (rowA l n1)[k]? = some o → ∀ ed ∈ o.after.toList, Region.binds .any ed = true → ed.on < k := fun k o ho => (chkOp_spec (chk_op hcA ho)).edges
  intro fuel
  induction fuel with
  | zero =>
    intro listed hsz hcnt hlt hcl a w hI
    have h1 := anyA 0 listed (by rw [hlA]; exact hsz) (by rw [hlA]; exact hcnt) hcl a w hI
    have h2 := anyB 0 listed (by rw [hlB]; exact hsz) (by rw [hlB]; exact hcnt) (hclB listed hlt hcl) a w (hconv listed a w hlt hI)
    refine ⟨?_, h1.2⟩
    cases hrd : Region.ready .any l.toArray listed with
    | nil => rfl
    | cons k r =>
      by_cases hk : k = n1 + 1
      · obtain ⟨i, _, _, hi⟩ := ready_forth (x := n1) hrB (hmB listed hsz hlt) (k := k) (by rw [hrd]; simp) (fun he => by omega)
        rw [h2.1] at hi
        cases hi
      · obtain ⟨i, _, _, hi⟩ := ready_forth (x := n1 + 1) hrA (hmA listed hsz) (k := k) (by rw [hrd]; simp) (fun he => absurd he hk)
        rw [h1.1] at hi
        cases hi
  | succ fuel ih =>
    intro listed hsz hcnt hlt hcl a w hI
    have h1 := anyA (fuel + 1) listed (by rw [hlA]; exact hsz) (by rw [hlA]; exact hcnt) hcl a w hI
    have h2 := anyB (fuel + 1) listed (by rw [hlB]; exact hsz) (by rw [hlB]; exact hcnt) (hclB listed hlt hcl) a w (hconv listed a w hlt hI)
    have hset : ∀ i z : Nat, i < l.length → ((listed.setIfInBounds i true).getD z false = true ↔ (listed.getD z false = true ∨ z = i)) := by
      intro i z hi
      by_cases hki : z = i
      · subst hki
        simp [Array.getD_eq_getD_getElem?, hsz, hi]
      · rw [Array.getD_eq_getD_getElem?, Array.getElem?_setIfInBounds_ne (fun e => hki e.symm), ← Array.getD_eq_getD_getElem?]
        simp [hki]
    refine ⟨fun he => h1.1 ?_, fun k hk => ?_⟩
    · cases hrd : Region.ready .any (rowA l n1).toArray listed with
      | nil => rfl
      | cons i r =>
        have := (ready_back hrA (hmA listed hsz) (i := i) (by rw [hrd]; simp)).2
        rw [he] at this
        cases this
    · by_cases hk2 : k = n1 + 1
      · obtain ⟨i, hil, hpi, hi⟩ := ready_forth (x := n1) hrB (hmB listed hsz hlt) hk (fun he => by omega)
        have := wpOp_row (x := n1) hrB hil (fun a w hn => any_row hrB fuel _ _ a w ((hmB listed hsz hlt).set hrB hil) (by rw [hpi, hk2, hset _ _ hn2]; exact .inr rfl) hn) (h2.2 i hi)
        rw [hpi] at this
        exact this
      · obtain ⟨i, hil, hpi, hi⟩ := ready_forth (x := n1 + 1) hrA (hmA listed hsz) hk (fun he => absurd he hk2)
        rw [hrng i hil] at hpi
        subst hpi
        by_cases hk1 : i = n1
        · have := wpOp_row (x := n1 + 1) hrA hil (fun a w hn => any_row hrA fuel _ _ a w ((hmA listed hsz).set hrA hil) (by rw [hrng i hil, hk1, hset _ _ hn1]; exact .inr rfl) hn) (h1.2 i hi)
          rw [hrng i hil] at this
          exact this
        · obtain ⟨r1, o, ho, hdep⟩ := mem_ready.1 hi
          have hol : (rowA l n1)[i]? = some o := by simpa using ho
          have hf : listed.getD i false = false := by rw [getD_lt (by omega)] at r1; exact r1
          have hin : i < n1 := by
            rcases Nat.lt_or_ge i n1 with h | h
            · exact h
            · have := anc_listed (listed := fun k => listed.getD k false = true) hedges hcl i o hol (fun ed he hb => hdep ed (by simpa using he) hb) n1 (hpost i hil (by omega))
              have := hlt n1 this
              omega
          have hstep := sim_step (P := P) (ops := (rowA l n1).toArray) (draw := true) (Γ0 := Γ0) (Q := Q) (fun _ => ⟨W, rfl⟩) (by simpa using hcA) (by simpa using htA) (L := fun k => listed.getD k false = true) (by simpa using hI) (i := i) (o := o) (by simpa using hol) (by rw [hf]; simp)
            (fun j hj hanc => anc_listed (listed := fun k => listed.getD k false = true) hedges hcl i o hol (fun ed he hb => hdep ed (by simpa using he) hb) j (by simpa using hanc rfl))
            (fun j hj hij hanc hL => by
              have hjl : j < (rowA l n1).length := by simpa using hj
              have hoj : (rowA l n1)[j]? = some ((rowA l n1)[j]'hjl) := List.getElem?_eq_getElem hjl
              have := anc_listed (listed := fun k => listed.getD k false = true) hedges hcl j _ hoj (hcl j _ hoj hL) i (by simpa using hanc rfl)
              rw [hf] at this
              cases this)
            (K := wpAny P .any l.toArray Q fuel (listed.setIfInBounds i true))
            (fun a' w' hI' => by
              refine ih _ (by simp [hsz]) ?_ (fun z hz => ?_) ?_ a' w' ((by simpa using hI' : Inv n Γ0 (rowA l n1) e0 HA XA AA _ a' w').congr fun z => (hset i z hil).symm)
              · have hlt := countP_lt (l := List.range l.length) (p := fun k => !listed.getD k false) (q := fun k => !(listed.setIfInBounds i true).getD k false) (y := i) (fun x hx => by
                  cases hl : listed.getD x false with
                  | false => rfl
                  | true => rw [(hset i x hil).2 (.inl hl)] at hx; cases hx) (by simpa using hil) (by rw [hf]; rfl) (by rw [(hset i i hil).2 (.inr rfl)]; rfl)
                omega
              · rcases (hset i z hil).1 hz with h | rfl
                · exact hlt z h
                · exact hin
              · intro z p hp hL ed he hb
                rw [hset i _ hil] at hL ⊢
                rcases hL with hL | rfl
                · exact .inl (hcl z p hp hL ed he hb)
                · rw [hol] at hp
                  cases hp
                  exact .inl (hdep ed (by simpa using he) hb))
          have := wpOp_row (x := n1 + 1) hrA hil (fun a w h => h) hstep
          rw [hrng i hil] at this
          exact this

theorem Wp.fork {F : Fr} {Q : Exit → St → Prop} {S : St} {id : Nat} {l : List Oper} (n1 : Nat) (W : List Nat) (gsA : List (List (Nat × Bool))) (exA : List Bool) (gsB : List (List (Nat × Bool))) (exB : List Bool) (live : List Nat) {n : Nat} (hm : F.P.follows .mixedOrders = true) (hn : F.n = n)
    (hok : forkOk l n1 gsA gsB exA exB live n = true) (hpre : (rowA l n1).take n1 = (rowB l n1).take n1)
    (h : RunR F.P (some W) ((rowA l n1).take n1) gsA exA S.env S.heap (fun e1 H1 =>
      RunR F.P (some W) ((rowA l n1).drop n1) (gsA.drop n1) (exA.drop n1) e1 H1 (fun e' H' => ∃ r, Keeps e' live r ∧ Q .normal ⟨r, H'⟩) ∧
      RunR F.P (some W) ((rowB l n1).drop n1) (gsB.drop n1) (exB.drop n1) e1 H1 (fun e' H' => ∃ r, Keeps e' live r ∧ Q .normal ⟨r, H'⟩))) : Wp F (.region id l.toArray true) Q S := by
  intro a w hs
  subst hn
  simp only [forkOk, Bool.and_eq_true] at hok
  obtain ⟨⟨⟨⟨⟨⟨⟨⟨k1, k2⟩, k3, k4⟩, k5, k6⟩, k7⟩, k8⟩, k9⟩, k10⟩, k11⟩ := hok
  have hrA := rowOk_spec k1
  have hrB := rowOk_spec k2
  have hlA : (rowA l n1).length = l.length := by simp [rerow, hrA.len]
  have hlB : (rowB l n1).length = l.length := by simp [rerow, hrB.len]
  have hn1 : n1 < l.length := hrA.y
  obtain ⟨e1, H1, hs1, ⟨eA, HAf, hsA, rA, hkA, hQA⟩, ⟨eB, HBf, hsB, rB, hkB, hQB⟩⟩ := h
  obtain ⟨E1, HH1, X1, A1, p1, p2, p3, p4, p5⟩ := specR_trace hs1
  obtain ⟨E2, HH2, X2, A2, q1, q2, q3, q4, q5⟩ := specR_trace hsA
  obtain ⟨E3, HH3, X3, A3, s1, s2, s3, s4, s5⟩ := specR_trace hsB
  have hlt : ((rowA l n1).take n1).length = n1 := by rw [List.length_take]; omega
  rw [hlt] at p3 p4
  have htA := Trace.glue (l := rowA l n1) (n1 := n1) (by omega) p1 p5 (by rw [q1, p3]) (by rw [q2, p4]) q5
  have hgs : ∀ k, k < n1 → gsB.getD k [] = gsA.getD k [] := fun k hk => by
    have := congrArg (fun g => g[k]?) (eq_of_beq k10)
    simp only [List.getElem?_take_of_lt hk] at this
    rw [List.getD_eq_getElem?_getD, List.getD_eq_getElem?_getD, this]
  have hex : ∀ k, k < n1 → exB.getD k false = exA.getD k false := fun k hk => by
    have := congrArg (fun g => g[k]?) (eq_of_beq k11)
    simp only [List.getElem?_take_of_lt hk] at this
    rw [List.getD_eq_getElem?_getD, List.getD_eq_getElem?_getD, this]
  have htB := Trace.glue (P := F.P) (W := some W) (gs := gsB) (ex := exB) (l := rowB l n1) (n1 := n1) (by omega) p1 (fun k o ho => by
    have hk : k < n1 := by
      have := (List.getElem?_eq_some_iff.1 ho).1
      rw [List.length_take] at this
      omega
    rw [hgs k hk, hex k hk]
    exact p5 k o (by rw [hpre]; exact ho)) (by rw [s1, p3]) (by rw [s2, p4]) s5
  have hdA : ∀ a w, Inv F.n F.Γ (rowA l n1) S.env (fun k => if k ≤ n1 then HH1 k else HH2 (k - n1)) (fun k => if k < n1 then X1 k else X2 (k - n1)) (fun k => if k < n1 then A1 k else A2 (k - n1)) (fun k => k < (rowA l n1).length) a w → ∃ S', Q .normal S' ∧ Sat F.n F.Γ S' a w := by
    intro a w hI
    have hd := Inv.done htA k3 hI (fun k hk => hk) k4
    have hld : ((rowA l n1).drop n1).length = (rowA l n1).length - n1 := List.length_drop ..
    rw [hld] at q3 q4
    have hnot : ¬ (rowA l n1).length ≤ n1 := by omega
    simp only [hnot, if_false, q3, q4, hkA.sel] at hd
    exact ⟨_, hQA, hd⟩
  have hdB : ∀ a w, Inv F.n F.Γ (rowB l n1) S.env (fun k => if k ≤ n1 then HH1 k else HH3 (k - n1)) (fun k => if k < n1 then X1 k else X3 (k - n1)) (fun k => if k < n1 then A1 k else A3 (k - n1)) (fun k => k < (rowB l n1).length) a w → ∃ S', Q .normal S' ∧ Sat F.n F.Γ S' a w := by
    intro a w hI
    have hd := Inv.done htB k5 hI (fun k hk => hk) k6
    have hld : ((rowB l n1).drop n1).length = (rowB l n1).length - n1 := List.length_drop ..
    rw [hld] at s3 s4
    have hnot : ¬ (rowB l n1).length ≤ n1 := by omega
    simp only [hnot, if_false, s3, s4, hkB.sel] at hd
    exact ⟨_, hQB, hd⟩
  refine wp_region_any hm ?_
  have hH0 : (fun k => if k ≤ n1 then HH1 k else HH2 (k - n1)) 0 = S.heap := by simp [p2]
  refine wp_fork (W := W) (gsA := gsA) (gsB := gsB) (exA := exA) (exB := exB) hrA hrB k3 k5 hpre ?_ (fun k hk hk2 => ?_) htA htB (fun c hc => by simp [hc]) (fun k hk => by simp [hk]) (fun k hk => by simp [hk]) hdA hdB l.toArray.size (Array.replicate l.toArray.size false) (by simp) ?_ (fun k hk => ?_) (fun k o _ hk => ?_) a _ (Inv.start (HH := fun k => if k ≤ n1 then HH1 k else HH2 (k - n1)) hH0 hs.drew (fun k hk => ?_))
  · split at k7
    · rename_i o ho
      exact ⟨o, ho, k7⟩
    · cases k7
  · rw [List.all_eq_true] at k9
    have := k9 k (by simpa using hk)
    simp only [Bool.or_eq_true, Nat.ble_eq] at this
    rcases this with h | h
    · omega
    · exact h
  · have := List.countP_le_length (p := fun k => !(Array.replicate l.toArray.size false).getD k false) (l := List.range l.length)
    rw [List.length_range] at this
    simpa using this
  all_goals
    simp [Array.getD_eq_getD_getElem?, Array.getElem?_replicate] at hk
    split at hk <;> simp at hk
end Go.Nx
