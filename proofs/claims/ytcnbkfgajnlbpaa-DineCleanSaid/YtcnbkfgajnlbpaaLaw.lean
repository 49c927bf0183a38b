/- The plain laws: what the models come to. -/
import Derived.Test.YtcnbkfgajnlbpaaMod
namespace Go.Proofs.Ytcnbkfgajnlbpaa
open Go Go.Nx
set_option linter.unusedVariables false
set_option linter.unusedSimpArgs false
set_option maxRecDepth 8000
theorem w64_nat {i : Nat} (h : i < 1000000000) : w64 ((i : Int) + 1) = ((i + 1 : Nat) : Int) := by
  have : IntKind.i64.wrap ((i : Int) + 1) = (i : Int) + 1 := wrap_i64 (by omega) (by omega)
  simpa using this
theorem w64_pred {i : Nat} (h : i < 1000000000) : w64 (((i + 1 : Nat) : Int) - 1) = (i : Int) := by
  have : IntKind.i64.wrap (((i + 1 : Nat) : Int) - 1) = ((i + 1 : Nat) : Int) - 1 := wrap_i64 (by omega) (by omega)
  show IntKind.i64.wrap _ = _
  rw [this]
  omega
theorem at_nat {α : Type} {xs : List α} {i : Nat} : at? xs (i : Int) = xs[i]? := by
  simp [at?]
theorem at_zero {α : Type} {xs : List α} : at? xs 0 = xs[0]? := by
  simp [at?]
theorem drop_at {α : Type} {xs : List α} {i : Nat} {x : α} (h : xs[i]? = some x) : xs.drop i = x :: xs.drop (i + 1) := by
  obtain ⟨hl, rfl⟩ := List.getElem?_eq_some_iff.1 h
  exact List.drop_eq_getElem_cons hl
theorem some_at {α : Type} {xs : List α} {i : Nat} (h : i < xs.length) : ∃ x, xs[i]? = some x := ⟨_, List.getElem?_eq_getElem h⟩
theorem app_ok {α : Type} {xs : List α} (h : xs.length ≤ 1000000) : app? [] xs = some xs := by
  simp [app?]
  omega
theorem own_eq {N : Nat} {d : TDiner} (h : d.Sides.length ≤ 70) : narthexlaw13_Own N d = some d := by
  simp [narthexlaw13_Own, app_ok (Nat.le_trans h (by decide))]
theorem clone_eq {N : Nat} {l : List TSide} (h : l.length ≤ 70) : slices_Clone_Side N l = some l := by
  simp [slices_Clone_Side, app_ok (Nat.le_trans h (by decide))]

/-! May a diner be? -/
def sideOk (id last : Int) (x : TSide) : Bool := decide (x.Peer > last) && x.Peer != id && !decide (x.Epoch < 0) && !decide (x.Epoch > 65535) && !decide (x.State < 0) && !decide (x.State > 3) && !(x.Dirty && !x.Fork)
def sidesOk (id : Int) : Int → List TSide → Bool
  | _, [] => true
  | last, x :: xs => sideOk id last x && sidesOk id x.Peer xs
def dnOk (d : TDiner) : Bool := !decide (d.ID < 0) && !decide (d.Phase < 0) && !decide (d.Phase > 2) && !decide ((d.Sides.length : Int) ≥ 64) && sidesOk d.ID (-1) d.Sides

theorem check1_eq {N : Nat} {x : TSide} {a b : Int} {l : List TSide} {last : Int} : dine_Check_1 N x a b l last = some (!sideOk a last x, x.Peer) := by
  simp [dine_Check_1, sideOk, Bool.not_and, bne, Bool.or_assoc]
theorem idx_eq {N : Nat} {xs : List TSide} {a b : Int} {l : List TSide} : ∀ (n i : Nat) (last : Int), xs.length < n + i → xs.length ≤ 1000000 → i ≤ xs.length →
    ∃ z, slices_IndexFunc_Side_L1 N xs a b l n last i = some z ∧ (match z with | .inl (j, _) => 0 ≤ j ∧ sidesOk a last (xs.drop i) = false | .inr _ => sidesOk a last (xs.drop i) = true)
  | 0, i, last, h, _, hi => by omega
  | n + 1, i, last, h, hb, hi => by
    rw [slices_IndexFunc_Side_L1]
    by_cases hlt : i < xs.length
    · obtain ⟨x, hx⟩ := some_at hlt
      rw [if_pos (by simpa using hlt), at_nat, hx, Option.bind_some, check1_eq, Option.bind_some, drop_at hx, sidesOk]
      cases hs : sideOk a last x with
      | false => exact ⟨.inl (i, x.Peer), by simp, by simp⟩
      | true =>
        rw [if_neg (by simp), w64_nat (by omega)]
        simpa using idx_eq n (i + 1) x.Peer (by omega) hb (by omega)
    · rw [if_neg (by simpa using hlt)]
      exact ⟨.inr last, rfl, by rw [List.drop_eq_nil_of_le (by omega)]; rfl⟩
theorem contains_eq {N : Nat} {xs : List TSide} {a b : Int} {l : List TSide} {last : Int} (hN : xs.length < N) (hb : xs.length ≤ 1000000) : ∃ w, slices_ContainsFunc_Side N xs a b l last = some (!sidesOk a last xs, w) := by
  obtain ⟨z, h1, h2⟩ := idx_eq (N := N) (xs := xs) (a := a) (b := b) (l := l) N 0 last (by omega) hb (by omega)
  rw [show ((0 : Nat) : Int) = 0 from rfl] at h1
  simp only [List.drop_zero] at h2
  unfold slices_ContainsFunc_Side slices_IndexFunc_Side
  rw [h1, Option.bind_some]
  match z, h2 with
  | .inl (j, w), h2 => exact ⟨w, by simp [h2.1, h2.2]⟩
  | .inr w, h2 => exact ⟨w, by simp [h2]⟩
theorem check_eq {N : Nat} {d : TDiner} (hl : d.Sides.length ≤ 70) (hN : 100 ≤ N) : dine_Check N d = some (if dnOk d then 0 else 130) := by
  unfold dine_Check dnOk
  by_cases hg : (((decide (d.ID < 0) || decide (d.Phase < 0)) || decide (d.Phase > 2)) || decide ((d.Sides.length : Int) ≥ 64)) = true
  · have h2 : (!decide (d.ID < 0) && !decide (d.Phase < 0) && !decide (d.Phase > 2) && !decide ((d.Sides.length : Int) ≥ 64)) = false := by
      rw [← Bool.not_eq_true']
      simpa using hg
    rw [hg, h2]
    simp
  · have hg' : (((decide (d.ID < 0) || decide (d.Phase < 0)) || decide (d.Phase > 2)) || decide ((d.Sides.length : Int) ≥ 64)) = false := by simpa using hg
    have h2 : (!decide (d.ID < 0) && !decide (d.Phase < 0) && !decide (d.Phase > 2) && !decide ((d.Sides.length : Int) ≥ 64)) = true := by
      simpa using hg'
    obtain ⟨w, hw⟩ := contains_eq (N := N) (xs := d.Sides) (a := d.ID) (b := d.Phase) (l := d.Sides) (last := -1) (by omega) (by omega)
    rw [hg', h2]
    simp only [Bool.not_false, if_true, hw, Option.bind_some, Bool.false_or, Bool.true_and]
    cases sidesOk d.ID (-1) d.Sides <;> simp

/-- What is ahead of a side. -/
def lastOf (xs : List TSide) : Nat → Int
  | 0 => -1
  | i + 1 => match xs[i]? with
    | some y => y.Peer
    | none => -1
theorem refcheck_loop {N : Nat} {d : TDiner} (hb : d.Sides.length ≤ 1000000) : ∀ (n i : Nat), d.Sides.length < n + i → i ≤ d.Sides.length → lastOf d.Sides i ≥ -1 →
    narthexref13_Check_L1 N d n i = some (if sidesOk d.ID (lastOf d.Sides i) (d.Sides.drop i) = true then .inr () else .inl false)
  | 0, i, h, hi, _ => by omega
  | n + 1, i, h, hi, hlast => by
    rw [narthexref13_Check_L1]
    by_cases hlt : i < d.Sides.length
    · obtain ⟨x, hx⟩ := some_at hlt
      rw [if_pos (by simpa using hlt), at_nat, hx, Option.bind_some, drop_at hx, sidesOk]
      have hl1 : lastOf d.Sides (i + 1) = x.Peer := by simp [lastOf, hx]
      obtain ⟨y, hy, hyl⟩ : ∃ y : TSide, (if decide ((i : Int) > 0) = true then at? d.Sides (w64 ((i : Int) - 1)) else some default) = some y ∧ ((i : Int) > 0 → y.Peer = lastOf d.Sides i) := by
        cases i with
        | zero => exact ⟨default, by simp, by simp⟩
        | succ j =>
          obtain ⟨y, hy⟩ := some_at (xs := d.Sides) (i := j) (by omega)
          refine ⟨y, ?_, fun _ => by simp [lastOf, hy]⟩
          rw [if_pos (by simp), w64_pred (by omega), at_nat, hy]
      rw [hy, Option.bind_some]
      have key : ((((((((decide (x.Peer < 0)) || (x.Peer == d.ID)) || ((decide ((i : Int) > 0)) && (decide (y.Peer ≥ x.Peer)))) || (decide (x.Epoch < 0))) || (decide (x.Epoch > 65535))) || (decide (x.State < 0))) || (decide (x.State > 3))) || (x.Dirty && (!x.Fork))) = !sideOk d.ID (lastOf d.Sides i) x := by
        have hp : ((decide (x.Peer < 0) || (decide ((i : Int) > 0) && decide (y.Peer ≥ x.Peer)))) = !decide (x.Peer > lastOf d.Sides i) := by
          rw [Bool.eq_iff_iff]
          simp only [Bool.or_eq_true, Bool.and_eq_true, decide_eq_true_eq, Bool.not_eq_true', decide_eq_false_iff_not]
          by_cases h0 : (i : Int) > 0
          · have := hyl h0
            omega
          · have h1 : lastOf d.Sides i = -1 := by
              have : i = 0 := by omega
              subst this
              rfl
            omega
        unfold sideOk
        have e : ((decide (x.Peer < 0) || x.Peer == d.ID) || (decide ((i : Int) > 0) && decide (y.Peer ≥ x.Peer))) = ((decide (x.Peer < 0) || (decide ((i : Int) > 0) && decide (y.Peer ≥ x.Peer))) || x.Peer == d.ID) := by
          cases decide (x.Peer < 0) <;> cases (x.Peer == d.ID) <;> simp
        rw [e, hp]
        simp [Bool.not_and, bne]
      rw [key]
      cases hs : sideOk d.ID (lastOf d.Sides i) x with
      | false => simp
      | true =>
        rw [if_neg (by simp), w64_nat (by omega)]
        have hgt : x.Peer > lastOf d.Sides i := by
          simp [sideOk] at hs
          omega
        have := refcheck_loop (N := N) hb n (i + 1) (by omega) (by omega) (by rw [hl1]; omega)
        rw [hl1] at this
        simpa using this
    · rw [if_neg (by simpa using hlt), List.drop_eq_nil_of_le (by omega)]
      simp [sidesOk]
theorem refcheck_eq {N : Nat} {d : TDiner} (hl : d.Sides.length ≤ 70) (hN : 100 ≤ N) : narthexref13_Check N d = some (dnOk d) := by
  unfold narthexref13_Check dnOk
  by_cases hg : ((decide (d.ID < 0) || ((d.Phase != 0 && d.Phase != 1) && d.Phase != 2)) || decide ((d.Sides.length : Int) > 63)) = true
  · rw [if_pos hg]
    have : (!decide (d.ID < 0) && !decide (d.Phase < 0) && !decide (d.Phase > 2) && !decide ((d.Sides.length : Int) ≥ 64)) = false := by
      simp at hg ⊢
      omega
    rw [this]
    rfl
  · rw [if_neg hg]
    have : (!decide (d.ID < 0) && !decide (d.Phase < 0) && !decide (d.Phase > 2) && !decide ((d.Sides.length : Int) ≥ 64)) = true := by
      simp at hg ⊢
      omega
    rw [this, show ((0 : Int)) = ((0 : Nat) : Int) from rfl, refcheck_loop (N := N) (d := d) (by omega) N 0 (by omega) (by omega) (by simp [lastOf])]
    simp only [lastOf, List.drop_zero, Option.bind_some, Bool.true_and]
    cases sidesOk d.ID (-1) d.Sides <;> rfl

theorem diner_ext {a b : TDiner} : a = b ↔ a.ID = b.ID ∧ a.Phase = b.Phase ∧ a.Sides = b.Sides := by
  cases a; cases b; simp
theorem same_loop {N : Nat} {a b : TDiner} (hab : a.Sides.length = b.Sides.length) (hb : a.Sides.length ≤ 1000000) : ∀ (n i : Nat), a.Sides.length < n + i → i ≤ a.Sides.length →
    narthexref12_SameOne_L1 N a b n i = some (if a.Sides.drop i = b.Sides.drop i then .inr () else .inl false)
  | 0, i, h, hi => by omega
  | n + 1, i, h, hi => by
    rw [narthexref12_SameOne_L1]
    by_cases hlt : i < a.Sides.length
    · obtain ⟨x, hx⟩ := some_at hlt
      obtain ⟨y, hy⟩ := some_at (xs := b.Sides) (i := i) (by omega)
      rw [if_pos (by simpa using hlt), at_nat, at_nat, hx, hy, Option.bind_some, Option.bind_some, drop_at hx, drop_at hy]
      by_cases hxy : x = y
      · rw [if_neg (by simp [hxy]), w64_nat (by omega), same_loop hab hb n (i + 1) (by omega) (by omega)]
        simp [hxy]
      · rw [if_pos (by simp [hxy])]
        simp [hxy]
    · rw [if_neg (by simpa using hlt), List.drop_eq_nil_of_le (by omega), List.drop_eq_nil_of_le (by omega)]
      simp
theorem same_eq {N : Nat} {a b : TDiner} (hl : a.Sides.length ≤ 70) (hN : 100 ≤ N) : narthexref12_SameOne N a b = some (decide (a = b)) := by
  unfold narthexref12_SameOne
  by_cases h : (a.ID != b.ID || a.Phase != b.Phase || (a.Sides.length : Int) != (b.Sides.length : Int)) = true
  · rw [if_pos h]
    have : a ≠ b := by
      rintro rfl
      simp at h
    simp [this]
  · rw [if_neg h]
    have h3 : a.ID = b.ID ∧ a.Phase = b.Phase ∧ a.Sides.length = b.Sides.length := by
      simp at h
      omega
    rw [show ((0 : Int)) = ((0 : Nat) : Int) from rfl, same_loop (N := N) h3.2.2 (by omega) N 0 (by omega) (by omega)]
    simp only [List.drop_zero, Option.bind_some]
    by_cases hs : a.Sides = b.Sides
    · simp [hs, diner_ext, h3]
    · simp [hs, diner_ext]
theorem equal_loop {N : Nat} {a b : List TSide} (hab : a.length = b.length) (hb : a.length ≤ 1000000) : ∀ (n i : Nat), a.length < n + i → i ≤ a.length →
    slices_Equal_Side_L1 N a b n i = some (if a.drop i = b.drop i then .inr () else .inl false)
  | 0, i, h, hi => by omega
  | n + 1, i, h, hi => by
    rw [slices_Equal_Side_L1]
    by_cases hlt : i < a.length
    · obtain ⟨x, hx⟩ := some_at hlt
      obtain ⟨y, hy⟩ := some_at (xs := b) (i := i) (by omega)
      rw [if_pos (by simpa using hlt), at_nat, at_nat, hx, hy, Option.bind_some, Option.bind_some, drop_at hx, drop_at hy]
      by_cases hxy : x = y
      · rw [if_neg (by simp [hxy]), w64_nat (by omega), equal_loop hab hb n (i + 1) (by omega) (by omega)]
        simp [hxy]
      · rw [if_pos (by simp [hxy])]
        simp [hxy]
    · rw [if_neg (by simpa using hlt), List.drop_eq_nil_of_le (by omega), List.drop_eq_nil_of_le (by omega)]
      simp
theorem equal_eq {N : Nat} {a b : List TSide} (hl : a.length ≤ 70) (hN : 100 ≤ N) : slices_Equal_Side N a b = some (decide (a = b)) := by
  unfold slices_Equal_Side
  by_cases h : ((a.length : Int) != (b.length : Int)) = true
  · rw [if_pos h]
    have : a ≠ b := by
      rintro rfl
      simp at h
    simp [this]
  · rw [if_neg h]
    have h3 : a.length = b.length := by
      simp at h
      omega
    rw [show ((0 : Int)) = ((0 : Nat) : Int) from rfl, equal_loop (N := N) h3 (by omega) N 0 (by omega) (by omega)]
    simp only [List.drop_zero, Option.bind_some]
    by_cases hs : a = b <;> simp [hs]
theorem dsame_eq {N : Nat} {a b : TDiner} (hl : a.Sides.length ≤ 70) (hN : 100 ≤ N) : dine_Same N a b = some (decide (a = b)) := by
  unfold dine_Same
  rw [equal_eq hl hN]
  by_cases h1 : a.ID = b.ID <;> by_cases h2 : a.Phase = b.Phase <;> by_cases h3 : a.Sides = b.Sides <;> simp [h1, h2, h3, diner_ext]

/-! What is done at one side, and what goes out. -/
def s1 (ph : Int) (x : TSide) : TSide := if (((x.Fork && x.Dirty) && x.Token) && (ph != 2)) = true then { x with Fork := false, Dirty := false } else x
def m1 (id ph : Int) (x : TSide) : List TMail := if (((x.Fork && x.Dirty) && x.Token) && (ph != 2)) = true then [⟨id, x.Peer, ⟨1, x.Epoch, 0⟩⟩] else []
def s2 (ph : Int) (x : TSide) : TSide := if (((ph == 1) && x.Token) && (!x.Fork)) = true then { x with Token := false } else x
def m2 (id ph : Int) (x : TSide) : List TMail := if (((ph == 1) && x.Token) && (!x.Fork)) = true then [⟨id, x.Peer, ⟨2, x.Epoch, 0⟩⟩] else []
def st (ph : Int) (x : TSide) : TSide := s2 ph (s1 ph x)
def ml (id ph : Int) (x : TSide) : List TMail := m1 id ph x ++ m2 id ph (s1 ph x)
theorem m1_len {id ph : Int} {x : TSide} : (m1 id ph x).length ≤ 1 := by unfold m1; split <;> simp
theorem m2_len {id ph : Int} {x : TSide} : (m2 id ph x).length ≤ 1 := by unfold m2; split <;> simp
theorem app_more {α : Type} {xs ys : List α} (h : xs.length ≤ 1000000) (h' : ys.length ≤ 1000000) : app? xs ys = some (xs ++ ys) := by
  simp [app?]
  omega
theorem send_eq {N : Nat} {k id a c d : Int} {l : List TSide} {out : List TMail} {i : Nat} {x : TSide} (hx : l[i]? = some x) (ho : out.length ≤ 1000) : dine_Fire_1_2 N k id a l c d out i = some (out ++ [⟨id, x.Peer, ⟨k, x.Epoch, 0⟩⟩]) := by
  simp [dine_Fire_1_2, hx, app_more (xs := out) (ys := [(⟨id, x.Peer, ⟨k, x.Epoch, 0⟩⟩ : TMail)]) (by omega) (by simp)]
theorem set_self {α : Type} {l : List α} {i : Nat} {x : α} (h : l[i]? = some x) : l.set i x = l := by
  obtain ⟨hl, rfl⟩ := List.getElem?_eq_some_iff.1 h
  simp
theorem set_get {α : Type} {l : List α} {i : Nat} {x y : α} (h : l[i]? = some x) : (l.set i y)[i]? = some y := at_set h
theorem fire_body {N n i : Nat} {d : TDiner} {y2 l : List TSide} {out : List TMail} {all : Bool} {x : TSide} (hi : i < y2.length) (hb : y2.length ≤ 1000) (hx : l[i]? = some x) (ho : out.length ≤ 900) :
    dine_Fire_L1 N d y2 (n + 1) l out all i = dine_Fire_L1 N d y2 n (l.set i (st d.Phase x)) (out ++ ml d.ID d.Phase x) (all && (st d.Phase x).Fork) ((i + 1 : Nat) : Int) := by
  rw [dine_Fire_L1, if_pos (by simpa using hi), at_nat, hx, Option.bind_some]
  have hz : (if (((x.Fork && x.Dirty) && x.Token) && (d.Phase != 2)) = true then
          Option.bind (dine_Fire_1_2 N 1 d.ID d.Phase ((l.set (i : Int).toNat { x with Fork := false }).set (i : Int).toNat { x with Fork := false, Dirty := false }) 0 0 out (i : Int).toNat) fun y6 =>
          some ((l.set (i : Int).toNat { x with Fork := false }).set (i : Int).toNat { x with Fork := false, Dirty := false }, y6)
        else some (l, out)) = some (l.set i (s1 d.Phase x), out ++ m1 d.ID d.Phase x) := by
    by_cases h1 : (((x.Fork && x.Dirty) && x.Token) && (d.Phase != 2)) = true
    · rw [if_pos h1]
      simp only [Int.toNat_natCast, List.set_set, s1, m1, if_pos h1]
      rw [send_eq (x := { x with Fork := false, Dirty := false }) (set_get hx) (by omega)]
      rfl
    · rw [if_neg h1]
      simp only [s1, m1, if_neg h1, set_self hx, List.append_nil]
  rw [hz, Option.bind_some]
  simp only [Int.toNat_natCast]
  have hg : (l.set i (s1 d.Phase x))[i]? = some (s1 d.Phase x) := set_get hx
  have ho2 : (out ++ m1 d.ID d.Phase x).length ≤ 1000 := by
    have := m1_len (id := d.ID) (ph := d.Phase) (x := x)
    simp
    omega
  by_cases hp : (d.Phase == 1) = true
  · rw [if_pos hp, hg, Option.bind_some]
    by_cases ht : (s1 d.Phase x).Token = true
    · rw [if_pos (by simp [hp, ht]), Option.bind_some]
      by_cases hf : (s1 d.Phase x).Fork = true
      · rw [if_neg (by simp [hf])]
        have e1 : st d.Phase x = s1 d.Phase x := by simp [st, s2, hf]
        have e2 : ml d.ID d.Phase x = m1 d.ID d.Phase x := by simp [ml, m2, hf]
        rw [e1, e2, w64_nat (by omega)]
        cases all <;> simp [hg]
      · have hc : (((d.Phase == 1) && (s1 d.Phase x).Token) && (!(s1 d.Phase x).Fork)) = true := by simp [hp, ht, hf]
        rw [if_pos hc, Option.bind_some, List.set_set]
        have e1 : st d.Phase x = { s1 d.Phase x with Token := false } := by simp only [st, s2, if_pos hc]
        rw [send_eq (x := { s1 d.Phase x with Token := false }) (set_get hx) ho2, Option.bind_some, w64_nat (by omega)]
        have e2 : ml d.ID d.Phase x = m1 d.ID d.Phase x ++ [⟨d.ID, (s1 d.Phase x).Peer, ⟨2, (s1 d.Phase x).Epoch, 0⟩⟩] := by simp only [ml, m2, if_pos hc]
        rw [e1, e2, List.append_assoc]
    · rw [if_neg (by simp [ht]), Option.bind_some, if_neg (by simp [ht])]
      have e1 : st d.Phase x = s1 d.Phase x := by simp [st, s2, ht]
      have e2 : ml d.ID d.Phase x = m1 d.ID d.Phase x := by simp [ml, m2, ht]
      rw [e1, e2, w64_nat (by omega)]
      cases all <;> simp [hg]
  · have hp' : (d.Phase == 1) = false := by simpa using hp
    rw [if_neg hp, Option.bind_some, if_neg (by simp [hp']), Option.bind_some, if_neg (by simp [hp'])]
    have e1 : st d.Phase x = s1 d.Phase x := by simp [st, s2, hp']
    have e2 : ml d.ID d.Phase x = m1 d.ID d.Phase x := by simp [ml, m2, hp']
    rw [e1, e2, w64_nat (by omega)]
    cases all <;> simp [hg]

/-- The first ones changed. -/
def dU {α : Type} (f : α → α) (i : Nat) (xs : List α) : List α := (xs.take i).map f ++ xs.drop i
theorem dU_get {α : Type} {f : α → α} {i : Nat} {xs : List α} {x : α} (h : xs[i]? = some x) : (dU f i xs)[i]? = some x := by
  have hl := (List.getElem?_eq_some_iff.1 h).1
  rw [dU, List.getElem?_append_right (by simp; omega), List.length_map, List.length_take, Nat.min_eq_left (by omega), Nat.sub_self, drop_at h]
  rfl
theorem dU_set {α : Type} {f : α → α} {i : Nat} {xs : List α} {x : α} (h : xs[i]? = some x) : (dU f i xs).set i (f x) = dU f (i + 1) xs := by
  have hl := (List.getElem?_eq_some_iff.1 h).1
  have h1 : ((xs.take i).map f).length = i := by simp; omega
  rw [dU, drop_at h, List.set_append, if_neg (by omega), h1, Nat.sub_self, List.set_cons_zero, dU, List.take_add_one, h]
  simp
theorem dU_all {α : Type} {f : α → α} {i : Nat} {xs : List α} (h : xs.length ≤ i) : dU f i xs = xs.map f := by
  rw [dU, List.take_of_length_le h, List.drop_eq_nil_of_le h, List.append_nil]
theorem dU_zero {α : Type} {f : α → α} {xs : List α} : dU f 0 xs = xs := by simp [dU]
theorem ml_len {id ph : Int} {x : TSide} : (ml id ph x).length ≤ 2 := by
  have := m1_len (id := id) (ph := ph) (x := x)
  have := m2_len (id := id) (ph := ph) (x := s1 ph x)
  simp [ml]
  omega
theorem fire_loop {N : Nat} {d : TDiner} {xs : List TSide} (hb : xs.length ≤ 70) : ∀ (n i : Nat) (out : List TMail) (all : Bool), xs.length < n + i → i ≤ xs.length → out.length ≤ 2 * i →
    dine_Fire_L1 N d xs n (dU (st d.Phase) i xs) out all i = some (xs.map (st d.Phase), out ++ (xs.drop i).flatMap (ml d.ID d.Phase), all && (xs.drop i).all fun x => (st d.Phase x).Fork)
  | 0, i, out, all, h, hi, _ => by omega
  | n + 1, i, out, all, h, hi, ho => by
    by_cases hlt : i < xs.length
    · obtain ⟨x, hx⟩ := some_at hlt
      rw [fire_body hlt (by omega) (dU_get hx) (by omega), dU_set hx]
      have hm := ml_len (id := d.ID) (ph := d.Phase) (x := x)
      rw [fire_loop hb n (i + 1) _ _ (by omega) (by omega) (by simp; omega), drop_at hx]
      simp [Bool.and_assoc]
    · rw [dine_Fire_L1, if_neg (by simpa using hlt), dU_all (by omega), List.drop_eq_nil_of_le (by omega)]
      simp
def dirtyS (x : TSide) : TSide := { x with Dirty := true }
theorem dirty_loop {N : Nat} {z : List TSide × List TMail × Bool} (hb : z.1.length ≤ 1000) : ∀ (n i : Nat), z.1.length < n + i → i ≤ z.1.length →
    dine_Fire_L2 N z n (dU dirtyS i z.1) i = some (z.1.map dirtyS)
  | 0, i, h, hi => by omega
  | n + 1, i, h, hi => by
    rw [dine_Fire_L2]
    by_cases hlt : i < z.1.length
    · obtain ⟨x, hx⟩ := some_at hlt
      rw [if_pos (by simpa using hlt), at_nat, dU_get hx, Option.bind_some, w64_nat (by omega), Int.toNat_natCast]
      have : { x with Dirty := true } = dirtyS x := rfl
      rw [this, dU_set hx]
      exact dirty_loop hb n (i + 1) (by omega) (by omega)
    · rw [if_neg (by simpa using hlt), dU_all (by omega)]
def fireD (d : TDiner) : TDiner := if ((d.Phase == 1) && d.Sides.all fun x => (st d.Phase x).Fork) = true then ⟨d.ID, 2, (d.Sides.map (st d.Phase)).map dirtyS⟩ else { d with Sides := d.Sides.map (st d.Phase) }
def fireM (d : TDiner) : List TMail := d.Sides.flatMap (ml d.ID d.Phase)
theorem fire_eq {N : Nat} {d : TDiner} (hl : d.Sides.length ≤ 70) (hN : 100 ≤ N) : dine_Fire N d = some (if dnOk d = true then (fireD d, fireM d, 0) else (⟨0, 0, []⟩, [], 130)) := by
  unfold dine_Fire
  rw [check_eq hl hN, Option.bind_some]
  cases hok : dnOk d with
  | false => simp
  | true =>
    simp only [if_true]
    rw [if_neg (by decide), clone_eq hl, Option.bind_some]
    have h1 := fire_loop (N := N) (d := d) hl N 0 [] true (by omega) (by omega) (by simp)
    rw [dU_zero] at h1
    rw [show ((0 : Int)) = ((0 : Nat) : Int) from rfl, h1, Option.bind_some]
    simp only [List.drop_zero, List.nil_append, Bool.true_and]
    by_cases hc : ((d.Phase == 1) && d.Sides.all fun x => (st d.Phase x).Fork) = true
    · rw [if_pos hc]
      have h2 := dirty_loop (N := N) (z := (d.Sides.map (st d.Phase), d.Sides.flatMap (ml d.ID d.Phase), d.Sides.all fun x => (st d.Phase x).Fork)) (by simp; omega) N 0 (by simp; omega) (by simp)
      rw [dU_zero] at h2
      rw [h2, Option.bind_some]
      simp [fireD, fireM, hc]
    · rw [if_neg hc]
      simp [fireD, fireM, hc]
theorem awake_ok : narthexlaw13_awake 200 = some true := by rfl

/-! What goes out goes in a row. -/
def rowR (a b : TMail) : Prop := a.To < b.To ∨ (a.To = b.To ∧ a.Msg.Kind = 1 ∧ b.Msg.Kind = 2)
theorem s1_peer {ph : Int} {x : TSide} : (s1 ph x).Peer = x.Peer := by unfold s1; split <;> rfl
theorem ml_to {id ph : Int} {x : TSide} {m : TMail} (h : m ∈ ml id ph x) : m.To = x.Peer := by
  simp only [ml, List.mem_append] at h
  rcases h with h | h
  · unfold m1 at h
    split at h <;> simp at h
    rw [h]
  · unfold m2 at h
    split at h <;> simp at h
    rw [h]
    exact s1_peer
theorem ml_pair {id ph : Int} {x : TSide} : (ml id ph x).Pairwise rowR := by
  unfold ml m1 m2
  split <;> split <;> simp [rowR, s1_peer]
theorem mails_row {id ph : Int} {nid : Int} : ∀ (xs : List TSide) (last : Int), sidesOk nid last xs = true → (xs.flatMap (ml id ph)).Pairwise rowR ∧ ∀ m ∈ xs.flatMap (ml id ph), m.To > last
  | [], last, _ => by simp
  | x :: xs, last, h => by
    simp only [sidesOk, Bool.and_eq_true] at h
    obtain ⟨h1, h2⟩ := h
    obtain ⟨g1, g2⟩ := mails_row xs x.Peer h2
    have hp : x.Peer > last := by
      simp [sideOk] at h1
      omega
    simp only [List.flatMap_cons]
    refine ⟨List.pairwise_append.2 ⟨ml_pair, g1, fun a ha b hb => ?_⟩, fun m hm => ?_⟩
    · have e1 := ml_to ha
      have e2 := g2 b hb
      left
      omega
    · rcases List.mem_append.1 hm with hm | hm
      · rw [ml_to hm]; exact hp
      · have := g2 m hm
        omega
theorem row_loop {N : Nat} {y : TDiner × List TMail × Int} (hb : y.2.1.length ≤ 1000) (hp : y.2.1.Pairwise rowR) : ∀ (n i : Nat), y.2.1.length < n + i → 1 ≤ i → 0 < n →
    narthexlaw13_DineRow_L1 N y n i = some (.inr ())
  | 0, i, h, hi, hn => by omega
  | n + 1, i, h, hi, hn => by
    rw [narthexlaw13_DineRow_L1]
    by_cases hlt : i < y.2.1.length
    · obtain ⟨b, hb'⟩ := some_at hlt
      obtain ⟨a, ha⟩ := some_at (xs := y.2.1) (i := i - 1) (by omega)
      have e : w64 ((i : Int) - 1) = ((i - 1 : Nat) : Int) := by
        have := w64_pred (i := i - 1) (by omega)
        rwa [show i - 1 + 1 = i by omega] at this
      rw [if_pos (by simpa using hlt), e, at_nat, at_nat, ha, hb', Option.bind_some, Option.bind_some]
      have hr : rowR a b := by
        obtain ⟨l1, rfl⟩ := List.getElem?_eq_some_iff.1 ha
        obtain ⟨l2, rfl⟩ := List.getElem?_eq_some_iff.1 hb'
        exact List.pairwise_iff_getElem.1 hp _ _ l1 l2 (by omega)
      rw [if_neg (by rcases hr with hr | ⟨h1, h2, h3⟩ <;> simp <;> omega), w64_nat (by omega)]
      exact row_loop hb hp n (i + 1) (by omega) (by omega) (by omega)
    · rw [if_neg (by simpa using hlt)]
theorem fireM_len {d : TDiner} (h : d.Sides.length ≤ 70) : (fireM d).length ≤ 140 := by
  have : ∀ xs : List TSide, (xs.flatMap (ml d.ID d.Phase)).length ≤ 2 * xs.length := by
    intro xs
    induction xs with
    | nil => simp
    | cons x xs ih =>
      have := ml_len (id := d.ID) (ph := d.Phase) (x := x)
      simp only [List.flatMap_cons, List.length_append, List.length_cons]
      omega
  have := this d.Sides
  unfold fireM
  omega
theorem law_DineRow (a0 : TDiner) (o0 : kDiner a0) : ∃ N, narthexlaw13_DineRow N a0 = some true := by
  refine ⟨200, ?_⟩
  unfold narthexlaw13_DineRow
  rw [awake_ok, Option.bind_some]
  by_cases hl : a0.Sides.length ≤ 70
  · rw [if_neg (by simp; omega), own_eq hl, Option.bind_some, fire_eq hl (by decide), Option.bind_some]
    cases hok : dnOk a0 with
    | true =>
      simp only [if_true]
      have h1 : (1 : Int) = ((1 : Nat) : Int) := rfl
      have hp : (fireM a0).Pairwise rowR := by
        simp only [dnOk, Bool.and_eq_true] at hok
        exact (mails_row a0.Sides (-1) hok.2).1
      rw [h1, row_loop (y := (fireD a0, fireM a0, 0)) (by have := fireM_len hl; simp only; omega) hp 200 1 (by have := fireM_len hl; simp only; omega) (by omega) (by omega)]
      rfl
    | false =>
      have h1 : (1 : Int) = ((1 : Nat) : Int) := rfl
      rw [if_neg (by simp), h1, row_loop (y := ((⟨0, 0, []⟩ : TDiner), [], 130)) (by simp) (by simp) 200 1 (by simp) (by omega) (by omega)]
      rfl
  · rw [if_pos (by simp; omega)]
    rfl

/-! Hungry, or done. -/
theorem turned_eq {N : Nat} {d : TDiner} {a b : Int} (hl : d.Sides.length ≤ 70) (hN : 100 ≤ N) : dine_turned N d a b = some (if dnOk d = true then (if d.Phase = a then (⟨d.ID, b, d.Sides⟩, 0) else (⟨0, 0, []⟩, 134)) else (⟨0, 0, []⟩, 130)) := by
  unfold dine_turned
  rw [check_eq hl hN, Option.bind_some]
  cases dnOk d with
  | false => simp
  | true =>
    by_cases h : d.Phase = a
    · simp [h, clone_eq hl]
    · simp [h]
theorem law_DineTurns (a0 : TDiner) (o0 : kDiner a0) : ∃ N, narthexlaw13_DineTurns N a0 = some true := by
  refine ⟨200, ?_⟩
  unfold narthexlaw13_DineTurns
  rw [awake_ok, Option.bind_some]
  by_cases hl : a0.Sides.length ≤ 70
  · rw [if_neg (by simp; omega), own_eq hl, Option.bind_some]
    unfold dine_Start dine_Stop
    simp only [turned_eq hl (show 100 ≤ 200 by decide), refcheck_eq hl (show 100 ≤ 200 by decide), own_eq hl, Option.bind_some]
    cases hok : dnOk a0 with
    | false =>
      simp [same_eq (N := 200) (a := (⟨0, 0, []⟩ : TDiner)) (b := ⟨0, 0, []⟩) (by simp) (by decide)]
    | true =>
      simp only [Bool.not_true, Bool.false_eq_true, if_false, if_true]
      by_cases h0 : a0.Phase = 0
      · simp [h0, same_eq (N := 200) (a := (⟨a0.ID, 1, a0.Sides⟩ : TDiner)) (b := ⟨a0.ID, 1, a0.Sides⟩) (by simpa using hl) (by decide)]
      · by_cases h2 : a0.Phase = 2
        · simp [h2, same_eq (N := 200) (a := (⟨a0.ID, 0, a0.Sides⟩ : TDiner)) (b := ⟨a0.ID, 0, a0.Sides⟩) (by simpa using hl) (by decide)]
        · simp [h0, h2]
  · rw [if_pos (by simp; omega)]
    rfl

/-! Behind it nothing more is to be done. -/
theorem st_fields {ph : Int} {x : TSide} : (st ph x).Peer = x.Peer ∧ (st ph x).Epoch = x.Epoch ∧ (st ph x).State = x.State ∧ (st ph x).Bottle = x.Bottle ∧ (st ph x).Ask = x.Ask := by
  unfold st s2 s1
  split <;> split <;> simp
theorem st_dirty {ph : Int} {x : TSide} (h : (x.Dirty && !x.Fork) = false) : ((st ph x).Dirty && !(st ph x).Fork) = false := by
  unfold st s2 s1
  split <;> split <;> simp_all
theorem sideOk_st {ph id last : Int} {x : TSide} (h : sideOk id last x = true) : sideOk id last (st ph x) = true := by
  obtain ⟨e1, e2, e3, _⟩ := st_fields (ph := ph) (x := x)
  simp only [sideOk, Bool.and_eq_true] at h ⊢
  rw [e1, e2, e3]
  refine ⟨h.1, ?_⟩
  have h2 : (x.Dirty && !x.Fork) = false := by simpa only [Bool.not_eq_true'] using h.2
  simpa only [Bool.not_eq_true'] using st_dirty (ph := ph) h2
theorem sidesOk_st {ph id : Int} : ∀ {xs : List TSide} {last : Int}, sidesOk id last xs = true → sidesOk id last (xs.map (st ph)) = true
  | [], _, _ => rfl
  | x :: xs, last, h => by
    simp only [sidesOk, List.map_cons, Bool.and_eq_true] at h ⊢
    exact ⟨sideOk_st h.1, by rw [(st_fields (ph := ph) (x := x)).1]; exact sidesOk_st h.2⟩
theorem sidesOk_dirty {id : Int} : ∀ {xs : List TSide} {last : Int}, sidesOk id last xs = true → (∀ x ∈ xs, x.Fork = true) → sidesOk id last (xs.map dirtyS) = true
  | [], _, _, _ => rfl
  | x :: xs, last, h, hf => by
    simp only [sidesOk, List.map_cons, Bool.and_eq_true] at h ⊢
    refine ⟨?_, sidesOk_dirty h.2 (fun y hy => hf y (List.mem_cons_of_mem _ hy))⟩
    have := hf x List.mem_cons_self
    have h1 := h.1
    simp only [sideOk, Bool.and_eq_true] at h1 ⊢
    exact ⟨h1.1, by simp [dirtyS, this]⟩
theorem dnOk_fire {d : TDiner} (h : dnOk d = true) : dnOk (fireD d) = true := by
  simp only [dnOk, Bool.and_eq_true] at h
  obtain ⟨⟨⟨⟨h1, h2⟩, h3⟩, h4⟩, h5⟩ := h
  have h6 := sidesOk_st (ph := d.Phase) h5
  unfold fireD
  by_cases hc : ((d.Phase == 1) && d.Sides.all fun x => (st d.Phase x).Fork) = true
  · rw [if_pos hc]
    have hf : ∀ x ∈ d.Sides.map (st d.Phase), x.Fork = true := by
      simp only [Bool.and_eq_true, List.all_eq_true] at hc
      intro x hx
      obtain ⟨y, hy, rfl⟩ := List.mem_map.1 hx
      exact hc.2 y hy
    simp only [dnOk, h1, List.length_map, h4, sidesOk_dirty h6 hf]
    rfl
  · rw [if_neg hc]
    simp only [dnOk, h1, h2, h3, List.length_map, h4, h6]
    rfl
theorem st_st {ph : Int} {x : TSide} : st ph (st ph x) = st ph x ∧ ∀ id, ml id ph (st ph x) = [] := by
  have h1 : ∀ y : TSide, s1 ph (s1 ph y) = s1 ph y := fun y => by unfold s1; split <;> simp_all
  unfold ml m1 m2 st s2 s1
  split <;> split <;> simp_all
theorem fireD_len {d : TDiner} : (fireD d).Sides.length = d.Sides.length := by
  unfold fireD
  split <;> simp
theorem st2_dirty {x : TSide} : st 2 x = x ∧ ∀ id, ml id 2 x = [] := by
  simp [st, s1, s2, ml, m1, m2]
theorem map_same {α : Type} {f : α → α} : ∀ {xs : List α}, (∀ x ∈ xs, f x = x) → xs.map f = xs
  | [], _ => rfl
  | x :: xs, h => by rw [List.map_cons, h x List.mem_cons_self, map_same (fun y hy => h y (List.mem_cons_of_mem _ hy))]
theorem fire_still {d : TDiner} : fireD (fireD d) = fireD d ∧ fireM (fireD d) = [] := by
  unfold fireD
  by_cases hc : ((d.Phase == 1) && d.Sides.all fun x => (st d.Phase x).Fork) = true
  · rw [if_pos hc]
    refine ⟨?_, ?_⟩
    · rw [if_neg (by simp)]
      rw [map_same (fun x _ => st2_dirty.1)]
    · simp only [fireM, List.flatMap_eq_nil_iff]
      exact fun x _ => st2_dirty.2 _
  · rw [if_neg hc]
    have h2 : (d.Sides.map (st d.Phase)).map (st d.Phase) = d.Sides.map (st d.Phase) := map_same (fun x hx => by
      obtain ⟨y, _, rfl⟩ := List.mem_map.1 hx
      exact st_st.1)
    refine ⟨?_, ?_⟩
    · have hc2 : ¬ ((d.Phase == 1) && (d.Sides.map (st d.Phase)).all fun x => (st d.Phase x).Fork) = true := by
        simpa [List.all_map, Function.comp_def, st_st.1] using hc
      simp only
      rw [if_neg hc2, h2]
    · simp only [fireM, List.flatMap_eq_nil_iff]
      intro x hx
      obtain ⟨y, _, rfl⟩ := List.mem_map.1 hx
      exact st_st.2 _
theorem still_loop {N : Nat} {y : TDiner × List TMail × Int} (hb : y.1.Sides.length ≤ 1000) (hp : ∀ x ∈ y.1.Sides, ((((x.Fork && x.Dirty) && x.Token) && (y.1.Phase != 2)) || (((y.1.Phase == 1) && (!x.Fork)) && x.Token)) = false) :
    ∀ (n i : Nat) (b : Bool), y.1.Sides.length < n + i → i ≤ y.1.Sides.length → narthexlaw13_DineStill_L1 N y n b i = some (.inr (b || (y.1.Sides.drop i).any fun x => !x.Fork))
  | 0, i, b, h, hi => by omega
  | n + 1, i, b, h, hi => by
    rw [narthexlaw13_DineStill_L1]
    by_cases hlt : i < y.1.Sides.length
    · obtain ⟨x, hx⟩ := some_at hlt
      rw [if_pos (by simpa using hlt), at_nat, hx, Option.bind_some, if_neg (by rw [hp x (List.mem_of_getElem? hx)]; simp), w64_nat (by omega), still_loop hb hp n (i + 1) _ (by omega) (by omega), drop_at hx]
      simp [Bool.or_assoc]
    · rw [if_neg (by simpa using hlt), List.drop_eq_nil_of_le (by omega)]
      simp
theorem quiet1 {ph : Int} {y : TSide} : (((((st ph y).Fork && (st ph y).Dirty) && (st ph y).Token) && (ph != 2)) || (((ph == 1) && (!(st ph y).Fork)) && (st ph y).Token)) = false := by
  obtain ⟨a, b, c, f, d, t, g, k⟩ := y
  by_cases h1 : ph = 1
  · subst h1
    cases f <;> cases d <;> cases t <;> simp [st, s1, s2]
  · by_cases h2 : ph = 2
    · subst h2
      cases f <;> cases d <;> cases t <;> simp [st, s1, s2]
    · cases f <;> cases d <;> cases t <;> simp [st, s1, s2, h1, h2]
theorem fire_quiet {d : TDiner} : ∀ x ∈ (fireD d).Sides, ((((x.Fork && x.Dirty) && x.Token) && ((fireD d).Phase != 2)) || ((((fireD d).Phase == 1) && (!x.Fork)) && x.Token)) = false := by
  unfold fireD
  by_cases hc : ((d.Phase == 1) && d.Sides.all fun x => (st d.Phase x).Fork) = true
  · rw [if_pos hc]
    intro x _
    simp
  · rw [if_neg hc]
    intro x hx
    obtain ⟨y, _, rfl⟩ := List.mem_map.1 hx
    exact quiet1
theorem fire_missing {d : TDiner} : (((fireD d).Phase != 1) || (fireD d).Sides.any fun x => !x.Fork) = true := by
  unfold fireD
  by_cases hc : ((d.Phase == 1) && d.Sides.all fun x => (st d.Phase x).Fork) = true
  · rw [if_pos hc]
    simp
  · rw [if_neg hc]
    by_cases h1 : d.Phase = 1
    · simp only [h1, beq_self_eq_true, Bool.true_and] at hc
      simp [h1]
      simpa using hc
    · simp [h1]
theorem law_DineStill (a0 : TDiner) (o0 : kDiner a0) : ∃ N, narthexlaw13_DineStill N a0 = some true := by
  refine ⟨200, ?_⟩
  unfold narthexlaw13_DineStill
  rw [awake_ok, Option.bind_some]
  by_cases hl : a0.Sides.length ≤ 70
  · rw [if_neg (by simp; omega), own_eq hl, Option.bind_some, fire_eq hl (by decide), Option.bind_some]
    cases hok : dnOk a0 with
    | false => simp
    | true =>
      simp only [if_true]
      rw [if_neg (by decide)]
      have hl2 : (fireD a0).Sides.length ≤ 70 := by rw [fireD_len]; exact hl
      have hok2 := dnOk_fire hok
      rw [own_eq hl2, Option.bind_some, fire_eq hl2 (by decide), Option.bind_some, hok2, fire_still.1, fire_still.2]
      have h1 := still_loop (N := 200) (y := (fireD a0, fireM a0, 0)) (by simp only; omega) fire_quiet 200 0 false (by simp only; omega) (by simp)
      simp only [List.drop_zero, Bool.false_or] at h1
      rw [show ((0 : Int)) = ((0 : Nat) : Int) from rfl] at *
      simp only [if_true]
      rw [h1]
      have hm := fire_missing (d := a0)
      simp only [Option.bind_some, same_eq (N := 200) (a := fireD a0) (b := fireD a0) hl2 (by decide), hm, own_eq hl2, check_eq (N := 200) hl2 (by decide), hok2]
      simp [hm, own_eq hl2, check_eq (N := 200) hl2 (by decide), hok2]
  · rw [if_pos (by simp; omega)]
    rfl

/-! What was there is there, or went out. -/
theorem c1_iff {ph : Int} {x : TSide} : (x.Fork && !(st ph x).Fork) = (((x.Fork && x.Dirty) && x.Token) && (ph != 2)) := by
  obtain ⟨a, b, c, f, d, t, g, k⟩ := x
  by_cases h1 : ph = 1
  · subst h1
    cases f <;> cases d <;> cases t <;> simp [st, s1, s2]
  · by_cases h2 : ph = 2
    · subst h2
      cases f <;> cases d <;> cases t <;> simp [st, s1, s2]
    · cases f <;> cases d <;> cases t <;> simp [st, s1, s2, h1, h2]
theorem c2_iff {ph : Int} {x : TSide} : (x.Token && !(st ph x).Token) = (((ph == 1) && (s1 ph x).Token) && (!(s1 ph x).Fork)) := by
  obtain ⟨a, b, c, f, d, t, g, k⟩ := x
  by_cases h1 : ph = 1
  · subst h1
    cases f <;> cases d <;> cases t <;> simp [st, s1, s2]
  · by_cases h2 : ph = 2
    · subst h2
      cases f <;> cases d <;> cases t <;> simp [st, s1, s2]
    · cases f <;> cases d <;> cases t <;> simp [st, s1, s2, h1, h2]
theorem c3_no {ph : Int} {x : TSide} : ((!x.Fork) && (st ph x).Fork) = false ∧ ((!x.Token) && (st ph x).Token) = false ∧ ((x.Token && !(st ph x).Token) = true → (st ph x).Fork = false) := by
  obtain ⟨a, b, c, f, d, t, g, k⟩ := x
  by_cases h1 : ph = 1
  · subst h1
    cases f <;> cases d <;> cases t <;> simp [st, s1, s2]
  · by_cases h2 : ph = 2
    · subst h2
      cases f <;> cases d <;> cases t <;> simp [st, s1, s2]
    · cases f <;> cases d <;> cases t <;> simp [st, s1, s2, h1, h2]
theorem s1_epoch {ph : Int} {x : TSide} : (s1 ph x).Epoch = x.Epoch := by unfold s1; split <;> rfl
/-- What a side becomes. -/
def Becomes (ph : Int) (x y : TSide) : Prop := y.Fork = (st ph x).Fork ∧ y.Token = (st ph x).Token ∧ y.Bottle = x.Bottle ∧ y.Ask = x.Ask ∧ y.State = x.State ∧ y.Peer = x.Peer ∧ y.Epoch = x.Epoch
theorem fire_becomes {d : TDiner} {i : Nat} {x : TSide} (hx : d.Sides[i]? = some x) : ∃ y, (fireD d).Sides[i]? = some y ∧ Becomes d.Phase x y := by
  obtain ⟨e1, e2, e3, e4, e5⟩ := st_fields (ph := d.Phase) (x := x)
  unfold fireD
  split
  · exact ⟨dirtyS (st d.Phase x), by simp [hx], rfl, rfl, e4, e5, e3, e1, e2⟩
  · exact ⟨st d.Phase x, by simp [hx], rfl, rfl, e4, e5, e3, e1, e2⟩
theorem get_mid {α : Type} {l pre post : List α} {a : α} (h : l = pre ++ a :: post) : l[pre.length]? = some a := by
  subst h
  simp
theorem keeps_loop {N : Nat} {d : TDiner} (hb : d.Sides.length ≤ 70) : ∀ (n i : Nat), d.Sides.length < n + i → i ≤ d.Sides.length →
    narthexlaw13_DineKeeps_L1 N d (fireD d, fireM d, 0) n (((d.Sides.take i).flatMap (ml d.ID d.Phase)).length : Int) i = some (.inr ((fireM d).length : Int))
  | 0, i, h, hi => by omega
  | n + 1, i, h, hi => by
    rw [narthexlaw13_DineKeeps_L1]
    by_cases hlt : i < d.Sides.length
    · obtain ⟨x, hx⟩ := some_at hlt
      obtain ⟨y, hy, b1, b2, b3, b4, b5, b6, b7⟩ := fire_becomes hx
      have hl2 : (fireD d).Sides.length = d.Sides.length := fireD_len
      rw [if_pos (by simp [hl2]; omega), at_nat, at_nat, hx, hy, Option.bind_some, Option.bind_some]
      have hsplit : fireM d = (d.Sides.take i).flatMap (ml d.ID d.Phase) ++ (m1 d.ID d.Phase x ++ (m2 d.ID d.Phase (s1 d.Phase x) ++ (d.Sides.drop (i + 1)).flatMap (ml d.ID d.Phase))) := by
        have e : d.Sides = d.Sides.take i ++ x :: d.Sides.drop (i + 1) := by rw [← drop_at hx, List.take_append_drop]
        unfold fireM
        conv => lhs; rw [e]
        simp [ml]
      have hmax := fireM_len hb
      have hnext : ((d.Sides.take (i + 1)).flatMap (ml d.ID d.Phase)).length = ((d.Sides.take i).flatMap (ml d.ID d.Phase)).length + (m1 d.ID d.Phase x).length + (m2 d.ID d.Phase (s1 d.Phase x)).length := by
        rw [List.take_add_one, hx]
        simp [ml, Nat.add_assoc]
      have htot : (fireM d).length = ((d.Sides.take i).flatMap (ml d.ID d.Phase)).length + (m1 d.ID d.Phase x).length + (m2 d.ID d.Phase (s1 d.Phase x)).length + ((d.Sides.drop (i + 1)).flatMap (ml d.ID d.Phase)).length := by
        rw [hsplit]
        simp
        omega
      generalize hA : ((d.Sides.take i).flatMap (ml d.ID d.Phase)) = A at *
      generalize hC : ((d.Sides.drop (i + 1)).flatMap (ml d.ID d.Phase)) = C at *
      -- the fork
      have h1 : (if (x.Fork && (!y.Fork)) = true then
          Option.bind (if (!(((!x.Dirty) || (!x.Token)) || (decide ((A.length : Int) ≥ ((fireM d).length : Int))))) = true then at? (fireM d) (A.length : Int) else some default) fun x13 =>
          if ((((!x.Dirty) || (!x.Token)) || (decide ((A.length : Int) ≥ ((fireM d).length : Int)))) || (!decide (x13 = (⟨d.ID, x.Peer, (⟨1, x.Epoch, 0⟩ : TMsg)⟩ : TMail)))) = true then
            some (Sum.inl false)
          else
            some (.inr ((w64 ((A.length : Int) + 1))))
        else
          some (.inr (A.length : Int))) = (some (.inr ((A.length + (m1 d.ID d.Phase x).length : Nat) : Int)) : Option (Bool ⊕ Int)) := by
        rw [b1, c1_iff]
        by_cases hc : (((x.Fork && x.Dirty) && x.Token) && (d.Phase != 2)) = true
        · have e1 : m1 d.ID d.Phase x = [⟨d.ID, x.Peer, ⟨1, x.Epoch, 0⟩⟩] := by simp only [m1, if_pos hc]
          rw [if_pos hc]
          rw [e1] at htot hsplit
          simp only [List.length_cons, List.length_nil] at htot
          have hd : x.Dirty = true ∧ x.Token = true := by simp at hc; exact ⟨hc.1.1.2, hc.1.2⟩
          have hg : decide ((A.length : Int) ≥ ((fireM d).length : Int)) = false := by simp; omega
          have ha : (fireM d)[A.length]? = some (⟨d.ID, x.Peer, ⟨1, x.Epoch, 0⟩⟩ : TMail) := get_mid hsplit
          rw [hg, hd.1, hd.2, at_nat, ha, w64_nat (by omega), e1]
          simp
        · have e1 : m1 d.ID d.Phase x = [] := by simp only [m1, if_neg hc]
          rw [if_neg hc, e1]
          simp
      simp only
      rw [h1, Option.bind_some]
      simp only
      have h2 : (if (x.Token && (!y.Token)) = true then
            Option.bind (if (!(y.Fork || (decide (((A.length + (m1 d.ID d.Phase x).length : Nat) : Int) ≥ ((fireM d).length : Int))))) = true then at? (fireM d) ((A.length + (m1 d.ID d.Phase x).length : Nat) : Int) else some default) fun x17 =>
            if ((y.Fork || (decide (((A.length + (m1 d.ID d.Phase x).length : Nat) : Int) ≥ ((fireM d).length : Int)))) || (!decide (x17 = (⟨d.ID, x.Peer, (⟨2, x.Epoch, 0⟩ : TMsg)⟩ : TMail)))) = true then
              some (Sum.inl false)
            else
              some (.inr ((w64 (((A.length + (m1 d.ID d.Phase x).length : Nat) : Int) + 1))))
          else
            some (.inr ((A.length + (m1 d.ID d.Phase x).length : Nat) : Int))) = (some (.inr ((A.length + (m1 d.ID d.Phase x).length + (m2 d.ID d.Phase (s1 d.Phase x)).length : Nat) : Int)) : Option (Bool ⊕ Int)) := by
        rw [b2]
        by_cases hc : (x.Token && !(st d.Phase x).Token) = true
        · have hf := (c3_no (ph := d.Phase) (x := x)).2.2 hc
          have hc' := hc
          rw [c2_iff] at hc'
          have e1 : m2 d.ID d.Phase (s1 d.Phase x) = [⟨d.ID, x.Peer, ⟨2, x.Epoch, 0⟩⟩] := by simp only [m2, if_pos hc', s1_peer, s1_epoch]
          rw [if_pos hc, b1, hf]
          rw [e1] at htot hsplit
          simp only [List.length_cons, List.length_nil] at htot
          have hg : decide (((A.length + (m1 d.ID d.Phase x).length : Nat) : Int) ≥ ((fireM d).length : Int)) = false := by simp; omega
          have ha : (fireM d)[A.length + (m1 d.ID d.Phase x).length]? = some (⟨d.ID, x.Peer, ⟨2, x.Epoch, 0⟩⟩ : TMail) := by
            rw [← List.length_append]
            exact get_mid (post := C) (by rw [hsplit]; simp)
          rw [hg, at_nat, ha, w64_nat (by omega), e1]
          simp
        · have hc' := hc
          rw [c2_iff] at hc'
          have e1 : m2 d.ID d.Phase (s1 d.Phase x) = [] := by simp only [m2, if_neg hc']
          rw [if_neg hc, e1]
          simp
      rw [h2, Option.bind_some]
      simp only
      rw [if_neg (by rw [b1, b2, b3, b4, b5, b6, b7, (c3_no (ph := d.Phase) (x := x)).1, (c3_no (ph := d.Phase) (x := x)).2.1]; simp), w64_nat (by omega), ← hnext]
      exact keeps_loop hb n (i + 1) (by omega) (by omega)
    · rw [if_neg (by simp [fireD_len]; omega), List.take_of_length_le (by omega)]
      rfl
theorem law_DineKeeps (a0 : TDiner) (o0 : kDiner a0) : ∃ N, narthexlaw13_DineKeeps N a0 = some true := by
  refine ⟨200, ?_⟩
  unfold narthexlaw13_DineKeeps
  rw [awake_ok, Option.bind_some]
  by_cases hl : a0.Sides.length ≤ 70
  · rw [if_neg (by simp; omega), own_eq hl, Option.bind_some, fire_eq hl (by decide), Option.bind_some]
    cases hok : dnOk a0 with
    | false => simp
    | true =>
      simp only [if_true]
      rw [if_neg (by simp [fireD_len])]
      have h1 := keeps_loop (N := 200) hl 200 0 (by omega) (by omega)
      simp only [List.take_zero, List.flatMap_nil, List.length_nil] at h1
      rw [show (((0 : Nat) : Int)) = 0 from rfl] at h1
      rw [h1]
      simp [fireD]
      split <;> rfl
  · rw [if_pos (by simp; omega)]
    rfl

/-! What comes in. -/
def fnd {α : Type} (p : α → Bool) : List α → Option Nat
  | [] => none
  | x :: xs => if p x = true then some 0 else (fnd p xs).map (· + 1)
theorem fnd_some {α : Type} {p : α → Bool} : ∀ {xs : List α} {j : Nat}, fnd p xs = some j → ∃ x, xs[j]? = some x ∧ p x = true ∧ ∀ k y, k < j → xs[k]? = some y → p y = false
  | [], j, h => by simp [fnd] at h
  | x :: xs, j, h => by
    unfold fnd at h
    by_cases hp : p x = true
    · rw [if_pos hp] at h
      cases h
      exact ⟨x, rfl, hp, fun k y hk => by omega⟩
    · rw [if_neg hp] at h
      obtain ⟨k, hk, rfl⟩ := Option.map_eq_some_iff.1 h
      obtain ⟨y, h1, h2, h3⟩ := fnd_some hk
      refine ⟨y, by simpa using h1, h2, fun m z hm hz => ?_⟩
      cases m with
      | zero => simp at hz; subst hz; simpa using hp
      | succ m => exact h3 m z (by omega) (by simpa using hz)
def isSide (peer epoch : Int) (x : TSide) : Bool := (x.Peer == peer) && (x.Epoch == epoch)
theorem idx2_eq {N : Nat} {xs : List TSide} {a b : Int} {l : List TSide} {peer k e u v w : Int} (hb : xs.length ≤ 1000000) : ∀ (n i : Nat), xs.length < n + i → i ≤ xs.length →
    slices_IndexFunc_Side_2_L1 N xs a b l peer k e u v w n i = some (match fnd (isSide peer e) (xs.drop i) with | some j => .inl ((i + j : Nat) : Int) | none => .inr ())
  | 0, i, h, hi => by omega
  | n + 1, i, h, hi => by
    rw [slices_IndexFunc_Side_2_L1]
    by_cases hlt : i < xs.length
    · obtain ⟨x, hx⟩ := some_at hlt
      rw [if_pos (by simpa using hlt), at_nat, hx, Option.bind_some, drop_at hx]
      unfold dine_Get_1
      rw [Option.bind_some]
      by_cases hp : isSide peer e x = true
      · have hp' : ((x.Peer == peer) && (x.Epoch == e)) = true := hp
        rw [if_pos hp']
        simp [fnd, hp]
      · have hp' : ¬ ((x.Peer == peer) && (x.Epoch == e)) = true := hp
        rw [if_neg hp', w64_nat (by omega), idx2_eq hb n (i + 1) (by omega) (by omega)]
        simp only [fnd, if_neg hp]
        cases fnd (isSide peer e) (xs.drop (i + 1)) with
        | none => rfl
        | some j =>
          simp
          omega
    · rw [if_neg (by simpa using hlt), List.drop_eq_nil_of_le (by omega)]
      rfl
def putKind (m : TMsg) (x : TSide) : TSide := if m.Kind = 1 then { x with Fork := true } else { x with Token := true }
def hasKind (m : TMsg) (x : TSide) : Bool := if m.Kind = 1 then x.Fork else x.Token
/-- What becomes of a diner to whom something comes, or what is wrong. -/
def got (d : TDiner) (peer : Int) (m : TMsg) : TDiner × Int :=
  if dnOk d = true then match fnd (isSide peer m.Epoch) d.Sides with
    | none => (⟨0, 0, []⟩, 131)
    | some i => match d.Sides[i]? with
      | none => (⟨0, 0, []⟩, 131)
      | some x => if (m.Num = 0 ∧ (m.Kind = 1 ∨ m.Kind = 2)) then (if hasKind m x = true then (⟨0, 0, []⟩, 132) else ({ d with Sides := d.Sides.set i (putKind m x) }, 0)) else (⟨0, 0, []⟩, 133)
  else (⟨0, 0, []⟩, 130)
theorem dget_eq {N : Nat} {d : TDiner} {peer : Int} {m : TMsg} (hl : d.Sides.length ≤ 70) (hN : 100 ≤ N) : dine_Get N d peer m = some (got d peer m) := by
  unfold dine_Get got
  rw [check_eq hl hN, Option.bind_some]
  cases hok : dnOk d with
  | false => simp
  | true =>
    simp only [if_true]
    rw [if_neg (by decide)]
    unfold slices_IndexFunc_Side_2
    rw [show ((0 : Int)) = ((0 : Nat) : Int) from rfl, idx2_eq (N := N) (xs := d.Sides) (by omega) N 0 (by omega) (by omega)]
    simp only [List.drop_zero, Option.bind_some, Nat.zero_add]
    cases hf : fnd (isSide peer m.Epoch) d.Sides with
    | none => simp
    | some i =>
      obtain ⟨x, hx, _⟩ := fnd_some hf
      simp only [Option.bind_some, hx]
      rw [if_neg (by simp), clone_eq hl, Option.bind_some, at_nat, hx, Option.bind_some, Int.toNat_natCast]
      by_cases hn : m.Num = 0
      · by_cases h1 : m.Kind = 1
        · cases hh : x.Fork <;> simp [hn, h1, hasKind, putKind, hh]
        · by_cases h2 : m.Kind = 2
          · cases hh : x.Token <;> simp [hn, h1, h2, hasKind, putKind, hh]
          · simp [hn, h1, h2]
      · simp [hn]
theorem setref_eq {N : Nat} {d : TDiner} {i : Nat} {x y : TSide} (hl : d.Sides.length ≤ 70) (hx : d.Sides[i]? = some x) : narthexref13_Set N d i y = some { d with Sides := d.Sides.set i y } := by
  unfold narthexref13_Set
  rw [app_ok (by omega), Option.bind_some, at_nat, hx, Option.bind_some, Int.toNat_natCast]
def refGot (d : TDiner) (m : TMsg) (i : Nat) (x : TSide) : TDiner × Int := if (m.Num = 0 ∧ (m.Kind = 1 ∨ m.Kind = 2)) then (if hasKind m x = true then (⟨0, 0, []⟩, 132) else ({ d with Sides := d.Sides.set i (putKind m x) }, 0)) else (⟨0, 0, []⟩, 133)
theorem refget_loop {N : Nat} {d : TDiner} {peer : Int} {m : TMsg} (hl : d.Sides.length ≤ 70) : ∀ (n i : Nat), d.Sides.length < n + i → i ≤ d.Sides.length →
    narthexref13_Get_L1 N d peer m n i = some (match fnd (isSide peer m.Epoch) (d.Sides.drop i) with | some j => (match d.Sides[i + j]? with | some x => .inl (refGot d m (i + j) x) | none => .inr ()) | none => .inr ())
  | 0, i, h, hi => by omega
  | n + 1, i, h, hi => by
    rw [narthexref13_Get_L1]
    by_cases hlt : i < d.Sides.length
    · obtain ⟨x, hx⟩ := some_at hlt
      rw [if_pos (by simpa using hlt), at_nat, hx, Option.bind_some, drop_at hx]
      by_cases hp : isSide peer m.Epoch x = true
      · have hp' : ¬ ((x.Peer != peer) || (x.Epoch != m.Epoch)) = true := by
          simp [isSide] at hp
          simp [hp]
        rw [if_neg hp']
        simp only [fnd, if_pos hp, Nat.add_zero, hx]
        by_cases hn : m.Num = 0
        · by_cases h1 : m.Kind = 1
          · cases hh : x.Fork <;> simp [hn, h1, hasKind, putKind, hh, refGot, setref_eq (N := N) hl hx]
          · by_cases h2 : m.Kind = 2
            · cases hh : x.Token <;> simp [hn, h1, h2, hasKind, putKind, hh, refGot, setref_eq (N := N) hl hx]
            · simp [hn, h1, h2, refGot]
        · simp [hn, refGot]
      · have hp' : ((x.Peer != peer) || (x.Epoch != m.Epoch)) = true := by
          simp [isSide] at hp
          simp
          by_cases h : x.Peer = peer
          · exact .inr (hp h)
          · exact .inl h
        rw [if_pos hp', w64_nat (by omega), refget_loop hl n (i + 1) (by omega) (by omega)]
        simp only [fnd, if_neg hp]
        cases fnd (isSide peer m.Epoch) (d.Sides.drop (i + 1)) with
        | none => rfl
        | some j => simp [Nat.add_assoc, Nat.add_comm 1 j]
    · rw [if_neg (by simpa using hlt), List.drop_eq_nil_of_le (by omega)]
      rfl
theorem refget_eq {N : Nat} {d : TDiner} {peer : Int} {m : TMsg} (hl : d.Sides.length ≤ 70) (hN : 100 ≤ N) : narthexref13_Get N d peer m = some (got d peer m) := by
  unfold narthexref13_Get got
  rw [refcheck_eq hl hN, Option.bind_some]
  cases hok : dnOk d with
  | false => simp
  | true =>
    simp only [if_true, Bool.not_true, Bool.false_eq_true, if_false]
    rw [show ((0 : Int)) = ((0 : Nat) : Int) from rfl, refget_loop (N := N) hl N 0 (by omega) (by omega)]
    simp only [List.drop_zero, Nat.zero_add]
    cases hf : fnd (isSide peer m.Epoch) d.Sides with
    | none => rfl
    | some i =>
      obtain ⟨x, hx, _⟩ := fnd_some hf
      simp only [hx, Option.bind_some, refGot]
      rfl
theorem got_len {d : TDiner} {peer : Int} {m : TMsg} (hl : d.Sides.length ≤ 70) : (got d peer m).1.Sides.length ≤ 70 := by
  unfold got
  split
  · split
    · simp
    · split
      · simp
      · split
        · split
          · simp
          · simpa using hl
        · simp
  · simp
theorem law_DineGets (a0 : TDiner) (o0 : kDiner a0) (a1 : Int) (o1 : (Lit.int .i64 a1).wf = true) (a2 : TMsg) (o2 : kMsg a2) : ∃ N, narthexlaw13_DineGets N a0 a1 a2 = some true := by
  refine ⟨200, ?_⟩
  unfold narthexlaw13_DineGets
  rw [awake_ok, Option.bind_some]
  by_cases hl : a0.Sides.length ≤ 70
  · rw [if_neg (by simp; omega), own_eq hl, Option.bind_some, dget_eq hl (by decide), Option.bind_some, refget_eq hl (by decide), Option.bind_some, same_eq (got_len hl) (by decide)]
    simp
  · rw [if_pos (by simp; omega)]
    rfl

/-! A fork that comes is kept. -/
theorem side_loop {N : Nat} {d : TDiner} {peer : Int} (hl : d.Sides.length ≤ 70) : ∀ (n i : Nat), d.Sides.length < n + i → i ≤ d.Sides.length →
    narthexref12_Side_L1 N d peer n i = some (match fnd (fun x => x.Peer == peer) (d.Sides.drop i) with | some j => (match d.Sides[i + j]? with | some x => .inl (x, true) | none => .inr ()) | none => .inr ())
  | 0, i, h, hi => by omega
  | n + 1, i, h, hi => by
    rw [narthexref12_Side_L1]
    by_cases hlt : i < d.Sides.length
    · obtain ⟨x, hx⟩ := some_at hlt
      rw [if_pos (by simpa using hlt), at_nat, hx, Option.bind_some, drop_at hx]
      by_cases hp : (x.Peer == peer) = true
      · rw [if_pos hp]
        simp only [fnd, if_pos hp, Nat.add_zero, hx, Option.bind_some]
      · rw [if_neg hp, w64_nat (by omega), side_loop hl n (i + 1) (by omega) (by omega)]
        simp only [fnd, if_neg hp]
        cases fnd (fun x => x.Peer == peer) (d.Sides.drop (i + 1)) with
        | none => rfl
        | some j => simp [Nat.add_assoc, Nat.add_comm 1 j]
    · rw [if_neg (by simpa using hlt), List.drop_eq_nil_of_le (by omega)]
      rfl
theorem side_eq {N : Nat} {d : TDiner} {peer : Int} (hl : d.Sides.length ≤ 70) (hN : 100 ≤ N) : narthexref12_Side N d peer = some (match fnd (fun x => x.Peer == peer) d.Sides with | some j => (match d.Sides[j]? with | some x => (x, true) | none => (⟨0, 0, 0, false, false, false, false, false⟩, false)) | none => (⟨0, 0, 0, false, false, false, false, false⟩, false)) := by
  unfold narthexref12_Side
  rw [show ((0 : Int)) = ((0 : Nat) : Int) from rfl, side_loop (N := N) hl N 0 (by omega) (by omega)]
  simp only [List.drop_zero, Nat.zero_add]
  cases hf : fnd (fun x => x.Peer == peer) d.Sides with
  | none => rfl
  | some j =>
    obtain ⟨x, hx, _⟩ := fnd_some hf
    simp only [hx, Option.bind_some]
/-- Peers stand once. -/
theorem peers_gt {id : Int} : ∀ {xs : List TSide} {last : Int}, sidesOk id last xs = true → ∀ (k : Nat) (y : TSide), xs[k]? = some y → y.Peer > last
  | [], _, _, k, y, h => by simp at h
  | x :: xs, last, h, k, y, hk => by
    simp only [sidesOk, Bool.and_eq_true] at h
    have h0 : x.Peer > last := by
      have := h.1
      simp [sideOk] at this
      omega
    cases k with
    | zero => simp at hk; subst hk; exact h0
    | succ k =>
      have := peers_gt h.2 k y (by simpa using hk)
      omega
theorem peers_fnd {id : Int} : ∀ {xs : List TSide} {last : Int} {i : Nat} {x : TSide}, sidesOk id last xs = true → xs[i]? = some x → fnd (fun y => y.Peer == x.Peer) xs = some i
  | [], _, i, x, _, h => by simp at h
  | y :: xs, last, 0, x, h, hx => by
    simp at hx
    subst hx
    simp [fnd]
  | y :: xs, last, i + 1, x, h, hx => by
    simp only [sidesOk, Bool.and_eq_true] at h
    have hx' : xs[i]? = some x := by simpa using hx
    have := peers_gt h.2 i x hx'
    unfold fnd
    rw [if_neg (by simp; omega), peers_fnd h.2 hx']
    rfl
theorem sidesOk_set {id : Int} : ∀ {xs : List TSide} {last : Int} {i : Nat} {x y : TSide}, sidesOk id last xs = true → xs[i]? = some x → y.Peer = x.Peer → (∀ l, sideOk id l x = true → sideOk id l y = true) → sidesOk id last (xs.set i y) = true
  | [], _, i, x, y, _, h, _, _ => by simp at h
  | z :: xs, last, 0, x, y, h, hx, hp, hy => by
    simp at hx
    subst hx
    simp only [sidesOk, List.set_cons_zero, Bool.and_eq_true] at h ⊢
    exact ⟨hy _ h.1, by rw [hp]; exact h.2⟩
  | z :: xs, last, i + 1, x, y, h, hx, hp, hy => by
    simp only [sidesOk, List.set_cons_succ, Bool.and_eq_true] at h ⊢
    exact ⟨h.1, sidesOk_set h.2 (by simpa using hx) hp hy⟩
theorem dnOk_set {d : TDiner} {i : Nat} {x y : TSide} (h : dnOk d = true) (hx : d.Sides[i]? = some x) (hp : y.Peer = x.Peer) (hy : ∀ l, sideOk d.ID l x = true → sideOk d.ID l y = true) : dnOk { d with Sides := d.Sides.set i y } = true := by
  simp only [dnOk, Bool.and_eq_true] at h ⊢
  exact ⟨by simpa using h.1, sidesOk_set h.2 hx hp hy⟩
theorem sideOk_put {id l : Int} {m : TMsg} {x : TSide} (h : sideOk id l x = true) : sideOk id l (putKind m x) = true := by
  unfold putKind
  split
  · simp only [sideOk, Bool.and_eq_true] at h ⊢
    refine ⟨h.1, ?_⟩
    simp
  · exact h
theorem sideOk_get {id : Int} : ∀ {xs : List TSide} {last : Int} {i : Nat} {x : TSide}, sidesOk id last xs = true → xs[i]? = some x → ∃ l, sideOk id l x = true
  | [], _, i, x, _, h => by simp at h
  | y :: xs, last, 0, x, h, hx => by
    simp at hx
    subst hx
    simp only [sidesOk, Bool.and_eq_true] at h
    exact ⟨_, h.1⟩
  | y :: xs, last, i + 1, x, h, hx => by
    simp only [sidesOk, Bool.and_eq_true] at h
    exact sideOk_get h.2 (by simpa using hx)
theorem dnOk_zero : dnOk ⟨0, 0, []⟩ = true := by decide
theorem fireD_get {d : TDiner} {i : Nat} {x : TSide} (hx : d.Sides[i]? = some x) : (fireD d).Sides[i]? = some (if ((d.Phase == 1) && d.Sides.all fun x => (st d.Phase x).Fork) = true then dirtyS (st d.Phase x) else st d.Phase x) := by
  unfold fireD
  split <;> simp [hx]
theorem fireD_phase {d : TDiner} : (fireD d).Phase = (if ((d.Phase == 1) && d.Sides.all fun x => (st d.Phase x).Fork) = true then 2 else d.Phase) := by
  unfold fireD
  split <;> rfl
/-- Got, when it goes well. -/
theorem got_ok {d : TDiner} {peer : Int} {m : TMsg} (h : (got d peer m).2 = 0) : dnOk d = true ∧ ∃ i x, fnd (isSide peer m.Epoch) d.Sides = some i ∧ d.Sides[i]? = some x ∧ isSide peer m.Epoch x = true ∧ hasKind m x = false ∧ got d peer m = ({ d with Sides := d.Sides.set i (putKind m x) }, 0) := by
  unfold got at h ⊢
  cases hok : dnOk d with
  | false => simp [hok] at h
  | true =>
    simp only [hok, if_true] at h ⊢
    cases hf : fnd (isSide peer m.Epoch) d.Sides with
    | none => simp [hf] at h
    | some i =>
      obtain ⟨x, hx, hp, _⟩ := fnd_some hf
      simp only [hf, hx] at h ⊢
      split at h
      · rename_i hm
        cases hh : hasKind m x with
        | true => simp [hh] at h
        | false =>
          refine ⟨trivial, i, x, rfl, hx, hp, hh, ?_⟩
          rw [if_pos hm]
          simp
      · simp at h
theorem got_no {d : TDiner} {peer : Int} {m : TMsg} (h : (got d peer m).2 ≠ 0) : (got d peer m).1 = ⟨0, 0, []⟩ := by
  unfold got at h ⊢
  split
  · split
    · rfl
    · split
      · rfl
      · split
        · split
          · rfl
          · exfalso
            simp_all
        · rfl
  · rfl
theorem law_DineClean (a0 : TDiner) (o0 : kDiner a0) (a1 : Int) (o1 : (Lit.int .i64 a1).wf = true) (a2 : Int) (o2 : (Lit.int .i64 a2).wf = true) : ∃ N, narthexlaw13_DineClean N a0 a1 a2 = some true := by
  refine ⟨200, ?_⟩
  unfold narthexlaw13_DineClean
  rw [awake_ok, Option.bind_some]
  by_cases hl : a0.Sides.length ≤ 70
  · rw [if_neg (by simp; omega), own_eq hl, Option.bind_some, dget_eq hl (by decide), Option.bind_some]
    by_cases he : (got a0 a1 ⟨1, a2, 0⟩).2 = 0
    · rw [if_neg (by simp [he])]
      obtain ⟨hok, i, x, hf, hx, hp, hh, hg⟩ := got_ok he
      have hfork : x.Fork = false := by simpa [hasKind] using hh
      have hpeer : x.Peer = a1 := by simp [isSide] at hp; exact hp.1
      rw [hg]
      simp only
      obtain ⟨x1, hx1⟩ : ∃ x1 : TSide, x1 = putKind ⟨1, a2, 0⟩ x := ⟨_, rfl⟩
      have e1 : x1 = { x with Fork := true } := by rw [hx1]; simp [putKind]
      obtain ⟨d1, hd1⟩ : ∃ d1 : TDiner, d1 = { a0 with Sides := a0.Sides.set i (putKind ⟨1, a2, 0⟩ x) } := ⟨_, rfl⟩
      rw [← hd1]
      have hl1 : d1.Sides.length ≤ 70 := by rw [hd1]; simpa using hl
      have hsok : sidesOk a0.ID (-1) a0.Sides = true := by simp only [dnOk, Bool.and_eq_true] at hok; exact hok.2
      have hdirty : x.Dirty = false := by
        obtain ⟨l, hlx⟩ := sideOk_get hsok hx
        simp [sideOk, hfork] at hlx
        exact hlx.2
      have hok1 : dnOk d1 = true := by
        rw [hd1]
        exact dnOk_set hok hx (by simp [putKind]) (fun l h => sideOk_put h)
      have hx1' : d1.Sides[i]? = some x1 := by rw [hd1, hx1]; exact set_get hx
      have hst1 : st d1.Phase x1 = x1 := by
        rw [e1]
        simp [st, s1, s2, hdirty]
      -- behind the first fire
      rw [own_eq hl1, Option.bind_some, fire_eq hl1 (by decide), Option.bind_some, hok1]
      simp only [if_true]
      obtain ⟨d2, hd2⟩ : ∃ d2, d2 = fireD d1 := ⟨_, rfl⟩
      rw [← hd2]
      have hl2 : d2.Sides.length ≤ 70 := by rw [hd2, fireD_len]; exact hl1
      have hok2 : dnOk d2 = true := by rw [hd2]; exact dnOk_fire hok1
      have hph1 : d1.Phase = a0.Phase := by rw [hd1]
      obtain ⟨c, hc⟩ : ∃ c : Bool, c = ((d1.Phase == 1) && d1.Sides.all fun x => (st d1.Phase x).Fork) := ⟨_, rfl⟩
      obtain ⟨x2, hx2, hx2f, hx2p, hx2d, hx2e⟩ : ∃ x2 : TSide, d2.Sides[i]? = some x2 ∧ x2.Fork = true ∧ x2.Peer = a1 ∧ x2.Dirty = c ∧ x2.Epoch = x.Epoch := by
        rw [hd2, fireD_get hx1', ← hc, hst1, e1]
        cases c
        · exact ⟨_, rfl, by simp, by simpa using hpeer, by simpa using hdirty, by simp⟩
        · exact ⟨_, rfl, by simp [dirtyS], by simpa [dirtyS] using hpeer, by simp [dirtyS], by simp [dirtyS]⟩
      have hph2 : d2.Phase = if c = true then 2 else a0.Phase := by rw [hd2, fireD_phase, ← hc, hph1]
      have hs2ok : sidesOk d2.ID (-1) d2.Sides = true := by simp only [dnOk, Bool.and_eq_true] at hok2; exact hok2.2
      have hside2 : narthexref12_Side 200 d2 a1 = some (x2, true) := by
        rw [side_eq hl2 (by decide), ← hx2p, peers_fnd hs2ok hx2]
        simp only [hx2]
      rw [own_eq hl2, Option.bind_some, dget_eq hl2 (by decide), Option.bind_some]
      have hl3 : (got d2 a1 ⟨2, a2, 0⟩).1.Sides.length ≤ 70 := got_len hl2
      rw [own_eq hl3, Option.bind_some, fire_eq hl3 (by decide), Option.bind_some, hside2, Option.bind_some]
      -- the second thing that comes
      have hfirst : ∀ (q : Bool) (t : TSide × Bool), ((q = true ∨ t.1.Fork = true) → (((((0 : Int) == 0) && x2.Fork) && (q || t.1.Fork)) && ((x2.Dirty == ((d2.Phase == 2) && (a0.Phase == 1))) || ((a0.Phase == 2) && (!x2.Dirty)))) = true) := by
        intro q t hq
        rw [hx2f, hx2d, hph2]
        have hcp : c = true → a0.Phase = 1 := fun h => by
          rw [hc, hph1] at h
          simp at h
          exact h.1
        cases c with
        | true =>
          have := hcp rfl
          rcases hq with hq | hq <;> simp [hq, this]
        | false =>
          by_cases h2 : a0.Phase = 2
          · rcases hq with hq | hq <;> simp [hq, h2]
          · rcases hq with hq | hq <;> simp [hq, h2]
      by_cases he2 : (got d2 a1 ⟨2, a2, 0⟩).2 = 0
      · obtain ⟨_, j, z, hfj, hz, hpj, hhj, hgj⟩ := got_ok he2
        have hzp : z.Peer = a1 := by simp [isSide] at hpj; exact hpj.1
        have hij : j = i := by
          have h1 := peers_fnd hs2ok hz
          have h2 := peers_fnd hs2ok hx2
          rw [hzp, ← hx2p, h2] at h1
          exact (Option.some.inj h1).symm
        subst hij
        rw [hx2] at hz
        cases hz
        obtain ⟨d3, hd3⟩ : ∃ d3, d3 = (got d2 a1 ⟨2, a2, 0⟩).1 := ⟨_, rfl⟩
        rw [← hd3] at hl3 ⊢
        have hd3' : d3 = { d2 with Sides := d2.Sides.set j (putKind ⟨2, a2, 0⟩ x2) } := by rw [hd3, hgj]
        have hok3 : dnOk d3 = true := by
          rw [hd3']
          exact dnOk_set hok2 hx2 (by simp [putKind]) (fun l h => sideOk_put h)
        have hx3 : d3.Sides[j]? = some (putKind ⟨2, a2, 0⟩ x2) := by rw [hd3']; exact set_get hx2
        have hst3 : (st d3.Phase (putKind ⟨2, a2, 0⟩ x2)).Fork = true ∧ (st d3.Phase (putKind ⟨2, a2, 0⟩ x2)).Peer = a1 := by
          refine ⟨?_, by rw [(st_fields (ph := d3.Phase)).1]; simpa [putKind] using hx2p⟩
          have hp3 : d3.Phase = if c = true then 2 else a0.Phase := by rw [hd3']; exact hph2
          rw [hp3]
          have hk : putKind ⟨2, a2, 0⟩ x2 = { x2 with Token := true } := by simp [putKind]
          rw [hk]
          cases c with
          | true => simp [st, s1, s2, hx2f]
          | false => simp [st, s1, s2, hx2f, hx2d]
        rw [hok3]
        simp only [if_true]
        have hl4 : (fireD d3).Sides.length ≤ 70 := by rw [fireD_len]; exact hl3
        have hok4 := dnOk_fire hok3
        have hs4 : sidesOk (fireD d3).ID (-1) (fireD d3).Sides = true := by simp only [dnOk, Bool.and_eq_true] at hok4; exact hok4.2
        obtain ⟨x4, hx4, hx4f, hx4p⟩ : ∃ x4 : TSide, (fireD d3).Sides[j]? = some x4 ∧ x4.Fork = true ∧ x4.Peer = a1 := by
          rw [fireD_get hx3]
          split
          · exact ⟨_, rfl, hst3.1, hst3.2⟩
          · exact ⟨_, rfl, hst3.1, hst3.2⟩
        have hside4 : narthexref12_Side 200 (fireD d3) a1 = some (x4, true) := by
          rw [side_eq hl4 (by decide), ← hx4p, peers_fnd hs4 hx4]
          simp only [hx4]
        rw [hside4, Option.bind_some]
        exact congrArg some (hfirst _ (x4, true) (.inr hx4f))
      · have h0 := got_no he2
        rw [h0, dnOk_zero]
        simp only [if_true]
        rw [side_eq (by simp [fireD]) (by decide), Option.bind_some]
        exact congrArg some (hfirst _ _ (.inl (by simp)))
    · rw [if_pos (by simpa using he)]
  · rw [if_pos (by simp; omega)]
    rfl

/-! The document's way: one thing at a time. -/
theorem mailref_eq {N : Nat} {d : TDiner} {x : TSide} {k : Int} : narthexref13_mail N d x k = some ⟨d.ID, x.Peer, ⟨k, x.Epoch, 0⟩⟩ := rfl
def can (ph : Int) (x : TSide) : Bool := (((x.Fork && x.Dirty) && x.Token) && (ph != 2)) || (((!x.Fork) && x.Token) && (ph == 1))
theorem one_quiet {N : Nat} {d : TDiner} (hl : d.Sides.length ≤ 70) (hq : ∀ x ∈ d.Sides, can d.Phase x = false) : ∀ (n i : Nat), d.Sides.length < n + i → i ≤ d.Sides.length → narthexref13_one_L1 N d n i = some (.inr ())
  | 0, i, h, hi => by omega
  | n + 1, i, h, hi => by
    rw [narthexref13_one_L1]
    by_cases hlt : i < d.Sides.length
    · obtain ⟨x, hx⟩ := some_at hlt
      have hc := hq x (List.mem_of_getElem? hx)
      simp only [can, Bool.or_eq_false_iff] at hc
      rw [if_pos (by simpa using hlt), at_nat, hx, Option.bind_some, if_neg (by rw [hc.1]; simp), if_neg (by rw [hc.2]; simp), w64_nat (by omega)]
      exact one_quiet hl hq n (i + 1) (by omega) (by omega)
    · rw [if_neg (by simpa using hlt)]
/-- The first side at which something is to be done. -/
theorem one_first {N : Nat} {d : TDiner} {j : Nat} {x : TSide} (hl : d.Sides.length ≤ 70) (hx : d.Sides[j]? = some x) (hc : can d.Phase x = true) (hq : ∀ k y, k < j → d.Sides[k]? = some y → can d.Phase y = false) : ∀ (n i : Nat), d.Sides.length < n + i → i ≤ j →
    narthexref13_one_L1 N d n i = some (.inl (if (((x.Fork && x.Dirty) && x.Token) && (d.Phase != 2)) = true then ({ d with Sides := d.Sides.set j { x with Fork := false, Dirty := false } }, [⟨d.ID, x.Peer, ⟨1, x.Epoch, 0⟩⟩], true) else ({ d with Sides := d.Sides.set j { x with Token := false } }, [⟨d.ID, x.Peer, ⟨2, x.Epoch, 0⟩⟩], true)))
  | 0, i, h, hi => by
    have := (List.getElem?_eq_some_iff.1 hx).1
    omega
  | n + 1, i, h, hi => by
    have hj := (List.getElem?_eq_some_iff.1 hx).1
    rw [narthexref13_one_L1]
    by_cases hij : i = j
    · subst hij
      rw [if_pos (by simpa using hj), at_nat, hx, Option.bind_some]
      by_cases h1 : (((x.Fork && x.Dirty) && x.Token) && (d.Phase != 2)) = true
      · rw [if_pos h1, if_pos h1, setref_eq hl hx, Option.bind_some, mailref_eq, Option.bind_some]
      · rw [if_neg h1, if_neg h1]
        have h2 : (((!x.Fork) && x.Token) && (d.Phase == 1)) = true := by
          simp only [can, Bool.or_eq_true] at hc
          exact hc.resolve_left h1
        rw [if_pos h2, setref_eq hl hx, Option.bind_some, mailref_eq, Option.bind_some]
    · obtain ⟨y, hy⟩ := some_at (xs := d.Sides) (i := i) (by omega)
      have hcy := hq i y (by omega) hy
      simp only [can, Bool.or_eq_false_iff] at hcy
      rw [if_pos (by simp; omega), at_nat, hy, Option.bind_some, if_neg (by rw [hcy.1]; simp), if_neg (by rw [hcy.2]; simp), w64_nat (by omega)]
      exact one_first hl hx hc hq n (i + 1) (by omega) (by omega)
theorem one_first_eq {N : Nat} {d : TDiner} {j : Nat} {x : TSide} (hl : d.Sides.length ≤ 70) (hN : 100 ≤ N) (hx : d.Sides[j]? = some x) (hc : can d.Phase x = true) (hq : ∀ k y, k < j → d.Sides[k]? = some y → can d.Phase y = false) :
    narthexref13_one N d = some (if (((x.Fork && x.Dirty) && x.Token) && (d.Phase != 2)) = true then ({ d with Sides := d.Sides.set j { x with Fork := false, Dirty := false } }, [⟨d.ID, x.Peer, ⟨1, x.Epoch, 0⟩⟩], true) else ({ d with Sides := d.Sides.set j { x with Token := false } }, [⟨d.ID, x.Peer, ⟨2, x.Epoch, 0⟩⟩], true)) := by
  unfold narthexref13_one
  rw [show ((0 : Int)) = ((0 : Nat) : Int) from rfl, one_first hl hx hc hq N 0 (by omega) (by omega)]
  simp only [Option.bind_some]
  rfl
theorem one_L2 {N : Nat} {d : TDiner} (hl : d.Sides.length ≤ 70) : ∀ (n i : Nat), d.Sides.length < n + i → i ≤ d.Sides.length → narthexref13_one_L2 N d n i = some (if ((d.Sides.drop i).all fun x => x.Fork) = true then .inr () else .inl (d, [], false))
  | 0, i, h, hi => by omega
  | n + 1, i, h, hi => by
    rw [narthexref13_one_L2]
    by_cases hlt : i < d.Sides.length
    · obtain ⟨x, hx⟩ := some_at hlt
      rw [if_pos (by simpa using hlt), at_nat, hx, Option.bind_some, drop_at hx]
      cases hf : x.Fork with
      | false => simp [hf]
      | true =>
        rw [if_neg (by simp), w64_nat (by omega), one_L2 hl n (i + 1) (by omega) (by omega)]
        simp [hf]
    · rw [if_neg (by simpa using hlt), List.drop_eq_nil_of_le (by omega)]
      simp
theorem one_L3 {N : Nat} {id ph : Int} {xs : List TSide} (hl : xs.length ≤ 70) : ∀ (n i : Nat), xs.length < n + i → i ≤ xs.length → narthexref13_one_L3 N n id ph (dU dirtyS i xs) i = some (id, ph, xs.map dirtyS)
  | 0, i, h, hi => by omega
  | n + 1, i, h, hi => by
    rw [narthexref13_one_L3]
    have hlen : (dU dirtyS i xs).length = xs.length := by simp [dU]; omega
    by_cases hlt : i < xs.length
    · obtain ⟨x, hx⟩ := some_at hlt
      have hg := dU_get (f := dirtyS) hx
      rw [if_pos (by rw [hlen]; simpa using hlt), at_nat, hg, Option.bind_some, setref_eq (d := ⟨id, ph, dU dirtyS i xs⟩) (by simp only; omega) hg, Option.bind_some, w64_nat (by omega)]
      simp only
      have : { x with Dirty := true } = dirtyS x := rfl
      rw [this, dU_set hx]
      exact one_L3 hl n (i + 1) (by omega) (by omega)
    · rw [if_neg (by rw [hlen]; simpa using hlt), dU_all (by omega)]
theorem one_quiet_eq {N : Nat} {d : TDiner} (hl : d.Sides.length ≤ 70) (hN : 100 ≤ N) (hq : ∀ x ∈ d.Sides, can d.Phase x = false) :
    narthexref13_one N d = some (if ((d.Phase == 1) && d.Sides.all fun x => x.Fork) = true then (⟨d.ID, 2, d.Sides.map dirtyS⟩, [], true) else (d, [], false)) := by
  unfold narthexref13_one
  rw [show ((0 : Int)) = ((0 : Nat) : Int) from rfl, one_quiet hl hq N 0 (by omega) (by omega)]
  simp only [Option.bind_some]
  by_cases h1 : d.Phase = 1
  · rw [if_neg (by simp [h1]), one_L2 hl N 0 (by omega) (by omega)]
    simp only [List.drop_zero, Option.bind_some]
    by_cases ha : (d.Sides.all fun x => x.Fork) = true
    · rw [if_pos ha, if_pos (by simp only [h1, ha]; rfl)]
      have h3 := one_L3 (N := N) (id := d.ID) (ph := 2) hl N 0 (by omega) (by omega)
      rw [dU_zero] at h3
      simp only [h3, Option.bind_some]
    · rw [if_neg ha, if_neg (by simp only [h1, ha]; simp)]
  · rw [if_pos (by simpa using h1), if_neg (by simp [h1])]
/-- The document's loop, from where one thing more is looked for. -/
def refGo (N n : Nat) (out : List TMail) (d : TDiner) : Option (List TMail × Int × Int × List TSide) :=
  Option.bind (narthexref13_one N d) fun y => narthexref13_Fire_L1 N n out d.ID d.Phase d.Sides y.1.ID y.1.Phase y.1.Sides y.2.1 y.2.2
theorem refGo_more {N n : Nat} {out l : List TMail} {d e : TDiner} (h : narthexref13_one N d = some (e, l, true)) (ho : out.length ≤ 1000) (hl : l.length ≤ 1000) : refGo N (n + 1) out d = refGo N n (out ++ l) e := by
  unfold refGo
  rw [h, Option.bind_some, narthexref13_Fire_L1]
  simp only [if_true, app_more (show out.length ≤ 1000000 by omega) (show l.length ≤ 1000000 by omega), Option.bind_some]
theorem refGo_end {N n : Nat} {out : List TMail} {d : TDiner} (h : narthexref13_one N d = some (d, [], false)) : refGo N (n + 1) out d = some (out, d.ID, d.Phase, d.Sides) := by
  unfold refGo
  rw [h, Option.bind_some, narthexref13_Fire_L1]
  rw [if_neg (by simp)]
theorem can_st {ph : Int} {x : TSide} : can ph (st ph x) = false := by
  have := quiet1 (ph := ph) (y := x)
  simp only [Bool.or_eq_false_iff] at this
  unfold can
  rw [this.1, Bool.false_or]
  rw [← this.2]
  cases (ph == 1) <;> cases (st ph x).Fork <;> cases (st ph x).Token <;> rfl
theorem dU_quiet {ph : Int} {i : Nat} {xs : List TSide} {z : TSide} {ys : List TSide} (hz : ys = (dU (st ph) i xs) ∨ ys = (dU (st ph) i xs).set i z) (hi : i ≤ xs.length) : ∀ k y, k < i → ys[k]? = some y → can ph y = false := by
  intro k y hk hy
  have h1 : (dU (st ph) i xs)[k]? = some y := by
    rcases hz with rfl | rfl
    · exact hy
    · rwa [List.getElem?_set_ne (by omega)] at hy
  rw [dU, List.getElem?_append_left (by simp; omega)] at h1
  simp only [List.getElem?_map, Option.map_eq_some_iff] at h1
  obtain ⟨w, _, rfl⟩ := h1
  exact can_st
theorem ref_loop {N : Nat} {id ph : Int} {xs : List TSide} (hb : xs.length ≤ 70) (hN : 100 ≤ N) : ∀ (m i n : Nat) (out : List TMail), i + m = xs.length → 2 * m + 3 ≤ n → out.length ≤ 2 * i →
    refGo N n out ⟨id, ph, dU (st ph) i xs⟩ = some (out ++ (xs.drop i).flatMap (ml id ph), id, (fireD ⟨id, ph, xs⟩).Phase, (fireD ⟨id, ph, xs⟩).Sides)
  | 0, i, n, out, him, hn, ho => by
    have hi : i = xs.length := by omega
    rw [dU_all (by omega), List.drop_eq_nil_of_le (by omega)]
    have hq : ∀ x ∈ xs.map (st ph), can ph x = false := fun x hx => by
      obtain ⟨y, _, rfl⟩ := List.mem_map.1 hx
      exact can_st
    have h1 := one_quiet_eq (N := N) (d := ⟨id, ph, xs.map (st ph)⟩) (by simpa using hb) hN hq
    simp only [List.all_map, Function.comp_def] at h1
    obtain ⟨n, rfl⟩ : ∃ n', n = n' + 1 := ⟨n - 1, by omega⟩
    by_cases hc : ((ph == 1) && xs.all fun x => (st ph x).Fork) = true
    · rw [if_pos hc] at h1
      obtain ⟨n, rfl⟩ : ∃ n', n = n' + 1 := ⟨n - 1, by omega⟩
      rw [refGo_more h1 (by omega) (by simp)]
      have hq2 : ∀ x ∈ (xs.map (st ph)).map dirtyS, can 2 x = false := fun x _ => by simp [can]
      have h2 := one_quiet_eq (N := N) (d := ⟨id, 2, (xs.map (st ph)).map dirtyS⟩) (by simpa using hb) hN hq2
      rw [if_neg (by simp)] at h2
      rw [refGo_end h2]
      simp only [fireD, if_pos hc, List.flatMap_nil, List.append_nil]
    · rw [if_neg hc] at h1
      rw [refGo_end h1]
      simp only [fireD, if_neg hc, List.flatMap_nil, List.append_nil]
  | m + 1, i, n, out, him, hn, ho => by
    obtain ⟨x, hx⟩ := some_at (xs := xs) (i := i) (by omega)
    have hg := dU_get (f := st ph) hx
    have hlen : (dU (st ph) i xs).length = xs.length := by simp [dU]; omega
    have hst : st ph x = s2 ph (s1 ph x) := rfl
    have hm1 := m1_len (id := id) (ph := ph) (x := x)
    have hm2 := m2_len (id := id) (ph := ph) (x := s1 ph x)
    -- the fork
    have step1 : ∃ n1, 2 * m + 4 ≤ n1 ∧ refGo N n out ⟨id, ph, dU (st ph) i xs⟩ = refGo N n1 (out ++ m1 id ph x) ⟨id, ph, (dU (st ph) i xs).set i (s1 ph x)⟩ := by
      by_cases h1 : (((x.Fork && x.Dirty) && x.Token) && (ph != 2)) = true
      · obtain ⟨n', rfl⟩ : ∃ n', n = n' + 1 := ⟨n - 1, by omega⟩
        have h := one_first_eq (N := N) (d := ⟨id, ph, dU (st ph) i xs⟩) (j := i) (x := x) (by simp only; omega) hN hg (by simp only [can, h1, Bool.true_or]) (dU_quiet (z := x) (.inl rfl) (by omega))
        simp only [if_pos h1] at h
        refine ⟨n', by omega, ?_⟩
        rw [refGo_more h (by omega) (by simp)]
        simp only [m1, s1, if_pos h1]
      · refine ⟨n, by omega, ?_⟩
        simp only [m1, s1, if_neg h1, List.append_nil, set_self hg]
    obtain ⟨n1, hn1, e1⟩ := step1
    have hg1 : ((dU (st ph) i xs).set i (s1 ph x))[i]? = some (s1 ph x) := set_get hg
    have step2 : ∃ n2, 2 * m + 3 ≤ n2 ∧ refGo N n1 (out ++ m1 id ph x) ⟨id, ph, (dU (st ph) i xs).set i (s1 ph x)⟩ = refGo N n2 (out ++ m1 id ph x ++ m2 id ph (s1 ph x)) ⟨id, ph, dU (st ph) (i + 1) xs⟩ := by
      rw [← dU_set hx, hst]
      have hno : ((((s1 ph x).Fork && (s1 ph x).Dirty) && (s1 ph x).Token) && (ph != 2)) = false := by
        unfold s1
        split
        · simp
        · rename_i h; simpa using h
      by_cases h2 : (((ph == 1) && (s1 ph x).Token) && (!(s1 ph x).Fork)) = true
      · obtain ⟨n', rfl⟩ : ∃ n', n1 = n' + 1 := ⟨n1 - 1, by omega⟩
        have hcan : can ph (s1 ph x) = true := by
          unfold can
          rw [hno, Bool.false_or, ← h2]
          cases (ph == 1) <;> cases (s1 ph x).Fork <;> cases (s1 ph x).Token <;> rfl
        have h := one_first_eq (N := N) (d := ⟨id, ph, (dU (st ph) i xs).set i (s1 ph x)⟩) (j := i) (x := s1 ph x) (by simp; omega) hN hg1 hcan (dU_quiet (z := s1 ph x) (.inr rfl) (by omega))
        simp only [hno, Bool.false_eq_true, if_false, List.set_set] at h
        refine ⟨n', by omega, ?_⟩
        rw [refGo_more h (by simp; omega) (by simp)]
        simp only [m2, s2, if_pos h2]
      · refine ⟨n1, by omega, ?_⟩
        simp only [m2, s2, if_neg h2, List.append_nil]
    obtain ⟨n2, hn2, e2⟩ := step2
    rw [e1, e2, ref_loop hb hN m (i + 1) n2 _ (by omega) hn2 (by simp; omega), drop_at hx]
    simp [ml]
theorem reffire_eq {N : Nat} {d : TDiner} (hl : d.Sides.length ≤ 70) (hN : 160 ≤ N) : narthexref13_Fire N d = some (fireD d, fireM d) := by
  have h := ref_loop (N := N) (id := d.ID) (ph := d.Phase) hl (by omega) d.Sides.length 0 N [] (by omega) (by omega) (by simp)
  rw [dU_zero] at h
  simp only [List.drop_zero, List.nil_append] at h
  unfold narthexref13_Fire
  unfold refGo at h
  obtain ⟨y, h1, h2⟩ := bind_some h
  rw [h1, Option.bind_some, h2, Option.bind_some]
  have : (fireD d).ID = d.ID := by unfold fireD; split <;> rfl
  simp only [fireM, Option.some.injEq, Prod.mk.injEq, and_true]
  exact diner_ext.2 ⟨this.symm, rfl, rfl⟩
theorem mail_loop {N : Nat} {a b : List TMail} (hab : a.length = b.length) (hb : a.length ≤ 1000000) : ∀ (n i : Nat), a.length < n + i → i ≤ a.length →
    narthexref13_SameMail_L1 N a b n i = some (if a.drop i = b.drop i then .inr () else .inl false)
  | 0, i, h, hi => by omega
  | n + 1, i, h, hi => by
    rw [narthexref13_SameMail_L1]
    by_cases hlt : i < a.length
    · obtain ⟨x, hx⟩ := some_at hlt
      obtain ⟨y, hy⟩ := some_at (xs := b) (i := i) (by omega)
      rw [if_pos (by simpa using hlt), at_nat, at_nat, hx, hy, Option.bind_some, Option.bind_some, drop_at hx, drop_at hy]
      by_cases hxy : x = y
      · rw [if_neg (by simp [hxy]), w64_nat (by omega), mail_loop hab hb n (i + 1) (by omega) (by omega)]
        simp [hxy]
      · rw [if_pos (by simp [hxy])]
        simp [hxy]
    · rw [if_neg (by simpa using hlt), List.drop_eq_nil_of_le (by omega), List.drop_eq_nil_of_le (by omega)]
      simp
theorem mail_self {N : Nat} {a : List TMail} (hl : a.length ≤ 140) (hN : 160 ≤ N) : narthexref13_SameMail N a a = some true := by
  unfold narthexref13_SameMail
  rw [if_neg (by simp), show ((0 : Int)) = ((0 : Nat) : Int) from rfl, mail_loop (N := N) rfl (by omega) N 0 (by omega) (by omega)]
  simp
theorem law_DineFires (a0 : TDiner) (o0 : kDiner a0) (a1 : TDiner) (o1 : kDiner a1) : ∃ N, narthexlaw13_DineFires N a0 a1 = some true := by
  refine ⟨200, ?_⟩
  unfold narthexlaw13_DineFires
  rw [awake_ok, Option.bind_some]
  by_cases hl : a0.Sides.length ≤ 70 ∧ a1.Sides.length ≤ 70
  · obtain ⟨hl, hl1⟩ := hl
    have hl2 : (fireD a0).Sides.length ≤ 70 := by rw [fireD_len]; exact hl
    rw [if_neg (by simp; omega), own_eq hl, Option.bind_some, fire_eq hl (by decide), Option.bind_some, Option.bind_some, own_eq hl1, Option.bind_some, dsame_eq hl (by decide), Option.bind_some, same_eq hl (by decide), Option.bind_some, if_neg (by simp), refcheck_eq hl (by decide), Option.bind_some]
    cases hok : dnOk a0 with
    | false =>
      simp [same_eq (N := 200) (a := (⟨0, 0, []⟩ : TDiner)) (b := ⟨0, 0, []⟩) (by simp) (by decide), own_eq hl, check_eq (N := 200) hl (by decide), hok]
    | true =>
      simp only [Bool.not_true, Bool.false_eq_true, if_false, if_true]
      rw [reffire_eq hl (by decide), Option.bind_some]
      simp only
      rw [same_eq (N := 200) hl2 (by decide), Option.bind_some]
      simp [mail_self (N := 200) (fireM_len hl) (by decide), own_eq hl, check_eq (N := 200) hl (by decide), hok]
  · rw [if_pos (by simp; omega)]
    rfl

end Go.Proofs.Ytcnbkfgajnlbpaa
