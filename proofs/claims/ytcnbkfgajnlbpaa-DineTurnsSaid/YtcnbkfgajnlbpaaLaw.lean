/- The plain laws: what the models come to. -/
import Derived.Test.YtcnbkfgajnlbpaaMod
namespace Go.Proofs.Ytcnbkfgajnlbpaa
open Go Go.Nx
set_option linter.unusedVariables false
set_option linter.unusedSimpArgs false
set_option maxRecDepth 8000
theorem w64_nat {i : Nat} (h : i < 1000000000) : w64 ((i : Int) + 1) = ((i + 1 : Nat) : Int) := by
  have : IntKind.i64.wrap ((i : Int) + 1) = (i : Int) + 1 := wrap_i64 (by omega) (by omega)
  simpa using this
theorem w64_pred {i : Nat} (h : i < 1000000000) : w64 (((i + 1 : Nat) : Int) - 1) = (i : Int) := by
  have : IntKind.i64.wrap (((i + 1 : Nat) : Int) - 1) = ((i + 1 : Nat) : Int) - 1 := wrap_i64 (by omega) (by omega)
  show IntKind.i64.wrap _ = _
  rw [this]
  omega
theorem at_nat {α : Type} {xs : List α} {i : Nat} : at? xs (i : Int) = xs[i]? := by
  simp [at?]
theorem at_zero {α : Type} {xs : List α} : at? xs 0 = xs[0]? := by
  simp [at?]
theorem drop_at {α : Type} {xs : List α} {i : Nat} {x : α} (h : xs[i]? = some x) : xs.drop i = x :: xs.drop (i + 1) := by
  obtain ⟨hl, rfl⟩ := List.getElem?_eq_some_iff.1 h
  exact List.drop_eq_getElem_cons hl
theorem some_at {α : Type} {xs : List α} {i : Nat} (h : i < xs.length) : ∃ x, xs[i]? = some x := ⟨_, List.getElem?_eq_getElem h⟩
theorem app_ok {α : Type} {xs : List α} (h : xs.length ≤ 1000000) : app? [] xs = some xs := by
  simp [app?]
  omega
theorem own_eq {N : Nat} {d : TDiner} (h : d.Sides.length ≤ 70) : narthexlaw13_Own N d = some d := by
  simp [narthexlaw13_Own, app_ok (Nat.le_trans h (by decide))]
theorem clone_eq {N : Nat} {l : List TSide} (h : l.length ≤ 70) : slices_Clone_Side N l = some l := by
  simp [slices_Clone_Side, app_ok (Nat.le_trans h (by decide))]

/-! May a diner be? -/
def sideOk (id last : Int) (x : TSide) : Bool := decide (x.Peer > last) && x.Peer != id && !decide (x.Epoch < 0) && !decide (x.Epoch > 65535) && !decide (x.State < 0) && !decide (x.State > 3) && !(x.Dirty && !x.Fork)
def sidesOk (id : Int) : Int → List TSide → Bool
  | _, [] => true
  | last, x :: xs => sideOk id last x && sidesOk id x.Peer xs
def dnOk (d : TDiner) : Bool := !decide (d.ID < 0) && !decide (d.Phase < 0) && !decide (d.Phase > 2) && !decide ((d.Sides.length : Int) ≥ 64) && sidesOk d.ID (-1) d.Sides

theorem check1_eq {N : Nat} {x : TSide} {a b : Int} {l : List TSide} {last : Int} : dine_Check_1 N x a b l last = some (!sideOk a last x, x.Peer) := by
  simp [dine_Check_1, sideOk, Bool.not_and, bne, Bool.or_assoc]
theorem idx_eq {N : Nat} {xs : List TSide} {a b : Int} {l : List TSide} : ∀ (n i : Nat) (last : Int), xs.length < n + i → xs.length ≤ 1000000 → i ≤ xs.length →
    ∃ z, slices_IndexFunc_Side_L1 N xs a b l n last i = some z ∧ (match z with | .inl (j, _) => 0 ≤ j ∧ sidesOk a last (xs.drop i) = false | .inr _ => sidesOk a last (xs.drop i) = true)
  | 0, i, last, h, _, hi => by omega
  | n + 1, i, last, h, hb, hi => by
    rw [slices_IndexFunc_Side_L1]
    by_cases hlt : i < xs.length
    · obtain ⟨x, hx⟩ := some_at hlt
      rw [if_pos (by simpa using hlt), at_nat, hx, Option.bind_some, check1_eq, Option.bind_some, drop_at hx, sidesOk]
      cases hs : sideOk a last x with
      | false => exact ⟨.inl (i, x.Peer), by simp, by simp⟩
      | true =>
        rw [if_neg (by simp), w64_nat (by omega)]
        simpa using idx_eq n (i + 1) x.Peer (by omega) hb (by omega)
    · rw [if_neg (by simpa using hlt)]
      exact ⟨.inr last, rfl, by rw [List.drop_eq_nil_of_le (by omega)]; rfl⟩
theorem contains_eq {N : Nat} {xs : List TSide} {a b : Int} {l : List TSide} {last : Int} (hN : xs.length < N) (hb : xs.length ≤ 1000000) : ∃ w, slices_ContainsFunc_Side N xs a b l last = some (!sidesOk a last xs, w) := by
  obtain ⟨z, h1, h2⟩ := idx_eq (N := N) (xs := xs) (a := a) (b := b) (l := l) N 0 last (by omega) hb (by omega)
  rw [show ((0 : Nat) : Int) = 0 from rfl] at h1
  simp only [List.drop_zero] at h2
  unfold slices_ContainsFunc_Side slices_IndexFunc_Side
  rw [h1, Option.bind_some]
  match z, h2 with
  | .inl (j, w), h2 => exact ⟨w, by simp [h2.1, h2.2]⟩
  | .inr w, h2 => exact ⟨w, by simp [h2]⟩
theorem check_eq {N : Nat} {d : TDiner} (hl : d.Sides.length ≤ 70) (hN : 100 ≤ N) : dine_Check N d = some (if dnOk d then 0 else 130) := by
  unfold dine_Check dnOk
  by_cases hg : (((decide (d.ID < 0) || decide (d.Phase < 0)) || decide (d.Phase > 2)) || decide ((d.Sides.length : Int) ≥ 64)) = true
  · have h2 : (!decide (d.ID < 0) && !decide (d.Phase < 0) && !decide (d.Phase > 2) && !decide ((d.Sides.length : Int) ≥ 64)) = false := by
      rw [← Bool.not_eq_true']
      simpa using hg
    rw [hg, h2]
    simp
  · have hg' : (((decide (d.ID < 0) || decide (d.Phase < 0)) || decide (d.Phase > 2)) || decide ((d.Sides.length : Int) ≥ 64)) = false := by simpa using hg
    have h2 : (!decide (d.ID < 0) && !decide (d.Phase < 0) && !decide (d.Phase > 2) && !decide ((d.Sides.length : Int) ≥ 64)) = true := by
      simpa using hg'
    obtain ⟨w, hw⟩ := contains_eq (N := N) (xs := d.Sides) (a := d.ID) (b := d.Phase) (l := d.Sides) (last := -1) (by omega) (by omega)
    rw [hg', h2]
    simp only [Bool.not_false, if_true, hw, Option.bind_some, Bool.false_or, Bool.true_and]
    cases sidesOk d.ID (-1) d.Sides <;> simp

/-- What is ahead of a side. -/
def lastOf (xs : List TSide) : Nat → Int
  | 0 => -1
  | i + 1 => match xs[i]? with
    | some y => y.Peer
    | none => -1
theorem refcheck_loop {N : Nat} {d : TDiner} (hb : d.Sides.length ≤ 1000000) : ∀ (n i : Nat), d.Sides.length < n + i → i ≤ d.Sides.length → lastOf d.Sides i ≥ -1 →
    narthexref13_Check_L1 N d n i = some (if sidesOk d.ID (lastOf d.Sides i) (d.Sides.drop i) = true then .inr () else .inl false)
  | 0, i, h, hi, _ => by omega
  | n + 1, i, h, hi, hlast => by
    rw [narthexref13_Check_L1]
    by_cases hlt : i < d.Sides.length
    · obtain ⟨x, hx⟩ := some_at hlt
      rw [if_pos (by simpa using hlt), at_nat, hx, Option.bind_some, drop_at hx, sidesOk]
      have hl1 : lastOf d.Sides (i + 1) = x.Peer := by simp [lastOf, hx]
      obtain ⟨y, hy, hyl⟩ : ∃ y : TSide, (if decide ((i : Int) > 0) = true then at? d.Sides (w64 ((i : Int) - 1)) else some default) = some y ∧ ((i : Int) > 0 → y.Peer = lastOf d.Sides i) := by
        cases i with
        | zero => exact ⟨default, by simp, by simp⟩
        | succ j =>
          obtain ⟨y, hy⟩ := some_at (xs := d.Sides) (i := j) (by omega)
          refine ⟨y, ?_, fun _ => by simp [lastOf, hy]⟩
          rw [if_pos (by simp), w64_pred (by omega), at_nat, hy]
      rw [hy, Option.bind_some]
      have key : ((((((((decide (x.Peer < 0)) || (x.Peer == d.ID)) || ((decide ((i : Int) > 0)) && (decide (y.Peer ≥ x.Peer)))) || (decide (x.Epoch < 0))) || (decide (x.Epoch > 65535))) || (decide (x.State < 0))) || (decide (x.State > 3))) || (x.Dirty && (!x.Fork))) = !sideOk d.ID (lastOf d.Sides i) x := by
        have hp : ((decide (x.Peer < 0) || (decide ((i : Int) > 0) && decide (y.Peer ≥ x.Peer)))) = !decide (x.Peer > lastOf d.Sides i) := by
          rw [Bool.eq_iff_iff]
          simp only [Bool.or_eq_true, Bool.and_eq_true, decide_eq_true_eq, Bool.not_eq_true', decide_eq_false_iff_not]
          by_cases h0 : (i : Int) > 0
          · have := hyl h0
            omega
          · have h1 : lastOf d.Sides i = -1 := by
              have : i = 0 := by omega
              subst this
              rfl
            omega
        unfold sideOk
        have e : ((decide (x.Peer < 0) || x.Peer == d.ID) || (decide ((i : Int) > 0) && decide (y.Peer ≥ x.Peer))) = ((decide (x.Peer < 0) || (decide ((i : Int) > 0) && decide (y.Peer ≥ x.Peer))) || x.Peer == d.ID) := by
          cases decide (x.Peer < 0) <;> cases (x.Peer == d.ID) <;> simp
        rw [e, hp]
        simp [Bool.not_and, bne]
      rw [key]
      cases hs : sideOk d.ID (lastOf d.Sides i) x with
      | false => simp
      | true =>
        rw [if_neg (by simp), w64_nat (by omega)]
        have hgt : x.Peer > lastOf d.Sides i := by
          simp [sideOk] at hs
          omega
        have := refcheck_loop (N := N) hb n (i + 1) (by omega) (by omega) (by rw [hl1]; omega)
        rw [hl1] at this
        simpa using this
    · rw [if_neg (by simpa using hlt), List.drop_eq_nil_of_le (by omega)]
      simp [sidesOk]
theorem refcheck_eq {N : Nat} {d : TDiner} (hl : d.Sides.length ≤ 70) (hN : 100 ≤ N) : narthexref13_Check N d = some (dnOk d) := by
  unfold narthexref13_Check dnOk
  by_cases hg : ((decide (d.ID < 0) || ((d.Phase != 0 && d.Phase != 1) && d.Phase != 2)) || decide ((d.Sides.length : Int) > 63)) = true
  · rw [if_pos hg]
    have : (!decide (d.ID < 0) && !decide (d.Phase < 0) && !decide (d.Phase > 2) && !decide ((d.Sides.length : Int) ≥ 64)) = false := by
      simp at hg ⊢
      omega
    rw [this]
    rfl
  · rw [if_neg hg]
    have : (!decide (d.ID < 0) && !decide (d.Phase < 0) && !decide (d.Phase > 2) && !decide ((d.Sides.length : Int) ≥ 64)) = true := by
      simp at hg ⊢
      omega
    rw [this, show ((0 : Int)) = ((0 : Nat) : Int) from rfl, refcheck_loop (N := N) (d := d) (by omega) N 0 (by omega) (by omega) (by simp [lastOf])]
    simp only [lastOf, List.drop_zero, Option.bind_some, Bool.true_and]
    cases sidesOk d.ID (-1) d.Sides <;> rfl

theorem diner_ext {a b : TDiner} : a = b ↔ a.ID = b.ID ∧ a.Phase = b.Phase ∧ a.Sides = b.Sides := by
  cases a; cases b; simp
theorem same_loop {N : Nat} {a b : TDiner} (hab : a.Sides.length = b.Sides.length) (hb : a.Sides.length ≤ 1000000) : ∀ (n i : Nat), a.Sides.length < n + i → i ≤ a.Sides.length →
    narthexref12_SameOne_L1 N a b n i = some (if a.Sides.drop i = b.Sides.drop i then .inr () else .inl false)
  | 0, i, h, hi => by omega
  | n + 1, i, h, hi => by
    rw [narthexref12_SameOne_L1]
    by_cases hlt : i < a.Sides.length
    · obtain ⟨x, hx⟩ := some_at hlt
      obtain ⟨y, hy⟩ := some_at (xs := b.Sides) (i := i) (by omega)
      rw [if_pos (by simpa using hlt), at_nat, at_nat, hx, hy, Option.bind_some, Option.bind_some, drop_at hx, drop_at hy]
      by_cases hxy : x = y
      · rw [if_neg (by simp [hxy]), w64_nat (by omega), same_loop hab hb n (i + 1) (by omega) (by omega)]
        simp [hxy]
      · rw [if_pos (by simp [hxy])]
        simp [hxy]
    · rw [if_neg (by simpa using hlt), List.drop_eq_nil_of_le (by omega), List.drop_eq_nil_of_le (by omega)]
      simp
theorem same_eq {N : Nat} {a b : TDiner} (hl : a.Sides.length ≤ 70) (hN : 100 ≤ N) : narthexref12_SameOne N a b = some (decide (a = b)) := by
  unfold narthexref12_SameOne
  by_cases h : (a.ID != b.ID || a.Phase != b.Phase || (a.Sides.length : Int) != (b.Sides.length : Int)) = true
  · rw [if_pos h]
    have : a ≠ b := by
      rintro rfl
      simp at h
    simp [this]
  · rw [if_neg h]
    have h3 : a.ID = b.ID ∧ a.Phase = b.Phase ∧ a.Sides.length = b.Sides.length := by
      simp at h
      omega
    rw [show ((0 : Int)) = ((0 : Nat) : Int) from rfl, same_loop (N := N) h3.2.2 (by omega) N 0 (by omega) (by omega)]
    simp only [List.drop_zero, Option.bind_some]
    by_cases hs : a.Sides = b.Sides
    · simp [hs, diner_ext, h3]
    · simp [hs, diner_ext]
theorem equal_loop {N : Nat} {a b : List TSide} (hab : a.length = b.length) (hb : a.length ≤ 1000000) : ∀ (n i : Nat), a.length < n + i → i ≤ a.length →
    slices_Equal_Side_L1 N a b n i = some (if a.drop i = b.drop i then .inr () else .inl false)
  | 0, i, h, hi => by omega
  | n + 1, i, h, hi => by
    rw [slices_Equal_Side_L1]
    by_cases hlt : i < a.length
    · obtain ⟨x, hx⟩ := some_at hlt
      obtain ⟨y, hy⟩ := some_at (xs := b) (i := i) (by omega)
      rw [if_pos (by simpa using hlt), at_nat, at_nat, hx, hy, Option.bind_some, Option.bind_some, drop_at hx, drop_at hy]
      by_cases hxy : x = y
      · rw [if_neg (by simp [hxy]), w64_nat (by omega), equal_loop hab hb n (i + 1) (by omega) (by omega)]
        simp [hxy]
      · rw [if_pos (by simp [hxy])]
        simp [hxy]
    · rw [if_neg (by simpa using hlt), List.drop_eq_nil_of_le (by omega), List.drop_eq_nil_of_le (by omega)]
      simp
theorem equal_eq {N : Nat} {a b : List TSide} (hl : a.length ≤ 70) (hN : 100 ≤ N) : slices_Equal_Side N a b = some (decide (a = b)) := by
  unfold slices_Equal_Side
  by_cases h : ((a.length : Int) != (b.length : Int)) = true
  · rw [if_pos h]
    have : a ≠ b := by
      rintro rfl
      simp at h
    simp [this]
  · rw [if_neg h]
    have h3 : a.length = b.length := by
      simp at h
      omega
    rw [show ((0 : Int)) = ((0 : Nat) : Int) from rfl, equal_loop (N := N) h3 (by omega) N 0 (by omega) (by omega)]
    simp only [List.drop_zero, Option.bind_some]
    by_cases hs : a = b <;> simp [hs]
theorem dsame_eq {N : Nat} {a b : TDiner} (hl : a.Sides.length ≤ 70) (hN : 100 ≤ N) : dine_Same N a b = some (decide (a = b)) := by
  unfold dine_Same
  rw [equal_eq hl hN]
  by_cases h1 : a.ID = b.ID <;> by_cases h2 : a.Phase = b.Phase <;> by_cases h3 : a.Sides = b.Sides <;> simp [h1, h2, h3, diner_ext]

/-! What is done at one side, and what goes out. -/
def s1 (ph : Int) (x : TSide) : TSide := if (((x.Fork && x.Dirty) && x.Token) && (ph != 2)) = true then { x with Fork := false, Dirty := false } else x
def m1 (id ph : Int) (x : TSide) : List TMail := if (((x.Fork && x.Dirty) && x.Token) && (ph != 2)) = true then [⟨id, x.Peer, ⟨1, x.Epoch, 0⟩⟩] else []
def s2 (ph : Int) (x : TSide) : TSide := if (((ph == 1) && x.Token) && (!x.Fork)) = true then { x with Token := false } else x
def m2 (id ph : Int) (x : TSide) : List TMail := if (((ph == 1) && x.Token) && (!x.Fork)) = true then [⟨id, x.Peer, ⟨2, x.Epoch, 0⟩⟩] else []
def st (ph : Int) (x : TSide) : TSide := s2 ph (s1 ph x)
def ml (id ph : Int) (x : TSide) : List TMail := m1 id ph x ++ m2 id ph (s1 ph x)
theorem m1_len {id ph : Int} {x : TSide} : (m1 id ph x).length ≤ 1 := by unfold m1; split <;> simp
theorem m2_len {id ph : Int} {x : TSide} : (m2 id ph x).length ≤ 1 := by unfold m2; split <;> simp
theorem app_more {α : Type} {xs ys : List α} (h : xs.length ≤ 1000000) (h' : ys.length ≤ 1000000) : app? xs ys = some (xs ++ ys) := by
  simp [app?]
  omega
theorem send_eq {N : Nat} {k id a c d : Int} {l : List TSide} {out : List TMail} {i : Nat} {x : TSide} (hx : l[i]? = some x) (ho : out.length ≤ 1000) : dine_Fire_1_2 N k id a l c d out i = some (out ++ [⟨id, x.Peer, ⟨k, x.Epoch, 0⟩⟩]) := by
  simp [dine_Fire_1_2, hx, app_more (xs := out) (ys := [(⟨id, x.Peer, ⟨k, x.Epoch, 0⟩⟩ : TMail)]) (by omega) (by simp)]
theorem set_self {α : Type} {l : List α} {i : Nat} {x : α} (h : l[i]? = some x) : l.set i x = l := by
  obtain ⟨hl, rfl⟩ := List.getElem?_eq_some_iff.1 h
  simp
theorem set_get {α : Type} {l : List α} {i : Nat} {x y : α} (h : l[i]? = some x) : (l.set i y)[i]? = some y := at_set h
theorem fire_body {N n i : Nat} {d : TDiner} {y2 l : List TSide} {out : List TMail} {all : Bool} {x : TSide} (hi : i < y2.length) (hb : y2.length ≤ 1000) (hx : l[i]? = some x) (ho : out.length ≤ 900) :
    dine_Fire_L1 N d y2 (n + 1) l out all i = dine_Fire_L1 N d y2 n (l.set i (st d.Phase x)) (out ++ ml d.ID d.Phase x) (all && (st d.Phase x).Fork) ((i + 1 : Nat) : Int) := by
  rw [dine_Fire_L1, if_pos (by simpa using hi), at_nat, hx, Option.bind_some]
  have hz : (if (((x.Fork && x.Dirty) && x.Token) && (d.Phase != 2)) = true then
          Option.bind (dine_Fire_1_2 N 1 d.ID d.Phase ((l.set (i : Int).toNat { x with Fork := false }).set (i : Int).toNat { x with Fork := false, Dirty := false }) 0 0 out (i : Int).toNat) fun y6 =>
          some ((l.set (i : Int).toNat { x with Fork := false }).set (i : Int).toNat { x with Fork := false, Dirty := false }, y6)
        else some (l, out)) = some (l.set i (s1 d.Phase x), out ++ m1 d.ID d.Phase x) := by
    by_cases h1 : (((x.Fork && x.Dirty) && x.Token) && (d.Phase != 2)) = true
    · rw [if_pos h1]
      simp only [Int.toNat_natCast, List.set_set, s1, m1, if_pos h1]
      rw [send_eq (x := { x with Fork := false, Dirty := false }) (set_get hx) (by omega)]
      rfl
    · rw [if_neg h1]
      simp only [s1, m1, if_neg h1, set_self hx, List.append_nil]
  rw [hz, Option.bind_some]
  simp only [Int.toNat_natCast]
  have hg : (l.set i (s1 d.Phase x))[i]? = some (s1 d.Phase x) := set_get hx
  have ho2 : (out ++ m1 d.ID d.Phase x).length ≤ 1000 := by
    have := m1_len (id := d.ID) (ph := d.Phase) (x := x)
    simp
    omega
  by_cases hp : (d.Phase == 1) = true
  · rw [if_pos hp, hg, Option.bind_some]
    by_cases ht : (s1 d.Phase x).Token = true
    · rw [if_pos (by simp [hp, ht]), Option.bind_some]
      by_cases hf : (s1 d.Phase x).Fork = true
      · rw [if_neg (by simp [hf])]
        have e1 : st d.Phase x = s1 d.Phase x := by simp [st, s2, hf]
        have e2 : ml d.ID d.Phase x = m1 d.ID d.Phase x := by simp [ml, m2, hf]
        rw [e1, e2, w64_nat (by omega)]
        cases all <;> simp [hg]
      · have hc : (((d.Phase == 1) && (s1 d.Phase x).Token) && (!(s1 d.Phase x).Fork)) = true := by simp [hp, ht, hf]
        rw [if_pos hc, Option.bind_some, List.set_set]
        have e1 : st d.Phase x = { s1 d.Phase x with Token := false } := by simp only [st, s2, if_pos hc]
        rw [send_eq (x := { s1 d.Phase x with Token := false }) (set_get hx) ho2, Option.bind_some, w64_nat (by omega)]
        have e2 : ml d.ID d.Phase x = m1 d.ID d.Phase x ++ [⟨d.ID, (s1 d.Phase x).Peer, ⟨2, (s1 d.Phase x).Epoch, 0⟩⟩] := by simp only [ml, m2, if_pos hc]
        rw [e1, e2, List.append_assoc]
    · rw [if_neg (by simp [ht]), Option.bind_some, if_neg (by simp [ht])]
      have e1 : st d.Phase x = s1 d.Phase x := by simp [st, s2, ht]
      have e2 : ml d.ID d.Phase x = m1 d.ID d.Phase x := by simp [ml, m2, ht]
      rw [e1, e2, w64_nat (by omega)]
      cases all <;> simp [hg]
  · have hp' : (d.Phase == 1) = false := by simpa using hp
    rw [if_neg hp, Option.bind_some, if_neg (by simp [hp']), Option.bind_some, if_neg (by simp [hp'])]
    have e1 : st d.Phase x = s1 d.Phase x := by simp [st, s2, hp']
    have e2 : ml d.ID d.Phase x = m1 d.ID d.Phase x := by simp [ml, m2, hp']
    rw [e1, e2, w64_nat (by omega)]
    cases all <;> simp [hg]

/-- The first ones changed. -/
def dU {α : Type} (f : α → α) (i : Nat) (xs : List α) : List α := (xs.take i).map f ++ xs.drop i
theorem dU_get {α : Type} {f : α → α} {i : Nat} {xs : List α} {x : α} (h : xs[i]? = some x) : (dU f i xs)[i]? = some x := by
  have hl := (List.getElem?_eq_some_iff.1 h).1
  rw [dU, List.getElem?_append_right (by simp; omega), List.length_map, List.length_take, Nat.min_eq_left (by omega), Nat.sub_self, drop_at h]
  rfl
theorem dU_set {α : Type} {f : α → α} {i : Nat} {xs : List α} {x : α} (h : xs[i]? = some x) : (dU f i xs).set i (f x) = dU f (i + 1) xs := by
  have hl := (List.getElem?_eq_some_iff.1 h).1
  have h1 : ((xs.take i).map f).length = i := by simp; omega
  rw [dU, drop_at h, List.set_append, if_neg (by omega), h1, Nat.sub_self, List.set_cons_zero, dU, List.take_add_one, h]
  simp
theorem dU_all {α : Type} {f : α → α} {i : Nat} {xs : List α} (h : xs.length ≤ i) : dU f i xs = xs.map f := by
  rw [dU, List.take_of_length_le h, List.drop_eq_nil_of_le h, List.append_nil]
theorem dU_zero {α : Type} {f : α → α} {xs : List α} : dU f 0 xs = xs := by simp [dU]
theorem ml_len {id ph : Int} {x : TSide} : (ml id ph x).length ≤ 2 := by
  have := m1_len (id := id) (ph := ph) (x := x)
  have := m2_len (id := id) (ph := ph) (x := s1 ph x)
  simp [ml]
  omega
theorem fire_loop {N : Nat} {d : TDiner} {xs : List TSide} (hb : xs.length ≤ 70) : ∀ (n i : Nat) (out : List TMail) (all : Bool), xs.length < n + i → i ≤ xs.length → out.length ≤ 2 * i →
    dine_Fire_L1 N d xs n (dU (st d.Phase) i xs) out all i = some (xs.map (st d.Phase), out ++ (xs.drop i).flatMap (ml d.ID d.Phase), all && (xs.drop i).all fun x => (st d.Phase x).Fork)
  | 0, i, out, all, h, hi, _ => by omega
  | n + 1, i, out, all, h, hi, ho => by
    by_cases hlt : i < xs.length
    · obtain ⟨x, hx⟩ := some_at hlt
      rw [fire_body hlt (by omega) (dU_get hx) (by omega), dU_set hx]
      have hm := ml_len (id := d.ID) (ph := d.Phase) (x := x)
      rw [fire_loop hb n (i + 1) _ _ (by omega) (by omega) (by simp; omega), drop_at hx]
      simp [Bool.and_assoc]
    · rw [dine_Fire_L1, if_neg (by simpa using hlt), dU_all (by omega), List.drop_eq_nil_of_le (by omega)]
      simp
def dirtyS (x : TSide) : TSide := { x with Dirty := true }
theorem dirty_loop {N : Nat} {z : List TSide × List TMail × Bool} (hb : z.1.length ≤ 1000) : ∀ (n i : Nat), z.1.length < n + i → i ≤ z.1.length →
    dine_Fire_L2 N z n (dU dirtyS i z.1) i = some (z.1.map dirtyS)
  | 0, i, h, hi => by omega
  | n + 1, i, h, hi => by
    rw [dine_Fire_L2]
    by_cases hlt : i < z.1.length
    · obtain ⟨x, hx⟩ := some_at hlt
      rw [if_pos (by simpa using hlt), at_nat, dU_get hx, Option.bind_some, w64_nat (by omega), Int.toNat_natCast]
      have : { x with Dirty := true } = dirtyS x := rfl
      rw [this, dU_set hx]
      exact dirty_loop hb n (i + 1) (by omega) (by omega)
    · rw [if_neg (by simpa using hlt), dU_all (by omega)]
def fireD (d : TDiner) : TDiner := if ((d.Phase == 1) && d.Sides.all fun x => (st d.Phase x).Fork) = true then ⟨d.ID, 2, (d.Sides.map (st d.Phase)).map dirtyS⟩ else { d with Sides := d.Sides.map (st d.Phase) }
def fireM (d : TDiner) : List TMail := d.Sides.flatMap (ml d.ID d.Phase)
theorem fire_eq {N : Nat} {d : TDiner} (hl : d.Sides.length ≤ 70) (hN : 100 ≤ N) : dine_Fire N d = some (if dnOk d = true then (fireD d, fireM d, 0) else (⟨0, 0, []⟩, [], 130)) := by
  unfold dine_Fire
  rw [check_eq hl hN, Option.bind_some]
  cases hok : dnOk d with
  | false => simp
  | true =>
    simp only [if_true]
    rw [if_neg (by decide), clone_eq hl, Option.bind_some]
    have h1 := fire_loop (N := N) (d := d) hl N 0 [] true (by omega) (by omega) (by simp)
    rw [dU_zero] at h1
    rw [show ((0 : Int)) = ((0 : Nat) : Int) from rfl, h1, Option.bind_some]
    simp only [List.drop_zero, List.nil_append, Bool.true_and]
    by_cases hc : ((d.Phase == 1) && d.Sides.all fun x => (st d.Phase x).Fork) = true
    · rw [if_pos hc]
      have h2 := dirty_loop (N := N) (z := (d.Sides.map (st d.Phase), d.Sides.flatMap (ml d.ID d.Phase), d.Sides.all fun x => (st d.Phase x).Fork)) (by simp; omega) N 0 (by simp; omega) (by simp)
      rw [dU_zero] at h2
      rw [h2, Option.bind_some]
      simp [fireD, fireM, hc]
    · rw [if_neg hc]
      simp [fireD, fireM, hc]
theorem awake_ok : narthexlaw13_awake 200 = some true := by rfl

/-! What goes out goes in a row. -/
def rowR (a b : TMail) : Prop := a.To < b.To ∨ (a.To = b.To ∧ a.Msg.Kind = 1 ∧ b.Msg.Kind = 2)
theorem s1_peer {ph : Int} {x : TSide} : (s1 ph x).Peer = x.Peer := by unfold s1; split <;> rfl
theorem ml_to {id ph : Int} {x : TSide} {m : TMail} (h : m ∈ ml id ph x) : m.To = x.Peer := by
  simp only [ml, List.mem_append] at h
  rcases h with h | h
  · unfold m1 at h
    split at h <;> simp at h
    rw [h]
  · unfold m2 at h
    split at h <;> simp at h
    rw [h]
    exact s1_peer
theorem ml_pair {id ph : Int} {x : TSide} : (ml id ph x).Pairwise rowR := by
  unfold ml m1 m2
  split <;> split <;> simp [rowR, s1_peer]
theorem mails_row {id ph : Int} {nid : Int} : ∀ (xs : List TSide) (last : Int), sidesOk nid last xs = true → (xs.flatMap (ml id ph)).Pairwise rowR ∧ ∀ m ∈ xs.flatMap (ml id ph), m.To > last
  | [], last, _ => by simp
  | x :: xs, last, h => by
    simp only [sidesOk, Bool.and_eq_true] at h
    obtain ⟨h1, h2⟩ := h
    obtain ⟨g1, g2⟩ := mails_row xs x.Peer h2
    have hp : x.Peer > last := by
      simp [sideOk] at h1
      omega
    simp only [List.flatMap_cons]
    refine ⟨List.pairwise_append.2 ⟨ml_pair, g1, fun a ha b hb => ?_⟩, fun m hm => ?_⟩
    · have e1 := ml_to ha
      have e2 := g2 b hb
      left
      omega
    · rcases List.mem_append.1 hm with hm | hm
      · rw [ml_to hm]; exact hp
      · have := g2 m hm
        omega
theorem row_loop {N : Nat} {y : TDiner × List TMail × Int} (hb : y.2.1.length ≤ 1000) (hp : y.2.1.Pairwise rowR) : ∀ (n i : Nat), y.2.1.length < n + i → 1 ≤ i → 0 < n →
    narthexlaw13_DineRow_L1 N y n i = some (.inr ())
  | 0, i, h, hi, hn => by omega
  | n + 1, i, h, hi, hn => by
    rw [narthexlaw13_DineRow_L1]
    by_cases hlt : i < y.2.1.length
    · obtain ⟨b, hb'⟩ := some_at hlt
      obtain ⟨a, ha⟩ := some_at (xs := y.2.1) (i := i - 1) (by omega)
      have e : w64 ((i : Int) - 1) = ((i - 1 : Nat) : Int) := by
        have := w64_pred (i := i - 1) (by omega)
        rwa [show i - 1 + 1 = i by omega] at this
      rw [if_pos (by simpa using hlt), e, at_nat, at_nat, ha, hb', Option.bind_some, Option.bind_some]
      have hr : rowR a b := by
        obtain ⟨l1, rfl⟩ := List.getElem?_eq_some_iff.1 ha
        obtain ⟨l2, rfl⟩ := List.getElem?_eq_some_iff.1 hb'
        exact List.pairwise_iff_getElem.1 hp _ _ l1 l2 (by omega)
      rw [if_neg (by rcases hr with hr | ⟨h1, h2, h3⟩ <;> simp <;> omega), w64_nat (by omega)]
      exact row_loop hb hp n (i + 1) (by omega) (by omega) (by omega)
    · rw [if_neg (by simpa using hlt)]
theorem fireM_len {d : TDiner} (h : d.Sides.length ≤ 70) : (fireM d).length ≤ 140 := by
  have : ∀ xs : List TSide, (xs.flatMap (ml d.ID d.Phase)).length ≤ 2 * xs.length := by
    intro xs
    induction xs with
    | nil => simp
    | cons x xs ih =>
      have := ml_len (id := d.ID) (ph := d.Phase) (x := x)
      simp only [List.flatMap_cons, List.length_append, List.length_cons]
      omega
  have := this d.Sides
  unfold fireM
  omega
theorem law_DineRow (a0 : TDiner) (o0 : kDiner a0) : ∃ N, narthexlaw13_DineRow N a0 = some true := by
  refine ⟨200, ?_⟩
  unfold narthexlaw13_DineRow
  rw [awake_ok, Option.bind_some]
  by_cases hl : a0.Sides.length ≤ 70
  · rw [if_neg (by simp; omega), own_eq hl, Option.bind_some, fire_eq hl (by decide), Option.bind_some]
    cases hok : dnOk a0 with
    | true =>
      simp only [if_true]
      have h1 : (1 : Int) = ((1 : Nat) : Int) := rfl
      have hp : (fireM a0).Pairwise rowR := by
        simp only [dnOk, Bool.and_eq_true] at hok
        exact (mails_row a0.Sides (-1) hok.2).1
      rw [h1, row_loop (y := (fireD a0, fireM a0, 0)) (by have := fireM_len hl; simp only; omega) hp 200 1 (by have := fireM_len hl; simp only; omega) (by omega) (by omega)]
      rfl
    | false =>
      have h1 : (1 : Int) = ((1 : Nat) : Int) := rfl
      rw [if_neg (by simp), h1, row_loop (y := ((⟨0, 0, []⟩ : TDiner), [], 130)) (by simp) (by simp) 200 1 (by simp) (by omega) (by omega)]
      rfl
  · rw [if_pos (by simp; omega)]
    rfl

/-! Hungry, or done. -/
theorem turned_eq {N : Nat} {d : TDiner} {a b : Int} (hl : d.Sides.length ≤ 70) (hN : 100 ≤ N) : dine_turned N d a b = some (if dnOk d = true then (if d.Phase = a then (⟨d.ID, b, d.Sides⟩, 0) else (⟨0, 0, []⟩, 134)) else (⟨0, 0, []⟩, 130)) := by
  unfold dine_turned
  rw [check_eq hl hN, Option.bind_some]
  cases dnOk d with
  | false => simp
  | true =>
    by_cases h : d.Phase = a
    · simp [h, clone_eq hl]
    · simp [h]
theorem law_DineTurns (a0 : TDiner) (o0 : kDiner a0) : ∃ N, narthexlaw13_DineTurns N a0 = some true := by
  refine ⟨200, ?_⟩
  unfold narthexlaw13_DineTurns
  rw [awake_ok, Option.bind_some]
  by_cases hl : a0.Sides.length ≤ 70
  · rw [if_neg (by simp; omega), own_eq hl, Option.bind_some]
    unfold dine_Start dine_Stop
    simp only [turned_eq hl (show 100 ≤ 200 by decide), refcheck_eq hl (show 100 ≤ 200 by decide), own_eq hl, Option.bind_some]
    cases hok : dnOk a0 with
    | false =>
      simp [same_eq (N := 200) (a := (⟨0, 0, []⟩ : TDiner)) (b := ⟨0, 0, []⟩) (by simp) (by decide)]
    | true =>
      simp only [Bool.not_true, Bool.false_eq_true, if_false, if_true]
      by_cases h0 : a0.Phase = 0
      · simp [h0, same_eq (N := 200) (a := (⟨a0.ID, 1, a0.Sides⟩ : TDiner)) (b := ⟨a0.ID, 1, a0.Sides⟩) (by simpa using hl) (by decide)]
      · by_cases h2 : a0.Phase = 2
        · simp [h2, same_eq (N := 200) (a := (⟨a0.ID, 0, a0.Sides⟩ : TDiner)) (b := ⟨a0.ID, 0, a0.Sides⟩) (by simpa using hl) (by decide)]
        · simp [h0, h2]
  · rw [if_pos (by simp; omega)]
    rfl

/-! Behind it nothing more is to be done. -/
theorem st_fields {ph : Int} {x : TSide} : (st ph x).Peer = x.Peer ∧ (st ph x).Epoch = x.Epoch ∧ (st ph x).State = x.State ∧ (st ph x).Bottle = x.Bottle ∧ (st ph x).Ask = x.Ask := by
  unfold st s2 s1
  split <;> split <;> simp
theorem st_dirty {ph : Int} {x : TSide} (h : (x.Dirty && !x.Fork) = false) : ((st ph x).Dirty && !(st ph x).Fork) = false := by
  unfold st s2 s1
  split <;> split <;> simp_all
theorem sideOk_st {ph id last : Int} {x : TSide} (h : sideOk id last x = true) : sideOk id last (st ph x) = true := by
  obtain ⟨e1, e2, e3, _⟩ := st_fields (ph := ph) (x := x)
  simp only [sideOk, Bool.and_eq_true] at h ⊢
  rw [e1, e2, e3]
  refine ⟨h.1, ?_⟩
  have h2 : (x.Dirty && !x.Fork) = false := by simpa only [Bool.not_eq_true'] using h.2
  simpa only [Bool.not_eq_true'] using st_dirty (ph := ph) h2
theorem sidesOk_st {ph id : Int} : ∀ {xs : List TSide} {last : Int}, sidesOk id last xs = true → sidesOk id last (xs.map (st ph)) = true
  | [], _, _ => rfl
  | x :: xs, last, h => by
    simp only [sidesOk, List.map_cons, Bool.and_eq_true] at h ⊢
    exact ⟨sideOk_st h.1, by rw [(st_fields (ph := ph) (x := x)).1]; exact sidesOk_st h.2⟩
theorem sidesOk_dirty {id : Int} : ∀ {xs : List TSide} {last : Int}, sidesOk id last xs = true → (∀ x ∈ xs, x.Fork = true) → sidesOk id last (xs.map dirtyS) = true
  | [], _, _, _ => rfl
  | x :: xs, last, h, hf => by
    simp only [sidesOk, List.map_cons, Bool.and_eq_true] at h ⊢
    refine ⟨?_, sidesOk_dirty h.2 (fun y hy => hf y (List.mem_cons_of_mem _ hy))⟩
    have := hf x List.mem_cons_self
    have h1 := h.1
    simp only [sideOk, Bool.and_eq_true] at h1 ⊢
    exact ⟨h1.1, by simp [dirtyS, this]⟩
theorem dnOk_fire {d : TDiner} (h : dnOk d = true) : dnOk (fireD d) = true := by
  simp only [dnOk, Bool.and_eq_true] at h
  obtain ⟨⟨⟨⟨h1, h2⟩, h3⟩, h4⟩, h5⟩ := h
  have h6 := sidesOk_st (ph := d.Phase) h5
  unfold fireD
  by_cases hc : ((d.Phase == 1) && d.Sides.all fun x => (st d.Phase x).Fork) = true
  · rw [if_pos hc]
    have hf : ∀ x ∈ d.Sides.map (st d.Phase), x.Fork = true := by
      simp only [Bool.and_eq_true, List.all_eq_true] at hc
      intro x hx
      obtain ⟨y, hy, rfl⟩ := List.mem_map.1 hx
      exact hc.2 y hy
    simp only [dnOk, h1, List.length_map, h4, sidesOk_dirty h6 hf]
    rfl
  · rw [if_neg hc]
    simp only [dnOk, h1, h2, h3, List.length_map, h4, h6]
    rfl
theorem st_st {ph : Int} {x : TSide} : st ph (st ph x) = st ph x ∧ ∀ id, ml id ph (st ph x) = [] := by
  have h1 : ∀ y : TSide, s1 ph (s1 ph y) = s1 ph y := fun y => by unfold s1; split <;> simp_all
  unfold ml m1 m2 st s2 s1
  split <;> split <;> simp_all
theorem fireD_len {d : TDiner} : (fireD d).Sides.length = d.Sides.length := by
  unfold fireD
  split <;> simp
theorem st2_dirty {x : TSide} : st 2 x = x ∧ ∀ id, ml id 2 x = [] := by
  simp [st, s1, s2, ml, m1, m2]
theorem map_same {α : Type} {f : α → α} : ∀ {xs : List α}, (∀ x ∈ xs, f x = x) → xs.map f = xs
  | [], _ => rfl
  | x :: xs, h => by rw [List.map_cons, h x List.mem_cons_self, map_same (fun y hy => h y (List.mem_cons_of_mem _ hy))]
theorem fire_still {d : TDiner} : fireD (fireD d) = fireD d ∧ fireM (fireD d) = [] := by
  unfold fireD
  by_cases hc : ((d.Phase == 1) && d.Sides.all fun x => (st d.Phase x).Fork) = true
  · rw [if_pos hc]
    refine ⟨?_, ?_⟩
    · rw [if_neg (by simp)]
      rw [map_same (fun x _ => st2_dirty.1)]
    · simp only [fireM, List.flatMap_eq_nil_iff]
      exact fun x _ => st2_dirty.2 _
  · rw [if_neg hc]
    have h2 : (d.Sides.map (st d.Phase)).map (st d.Phase) = d.Sides.map (st d.Phase) := map_same (fun x hx => by
      obtain ⟨y, _, rfl⟩ := List.mem_map.1 hx
      exact st_st.1)
    refine ⟨?_, ?_⟩
    · have hc2 : ¬ ((d.Phase == 1) && (d.Sides.map (st d.Phase)).all fun x => (st d.Phase x).Fork) = true := by
        simpa [List.all_map, Function.comp_def, st_st.1] using hc
      simp only
      rw [if_neg hc2, h2]
    · simp only [fireM, List.flatMap_eq_nil_iff]
      intro x hx
      obtain ⟨y, _, rfl⟩ := List.mem_map.1 hx
      exact st_st.2 _
theorem still_loop {N : Nat} {y : TDiner × List TMail × Int} (hb : y.1.Sides.length ≤ 1000) (hp : ∀ x ∈ y.1.Sides, ((((x.Fork && x.Dirty) && x.Token) && (y.1.Phase != 2)) || (((y.1.Phase == 1) && (!x.Fork)) && x.Token)) = false) :
    ∀ (n i : Nat) (b : Bool), y.1.Sides.length < n + i → i ≤ y.1.Sides.length → narthexlaw13_DineStill_L1 N y n b i = some (.inr (b || (y.1.Sides.drop i).any fun x => !x.Fork))
  | 0, i, b, h, hi => by omega
  | n + 1, i, b, h, hi => by
    rw [narthexlaw13_DineStill_L1]
    by_cases hlt : i < y.1.Sides.length
    · obtain ⟨x, hx⟩ := some_at hlt
      rw [if_pos (by simpa using hlt), at_nat, hx, Option.bind_some, if_neg (by rw [hp x (List.mem_of_getElem? hx)]; simp), w64_nat (by omega), still_loop hb hp n (i + 1) _ (by omega) (by omega), drop_at hx]
      simp [Bool.or_assoc]
    · rw [if_neg (by simpa using hlt), List.drop_eq_nil_of_le (by omega)]
      simp
theorem quiet1 {ph : Int} {y : TSide} : (((((st ph y).Fork && (st ph y).Dirty) && (st ph y).Token) && (ph != 2)) || (((ph == 1) && (!(st ph y).Fork)) && (st ph y).Token)) = false := by
  obtain ⟨a, b, c, f, d, t, g, k⟩ := y
  by_cases h1 : ph = 1
  · subst h1
    cases f <;> cases d <;> cases t <;> simp [st, s1, s2]
  · by_cases h2 : ph = 2
    · subst h2
      cases f <;> cases d <;> cases t <;> simp [st, s1, s2]
    · cases f <;> cases d <;> cases t <;> simp [st, s1, s2, h1, h2]
theorem fire_quiet {d : TDiner} : ∀ x ∈ (fireD d).Sides, ((((x.Fork && x.Dirty) && x.Token) && ((fireD d).Phase != 2)) || ((((fireD d).Phase == 1) && (!x.Fork)) && x.Token)) = false := by
  unfold fireD
  by_cases hc : ((d.Phase == 1) && d.Sides.all fun x => (st d.Phase x).Fork) = true
  · rw [if_pos hc]
    intro x _
    simp
  · rw [if_neg hc]
    intro x hx
    obtain ⟨y, _, rfl⟩ := List.mem_map.1 hx
    exact quiet1
theorem fire_missing {d : TDiner} : (((fireD d).Phase != 1) || (fireD d).Sides.any fun x => !x.Fork) = true := by
  unfold fireD
  by_cases hc : ((d.Phase == 1) && d.Sides.all fun x => (st d.Phase x).Fork) = true
  · rw [if_pos hc]
    simp
  · rw [if_neg hc]
    by_cases h1 : d.Phase = 1
    · simp only [h1, beq_self_eq_true, Bool.true_and] at hc
      simp [h1]
      simpa using hc
    · simp [h1]
theorem law_DineStill (a0 : TDiner) (o0 : kDiner a0) : ∃ N, narthexlaw13_DineStill N a0 = some true := by
  refine ⟨200, ?_⟩
  unfold narthexlaw13_DineStill
  rw [awake_ok, Option.bind_some]
  by_cases hl : a0.Sides.length ≤ 70
  · rw [if_neg (by simp; omega), own_eq hl, Option.bind_some, fire_eq hl (by decide), Option.bind_some]
    cases hok : dnOk a0 with
    | false => simp
    | true =>
      simp only [if_true]
      rw [if_neg (by decide)]
      have hl2 : (fireD a0).Sides.length ≤ 70 := by rw [fireD_len]; exact hl
      have hok2 := dnOk_fire hok
      rw [own_eq hl2, Option.bind_some, fire_eq hl2 (by decide), Option.bind_some, hok2, fire_still.1, fire_still.2]
      have h1 := still_loop (N := 200) (y := (fireD a0, fireM a0, 0)) (by simp only; omega) fire_quiet 200 0 false (by simp only; omega) (by simp)
      simp only [List.drop_zero, Bool.false_or] at h1
      rw [show ((0 : Int)) = ((0 : Nat) : Int) from rfl] at *
      simp only [if_true]
      rw [h1]
      have hm := fire_missing (d := a0)
      simp only [Option.bind_some, same_eq (N := 200) (a := fireD a0) (b := fireD a0) hl2 (by decide), hm, own_eq hl2, check_eq (N := 200) hl2 (by decide), hok2]
      simp [hm, own_eq hl2, check_eq (N := 200) hl2 (by decide), hok2]
  · rw [if_pos (by simp; omega)]
    rfl

end Go.Proofs.Ytcnbkfgajnlbpaa
