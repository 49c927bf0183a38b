/- Models of the functions, and what is known of data that came in. -/
import Derived.Test.YtcdjfellhgdgoaaFwE
namespace Go.Proofs.Ytcdjfellhgdgoaa
open Go Go.Nx
set_option linter.unusedVariables false
set_option linter.unusedSimpArgs false
set_option linter.unnecessarySimpa false
set_option maxRecDepth 8000
structure TSide where
  Peer : Int
  Epoch : Int
  State : Int
  Fork : Bool
  Dirty : Bool
  Token : Bool
  Bottle : Bool
  Ask : Bool
  deriving DecidableEq, Inhabited
structure TDiner where
  ID : Int
  Phase : Int
  Sides : List TSide
  deriving DecidableEq, Inhabited
structure TDrinker where
  Diner : TDiner
  Thirst : Int
  Need : List Int
  deriving DecidableEq, Inhabited
structure TMsg where
  Kind : Int
  Epoch : Int
  Num : Int
  deriving DecidableEq, Inhabited
structure TMail where
  From : Int
  To : Int
  Msg : TMsg
  deriving DecidableEq, Inhabited
def eSide (x : TSide) : List Leaf := [I x.Peer, I x.Epoch, I x.State, B x.Fork, B x.Dirty, B x.Token, B x.Bottle, B x.Ask]
def eI (x : Int) : List Leaf := [I x]
def eDiner (x : TDiner) : List Leaf := [I x.ID, I x.Phase, .slv (x.Sides.map eSide)]
def eDrinker (x : TDrinker) : List Leaf := [I x.Diner.ID, I x.Diner.Phase, .slv (x.Diner.Sides.map eSide), I x.Thirst, .slv (x.Need.map eI)]
def eMail (x : TMail) : List Leaf := [I x.From, I x.To, I x.Msg.Kind, I x.Msg.Epoch, I x.Msg.Num]
def eMsg (x : TMsg) : List Leaf := [I x.Kind, I x.Epoch, I x.Num]
def kSide (x : TSide) : Prop := (Lit.int .i64 x.Peer).wf = true ∧ (Lit.int .i64 x.Epoch).wf = true ∧ (Lit.int .i64 x.State).wf = true ∧ True ∧ True ∧ True ∧ True ∧ True
def kDiner (x : TDiner) : Prop := (Lit.int .i64 x.ID).wf = true ∧ (Lit.int .i64 x.Phase).wf = true ∧ (x.Sides.length ≤ maxLen ∧ ∀ y ∈ x.Sides, kSide y)
def kDrinker (x : TDrinker) : Prop := kDiner x.Diner ∧ (Lit.int .i64 x.Thirst).wf = true ∧ (x.Need.length ≤ maxLen ∧ ∀ y ∈ x.Need, (Lit.int .i64 y).wf = true)
def kMsg (x : TMsg) : Prop := (Lit.int .i64 x.Kind).wf = true ∧ (Lit.int .i64 x.Epoch).wf = true ∧ (Lit.int .i64 x.Num).wf = true
def kMail (x : TMail) : Prop := (Lit.int .i64 x.From).wf = true ∧ (Lit.int .i64 x.To).wf = true ∧ kMsg x.Msg
-- narthex/dine.Check$1
def dine_Check_1 (N : Nat) (a0 : TSide) (c0_0 : Int) (c0_1 : Int) (c0_2 : List TSide) (c1_0 : Int) : Option (Bool × Int) :=
  some ((((((!((decide (a0.Peer > c1_0)) && (a0.Peer != c0_0))) || (decide (a0.Epoch < 0))) || (decide (a0.Epoch > 65535))) || (decide (a0.State < 0))) || (decide (a0.State > 3))) || (a0.Dirty && (!a0.Fork)), a0.Peer)
-- slices.IndexFunc[[]narthex/api.Side,narthex/api.Side]
def slices_IndexFunc_Side_L1 (N : Nat) (a0 : List TSide) (c0_0 : Int) (c0_1 : Int) (c0_2 : List TSide) : Nat → Int → Int → Option ((Int × Int) ⊕ Int)
  | 0, _, _ => none
  | n1 + 1, c1_0_1, s8_1 =>
    if decide (s8_1 < (a0.length : Int)) then
      Option.bind (at? a0 s8_1) fun x4 =>
      Option.bind (dine_Check_1 N x4 c0_0 c0_1 c0_2 c1_0_1) fun y5 =>
      if y5.1 then
        some (.inl ((s8_1, y5.2)))
      else
        slices_IndexFunc_Side_L1 N a0 c0_0 c0_1 c0_2 n1 y5.2 (w64 (s8_1 + 1))
    else
      some (.inr c1_0_1)
def slices_IndexFunc_Side (N : Nat) (a0 : List TSide) (c0_0 : Int) (c0_1 : Int) (c0_2 : List TSide) (c1_0 : Int) : Option (Int × Int) :=
  Option.bind (α := (Int × Int) ⊕ Int) (
    slices_IndexFunc_Side_L1 N a0 c0_0 c0_1 c0_2 N c1_0 0
  ) fun z1 =>
  match z1 with
  | .inl r2 =>
    some r2
  | .inr z3 =>
    some ((-1), z3)
-- slices.ContainsFunc[[]narthex/api.Side,narthex/api.Side]
def slices_ContainsFunc_Side (N : Nat) (a0 : List TSide) (c0_0 : Int) (c0_1 : Int) (c0_2 : List TSide) (c1_0 : Int) : Option (Bool × Int) :=
  Option.bind (slices_IndexFunc_Side N a0 c0_0 c0_1 c0_2 c1_0) fun y1 =>
  some (decide (y1.1 ≥ 0), y1.2)
-- narthex/dine.Check
def dine_Check (N : Nat) (a0 : TDiner) : Option (Int) :=
  Option.bind (if (!((((decide (a0.ID < 0)) || (decide (a0.Phase < 0))) || (decide (a0.Phase > 2))) || (decide ((a0.Sides.length : Int) ≥ 64)))) = true then slices_ContainsFunc_Side N a0.Sides a0.ID a0.Phase a0.Sides (-1) else some (default, (-1))) fun y1 =>
  if ((((decide (a0.ID < 0)) || (decide (a0.Phase < 0))) || (decide (a0.Phase > 2))) || (decide ((a0.Sides.length : Int) ≥ 64))) || y1.1 then
    some 130
  else
    some 0
-- narthex/set.Valid
def set_Valid_L1 (N : Nat) (a0 : List Int) : Nat → Int → Option (Bool ⊕ Unit)
  | 0, _ => none
  | n1 + 1, s6_1 =>
    if decide (s6_1 < (a0.length : Int)) then
      Option.bind (if (decide (s6_1 > 0)) = true then at? a0 (w64 (s6_1 - 1)) else some default) fun x4 =>
      Option.bind (if (decide (s6_1 > 0)) = true then at? a0 s6_1 else some default) fun x5 =>
      if (decide (s6_1 > 0)) && (decide (x4 ≥ x5)) then
        some (.inl false)
      else
        set_Valid_L1 N a0 n1 (w64 (s6_1 + 1))
    else
      some (.inr (()))
def set_Valid (N : Nat) (a0 : List Int) : Option (Bool) :=
  Option.bind (α := Bool ⊕ Unit) (
    set_Valid_L1 N a0 N 0
  ) fun z1 =>
  match z1 with
  | .inl r2 =>
    some r2
  | .inr z3 =>
    some true
-- narthex/drink.Check$1$1
def drink_Check_1_1 (N : Nat) (a0 : TSide) (c0_0 : Int) (c0_1 : Int) (c0_2 : List TSide) (c0_3 : Int) (c0_4 : List Int) (c1_0 : Int) : Option (Bool) :=
  some (a0.Peer == c1_0)
-- slices.IndexFunc[[]narthex/api.Side,narthex/api.Side]
def slices_IndexFunc_Side_2_L1 (N : Nat) (a0 : List TSide) (c0_0 : Int) (c0_1 : Int) (c0_2 : List TSide) (c0_3 : Int) (c0_4 : List Int) (c1_0 : Int) : Nat → Int → Option (Int ⊕ Unit)
  | 0, _ => none
  | n1 + 1, s8_1 =>
    if decide (s8_1 < (a0.length : Int)) then
      Option.bind (at? a0 s8_1) fun x4 =>
      Option.bind (drink_Check_1_1 N x4 c0_0 c0_1 c0_2 c0_3 c0_4 c1_0) fun y5 =>
      if y5 then
        some (.inl s8_1)
      else
        slices_IndexFunc_Side_2_L1 N a0 c0_0 c0_1 c0_2 c0_3 c0_4 c1_0 n1 (w64 (s8_1 + 1))
    else
      some (.inr (()))
def slices_IndexFunc_Side_2 (N : Nat) (a0 : List TSide) (c0_0 : Int) (c0_1 : Int) (c0_2 : List TSide) (c0_3 : Int) (c0_4 : List Int) (c1_0 : Int) : Option (Int) :=
  Option.bind (α := Int ⊕ Unit) (
    slices_IndexFunc_Side_2_L1 N a0 c0_0 c0_1 c0_2 c0_3 c0_4 c1_0 N 0
  ) fun z1 =>
  match z1 with
  | .inl r2 =>
    some r2
  | .inr z3 =>
    some (-1)
-- slices.ContainsFunc[[]narthex/api.Side,narthex/api.Side]
def slices_ContainsFunc_Side_2 (N : Nat) (a0 : List TSide) (c0_0 : Int) (c0_1 : Int) (c0_2 : List TSide) (c0_3 : Int) (c0_4 : List Int) (c1_0 : Int) : Option (Bool) :=
  Option.bind (slices_IndexFunc_Side_2 N a0 c0_0 c0_1 c0_2 c0_3 c0_4 c1_0) fun y1 =>
  some (decide (y1 ≥ 0))
-- narthex/drink.Check$1
def drink_Check_1 (N : Nat) (a0 : Int) (c0_0 : Int) (c0_1 : Int) (c0_2 : List TSide) (c0_3 : Int) (c0_4 : List Int) : Option (Bool) :=
  Option.bind (slices_ContainsFunc_Side_2 N c0_2 c0_0 c0_1 c0_2 c0_3 c0_4 a0) fun y1 =>
  some (!y1)
-- slices.IndexFunc[[]int,int]
def slices_IndexFunc_int_L1 (N : Nat) (a0 : List Int) (c0_0 : Int) (c0_1 : Int) (c0_2 : List TSide) (c0_3 : Int) (c0_4 : List Int) : Nat → Int → Option (Int ⊕ Unit)
  | 0, _ => none
  | n1 + 1, s8_1 =>
    if decide (s8_1 < (a0.length : Int)) then
      Option.bind (at? a0 s8_1) fun x4 =>
      Option.bind (drink_Check_1 N x4 c0_0 c0_1 c0_2 c0_3 c0_4) fun y5 =>
      if y5 then
        some (.inl s8_1)
      else
        slices_IndexFunc_int_L1 N a0 c0_0 c0_1 c0_2 c0_3 c0_4 n1 (w64 (s8_1 + 1))
    else
      some (.inr (()))
def slices_IndexFunc_int (N : Nat) (a0 : List Int) (c0_0 : Int) (c0_1 : Int) (c0_2 : List TSide) (c0_3 : Int) (c0_4 : List Int) : Option (Int) :=
  Option.bind (α := Int ⊕ Unit) (
    slices_IndexFunc_int_L1 N a0 c0_0 c0_1 c0_2 c0_3 c0_4 N 0
  ) fun z1 =>
  match z1 with
  | .inl r2 =>
    some r2
  | .inr z3 =>
    some (-1)
-- slices.ContainsFunc[[]int,int]
def slices_ContainsFunc_int (N : Nat) (a0 : List Int) (c0_0 : Int) (c0_1 : Int) (c0_2 : List TSide) (c0_3 : Int) (c0_4 : List Int) : Option (Bool) :=
  Option.bind (slices_IndexFunc_int N a0 c0_0 c0_1 c0_2 c0_3 c0_4) fun y1 =>
  some (decide (y1 ≥ 0))
-- narthex/drink.Check
def drink_Check (N : Nat) (a0 : TDrinker) : Option (Int) :=
  Option.bind (dine_Check N a0.Diner) fun y1 =>
  Option.bind (α := Bool) (
    if y1 != 0 then
      some (y1 != 0)
    else
      if decide (a0.Thirst < 0) then
        some (decide (a0.Thirst < 0))
      else
        some (decide (a0.Thirst > 2))
  ) fun z2 =>
  if z2 then
    some 150
  else
    Option.bind (set_Valid N a0.Need) fun y3 =>
    Option.bind (α := Bool) (
      if !y3 then
        some (!y3)
      else
        if (a0.Thirst == 0) && (decide ((a0.Need.length : Int) > 0)) then
          some ((a0.Thirst == 0) && (decide ((a0.Need.length : Int) > 0)))
        else
          Option.bind (slices_ContainsFunc_int N a0.Need a0.Diner.ID a0.Diner.Phase a0.Diner.Sides a0.Thirst a0.Need) fun y5 =>
          some y5
    ) fun z4 =>
    if z4 then
      some 150
    else
      some 0
-- narthex/drink.Open$1$1
def drink_Open_1_1 (N : Nat) (a0 : TSide) (c0_0 : Int) (c0_1 : Int) (c0_2 : List TSide) (c0_3 : Int) (c0_4 : List Int) (c1_0 : Int) (c1_1 : Int) (c1_3 : Int) (c2_0 : Int) : Option (Bool) :=
  some ((a0.Peer == c2_0) && (a0.State == 0))
-- slices.IndexFunc[[]narthex/api.Side,narthex/api.Side]
def slices_IndexFunc_Side_3_L1 (N : Nat) (a0 : List TSide) (c0_0 : Int) (c0_1 : Int) (c0_2 : List TSide) (c0_3 : Int) (c0_4 : List Int) (c1_0 : Int) (c1_1 : Int) (c1_3 : Int) (c2_0 : Int) : Nat → Int → Option (Int ⊕ Unit)
  | 0, _ => none
  | n1 + 1, s8_1 =>
    if decide (s8_1 < (a0.length : Int)) then
      Option.bind (at? a0 s8_1) fun x4 =>
      Option.bind (drink_Open_1_1 N x4 c0_0 c0_1 c0_2 c0_3 c0_4 c1_0 c1_1 c1_3 c2_0) fun y5 =>
      if y5 then
        some (.inl s8_1)
      else
        slices_IndexFunc_Side_3_L1 N a0 c0_0 c0_1 c0_2 c0_3 c0_4 c1_0 c1_1 c1_3 c2_0 n1 (w64 (s8_1 + 1))
    else
      some (.inr (()))
def slices_IndexFunc_Side_3 (N : Nat) (a0 : List TSide) (c0_0 : Int) (c0_1 : Int) (c0_2 : List TSide) (c0_3 : Int) (c0_4 : List Int) (c1_0 : Int) (c1_1 : Int) (c1_3 : Int) (c2_0 : Int) : Option (Int) :=
  Option.bind (α := Int ⊕ Unit) (
    slices_IndexFunc_Side_3_L1 N a0 c0_0 c0_1 c0_2 c0_3 c0_4 c1_0 c1_1 c1_3 c2_0 N 0
  ) fun z1 =>
  match z1 with
  | .inl r2 =>
    some r2
  | .inr z3 =>
    some (-1)
-- slices.ContainsFunc[[]narthex/api.Side,narthex/api.Side]
def slices_ContainsFunc_Side_3 (N : Nat) (a0 : List TSide) (c0_0 : Int) (c0_1 : Int) (c0_2 : List TSide) (c0_3 : Int) (c0_4 : List Int) (c1_0 : Int) (c1_1 : Int) (c1_3 : Int) (c2_0 : Int) : Option (Bool) :=
  Option.bind (slices_IndexFunc_Side_3 N a0 c0_0 c0_1 c0_2 c0_3 c0_4 c1_0 c1_1 c1_3 c2_0) fun y1 =>
  some (decide (y1 ≥ 0))
-- narthex/drink.Open$1
def drink_Open_1 (N : Nat) (a0 : Int) (c0_0 : Int) (c0_1 : Int) (c0_2 : List TSide) (c0_3 : Int) (c0_4 : List Int) (c1_0 : Int) (c1_1 : Int) (c1_3 : Int) : Option (Bool) :=
  Option.bind (slices_ContainsFunc_Side_3 N c0_2 c0_0 c0_1 c0_2 c0_3 c0_4 c1_0 c1_1 c1_3 a0) fun y1 =>
  some (!y1)
-- slices.IndexFunc[[]int,int]
def slices_IndexFunc_int_2_L1 (N : Nat) (a0 : List Int) (c0_0 : Int) (c0_1 : Int) (c0_2 : List TSide) (c0_3 : Int) (c0_4 : List Int) (c1_0 : Int) (c1_1 : Int) (c1_3 : Int) : Nat → Int → Option (Int ⊕ Unit)
  | 0, _ => none
  | n1 + 1, s8_1 =>
    if decide (s8_1 < (a0.length : Int)) then
      Option.bind (at? a0 s8_1) fun x4 =>
      Option.bind (drink_Open_1 N x4 c0_0 c0_1 c0_2 c0_3 c0_4 c1_0 c1_1 c1_3) fun y5 =>
      if y5 then
        some (.inl s8_1)
      else
        slices_IndexFunc_int_2_L1 N a0 c0_0 c0_1 c0_2 c0_3 c0_4 c1_0 c1_1 c1_3 n1 (w64 (s8_1 + 1))
    else
      some (.inr (()))
def slices_IndexFunc_int_2 (N : Nat) (a0 : List Int) (c0_0 : Int) (c0_1 : Int) (c0_2 : List TSide) (c0_3 : Int) (c0_4 : List Int) (c1_0 : Int) (c1_1 : Int) (c1_3 : Int) : Option (Int) :=
  Option.bind (α := Int ⊕ Unit) (
    slices_IndexFunc_int_2_L1 N a0 c0_0 c0_1 c0_2 c0_3 c0_4 c1_0 c1_1 c1_3 N 0
  ) fun z1 =>
  match z1 with
  | .inl r2 =>
    some r2
  | .inr z3 =>
    some (-1)
-- slices.ContainsFunc[[]int,int]
def slices_ContainsFunc_int_2 (N : Nat) (a0 : List Int) (c0_0 : Int) (c0_1 : Int) (c0_2 : List TSide) (c0_3 : Int) (c0_4 : List Int) (c1_0 : Int) (c1_1 : Int) (c1_3 : Int) : Option (Bool) :=
  Option.bind (slices_IndexFunc_int_2 N a0 c0_0 c0_1 c0_2 c0_3 c0_4 c1_0 c1_1 c1_3) fun y1 =>
  some (decide (y1 ≥ 0))
def slices_Clone_Side (N : Nat) (a0 : List TSide) : Option (List TSide) := app? [] a0
def slices_Clone_int (N : Nat) (a0 : List Int) : Option (List Int) := app? [] a0
-- narthex/drink.own
def drink_own (N : Nat) (a0 : TDrinker) : Option (TDrinker) :=
  Option.bind (slices_Clone_Side N a0.Diner.Sides) fun y1 =>
  Option.bind (slices_Clone_int N a0.Need) fun y2 =>
  some (⟨{ a0.Diner with Sides := y1 }, a0.Thirst, y2⟩ : TDrinker)
-- narthex/set.Of
def set_Of (N : Nat) (a0 : List Int) : Option ((List Int)) :=
  Option.bind (slices_Clone_int N a0) fun y1 =>
  Option.bind (sort? y1) fun x2 =>
  Option.bind (ded? x2) fun x3 =>
  some x3
-- narthex/drink.Open
def drink_Open (N : Nat) (a0 : TDrinker) (a1 : List Int) : Option (TDrinker × Int) :=
  Option.bind (drink_Check N a0) fun y1 =>
  Option.bind (α := Int) (
    if y1 != 0 then
      some y1
    else
      if a0.Thirst != 0 then
        some 152
      else
        Option.bind (slices_ContainsFunc_int_2 N a1 a0.Diner.ID a0.Diner.Phase a0.Diner.Sides a0.Thirst a0.Need 0 0 0) fun y3 =>
        if y3 then
          some 151
        else
          some y1
  ) fun z2 =>
  if z2 != 0 then
    some ((⟨(⟨0, 0, []⟩ : TDiner), 0, []⟩ : TDrinker), z2)
  else
    Option.bind (drink_own N a0) fun y4 =>
    Option.bind (set_Of N a1) fun y5 =>
    some ((⟨y4.Diner, 1, y5⟩ : TDrinker), 0)
-- (*narthex/drink.drinker).once$1
def drink_drinker_once_1 (N : Nat) (a0 : TSide) : Option (Bool) :=
  some (a0.State == 1)
-- slices.IndexFunc[[]narthex/api.Side,narthex/api.Side]
def slices_IndexFunc_Side_4_L1 (N : Nat) (a0 : List TSide) : Nat → Int → Option (Int ⊕ Unit)
  | 0, _ => none
  | n1 + 1, s8_1 =>
    if decide (s8_1 < (a0.length : Int)) then
      Option.bind (at? a0 s8_1) fun x4 =>
      Option.bind (drink_drinker_once_1 N x4) fun y5 =>
      if y5 then
        some (.inl s8_1)
      else
        slices_IndexFunc_Side_4_L1 N a0 n1 (w64 (s8_1 + 1))
    else
      some (.inr (()))
def slices_IndexFunc_Side_4 (N : Nat) (a0 : List TSide) : Option (Int) :=
  Option.bind (α := Int ⊕ Unit) (
    slices_IndexFunc_Side_4_L1 N a0 N 0
  ) fun z1 =>
  match z1 with
  | .inl r2 =>
    some r2
  | .inr z3 =>
    some (-1)
-- slices.ContainsFunc[[]narthex/api.Side,narthex/api.Side]
def slices_ContainsFunc_Side_4 (N : Nat) (a0 : List TSide) : Option (Bool) :=
  Option.bind (slices_IndexFunc_Side_4 N a0) fun y1 =>
  some (decide (y1 ≥ 0))
-- narthex/dine.Fire$1
def dine_Fire_1_2 (N : Nat) (a0 : Int) (c0_0 : Int) (c0_1 : Int) (l1 : List TSide) (c2_0 : Int) (c2_1 : Int) (l4 : List TMail) (c5_0 : Nat) : Option ((List TMail)) :=
  Option.bind (l1[c5_0]?) fun x1 =>
  Option.bind (app? l4 [(⟨c0_0, x1.Peer, (⟨a0, x1.Epoch, 0⟩ : TMsg)⟩ : TMail)]) fun x2 =>
  some x2
-- narthex/dine.Fire
def dine_Fire_L1 (N : Nat) (a0 : TDiner) (y2 : List TSide) : Nat → (List TSide) → (List TMail) → Bool → Int → Option ((List TSide) × (List TMail) × Bool)
  | 0, _, _, _, _ => none
  | n1 + 1, l1_1, l4_1, s7_1, s25_1 =>
    if decide (s25_1 < (y2.length : Int)) then
      Option.bind (at? l1_1 s25_1) fun x4 =>
      Option.bind (α := (List TSide) × (List TMail)) (
        if ((x4.Fork && x4.Dirty) && x4.Token) && (a0.Phase != 2) then
          Option.bind (dine_Fire_1_2 N 1 a0.ID a0.Phase ((l1_1.set s25_1.toNat { x4 with Fork := false }).set s25_1.toNat { x4 with Fork := false, Dirty := false }) 0 0 l4_1 s25_1.toNat) fun y6 =>
          some ((l1_1.set s25_1.toNat { x4 with Fork := false }).set s25_1.toNat { x4 with Fork := false, Dirty := false }, y6)
        else
          some (l1_1, l4_1)
      ) fun z5 =>
      Option.bind (if (a0.Phase == 1) = true then z5.1[s25_1.toNat]? else some default) fun x7 =>
      Option.bind (if ((a0.Phase == 1) && x7.Token) = true then z5.1[s25_1.toNat]? else some default) fun x8 =>
      if ((a0.Phase == 1) && x7.Token) && (!x8.Fork) then
        Option.bind (z5.1[s25_1.toNat]?) fun x9 =>
        Option.bind (dine_Fire_1_2 N 2 a0.ID a0.Phase (z5.1.set s25_1.toNat { x9 with Token := false }) 0 0 z5.2 s25_1.toNat) fun y10 =>
        dine_Fire_L1 N a0 y2 n1 (z5.1.set s25_1.toNat { x9 with Token := false }) y10 (s7_1 && x9.Fork) (w64 (s25_1 + 1))
      else
        Option.bind (if s7_1 = true then z5.1[s25_1.toNat]? else some default) fun x11 =>
        dine_Fire_L1 N a0 y2 n1 z5.1 z5.2 (s7_1 && x11.Fork) (w64 (s25_1 + 1))
    else
      some (l1_1, l4_1, s7_1)
def dine_Fire_L2 (N : Nat) (z3 : (List TSide) × (List TMail) × Bool) : Nat → (List TSide) → Int → Option ((List TSide))
  | 0, _, _ => none
  | n2 + 1, l1_2, s101_2 =>
    if decide (s101_2 < (z3.1.length : Int)) then
      Option.bind (at? l1_2 s101_2) fun x13 =>
      dine_Fire_L2 N z3 n2 (l1_2.set s101_2.toNat { x13 with Dirty := true }) (w64 (s101_2 + 1))
    else
      some l1_2
def dine_Fire (N : Nat) (a0 : TDiner) : Option (TDiner × (List TMail) × Int) :=
  Option.bind (dine_Check N a0) fun y1 =>
  if y1 != 0 then
    some ((⟨0, 0, []⟩ : TDiner), [], y1)
  else
    Option.bind (slices_Clone_Side N a0.Sides) fun y2 =>
    Option.bind (α := (List TSide) × (List TMail) × Bool) (
      dine_Fire_L1 N a0 y2 N y2 ([] : List TMail) true 0
    ) fun z3 =>
    if (a0.Phase == 1) && z3.2.2 then
      Option.bind (α := (List TSide)) (
        dine_Fire_L2 N z3 N z3.1 0
      ) fun z12 =>
      some ((⟨a0.ID, 2, z12⟩ : TDiner), z3.2.1, 0)
    else
      some ({ a0 with Sides := z3.1 }, z3.2.1, 0)
-- narthex/dine.Fire
def dine_Fire_o_L1 (N : Nat) (a0 : TDiner) (y2 : List TSide) : Nat → (List TSide) → (List TMail) → Bool → Int → Option ((List TSide) × (List TMail) × Bool)
  | 0, _, _, _, _ => none
  | n1 + 1, l1_1, l4_1, s7_1, s25_1 =>
    if decide (s25_1 < (y2.length : Int)) then
      Option.bind (at? l1_1 s25_1) fun x4 =>
      Option.bind (α := (List TSide) × (List TMail)) (
        if ((x4.Fork && x4.Dirty) && x4.Token) && (a0.Phase != 2) then
          Option.bind (dine_Fire_1_2 N 1 a0.ID a0.Phase ((l1_1.set s25_1.toNat { x4 with Fork := false }).set s25_1.toNat { x4 with Fork := false, Dirty := false }) 0 0 l4_1 s25_1.toNat) fun y6 =>
          some ((l1_1.set s25_1.toNat { x4 with Fork := false }).set s25_1.toNat { x4 with Fork := false, Dirty := false }, y6)
        else
          some (l1_1, l4_1)
      ) fun z5 =>
      Option.bind (if (a0.Phase == 1) = true then z5.1[s25_1.toNat]? else some default) fun x7 =>
      Option.bind (if ((a0.Phase == 1) && x7.Token) = true then z5.1[s25_1.toNat]? else some default) fun x8 =>
      if ((a0.Phase == 1) && x7.Token) && (!x8.Fork) then
        Option.bind (z5.1[s25_1.toNat]?) fun x9 =>
        Option.bind (dine_Fire_1_2 N 2 a0.ID a0.Phase (z5.1.set s25_1.toNat { x9 with Token := false }) 0 0 z5.2 s25_1.toNat) fun y10 =>
        dine_Fire_o_L1 N a0 y2 n1 (z5.1.set s25_1.toNat { x9 with Token := false }) y10 (s7_1 && x9.Fork) (w64 (s25_1 + 1))
      else
        Option.bind (if s7_1 = true then z5.1[s25_1.toNat]? else some default) fun x11 =>
        dine_Fire_o_L1 N a0 y2 n1 z5.1 z5.2 (s7_1 && x11.Fork) (w64 (s25_1 + 1))
    else
      some (l1_1, l4_1, s7_1)
def dine_Fire_o_L2 (N : Nat) (z3 : (List TSide) × (List TMail) × Bool) : Nat → (List TSide) → Int → Option ((List TSide))
  | 0, _, _ => none
  | n2 + 1, l1_2, s101_2 =>
    if decide (s101_2 < (z3.1.length : Int)) then
      Option.bind (at? l1_2 s101_2) fun x13 =>
      dine_Fire_o_L2 N z3 n2 (l1_2.set s101_2.toNat { x13 with Dirty := true }) (w64 (s101_2 + 1))
    else
      some l1_2
def dine_Fire_o (N : Nat) (a0 : TDiner) : Option (TDiner × (List TMail) × Int) :=
  Option.bind (dine_Check N a0) fun y1 =>
  if y1 != 0 then
    some ((⟨0, 0, ([] : List TSide)⟩ : TDiner), [], y1)
  else
    Option.bind (slices_Clone_Side N a0.Sides) fun y2 =>
    Option.bind (α := (List TSide) × (List TMail) × Bool) (
      dine_Fire_o_L1 N a0 y2 N y2 ([] : List TMail) true 0
    ) fun z3 =>
    if (a0.Phase == 1) && z3.2.2 then
      Option.bind (α := (List TSide)) (
        dine_Fire_o_L2 N z3 N z3.1 0
      ) fun z12 =>
      some ((⟨a0.ID, 2, z12⟩ : TDiner), z3.2.1, 0)
    else
      some ({ a0 with Sides := z3.1 }, z3.2.1, 0)
-- slices.Index[[]int,int]
def slices_Index_int_L1 (N : Nat) (a0 : List Int) (a1 : Int) : Nat → Int → Option (Int ⊕ Unit)
  | 0, _ => none
  | n1 + 1, s8_1 =>
    if decide (s8_1 < (a0.length : Int)) then
      Option.bind (at? a0 s8_1) fun x4 =>
      if a1 == x4 then
        some (.inl s8_1)
      else
        slices_Index_int_L1 N a0 a1 n1 (w64 (s8_1 + 1))
    else
      some (.inr (()))
def slices_Index_int (N : Nat) (a0 : List Int) (a1 : Int) : Option (Int) :=
  Option.bind (α := Int ⊕ Unit) (
    slices_Index_int_L1 N a0 a1 N 0
  ) fun z1 =>
  match z1 with
  | .inl r2 =>
    some r2
  | .inr z3 =>
    some (-1)
-- slices.Contains[[]int,int]
def slices_Contains_int (N : Nat) (a0 : List Int) (a1 : Int) : Option (Bool) :=
  Option.bind (slices_Index_int N a0 a1) fun y1 =>
  some (decide (y1 ≥ 0))
-- narthex/set.Has
def set_Has (N : Nat) (a0 : List Int) (a1 : Int) : Option (Bool) :=
  Option.bind (slices_Contains_int N a0 a1) fun y1 =>
  some y1
-- slices.Equal[[]narthex/api.Side,narthex/api.Side]
def slices_Equal_Side_L1 (N : Nat) (a0 : List TSide) (a1 : List TSide) : Nat → Int → Option (Bool ⊕ Unit)
  | 0, _ => none
  | n1 + 1, s13_1 =>
    if decide (s13_1 < (a0.length : Int)) then
      Option.bind (at? a0 s13_1) fun x4 =>
      Option.bind (at? a1 s13_1) fun x5 =>
      if !decide (x4 = x5) then
        some (.inl false)
      else
        slices_Equal_Side_L1 N a0 a1 n1 (w64 (s13_1 + 1))
    else
      some (.inr (()))
def slices_Equal_Side (N : Nat) (a0 : List TSide) (a1 : List TSide) : Option (Bool) :=
  if (a0.length : Int) != (a1.length : Int) then
    some false
  else
    Option.bind (α := Bool ⊕ Unit) (
      slices_Equal_Side_L1 N a0 a1 N 0
    ) fun z1 =>
    match z1 with
    | .inl r2 =>
      some r2
    | .inr z3 =>
      some true
-- narthex/dine.Same
def dine_Same (N : Nat) (a0 : TDiner) (a1 : TDiner) : Option (Bool) :=
  Option.bind (if ((a0.ID == a1.ID) && (a0.Phase == a1.Phase)) = true then slices_Equal_Side N a0.Sides a1.Sides else some default) fun y1 =>
  some (((a0.ID == a1.ID) && (a0.Phase == a1.Phase)) && y1)
-- slices.Equal[[]int,int]
def slices_Equal_int_L1 (N : Nat) (a0 : List Int) (a1 : List Int) : Nat → Int → Option (Bool ⊕ Unit)
  | 0, _ => none
  | n1 + 1, s13_1 =>
    if decide (s13_1 < (a0.length : Int)) then
      Option.bind (at? a0 s13_1) fun x4 =>
      Option.bind (at? a1 s13_1) fun x5 =>
      if x4 != x5 then
        some (.inl false)
      else
        slices_Equal_int_L1 N a0 a1 n1 (w64 (s13_1 + 1))
    else
      some (.inr (()))
def slices_Equal_int (N : Nat) (a0 : List Int) (a1 : List Int) : Option (Bool) :=
  if (a0.length : Int) != (a1.length : Int) then
    some false
  else
    Option.bind (α := Bool ⊕ Unit) (
      slices_Equal_int_L1 N a0 a1 N 0
    ) fun z1 =>
    match z1 with
    | .inl r2 =>
      some r2
    | .inr z3 =>
      some true
-- narthex/drink.Same
def drink_Same (N : Nat) (a0 : TDrinker) (a1 : TDrinker) : Option (Bool) :=
  Option.bind (dine_Same N a0.Diner a1.Diner) fun y1 =>
  Option.bind (if (y1 && (a0.Thirst == a1.Thirst)) = true then slices_Equal_int N a0.Need a1.Need else some default) fun y2 =>
  some ((y1 && (a0.Thirst == a1.Thirst)) && y2)
-- (*narthex/drink.drinker).send
def drink_drinker_send_3 (N : Nat) (a1 : TSide) (a2 : Int) (c0_0 : Int) (c0_1 : Int) (c0_3 : Int) (c1_0 : Int) (c1_1 : Int) (c1_3 : Int) (c1_4 : List Int) (l2 : List TMail) (c3_0 : Int) (c3_1 : Int) (c3_2 : List TSide) (c3_3 : Int) (c3_4 : List Int) (l4 : List TSide) (c5_0 : Int) (c5_1 : Int) : Option ((List TMail)) :=
  Option.bind (app? l2 [(⟨c1_0, a1.Peer, (⟨a2, a1.Epoch, 0⟩ : TMsg)⟩ : TMail)]) fun x1 =>
  some x1
-- (*narthex/drink.drinker).bottles
def drink_drinker_bottles_3_L1 (N : Nat) (c0_0 : Int) (c0_1 : Int) (c0_3 : Int) (c1_0 : Int) (c1_1 : Int) (c1_3 : Int) (c1_4 : List Int) (c3_0 : Int) (c3_1 : Int) (c3_2 : List TSide) (c3_3 : Int) (c3_4 : List Int) (l4 : List TSide) (c5_0 : Int) (c5_1 : Int) : Nat → (List TMail) → (List TSide) → Bool → Int → Option ((List TMail) × (List TSide) × Bool)
  | 0, _, _, _, _ => none
  | n1 + 1, l2_1, l4_1, s2_1, s14_1 =>
    if decide (s14_1 < (l4.length : Int)) then
      Option.bind (at? l4_1 s14_1) fun x2 =>
      Option.bind (set_Has N c1_4 x2.Peer) fun y3 =>
      Option.bind (α := (List TMail) × (List TSide)) (
        if (x2.Bottle && x2.Ask) && (!(y3 && ((c1_3 == 2) || ((c1_3 == 1) && x2.Fork)))) then
          Option.bind (drink_drinker_send_3 N { x2 with Bottle := false } 3 c0_0 c0_1 c0_3 c1_0 c1_1 c1_3 c1_4 l2_1 c3_0 c3_1 c3_2 c3_3 c3_4 (l4_1.set s14_1.toNat { x2 with Bottle := false }) c5_0 c5_1) fun y5 =>
          some (y5, l4_1.set s14_1.toNat { x2 with Bottle := false })
        else
          some (l2_1, l4_1)
      ) fun z4 =>
      Option.bind (if ((c1_3 == 1) && y3) = true then z4.2[s14_1.toNat]? else some default) fun x6 =>
      Option.bind (if (((c1_3 == 1) && y3) && x6.Ask) = true then z4.2[s14_1.toNat]? else some default) fun x7 =>
      if (((c1_3 == 1) && y3) && x6.Ask) && (!x7.Bottle) then
        Option.bind (z4.2[s14_1.toNat]?) fun x8 =>
        Option.bind (drink_drinker_send_3 N { x8 with Ask := false } 4 c0_0 c0_1 c0_3 c1_0 c1_1 c1_3 c1_4 z4.1 c3_0 c3_1 c3_2 c3_3 c3_4 (z4.2.set s14_1.toNat { x8 with Ask := false }) c5_0 c5_1) fun y9 =>
        drink_drinker_bottles_3_L1 N c0_0 c0_1 c0_3 c1_0 c1_1 c1_3 c1_4 c3_0 c3_1 c3_2 c3_3 c3_4 l4 c5_0 c5_1 n1 y9 (z4.2.set s14_1.toNat { x8 with Ask := false }) (s2_1 && ((!y3) || x8.Bottle)) (w64 (s14_1 + 1))
      else
        Option.bind (if (s2_1 && (!(!y3))) = true then z4.2[s14_1.toNat]? else some default) fun x10 =>
        drink_drinker_bottles_3_L1 N c0_0 c0_1 c0_3 c1_0 c1_1 c1_3 c1_4 c3_0 c3_1 c3_2 c3_3 c3_4 l4 c5_0 c5_1 n1 z4.1 z4.2 (s2_1 && ((!y3) || x10.Bottle)) (w64 (s14_1 + 1))
    else
      some (l2_1, l4_1, s2_1)
def drink_drinker_bottles_3 (N : Nat) (c0_0 : Int) (c0_1 : Int) (c0_3 : Int) (c1_0 : Int) (c1_1 : Int) (c1_3 : Int) (c1_4 : List Int) (l2 : List TMail) (c3_0 : Int) (c3_1 : Int) (c3_2 : List TSide) (c3_3 : Int) (c3_4 : List Int) (l4 : List TSide) (c5_0 : Int) (c5_1 : Int) : Option (Int × (List TMail) × (List TSide)) :=
  Option.bind (α := (List TMail) × (List TSide) × Bool) (
    drink_drinker_bottles_3_L1 N c0_0 c0_1 c0_3 c1_0 c1_1 c1_3 c1_4 c3_0 c3_1 c3_2 c3_3 c3_4 l4 c5_0 c5_1 N l2 l4 true 0
  ) fun z1 =>
  if (c1_3 == 1) && z1.2.2 then
    some (2, z1.1, z1.2.1)
  else
    some (c1_3, z1.1, z1.2.1)
-- (*narthex/drink.drinker).once
def drink_drinker_once_2 (N : Nat) (c0_0 : Int) (c0_1 : Int) (c0_3 : Int) (c1_0 : Int) (c1_1 : Int) (c1_2 : List TSide) (c1_3 : Int) (c1_4 : List Int) (l2 : List TMail) (c3_0 : Int) (c3_1 : Int) (c3_2 : List TSide) (c3_3 : Int) (c3_4 : List Int) : Option (Int × Int × (List TSide) × Int × (List TMail)) :=
  Option.bind (α := Int) (
    if (c1_3 == 1) && (c1_1 == 0) then
      some 1
    else
      Option.bind (if ((c1_1 == 2) && (c1_3 != 1)) = true then slices_ContainsFunc_Side_4 N c1_2 else some default) fun y2 =>
      if ((c1_1 == 2) && (c1_3 != 1)) && (!y2) then
        some 0
      else
        some c1_1
  ) fun z1 =>
  Option.bind (dine_Fire_o N (⟨c1_0, z1, c1_2⟩ : TDiner)) fun y3 =>
  Option.bind (app? l2 y3.2.1) fun x4 =>
  Option.bind (drink_drinker_bottles_3 N c0_0 c0_1 c0_3 y3.1.ID y3.1.Phase c1_3 c1_4 x4 c3_0 c3_1 c3_2 c3_3 c3_4 y3.1.Sides y3.1.ID y3.1.Phase) fun y5 =>
  some (y3.1.ID, y3.1.Phase, y5.2.2, y5.1, y5.2.1)
-- narthex/drink.Fire
def drink_Fire_L1 (N : Nat) (y2 : TDrinker) : Nat → (List TMail) → Int → Int → (List TSide) → Int → Option (TDrinker × (List TMail) × Int)
  | 0, _, _, _, _, _ => none
  | n1 + 1, l2_1, c1_0_1, c1_1_1, c1_2_1, c1_3_1 =>
    Option.bind (drink_own N (⟨(⟨c1_0_1, c1_1_1, c1_2_1⟩ : TDiner), c1_3_1, y2.Need⟩ : TDrinker)) fun y4 =>
    Option.bind (drink_drinker_once_2 N 0 0 0 c1_0_1 c1_1_1 c1_2_1 c1_3_1 y2.Need l2_1 y4.Diner.ID y4.Diner.Phase y4.Diner.Sides y4.Thirst y4.Need) fun y5 =>
    Option.bind (drink_Same N y4 (⟨(⟨y5.1, y5.2.1, y5.2.2.1⟩ : TDiner), y5.2.2.2.1, y2.Need⟩ : TDrinker)) fun y7 =>
    if y7 then
      some ((⟨(⟨y5.1, y5.2.1, y5.2.2.1⟩ : TDiner), y5.2.2.2.1, y2.Need⟩ : TDrinker), y5.2.2.2.2, 0)
    else
      drink_Fire_L1 N y2 n1 y5.2.2.2.2 y5.1 y5.2.1 y5.2.2.1 y5.2.2.2.1
def drink_Fire (N : Nat) (a0 : TDrinker) : Option (TDrinker × (List TMail) × Int) :=
  Option.bind (drink_Check N a0) fun y1 =>
  if y1 != 0 then
    some ((⟨(⟨0, 0, []⟩ : TDiner), 0, []⟩ : TDrinker), [], y1)
  else
    Option.bind (drink_own N a0) fun y2 =>
    Option.bind (α := TDrinker × (List TMail) × Int) (
      drink_Fire_L1 N y2 N ([] : List TMail) y2.Diner.ID y2.Diner.Phase y2.Diner.Sides y2.Thirst
    ) fun z3 =>
    some z3
-- narthex/dine.Get$1
def dine_Get_1 (N : Nat) (a0 : TSide) (c0_0 : Int) (c0_1 : Int) (c0_2 : List TSide) (c1_0 : Int) (c2_0 : Int) (c2_1 : Int) (c2_2 : Int) (c3_0 : Int) (c3_1 : Int) : Option (Bool) :=
  some ((a0.Peer == c1_0) && (a0.Epoch == c2_1))
-- slices.IndexFunc[[]narthex/api.Side,narthex/api.Side]
def slices_IndexFunc_Side_6_L1 (N : Nat) (a0 : List TSide) (c0_0 : Int) (c0_1 : Int) (c0_2 : List TSide) (c1_0 : Int) (c2_0 : Int) (c2_1 : Int) (c2_2 : Int) (c3_0 : Int) (c3_1 : Int) : Nat → Int → Option (Int ⊕ Unit)
  | 0, _ => none
  | n1 + 1, s8_1 =>
    if decide (s8_1 < (a0.length : Int)) then
      Option.bind (at? a0 s8_1) fun x4 =>
      Option.bind (dine_Get_1 N x4 c0_0 c0_1 c0_2 c1_0 c2_0 c2_1 c2_2 c3_0 c3_1) fun y5 =>
      if y5 then
        some (.inl s8_1)
      else
        slices_IndexFunc_Side_6_L1 N a0 c0_0 c0_1 c0_2 c1_0 c2_0 c2_1 c2_2 c3_0 c3_1 n1 (w64 (s8_1 + 1))
    else
      some (.inr (()))
def slices_IndexFunc_Side_6 (N : Nat) (a0 : List TSide) (c0_0 : Int) (c0_1 : Int) (c0_2 : List TSide) (c1_0 : Int) (c2_0 : Int) (c2_1 : Int) (c2_2 : Int) (c3_0 : Int) (c3_1 : Int) : Option (Int) :=
  Option.bind (α := Int ⊕ Unit) (
    slices_IndexFunc_Side_6_L1 N a0 c0_0 c0_1 c0_2 c1_0 c2_0 c2_1 c2_2 c3_0 c3_1 N 0
  ) fun z1 =>
  match z1 with
  | .inl r2 =>
    some r2
  | .inr z3 =>
    some (-1)
-- narthex/dine.Get
def dine_Get (N : Nat) (a0 : TDiner) (a1 : Int) (a2 : TMsg) : Option (TDiner × Int) :=
  Option.bind (dine_Check N a0) fun y1 =>
  if y1 != 0 then
    some ((⟨0, 0, []⟩ : TDiner), y1)
  else
    Option.bind (slices_IndexFunc_Side_6 N a0.Sides a0.ID a0.Phase a0.Sides a1 a2.Kind a2.Epoch a2.Num 0 0) fun y2 =>
    if decide (y2 < 0) then
      some ((⟨0, 0, []⟩ : TDiner), 131)
    else
      Option.bind (slices_Clone_Side N a0.Sides) fun y3 =>
      Option.bind (at? y3 y2) fun x4 =>
      Option.bind (α := (TDiner × Int) ⊕ ((List TSide) × Bool)) (
        if (a2.Kind == 1) && (a2.Num == 0) then
          some (.inr ((y3.set y2.toNat { x4 with Fork := true }, x4.Fork)))
        else
          if (a2.Kind == 2) && (a2.Num == 0) then
            some (.inr ((y3.set y2.toNat { x4 with Token := true }, x4.Token)))
          else
            some (.inl (((⟨0, 0, []⟩ : TDiner), 133)))
      ) fun z5 =>
      match z5 with
      | .inl r6 =>
        some r6
      | .inr z7 =>
        if z7.2 then
          some ((⟨0, 0, []⟩ : TDiner), 132)
        else
          some ({ a0 with Sides := z7.1 }, 0)
-- narthex/drink.Get$1
def drink_Get_1_2 (N : Nat) (a0 : TSide) (c0_0 : Int) (c0_1 : Int) (c0_3 : Int) (c0_4 : List Int) (c1_0 : Int) (c2_0 : Int) (c2_1 : Int) (c2_2 : Int) (c3_0 : Int) (c3_1 : Int) (c3_3 : Int) (l4 : List TSide) : Option (Bool) :=
  some ((a0.Peer == c1_0) && (a0.Epoch == c2_1))
-- slices.IndexFunc[[]narthex/api.Side,narthex/api.Side]
def slices_IndexFunc_Side_7_L1 (N : Nat) (c0_0 : Int) (c0_1 : Int) (c0_3 : Int) (c0_4 : List Int) (c1_0 : Int) (c2_0 : Int) (c2_1 : Int) (c2_2 : Int) (c3_0 : Int) (c3_1 : Int) (c3_3 : Int) (l4 : List TSide) : Nat → Int → Option (Int ⊕ Unit)
  | 0, _ => none
  | n1 + 1, s8_1 =>
    if decide (s8_1 < (l4.length : Int)) then
      Option.bind (at? l4 s8_1) fun x4 =>
      Option.bind (drink_Get_1_2 N x4 c0_0 c0_1 c0_3 c0_4 c1_0 c2_0 c2_1 c2_2 c3_0 c3_1 c3_3 l4) fun y5 =>
      if y5 then
        some (.inl s8_1)
      else
        slices_IndexFunc_Side_7_L1 N c0_0 c0_1 c0_3 c0_4 c1_0 c2_0 c2_1 c2_2 c3_0 c3_1 c3_3 l4 n1 (w64 (s8_1 + 1))
    else
      some (.inr (()))
def slices_IndexFunc_Side_7 (N : Nat) (c0_0 : Int) (c0_1 : Int) (c0_3 : Int) (c0_4 : List Int) (c1_0 : Int) (c2_0 : Int) (c2_1 : Int) (c2_2 : Int) (c3_0 : Int) (c3_1 : Int) (c3_3 : Int) (l4 : List TSide) : Option (Int) :=
  Option.bind (α := Int ⊕ Unit) (
    slices_IndexFunc_Side_7_L1 N c0_0 c0_1 c0_3 c0_4 c1_0 c2_0 c2_1 c2_2 c3_0 c3_1 c3_3 l4 N 0
  ) fun z1 =>
  match z1 with
  | .inl r2 =>
    some r2
  | .inr z3 =>
    some (-1)
-- narthex/drink.Get
def drink_Get (N : Nat) (a0 : TDrinker) (a1 : Int) (a2 : TMsg) : Option (TDrinker × Int) :=
  Option.bind (drink_Check N a0) fun y1 =>
  if y1 != 0 then
    some ((⟨(⟨0, 0, []⟩ : TDiner), 0, []⟩ : TDrinker), y1)
  else
    Option.bind (drink_own N a0) fun y2 =>
    Option.bind (slices_IndexFunc_Side_7 N y2.Diner.ID y2.Diner.Phase y2.Thirst y2.Need a1 a2.Kind a2.Epoch a2.Num 0 0 0 y2.Diner.Sides) fun y3 =>
    if ((decide (y3 < 0)) || (a2.Num != 0)) || ((a2.Kind != 3) && (a2.Kind != 4)) then
      Option.bind (dine_Get N y2.Diner a1 a2) fun y4 =>
      if y4.2 != 0 then
        some ((⟨(⟨0, 0, []⟩ : TDiner), 0, []⟩ : TDrinker), y4.2)
      else
        some ({ y2 with Diner := y4.1 }, 0)
    else
      Option.bind (at? y2.Diner.Sides y3) fun x5 =>
      if a2.Kind == 4 then
        Option.bind (at? y2.Diner.Sides y3) fun x6 =>
        if x6.Ask then
          some ((⟨(⟨0, 0, []⟩ : TDiner), 0, []⟩ : TDrinker), 132)
        else
          some ({ y2 with Diner := { y2.Diner with Sides := y2.Diner.Sides.set y3.toNat { x6 with Ask := true } } }, 0)
      else
        if x5.Bottle then
          some ((⟨(⟨0, 0, []⟩ : TDiner), 0, []⟩ : TDrinker), 132)
        else
          some ({ y2 with Diner := { y2.Diner with Sides := y2.Diner.Sides.set y3.toNat { x5 with Bottle := true } } }, 0)
-- narthex/drink.Close
def drink_Close (N : Nat) (a0 : TDrinker) : Option (TDrinker × Int) :=
  Option.bind (drink_Check N a0) fun y1 =>
  if y1 != 0 then
    some ((⟨(⟨0, 0, []⟩ : TDiner), 0, []⟩ : TDrinker), y1)
  else
    if a0.Thirst == 0 then
      some ((⟨(⟨0, 0, []⟩ : TDiner), 0, []⟩ : TDrinker), 152)
    else
      Option.bind (drink_own N a0) fun y2 =>
      some ((⟨y2.Diner, 0, []⟩ : TDrinker), 0)
-- narthex/narthexlaw15.awake
def narthexlaw15_awake (N : Nat) : Option (Bool) :=
  Option.bind (drink_Open N (⟨(⟨1, 0, [(⟨0, 0, 0, true, true, false, true, false⟩ : TSide)]⟩ : TDiner), 0, []⟩ : TDrinker) [0]) fun y1 =>
  Option.bind (drink_Fire N y1.1) fun y2 =>
  Option.bind (drink_Get N y2.1 0 (⟨4, 0, 0⟩ : TMsg)) fun y3 =>
  Option.bind (drink_Fire N y3.1) fun y4 =>
  Option.bind (drink_Close N y4.1) fun y5 =>
  Option.bind (drink_Fire N y5.1) fun y6 =>
  Option.bind (if ((((((((((y1.2 == 0) && (y2.2.2 == 0)) && (y4.1.Thirst == 2)) && ((y2.2.1.length : Int) == 0)) && (y3.2 == 0)) && (y4.2.2 == 0)) && ((y4.2.1.length : Int) == 0)) && (y5.2 == 0)) && (y6.2.2 == 0)) && ((y6.2.1.length : Int) == 1)) = true then at? y6.2.1 0 else some default) fun x7 =>
  Option.bind (if ((((((((((((y1.2 == 0) && (y2.2.2 == 0)) && (y4.1.Thirst == 2)) && ((y2.2.1.length : Int) == 0)) && (y3.2 == 0)) && (y4.2.2 == 0)) && ((y4.2.1.length : Int) == 0)) && (y5.2 == 0)) && (y6.2.2 == 0)) && ((y6.2.1.length : Int) == 1)) && (x7.Msg.Kind == 3)) && (y6.1.Thirst == 0)) = true then drink_Check N y6.1 else some default) fun y8 =>
  Option.bind (if (((((((((((((y1.2 == 0) && (y2.2.2 == 0)) && (y4.1.Thirst == 2)) && ((y2.2.1.length : Int) == 0)) && (y3.2 == 0)) && (y4.2.2 == 0)) && ((y4.2.1.length : Int) == 0)) && (y5.2 == 0)) && (y6.2.2 == 0)) && ((y6.2.1.length : Int) == 1)) && (x7.Msg.Kind == 3)) && (y6.1.Thirst == 0)) && (y8 == 0)) = true then drink_Same N y6.1 y6.1 else some default) fun y9 =>
  Option.bind (if ((((((((((((((y1.2 == 0) && (y2.2.2 == 0)) && (y4.1.Thirst == 2)) && ((y2.2.1.length : Int) == 0)) && (y3.2 == 0)) && (y4.2.2 == 0)) && ((y4.2.1.length : Int) == 0)) && (y5.2 == 0)) && (y6.2.2 == 0)) && ((y6.2.1.length : Int) == 1)) && (x7.Msg.Kind == 3)) && (y6.1.Thirst == 0)) && (y8 == 0)) && y9) = true then drink_Same N y6.1 y4.1 else some default) fun y10 =>
  some (((((((((((((((y1.2 == 0) && (y2.2.2 == 0)) && (y4.1.Thirst == 2)) && ((y2.2.1.length : Int) == 0)) && (y3.2 == 0)) && (y4.2.2 == 0)) && ((y4.2.1.length : Int) == 0)) && (y5.2 == 0)) && (y6.2.2 == 0)) && ((y6.2.1.length : Int) == 1)) && (x7.Msg.Kind == 3)) && (y6.1.Thirst == 0)) && (y8 == 0)) && y9) && (!y10))
-- narthex/narthexlaw15.few
def narthexlaw15_few (N : Nat) (a0 : TDrinker) : Option (Bool) :=
  some ((decide ((a0.Diner.Sides.length : Int) ≤ 70)) && (decide ((a0.Need.length : Int) ≤ 70)))
-- narthex/narthexlaw13.Own
def narthexlaw13_Own (N : Nat) (a0 : TDiner) : Option (TDiner) :=
  Option.bind (app? ([] : List TSide) a0.Sides) fun x1 =>
  some { a0 with Sides := x1 }
-- narthex/narthexlaw15.Own
def narthexlaw15_Own (N : Nat) (a0 : TDrinker) : Option (TDrinker) :=
  Option.bind (narthexlaw13_Own N a0.Diner) fun y1 =>
  Option.bind (app? ([] : List Int) a0.Need) fun x2 =>
  some (⟨y1, a0.Thirst, x2⟩ : TDrinker)
-- narthex/narthexref12.SameOne
def narthexref12_SameOne_L1 (N : Nat) (a0 : TDiner) (a1 : TDiner) : Nat → Int → Option (Bool ⊕ Unit)
  | 0, _ => none
  | n1 + 1, s5_1 =>
    if decide (s5_1 < (a0.Sides.length : Int)) then
      Option.bind (at? a0.Sides s5_1) fun x4 =>
      Option.bind (at? a1.Sides s5_1) fun x5 =>
      if !decide (x4 = x5) then
        some (.inl false)
      else
        narthexref12_SameOne_L1 N a0 a1 n1 (w64 (s5_1 + 1))
    else
      some (.inr (()))
def narthexref12_SameOne (N : Nat) (a0 : TDiner) (a1 : TDiner) : Option (Bool) :=
  if ((a0.ID != a1.ID) || (a0.Phase != a1.Phase)) || ((a0.Sides.length : Int) != (a1.Sides.length : Int)) then
    some false
  else
    Option.bind (α := Bool ⊕ Unit) (
      narthexref12_SameOne_L1 N a0 a1 N 0
    ) fun z1 =>
    match z1 with
    | .inl r2 =>
      some r2
    | .inr z3 =>
      some true
-- narthex/narthexref01.Same
def narthexref01_Same_L1 (N : Nat) (a0 : List Int) (a1 : List Int) : Nat → Int → Option (Bool ⊕ Unit)
  | 0, _ => none
  | n1 + 1, s5_1 =>
    if decide (s5_1 < (a0.length : Int)) then
      Option.bind (at? a0 s5_1) fun x4 =>
      Option.bind (at? a1 s5_1) fun x5 =>
      if x4 != x5 then
        some (.inl false)
      else
        narthexref01_Same_L1 N a0 a1 n1 (w64 (s5_1 + 1))
    else
      some (.inr (()))
def narthexref01_Same (N : Nat) (a0 : List Int) (a1 : List Int) : Option (Bool) :=
  if (a0.length : Int) != (a1.length : Int) then
    some false
  else
    Option.bind (α := Bool ⊕ Unit) (
      narthexref01_Same_L1 N a0 a1 N 0
    ) fun z1 =>
    match z1 with
    | .inl r2 =>
      some r2
    | .inr z3 =>
      some true
-- narthex/narthexref15.Same
def narthexref15_Same (N : Nat) (a0 : TDrinker) (a1 : TDrinker) : Option (Bool) :=
  Option.bind (narthexref12_SameOne N a0.Diner a1.Diner) fun y1 =>
  Option.bind (if (y1 && (a0.Thirst == a1.Thirst)) = true then narthexref01_Same N a0.Need a1.Need else some default) fun y2 =>
  some ((y1 && (a0.Thirst == a1.Thirst)) && y2)
-- narthex/narthexref13.Check
def narthexref13_Check_L1 (N : Nat) (a0 : TDiner) : Nat → Int → Option (Bool ⊕ Unit)
  | 0, _ => none
  | n1 + 1, s3_1 =>
    if decide (s3_1 < (a0.Sides.length : Int)) then
      Option.bind (at? a0.Sides s3_1) fun x4 =>
      Option.bind (if ((!((decide (x4.Peer < 0)) || (x4.Peer == a0.ID))) && (decide (s3_1 > 0))) = true then at? a0.Sides (w64 (s3_1 - 1)) else some default) fun x5 =>
      if (((((((decide (x4.Peer < 0)) || (x4.Peer == a0.ID)) || ((decide (s3_1 > 0)) && (decide (x5.Peer ≥ x4.Peer)))) || (decide (x4.Epoch < 0))) || (decide (x4.Epoch > 65535))) || (decide (x4.State < 0))) || (decide (x4.State > 3))) || (x4.Dirty && (!x4.Fork)) then
        some (.inl false)
      else
        narthexref13_Check_L1 N a0 n1 (w64 (s3_1 + 1))
    else
      some (.inr (()))
def narthexref13_Check (N : Nat) (a0 : TDiner) : Option (Bool) :=
  if ((decide (a0.ID < 0)) || (((a0.Phase != 0) && (a0.Phase != 1)) && (a0.Phase != 2))) || (decide ((a0.Sides.length : Int) > 63)) then
    some false
  else
    Option.bind (α := Bool ⊕ Unit) (
      narthexref13_Check_L1 N a0 N 0
    ) fun z1 =>
    match z1 with
    | .inl r2 =>
      some r2
    | .inr z3 =>
      some true
-- narthex/narthexref15.side
def narthexref15_side_L1 (N : Nat) (a0 : TDrinker) (a1 : Int) : Nat → Int → Option (Int ⊕ Unit)
  | 0, _ => none
  | n1 + 1, s5_1 =>
    if decide (s5_1 < (a0.Diner.Sides.length : Int)) then
      Option.bind (at? a0.Diner.Sides s5_1) fun x4 =>
      if x4.Peer == a1 then
        some (.inl s5_1)
      else
        narthexref15_side_L1 N a0 a1 n1 (w64 (s5_1 + 1))
    else
      some (.inr (()))
def narthexref15_side (N : Nat) (a0 : TDrinker) (a1 : Int) : Option (Int) :=
  Option.bind (α := Int ⊕ Unit) (
    narthexref15_side_L1 N a0 a1 N 0
  ) fun z1 =>
  match z1 with
  | .inl r2 =>
    some r2
  | .inr z3 =>
    some (-1)
-- narthex/narthexref15.Check
def narthexref15_Check_L1 (N : Nat) (a0 : TDrinker) : Nat → Int → Option (Bool ⊕ Unit)
  | 0, _ => none
  | n1 + 1, s3_1 =>
    if decide (s3_1 < (a0.Need.length : Int)) then
      Option.bind (at? a0.Need s3_1) fun x5 =>
      Option.bind (narthexref15_side N a0 x5) fun y6 =>
      Option.bind (if ((!(decide (y6 < 0))) && (decide (s3_1 > 0))) = true then at? a0.Need (w64 (s3_1 - 1)) else some default) fun x7 =>
      Option.bind (if ((!(decide (y6 < 0))) && (decide (s3_1 > 0))) = true then at? a0.Need s3_1 else some default) fun x8 =>
      if (decide (y6 < 0)) || ((decide (s3_1 > 0)) && (decide (x7 ≥ x8))) then
        some (.inl false)
      else
        narthexref15_Check_L1 N a0 n1 (w64 (s3_1 + 1))
    else
      some (.inr (()))
def narthexref15_Check (N : Nat) (a0 : TDrinker) : Option (Bool) :=
  Option.bind (narthexref13_Check N a0.Diner) fun y1 =>
  if (((!y1) || (decide (a0.Thirst < 0))) || (decide (a0.Thirst > 2))) || ((a0.Thirst == 0) && (decide ((a0.Need.length : Int) > 0))) then
    some false
  else
    Option.bind (α := Bool ⊕ Unit) (
      narthexref15_Check_L1 N a0 N 0
    ) fun z2 =>
    match z2 with
    | .inl r3 =>
      some r3
    | .inr z4 =>
      some true
-- narthex/narthexref13.Set
def narthexref13_Set (N : Nat) (a0 : TDiner) (a1 : Int) (a2 : TSide) : Option (TDiner) :=
  Option.bind (app? ([] : List TSide) a0.Sides) fun x1 =>
  Option.bind (at? x1 a1) fun x2 =>
  some { a0 with Sides := x1.set a1.toNat a2 }
-- narthex/narthexref13.mail
def narthexref13_mail (N : Nat) (a0 : TDiner) (a1 : TSide) (a2 : Int) : Option (TMail) :=
  some (⟨a0.ID, a1.Peer, (⟨a2, a1.Epoch, 0⟩ : TMsg)⟩ : TMail)
-- narthex/narthexref13.one
def narthexref13_one_L1 (N : Nat) (a0 : TDiner) : Nat → Int → Option ((TDiner × (List TMail) × Bool) ⊕ Unit)
  | 0, _ => none
  | n1 + 1, s5_1 =>
    if decide (s5_1 < (a0.Sides.length : Int)) then
      Option.bind (at? a0.Sides s5_1) fun x4 =>
      if ((x4.Fork && x4.Dirty) && x4.Token) && (a0.Phase != 2) then
        Option.bind (narthexref13_Set N a0 s5_1 { x4 with Fork := false, Dirty := false }) fun y5 =>
        Option.bind (narthexref13_mail N a0 x4 1) fun y6 =>
        some (.inl ((y5, [y6], true)))
      else
        if ((!x4.Fork) && x4.Token) && (a0.Phase == 1) then
          Option.bind (narthexref13_Set N a0 s5_1 { x4 with Token := false }) fun y7 =>
          Option.bind (narthexref13_mail N a0 x4 2) fun y8 =>
          some (.inl ((y7, [y8], true)))
        else
          narthexref13_one_L1 N a0 n1 (w64 (s5_1 + 1))
    else
      some (.inr (()))
def narthexref13_one_L2 (N : Nat) (a0 : TDiner) : Nat → Int → Option ((TDiner × (List TMail) × Bool) ⊕ Unit)
  | 0, _ => none
  | n2 + 1, s9_2 =>
    if decide (s9_2 < (a0.Sides.length : Int)) then
      Option.bind (at? a0.Sides s9_2) fun x12 =>
      if !x12.Fork then
        some (.inl ((a0, [], false)))
      else
        narthexref13_one_L2 N a0 n2 (w64 (s9_2 + 1))
    else
      some (.inr (()))
def narthexref13_one_L3 (N : Nat) : Nat → Int → Int → (List TSide) → Int → Option (Int × Int × (List TSide))
  | 0, _, _, _, _ => none
  | n3 + 1, c0_0_3, c0_1_3, c0_2_3, s10_3 =>
    if decide (s10_3 < (c0_2_3.length : Int)) then
      Option.bind (at? c0_2_3 s10_3) fun x14 =>
      Option.bind (narthexref13_Set N (⟨c0_0_3, c0_1_3, c0_2_3⟩ : TDiner) s10_3 { x14 with Dirty := true }) fun y15 =>
      narthexref13_one_L3 N n3 y15.ID y15.Phase y15.Sides (w64 (s10_3 + 1))
    else
      some (c0_0_3, c0_1_3, c0_2_3)
def narthexref13_one (N : Nat) (a0 : TDiner) : Option (TDiner × (List TMail) × Bool) :=
  Option.bind (α := (TDiner × (List TMail) × Bool) ⊕ Unit) (
    narthexref13_one_L1 N a0 N 0
  ) fun z1 =>
  match z1 with
  | .inl r2 =>
    some r2
  | .inr z3 =>
    if a0.Phase != 1 then
      some (a0, [], false)
    else
      Option.bind (α := (TDiner × (List TMail) × Bool) ⊕ Unit) (
        narthexref13_one_L2 N a0 N 0
      ) fun z9 =>
      match z9 with
      | .inl r10 =>
        some r10
      | .inr z11 =>
        Option.bind (α := Int × Int × (List TSide)) (
          narthexref13_one_L3 N N a0.ID 2 a0.Sides 0
        ) fun z13 =>
        some ((⟨z13.1, z13.2.1, z13.2.2⟩ : TDiner), [], true)
-- narthex/narthexref13.Fire
def narthexref13_Fire_L1 (N : Nat) : Nat → (List TMail) → Int → Int → (List TSide) → Int → Int → (List TSide) → (List TMail) → Bool → Option ((List TMail) × Int × Int × (List TSide))
  | 0, _, _, _, _, _, _, _, _, _ => none
  | n1 + 1, l2_1, c0_0_1, c0_1_1, c0_2_1, c3_0_1, c3_1_1, c3_2_1, s6_1, s7_1 =>
    if s7_1 then
      Option.bind (app? l2_1 s6_1) fun x3 =>
      Option.bind (narthexref13_one N (⟨c3_0_1, c3_1_1, c3_2_1⟩ : TDiner)) fun y4 =>
      narthexref13_Fire_L1 N n1 x3 c3_0_1 c3_1_1 c3_2_1 y4.1.ID y4.1.Phase y4.1.Sides y4.2.1 y4.2.2
    else
      some (l2_1, c0_0_1, c0_1_1, c0_2_1)
def narthexref13_Fire (N : Nat) (a0 : TDiner) : Option (TDiner × (List TMail)) :=
  Option.bind (narthexref13_one N a0) fun y1 =>
  Option.bind (α := (List TMail) × Int × Int × (List TSide)) (
    narthexref13_Fire_L1 N N ([] : List TMail) a0.ID a0.Phase a0.Sides y1.1.ID y1.1.Phase y1.1.Sides y1.2.1 y1.2.2
  ) fun z2 =>
  some ((⟨z2.2.1, z2.2.2.1, z2.2.2.2⟩ : TDiner), z2.1)
-- narthex/narthexref01.Has
def narthexref01_Has_L1 (N : Nat) (a0 : List Int) (a1 : Int) : Nat → Int → Option (Bool ⊕ Unit)
  | 0, _ => none
  | n1 + 1, s5_1 =>
    if decide (s5_1 < (a0.length : Int)) then
      Option.bind (at? a0 s5_1) fun x4 =>
      if x4 == a1 then
        some (.inl true)
      else
        narthexref01_Has_L1 N a0 a1 n1 (w64 (s5_1 + 1))
    else
      some (.inr (()))
def narthexref01_Has (N : Nat) (a0 : List Int) (a1 : Int) : Option (Bool) :=
  Option.bind (α := Bool ⊕ Unit) (
    narthexref01_Has_L1 N a0 a1 N 0
  ) fun z1 =>
  match z1 with
  | .inl r2 =>
    some r2
  | .inr z3 =>
    some false
-- narthex/narthexref15.bottle
def narthexref15_bottle (N : Nat) (a0 : TDrinker) (a1 : TSide) : Option (TSide × (List TMail)) :=
  Option.bind (narthexref01_Has N a0.Need a1.Peer) fun y1 =>
  Option.bind (α := (List TMail) × Bool) (
    if (a1.Bottle && a1.Ask) && (!(y1 && ((a0.Thirst == 2) || ((a0.Thirst == 1) && a1.Fork)))) then
      Option.bind (app? ([] : List TMail) [(⟨a0.Diner.ID, a1.Peer, (⟨3, a1.Epoch, 0⟩ : TMsg)⟩ : TMail)]) fun x3 =>
      some (x3, false)
    else
      some (([] : List TMail), a1.Bottle)
  ) fun z2 =>
  if ((y1 && (a0.Thirst == 1)) && a1.Ask) && (!z2.2) then
    Option.bind (app? z2.1 [(⟨a0.Diner.ID, a1.Peer, (⟨4, a1.Epoch, 0⟩ : TMsg)⟩ : TMail)]) fun x4 =>
    some ({ a1 with Bottle := z2.2, Ask := false }, x4)
  else
    some ({ a1 with Bottle := z2.2 }, z2.1)
-- narthex/narthexref15.Once
def narthexref15_Once_L1 (N : Nat) (a0 : TDrinker) : Nat → Bool → Int → Option (Bool)
  | 0, _, _ => none
  | n1 + 1, s4_1, s5_1 =>
    if decide (s5_1 < (a0.Diner.Sides.length : Int)) then
      Option.bind (if (!s4_1) = true then at? a0.Diner.Sides s5_1 else some default) fun x2 =>
      narthexref15_Once_L1 N a0 n1 (s4_1 || (x2.State == 1)) (w64 (s5_1 + 1))
    else
      some s4_1
def narthexref15_Once_L2 (N : Nat) (a0 : TDrinker) : Nat → (List TMail) → Int → Int → (List TSide) → Bool → Int → Option ((List TMail) × Int × Int × (List TSide) × Bool)
  | 0, _, _, _, _, _, _ => none
  | n2 + 1, l2_2, c0_0_2, c0_1_2, c0_2_2, s8_2, s9_2 =>
    if decide (s9_2 < (c0_2_2.length : Int)) then
      Option.bind (at? c0_2_2 s9_2) fun x6 =>
      Option.bind (narthexref15_bottle N { a0 with Diner := (⟨c0_0_2, c0_1_2, c0_2_2⟩ : TDiner) } x6) fun y7 =>
      Option.bind (narthexref13_Set N (⟨c0_0_2, c0_1_2, c0_2_2⟩ : TDiner) s9_2 y7.1) fun y8 =>
      Option.bind (app? l2_2 y7.2) fun x9 =>
      Option.bind (if (!s8_2) = true then narthexref01_Has N a0.Need y7.1.Peer else some default) fun y10 =>
      narthexref15_Once_L2 N a0 n2 x9 y8.ID y8.Phase y8.Sides (s8_2 || (y10 && (!y7.1.Bottle))) (w64 (s9_2 + 1))
    else
      some (l2_2, c0_0_2, c0_1_2, c0_2_2, s8_2)
def narthexref15_Once (N : Nat) (a0 : TDrinker) : Option (TDrinker × (List TMail)) :=
  Option.bind (α := Bool) (
    narthexref15_Once_L1 N a0 N false 0
  ) fun z1 =>
  Option.bind (α := Int) (
    if (a0.Thirst == 1) && (a0.Diner.Phase == 0) then
      some 1
    else
      if ((a0.Thirst != 1) && (a0.Diner.Phase == 2)) && (!z1) then
        some 0
      else
        some a0.Diner.Phase
  ) fun z3 =>
  Option.bind (narthexref13_Fire N { a0.Diner with Phase := z3 }) fun y4 =>
  Option.bind (α := (List TMail) × Int × Int × (List TSide) × Bool) (
    narthexref15_Once_L2 N a0 N y4.2 y4.1.ID y4.1.Phase y4.1.Sides false 0
  ) fun z5 =>
  if (a0.Thirst == 1) && (!z5.2.2.2.2) then
    some ((⟨(⟨z5.2.1, z5.2.2.1, z5.2.2.2.1⟩ : TDiner), 2, a0.Need⟩ : TDrinker), z5.1)
  else
    some ({ a0 with Diner := (⟨z5.2.1, z5.2.2.1, z5.2.2.2.1⟩ : TDiner) }, z5.1)
-- narthex/narthexref15.Fire
def narthexref15_Fire_L1 (N : Nat) : Nat → (List TMail) → Int → Int → (List TSide) → Int → (List Int) → Option (TDrinker × (List TMail))
  | 0, _, _, _, _, _, _ => none
  | n1 + 1, l2_1, c0_0_1, c0_1_1, c0_2_1, c0_3_1, c0_4_1 =>
    Option.bind (narthexref15_Once N (⟨(⟨c0_0_1, c0_1_1, c0_2_1⟩ : TDiner), c0_3_1, c0_4_1⟩ : TDrinker)) fun y2 =>
    Option.bind (app? l2_1 y2.2) fun x3 =>
    Option.bind (narthexref15_Same N y2.1 (⟨(⟨c0_0_1, c0_1_1, c0_2_1⟩ : TDiner), c0_3_1, c0_4_1⟩ : TDrinker)) fun y4 =>
    if y4 then
      some ((⟨(⟨c0_0_1, c0_1_1, c0_2_1⟩ : TDiner), c0_3_1, c0_4_1⟩ : TDrinker), x3)
    else
      narthexref15_Fire_L1 N n1 x3 y2.1.Diner.ID y2.1.Diner.Phase y2.1.Diner.Sides y2.1.Thirst y2.1.Need
def narthexref15_Fire (N : Nat) (a0 : TDrinker) : Option (TDrinker × (List TMail)) :=
  Option.bind (α := TDrinker × (List TMail)) (
    narthexref15_Fire_L1 N N ([] : List TMail) a0.Diner.ID a0.Diner.Phase a0.Diner.Sides a0.Thirst a0.Need
  ) fun z1 =>
  some z1
-- narthex/narthexref13.SameMail
def narthexref13_SameMail_L1 (N : Nat) (a0 : List TMail) (a1 : List TMail) : Nat → Int → Option (Bool ⊕ Unit)
  | 0, _ => none
  | n1 + 1, s5_1 =>
    if decide (s5_1 < (a0.length : Int)) then
      Option.bind (at? a0 s5_1) fun x4 =>
      Option.bind (at? a1 s5_1) fun x5 =>
      if !decide (x4 = x5) then
        some (.inl false)
      else
        narthexref13_SameMail_L1 N a0 a1 n1 (w64 (s5_1 + 1))
    else
      some (.inr (()))
def narthexref13_SameMail (N : Nat) (a0 : List TMail) (a1 : List TMail) : Option (Bool) :=
  if (a0.length : Int) != (a1.length : Int) then
    some false
  else
    Option.bind (α := Bool ⊕ Unit) (
      narthexref13_SameMail_L1 N a0 a1 N 0
    ) fun z1 =>
    match z1 with
    | .inl r2 =>
      some r2
    | .inr z3 =>
      some true
-- narthex/narthexlaw15.DrinkFires
def narthexlaw15_DrinkFires (N : Nat) (a0 : TDrinker) (a1 : TDrinker) : Option (Bool) :=
  Option.bind (narthexlaw15_awake N) fun y1 =>
  Option.bind (if (!(!y1)) = true then narthexlaw15_few N a0 else some default) fun y2 =>
  Option.bind (if (!((!y1) || (!y2))) = true then narthexlaw15_few N a1 else some default) fun y3 =>
  if ((!y1) || (!y2)) || (!y3) then
    Option.bind (narthexlaw15_awake N) fun y4 =>
    some y4
  else
    Option.bind (narthexlaw15_Own N a0) fun y5 =>
    Option.bind (drink_Fire N y5) fun y6 =>
    Option.bind (narthexlaw15_Own N a0) fun y7 =>
    Option.bind (narthexlaw15_Own N a1) fun y8 =>
    Option.bind (drink_Same N y7 y8) fun y9 =>
    Option.bind (narthexref15_Same N a0 a1) fun y10 =>
    if !(y9 == y10) then
      some false
    else
      Option.bind (narthexref15_Check N a0) fun y11 =>
      if !y11 then
        Option.bind (narthexref15_Same N y6.1 (⟨(⟨0, 0, []⟩ : TDiner), 0, []⟩ : TDrinker)) fun y12 =>
        Option.bind (if ((y12 && ((y6.2.1.length : Int) == 0)) && (y6.2.2 == 150)) = true then narthexlaw15_Own N a0 else some default) fun y13 =>
        Option.bind (if ((y12 && ((y6.2.1.length : Int) == 0)) && (y6.2.2 == 150)) = true then drink_Check N y13 else some default) fun y14 =>
        some (((y12 && ((y6.2.1.length : Int) == 0)) && (y6.2.2 == 150)) && (y14 == 150))
      else
        Option.bind (narthexref15_Fire N a0) fun y15 =>
        Option.bind (narthexref15_Same N y6.1 y15.1) fun y16 =>
        Option.bind (if y16 = true then narthexref13_SameMail N y6.2.1 y15.2 else some default) fun y17 =>
        Option.bind (if ((y16 && y17) && (y6.2.2 == 0)) = true then narthexlaw15_Own N a0 else some default) fun y18 =>
        Option.bind (if ((y16 && y17) && (y6.2.2 == 0)) = true then drink_Check N y18 else some default) fun y19 =>
        some (((y16 && y17) && (y6.2.2 == 0)) && (y19 == 0))
-- narthex/narthexref13.Get
def narthexref13_Get_L1 (N : Nat) (a0 : TDiner) (a1 : Int) (a2 : TMsg) : Nat → Int → Option ((TDiner × Int) ⊕ Unit)
  | 0, _ => none
  | n1 + 1, s8_1 =>
    if decide (s8_1 < (a0.Sides.length : Int)) then
      Option.bind (at? a0.Sides s8_1) fun x5 =>
      if (x5.Peer != a1) || (x5.Epoch != a2.Epoch) then
        narthexref13_Get_L1 N a0 a1 a2 n1 (w64 (s8_1 + 1))
      else
        if (a2.Num != 0) || ((a2.Kind != 1) && (a2.Kind != 2)) then
          some (.inl (((⟨0, 0, []⟩ : TDiner), 133)))
        else
          if ((a2.Kind == 1) && x5.Fork) || ((a2.Kind == 2) && x5.Token) then
            some (.inl (((⟨0, 0, []⟩ : TDiner), 132)))
          else
            Option.bind (α := Bool × Bool) (
              if a2.Kind == 1 then
                some (true, x5.Token)
              else
                some (x5.Fork, true)
            ) fun z6 =>
            Option.bind (narthexref13_Set N a0 s8_1 { x5 with Fork := z6.1, Token := z6.2 }) fun y7 =>
            some (.inl ((y7, 0)))
    else
      some (.inr (()))
def narthexref13_Get (N : Nat) (a0 : TDiner) (a1 : Int) (a2 : TMsg) : Option (TDiner × Int) :=
  Option.bind (narthexref13_Check N a0) fun y1 =>
  if !y1 then
    some ((⟨0, 0, []⟩ : TDiner), 130)
  else
    Option.bind (α := (TDiner × Int) ⊕ Unit) (
      narthexref13_Get_L1 N a0 a1 a2 N 0
    ) fun z2 =>
    match z2 with
    | .inl r3 =>
      some r3
    | .inr z4 =>
      some ((⟨0, 0, []⟩ : TDiner), 131)
-- narthex/narthexref15.Get
def narthexref15_Get (N : Nat) (a0 : TDrinker) (a1 : Int) (a2 : TMsg) : Option (TDrinker × Int) :=
  Option.bind (narthexref15_Check N a0) fun y1 =>
  if !y1 then
    some ((⟨(⟨0, 0, []⟩ : TDiner), 0, []⟩ : TDrinker), 150)
  else
    Option.bind (narthexref15_side N a0 a1) fun y2 =>
    Option.bind (if (!(decide (y2 < 0))) = true then at? a0.Diner.Sides y2 else some default) fun x3 =>
    if (decide (y2 < 0)) || (x3.Epoch != a2.Epoch) then
      some ((⟨(⟨0, 0, []⟩ : TDiner), 0, []⟩ : TDrinker), 131)
    else
      Option.bind (at? a0.Diner.Sides y2) fun x4 =>
      if (a2.Num == 0) && (a2.Kind == 3) then
        if x4.Bottle then
          some ((⟨(⟨0, 0, []⟩ : TDiner), 0, []⟩ : TDrinker), 132)
        else
          Option.bind (narthexref13_Set N a0.Diner y2 { x4 with Bottle := true }) fun y5 =>
          some ({ a0 with Diner := y5 }, 0)
      else
        if (a2.Num == 0) && (a2.Kind == 4) then
          if x4.Ask then
            some ((⟨(⟨0, 0, []⟩ : TDiner), 0, []⟩ : TDrinker), 132)
          else
            Option.bind (narthexref13_Set N a0.Diner y2 { x4 with Ask := true }) fun y6 =>
            some ({ a0 with Diner := y6 }, 0)
        else
          Option.bind (narthexref13_Get N a0.Diner a1 a2) fun y7 =>
          if y7.2 != 0 then
            some ((⟨(⟨0, 0, []⟩ : TDiner), 0, []⟩ : TDrinker), y7.2)
          else
            some ({ a0 with Diner := y7.1 }, 0)
-- narthex/narthexlaw15.DrinkGets
def narthexlaw15_DrinkGets (N : Nat) (a0 : TDrinker) (a1 : Int) (a2 : TMsg) : Option (Bool) :=
  Option.bind (narthexlaw15_awake N) fun y1 =>
  Option.bind (if (!(!y1)) = true then narthexlaw15_few N a0 else some default) fun y2 =>
  if (!y1) || (!y2) then
    Option.bind (narthexlaw15_awake N) fun y3 =>
    some y3
  else
    Option.bind (narthexlaw15_Own N a0) fun y4 =>
    Option.bind (drink_Get N y4 a1 a2) fun y5 =>
    Option.bind (narthexref15_Get N a0 a1 a2) fun y6 =>
    Option.bind (narthexref15_Same N y5.1 y6.1) fun y7 =>
    some (y7 && (y5.2 == y6.2))
-- narthex/narthexref01.Place
def narthexref01_Place_L1 (N : Nat) (a0 : List Int) (a1 : Int) : Nat → Int → Int → Option (Int)
  | 0, _, _ => none
  | n1 + 1, s5_1, s6_1 =>
    if decide (s6_1 < (a0.length : Int)) then
      Option.bind (at? a0 s6_1) fun x2 =>
      Option.bind (if (decide (x2 < a1)) = true then sub? a0 0 s6_1 else some default) fun x3 =>
      Option.bind (if (decide (x2 < a1)) = true then at? a0 s6_1 else some default) fun x4 =>
      Option.bind (if (decide (x2 < a1)) = true then narthexref01_Has N x3 x4 else some default) fun y5 =>
      if (decide (x2 < a1)) && (!y5) then
        narthexref01_Place_L1 N a0 a1 n1 (w64 (s5_1 + 1)) (w64 (s6_1 + 1))
      else
        narthexref01_Place_L1 N a0 a1 n1 s5_1 (w64 (s6_1 + 1))
    else
      some s5_1
def narthexref01_Place (N : Nat) (a0 : List Int) (a1 : Int) : Option (Int) :=
  Option.bind (α := Int) (
    narthexref01_Place_L1 N a0 a1 N 0 0
  ) fun z1 =>
  some z1
-- narthex/narthexref01.Of
def narthexref01_Of_L1 (N : Nat) (a0 : List Int) : Nat → (List Int) → Int → Option ((List Int))
  | 0, _, _ => none
  | n1 + 1, l0_1, s4_1 =>
    if decide (s4_1 < (a0.length : Int)) then
      Option.bind (at? a0 s4_1) fun x2 =>
      Option.bind (narthexref01_Has N l0_1 x2) fun y3 =>
      if y3 then
        narthexref01_Of_L1 N a0 n1 l0_1 (w64 (s4_1 + 1))
      else
        Option.bind (at? a0 s4_1) fun x4 =>
        Option.bind (narthexref01_Place N l0_1 x4) fun y5 =>
        Option.bind (sub? l0_1 0 y5) fun x6 =>
        Option.bind (app? ([] : List Int) ((l0_1.drop 0).take x6.length)) fun x7 =>
        Option.bind (at? a0 s4_1) fun x8 =>
        Option.bind (app? x7 [x8]) fun x9 =>
        Option.bind (sub? l0_1 y5 (l0_1.length : Int)) fun x10 =>
        Option.bind (app? x9 ((l0_1.drop (Int.toNat y5)).take x10.length)) fun x11 =>
        narthexref01_Of_L1 N a0 n1 x11 (w64 (s4_1 + 1))
    else
      some l0_1
def narthexref01_Of (N : Nat) (a0 : List Int) : Option ((List Int)) :=
  Option.bind (α := (List Int)) (
    narthexref01_Of_L1 N a0 N ([] : List Int) 0
  ) fun z1 =>
  some z1
-- narthex/narthexref15.Open
def narthexref15_Open_L1 (N : Nat) (a0 : TDrinker) (a1 : List Int) : Nat → Int → Option ((TDrinker × Int) ⊕ Unit)
  | 0, _ => none
  | n1 + 1, s6_1 =>
    if decide (s6_1 < (a1.length : Int)) then
      Option.bind (at? a1 s6_1) fun x5 =>
      Option.bind (narthexref15_side N a0 x5) fun y6 =>
      Option.bind (if (!(decide (y6 < 0))) = true then at? a0.Diner.Sides y6 else some default) fun x7 =>
      if (decide (y6 < 0)) || (x7.State != 0) then
        some (.inl (((⟨(⟨0, 0, []⟩ : TDiner), 0, []⟩ : TDrinker), 151)))
      else
        narthexref15_Open_L1 N a0 a1 n1 (w64 (s6_1 + 1))
    else
      some (.inr (()))
def narthexref15_Open (N : Nat) (a0 : TDrinker) (a1 : List Int) : Option (TDrinker × Int) :=
  Option.bind (narthexref15_Check N a0) fun y1 =>
  if !y1 then
    some ((⟨(⟨0, 0, []⟩ : TDiner), 0, []⟩ : TDrinker), 150)
  else
    if a0.Thirst != 0 then
      some ((⟨(⟨0, 0, []⟩ : TDiner), 0, []⟩ : TDrinker), 152)
    else
      Option.bind (α := (TDrinker × Int) ⊕ Unit) (
        narthexref15_Open_L1 N a0 a1 N 0
      ) fun z2 =>
      match z2 with
      | .inl r3 =>
        some r3
      | .inr z4 =>
        Option.bind (narthexref01_Of N a1) fun y8 =>
        some ((⟨a0.Diner, 1, y8⟩ : TDrinker), 0)
-- narthex/narthexref15.Close
def narthexref15_Close (N : Nat) (a0 : TDrinker) : Option (TDrinker × Int) :=
  Option.bind (narthexref15_Check N a0) fun y1 =>
  if !y1 then
    some ((⟨(⟨0, 0, []⟩ : TDiner), 0, []⟩ : TDrinker), 150)
  else
    if a0.Thirst == 0 then
      some ((⟨(⟨0, 0, []⟩ : TDiner), 0, []⟩ : TDrinker), 152)
    else
      some ((⟨a0.Diner, 0, []⟩ : TDrinker), 0)
-- narthex/narthexlaw15.DrinkOpens
def narthexlaw15_DrinkOpens (N : Nat) (a0 : TDrinker) (a1 : List Int) : Option (Bool) :=
  Option.bind (narthexlaw15_awake N) fun y1 =>
  Option.bind (if (!(!y1)) = true then narthexlaw15_few N a0 else some default) fun y2 =>
  if ((!y1) || (!y2)) || (decide ((a1.length : Int) > 70)) then
    Option.bind (narthexlaw15_awake N) fun y3 =>
    some y3
  else
    Option.bind (narthexlaw15_Own N a0) fun y4 =>
    Option.bind (app? ([] : List Int) a1) fun x5 =>
    Option.bind (drink_Open N y4 x5) fun y6 =>
    Option.bind (narthexref15_Open N a0 a1) fun y7 =>
    Option.bind (narthexlaw15_Own N a0) fun y8 =>
    Option.bind (drink_Close N y8) fun y9 =>
    Option.bind (narthexref15_Close N a0) fun y10 =>
    Option.bind (narthexref15_Same N y6.1 y7.1) fun y11 =>
    Option.bind (if (y11 && (y6.2 == y7.2)) = true then narthexref15_Same N y9.1 y10.1 else some default) fun y12 =>
    some (((y11 && (y6.2 == y7.2)) && y12) && (y9.2 == y10.2))
-- narthex/narthexlaw15.DrinkStill
def narthexlaw15_DrinkStill_L1 (N : Nat) (y5 : TDrinker × (List TMail) × Int) : Nat → Int → Option (Bool ⊕ Unit)
  | 0, _ => none
  | n1 + 1, s9_1 =>
    if decide (s9_1 < (y5.1.Diner.Sides.length : Int)) then
      Option.bind (at? y5.1.Diner.Sides s9_1) fun x11 =>
      Option.bind (narthexref01_Has N y5.1.Need x11.Peer) fun y12 =>
      if ((x11.Bottle && x11.Ask) && (!(y12 && ((y5.1.Thirst == 2) || x11.Fork)))) || ((((y5.1.Thirst == 1) && y12) && x11.Ask) && (!x11.Bottle)) then
        some (.inl false)
      else
        narthexlaw15_DrinkStill_L1 N y5 n1 (w64 (s9_1 + 1))
    else
      some (.inr (()))
def narthexlaw15_DrinkStill (N : Nat) (a0 : TDrinker) : Option (Bool) :=
  Option.bind (narthexlaw15_awake N) fun y1 =>
  Option.bind (if (!(!y1)) = true then narthexlaw15_few N a0 else some default) fun y2 =>
  if (!y1) || (!y2) then
    Option.bind (narthexlaw15_awake N) fun y3 =>
    some y3
  else
    Option.bind (narthexlaw15_Own N a0) fun y4 =>
    Option.bind (drink_Fire N y4) fun y5 =>
    if y5.2.2 != 0 then
      some true
    else
      Option.bind (narthexlaw15_Own N y5.1) fun y6 =>
      Option.bind (drink_Fire N y6) fun y7 =>
      Option.bind (α := Bool ⊕ Unit) (
        narthexlaw15_DrinkStill_L1 N y5 N 0
      ) fun z8 =>
      match z8 with
      | .inl r9 =>
        some r9
      | .inr z10 =>
        Option.bind (if ((y7.2.2 == 0) && ((y7.2.1.length : Int) == 0)) = true then narthexref15_Same N y5.1 y7.1 else some default) fun y13 =>
        Option.bind (if ((((y7.2.2 == 0) && ((y7.2.1.length : Int) == 0)) && y13) && ((y5.1.Thirst != 1) || (y5.1.Diner.Phase != 0))) = true then narthexlaw15_Own N y5.1 else some default) fun y14 =>
        Option.bind (if ((((y7.2.2 == 0) && ((y7.2.1.length : Int) == 0)) && y13) && ((y5.1.Thirst != 1) || (y5.1.Diner.Phase != 0))) = true then drink_Check N y14 else some default) fun y15 =>
        some (((((y7.2.2 == 0) && ((y7.2.1.length : Int) == 0)) && y13) && ((y5.1.Thirst != 1) || (y5.1.Diner.Phase != 0))) && (y15 == 0))
-- narthex/narthexref12.Side
def narthexref12_Side_L1 (N : Nat) (a0 : TDiner) (a1 : Int) : Nat → Int → Option ((TSide × Bool) ⊕ Unit)
  | 0, _ => none
  | n1 + 1, s6_1 =>
    if decide (s6_1 < (a0.Sides.length : Int)) then
      Option.bind (at? a0.Sides s6_1) fun x4 =>
      if x4.Peer == a1 then
        Option.bind (at? a0.Sides s6_1) fun x5 =>
        some (.inl ((x5, true)))
      else
        narthexref12_Side_L1 N a0 a1 n1 (w64 (s6_1 + 1))
    else
      some (.inr (()))
def narthexref12_Side (N : Nat) (a0 : TDiner) (a1 : Int) : Option (TSide × Bool) :=
  Option.bind (α := (TSide × Bool) ⊕ Unit) (
    narthexref12_Side_L1 N a0 a1 N 0
  ) fun z1 =>
  match z1 with
  | .inl r2 =>
    some r2
  | .inr z3 =>
    some ((⟨0, 0, 0, false, false, false, false, false⟩ : TSide), false)
-- narthex/narthexlaw15.DrinkHas
def narthexlaw15_DrinkHas_L1 (N : Nat) (y5 : TDrinker × (List TMail) × Int) (y7 : TDrinker × Int) (y9 : TDrinker × (List TMail) × Int) : Nat → Int → Option (Bool ⊕ Unit)
  | 0, _ => none
  | n1 + 1, s15_1 =>
    if decide (s15_1 < (y5.1.Need.length : Int)) then
      Option.bind (at? y5.1.Need s15_1) fun x13 =>
      Option.bind (narthexref12_Side N y5.1.Diner x13) fun y14 =>
      Option.bind (at? y5.1.Need s15_1) fun x15 =>
      Option.bind (narthexref12_Side N y9.1.Diner x15) fun y16 =>
      if ((!y14.2) || (!y14.1.Bottle)) || (((y9.2.2 == 0) && (decide ((y7.1.Diner.Sides.length : Int) > 0))) && ((!y16.2) || (!y16.1.Bottle))) then
        some (.inl false)
      else
        narthexlaw15_DrinkHas_L1 N y5 y7 y9 n1 (w64 (s15_1 + 1))
    else
      some (.inr (()))
def narthexlaw15_DrinkHas (N : Nat) (a0 : TDrinker) (a1 : Int) (a2 : Int) : Option (Bool) :=
  Option.bind (narthexlaw15_awake N) fun y1 =>
  Option.bind (if (!(!y1)) = true then narthexlaw15_few N a0 else some default) fun y2 =>
  if ((!y1) || (!y2)) || (a0.Thirst == 2) then
    Option.bind (narthexlaw15_awake N) fun y3 =>
    some y3
  else
    Option.bind (narthexlaw15_Own N a0) fun y4 =>
    Option.bind (drink_Fire N y4) fun y5 =>
    if (y5.2.2 != 0) || (y5.1.Thirst != 2) then
      some true
    else
      Option.bind (narthexlaw15_Own N y5.1) fun y6 =>
      Option.bind (drink_Get N y6 a1 (⟨4, a2, 0⟩ : TMsg)) fun y7 =>
      Option.bind (narthexlaw15_Own N y7.1) fun y8 =>
      Option.bind (drink_Fire N y8) fun y9 =>
      Option.bind (α := Bool ⊕ Unit) (
        narthexlaw15_DrinkHas_L1 N y5 y7 y9 N 0
      ) fun z10 =>
      match z10 with
      | .inl r11 =>
        some r11
      | .inr z12 =>
        Option.bind (if (a0.Thirst == 1) = true then narthexref01_Same N y5.1.Need a0.Need else some default) fun y17 =>
        some ((a0.Thirst == 1) && y17)
-- narthex/narthexlaw15.DrinkKeeps
def narthexlaw15_DrinkKeeps_L3 (N : Nat) (a0 : TDrinker) (y5 : TDrinker × (List TMail) × Int) (x9 : TSide) (s12_2 : Int) : Nat → Int → Int → Option (Int)
  | 0, _, _ => none
  | n3 + 1, s13_3, s14_3 =>
    if decide (s14_3 < (y5.2.1.length : Int)) then
      Option.bind (at? y5.2.1 s14_3) fun x15 =>
      if decide (x15 = (⟨a0.Diner.ID, x9.Peer, (⟨w64 (1 + s12_2), x9.Epoch, 0⟩ : TMsg)⟩ : TMail)) then
        narthexlaw15_DrinkKeeps_L3 N a0 y5 x9 s12_2 n3 (w64 (s13_3 + 1)) (w64 (s14_3 + 1))
      else
        narthexlaw15_DrinkKeeps_L3 N a0 y5 x9 s12_2 n3 s13_3 (w64 (s14_3 + 1))
    else
      some s13_3
def narthexlaw15_DrinkKeeps_L2 (N : Nat) (a0 : TDrinker) (y5 : TDrinker × (List TMail) × Int) (x9 : TSide) (x10 : TSide) : Nat → Int → Int → Option (Bool ⊕ Int)
  | 0, _, _ => none
  | n2 + 1, s6_2, s12_2 =>
    if decide (s12_2 < 4) then
      Option.bind (α := Int) (
        narthexlaw15_DrinkKeeps_L3 N a0 y5 x9 s12_2 N 0 0
      ) fun z14 =>
      Option.bind (at? [x9.Fork, x9.Token, x9.Bottle, x9.Ask] s12_2) fun x16 =>
      Option.bind (if x16 = true then at? [x10.Fork, x10.Token, x10.Bottle, x10.Ask] s12_2 else some default) fun x17 =>
      Option.bind (if (!(x16 && ((x17 == (z14 == 1)) || (decide (z14 > 1))))) = true then at? [x9.Fork, x9.Token, x9.Bottle, x9.Ask] s12_2 else some default) fun x18 =>
      Option.bind (if ((!(x16 && ((x17 == (z14 == 1)) || (decide (z14 > 1))))) && (!x18)) = true then at? [x10.Fork, x10.Token, x10.Bottle, x10.Ask] s12_2 else some default) fun x19 =>
      if (x16 && ((x17 == (z14 == 1)) || (decide (z14 > 1)))) || ((!x18) && (x19 || (z14 != 0))) then
        some (.inl false)
      else
        narthexlaw15_DrinkKeeps_L2 N a0 y5 x9 x10 n2 (w64 (s6_2 + z14)) (w64 (s12_2 + 1))
    else
      some (.inr s6_2)
def narthexlaw15_DrinkKeeps_L1 (N : Nat) (a0 : TDrinker) (y5 : TDrinker × (List TMail) × Int) : Nat → Int → Int → Option (Bool ⊕ Int)
  | 0, _, _ => none
  | n1 + 1, s6_1, s7_1 =>
    if decide (s7_1 < (y5.1.Diner.Sides.length : Int)) then
      Option.bind (at? a0.Diner.Sides s7_1) fun x9 =>
      Option.bind (at? y5.1.Diner.Sides s7_1) fun x10 =>
      Option.bind (α := Bool ⊕ Int) (
        narthexlaw15_DrinkKeeps_L2 N a0 y5 x9 x10 N s6_1 0
      ) fun z11 =>
      match z11 with
      | .inl r12 =>
        some (.inl r12)
      | .inr z13 =>
        if ((x9.Peer != x10.Peer) || (x9.Epoch != x10.Epoch)) || (x9.State != x10.State) then
          some (.inl false)
        else
          narthexlaw15_DrinkKeeps_L1 N a0 y5 n1 z13 (w64 (s7_1 + 1))
    else
      some (.inr s6_1)
def narthexlaw15_DrinkKeeps (N : Nat) (a0 : TDrinker) : Option (Bool) :=
  Option.bind (narthexlaw15_awake N) fun y1 =>
  Option.bind (if (!(!y1)) = true then narthexlaw15_few N a0 else some default) fun y2 =>
  if (!y1) || (!y2) then
    Option.bind (narthexlaw15_awake N) fun y3 =>
    some y3
  else
    Option.bind (narthexlaw15_Own N a0) fun y4 =>
    Option.bind (drink_Fire N y4) fun y5 =>
    if (y5.2.2 != 0) || ((y5.1.Diner.Sides.length : Int) != (a0.Diner.Sides.length : Int)) then
      some (y5.2.2 != 0)
    else
      Option.bind (α := Bool ⊕ Int) (
        narthexlaw15_DrinkKeeps_L1 N a0 y5 N 0 0
      ) fun z6 =>
      match z6 with
      | .inl r7 =>
        some r7
      | .inr z8 =>
        some ((z8 == (y5.2.1.length : Int)) && (y5.1.Diner.ID == a0.Diner.ID))
-- narthex/narthexlaw15.DrinkNone
def narthexlaw15_DrinkNone (N : Nat) (a0 : TDrinker) : Option (Bool) :=
  Option.bind (narthexlaw15_awake N) fun y1 =>
  Option.bind (if (!(!y1)) = true then narthexlaw15_few N a0 else some default) fun y2 =>
  if (!y1) || (!y2) then
    Option.bind (narthexlaw15_awake N) fun y3 =>
    some y3
  else
    Option.bind (narthexlaw15_Own N a0) fun y4 =>
    Option.bind (drink_Open N y4 []) fun y5 =>
    Option.bind (narthexlaw15_Own N y5.1) fun y6 =>
    Option.bind (drink_Fire N y6) fun y7 =>
    Option.bind (narthexlaw15_Own N a0) fun y8 =>
    Option.bind (drink_Close N y8) fun y9 =>
    if (y5.2 == 0) && (((y7.2.2 != 0) || (y7.1.Thirst != 2)) || ((y7.1.Need.length : Int) != 0)) then
      some false
    else
      some ((y9.2 != 0) || (((y9.1.Thirst == 0) && ((y9.1.Need.length : Int) == 0)) && (a0.Thirst != 0)))
end Go.Proofs.Ytcdjfellhgdgoaa
