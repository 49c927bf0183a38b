/- Models of the functions, and what is known of data that came in. -/
import Derived.Test.YtcnbkfgajnlbpaaNyL
namespace Go.Proofs.Ytcnbkfgajnlbpaa
open Go Go.Nx
set_option linter.unusedVariables false
set_option linter.unusedSimpArgs false
set_option maxRecDepth 8000
structure TSide where
  Peer : Int
  Epoch : Int
  State : Int
  Fork : Bool
  Dirty : Bool
  Token : Bool
  Bottle : Bool
  Ask : Bool
  deriving DecidableEq, Inhabited
structure TDiner where
  ID : Int
  Phase : Int
  Sides : List TSide
  deriving DecidableEq, Inhabited
structure TMsg where
  Kind : Int
  Epoch : Int
  Num : Int
  deriving DecidableEq, Inhabited
structure TMail where
  From : Int
  To : Int
  Msg : TMsg
  deriving DecidableEq, Inhabited
def eSide (x : TSide) : List Leaf := [I x.Peer, I x.Epoch, I x.State, B x.Fork, B x.Dirty, B x.Token, B x.Bottle, B x.Ask]
def eDiner (x : TDiner) : List Leaf := [I x.ID, I x.Phase, .slv (x.Sides.map eSide)]
def eMail (x : TMail) : List Leaf := [I x.From, I x.To, I x.Msg.Kind, I x.Msg.Epoch, I x.Msg.Num]
def eMsg (x : TMsg) : List Leaf := [I x.Kind, I x.Epoch, I x.Num]
def kSide (x : TSide) : Prop := (Lit.int .i64 x.Peer).wf = true ∧ (Lit.int .i64 x.Epoch).wf = true ∧ (Lit.int .i64 x.State).wf = true ∧ True ∧ True ∧ True ∧ True ∧ True
def kDiner (x : TDiner) : Prop := (Lit.int .i64 x.ID).wf = true ∧ (Lit.int .i64 x.Phase).wf = true ∧ (x.Sides.length ≤ maxLen ∧ ∀ y ∈ x.Sides, kSide y)
def kMsg (x : TMsg) : Prop := (Lit.int .i64 x.Kind).wf = true ∧ (Lit.int .i64 x.Epoch).wf = true ∧ (Lit.int .i64 x.Num).wf = true
def kMail (x : TMail) : Prop := (Lit.int .i64 x.From).wf = true ∧ (Lit.int .i64 x.To).wf = true ∧ kMsg x.Msg
-- narthex/dine.Check$1
def dine_Check_1 (N : Nat) (a0 : TSide) (c0_0 : Int) (c0_1 : Int) (c0_2 : List TSide) (c1_0 : Int) : Option (Bool × Int) :=
  some ((((((!((decide (a0.Peer > c1_0)) && (a0.Peer != c0_0))) || (decide (a0.Epoch < 0))) || (decide (a0.Epoch > 65535))) || (decide (a0.State < 0))) || (decide (a0.State > 3))) || (a0.Dirty && (!a0.Fork)), a0.Peer)
-- slices.IndexFunc[[]narthex/api.Side,narthex/api.Side]
def slices_IndexFunc_Side_L1 (N : Nat) (a0 : List TSide) (c0_0 : Int) (c0_1 : Int) (c0_2 : List TSide) : Nat → Int → Int → Option ((Int × Int) ⊕ Int)
  | 0, _, _ => none
  | n1 + 1, c1_0_1, s8_1 =>
    if decide (s8_1 < (a0.length : Int)) then
      Option.bind (at? a0 s8_1) fun x4 =>
      Option.bind (dine_Check_1 N x4 c0_0 c0_1 c0_2 c1_0_1) fun y5 =>
      if y5.1 then
        some (.inl ((s8_1, y5.2)))
      else
        slices_IndexFunc_Side_L1 N a0 c0_0 c0_1 c0_2 n1 y5.2 (w64 (s8_1 + 1))
    else
      some (.inr c1_0_1)
def slices_IndexFunc_Side (N : Nat) (a0 : List TSide) (c0_0 : Int) (c0_1 : Int) (c0_2 : List TSide) (c1_0 : Int) : Option (Int × Int) :=
  Option.bind (α := (Int × Int) ⊕ Int) (
    slices_IndexFunc_Side_L1 N a0 c0_0 c0_1 c0_2 N c1_0 0
  ) fun z1 =>
  match z1 with
  | .inl r2 =>
    some r2
  | .inr z3 =>
    some ((-1), z3)
-- slices.ContainsFunc[[]narthex/api.Side,narthex/api.Side]
def slices_ContainsFunc_Side (N : Nat) (a0 : List TSide) (c0_0 : Int) (c0_1 : Int) (c0_2 : List TSide) (c1_0 : Int) : Option (Bool × Int) :=
  Option.bind (slices_IndexFunc_Side N a0 c0_0 c0_1 c0_2 c1_0) fun y1 =>
  some (decide (y1.1 ≥ 0), y1.2)
-- narthex/dine.Check
def dine_Check (N : Nat) (a0 : TDiner) : Option (Int) :=
  Option.bind (if (!((((decide (a0.ID < 0)) || (decide (a0.Phase < 0))) || (decide (a0.Phase > 2))) || (decide ((a0.Sides.length : Int) ≥ 64)))) = true then slices_ContainsFunc_Side N a0.Sides a0.ID a0.Phase a0.Sides (-1) else some (default, (-1))) fun y1 =>
  if ((((decide (a0.ID < 0)) || (decide (a0.Phase < 0))) || (decide (a0.Phase > 2))) || (decide ((a0.Sides.length : Int) ≥ 64))) || y1.1 then
    some 130
  else
    some 0
def slices_Clone_Side (N : Nat) (a0 : List TSide) : Option (List TSide) := app? [] a0
-- narthex/dine.turned
def dine_turned (N : Nat) (a0 : TDiner) (a1 : Int) (a2 : Int) : Option (TDiner × Int) :=
  Option.bind (dine_Check N a0) fun y1 =>
  Option.bind (α := Int) (
    if (y1 == 0) && (a0.Phase != a1) then
      some 134
    else
      some y1
  ) fun z2 =>
  if z2 != 0 then
    some ((⟨0, 0, []⟩ : TDiner), z2)
  else
    Option.bind (slices_Clone_Side N a0.Sides) fun y3 =>
    some ((⟨a0.ID, a2, y3⟩ : TDiner), 0)
-- narthex/dine.Start
def dine_Start (N : Nat) (a0 : TDiner) : Option (TDiner × Int) :=
  Option.bind (dine_turned N a0 0 1) fun y1 =>
  some (y1.1, y1.2)
-- narthex/dine.Fire$1
def dine_Fire_1 (N : Nat) (a0 : Int) (c0_0 : Int) (c0_1 : Int) (l1 : List TSide) (c2_0 : Int) (c2_1 : Int) (c4_0 : Nat) (l5 : List TMail) : Option ((List TMail)) :=
  Option.bind (l1[c4_0]?) fun x1 =>
  Option.bind (app? l5 [(⟨c0_0, x1.Peer, (⟨a0, x1.Epoch, 0⟩ : TMsg)⟩ : TMail)]) fun x2 =>
  some x2
-- narthex/dine.Fire$1
def dine_Fire_1_2 (N : Nat) (a0 : Int) (c0_0 : Int) (c0_1 : Int) (l1 : List TSide) (c2_0 : Int) (c2_1 : Int) (l4 : List TMail) (c5_0 : Nat) : Option ((List TMail)) :=
  Option.bind (l1[c5_0]?) fun x1 =>
  Option.bind (app? l4 [(⟨c0_0, x1.Peer, (⟨a0, x1.Epoch, 0⟩ : TMsg)⟩ : TMail)]) fun x2 =>
  some x2
-- narthex/dine.Fire
def dine_Fire_L1 (N : Nat) (a0 : TDiner) (y2 : List TSide) : Nat → (List TSide) → (List TMail) → Bool → Int → Option ((List TSide) × (List TMail) × Bool)
  | 0, _, _, _, _ => none
  | n1 + 1, l1_1, l4_1, s7_1, s25_1 =>
    if decide (s25_1 < (y2.length : Int)) then
      Option.bind (at? l1_1 s25_1) fun x4 =>
      Option.bind (α := (List TSide) × (List TMail)) (
        if ((x4.Fork && x4.Dirty) && x4.Token) && (a0.Phase != 2) then
          Option.bind (dine_Fire_1_2 N 1 a0.ID a0.Phase ((l1_1.set s25_1.toNat { x4 with Fork := false }).set s25_1.toNat { x4 with Fork := false, Dirty := false }) 0 0 l4_1 s25_1.toNat) fun y6 =>
          some ((l1_1.set s25_1.toNat { x4 with Fork := false }).set s25_1.toNat { x4 with Fork := false, Dirty := false }, y6)
        else
          some (l1_1, l4_1)
      ) fun z5 =>
      Option.bind (if (a0.Phase == 1) = true then z5.1[s25_1.toNat]? else some default) fun x7 =>
      Option.bind (if ((a0.Phase == 1) && x7.Token) = true then z5.1[s25_1.toNat]? else some default) fun x8 =>
      if ((a0.Phase == 1) && x7.Token) && (!x8.Fork) then
        Option.bind (z5.1[s25_1.toNat]?) fun x9 =>
        Option.bind (dine_Fire_1_2 N 2 a0.ID a0.Phase (z5.1.set s25_1.toNat { x9 with Token := false }) 0 0 z5.2 s25_1.toNat) fun y10 =>
        dine_Fire_L1 N a0 y2 n1 (z5.1.set s25_1.toNat { x9 with Token := false }) y10 (s7_1 && x9.Fork) (w64 (s25_1 + 1))
      else
        Option.bind (if s7_1 = true then z5.1[s25_1.toNat]? else some default) fun x11 =>
        dine_Fire_L1 N a0 y2 n1 z5.1 z5.2 (s7_1 && x11.Fork) (w64 (s25_1 + 1))
    else
      some (l1_1, l4_1, s7_1)
def dine_Fire_L2 (N : Nat) (z3 : (List TSide) × (List TMail) × Bool) : Nat → (List TSide) → Int → Option ((List TSide))
  | 0, _, _ => none
  | n2 + 1, l1_2, s101_2 =>
    if decide (s101_2 < (z3.1.length : Int)) then
      Option.bind (at? l1_2 s101_2) fun x13 =>
      dine_Fire_L2 N z3 n2 (l1_2.set s101_2.toNat { x13 with Dirty := true }) (w64 (s101_2 + 1))
    else
      some l1_2
def dine_Fire (N : Nat) (a0 : TDiner) : Option (TDiner × (List TMail) × Int) :=
  Option.bind (dine_Check N a0) fun y1 =>
  if y1 != 0 then
    some ((⟨0, 0, []⟩ : TDiner), [], y1)
  else
    Option.bind (slices_Clone_Side N a0.Sides) fun y2 =>
    Option.bind (α := (List TSide) × (List TMail) × Bool) (
      dine_Fire_L1 N a0 y2 N y2 ([] : List TMail) true 0
    ) fun z3 =>
    if (a0.Phase == 1) && z3.2.2 then
      Option.bind (α := (List TSide)) (
        dine_Fire_L2 N z3 N z3.1 0
      ) fun z12 =>
      some ((⟨a0.ID, 2, z12⟩ : TDiner), z3.2.1, 0)
    else
      some ({ a0 with Sides := z3.1 }, z3.2.1, 0)
-- narthex/dine.Get$1
def dine_Get_1 (N : Nat) (a0 : TSide) (c0_0 : Int) (c0_1 : Int) (c0_2 : List TSide) (c1_0 : Int) (c2_0 : Int) (c2_1 : Int) (c2_2 : Int) (c3_0 : Int) (c3_1 : Int) : Option (Bool) :=
  some ((a0.Peer == c1_0) && (a0.Epoch == c2_1))
-- slices.IndexFunc[[]narthex/api.Side,narthex/api.Side]
def slices_IndexFunc_Side_2_L1 (N : Nat) (a0 : List TSide) (c0_0 : Int) (c0_1 : Int) (c0_2 : List TSide) (c1_0 : Int) (c2_0 : Int) (c2_1 : Int) (c2_2 : Int) (c3_0 : Int) (c3_1 : Int) : Nat → Int → Option (Int ⊕ Unit)
  | 0, _ => none
  | n1 + 1, s8_1 =>
    if decide (s8_1 < (a0.length : Int)) then
      Option.bind (at? a0 s8_1) fun x4 =>
      Option.bind (dine_Get_1 N x4 c0_0 c0_1 c0_2 c1_0 c2_0 c2_1 c2_2 c3_0 c3_1) fun y5 =>
      if y5 then
        some (.inl s8_1)
      else
        slices_IndexFunc_Side_2_L1 N a0 c0_0 c0_1 c0_2 c1_0 c2_0 c2_1 c2_2 c3_0 c3_1 n1 (w64 (s8_1 + 1))
    else
      some (.inr (()))
def slices_IndexFunc_Side_2 (N : Nat) (a0 : List TSide) (c0_0 : Int) (c0_1 : Int) (c0_2 : List TSide) (c1_0 : Int) (c2_0 : Int) (c2_1 : Int) (c2_2 : Int) (c3_0 : Int) (c3_1 : Int) : Option (Int) :=
  Option.bind (α := Int ⊕ Unit) (
    slices_IndexFunc_Side_2_L1 N a0 c0_0 c0_1 c0_2 c1_0 c2_0 c2_1 c2_2 c3_0 c3_1 N 0
  ) fun z1 =>
  match z1 with
  | .inl r2 =>
    some r2
  | .inr z3 =>
    some (-1)
-- narthex/dine.Get
def dine_Get (N : Nat) (a0 : TDiner) (a1 : Int) (a2 : TMsg) : Option (TDiner × Int) :=
  Option.bind (dine_Check N a0) fun y1 =>
  if y1 != 0 then
    some ((⟨0, 0, []⟩ : TDiner), y1)
  else
    Option.bind (slices_IndexFunc_Side_2 N a0.Sides a0.ID a0.Phase a0.Sides a1 a2.Kind a2.Epoch a2.Num 0 0) fun y2 =>
    if decide (y2 < 0) then
      some ((⟨0, 0, []⟩ : TDiner), 131)
    else
      Option.bind (slices_Clone_Side N a0.Sides) fun y3 =>
      Option.bind (at? y3 y2) fun x4 =>
      Option.bind (α := (TDiner × Int) ⊕ ((List TSide) × Bool)) (
        if (a2.Kind == 1) && (a2.Num == 0) then
          some (.inr ((y3.set y2.toNat { x4 with Fork := true }, x4.Fork)))
        else
          if (a2.Kind == 2) && (a2.Num == 0) then
            some (.inr ((y3.set y2.toNat { x4 with Token := true }, x4.Token)))
          else
            some (.inl (((⟨0, 0, []⟩ : TDiner), 133)))
      ) fun z5 =>
      match z5 with
      | .inl r6 =>
        some r6
      | .inr z7 =>
        if z7.2 then
          some ((⟨0, 0, []⟩ : TDiner), 132)
        else
          some ({ a0 with Sides := z7.1 }, 0)
-- narthex/dine.Stop
def dine_Stop (N : Nat) (a0 : TDiner) : Option (TDiner × Int) :=
  Option.bind (dine_turned N a0 2 0) fun y1 =>
  some (y1.1, y1.2)
-- slices.Equal[[]narthex/api.Side,narthex/api.Side]
def slices_Equal_Side_L1 (N : Nat) (a0 : List TSide) (a1 : List TSide) : Nat → Int → Option (Bool ⊕ Unit)
  | 0, _ => none
  | n1 + 1, s13_1 =>
    if decide (s13_1 < (a0.length : Int)) then
      Option.bind (at? a0 s13_1) fun x4 =>
      Option.bind (at? a1 s13_1) fun x5 =>
      if !decide (x4 = x5) then
        some (.inl false)
      else
        slices_Equal_Side_L1 N a0 a1 n1 (w64 (s13_1 + 1))
    else
      some (.inr (()))
def slices_Equal_Side (N : Nat) (a0 : List TSide) (a1 : List TSide) : Option (Bool) :=
  if (a0.length : Int) != (a1.length : Int) then
    some false
  else
    Option.bind (α := Bool ⊕ Unit) (
      slices_Equal_Side_L1 N a0 a1 N 0
    ) fun z1 =>
    match z1 with
    | .inl r2 =>
      some r2
    | .inr z3 =>
      some true
-- narthex/dine.Same
def dine_Same (N : Nat) (a0 : TDiner) (a1 : TDiner) : Option (Bool) :=
  Option.bind (if ((a0.ID == a1.ID) && (a0.Phase == a1.Phase)) = true then slices_Equal_Side N a0.Sides a1.Sides else some default) fun y1 =>
  some (((a0.ID == a1.ID) && (a0.Phase == a1.Phase)) && y1)
-- narthex/narthexlaw13.awake
def narthexlaw13_awake (N : Nat) : Option (Bool) :=
  Option.bind (dine_Start N (⟨1, 0, [(⟨0, 0, 0, false, false, true, false, false⟩ : TSide)]⟩ : TDiner)) fun y1 =>
  Option.bind (dine_Fire N y1.1) fun y2 =>
  Option.bind (dine_Get N y2.1 0 (⟨1, 0, 0⟩ : TMsg)) fun y3 =>
  Option.bind (dine_Fire N y3.1) fun y4 =>
  Option.bind (dine_Stop N y4.1) fun y5 =>
  Option.bind (dine_Stop N y5.1) fun y6 =>
  Option.bind (if (((y1.2 == 0) && (y2.2.2 == 0)) && ((y2.2.1.length : Int) == 1)) = true then at? y2.2.1 0 else some default) fun x7 =>
  Option.bind (if (((((((((y1.2 == 0) && (y2.2.2 == 0)) && ((y2.2.1.length : Int) == 1)) && (decide (x7 = (⟨1, 0, (⟨2, 0, 0⟩ : TMsg)⟩ : TMail)))) && (y3.2 == 0)) && (y4.2.2 == 0)) && ((y4.2.1.length : Int) == 0)) && (y4.1.Phase == 2)) && ((y4.1.Sides.length : Int) == 1)) = true then at? y4.1.Sides 0 else some default) fun x8 =>
  Option.bind (if (((((((((((((y1.2 == 0) && (y2.2.2 == 0)) && ((y2.2.1.length : Int) == 1)) && (decide (x7 = (⟨1, 0, (⟨2, 0, 0⟩ : TMsg)⟩ : TMail)))) && (y3.2 == 0)) && (y4.2.2 == 0)) && ((y4.2.1.length : Int) == 0)) && (y4.1.Phase == 2)) && ((y4.1.Sides.length : Int) == 1)) && x8.Dirty) && (y5.2 == 0)) && (y5.1.Phase == 0)) && (y6.2 == 134)) = true then dine_Check N y4.1 else some default) fun y9 =>
  Option.bind (if ((((((((((((((y1.2 == 0) && (y2.2.2 == 0)) && ((y2.2.1.length : Int) == 1)) && (decide (x7 = (⟨1, 0, (⟨2, 0, 0⟩ : TMsg)⟩ : TMail)))) && (y3.2 == 0)) && (y4.2.2 == 0)) && ((y4.2.1.length : Int) == 0)) && (y4.1.Phase == 2)) && ((y4.1.Sides.length : Int) == 1)) && x8.Dirty) && (y5.2 == 0)) && (y5.1.Phase == 0)) && (y6.2 == 134)) && (y9 == 0)) = true then dine_Same N y4.1 y4.1 else some default) fun y10 =>
  Option.bind (if (((((((((((((((y1.2 == 0) && (y2.2.2 == 0)) && ((y2.2.1.length : Int) == 1)) && (decide (x7 = (⟨1, 0, (⟨2, 0, 0⟩ : TMsg)⟩ : TMail)))) && (y3.2 == 0)) && (y4.2.2 == 0)) && ((y4.2.1.length : Int) == 0)) && (y4.1.Phase == 2)) && ((y4.1.Sides.length : Int) == 1)) && x8.Dirty) && (y5.2 == 0)) && (y5.1.Phase == 0)) && (y6.2 == 134)) && (y9 == 0)) && y10) = true then dine_Same N y4.1 y5.1 else some default) fun y11 =>
  some ((((((((((((((((y1.2 == 0) && (y2.2.2 == 0)) && ((y2.2.1.length : Int) == 1)) && (decide (x7 = (⟨1, 0, (⟨2, 0, 0⟩ : TMsg)⟩ : TMail)))) && (y3.2 == 0)) && (y4.2.2 == 0)) && ((y4.2.1.length : Int) == 0)) && (y4.1.Phase == 2)) && ((y4.1.Sides.length : Int) == 1)) && x8.Dirty) && (y5.2 == 0)) && (y5.1.Phase == 0)) && (y6.2 == 134)) && (y9 == 0)) && y10) && (!y11))
-- narthex/narthexlaw13.Own
def narthexlaw13_Own (N : Nat) (a0 : TDiner) : Option (TDiner) :=
  Option.bind (app? ([] : List TSide) a0.Sides) fun x1 =>
  some { a0 with Sides := x1 }
-- narthex/narthexref12.SameOne
def narthexref12_SameOne_L1 (N : Nat) (a0 : TDiner) (a1 : TDiner) : Nat → Int → Option (Bool ⊕ Unit)
  | 0, _ => none
  | n1 + 1, s5_1 =>
    if decide (s5_1 < (a0.Sides.length : Int)) then
      Option.bind (at? a0.Sides s5_1) fun x4 =>
      Option.bind (at? a1.Sides s5_1) fun x5 =>
      if !decide (x4 = x5) then
        some (.inl false)
      else
        narthexref12_SameOne_L1 N a0 a1 n1 (w64 (s5_1 + 1))
    else
      some (.inr (()))
def narthexref12_SameOne (N : Nat) (a0 : TDiner) (a1 : TDiner) : Option (Bool) :=
  if ((a0.ID != a1.ID) || (a0.Phase != a1.Phase)) || ((a0.Sides.length : Int) != (a1.Sides.length : Int)) then
    some false
  else
    Option.bind (α := Bool ⊕ Unit) (
      narthexref12_SameOne_L1 N a0 a1 N 0
    ) fun z1 =>
    match z1 with
    | .inl r2 =>
      some r2
    | .inr z3 =>
      some true
-- narthex/narthexref13.Check
def narthexref13_Check_L1 (N : Nat) (a0 : TDiner) : Nat → Int → Option (Bool ⊕ Unit)
  | 0, _ => none
  | n1 + 1, s3_1 =>
    if decide (s3_1 < (a0.Sides.length : Int)) then
      Option.bind (at? a0.Sides s3_1) fun x4 =>
      Option.bind (if (decide (s3_1 > 0)) = true then at? a0.Sides (w64 (s3_1 - 1)) else some default) fun x5 =>
      if (((((((decide (x4.Peer < 0)) || (x4.Peer == a0.ID)) || ((decide (s3_1 > 0)) && (decide (x5.Peer ≥ x4.Peer)))) || (decide (x4.Epoch < 0))) || (decide (x4.Epoch > 65535))) || (decide (x4.State < 0))) || (decide (x4.State > 3))) || (x4.Dirty && (!x4.Fork)) then
        some (.inl false)
      else
        narthexref13_Check_L1 N a0 n1 (w64 (s3_1 + 1))
    else
      some (.inr (()))
def narthexref13_Check (N : Nat) (a0 : TDiner) : Option (Bool) :=
  if ((decide (a0.ID < 0)) || (((a0.Phase != 0) && (a0.Phase != 1)) && (a0.Phase != 2))) || (decide ((a0.Sides.length : Int) > 63)) then
    some false
  else
    Option.bind (α := Bool ⊕ Unit) (
      narthexref13_Check_L1 N a0 N 0
    ) fun z1 =>
    match z1 with
    | .inl r2 =>
      some r2
    | .inr z3 =>
      some true
-- narthex/narthexref13.Set
def narthexref13_Set (N : Nat) (a0 : TDiner) (a1 : Int) (a2 : TSide) : Option (TDiner) :=
  Option.bind (app? ([] : List TSide) a0.Sides) fun x1 =>
  Option.bind (at? x1 a1) fun x2 =>
  some { a0 with Sides := x1.set a1.toNat a2 }
-- narthex/narthexref13.mail
def narthexref13_mail (N : Nat) (a0 : TDiner) (a1 : TSide) (a2 : Int) : Option (TMail) :=
  some (⟨a0.ID, a1.Peer, (⟨a2, a1.Epoch, 0⟩ : TMsg)⟩ : TMail)
-- narthex/narthexref13.one
def narthexref13_one_L1 (N : Nat) (a0 : TDiner) : Nat → Int → Option ((TDiner × (List TMail) × Bool) ⊕ Unit)
  | 0, _ => none
  | n1 + 1, s5_1 =>
    if decide (s5_1 < (a0.Sides.length : Int)) then
      Option.bind (at? a0.Sides s5_1) fun x4 =>
      if ((x4.Fork && x4.Dirty) && x4.Token) && (a0.Phase != 2) then
        Option.bind (narthexref13_Set N a0 s5_1 { x4 with Fork := false, Dirty := false }) fun y5 =>
        Option.bind (narthexref13_mail N a0 x4 1) fun y6 =>
        some (.inl ((y5, [y6], true)))
      else
        if ((!x4.Fork) && x4.Token) && (a0.Phase == 1) then
          Option.bind (narthexref13_Set N a0 s5_1 { x4 with Token := false }) fun y7 =>
          Option.bind (narthexref13_mail N a0 x4 2) fun y8 =>
          some (.inl ((y7, [y8], true)))
        else
          narthexref13_one_L1 N a0 n1 (w64 (s5_1 + 1))
    else
      some (.inr (()))
def narthexref13_one_L2 (N : Nat) (a0 : TDiner) : Nat → Int → Option ((TDiner × (List TMail) × Bool) ⊕ Unit)
  | 0, _ => none
  | n2 + 1, s9_2 =>
    if decide (s9_2 < (a0.Sides.length : Int)) then
      Option.bind (at? a0.Sides s9_2) fun x12 =>
      if !x12.Fork then
        some (.inl ((a0, [], false)))
      else
        narthexref13_one_L2 N a0 n2 (w64 (s9_2 + 1))
    else
      some (.inr (()))
def narthexref13_one_L3 (N : Nat) : Nat → Int → Int → (List TSide) → Int → Option (Int × Int × (List TSide))
  | 0, _, _, _, _ => none
  | n3 + 1, c0_0_3, c0_1_3, c0_2_3, s10_3 =>
    if decide (s10_3 < (c0_2_3.length : Int)) then
      Option.bind (at? c0_2_3 s10_3) fun x14 =>
      Option.bind (narthexref13_Set N (⟨c0_0_3, c0_1_3, c0_2_3⟩ : TDiner) s10_3 { x14 with Dirty := true }) fun y15 =>
      narthexref13_one_L3 N n3 y15.ID y15.Phase y15.Sides (w64 (s10_3 + 1))
    else
      some (c0_0_3, c0_1_3, c0_2_3)
def narthexref13_one (N : Nat) (a0 : TDiner) : Option (TDiner × (List TMail) × Bool) :=
  Option.bind (α := (TDiner × (List TMail) × Bool) ⊕ Unit) (
    narthexref13_one_L1 N a0 N 0
  ) fun z1 =>
  match z1 with
  | .inl r2 =>
    some r2
  | .inr z3 =>
    if a0.Phase != 1 then
      some (a0, [], false)
    else
      Option.bind (α := (TDiner × (List TMail) × Bool) ⊕ Unit) (
        narthexref13_one_L2 N a0 N 0
      ) fun z9 =>
      match z9 with
      | .inl r10 =>
        some r10
      | .inr z11 =>
        Option.bind (α := Int × Int × (List TSide)) (
          narthexref13_one_L3 N N a0.ID 2 a0.Sides 0
        ) fun z13 =>
        some ((⟨z13.1, z13.2.1, z13.2.2⟩ : TDiner), [], true)
-- narthex/narthexref13.Fire
def narthexref13_Fire_L1 (N : Nat) : Nat → (List TMail) → Int → Int → (List TSide) → Int → Int → (List TSide) → (List TMail) → Bool → Option ((List TMail) × Int × Int × (List TSide))
  | 0, _, _, _, _, _, _, _, _, _ => none
  | n1 + 1, l2_1, c0_0_1, c0_1_1, c0_2_1, c3_0_1, c3_1_1, c3_2_1, s6_1, s7_1 =>
    if s7_1 then
      Option.bind (app? l2_1 s6_1) fun x3 =>
      Option.bind (narthexref13_one N (⟨c3_0_1, c3_1_1, c3_2_1⟩ : TDiner)) fun y4 =>
      narthexref13_Fire_L1 N n1 x3 c3_0_1 c3_1_1 c3_2_1 y4.1.ID y4.1.Phase y4.1.Sides y4.2.1 y4.2.2
    else
      some (l2_1, c0_0_1, c0_1_1, c0_2_1)
def narthexref13_Fire (N : Nat) (a0 : TDiner) : Option (TDiner × (List TMail)) :=
  Option.bind (narthexref13_one N a0) fun y1 =>
  Option.bind (α := (List TMail) × Int × Int × (List TSide)) (
    narthexref13_Fire_L1 N N ([] : List TMail) a0.ID a0.Phase a0.Sides y1.1.ID y1.1.Phase y1.1.Sides y1.2.1 y1.2.2
  ) fun z2 =>
  some ((⟨z2.2.1, z2.2.2.1, z2.2.2.2⟩ : TDiner), z2.1)
-- narthex/narthexref13.SameMail
def narthexref13_SameMail_L1 (N : Nat) (a0 : List TMail) (a1 : List TMail) : Nat → Int → Option (Bool ⊕ Unit)
  | 0, _ => none
  | n1 + 1, s5_1 =>
    if decide (s5_1 < (a0.length : Int)) then
      Option.bind (at? a0 s5_1) fun x4 =>
      Option.bind (at? a1 s5_1) fun x5 =>
      if !decide (x4 = x5) then
        some (.inl false)
      else
        narthexref13_SameMail_L1 N a0 a1 n1 (w64 (s5_1 + 1))
    else
      some (.inr (()))
def narthexref13_SameMail (N : Nat) (a0 : List TMail) (a1 : List TMail) : Option (Bool) :=
  if (a0.length : Int) != (a1.length : Int) then
    some false
  else
    Option.bind (α := Bool ⊕ Unit) (
      narthexref13_SameMail_L1 N a0 a1 N 0
    ) fun z1 =>
    match z1 with
    | .inl r2 =>
      some r2
    | .inr z3 =>
      some true
-- narthex/narthexlaw13.DineFires
def narthexlaw13_DineFires (N : Nat) (a0 : TDiner) (a1 : TDiner) : Option (Bool) :=
  Option.bind (narthexlaw13_awake N) fun y1 =>
  if ((!y1) || (decide ((a0.Sides.length : Int) > 70))) || (decide ((a1.Sides.length : Int) > 70)) then
    Option.bind (narthexlaw13_awake N) fun y2 =>
    some y2
  else
    Option.bind (narthexlaw13_Own N a0) fun y3 =>
    Option.bind (dine_Fire N y3) fun y4 =>
    Option.bind (narthexlaw13_Own N a0) fun y5 =>
    Option.bind (narthexlaw13_Own N a1) fun y6 =>
    Option.bind (dine_Same N y5 y6) fun y7 =>
    Option.bind (narthexref12_SameOne N a0 a1) fun y8 =>
    if !(y7 == y8) then
      some false
    else
      Option.bind (narthexref13_Check N a0) fun y9 =>
      if !y9 then
        Option.bind (narthexref12_SameOne N y4.1 (⟨0, 0, []⟩ : TDiner)) fun y10 =>
        Option.bind (if ((y10 && ((y4.2.1.length : Int) == 0)) && (y4.2.2 == 130)) = true then narthexlaw13_Own N a0 else some default) fun y11 =>
        Option.bind (if ((y10 && ((y4.2.1.length : Int) == 0)) && (y4.2.2 == 130)) = true then dine_Check N y11 else some default) fun y12 =>
        some (((y10 && ((y4.2.1.length : Int) == 0)) && (y4.2.2 == 130)) && (y12 == 130))
      else
        Option.bind (narthexref13_Fire N a0) fun y13 =>
        Option.bind (narthexref12_SameOne N y4.1 y13.1) fun y14 =>
        Option.bind (if y14 = true then narthexref13_SameMail N y4.2.1 y13.2 else some default) fun y15 =>
        Option.bind (if ((y14 && y15) && (y4.2.2 == 0)) = true then narthexlaw13_Own N a0 else some default) fun y16 =>
        Option.bind (if ((y14 && y15) && (y4.2.2 == 0)) = true then dine_Check N y16 else some default) fun y17 =>
        some (((y14 && y15) && (y4.2.2 == 0)) && (y17 == 0))
-- narthex/narthexref13.Get
def narthexref13_Get_L1 (N : Nat) (a0 : TDiner) (a1 : Int) (a2 : TMsg) : Nat → Int → Option ((TDiner × Int) ⊕ Unit)
  | 0, _ => none
  | n1 + 1, s8_1 =>
    if decide (s8_1 < (a0.Sides.length : Int)) then
      Option.bind (at? a0.Sides s8_1) fun x5 =>
      if (x5.Peer != a1) || (x5.Epoch != a2.Epoch) then
        narthexref13_Get_L1 N a0 a1 a2 n1 (w64 (s8_1 + 1))
      else
        if (a2.Num != 0) || ((a2.Kind != 1) && (a2.Kind != 2)) then
          some (.inl (((⟨0, 0, []⟩ : TDiner), 133)))
        else
          if ((a2.Kind == 1) && x5.Fork) || ((a2.Kind == 2) && x5.Token) then
            some (.inl (((⟨0, 0, []⟩ : TDiner), 132)))
          else
            Option.bind (α := Bool × Bool) (
              if a2.Kind == 1 then
                some (true, x5.Token)
              else
                some (x5.Fork, true)
            ) fun z6 =>
            Option.bind (narthexref13_Set N a0 s8_1 { x5 with Fork := z6.1, Token := z6.2 }) fun y7 =>
            some (.inl ((y7, 0)))
    else
      some (.inr (()))
def narthexref13_Get (N : Nat) (a0 : TDiner) (a1 : Int) (a2 : TMsg) : Option (TDiner × Int) :=
  Option.bind (narthexref13_Check N a0) fun y1 =>
  if !y1 then
    some ((⟨0, 0, []⟩ : TDiner), 130)
  else
    Option.bind (α := (TDiner × Int) ⊕ Unit) (
      narthexref13_Get_L1 N a0 a1 a2 N 0
    ) fun z2 =>
    match z2 with
    | .inl r3 =>
      some r3
    | .inr z4 =>
      some ((⟨0, 0, []⟩ : TDiner), 131)
-- narthex/narthexlaw13.DineGets
def narthexlaw13_DineGets (N : Nat) (a0 : TDiner) (a1 : Int) (a2 : TMsg) : Option (Bool) :=
  Option.bind (narthexlaw13_awake N) fun y1 =>
  if (!y1) || (decide ((a0.Sides.length : Int) > 70)) then
    Option.bind (narthexlaw13_awake N) fun y2 =>
    some y2
  else
    Option.bind (narthexlaw13_Own N a0) fun y3 =>
    Option.bind (dine_Get N y3 a1 a2) fun y4 =>
    Option.bind (narthexref13_Get N a0 a1 a2) fun y5 =>
    Option.bind (narthexref12_SameOne N y4.1 y5.1) fun y6 =>
    some (y6 && (y4.2 == y5.2))
-- narthex/narthexlaw13.DineTurns
def narthexlaw13_DineTurns (N : Nat) (a0 : TDiner) : Option (Bool) :=
  Option.bind (narthexlaw13_awake N) fun y1 =>
  if (!y1) || (decide ((a0.Sides.length : Int) > 70)) then
    Option.bind (narthexlaw13_awake N) fun y2 =>
    some y2
  else
    Option.bind (narthexlaw13_Own N a0) fun y3 =>
    Option.bind (dine_Start N y3) fun y4 =>
    Option.bind (narthexlaw13_Own N a0) fun y5 =>
    Option.bind (dine_Stop N y5) fun y6 =>
    Option.bind (narthexref13_Check N a0) fun y7 =>
    if !y7 then
      Option.bind (if ((y4.2 == 130) && (y6.2 == 130)) = true then narthexref12_SameOne N y4.1 (⟨0, 0, []⟩ : TDiner) else some default) fun y8 =>
      Option.bind (if (((y4.2 == 130) && (y6.2 == 130)) && y8) = true then narthexref12_SameOne N y6.1 (⟨0, 0, []⟩ : TDiner) else some default) fun y9 =>
      some ((((y4.2 == 130) && (y6.2 == 130)) && y8) && y9)
    else
      Option.bind (if (!(y4.2 != 0)) = true then narthexref12_SameOne N y4.1 { a0 with Phase := 1 } else some default) fun y10 =>
      if ((a0.Phase == 0) && ((y4.2 != 0) || (!y10))) || ((a0.Phase != 0) && (y4.2 != 134)) then
        some false
      else
        Option.bind (if ((a0.Phase == 2) && (y6.2 == 0)) = true then narthexref12_SameOne N y6.1 { a0 with Phase := 0 } else some default) fun y11 =>
        some ((((a0.Phase == 2) && (y6.2 == 0)) && y11) || ((a0.Phase != 2) && (y6.2 == 134)))
-- narthex/narthexlaw13.DineStill
def narthexlaw13_DineStill_L1 (N : Nat) (y4 : TDiner × (List TMail) × Int) : Nat → Bool → Int → Option (Bool ⊕ Bool)
  | 0, _, _ => none
  | n1 + 1, s9_1, s10_1 =>
    if decide (s10_1 < (y4.1.Sides.length : Int)) then
      Option.bind (at? y4.1.Sides s10_1) fun x10 =>
      if (((x10.Fork && x10.Dirty) && x10.Token) && (y4.1.Phase != 2)) || (((y4.1.Phase == 1) && (!x10.Fork)) && x10.Token) then
        some (.inl false)
      else
        narthexlaw13_DineStill_L1 N y4 n1 (s9_1 || (!x10.Fork)) (w64 (s10_1 + 1))
    else
      some (.inr s9_1)
def narthexlaw13_DineStill (N : Nat) (a0 : TDiner) : Option (Bool) :=
  Option.bind (narthexlaw13_awake N) fun y1 =>
  if (!y1) || (decide ((a0.Sides.length : Int) > 70)) then
    Option.bind (narthexlaw13_awake N) fun y2 =>
    some y2
  else
    Option.bind (narthexlaw13_Own N a0) fun y3 =>
    Option.bind (dine_Fire N y3) fun y4 =>
    if y4.2.2 != 0 then
      some true
    else
      Option.bind (narthexlaw13_Own N y4.1) fun y5 =>
      Option.bind (dine_Fire N y5) fun y6 =>
      Option.bind (α := Bool ⊕ Bool) (
        narthexlaw13_DineStill_L1 N y4 N false 0
      ) fun z7 =>
      match z7 with
      | .inl r8 =>
        some r8
      | .inr z9 =>
        Option.bind (if ((y6.2.2 == 0) && ((y6.2.1.length : Int) == 0)) = true then narthexref12_SameOne N y4.1 y6.1 else some default) fun y11 =>
        Option.bind (if ((((y6.2.2 == 0) && ((y6.2.1.length : Int) == 0)) && y11) && ((y4.1.Phase != 1) || z9)) = true then narthexlaw13_Own N y4.1 else some default) fun y12 =>
        Option.bind (if ((((y6.2.2 == 0) && ((y6.2.1.length : Int) == 0)) && y11) && ((y4.1.Phase != 1) || z9)) = true then dine_Check N y12 else some default) fun y13 =>
        some (((((y6.2.2 == 0) && ((y6.2.1.length : Int) == 0)) && y11) && ((y4.1.Phase != 1) || z9)) && (y13 == 0))
-- narthex/narthexlaw13.DineKeeps
def narthexlaw13_DineKeeps_L1 (N : Nat) (a0 : TDiner) (y4 : TDiner × (List TMail) × Int) : Nat → Int → Int → Option (Bool ⊕ Int)
  | 0, _, _ => none
  | n1 + 1, s6_1, s7_1 =>
    if decide (s7_1 < (y4.1.Sides.length : Int)) then
      Option.bind (at? a0.Sides s7_1) fun x8 =>
      Option.bind (at? y4.1.Sides s7_1) fun x9 =>
      Option.bind (α := Bool ⊕ Int) (
        if x8.Fork && (!x9.Fork) then
          Option.bind (if (!(((!x8.Dirty) || (!x8.Token)) || (decide (s6_1 ≥ (y4.2.1.length : Int))))) = true then at? y4.2.1 s6_1 else some default) fun x13 =>
          if (((!x8.Dirty) || (!x8.Token)) || (decide (s6_1 ≥ (y4.2.1.length : Int)))) || (!decide (x13 = (⟨a0.ID, x8.Peer, (⟨1, x8.Epoch, 0⟩ : TMsg)⟩ : TMail))) then
            some (.inl false)
          else
            some (.inr ((w64 (s6_1 + 1))))
        else
          some (.inr s6_1)
      ) fun z10 =>
      match z10 with
      | .inl r11 =>
        some (.inl r11)
      | .inr z12 =>
        Option.bind (α := Bool ⊕ Int) (
          if x8.Token && (!x9.Token) then
            Option.bind (if (!(x9.Fork || (decide (z12 ≥ (y4.2.1.length : Int))))) = true then at? y4.2.1 z12 else some default) fun x17 =>
            if (x9.Fork || (decide (z12 ≥ (y4.2.1.length : Int)))) || (!decide (x17 = (⟨a0.ID, x8.Peer, (⟨2, x8.Epoch, 0⟩ : TMsg)⟩ : TMail))) then
              some (.inl false)
            else
              some (.inr ((w64 (z12 + 1))))
          else
            some (.inr z12)
        ) fun z14 =>
        match z14 with
        | .inl r15 =>
          some (.inl r15)
        | .inr z16 =>
          if (((((((!x8.Fork) && x9.Fork) || ((!x8.Token) && x9.Token)) || (!(x8.Bottle == x9.Bottle))) || (!(x8.Ask == x9.Ask))) || (x8.State != x9.State)) || (x8.Peer != x9.Peer)) || (x8.Epoch != x9.Epoch) then
            some (.inl false)
          else
            narthexlaw13_DineKeeps_L1 N a0 y4 n1 z16 (w64 (s7_1 + 1))
    else
      some (.inr s6_1)
def narthexlaw13_DineKeeps (N : Nat) (a0 : TDiner) : Option (Bool) :=
  Option.bind (narthexlaw13_awake N) fun y1 =>
  if (!y1) || (decide ((a0.Sides.length : Int) > 70)) then
    Option.bind (narthexlaw13_awake N) fun y2 =>
    some y2
  else
    Option.bind (narthexlaw13_Own N a0) fun y3 =>
    Option.bind (dine_Fire N y3) fun y4 =>
    if (y4.2.2 != 0) || ((y4.1.Sides.length : Int) != (a0.Sides.length : Int)) then
      some (y4.2.2 != 0)
    else
      Option.bind (α := Bool ⊕ Int) (
        narthexlaw13_DineKeeps_L1 N a0 y4 N 0 0
      ) fun z5 =>
      match z5 with
      | .inl r6 =>
        some r6
      | .inr z7 =>
        some ((z7 == (y4.2.1.length : Int)) && (y4.1.ID == a0.ID))
-- narthex/narthexref12.Side
def narthexref12_Side_L1 (N : Nat) (a0 : TDiner) (a1 : Int) : Nat → Int → Option ((TSide × Bool) ⊕ Unit)
  | 0, _ => none
  | n1 + 1, s6_1 =>
    if decide (s6_1 < (a0.Sides.length : Int)) then
      Option.bind (at? a0.Sides s6_1) fun x4 =>
      if x4.Peer == a1 then
        Option.bind (at? a0.Sides s6_1) fun x5 =>
        some (.inl ((x5, true)))
      else
        narthexref12_Side_L1 N a0 a1 n1 (w64 (s6_1 + 1))
    else
      some (.inr (()))
def narthexref12_Side (N : Nat) (a0 : TDiner) (a1 : Int) : Option (TSide × Bool) :=
  Option.bind (α := (TSide × Bool) ⊕ Unit) (
    narthexref12_Side_L1 N a0 a1 N 0
  ) fun z1 =>
  match z1 with
  | .inl r2 =>
    some r2
  | .inr z3 =>
    some ((⟨0, 0, 0, false, false, false, false, false⟩ : TSide), false)
-- narthex/narthexlaw13.DineClean
def narthexlaw13_DineClean (N : Nat) (a0 : TDiner) (a1 : Int) (a2 : Int) : Option (Bool) :=
  Option.bind (narthexlaw13_awake N) fun y1 =>
  if (!y1) || (decide ((a0.Sides.length : Int) > 70)) then
    Option.bind (narthexlaw13_awake N) fun y2 =>
    some y2
  else
    Option.bind (narthexlaw13_Own N a0) fun y3 =>
    Option.bind (dine_Get N y3 a1 (⟨1, a2, 0⟩ : TMsg)) fun y4 =>
    if y4.2 != 0 then
      some true
    else
      Option.bind (narthexlaw13_Own N y4.1) fun y5 =>
      Option.bind (dine_Fire N y5) fun y6 =>
      Option.bind (narthexlaw13_Own N y6.1) fun y7 =>
      Option.bind (dine_Get N y7 a1 (⟨2, a2, 0⟩ : TMsg)) fun y8 =>
      Option.bind (narthexlaw13_Own N y8.1) fun y9 =>
      Option.bind (dine_Fire N y9) fun y10 =>
      Option.bind (narthexref12_Side N y6.1 a1) fun y11 =>
      Option.bind (narthexref12_Side N y10.1 a1) fun y12 =>
      some ((((y6.2.2 == 0) && y11.1.Fork) && (((y10.2.2 != 0) || ((y8.1.Sides.length : Int) == 0)) || y12.1.Fork)) && ((y11.1.Dirty == ((y6.1.Phase == 2) && (a0.Phase == 1))) || ((a0.Phase == 2) && (!y11.1.Dirty))))
-- narthex/narthexlaw13.DineRow
def narthexlaw13_DineRow_L1 (N : Nat) (y4 : TDiner × (List TMail) × Int) : Nat → Int → Option (Bool ⊕ Unit)
  | 0, _ => none
  | n1 + 1, s6_1 =>
    if decide (s6_1 < (y4.2.1.length : Int)) then
      Option.bind (at? y4.2.1 (w64 (s6_1 - 1))) fun x8 =>
      Option.bind (at? y4.2.1 s6_1) fun x9 =>
      if (decide (x8.To > x9.To)) || ((x8.To == x9.To) && ((x8.Msg.Kind != 1) || (x9.Msg.Kind != 2))) then
        some (.inl false)
      else
        narthexlaw13_DineRow_L1 N y4 n1 (w64 (s6_1 + 1))
    else
      some (.inr (()))
def narthexlaw13_DineRow (N : Nat) (a0 : TDiner) : Option (Bool) :=
  Option.bind (narthexlaw13_awake N) fun y1 =>
  if (!y1) || (decide ((a0.Sides.length : Int) > 70)) then
    Option.bind (narthexlaw13_awake N) fun y2 =>
    some y2
  else
    Option.bind (narthexlaw13_Own N a0) fun y3 =>
    Option.bind (dine_Fire N y3) fun y4 =>
    Option.bind (α := Bool ⊕ Unit) (
      narthexlaw13_DineRow_L1 N y4 N 1
    ) fun z5 =>
    match z5 with
    | .inl r6 =>
      some r6
    | .inr z7 =>
      some ((y4.2.2 == 0) || ((y4.2.1.length : Int) == 0))
end Go.Proofs.Ytcnbkfgajnlbpaa
