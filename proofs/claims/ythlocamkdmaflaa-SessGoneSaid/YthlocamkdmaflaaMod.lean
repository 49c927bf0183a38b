/- Models of the functions, and what is known of data that came in. -/
import Derived.Test.YthlocamkdmaflaaFwE
namespace Go.Proofs.Ythlocamkdmaflaa
open Go Go.Nx
set_option linter.unusedVariables false
set_option linter.unusedSimpArgs false
set_option linter.unnecessarySimpa false
set_option maxRecDepth 8000
structure TSess where
  ID : Int
  Need : List Int
  State : Int
  Age : Int
  deriving DecidableEq, Inhabited
structure TBook where
  Last : Int
  Sess : List TSess
  deriving DecidableEq, Inhabited
structure Tnarthexlaw17_Act where
  K : Int
  ID : Int
  N : Int
  Need : List Int
  deriving DecidableEq, Inhabited
def eI (x : Int) : List Leaf := [I x]
def eSess (x : TSess) : List Leaf := [I x.ID, .slv (x.Need.map eI), I x.State, I x.Age]
def eBook (x : TBook) : List Leaf := [I x.Last, .slv (x.Sess.map eSess)]
def enarthexlaw17_Act (x : Tnarthexlaw17_Act) : List Leaf := [I x.K, I x.ID, I x.N, .slv (x.Need.map eI)]
def kSess (x : TSess) : Prop := (Lit.int .i64 x.ID).wf = true ∧ (x.Need.length ≤ maxLen ∧ ∀ y ∈ x.Need, (Lit.int .i64 y).wf = true) ∧ (Lit.int .i64 x.State).wf = true ∧ (Lit.int .i64 x.Age).wf = true
def kBook (x : TBook) : Prop := (Lit.int .i64 x.Last).wf = true ∧ (x.Sess.length ≤ maxLen ∧ ∀ y ∈ x.Sess, kSess y)
def knarthexlaw17_Act (x : Tnarthexlaw17_Act) : Prop := (Lit.int .i64 x.K).wf = true ∧ (Lit.int .i64 x.ID).wf = true ∧ (Lit.int .i64 x.N).wf = true ∧ (x.Need.length ≤ maxLen ∧ ∀ y ∈ x.Need, (Lit.int .i64 y).wf = true)
def slices_Clone_int (N : Nat) (a0 : List Int) : Option (List Int) := app? [] a0
-- narthex/set.Of
def set_Of (N : Nat) (a0 : List Int) : Option ((List Int)) :=
  Option.bind (slices_Clone_int N a0) fun y1 =>
  Option.bind (sort? y1) fun x2 =>
  Option.bind (ded? x2) fun x3 =>
  some x3
-- narthex/sess.odd$1
def sess_odd_1 (N : Nat) (a0 : Int) : Option (Bool) :=
  some (decide (a0 < 0))
-- slices.IndexFunc[[]int,int]
def slices_IndexFunc_int_L1 (N : Nat) (a0 : List Int) : Nat → Int → Option (Int ⊕ Unit)
  | 0, _ => none
  | n1 + 1, s8_1 =>
    if decide (s8_1 < (a0.length : Int)) then
      Option.bind (at? a0 s8_1) fun x4 =>
      Option.bind (sess_odd_1 N x4) fun y5 =>
      if y5 then
        some (.inl s8_1)
      else
        slices_IndexFunc_int_L1 N a0 n1 (w64 (s8_1 + 1))
    else
      some (.inr (()))
def slices_IndexFunc_int (N : Nat) (a0 : List Int) : Option (Int) :=
  Option.bind (α := Int ⊕ Unit) (
    slices_IndexFunc_int_L1 N a0 N 0
  ) fun z1 =>
  match z1 with
  | .inl r2 =>
    some r2
  | .inr z3 =>
    some (-1)
-- slices.ContainsFunc[[]int,int]
def slices_ContainsFunc_int (N : Nat) (a0 : List Int) : Option (Bool) :=
  Option.bind (slices_IndexFunc_int N a0) fun y1 =>
  some (decide (y1 ≥ 0))
-- narthex/sess.odd
def sess_odd (N : Nat) (a0 : List Int) : Option (Bool) :=
  Option.bind (if (!(decide ((a0.length : Int) > 64))) = true then slices_ContainsFunc_int N a0 else some default) fun y1 =>
  some ((decide ((a0.length : Int) > 64)) || y1)
-- narthex/set.Valid
def set_Valid_L1 (N : Nat) (a0 : List Int) : Nat → Int → Option (Bool ⊕ Unit)
  | 0, _ => none
  | n1 + 1, s6_1 =>
    if decide (s6_1 < (a0.length : Int)) then
      Option.bind (if (decide (s6_1 > 0)) = true then at? a0 (w64 (s6_1 - 1)) else some default) fun x4 =>
      Option.bind (if (decide (s6_1 > 0)) = true then at? a0 s6_1 else some default) fun x5 =>
      if (decide (s6_1 > 0)) && (decide (x4 ≥ x5)) then
        some (.inl false)
      else
        set_Valid_L1 N a0 n1 (w64 (s6_1 + 1))
    else
      some (.inr (()))
def set_Valid (N : Nat) (a0 : List Int) : Option (Bool) :=
  Option.bind (α := Bool ⊕ Unit) (
    set_Valid_L1 N a0 N 0
  ) fun z1 =>
  match z1 with
  | .inl r2 =>
    some r2
  | .inr z3 =>
    some true
-- narthex/sess.Check
def sess_Check_L1 (N : Nat) (a0 : TBook) : Nat → Int → Int → Option (Int ⊕ Unit)
  | 0, _, _ => none
  | n1 + 1, s3_1, s19_1 =>
    if decide (s19_1 < (a0.Sess.length : Int)) then
      Option.bind (at? a0.Sess s19_1) fun x4 =>
      Option.bind (α := Bool) (
        if decide (x4.ID ≤ s3_1) then
          some (decide (x4.ID ≤ s3_1))
        else
          if decide (x4.ID > a0.Last) then
            some (decide (x4.ID > a0.Last))
          else
            Option.bind (sess_odd N x4.Need) fun y6 =>
            if y6 then
              some y6
            else
              Option.bind (set_Valid N x4.Need) fun y7 =>
              if !y7 then
                some (!y7)
              else
                some (decide (x4.Age < 0))
      ) fun z5 =>
      if z5 then
        some (.inl 170)
      else
        if (!((x4.State == 1) && (s19_1 == 0))) && ((x4.State != 0) || (x4.Age != 0)) then
          some (.inl 170)
        else
          sess_Check_L1 N a0 n1 x4.ID (w64 (s19_1 + 1))
    else
      some (.inr (()))
def sess_Check (N : Nat) (a0 : TBook) : Option (Int) :=
  if (decide (a0.Last < 0)) || (decide ((a0.Sess.length : Int) > 8)) then
    some 170
  else
    Option.bind (α := Int ⊕ Unit) (
      sess_Check_L1 N a0 N 0 0
    ) fun z1 =>
    match z1 with
    | .inl r2 =>
      some r2
    | .inr z3 =>
      some 0
def slices_Clone_Sess (N : Nat) (a0 : List TSess) : Option (List TSess) := app? [] a0
-- narthex/sess.own
def sess_own_L1 (N : Nat) (y1 : List TSess) : Nat → (List TSess) → Int → Option ((List TSess))
  | 0, _, _ => none
  | n1 + 1, l1_1, s11_1 =>
    if decide (s11_1 < (y1.length : Int)) then
      Option.bind (at? l1_1 s11_1) fun x3 =>
      Option.bind (slices_Clone_int N x3.Need) fun y4 =>
      Option.bind (at? l1_1 s11_1) fun x5 =>
      sess_own_L1 N y1 n1 (l1_1.set s11_1.toNat { x5 with Need := y4 }) (w64 (s11_1 + 1))
    else
      some l1_1
def sess_own (N : Nat) (a0 : TBook) : Option (TBook) :=
  Option.bind (slices_Clone_Sess N a0.Sess) fun y1 =>
  Option.bind (α := (List TSess)) (
    sess_own_L1 N y1 N y1 0
  ) fun z2 =>
  some { a0 with Sess := z2 }
-- narthex/sess.Open
def sess_Open (N : Nat) (a0 : TBook) (a1 : Int) (a2 : List Int) : Option (TBook × Int) :=
  Option.bind (set_Of N a2) fun y1 =>
  Option.bind (sess_Check N a0) fun y2 =>
  Option.bind (α := Int) (
    if y2 != 0 then
      some y2
    else
      if decide (a1 ≤ a0.Last) then
        some 171
      else
        Option.bind (sess_odd N y1) fun y4 =>
        if y4 then
          some 172
        else
          if (a0.Sess.length : Int) == 8 then
            some 173
          else
            some y2
  ) fun z3 =>
  if z3 != 0 then
    some ((⟨0, []⟩ : TBook), z3)
  else
    Option.bind (sess_own N a0) fun y5 =>
    Option.bind (app? y5.Sess [(⟨a1, y1, 0, 0⟩ : TSess)]) fun x6 =>
    some ((⟨a1, x6⟩ : TBook), 0)
-- narthex/sess.Grant
def sess_Grant (N : Nat) (a0 : TBook) : Option (TBook × Int × Int) :=
  Option.bind (sess_Check N a0) fun y1 =>
  if y1 != 0 then
    some ((⟨0, []⟩ : TBook), 0, y1)
  else
    Option.bind (if (!((a0.Sess.length : Int) == 0)) = true then at? a0.Sess 0 else some default) fun x2 =>
    if ((a0.Sess.length : Int) == 0) || (x2.State == 1) then
      some ((⟨0, []⟩ : TBook), 0, 175)
    else
      Option.bind (sess_own N a0) fun y3 =>
      Option.bind (at? y3.Sess 0) fun x4 =>
      Option.bind (at? (y3.Sess.set (Int.toNat 0) { x4 with State := 1 }) 0) fun x5 =>
      some ({ y3 with Sess := y3.Sess.set (Int.toNat 0) { x4 with State := 1 } }, x5.ID, 0)
-- narthex/sess.find$1
def sess_find_1 (N : Nat) (a0 : TSess) (c0_0 : Int) (c0_1 : List TSess) (c1_0 : Int) : Option (Bool) :=
  some (a0.ID == c1_0)
-- slices.IndexFunc[[]narthex/api.Sess,narthex/api.Sess]
def slices_IndexFunc_Sess_L1 (N : Nat) (a0 : List TSess) (c0_0 : Int) (c0_1 : List TSess) (c1_0 : Int) : Nat → Int → Option (Int ⊕ Unit)
  | 0, _ => none
  | n1 + 1, s8_1 =>
    if decide (s8_1 < (a0.length : Int)) then
      Option.bind (at? a0 s8_1) fun x4 =>
      Option.bind (sess_find_1 N x4 c0_0 c0_1 c1_0) fun y5 =>
      if y5 then
        some (.inl s8_1)
      else
        slices_IndexFunc_Sess_L1 N a0 c0_0 c0_1 c1_0 n1 (w64 (s8_1 + 1))
    else
      some (.inr (()))
def slices_IndexFunc_Sess (N : Nat) (a0 : List TSess) (c0_0 : Int) (c0_1 : List TSess) (c1_0 : Int) : Option (Int) :=
  Option.bind (α := Int ⊕ Unit) (
    slices_IndexFunc_Sess_L1 N a0 c0_0 c0_1 c1_0 N 0
  ) fun z1 =>
  match z1 with
  | .inl r2 =>
    some r2
  | .inr z3 =>
    some (-1)
-- narthex/sess.find
def sess_find (N : Nat) (a0 : TBook) (a1 : Int) : Option (Int) :=
  Option.bind (slices_IndexFunc_Sess N a0.Sess a0.Last a0.Sess a1) fun y1 =>
  some y1
-- narthex/sess.Poll
def sess_Poll (N : Nat) (a0 : TBook) (a1 : Int) : Option (Int × Int) :=
  Option.bind (sess_Check N a0) fun y1 =>
  if y1 != 0 then
    some (0, y1)
  else
    Option.bind (sess_find N a0 a1) fun y2 =>
    if decide (y2 < 0) then
      some (0, 174)
    else
      Option.bind (at? a0.Sess y2) fun x3 =>
      some (x3.State, 0)
-- slices.Delete[[]narthex/api.Sess,narthex/api.Sess]
def slices_Delete_Sess (N : Nat) (a1 : Int) (a2 : Int) (c0_0 : Int) (c1_0 : Int) (l2 : List TSess) : Option ((List TSess)) :=
  Option.bind (sub3? l2.length a1 a2 (l2.length : Int)) fun x1 =>
  if a1 == a2 then
    some l2
  else
    Option.bind (sub? l2 0 a1) fun x2 =>
    Option.bind (sub? l2 a2 (l2.length : Int)) fun x3 =>
    Option.bind (subB? (cpy l2 (0 + x2.length) ((l2.drop (Int.toNat a2)).take x3.length).length ((l2.drop (Int.toNat a2)).take x3.length)).length 0 ((x2.length + ((l2.drop (Int.toNat a2)).take x3.length).length) : Int) (l2.length : Int)) fun x4 =>
    some (((clr (cpy l2 (0 + x2.length) ((l2.drop (Int.toNat a2)).take x3.length).length ((l2.drop (Int.toNat a2)).take x3.length)) (0 + Int.toNat ((x2.length + ((l2.drop (Int.toNat a2)).take x3.length).length) : Int)) (Int.toNat (l2.length : Int) - Int.toNat ((x2.length + ((l2.drop (Int.toNat a2)).take x3.length).length) : Int)) (⟨0, [], 0, 0⟩ : TSess)).drop 0).take (x2.length + ((l2.drop (Int.toNat a2)).take x3.length).length))
-- narthex/sess.end
def sess_end (N : Nat) (a0 : TBook) (a1 : Int) (a2 : Int) : Option (TBook × Int) :=
  Option.bind (sess_Poll N a0 a1) fun y1 =>
  Option.bind (α := Int) (
    if (y1.2 == 0) && (y1.1 != a2) then
      some 175
    else
      some y1.2
  ) fun z2 =>
  if z2 != 0 then
    some ((⟨0, []⟩ : TBook), z2)
  else
    Option.bind (sess_own N a0) fun y3 =>
    Option.bind (sess_find N y3 a1) fun y4 =>
    Option.bind (sess_find N y3 a1) fun y5 =>
    Option.bind (slices_Delete_Sess N y4 (w64 (y5 + 1)) y3.Last 0 y3.Sess) fun y6 =>
    some ({ y3 with Sess := y6 }, 0)
-- narthex/sess.Release
def sess_Release (N : Nat) (a0 : TBook) (a1 : Int) : Option (TBook × Int) :=
  Option.bind (sess_end N a0 a1 1) fun y1 =>
  some (y1.1, y1.2)
-- narthex/sess.Tick
def sess_Tick (N : Nat) (a0 : TBook) (a1 : Int) : Option (TBook × Int × Int) :=
  Option.bind (sess_Check N a0) fun y1 =>
  if y1 != 0 then
    some ((⟨0, []⟩ : TBook), 0, y1)
  else
    Option.bind (sess_own N a0) fun y2 =>
    Option.bind (if (!((y2.Sess.length : Int) == 0)) = true then at? y2.Sess 0 else some default) fun x3 =>
    if ((y2.Sess.length : Int) == 0) || (x3.State != 1) then
      some (y2, 0, 0)
    else
      Option.bind (at? y2.Sess 0) fun x4 =>
      if decide ((max x4.Age (w64 ((min x4.Age 4611686018427387903) + 1))) < a1) then
        some ({ y2 with Sess := y2.Sess.set (Int.toNat 0) { x4 with Age := max x4.Age (w64 ((min x4.Age 4611686018427387903) + 1)) } }, 0, 0)
      else
        Option.bind (slices_Delete_Sess N 0 1 y2.Last 0 (y2.Sess.set (Int.toNat 0) { x4 with Age := max x4.Age (w64 ((min x4.Age 4611686018427387903) + 1)) })) fun y5 =>
        some ({ y2 with Sess := y5 }, x4.ID, 0)
-- slices.Index[[]int,int]
def slices_Index_int_L1 (N : Nat) (a0 : List Int) (a1 : Int) : Nat → Int → Option (Int ⊕ Unit)
  | 0, _ => none
  | n1 + 1, s8_1 =>
    if decide (s8_1 < (a0.length : Int)) then
      Option.bind (at? a0 s8_1) fun x4 =>
      if a1 == x4 then
        some (.inl s8_1)
      else
        slices_Index_int_L1 N a0 a1 n1 (w64 (s8_1 + 1))
    else
      some (.inr (()))
def slices_Index_int (N : Nat) (a0 : List Int) (a1 : Int) : Option (Int) :=
  Option.bind (α := Int ⊕ Unit) (
    slices_Index_int_L1 N a0 a1 N 0
  ) fun z1 =>
  match z1 with
  | .inl r2 =>
    some r2
  | .inr z3 =>
    some (-1)
-- slices.Contains[[]int,int]
def slices_Contains_int (N : Nat) (a0 : List Int) (a1 : Int) : Option (Bool) :=
  Option.bind (slices_Index_int N a0 a1) fun y1 =>
  some (decide (y1 ≥ 0))
-- narthex/set.Has
def set_Has (N : Nat) (a0 : List Int) (a1 : Int) : Option (Bool) :=
  Option.bind (slices_Contains_int N a0 a1) fun y1 =>
  some y1
-- narthex/sess.Gone$1
def sess_Gone_1 (N : Nat) (a0 : TSess) (c0_0 : Int) (c1_0 : Int) (c2_0 : Int) (l4 : List TSess) (l5 : List Int) : Option (Bool × (List Int)) :=
  Option.bind (if (a0.State == 0) = true then set_Has N a0.Need c1_0 else some default) fun y1 =>
  if (a0.State == 0) && y1 then
    Option.bind (app? l5 [a0.ID]) fun x2 =>
    some ((a0.State == 0) && y1, x2)
  else
    some ((a0.State == 0) && y1, l5)
-- slices.IndexFunc[[]narthex/api.Sess,narthex/api.Sess]
def slices_IndexFunc_Sess_2_L1 (N : Nat) (c0_0 : Int) (c1_0 : Int) (c2_0 : Int) (l4 : List TSess) : Nat → (List Int) → Int → Option ((Int × (List Int)) ⊕ ((List Int)))
  | 0, _, _ => none
  | n1 + 1, l5_1, s8_1 =>
    if decide (s8_1 < (l4.length : Int)) then
      Option.bind (at? l4 s8_1) fun x4 =>
      Option.bind (sess_Gone_1 N x4 c0_0 c1_0 c2_0 l4 l5_1) fun y5 =>
      if y5.1 then
        some (.inl ((s8_1, y5.2)))
      else
        slices_IndexFunc_Sess_2_L1 N c0_0 c1_0 c2_0 l4 n1 y5.2 (w64 (s8_1 + 1))
    else
      some (.inr l5_1)
def slices_IndexFunc_Sess_2 (N : Nat) (c0_0 : Int) (c1_0 : Int) (c2_0 : Int) (l4 : List TSess) (l5 : List Int) : Option (Int × (List Int)) :=
  Option.bind (α := (Int × (List Int)) ⊕ ((List Int))) (
    slices_IndexFunc_Sess_2_L1 N c0_0 c1_0 c2_0 l4 N l5 0
  ) fun z1 =>
  match z1 with
  | .inl r2 =>
    some r2
  | .inr z3 =>
    some ((-1), z3)
-- narthex/sess.Gone$1
def sess_Gone_1_2 (N : Nat) (a0 : TSess) (c0_0 : Int) (c1_0 : Int) (c2_0 : Int) (l4 : List TSess) (l5 : List Int) (c6_0 : Int) (c6_1 : List Int) (c6_2 : Int) (c6_3 : Int) : Option (Bool × (List Int)) :=
  Option.bind (if (a0.State == 0) = true then set_Has N a0.Need c1_0 else some default) fun y1 =>
  if (a0.State == 0) && y1 then
    Option.bind (app? l5 [a0.ID]) fun x2 =>
    some ((a0.State == 0) && y1, x2)
  else
    some ((a0.State == 0) && y1, l5)
-- slices.DeleteFunc[[]narthex/api.Sess,narthex/api.Sess]
def slices_DeleteFunc_Sess_L1 (N : Nat) (c0_0 : Int) (c1_0 : Int) (c2_0 : Int) : Nat → (List TSess) → (List Int) → Int → Int → Option ((List TSess) × (List Int) × Int)
  | 0, _, _, _, _ => none
  | n1 + 1, l4_1, l5_1, s5_1, s6_1 =>
    if decide (s6_1 < (l4_1.length : Int)) then
      Option.bind (at? l4_1 s6_1) fun x4 =>
      Option.bind (sess_Gone_1_2 N x4 c0_0 c1_0 c2_0 l4_1 l5_1 x4.ID x4.Need x4.State x4.Age) fun y5 =>
      if !y5.1 then
        Option.bind (at? l4_1 s5_1) fun x7 =>
        slices_DeleteFunc_Sess_L1 N c0_0 c1_0 c2_0 n1 (l4_1.set s5_1.toNat x4) y5.2 (w64 (s5_1 + 1)) (w64 (s6_1 + 1))
      else
        slices_DeleteFunc_Sess_L1 N c0_0 c1_0 c2_0 n1 l4_1 y5.2 s5_1 (w64 (s6_1 + 1))
    else
      some (l4_1, l5_1, s5_1)
def slices_DeleteFunc_Sess (N : Nat) (c0_0 : Int) (c1_0 : Int) (c2_0 : Int) (l4 : List TSess) (l5 : List Int) : Option ((List Int) × (List TSess)) :=
  Option.bind (slices_IndexFunc_Sess_2 N c0_0 c1_0 c2_0 l4 l5) fun y1 =>
  if y1.1 == (-1) then
    some (y1.2, l4)
  else
    Option.bind (α := (List TSess) × (List Int) × Int) (
      slices_DeleteFunc_Sess_L1 N c0_0 c1_0 c2_0 N l4 y1.2 y1.1 (w64 (y1.1 + 1))
    ) fun z3 =>
    Option.bind (sub? z3.1 z3.2.2 (z3.1.length : Int)) fun x8 =>
    Option.bind (sub? (clr z3.1 (Int.toNat z3.2.2) x8.length (⟨0, [], 0, 0⟩ : TSess)) 0 z3.2.2) fun x9 =>
    some (z3.2.1, x9)
-- narthex/sess.Gone
def sess_Gone (N : Nat) (a0 : TBook) (a1 : Int) : Option (TBook × (List Int) × Int) :=
  Option.bind (sess_Check N a0) fun y1 =>
  if y1 != 0 then
    some ((⟨0, []⟩ : TBook), [], y1)
  else
    Option.bind (sess_own N a0) fun y2 =>
    Option.bind (slices_DeleteFunc_Sess N y2.Last a1 0 y2.Sess ([] : List Int)) fun y3 =>
    some ({ y2 with Sess := y3.2 }, y3.1, 0)
-- narthex/sess.Cancel
def sess_Cancel (N : Nat) (a0 : TBook) (a1 : Int) : Option (TBook × Int) :=
  Option.bind (sess_end N a0 a1 0) fun y1 =>
  some (y1.1, y1.2)
-- narthex/narthexref01.Same
def narthexref01_Same_L1 (N : Nat) (a0 : List Int) (a1 : List Int) : Nat → Int → Option (Bool ⊕ Unit)
  | 0, _ => none
  | n1 + 1, s5_1 =>
    if decide (s5_1 < (a0.length : Int)) then
      Option.bind (at? a0 s5_1) fun x4 =>
      Option.bind (at? a1 s5_1) fun x5 =>
      if x4 != x5 then
        some (.inl false)
      else
        narthexref01_Same_L1 N a0 a1 n1 (w64 (s5_1 + 1))
    else
      some (.inr (()))
def narthexref01_Same (N : Nat) (a0 : List Int) (a1 : List Int) : Option (Bool) :=
  if (a0.length : Int) != (a1.length : Int) then
    some false
  else
    Option.bind (α := Bool ⊕ Unit) (
      narthexref01_Same_L1 N a0 a1 N 0
    ) fun z1 =>
    match z1 with
    | .inl r2 =>
      some r2
    | .inr z3 =>
      some true
-- slices.Equal[[]int,int]
def slices_Equal_int_L1 (N : Nat) (a0 : List Int) (a1 : List Int) : Nat → Int → Option (Bool ⊕ Unit)
  | 0, _ => none
  | n1 + 1, s13_1 =>
    if decide (s13_1 < (a0.length : Int)) then
      Option.bind (at? a0 s13_1) fun x4 =>
      Option.bind (at? a1 s13_1) fun x5 =>
      if x4 != x5 then
        some (.inl false)
      else
        slices_Equal_int_L1 N a0 a1 n1 (w64 (s13_1 + 1))
    else
      some (.inr (()))
def slices_Equal_int (N : Nat) (a0 : List Int) (a1 : List Int) : Option (Bool) :=
  if (a0.length : Int) != (a1.length : Int) then
    some false
  else
    Option.bind (α := Bool ⊕ Unit) (
      slices_Equal_int_L1 N a0 a1 N 0
    ) fun z1 =>
    match z1 with
    | .inl r2 =>
      some r2
    | .inr z3 =>
      some true
-- narthex/sess.Same$1
def sess_Same_1 (N : Nat) (a0 : TSess) (a1 : TSess) : Option (Bool) :=
  Option.bind (if (((a0.ID == a1.ID) && (a0.State == a1.State)) && (a0.Age == a1.Age)) = true then slices_Equal_int N a0.Need a1.Need else some default) fun y1 =>
  some ((((a0.ID == a1.ID) && (a0.State == a1.State)) && (a0.Age == a1.Age)) && y1)
-- slices.EqualFunc[[]narthex/api.Sess,[]narthex/api.Sess,narthex/api.Sess,narthex/api.Sess]
def slices_EqualFunc_Sess_L1 (N : Nat) (a0 : List TSess) (a1 : List TSess) : Nat → Int → Option (Bool ⊕ Unit)
  | 0, _ => none
  | n1 + 1, s17_1 =>
    if decide (s17_1 < (a0.length : Int)) then
      Option.bind (at? a0 s17_1) fun x4 =>
      Option.bind (at? a1 s17_1) fun x5 =>
      Option.bind (sess_Same_1 N x4 x5) fun y6 =>
      if !y6 then
        some (.inl false)
      else
        slices_EqualFunc_Sess_L1 N a0 a1 n1 (w64 (s17_1 + 1))
    else
      some (.inr (()))
def slices_EqualFunc_Sess (N : Nat) (a0 : List TSess) (a1 : List TSess) : Option (Bool) :=
  if (a0.length : Int) != (a1.length : Int) then
    some false
  else
    Option.bind (α := Bool ⊕ Unit) (
      slices_EqualFunc_Sess_L1 N a0 a1 N 0
    ) fun z1 =>
    match z1 with
    | .inl r2 =>
      some r2
    | .inr z3 =>
      some true
-- narthex/sess.Same
def sess_Same (N : Nat) (a0 : TBook) (a1 : TBook) : Option (Bool) :=
  Option.bind (if (a0.Last == a1.Last) = true then slices_EqualFunc_Sess N a0.Sess a1.Sess else some default) fun y1 =>
  some ((a0.Last == a1.Last) && y1)
-- narthex/narthexlaw17.awake
def narthexlaw17_awake (N : Nat) : Option (Bool) :=
  Option.bind (sess_Open N (⟨0, []⟩ : TBook) 3 [1]) fun y1 =>
  Option.bind (sess_Open N y1.1 5 [2, 1, 2]) fun y2 =>
  Option.bind (sess_Grant N y2.1) fun y3 =>
  Option.bind (sess_Poll N y3.1 3) fun y4 =>
  Option.bind (sess_Release N y3.1 3) fun y5 =>
  Option.bind (sess_Grant N y5.1) fun y6 =>
  Option.bind (sess_Tick N y3.1 1) fun y7 =>
  Option.bind (sess_Gone N y3.1 2) fun y8 =>
  Option.bind (sess_Cancel N y3.1 3) fun y9 =>
  if y1.2 == 0 then
    if y2.2 == 0 then
      if y3.2.2 == 0 then
        if y3.2.1 == 3 then
          if y4.1 == 1 then
            if y4.2 == 0 then
              if y5.2 == 0 then
                if y6.2.1 == 5 then
                  if y6.2.2 == 0 then
                    if y7.2.1 == 3 then
                      if y7.2.2 == 0 then
                        if (y7.1.Sess.length : Int) == 1 then
                          if y8.2.2 == 0 then
                            if (y8.1.Sess.length : Int) == 1 then
                              Option.bind (narthexref01_Same N y8.2.1 [5]) fun y10 =>
                              if y10 then
                                if y9.2 == 175 then
                                  Option.bind (sess_Check N y3.1) fun y11 =>
                                  if y11 == 0 then
                                    Option.bind (sess_Same N y3.1 y3.1) fun y12 =>
                                    if y12 then
                                      Option.bind (sess_Same N y3.1 y5.1) fun y13 =>
                                      some (!y13)
                                    else
                                      some false
                                  else
                                    some false
                                else
                                  some false
                              else
                                some false
                            else
                              some false
                          else
                            some false
                        else
                          some false
                      else
                        some false
                    else
                      some false
                  else
                    some false
                else
                  some false
              else
                some false
            else
              some false
          else
            some false
        else
          some false
      else
        some false
    else
      some false
  else
    some false
-- narthex/narthexref17.Few
def narthexref17_Few_L1 (N : Nat) (a0 : TBook) : Nat → Int → Option (Bool ⊕ Unit)
  | 0, _ => none
  | n1 + 1, s3_1 =>
    if (decide (s3_1 < (a0.Sess.length : Int))) && (decide (s3_1 < 13)) then
      Option.bind (at? a0.Sess s3_1) fun x4 =>
      if decide ((x4.Need.length : Int) > 70) then
        some (.inl false)
      else
        narthexref17_Few_L1 N a0 n1 (w64 (s3_1 + 1))
    else
      some (.inr (()))
def narthexref17_Few (N : Nat) (a0 : TBook) : Option (Bool) :=
  Option.bind (α := Bool ⊕ Unit) (
    narthexref17_Few_L1 N a0 N 0
  ) fun z1 =>
  match z1 with
  | .inl r2 =>
    some r2
  | .inr z3 =>
    some (decide ((a0.Sess.length : Int) ≤ 12))
-- narthex/narthexlaw17.few
def narthexlaw17_few_L1 (N : Nat) (a0 : List Tnarthexlaw17_Act) : Nat → Int → Option (Bool ⊕ Unit)
  | 0, _ => none
  | n1 + 1, s3_1 =>
    if (decide (s3_1 < (a0.length : Int))) && (decide (s3_1 < 61)) then
      Option.bind (at? a0 s3_1) fun x4 =>
      if decide ((x4.Need.length : Int) > 70) then
        some (.inl false)
      else
        narthexlaw17_few_L1 N a0 n1 (w64 (s3_1 + 1))
    else
      some (.inr (()))
def narthexlaw17_few (N : Nat) (a0 : List Tnarthexlaw17_Act) : Option (Bool) :=
  Option.bind (α := Bool ⊕ Unit) (
    narthexlaw17_few_L1 N a0 N 0
  ) fun z1 =>
  match z1 with
  | .inl r2 =>
    some r2
  | .inr z3 =>
    some (decide ((a0.length : Int) ≤ 60))
-- narthex/narthexlaw17.Own
def narthexlaw17_Own_L1 (N : Nat) (a0 : TBook) : Nat → (List TSess) → Int → Option ((List TSess))
  | 0, _, _ => none
  | n1 + 1, l3_1, s4_1 =>
    if decide (s4_1 < (a0.Sess.length : Int)) then
      Option.bind (at? a0.Sess s4_1) fun x2 =>
      Option.bind (app? ([] : List Int) x2.Need) fun x3 =>
      Option.bind (app? l3_1 [{ x2 with Need := x3 }]) fun x4 =>
      narthexlaw17_Own_L1 N a0 n1 x4 (w64 (s4_1 + 1))
    else
      some l3_1
def narthexlaw17_Own (N : Nat) (a0 : TBook) : Option (TBook) :=
  Option.bind (α := (List TSess)) (
    narthexlaw17_Own_L1 N a0 N ([] : List TSess) 0
  ) fun z1 =>
  some { a0 with Sess := z1 }
-- narthex/narthexlaw17.act
def narthexlaw17_act (N : Nat) (a0 : TBook) (a1 : Tnarthexlaw17_Act) : Option (TBook × (List Int) × Int) :=
  if a1.K == 0 then
    Option.bind (app? ([] : List Int) a1.Need) fun x1 =>
    Option.bind (sess_Open N a0 a1.ID x1) fun y2 =>
    some (y2.1, [], y2.2)
  else
    if a1.K == 1 then
      Option.bind (sess_Grant N a0) fun y3 =>
      some (y3.1, [y3.2.1], y3.2.2)
    else
      if a1.K == 2 then
        Option.bind (sess_Release N a0 a1.ID) fun y4 =>
        some (y4.1, [], y4.2)
      else
        if a1.K == 3 then
          Option.bind (sess_Cancel N a0 a1.ID) fun y5 =>
          some (y5.1, [], y5.2)
        else
          if a1.K == 4 then
            Option.bind (sess_Tick N a0 a1.N) fun y6 =>
            some (y6.1, [y6.2.1], y6.2.2)
          else
            Option.bind (sess_Gone N a0 a1.N) fun y7 =>
            some (y7.1, y7.2.1, y7.2.2)
-- narthex/narthexref17.need
def narthexref17_need_L1 (N : Nat) (a0 : List Int) : Nat → Int → Option (Bool ⊕ Unit)
  | 0, _ => none
  | n1 + 1, s3_1 =>
    if decide (s3_1 < (a0.length : Int)) then
      Option.bind (at? a0 s3_1) fun x4 =>
      Option.bind (if ((!(decide (x4 < 0))) && (decide (s3_1 > 0))) = true then at? a0 (w64 (s3_1 - 1)) else some default) fun x5 =>
      Option.bind (if ((!(decide (x4 < 0))) && (decide (s3_1 > 0))) = true then at? a0 s3_1 else some default) fun x6 =>
      if (decide (x4 < 0)) || ((decide (s3_1 > 0)) && (decide (x5 ≥ x6))) then
        some (.inl false)
      else
        narthexref17_need_L1 N a0 n1 (w64 (s3_1 + 1))
    else
      some (.inr (()))
def narthexref17_need (N : Nat) (a0 : List Int) : Option (Bool) :=
  Option.bind (α := Bool ⊕ Unit) (
    narthexref17_need_L1 N a0 N 0
  ) fun z1 =>
  match z1 with
  | .inl r2 =>
    some r2
  | .inr z3 =>
    some (decide ((a0.length : Int) ≤ 64))
-- narthex/narthexref17.Check
def narthexref17_Check_L1 (N : Nat) (a0 : TBook) : Nat → Int → Option (Bool ⊕ Unit)
  | 0, _ => none
  | n1 + 1, s3_1 =>
    if decide (s3_1 < (a0.Sess.length : Int)) then
      Option.bind (at? a0.Sess s3_1) fun x4 =>
      Option.bind (if ((!((decide (x4.ID < 1)) || (decide (x4.ID > a0.Last)))) && (decide (s3_1 > 0))) = true then at? a0.Sess (w64 (s3_1 - 1)) else some default) fun x5 =>
      Option.bind (if (!(((decide (x4.ID < 1)) || (decide (x4.ID > a0.Last))) || ((decide (s3_1 > 0)) && (decide (x5.ID ≥ x4.ID))))) = true then narthexref17_need N x4.Need else some default) fun y6 =>
      if ((((decide (x4.ID < 1)) || (decide (x4.ID > a0.Last))) || ((decide (s3_1 > 0)) && (decide (x5.ID ≥ x4.ID)))) || (!y6)) || (decide (x4.Age < 0)) then
        some (.inl false)
      else
        if (x4.State == 0) && (x4.Age == 0) then
          narthexref17_Check_L1 N a0 n1 (w64 (s3_1 + 1))
        else
          if (x4.State != 1) || (decide (s3_1 > 0)) then
            some (.inl false)
          else
            narthexref17_Check_L1 N a0 n1 (w64 (s3_1 + 1))
    else
      some (.inr (()))
def narthexref17_Check (N : Nat) (a0 : TBook) : Option (Bool) :=
  if (decide (a0.Last < 0)) || (decide ((a0.Sess.length : Int) > 8)) then
    some false
  else
    Option.bind (α := Bool ⊕ Unit) (
      narthexref17_Check_L1 N a0 N 0
    ) fun z1 =>
    match z1 with
    | .inl r2 =>
      some r2
    | .inr z3 =>
      some true
-- narthex/narthexref01.Has
def narthexref01_Has_L1 (N : Nat) (a0 : List Int) (a1 : Int) : Nat → Int → Option (Bool ⊕ Unit)
  | 0, _ => none
  | n1 + 1, s5_1 =>
    if decide (s5_1 < (a0.length : Int)) then
      Option.bind (at? a0 s5_1) fun x4 =>
      if x4 == a1 then
        some (.inl true)
      else
        narthexref01_Has_L1 N a0 a1 n1 (w64 (s5_1 + 1))
    else
      some (.inr (()))
def narthexref01_Has (N : Nat) (a0 : List Int) (a1 : Int) : Option (Bool) :=
  Option.bind (α := Bool ⊕ Unit) (
    narthexref01_Has_L1 N a0 a1 N 0
  ) fun z1 =>
  match z1 with
  | .inl r2 =>
    some r2
  | .inr z3 =>
    some false
-- narthex/narthexref01.Place
def narthexref01_Place_L1 (N : Nat) (a0 : List Int) (a1 : Int) : Nat → Int → Int → Option (Int)
  | 0, _, _ => none
  | n1 + 1, s5_1, s6_1 =>
    if decide (s6_1 < (a0.length : Int)) then
      Option.bind (at? a0 s6_1) fun x2 =>
      Option.bind (if (decide (x2 < a1)) = true then sub? a0 0 s6_1 else some default) fun x3 =>
      Option.bind (if (decide (x2 < a1)) = true then at? a0 s6_1 else some default) fun x4 =>
      Option.bind (if (decide (x2 < a1)) = true then narthexref01_Has N x3 x4 else some default) fun y5 =>
      if (decide (x2 < a1)) && (!y5) then
        narthexref01_Place_L1 N a0 a1 n1 (w64 (s5_1 + 1)) (w64 (s6_1 + 1))
      else
        narthexref01_Place_L1 N a0 a1 n1 s5_1 (w64 (s6_1 + 1))
    else
      some s5_1
def narthexref01_Place (N : Nat) (a0 : List Int) (a1 : Int) : Option (Int) :=
  Option.bind (α := Int) (
    narthexref01_Place_L1 N a0 a1 N 0 0
  ) fun z1 =>
  some z1
-- narthex/narthexref01.Of
def narthexref01_Of_L1 (N : Nat) (a0 : List Int) : Nat → (List Int) → Int → Option ((List Int))
  | 0, _, _ => none
  | n1 + 1, l0_1, s4_1 =>
    if decide (s4_1 < (a0.length : Int)) then
      Option.bind (at? a0 s4_1) fun x2 =>
      Option.bind (narthexref01_Has N l0_1 x2) fun y3 =>
      if y3 then
        narthexref01_Of_L1 N a0 n1 l0_1 (w64 (s4_1 + 1))
      else
        Option.bind (at? a0 s4_1) fun x4 =>
        Option.bind (narthexref01_Place N l0_1 x4) fun y5 =>
        Option.bind (sub? l0_1 0 y5) fun x6 =>
        Option.bind (app? ([] : List Int) ((l0_1.drop 0).take x6.length)) fun x7 =>
        Option.bind (at? a0 s4_1) fun x8 =>
        Option.bind (app? x7 [x8]) fun x9 =>
        Option.bind (sub? l0_1 y5 (l0_1.length : Int)) fun x10 =>
        Option.bind (app? x9 ((l0_1.drop (Int.toNat y5)).take x10.length)) fun x11 =>
        narthexref01_Of_L1 N a0 n1 x11 (w64 (s4_1 + 1))
    else
      some l0_1
def narthexref01_Of (N : Nat) (a0 : List Int) : Option ((List Int)) :=
  Option.bind (α := (List Int)) (
    narthexref01_Of_L1 N a0 N ([] : List Int) 0
  ) fun z1 =>
  some z1
-- narthex/narthexref17.Open
def narthexref17_Open (N : Nat) (a0 : TBook) (a1 : Int) (a2 : List Int) : Option (TBook × Int) :=
  Option.bind (narthexref17_Check N a0) fun y1 =>
  if !y1 then
    some ((⟨0, []⟩ : TBook), 170)
  else
    if decide (a1 ≤ a0.Last) then
      some ((⟨0, []⟩ : TBook), 171)
    else
      Option.bind (narthexref01_Of N a2) fun y2 =>
      Option.bind (narthexref17_need N y2) fun y3 =>
      if !y3 then
        some ((⟨0, []⟩ : TBook), 172)
      else
        if decide ((a0.Sess.length : Int) ≥ 8) then
          some ((⟨0, []⟩ : TBook), 173)
        else
          Option.bind (app? ([] : List TSess) a0.Sess) fun x4 =>
          Option.bind (app? x4 [(⟨a1, y2, 0, 0⟩ : TSess)]) fun x5 =>
          some ((⟨a1, x5⟩ : TBook), 0)
-- narthex/narthexref17.Granted
def narthexref17_Granted (N : Nat) (a0 : TBook) : Option (Bool) :=
  Option.bind (if (decide ((a0.Sess.length : Int) > 0)) = true then at? a0.Sess 0 else some default) fun x1 =>
  some ((decide ((a0.Sess.length : Int) > 0)) && (x1.State == 1))
-- narthex/narthexref17.Grant
def narthexref17_Grant (N : Nat) (a0 : TBook) : Option (TBook × Int × Int) :=
  Option.bind (narthexref17_Check N a0) fun y1 =>
  if !y1 then
    some ((⟨0, []⟩ : TBook), 0, 170)
  else
    Option.bind (if (!((a0.Sess.length : Int) == 0)) = true then narthexref17_Granted N a0 else some default) fun y2 =>
    if ((a0.Sess.length : Int) == 0) || y2 then
      some ((⟨0, []⟩ : TBook), 0, 175)
    else
      Option.bind (app? ([] : List TSess) a0.Sess) fun x3 =>
      Option.bind (at? x3 0) fun x4 =>
      Option.bind (at? (x3.set (Int.toNat 0) { x4 with State := 1 }) 0) fun x5 =>
      some ({ a0 with Sess := x3.set (Int.toNat 0) { x4 with State := 1 } }, x5.ID, 0)
-- narthex/narthexref17.Find
def narthexref17_Find_L1 (N : Nat) (a0 : TBook) (a1 : Int) : Nat → Int → Option (Int ⊕ Unit)
  | 0, _ => none
  | n1 + 1, s5_1 =>
    if decide (s5_1 < (a0.Sess.length : Int)) then
      Option.bind (at? a0.Sess s5_1) fun x4 =>
      if x4.ID == a1 then
        some (.inl s5_1)
      else
        narthexref17_Find_L1 N a0 a1 n1 (w64 (s5_1 + 1))
    else
      some (.inr (()))
def narthexref17_Find (N : Nat) (a0 : TBook) (a1 : Int) : Option (Int) :=
  Option.bind (α := Int ⊕ Unit) (
    narthexref17_Find_L1 N a0 a1 N 0
  ) fun z1 =>
  match z1 with
  | .inl r2 =>
    some r2
  | .inr z3 =>
    some (-1)
-- narthex/narthexref17.Without
def narthexref17_Without (N : Nat) (a0 : TBook) (a1 : Int) : Option (TBook) :=
  Option.bind (sub? a0.Sess 0 a1) fun x1 =>
  Option.bind (app? ([] : List TSess) x1) fun x2 =>
  Option.bind (sub? a0.Sess (w64 (a1 + 1)) (a0.Sess.length : Int)) fun x3 =>
  Option.bind (app? x2 x3) fun x4 =>
  some { a0 with Sess := x4 }
-- narthex/narthexref17.End
def narthexref17_End (N : Nat) (a0 : TBook) (a1 : Int) (a2 : Int) : Option (TBook × Int) :=
  Option.bind (narthexref17_Check N a0) fun y1 =>
  if !y1 then
    some ((⟨0, []⟩ : TBook), 170)
  else
    Option.bind (narthexref17_Find N a0 a1) fun y2 =>
    if decide (y2 < 0) then
      some ((⟨0, []⟩ : TBook), 174)
    else
      Option.bind (at? a0.Sess y2) fun x3 =>
      if x3.State != a2 then
        some ((⟨0, []⟩ : TBook), 175)
      else
        Option.bind (narthexref17_Without N a0 y2) fun y4 =>
        some (y4, 0)
-- narthex/narthexref17.Tick
def narthexref17_Tick (N : Nat) (a0 : TBook) (a1 : Int) : Option (TBook × Int) :=
  Option.bind (narthexref17_Granted N a0) fun y1 =>
  if !y1 then
    some (a0, 0)
  else
    Option.bind (app? ([] : List TSess) a0.Sess) fun x2 =>
    Option.bind (at? x2 0) fun x3 =>
    Option.bind (α := (List TSess)) (
      if decide (x3.Age < 4611686018427387904) then
        Option.bind (at? x2 0) fun x5 =>
        Option.bind (at? x2 0) fun x6 =>
        some (x2.set (Int.toNat 0) { x6 with Age := w64 (x5.Age + 1) })
      else
        some x2
    ) fun z4 =>
    Option.bind (at? z4 0) fun x7 =>
    if decide (x7.Age ≥ a1) then
      Option.bind (narthexref17_Without N { a0 with Sess := z4 } 0) fun y8 =>
      Option.bind (at? z4 0) fun x9 =>
      some (y8, x9.ID)
    else
      some ({ a0 with Sess := z4 }, 0)
-- narthex/narthexref17.Gone
def narthexref17_Gone_L1 (N : Nat) (a0 : TBook) (a1 : Int) : Nat → (List TSess) → (List Int) → Int → Option ((List TSess) × (List Int))
  | 0, _, _, _ => none
  | n1 + 1, l3_1, l4_1, s8_1 =>
    if decide (s8_1 < (a0.Sess.length : Int)) then
      Option.bind (at? a0.Sess s8_1) fun x2 =>
      Option.bind (if (x2.State == 0) = true then narthexref01_Has N x2.Need a1 else some default) fun y3 =>
      if (x2.State == 0) && y3 then
        Option.bind (app? l4_1 [x2.ID]) fun x4 =>
        narthexref17_Gone_L1 N a0 a1 n1 l3_1 x4 (w64 (s8_1 + 1))
      else
        Option.bind (app? l3_1 [x2]) fun x5 =>
        narthexref17_Gone_L1 N a0 a1 n1 x5 l4_1 (w64 (s8_1 + 1))
    else
      some (l3_1, l4_1)
def narthexref17_Gone (N : Nat) (a0 : TBook) (a1 : Int) : Option (TBook × (List Int)) :=
  Option.bind (α := (List TSess) × (List Int)) (
    narthexref17_Gone_L1 N a0 a1 N ([] : List TSess) ([] : List Int) 0
  ) fun z1 =>
  some ({ a0 with Sess := z1.1 }, z1.2)
-- narthex/narthexlaw17.told
def narthexlaw17_told (N : Nat) (a0 : TBook) (a1 : Tnarthexlaw17_Act) : Option (TBook × (List Int) × Int) :=
  Option.bind (narthexref17_Check N a0) fun y1 =>
  if !y1 then
    Option.bind (α := (List Int)) (
      if (a1.K == 1) || (a1.K == 4) then
        some [0]
      else
        some ([] : List Int)
    ) fun z2 =>
    some ((⟨0, []⟩ : TBook), z2, 170)
  else
    if a1.K == 0 then
      Option.bind (narthexref17_Open N a0 a1.ID a1.Need) fun y3 =>
      some (y3.1, [], y3.2)
    else
      if a1.K == 1 then
        Option.bind (narthexref17_Grant N a0) fun y4 =>
        some (y4.1, [y4.2.1], y4.2.2)
      else
        if a1.K == 2 then
          Option.bind (narthexref17_End N a0 a1.ID 1) fun y5 =>
          some (y5.1, [], y5.2)
        else
          if a1.K == 3 then
            Option.bind (narthexref17_End N a0 a1.ID 0) fun y6 =>
            some (y6.1, [], y6.2)
          else
            if a1.K == 4 then
              Option.bind (narthexref17_Tick N a0 a1.N) fun y7 =>
              some (y7.1, [y7.2], 0)
            else
              Option.bind (narthexref17_Gone N a0 a1.N) fun y8 =>
              some (y8.1, y8.2, 0)
-- narthex/narthexref17.Same
def narthexref17_Same_L1 (N : Nat) (a0 : TBook) (a1 : TBook) : Nat → Int → Option (Bool ⊕ Unit)
  | 0, _ => none
  | n1 + 1, s5_1 =>
    if decide (s5_1 < (a0.Sess.length : Int)) then
      Option.bind (at? a0.Sess s5_1) fun x4 =>
      Option.bind (at? a1.Sess s5_1) fun x5 =>
      Option.bind (if (!(((x4.ID != x5.ID) || (x4.State != x5.State)) || (x4.Age != x5.Age))) = true then narthexref01_Same N x4.Need x5.Need else some default) fun y6 =>
      if (((x4.ID != x5.ID) || (x4.State != x5.State)) || (x4.Age != x5.Age)) || (!y6) then
        some (.inl false)
      else
        narthexref17_Same_L1 N a0 a1 n1 (w64 (s5_1 + 1))
    else
      some (.inr (()))
def narthexref17_Same (N : Nat) (a0 : TBook) (a1 : TBook) : Option (Bool) :=
  if (a0.Last != a1.Last) || ((a0.Sess.length : Int) != (a1.Sess.length : Int)) then
    some false
  else
    Option.bind (α := Bool ⊕ Unit) (
      narthexref17_Same_L1 N a0 a1 N 0
    ) fun z1 =>
    match z1 with
    | .inl r2 =>
      some r2
    | .inr z3 =>
      some true
-- narthex/narthexlaw17.SessSteps
def narthexlaw17_SessSteps (N : Nat) (a0 : TBook) (a1 : TBook) (a2 : Tnarthexlaw17_Act) (a3 : Int) : Option (Bool) :=
  Option.bind (α := Bool) (
    Option.bind (narthexlaw17_awake N) fun y2 =>
    if !y2 then
      some true
    else
      Option.bind (narthexref17_Few N a0) fun y3 =>
      if !y3 then
        some true
      else
        Option.bind (narthexref17_Few N a1) fun y4 =>
        if !y4 then
          some true
        else
          Option.bind (narthexlaw17_few N [a2]) fun y5 =>
          some (!y5)
  ) fun z1 =>
  if z1 then
    Option.bind (narthexlaw17_awake N) fun y6 =>
    some y6
  else
    Option.bind (narthexlaw17_Own N a0) fun y7 =>
    Option.bind (narthexlaw17_act N y7 { a2 with K := min (max a2.K 0) 5 }) fun y8 =>
    Option.bind (narthexlaw17_told N a0 { a2 with K := min (max a2.K 0) 5 }) fun y9 =>
    Option.bind (narthexlaw17_Own N a0) fun y10 =>
    Option.bind (sess_Poll N y10 a3) fun y11 =>
    Option.bind (narthexref17_Find N a0 a3) fun y12 =>
    Option.bind (narthexref17_Check N a0) fun y13 =>
    Option.bind (α := Int) (
      if !y13 then
        some 170
      else
        if decide (y12 < 0) then
          some 174
        else
          some 0
    ) fun z14 =>
    Option.bind (if ((!(y11.2 != z14)) && (z14 == 0)) = true then at? a0.Sess y12 else some default) fun x15 =>
    if ((y11.2 != z14) || ((z14 == 0) && (y11.1 != x15.State))) || ((z14 != 0) && (y11.1 != 0)) then
      some false
    else
      Option.bind (narthexref17_Same N y8.1 y9.1) fun y16 =>
      Option.bind (if y16 = true then narthexref01_Same N y8.2.1 y9.2.1 else some default) fun y17 =>
      Option.bind (if ((y16 && y17) && (y8.2.2 == y9.2.2)) = true then narthexlaw17_Own N a0 else some default) fun y18 =>
      Option.bind (if ((y16 && y17) && (y8.2.2 == y9.2.2)) = true then sess_Check N y18 else some default) fun y19 =>
      Option.bind (if (((y16 && y17) && (y8.2.2 == y9.2.2)) && ((y19 == 0) == y13)) = true then narthexlaw17_Own N a0 else some default) fun y20 =>
      Option.bind (if (((y16 && y17) && (y8.2.2 == y9.2.2)) && ((y19 == 0) == y13)) = true then narthexlaw17_Own N a1 else some default) fun y21 =>
      Option.bind (if (((y16 && y17) && (y8.2.2 == y9.2.2)) && ((y19 == 0) == y13)) = true then sess_Same N y20 y21 else some default) fun y22 =>
      Option.bind (if (((y16 && y17) && (y8.2.2 == y9.2.2)) && ((y19 == 0) == y13)) = true then narthexref17_Same N a0 a1 else some default) fun y23 =>
      some ((((y16 && y17) && (y8.2.2 == y9.2.2)) && ((y19 == 0) == y13)) && (y22 == y23))
-- narthex/narthexlaw17.SessOrder
def narthexlaw17_SessOrder_L1 (N : Nat) (a0 : List Tnarthexlaw17_Act) : Nat → Int → (List TSess) → Int → Int → Option (Bool ⊕ Unit)
  | 0, _, _, _, _ => none
  | n1 + 1, c0_0_1, c0_1_1, s4_1, s5_1 =>
    if decide (s5_1 < (a0.length : Int)) then
      Option.bind (at? a0 s5_1) fun x7 =>
      Option.bind (narthexlaw17_Own N (⟨c0_0_1, c0_1_1⟩ : TBook)) fun y8 =>
      Option.bind (narthexlaw17_act N y8 { x7 with K := min (max x7.K 0) 5 }) fun y9 =>
      if y9.2.2 != 0 then
        narthexlaw17_SessOrder_L1 N a0 n1 c0_0_1 c0_1_1 s4_1 (w64 (s5_1 + 1))
      else
        Option.bind (sess_Check N y9.1) fun y10 =>
        if y10 != 0 then
          some (.inl false)
        else
          if (min (max x7.K 0) 5) == 1 then
            Option.bind (if (!((y9.2.1.length : Int) != 1)) = true then at? y9.2.1 0 else some default) fun x11 =>
            if ((y9.2.1.length : Int) != 1) || (decide (x11 ≤ s4_1)) then
              some (.inl false)
            else
              Option.bind (at? y9.2.1 0) fun x12 =>
              narthexlaw17_SessOrder_L1 N a0 n1 y9.1.Last y9.1.Sess x12 (w64 (s5_1 + 1))
          else
            narthexlaw17_SessOrder_L1 N a0 n1 y9.1.Last y9.1.Sess s4_1 (w64 (s5_1 + 1))
    else
      some (.inr (()))
def narthexlaw17_SessOrder (N : Nat) (a0 : List Tnarthexlaw17_Act) : Option (Bool) :=
  Option.bind (narthexlaw17_awake N) fun y1 =>
  Option.bind (if (!(!y1)) = true then narthexlaw17_few N a0 else some default) fun y2 =>
  if (!y1) || (!y2) then
    Option.bind (narthexlaw17_awake N) fun y3 =>
    some y3
  else
    Option.bind (α := Bool ⊕ Unit) (
      narthexlaw17_SessOrder_L1 N a0 N 0 [] 0 0
    ) fun z4 =>
    match z4 with
    | .inl r5 =>
      some r5
    | .inr z6 =>
      some true
-- narthex/narthexlaw17.SessEnds
def narthexlaw17_SessEnds_L1 (N : Nat) (a0 : List Tnarthexlaw17_Act) : Nat → (List Int) → (List Int) → Int → (List TSess) → Int → Option (Bool ⊕ ((List Int) × (List Int) × Int × (List TSess)))
  | 0, _, _, _, _, _ => none
  | n1 + 1, l1_1, l2_1, c0_0_1, c0_1_1, s6_1 =>
    if decide (s6_1 < (a0.length : Int)) then
      Option.bind (at? a0 s6_1) fun x7 =>
      Option.bind (narthexlaw17_Own N (⟨c0_0_1, c0_1_1⟩ : TBook)) fun y8 =>
      Option.bind (narthexlaw17_act N y8 { x7 with K := min (max x7.K 0) 5 }) fun y9 =>
      if y9.2.2 != 0 then
        Option.bind (narthexref17_Same N y9.1 (⟨0, []⟩ : TBook)) fun y10 =>
        if !y10 then
          some (.inl false)
        else
          narthexlaw17_SessEnds_L1 N a0 n1 l1_1 l2_1 c0_0_1 c0_1_1 (w64 (s6_1 + 1))
      else
        if (min (max x7.K 0) 5) == 0 then
          Option.bind (app? l1_1 [x7.ID]) fun x11 =>
          narthexlaw17_SessEnds_L1 N a0 n1 x11 l2_1 y9.1.Last y9.1.Sess (w64 (s6_1 + 1))
        else
          Option.bind (α := Bool) (
            if (min (max x7.K 0) 5) == 2 then
              some ((min (max x7.K 0) 5) == 2)
            else
              some ((min (max x7.K 0) 5) == 3)
          ) fun z12 =>
          if z12 then
            Option.bind (app? l2_1 [x7.ID]) fun x13 =>
            narthexlaw17_SessEnds_L1 N a0 n1 l1_1 x13 y9.1.Last y9.1.Sess (w64 (s6_1 + 1))
          else
            if (min (max x7.K 0) 5) == 4 then
              Option.bind (at? y9.2.1 0) fun x14 =>
              if x14 != 0 then
                Option.bind (at? y9.2.1 0) fun x15 =>
                Option.bind (app? l2_1 [x15]) fun x16 =>
                narthexlaw17_SessEnds_L1 N a0 n1 l1_1 x16 y9.1.Last y9.1.Sess (w64 (s6_1 + 1))
              else
                narthexlaw17_SessEnds_L1 N a0 n1 l1_1 l2_1 y9.1.Last y9.1.Sess (w64 (s6_1 + 1))
            else
              if (min (max x7.K 0) 5) == 5 then
                Option.bind (app? l2_1 y9.2.1) fun x17 =>
                narthexlaw17_SessEnds_L1 N a0 n1 l1_1 x17 y9.1.Last y9.1.Sess (w64 (s6_1 + 1))
              else
                narthexlaw17_SessEnds_L1 N a0 n1 l1_1 l2_1 y9.1.Last y9.1.Sess (w64 (s6_1 + 1))
    else
      some (.inr ((l1_1, l2_1, c0_0_1, c0_1_1)))
def narthexlaw17_SessEnds_L2 (N : Nat) (z6 : (List Int) × (List Int) × Int × (List TSess)) : Nat → Int → Option (Bool ⊕ Unit)
  | 0, _ => none
  | n2 + 1, s11_2 =>
    if decide (s11_2 < (z6.2.1.length : Int)) then
      Option.bind (sub? z6.2.1 0 s11_2) fun x21 =>
      Option.bind (at? z6.2.1 s11_2) fun x22 =>
      Option.bind (narthexref01_Has N x21 x22) fun y23 =>
      Option.bind (if (!y23) = true then at? z6.2.1 s11_2 else some default) fun x24 =>
      Option.bind (if (!y23) = true then narthexref01_Has N z6.1 x24 else some default) fun y25 =>
      Option.bind (if (!(y23 || (!y25))) = true then at? z6.2.1 s11_2 else some default) fun x26 =>
      Option.bind (if (!(y23 || (!y25))) = true then narthexref17_Find N (⟨z6.2.2.1, z6.2.2.2⟩ : TBook) x26 else some default) fun y27 =>
      if (y23 || (!y25)) || (decide (y27 ≥ 0)) then
        some (.inl false)
      else
        narthexlaw17_SessEnds_L2 N z6 n2 (w64 (s11_2 + 1))
    else
      some (.inr (()))
def narthexlaw17_SessEnds (N : Nat) (a0 : List Tnarthexlaw17_Act) : Option (Bool) :=
  Option.bind (narthexlaw17_awake N) fun y1 =>
  Option.bind (if (!(!y1)) = true then narthexlaw17_few N a0 else some default) fun y2 =>
  if (!y1) || (!y2) then
    Option.bind (narthexlaw17_awake N) fun y3 =>
    some y3
  else
    Option.bind (α := Bool ⊕ ((List Int) × (List Int) × Int × (List TSess))) (
      narthexlaw17_SessEnds_L1 N a0 N ([] : List Int) ([] : List Int) 0 [] 0
    ) fun z4 =>
    match z4 with
    | .inl r5 =>
      some r5
    | .inr z6 =>
      Option.bind (α := Bool ⊕ Unit) (
        narthexlaw17_SessEnds_L2 N z6 N 0
      ) fun z18 =>
      match z18 with
      | .inl r19 =>
        some r19
      | .inr z20 =>
        some (((z6.1.length : Int) == (w64 ((z6.2.1.length : Int) + (z6.2.2.2.length : Int)))) && (decide ((z6.2.2.2.length : Int) ≤ 8)))
-- narthex/narthexlaw17.SessHeld
def narthexlaw17_SessHeld_L1 (N : Nat) (a0 : TBook) (a1 : Int) (a2 : Int) (y7 : TBook × Int × Int) : Nat → Int → (List TSess) → Int → Option (Bool ⊕ (Int × (List TSess)))
  | 0, _, _, _ => none
  | n1 + 1, c1_0_1, c1_1_1, s11_1 =>
    if decide (s11_1 ≤ (min (w64 (((w64 a2).tmod 60) + 1)) 60)) then
      Option.bind (narthexlaw17_Own N (⟨c1_0_1, c1_1_1⟩ : TBook)) fun y11 =>
      Option.bind (sess_Tick N y11 a1) fun y12 =>
      if ((y12.2.2 != 0) || (!((y12.2.1 == y7.2.1) == (decide (s11_1 ≥ a1))))) || ((y12.2.1 != 0) && (y12.2.1 != y7.2.1)) then
        some (.inl false)
      else
        if y12.2.1 == y7.2.1 then
          Option.bind (narthexref17_Find N y12.1 y7.2.1) fun y13 =>
          some (.inl (((decide (y13 < 0)) && ((y12.1.Sess.length : Int) == (w64 ((a0.Sess.length : Int) - 1))))))
        else
          narthexlaw17_SessHeld_L1 N a0 a1 a2 y7 n1 y12.1.Last y12.1.Sess (w64 (s11_1 + 1))
    else
      some (.inr ((c1_0_1, c1_1_1)))
def narthexlaw17_SessHeld (N : Nat) (a0 : TBook) (a1 : Int) (a2 : Int) : Option (Bool) :=
  Option.bind (narthexlaw17_awake N) fun y1 =>
  Option.bind (if (!(!y1)) = true then narthexref17_Few N a0 else some default) fun y2 =>
  Option.bind (if (!((!y1) || (!y2))) = true then narthexlaw17_Own N a0 else some default) fun y3 =>
  Option.bind (if (!((!y1) || (!y2))) = true then sess_Check N y3 else some default) fun y4 =>
  if ((!y1) || (!y2)) || (y4 != 0) then
    Option.bind (narthexlaw17_awake N) fun y5 =>
    some y5
  else
    Option.bind (narthexlaw17_Own N a0) fun y6 =>
    Option.bind (sess_Grant N y6) fun y7 =>
    if y7.2.2 != 0 then
      some ((y7.2.2 == 175) && (y7.2.1 == 0))
    else
      Option.bind (α := Bool ⊕ (Int × (List TSess))) (
        narthexlaw17_SessHeld_L1 N a0 a1 a2 y7 N y7.1.Last y7.1.Sess 1
      ) fun z8 =>
      match z8 with
      | .inl r9 =>
        some r9
      | .inr z10 =>
        Option.bind (narthexlaw17_Own N (⟨z10.1, z10.2⟩ : TBook)) fun y14 =>
        Option.bind (sess_Poll N y14 y7.2.1) fun y15 =>
        some ((y15.2 == 0) && (y15.1 == 1))
-- narthex/narthexlaw17.SessGone
def narthexlaw17_SessGone_L1 (N : Nat) (a0 : TBook) (a1 : Int) (y5 : TBook × (List Int) × Int) : Nat → Int → Option (Bool ⊕ Unit)
  | 0, _ => none
  | n1 + 1, s8_1 =>
    if decide (s8_1 < (a0.Sess.length : Int)) then
      Option.bind (at? a0.Sess s8_1) fun x9 =>
      Option.bind (if (x9.State == 0) = true then narthexref01_Has N x9.Need a1 else some default) fun y10 =>
      Option.bind (narthexref01_Has N y5.2.1 x9.ID) fun y11 =>
      Option.bind (if (!(!(((x9.State == 0) && y10) == y11))) = true then narthexref17_Find N y5.1 x9.ID else some default) fun y12 =>
      if (!(((x9.State == 0) && y10) == y11)) || (((x9.State == 0) && y10) == (decide (y12 ≥ 0))) then
        some (.inl false)
      else
        narthexlaw17_SessGone_L1 N a0 a1 y5 n1 (w64 (s8_1 + 1))
    else
      some (.inr (()))
def narthexlaw17_SessGone (N : Nat) (a0 : TBook) (a1 : Int) : Option (Bool) :=
  Option.bind (narthexlaw17_awake N) fun y1 =>
  Option.bind (if (!(!y1)) = true then narthexref17_Few N a0 else some default) fun y2 =>
  if (!y1) || (!y2) then
    Option.bind (narthexlaw17_awake N) fun y3 =>
    some y3
  else
    Option.bind (narthexlaw17_Own N a0) fun y4 =>
    Option.bind (sess_Gone N y4 a1) fun y5 =>
    if y5.2.2 != 0 then
      some ((y5.2.2 == 170) && ((y5.2.1.length : Int) == 0))
    else
      Option.bind (α := Bool ⊕ Unit) (
        narthexlaw17_SessGone_L1 N a0 a1 y5 N 0
      ) fun z6 =>
      match z6 with
      | .inl r7 =>
        some r7
      | .inr z8 =>
        Option.bind (narthexlaw17_Own N y5.1) fun y13 =>
        Option.bind (sess_Gone N y13 a1) fun y14 =>
        Option.bind (if ((((w64 ((y5.1.Sess.length : Int) + (y5.2.1.length : Int))) == (a0.Sess.length : Int)) && (y14.2.2 == 0)) && ((y14.2.1.length : Int) == 0)) = true then narthexref17_Same N y5.1 y14.1 else some default) fun y15 =>
        some (((((w64 ((y5.1.Sess.length : Int) + (y5.2.1.length : Int))) == (a0.Sess.length : Int)) && (y14.2.2 == 0)) && ((y14.2.1.length : Int) == 0)) && y15)
-- narthex/narthexlaw17.SessOpens
def narthexlaw17_SessOpens (N : Nat) (a0 : TBook) (a1 : Int) (a2 : List Int) : Option (Bool) :=
  Option.bind (narthexlaw17_awake N) fun y1 =>
  Option.bind (if (!(!y1)) = true then narthexref17_Few N a0 else some default) fun y2 =>
  if ((!y1) || (!y2)) || (decide ((a2.length : Int) > 70)) then
    Option.bind (narthexlaw17_awake N) fun y3 =>
    some y3
  else
    Option.bind (narthexlaw17_Own N a0) fun y4 =>
    Option.bind (app? ([] : List Int) a2) fun x5 =>
    Option.bind (sess_Open N y4 a1 x5) fun y6 =>
    if y6.2 != 0 then
      Option.bind (narthexref17_Same N y6.1 (⟨0, []⟩ : TBook)) fun y7 =>
      some y7
    else
      Option.bind (narthexlaw17_Own N y6.1) fun y8 =>
      Option.bind (sess_Poll N y8 a1) fun y9 =>
      Option.bind (narthexlaw17_Own N y6.1) fun y10 =>
      Option.bind (sess_Open N y10 a1 []) fun y11 =>
      Option.bind (if ((((y9.2 == 0) && (y9.1 == 0)) && (y11.2 == 171)) && ((y6.1.Sess.length : Int) == (w64 ((a0.Sess.length : Int) + 1)))) = true then at? y6.1.Sess (a0.Sess.length : Int) else some default) fun x12 =>
      Option.bind (if ((((((y9.2 == 0) && (y9.1 == 0)) && (y11.2 == 171)) && ((y6.1.Sess.length : Int) == (w64 ((a0.Sess.length : Int) + 1)))) && (x12.ID == a1)) && (y6.1.Last == a1)) = true then narthexlaw17_Own N y6.1 else some default) fun y13 =>
      Option.bind (if ((((((y9.2 == 0) && (y9.1 == 0)) && (y11.2 == 171)) && ((y6.1.Sess.length : Int) == (w64 ((a0.Sess.length : Int) + 1)))) && (x12.ID == a1)) && (y6.1.Last == a1)) = true then sess_Check N y13 else some default) fun y14 =>
      some (((((((y9.2 == 0) && (y9.1 == 0)) && (y11.2 == 171)) && ((y6.1.Sess.length : Int) == (w64 ((a0.Sess.length : Int) + 1)))) && (x12.ID == a1)) && (y6.1.Last == a1)) && (y14 == 0))
end Go.Proofs.Ythlocamkdmaflaa
