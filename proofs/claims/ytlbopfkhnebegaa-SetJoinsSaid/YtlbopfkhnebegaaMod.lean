/- Models of the functions, and what is known of data that came in. -/
import Derived.Test.YtlbopfkhnebegaaFwE
namespace Go.Proofs.Ytlbopfkhnebegaa
open Go Go.Nx
set_option linter.unusedVariables false
set_option linter.unusedSimpArgs false
set_option maxRecDepth 8000
def eI (x : Int) : List Leaf := [I x]
def eL_I (x : List Int) : List Leaf := [.slv (x.map eI)]
def slices_Clone_int (N : Nat) (a0 : List Int) : Option (List Int) := app? [] a0
-- narthex/set.Of
def set_Of (N : Nat) (a0 : List Int) : Option ((List Int)) :=
  Option.bind (slices_Clone_int N a0) fun y1 =>
  Option.bind (sort? y1) fun x2 =>
  Option.bind (ded? x2) fun x3 =>
  some x3
-- narthex/narthexref01.Same
def narthexref01_Same_L1 (N : Nat) (a0 : List Int) (a1 : List Int) : Nat → Int → Option (Bool ⊕ Unit)
  | 0, _ => none
  | n1 + 1, s5_1 =>
    if decide (s5_1 < (a0.length : Int)) then
      Option.bind (at? a0 s5_1) fun x4 =>
      Option.bind (at? a1 s5_1) fun x5 =>
      if x4 != x5 then
        some (.inl false)
      else
        narthexref01_Same_L1 N a0 a1 n1 (w64 (s5_1 + 1))
    else
      some (.inr (()))
def narthexref01_Same (N : Nat) (a0 : List Int) (a1 : List Int) : Option (Bool) :=
  if (a0.length : Int) != (a1.length : Int) then
    some false
  else
    Option.bind (α := Bool ⊕ Unit) (
      narthexref01_Same_L1 N a0 a1 N 0
    ) fun z1 =>
    match z1 with
    | .inl r2 =>
      some r2
    | .inr z3 =>
      some true
-- slices.Grow[[]int,int]
def slices_Grow_int (N : Nat) (a1 : Int) : Option ((List Int)) :=
  if decide (a1 < 0) then
    none
  else
    if decide ((w64 (a1 - (w64 (0 - ((0 : Nat) : Int))))) > 0) then
      Option.bind (mk? (w64 (a1 - (w64 (0 - ((0 : Nat) : Int))))) 0) fun x1 =>
      Option.bind (sub? x1 0 ((0 : Nat) : Int)) fun x2 =>
      some x2
    else
      some []
-- slices.Grow[[]int,int]
def slices_Grow_int_o (N : Nat) (a1 : Int) : Option ((List Int)) :=
  if decide (a1 < 0) then
    none
  else
    if decide ((w64 (a1 - (w64 (0 - ((0 : Nat) : Int))))) > 0) then
      Option.bind (mk? (w64 (a1 - (w64 (0 - ((0 : Nat) : Int))))) 0) fun x1 =>
      Option.bind (sub? x1 0 ((0 : Nat) : Int)) fun x2 =>
      some x2
    else
      some ([] : List Int)
-- slices.Concat[[]int,int]
def slices_Concat_int_L1 (N : Nat) (a0 : List (List Int)) : Nat → Int → Int → Option (Int)
  | 0, _, _ => none
  | n1 + 1, s3_1, s11_1 =>
    if decide (s11_1 < (a0.length : Int)) then
      Option.bind (at? a0 s11_1) fun x2 =>
      if decide ((w64 (s3_1 + (x2.length : Int))) < 0) then
        none
      else
        slices_Concat_int_L1 N a0 n1 (w64 (s3_1 + (x2.length : Int))) (w64 (s11_1 + 1))
    else
      some s3_1
def slices_Concat_int_L2 (N : Nat) (a0 : List (List Int)) : Nat → (List Int) → Int → Option ((List Int))
  | 0, _, _ => none
  | n2 + 1, l0_2, s27_2 =>
    if decide (s27_2 < (a0.length : Int)) then
      Option.bind (at? a0 s27_2) fun x5 =>
      Option.bind (app? l0_2 x5) fun x6 =>
      slices_Concat_int_L2 N a0 n2 x6 (w64 (s27_2 + 1))
    else
      some l0_2
def slices_Concat_int (N : Nat) (a0 : List (List Int)) : Option ((List Int)) :=
  Option.bind (α := Int) (
    slices_Concat_int_L1 N a0 N 0 0
  ) fun z1 =>
  Option.bind (slices_Grow_int_o N z1) fun y3 =>
  Option.bind (α := (List Int)) (
    slices_Concat_int_L2 N a0 N y3 0
  ) fun z4 =>
  some z4
-- narthex/set.Union
def set_Union (N : Nat) (a0 : List Int) (a1 : List Int) : Option ((List Int)) :=
  Option.bind (slices_Concat_int N [a0, a1]) fun y1 =>
  Option.bind (set_Of N y1) fun y2 =>
  some y2
-- narthex/set.Add
def set_Add (N : Nat) (a0 : List Int) (a1 : Int) : Option ((List Int)) :=
  Option.bind (set_Union N a0 [a1]) fun y1 =>
  some y1
-- slices.Index[[]int,int]
def slices_Index_int_L1 (N : Nat) (a0 : List Int) (a1 : Int) : Nat → Int → Option (Int ⊕ Unit)
  | 0, _ => none
  | n1 + 1, s8_1 =>
    if decide (s8_1 < (a0.length : Int)) then
      Option.bind (at? a0 s8_1) fun x4 =>
      if a1 == x4 then
        some (.inl s8_1)
      else
        slices_Index_int_L1 N a0 a1 n1 (w64 (s8_1 + 1))
    else
      some (.inr (()))
def slices_Index_int (N : Nat) (a0 : List Int) (a1 : Int) : Option (Int) :=
  Option.bind (α := Int ⊕ Unit) (
    slices_Index_int_L1 N a0 a1 N 0
  ) fun z1 =>
  match z1 with
  | .inl r2 =>
    some r2
  | .inr z3 =>
    some (-1)
-- slices.Contains[[]int,int]
def slices_Contains_int (N : Nat) (a0 : List Int) (a1 : Int) : Option (Bool) :=
  Option.bind (slices_Index_int N a0 a1) fun y1 =>
  some (decide (y1 ≥ 0))
-- narthex/set.Has
def set_Has (N : Nat) (a0 : List Int) (a1 : Int) : Option (Bool) :=
  Option.bind (slices_Contains_int N a0 a1) fun y1 =>
  some y1
-- narthex/set.Minus$1
def set_Minus_1 (N : Nat) (a0 : Int) (c0_0 : List Int) (l2 : List Int) : Option (Bool) :=
  Option.bind (set_Has N c0_0 a0) fun y1 =>
  some (!y1)
-- narthex/set.keep$1
def set_keep_1 (N : Nat) (a0 : Int) (c0_0 : List Int) (l2 : List Int) : Option (Bool) :=
  Option.bind (set_Minus_1 N a0 c0_0 l2) fun y1 =>
  some (!y1)
-- slices.IndexFunc[[]int,int]
def slices_IndexFunc_int_L1 (N : Nat) (c0_0 : List Int) (l2 : List Int) : Nat → Int → Option (Int ⊕ Unit)
  | 0, _ => none
  | n1 + 1, s8_1 =>
    if decide (s8_1 < (l2.length : Int)) then
      Option.bind (at? l2 s8_1) fun x4 =>
      Option.bind (set_keep_1 N x4 c0_0 l2) fun y5 =>
      if y5 then
        some (.inl s8_1)
      else
        slices_IndexFunc_int_L1 N c0_0 l2 n1 (w64 (s8_1 + 1))
    else
      some (.inr (()))
def slices_IndexFunc_int (N : Nat) (c0_0 : List Int) (l2 : List Int) : Option (Int) :=
  Option.bind (α := Int ⊕ Unit) (
    slices_IndexFunc_int_L1 N c0_0 l2 N 0
  ) fun z1 =>
  match z1 with
  | .inl r2 =>
    some r2
  | .inr z3 =>
    some (-1)
-- slices.DeleteFunc[[]int,int]
def slices_DeleteFunc_int_L1 (N : Nat) (c0_0 : List Int) : Nat → (List Int) → Int → Int → Option ((List Int) × Int)
  | 0, _, _, _ => none
  | n1 + 1, l2_1, s5_1, s6_1 =>
    if decide (s6_1 < (l2_1.length : Int)) then
      Option.bind (at? l2_1 s6_1) fun x3 =>
      Option.bind (set_keep_1 N x3 c0_0 l2_1) fun y4 =>
      if !y4 then
        Option.bind (at? l2_1 s5_1) fun x5 =>
        slices_DeleteFunc_int_L1 N c0_0 n1 (l2_1.set s5_1.toNat x3) (w64 (s5_1 + 1)) (w64 (s6_1 + 1))
      else
        slices_DeleteFunc_int_L1 N c0_0 n1 l2_1 s5_1 (w64 (s6_1 + 1))
    else
      some (l2_1, s5_1)
def slices_DeleteFunc_int (N : Nat) (c0_0 : List Int) (l2 : List Int) : Option ((List Int)) :=
  Option.bind (slices_IndexFunc_int N c0_0 l2) fun y1 =>
  if y1 == (-1) then
    some l2
  else
    Option.bind (α := (List Int) × Int) (
      slices_DeleteFunc_int_L1 N c0_0 N l2 y1 (w64 (y1 + 1))
    ) fun z2 =>
    Option.bind (sub? z2.1 z2.2 (z2.1.length : Int)) fun x6 =>
    Option.bind (sub? (clr z2.1 (Int.toNat z2.2) x6.length 0) 0 z2.2) fun x7 =>
    some x7
-- narthex/set.keep
def set_keep (N : Nat) (a0 : List Int) (c0_0 : List Int) : Option ((List Int)) :=
  Option.bind (set_Of N a0) fun y1 =>
  Option.bind (slices_DeleteFunc_int N c0_0 y1) fun y2 =>
  some y2
-- narthex/set.Minus
def set_Minus (N : Nat) (a0 : List Int) (a1 : List Int) : Option ((List Int)) :=
  Option.bind (set_keep N a0 a1) fun y1 =>
  some y1
-- narthex/set.Del
def set_Del (N : Nat) (a0 : List Int) (a1 : Int) : Option ((List Int)) :=
  Option.bind (set_Minus N a0 [a1]) fun y1 =>
  some y1
-- narthex/set.Valid
def set_Valid_L1 (N : Nat) (a0 : List Int) : Nat → Int → Option (Bool ⊕ Unit)
  | 0, _ => none
  | n1 + 1, s6_1 =>
    if decide (s6_1 < (a0.length : Int)) then
      Option.bind (if (decide (s6_1 > 0)) = true then at? a0 (w64 (s6_1 - 1)) else some default) fun x4 =>
      Option.bind (if (decide (s6_1 > 0)) = true then at? a0 s6_1 else some default) fun x5 =>
      if (decide (s6_1 > 0)) && (decide (x4 ≥ x5)) then
        some (.inl false)
      else
        set_Valid_L1 N a0 n1 (w64 (s6_1 + 1))
    else
      some (.inr (()))
def set_Valid (N : Nat) (a0 : List Int) : Option (Bool) :=
  Option.bind (α := Bool ⊕ Unit) (
    set_Valid_L1 N a0 N 0
  ) fun z1 =>
  match z1 with
  | .inl r2 =>
    some r2
  | .inr z3 =>
    some true
-- cmp.isNaN[int]
def cmp_isNaN_int (N : Nat) (a0 : Int) : Option (Bool) :=
  some (a0 != a0)
-- cmp.Less[int]
def cmp_Less_int (N : Nat) (a0 : Int) (a1 : Int) : Option (Bool) :=
  Option.bind (cmp_isNaN_int N a0) fun y1 =>
  Option.bind (if y1 = true then cmp_isNaN_int N a1 else some default) fun y2 =>
  some ((y1 && (!y2)) || (decide (a0 < a1)))
-- slices.isNaN[int]
def slices_isNaN_int (N : Nat) (a0 : Int) : Option (Bool) :=
  some (a0 != a0)
-- slices.BinarySearch[[]int,int]
def slices_BinarySearch_int_L1 (N : Nat) (a0 : List Int) (a1 : Int) : Nat → Int → Int → Option (Int)
  | 0, _, _ => none
  | n1 + 1, s7_1, s8_1 =>
    if decide (s7_1 < s8_1) then
      Option.bind (at? a0 (w64 (Int.fdiv (IntKind.u64.wrap (w64 (s7_1 + s8_1))) (2 ^ 1)))) fun x2 =>
      Option.bind (cmp_Less_int N x2 a1) fun y3 =>
      if y3 then
        slices_BinarySearch_int_L1 N a0 a1 n1 (w64 ((w64 (Int.fdiv (IntKind.u64.wrap (w64 (s7_1 + s8_1))) (2 ^ 1))) + 1)) s8_1
      else
        slices_BinarySearch_int_L1 N a0 a1 n1 s7_1 (w64 (Int.fdiv (IntKind.u64.wrap (w64 (s7_1 + s8_1))) (2 ^ 1)))
    else
      some s7_1
def slices_BinarySearch_int (N : Nat) (a0 : List Int) (a1 : Int) : Option (Int × Bool) :=
  Option.bind (α := Int) (
    slices_BinarySearch_int_L1 N a0 a1 N 0 (a0.length : Int)
  ) fun z1 =>
  Option.bind (if (decide (z1 < (a0.length : Int))) = true then at? a0 z1 else some default) fun x4 =>
  Option.bind (if ((decide (z1 < (a0.length : Int))) && (!(x4 == a1))) = true then at? a0 z1 else some default) fun x5 =>
  Option.bind (if ((decide (z1 < (a0.length : Int))) && (!(x4 == a1))) = true then slices_isNaN_int N x5 else some default) fun y6 =>
  Option.bind (if (((decide (z1 < (a0.length : Int))) && (!(x4 == a1))) && y6) = true then slices_isNaN_int N a1 else some default) fun y7 =>
  some (z1, (decide (z1 < (a0.length : Int))) && ((x4 == a1) || (y6 && y7)))
-- narthex/set.Place
def set_Place (N : Nat) (a0 : List Int) (a1 : Int) : Option (Int) :=
  Option.bind (set_Of N a0) fun y1 =>
  Option.bind (slices_BinarySearch_int N y1 a1) fun y2 =>
  some y2.1
-- narthex/set.Within
def set_Within (N : Nat) (a0 : List Int) (a1 : List Int) : Option (Bool) :=
  Option.bind (set_Minus N a0 a1) fun y1 =>
  some ((y1.length : Int) == 0)
-- narthex/set.Both$1
def set_Both_1 (N : Nat) (a0 : Int) (c0_0 : List Int) (l2 : List Int) : Option (Bool) :=
  Option.bind (set_Has N c0_0 a0) fun y1 =>
  some y1
-- narthex/set.keep$1
def set_keep_1_2 (N : Nat) (a0 : Int) (c0_0 : List Int) (l2 : List Int) : Option (Bool) :=
  Option.bind (set_Both_1 N a0 c0_0 l2) fun y1 =>
  some (!y1)
-- slices.IndexFunc[[]int,int]
def slices_IndexFunc_int_2_L1 (N : Nat) (c0_0 : List Int) (l2 : List Int) : Nat → Int → Option (Int ⊕ Unit)
  | 0, _ => none
  | n1 + 1, s8_1 =>
    if decide (s8_1 < (l2.length : Int)) then
      Option.bind (at? l2 s8_1) fun x4 =>
      Option.bind (set_keep_1_2 N x4 c0_0 l2) fun y5 =>
      if y5 then
        some (.inl s8_1)
      else
        slices_IndexFunc_int_2_L1 N c0_0 l2 n1 (w64 (s8_1 + 1))
    else
      some (.inr (()))
def slices_IndexFunc_int_2 (N : Nat) (c0_0 : List Int) (l2 : List Int) : Option (Int) :=
  Option.bind (α := Int ⊕ Unit) (
    slices_IndexFunc_int_2_L1 N c0_0 l2 N 0
  ) fun z1 =>
  match z1 with
  | .inl r2 =>
    some r2
  | .inr z3 =>
    some (-1)
-- slices.DeleteFunc[[]int,int]
def slices_DeleteFunc_int_2_L1 (N : Nat) (c0_0 : List Int) : Nat → (List Int) → Int → Int → Option ((List Int) × Int)
  | 0, _, _, _ => none
  | n1 + 1, l2_1, s5_1, s6_1 =>
    if decide (s6_1 < (l2_1.length : Int)) then
      Option.bind (at? l2_1 s6_1) fun x3 =>
      Option.bind (set_keep_1_2 N x3 c0_0 l2_1) fun y4 =>
      if !y4 then
        Option.bind (at? l2_1 s5_1) fun x5 =>
        slices_DeleteFunc_int_2_L1 N c0_0 n1 (l2_1.set s5_1.toNat x3) (w64 (s5_1 + 1)) (w64 (s6_1 + 1))
      else
        slices_DeleteFunc_int_2_L1 N c0_0 n1 l2_1 s5_1 (w64 (s6_1 + 1))
    else
      some (l2_1, s5_1)
def slices_DeleteFunc_int_2 (N : Nat) (c0_0 : List Int) (l2 : List Int) : Option ((List Int)) :=
  Option.bind (slices_IndexFunc_int_2 N c0_0 l2) fun y1 =>
  if y1 == (-1) then
    some l2
  else
    Option.bind (α := (List Int) × Int) (
      slices_DeleteFunc_int_2_L1 N c0_0 N l2 y1 (w64 (y1 + 1))
    ) fun z2 =>
    Option.bind (sub? z2.1 z2.2 (z2.1.length : Int)) fun x6 =>
    Option.bind (sub? (clr z2.1 (Int.toNat z2.2) x6.length 0) 0 z2.2) fun x7 =>
    some x7
-- narthex/set.keep
def set_keep_2 (N : Nat) (a0 : List Int) (c0_0 : List Int) : Option ((List Int)) :=
  Option.bind (set_Of N a0) fun y1 =>
  Option.bind (slices_DeleteFunc_int_2 N c0_0 y1) fun y2 =>
  some y2
-- narthex/set.Both
def set_Both (N : Nat) (a0 : List Int) (a1 : List Int) : Option ((List Int)) :=
  Option.bind (set_keep_2 N a0 a1) fun y1 =>
  some y1
-- narthex/narthexlaw01.awake
def narthexlaw01_awake (N : Nat) : Option (Bool) :=
  Option.bind (set_Of N [3, 1, 3]) fun y1 =>
  Option.bind (narthexref01_Same N y1 [1, 3]) fun y2 =>
  if y2 then
    Option.bind (set_Add N y1 2) fun y3 =>
    Option.bind (narthexref01_Same N y3 [1, 2, 3]) fun y4 =>
    if y4 then
      Option.bind (set_Del N y1 1) fun y5 =>
      Option.bind (narthexref01_Same N y5 [3]) fun y6 =>
      if y6 then
        Option.bind (set_Valid N y1) fun y7 =>
        if y7 then
          Option.bind (set_Valid N [1, 1]) fun y8 =>
          if !y8 then
            Option.bind (set_Has N y1 3) fun y9 =>
            if y9 then
              Option.bind (set_Place N y1 3) fun y10 =>
              if y10 == 1 then
                Option.bind (set_Within N y1 [3, 1]) fun y11 =>
                if y11 then
                  Option.bind (set_Union N y1 y1) fun y12 =>
                  if (y12.length : Int) == 2 then
                    Option.bind (set_Both N y1 [3]) fun y13 =>
                    if (y13.length : Int) == 1 then
                      Option.bind (set_Minus N y1 [3]) fun y14 =>
                      some ((y14.length : Int) == 1)
                    else
                      some false
                  else
                    some false
                else
                  some false
              else
                some false
            else
              some false
          else
            some false
        else
          some false
      else
        some false
    else
      some false
  else
    some false
-- narthex/narthexlaw01.own
def narthexlaw01_own (N : Nat) (a0 : List Int) : Option ((List Int)) :=
  Option.bind (app? ([] : List Int) a0) fun x1 =>
  some x1
-- narthex/narthexref01.Has
def narthexref01_Has_L1 (N : Nat) (a0 : List Int) (a1 : Int) : Nat → Int → Option (Bool ⊕ Unit)
  | 0, _ => none
  | n1 + 1, s5_1 =>
    if decide (s5_1 < (a0.length : Int)) then
      Option.bind (at? a0 s5_1) fun x4 =>
      if x4 == a1 then
        some (.inl true)
      else
        narthexref01_Has_L1 N a0 a1 n1 (w64 (s5_1 + 1))
    else
      some (.inr (()))
def narthexref01_Has (N : Nat) (a0 : List Int) (a1 : Int) : Option (Bool) :=
  Option.bind (α := Bool ⊕ Unit) (
    narthexref01_Has_L1 N a0 a1 N 0
  ) fun z1 =>
  match z1 with
  | .inl r2 =>
    some r2
  | .inr z3 =>
    some false
-- narthex/narthexref01.Place
def narthexref01_Place_L1 (N : Nat) (a0 : List Int) (a1 : Int) : Nat → Int → Int → Option (Int)
  | 0, _, _ => none
  | n1 + 1, s5_1, s6_1 =>
    if decide (s6_1 < (a0.length : Int)) then
      Option.bind (at? a0 s6_1) fun x2 =>
      Option.bind (if (decide (x2 < a1)) = true then sub? a0 0 s6_1 else some default) fun x3 =>
      Option.bind (if (decide (x2 < a1)) = true then at? a0 s6_1 else some default) fun x4 =>
      Option.bind (if (decide (x2 < a1)) = true then narthexref01_Has N x3 x4 else some default) fun y5 =>
      if (decide (x2 < a1)) && (!y5) then
        narthexref01_Place_L1 N a0 a1 n1 (w64 (s5_1 + 1)) (w64 (s6_1 + 1))
      else
        narthexref01_Place_L1 N a0 a1 n1 s5_1 (w64 (s6_1 + 1))
    else
      some s5_1
def narthexref01_Place (N : Nat) (a0 : List Int) (a1 : Int) : Option (Int) :=
  Option.bind (α := Int) (
    narthexref01_Place_L1 N a0 a1 N 0 0
  ) fun z1 =>
  some z1
-- narthex/narthexref01.Of
def narthexref01_Of_L1 (N : Nat) (a0 : List Int) : Nat → (List Int) → Int → Option ((List Int))
  | 0, _, _ => none
  | n1 + 1, l0_1, s4_1 =>
    if decide (s4_1 < (a0.length : Int)) then
      Option.bind (at? a0 s4_1) fun x2 =>
      Option.bind (narthexref01_Has N l0_1 x2) fun y3 =>
      if y3 then
        narthexref01_Of_L1 N a0 n1 l0_1 (w64 (s4_1 + 1))
      else
        Option.bind (at? a0 s4_1) fun x4 =>
        Option.bind (narthexref01_Place N l0_1 x4) fun y5 =>
        Option.bind (sub? l0_1 0 y5) fun x6 =>
        Option.bind (app? ([] : List Int) ((l0_1.drop 0).take x6.length)) fun x7 =>
        Option.bind (at? a0 s4_1) fun x8 =>
        Option.bind (app? x7 [x8]) fun x9 =>
        Option.bind (sub? l0_1 y5 (l0_1.length : Int)) fun x10 =>
        Option.bind (app? x9 ((l0_1.drop (Int.toNat y5)).take x10.length)) fun x11 =>
        narthexref01_Of_L1 N a0 n1 x11 (w64 (s4_1 + 1))
    else
      some l0_1
def narthexref01_Of (N : Nat) (a0 : List Int) : Option ((List Int)) :=
  Option.bind (α := (List Int)) (
    narthexref01_Of_L1 N a0 N ([] : List Int) 0
  ) fun z1 =>
  some z1
-- narthex/narthexlaw01.SetOf
def narthexlaw01_SetOf (N : Nat) (a0 : List Int) (a1 : Int) : Option (Bool) :=
  Option.bind (narthexlaw01_awake N) fun y1 =>
  if (!y1) || (decide ((a0.length : Int) > 60)) then
    Option.bind (narthexlaw01_awake N) fun y2 =>
    some y2
  else
    Option.bind (narthexlaw01_own N a0) fun y3 =>
    Option.bind (set_Of N y3) fun y4 =>
    Option.bind (narthexref01_Of N a0) fun y5 =>
    Option.bind (narthexref01_Same N y4 y5) fun y6 =>
    Option.bind (if y6 = true then narthexlaw01_own N a0 else some default) fun y7 =>
    Option.bind (if y6 = true then set_Has N y7 a1 else some default) fun y8 =>
    Option.bind (if y6 = true then narthexref01_Has N a0 a1 else some default) fun y9 =>
    Option.bind (if (y6 && (y8 == y9)) = true then narthexlaw01_own N a0 else some default) fun y10 =>
    Option.bind (if (y6 && (y8 == y9)) = true then set_Place N y10 a1 else some default) fun y11 =>
    Option.bind (if (y6 && (y8 == y9)) = true then narthexref01_Place N a0 a1 else some default) fun y12 =>
    Option.bind (if ((y6 && (y8 == y9)) && (y11 == y12)) = true then narthexlaw01_own N a0 else some default) fun y13 =>
    Option.bind (if ((y6 && (y8 == y9)) && (y11 == y12)) = true then set_Valid N y13 else some default) fun y14 =>
    Option.bind (if ((y6 && (y8 == y9)) && (y11 == y12)) = true then narthexref01_Of N a0 else some default) fun y15 =>
    Option.bind (if ((y6 && (y8 == y9)) && (y11 == y12)) = true then narthexref01_Same N a0 y15 else some default) fun y16 =>
    some (((y6 && (y8 == y9)) && (y11 == y12)) && (y14 == y16))
-- narthex/narthexref01.Union
def narthexref01_Union (N : Nat) (a0 : List Int) (a1 : List Int) : Option ((List Int)) :=
  Option.bind (app? ([] : List Int) a0) fun x1 =>
  Option.bind (app? x1 a1) fun x2 =>
  Option.bind (narthexref01_Of N x2) fun y3 =>
  some y3
-- narthex/narthexref01.Pick
def narthexref01_Pick_L1 (N : Nat) (a0 : List Int) (a1 : List Int) (a2 : Bool) : Nat → (List Int) → Int → Option ((List Int))
  | 0, _, _ => none
  | n1 + 1, l0_1, s8_1 =>
    if decide (s8_1 < (a0.length : Int)) then
      Option.bind (at? a0 s8_1) fun x2 =>
      Option.bind (narthexref01_Has N a1 x2) fun y3 =>
      if y3 == a2 then
        Option.bind (at? a0 s8_1) fun x4 =>
        Option.bind (app? l0_1 [x4]) fun x5 =>
        narthexref01_Pick_L1 N a0 a1 a2 n1 x5 (w64 (s8_1 + 1))
      else
        narthexref01_Pick_L1 N a0 a1 a2 n1 l0_1 (w64 (s8_1 + 1))
    else
      some l0_1
def narthexref01_Pick (N : Nat) (a0 : List Int) (a1 : List Int) (a2 : Bool) : Option ((List Int)) :=
  Option.bind (α := (List Int)) (
    narthexref01_Pick_L1 N a0 a1 a2 N ([] : List Int) 0
  ) fun z1 =>
  Option.bind (narthexref01_Of N z1) fun y6 =>
  some y6
-- narthex/narthexlaw01.SetJoins
def narthexlaw01_SetJoins (N : Nat) (a0 : List Int) (a1 : List Int) (a2 : Int) : Option (Bool) :=
  Option.bind (narthexlaw01_awake N) fun y1 =>
  if ((!y1) || (decide ((a0.length : Int) > 60))) || (decide ((a1.length : Int) > 60)) then
    Option.bind (narthexlaw01_awake N) fun y2 =>
    some y2
  else
    Option.bind (narthexlaw01_own N a0) fun y3 =>
    Option.bind (set_Add N y3 a2) fun y4 =>
    Option.bind (narthexref01_Union N a0 [a2]) fun y5 =>
    Option.bind (narthexref01_Same N y4 y5) fun y6 =>
    Option.bind (if y6 = true then narthexlaw01_own N a0 else some default) fun y7 =>
    Option.bind (if y6 = true then set_Del N y7 a2 else some default) fun y8 =>
    Option.bind (if y6 = true then narthexref01_Pick N a0 [a2] false else some default) fun y9 =>
    Option.bind (if y6 = true then narthexref01_Same N y8 y9 else some default) fun y10 =>
    Option.bind (if (y6 && y10) = true then narthexlaw01_own N a0 else some default) fun y11 =>
    Option.bind (if (y6 && y10) = true then narthexlaw01_own N a1 else some default) fun y12 =>
    Option.bind (if (y6 && y10) = true then set_Union N y11 y12 else some default) fun y13 =>
    Option.bind (if (y6 && y10) = true then narthexref01_Union N a0 a1 else some default) fun y14 =>
    Option.bind (if (y6 && y10) = true then narthexref01_Same N y13 y14 else some default) fun y15 =>
    Option.bind (if ((y6 && y10) && y15) = true then narthexlaw01_own N a0 else some default) fun y16 =>
    Option.bind (if ((y6 && y10) && y15) = true then narthexlaw01_own N a1 else some default) fun y17 =>
    Option.bind (if ((y6 && y10) && y15) = true then set_Both N y16 y17 else some default) fun y18 =>
    Option.bind (if ((y6 && y10) && y15) = true then narthexref01_Pick N a0 a1 true else some default) fun y19 =>
    Option.bind (if ((y6 && y10) && y15) = true then narthexref01_Same N y18 y19 else some default) fun y20 =>
    Option.bind (if (((y6 && y10) && y15) && y20) = true then narthexlaw01_own N a0 else some default) fun y21 =>
    Option.bind (if (((y6 && y10) && y15) && y20) = true then narthexlaw01_own N a1 else some default) fun y22 =>
    Option.bind (if (((y6 && y10) && y15) && y20) = true then set_Minus N y21 y22 else some default) fun y23 =>
    Option.bind (if (((y6 && y10) && y15) && y20) = true then narthexref01_Pick N a0 a1 false else some default) fun y24 =>
    Option.bind (if (((y6 && y10) && y15) && y20) = true then narthexref01_Same N y23 y24 else some default) fun y25 =>
    Option.bind (if ((((y6 && y10) && y15) && y20) && y25) = true then narthexlaw01_own N a0 else some default) fun y26 =>
    Option.bind (if ((((y6 && y10) && y15) && y20) && y25) = true then narthexlaw01_own N a1 else some default) fun y27 =>
    Option.bind (if ((((y6 && y10) && y15) && y20) && y25) = true then set_Within N y26 y27 else some default) fun y28 =>
    Option.bind (if ((((y6 && y10) && y15) && y20) && y25) = true then narthexref01_Pick N a0 a1 false else some default) fun y29 =>
    some (((((y6 && y10) && y15) && y20) && y25) && (y28 == ((y29.length : Int) == 0)))
-- narthex/narthexlaw01.SetMembers
def narthexlaw01_SetMembers (N : Nat) (a0 : List Int) (a1 : List Int) (a2 : Int) : Option (Bool) :=
  Option.bind (narthexlaw01_awake N) fun y1 =>
  if ((!y1) || (decide ((a0.length : Int) > 60))) || (decide ((a1.length : Int) > 60)) then
    Option.bind (narthexlaw01_awake N) fun y2 =>
    some y2
  else
    Option.bind (narthexlaw01_own N a0) fun y3 =>
    Option.bind (set_Has N y3 a2) fun y4 =>
    Option.bind (narthexlaw01_own N a1) fun y5 =>
    Option.bind (set_Has N y5 a2) fun y6 =>
    Option.bind (narthexlaw01_own N a0) fun y7 =>
    Option.bind (narthexlaw01_own N a1) fun y8 =>
    Option.bind (set_Union N y7 y8) fun y9 =>
    Option.bind (set_Has N y9 a2) fun y10 =>
    Option.bind (if (y10 == (y4 || y6)) = true then narthexlaw01_own N a0 else some default) fun y11 =>
    Option.bind (if (y10 == (y4 || y6)) = true then narthexlaw01_own N a1 else some default) fun y12 =>
    Option.bind (if (y10 == (y4 || y6)) = true then set_Both N y11 y12 else some default) fun y13 =>
    Option.bind (if (y10 == (y4 || y6)) = true then set_Has N y13 a2 else some default) fun y14 =>
    Option.bind (if ((y10 == (y4 || y6)) && (y14 == (y4 && y6))) = true then narthexlaw01_own N a0 else some default) fun y15 =>
    Option.bind (if ((y10 == (y4 || y6)) && (y14 == (y4 && y6))) = true then narthexlaw01_own N a1 else some default) fun y16 =>
    Option.bind (if ((y10 == (y4 || y6)) && (y14 == (y4 && y6))) = true then set_Minus N y15 y16 else some default) fun y17 =>
    Option.bind (if ((y10 == (y4 || y6)) && (y14 == (y4 && y6))) = true then set_Has N y17 a2 else some default) fun y18 =>
    Option.bind (if (((y10 == (y4 || y6)) && (y14 == (y4 && y6))) && (y18 == (y4 && (!y6)))) = true then narthexlaw01_own N a0 else some default) fun y19 =>
    Option.bind (if (((y10 == (y4 || y6)) && (y14 == (y4 && y6))) && (y18 == (y4 && (!y6)))) = true then set_Add N y19 a2 else some default) fun y20 =>
    Option.bind (if (((y10 == (y4 || y6)) && (y14 == (y4 && y6))) && (y18 == (y4 && (!y6)))) = true then set_Has N y20 a2 else some default) fun y21 =>
    Option.bind (if ((((y10 == (y4 || y6)) && (y14 == (y4 && y6))) && (y18 == (y4 && (!y6)))) && y21) = true then narthexlaw01_own N a0 else some default) fun y22 =>
    Option.bind (if ((((y10 == (y4 || y6)) && (y14 == (y4 && y6))) && (y18 == (y4 && (!y6)))) && y21) = true then set_Del N y22 a2 else some default) fun y23 =>
    Option.bind (if ((((y10 == (y4 || y6)) && (y14 == (y4 && y6))) && (y18 == (y4 && (!y6)))) && y21) = true then set_Has N y23 a2 else some default) fun y24 =>
    some (((((y10 == (y4 || y6)) && (y14 == (y4 && y6))) && (y18 == (y4 && (!y6)))) && y21) && (!y24))
-- narthex/narthexlaw01.SetStays
def narthexlaw01_SetStays (N : Nat) (a0 : List Int) (a1 : List Int) (a2 : Int) : Option (Bool) :=
  Option.bind (narthexlaw01_awake N) fun y1 =>
  if ((!y1) || (decide ((a0.length : Int) > 60))) || (decide ((a1.length : Int) > 60)) then
    Option.bind (narthexlaw01_awake N) fun y2 =>
    some y2
  else
    Option.bind (narthexlaw01_own N a0) fun y3 =>
    Option.bind (set_Of N y3) fun y4 =>
    Option.bind (set_Valid N y4) fun y5 =>
    Option.bind (if y5 = true then narthexlaw01_own N a0 else some default) fun y6 =>
    Option.bind (if y5 = true then narthexlaw01_own N a1 else some default) fun y7 =>
    Option.bind (if y5 = true then set_Union N y6 y7 else some default) fun y8 =>
    Option.bind (if y5 = true then set_Valid N y8 else some default) fun y9 =>
    Option.bind (if (y5 && y9) = true then narthexlaw01_own N a0 else some default) fun y10 =>
    Option.bind (if (y5 && y9) = true then narthexlaw01_own N a1 else some default) fun y11 =>
    Option.bind (if (y5 && y9) = true then set_Both N y10 y11 else some default) fun y12 =>
    Option.bind (if (y5 && y9) = true then set_Valid N y12 else some default) fun y13 =>
    Option.bind (if ((y5 && y9) && y13) = true then narthexlaw01_own N a0 else some default) fun y14 =>
    Option.bind (if ((y5 && y9) && y13) = true then narthexlaw01_own N a1 else some default) fun y15 =>
    Option.bind (if ((y5 && y9) && y13) = true then set_Minus N y14 y15 else some default) fun y16 =>
    Option.bind (if ((y5 && y9) && y13) = true then set_Valid N y16 else some default) fun y17 =>
    Option.bind (if (((y5 && y9) && y13) && y17) = true then narthexlaw01_own N a0 else some default) fun y18 =>
    Option.bind (if (((y5 && y9) && y13) && y17) = true then set_Add N y18 a2 else some default) fun y19 =>
    Option.bind (if (((y5 && y9) && y13) && y17) = true then set_Valid N y19 else some default) fun y20 =>
    Option.bind (if ((((y5 && y9) && y13) && y17) && y20) = true then narthexlaw01_own N a0 else some default) fun y21 =>
    Option.bind (if ((((y5 && y9) && y13) && y17) && y20) = true then set_Del N y21 a2 else some default) fun y22 =>
    Option.bind (if ((((y5 && y9) && y13) && y17) && y20) = true then set_Valid N y22 else some default) fun y23 =>
    some (((((y5 && y9) && y13) && y17) && y20) && y23)
-- narthex/narthexlaw01.SetSame
def narthexlaw01_SetSame (N : Nat) (a0 : List Int) (a1 : List Int) : Option (Bool) :=
  Option.bind (narthexlaw01_awake N) fun y1 =>
  if ((!y1) || (decide ((a0.length : Int) > 60))) || (decide ((a1.length : Int) > 60)) then
    Option.bind (narthexlaw01_awake N) fun y2 =>
    some y2
  else
    Option.bind (narthexlaw01_own N a0) fun y3 =>
    Option.bind (narthexlaw01_own N a1) fun y4 =>
    Option.bind (set_Within N y3 y4) fun y5 =>
    Option.bind (if y5 = true then narthexlaw01_own N a1 else some default) fun y6 =>
    Option.bind (if y5 = true then narthexlaw01_own N a0 else some default) fun y7 =>
    Option.bind (if y5 = true then set_Within N y6 y7 else some default) fun y8 =>
    Option.bind (narthexlaw01_own N a0) fun y9 =>
    Option.bind (set_Of N y9) fun y10 =>
    Option.bind (narthexlaw01_own N a1) fun y11 =>
    Option.bind (set_Of N y11) fun y12 =>
    Option.bind (narthexref01_Same N y10 y12) fun y13 =>
    Option.bind (if ((y5 && y8) == y13) = true then narthexlaw01_own N a0 else some default) fun y14 =>
    Option.bind (if ((y5 && y8) == y13) = true then narthexlaw01_own N a1 else some default) fun y15 =>
    Option.bind (if ((y5 && y8) == y13) = true then set_Union N y14 y15 else some default) fun y16 =>
    Option.bind (if ((y5 && y8) == y13) = true then narthexlaw01_own N a1 else some default) fun y17 =>
    Option.bind (if ((y5 && y8) == y13) = true then narthexlaw01_own N a0 else some default) fun y18 =>
    Option.bind (if ((y5 && y8) == y13) = true then set_Union N y17 y18 else some default) fun y19 =>
    Option.bind (if ((y5 && y8) == y13) = true then narthexref01_Same N y16 y19 else some default) fun y20 =>
    Option.bind (if (((y5 && y8) == y13) && y20) = true then narthexlaw01_own N a0 else some default) fun y21 =>
    Option.bind (if (((y5 && y8) == y13) && y20) = true then narthexlaw01_own N a1 else some default) fun y22 =>
    Option.bind (if (((y5 && y8) == y13) && y20) = true then set_Both N y21 y22 else some default) fun y23 =>
    Option.bind (if (((y5 && y8) == y13) && y20) = true then narthexlaw01_own N a1 else some default) fun y24 =>
    Option.bind (if (((y5 && y8) == y13) && y20) = true then narthexlaw01_own N a0 else some default) fun y25 =>
    Option.bind (if (((y5 && y8) == y13) && y20) = true then set_Both N y24 y25 else some default) fun y26 =>
    Option.bind (if (((y5 && y8) == y13) && y20) = true then narthexref01_Same N y23 y26 else some default) fun y27 =>
    some ((((y5 && y8) == y13) && y20) && y27)
-- narthex/narthexlaw01.SetParts
def narthexlaw01_SetParts (N : Nat) (a0 : List Int) (a1 : List Int) : Option (Bool) :=
  Option.bind (narthexlaw01_awake N) fun y1 =>
  if ((!y1) || (decide ((a0.length : Int) > 60))) || (decide ((a1.length : Int) > 60)) then
    Option.bind (narthexlaw01_awake N) fun y2 =>
    some y2
  else
    Option.bind (narthexlaw01_own N a0) fun y3 =>
    Option.bind (narthexlaw01_own N a1) fun y4 =>
    Option.bind (set_Both N y3 y4) fun y5 =>
    Option.bind (narthexlaw01_own N a0) fun y6 =>
    Option.bind (narthexlaw01_own N a1) fun y7 =>
    Option.bind (set_Minus N y6 y7) fun y8 =>
    Option.bind (set_Union N y5 y8) fun y9 =>
    Option.bind (narthexlaw01_own N a0) fun y10 =>
    Option.bind (set_Of N y10) fun y11 =>
    Option.bind (narthexref01_Same N y9 y11) fun y12 =>
    Option.bind (if y12 = true then narthexlaw01_own N a0 else some default) fun y13 =>
    Option.bind (if y12 = true then set_Of N y13 else some default) fun y14 =>
    Option.bind (if (y12 && ((w64 ((y5.length : Int) + (y8.length : Int))) == (y14.length : Int))) = true then set_Both N y5 y8 else some default) fun y15 =>
    some ((y12 && ((w64 ((y5.length : Int) + (y8.length : Int))) == (y14.length : Int))) && ((y15.length : Int) == 0))
-- narthex/narthexlaw01.SetPlaces
def narthexlaw01_SetPlaces_L1 (N : Nat) (a0 : List Int) (y4 : (List Int)) : Nat → Int → Option (Bool ⊕ Unit)
  | 0, _ => none
  | n1 + 1, s6_1 =>
    if decide (s6_1 < (y4.length : Int)) then
      Option.bind (narthexlaw01_own N a0) fun y8 =>
      Option.bind (at? y4 s6_1) fun x9 =>
      Option.bind (set_Place N y8 x9) fun y10 =>
      if y10 != s6_1 then
        some (.inl false)
      else
        narthexlaw01_SetPlaces_L1 N a0 y4 n1 (w64 (s6_1 + 1))
    else
      some (.inr (()))
def narthexlaw01_SetPlaces (N : Nat) (a0 : List Int) (a1 : Int) : Option (Bool) :=
  Option.bind (narthexlaw01_awake N) fun y1 =>
  if (!y1) || (decide ((a0.length : Int) > 60)) then
    Option.bind (narthexlaw01_awake N) fun y2 =>
    some y2
  else
    Option.bind (narthexlaw01_own N a0) fun y3 =>
    Option.bind (set_Of N y3) fun y4 =>
    Option.bind (α := Bool ⊕ Unit) (
      narthexlaw01_SetPlaces_L1 N a0 y4 N 0
    ) fun z5 =>
    match z5 with
    | .inl r6 =>
      some r6
    | .inr z7 =>
      Option.bind (narthexlaw01_own N a0) fun y11 =>
      Option.bind (set_Place N y11 a1) fun y12 =>
      Option.bind (if (((decide (y12 ≥ 0)) && (decide (y12 ≤ (y4.length : Int)))) && (!(y12 == (y4.length : Int)))) = true then at? y4 y12 else some default) fun x13 =>
      Option.bind (if ((((decide (y12 ≥ 0)) && (decide (y12 ≤ (y4.length : Int)))) && ((y12 == (y4.length : Int)) || (decide (x13 ≥ a1)))) && (!(y12 == 0))) = true then at? y4 (w64 (y12 - 1)) else some default) fun x14 =>
      some ((((decide (y12 ≥ 0)) && (decide (y12 ≤ (y4.length : Int)))) && ((y12 == (y4.length : Int)) || (decide (x13 ≥ a1)))) && ((y12 == 0) || (decide (x14 < a1))))
end Go.Proofs.Ytlbopfkhnebegaa
