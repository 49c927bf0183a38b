/- Models of the functions, and what is known of data that came in. -/
import Derived.Test.YtnoffbgiaenmpaaFwE
namespace Go.Proofs.Ytnoffbgiaenmpaa
open Go Go.Nx
set_option linter.unusedVariables false
set_option linter.unusedSimpArgs false
set_option linter.unnecessarySimpa false
set_option maxRecDepth 8000
structure TArc where
  From : Int
  To : Int
  deriving DecidableEq, Inhabited
def eArc (x : TArc) : List Leaf := [I x.From, I x.To]
def eI (x : Int) : List Leaf := [I x]
def eB (x : Bool) : List Leaf := [B x]
def eL_I (x : List Int) : List Leaf := [.slv (x.map eI)]
def kArc (x : TArc) : Prop := (Lit.int .i64 x.From).wf = true ∧ (Lit.int .i64 x.To).wf = true
-- narthex/dag.Check$1
def dag_Check_1 (N : Nat) (a0 : Int) (c0_0 : Int) (c1_0 : Int) (c1_1 : Int) : Option (Bool) :=
  some ((decide (0 ≤ a0)) && (decide (a0 < c0_0)))
-- slices.Index[[]narthex/api.Arc,narthex/api.Arc]
def slices_Index_Arc_L1 (N : Nat) (a0 : List TArc) (a1 : TArc) : Nat → Int → Option (Int ⊕ Unit)
  | 0, _ => none
  | n1 + 1, s8_1 =>
    if decide (s8_1 < (a0.length : Int)) then
      Option.bind (at? a0 s8_1) fun x4 =>
      if decide (a1 = x4) then
        some (.inl s8_1)
      else
        slices_Index_Arc_L1 N a0 a1 n1 (w64 (s8_1 + 1))
    else
      some (.inr (()))
def slices_Index_Arc (N : Nat) (a0 : List TArc) (a1 : TArc) : Option (Int) :=
  Option.bind (α := Int ⊕ Unit) (
    slices_Index_Arc_L1 N a0 a1 N 0
  ) fun z1 =>
  match z1 with
  | .inl r2 =>
    some r2
  | .inr z3 =>
    some (-1)
-- slices.Contains[[]narthex/api.Arc,narthex/api.Arc]
def slices_Contains_Arc (N : Nat) (a0 : List TArc) (a1 : TArc) : Option (Bool) :=
  Option.bind (slices_Index_Arc N a0 a1) fun y1 =>
  some (decide (y1 ≥ 0))
-- narthex/dag.Check
def dag_Check_L1 (N : Nat) (a0 : Int) (a1 : List TArc) : Nat → Int → Option (Int ⊕ Unit)
  | 0, _ => none
  | n1 + 1, s22_1 =>
    if decide (s22_1 < (a1.length : Int)) then
      Option.bind (at? a1 s22_1) fun x4 =>
      Option.bind (dag_Check_1 N x4.From a0 x4.From x4.To) fun y5 =>
      Option.bind (if (!(!y5)) = true then dag_Check_1 N x4.To a0 x4.From x4.To else some default) fun y6 =>
      Option.bind (if (!(((!y5) || (!y6)) || (x4.From == x4.To))) = true then sub? a1 0 s22_1 else some default) fun x7 =>
      Option.bind (if (!(((!y5) || (!y6)) || (x4.From == x4.To))) = true then slices_Contains_Arc N x7 x4 else some default) fun y8 =>
      if (((!y5) || (!y6)) || (x4.From == x4.To)) || y8 then
        some (.inl 40)
      else
        dag_Check_L1 N a0 a1 n1 (w64 (s22_1 + 1))
    else
      some (.inr (()))
def dag_Check (N : Nat) (a0 : Int) (a1 : List TArc) : Option (Int) :=
  if ((decide (a0 < 0)) || (decide (a0 > 64))) || (decide ((a1.length : Int) > 400)) then
    some 40
  else
    Option.bind (α := Int ⊕ Unit) (
      dag_Check_L1 N a0 a1 N 0
    ) fun z1 =>
    match z1 with
    | .inl r2 =>
      some r2
    | .inr z3 =>
      some 0
-- math/bits.Mul64
def math_bits_Mul64 (N : Nat) (a0 : Int) (a1 : Int) : Option (Int × Int) :=
  some (IntKind.u64.wrap ((IntKind.u64.wrap ((IntKind.u64.wrap ((Int.fdiv a0 (2 ^ 32)) * (Int.fdiv a1 (2 ^ 32)))) + (Int.fdiv (IntKind.u64.wrap ((IntKind.u64.wrap ((Int.fdiv a0 (2 ^ 32)) * (andI .u64 a1 4294967295))) + (Int.fdiv (IntKind.u64.wrap ((andI .u64 a0 4294967295) * (andI .u64 a1 4294967295))) (2 ^ 32)))) (2 ^ 32)))) + (Int.fdiv (IntKind.u64.wrap ((andI .u64 (IntKind.u64.wrap ((IntKind.u64.wrap ((Int.fdiv a0 (2 ^ 32)) * (andI .u64 a1 4294967295))) + (Int.fdiv (IntKind.u64.wrap ((andI .u64 a0 4294967295) * (andI .u64 a1 4294967295))) (2 ^ 32)))) 4294967295) + (IntKind.u64.wrap ((andI .u64 a0 4294967295) * (Int.fdiv a1 (2 ^ 32)))))) (2 ^ 32))), IntKind.u64.wrap (a0 * a1))
-- math/bits.Mul
def math_bits_Mul (N : Nat) (a0 : Int) (a1 : Int) : Option (Int × Int) :=
  Option.bind (math_bits_Mul64 N a0 a1) fun y1 =>
  some (y1.1, y1.2)
-- slices.Repeat[[]bool,bool]
def slices_Repeat_bool_L1 (N : Nat) : Nat → (List Bool) → Int → Option ((List Bool))
  | 0, _, _ => none
  | n1 + 1, l0_1, s8_1 =>
    if decide (s8_1 < (l0_1.length : Int)) then
      Option.bind (sub? l0_1 s8_1 (l0_1.length : Int)) fun x4 =>
      Option.bind (sub? l0_1 0 s8_1) fun x5 =>
      slices_Repeat_bool_L1 N n1 (cpy l0_1 (Int.toNat s8_1) x4.length ((l0_1.drop 0).take x5.length)) (w64 (s8_1 + ((min ((l0_1.drop 0).take x5.length).length x4.length : Nat) : Int)))
    else
      some l0_1
def slices_Repeat_bool (N : Nat) (a0 : List Bool) (a1 : Int) : Option ((List Bool)) :=
  if decide (a1 < 0) then
    none
  else
    Option.bind (math_bits_Mul N (IntKind.u64.wrap (a0.length : Int)) (IntKind.u64.wrap a1)) fun y1 =>
    if (decide (y1.1 > 0)) || (decide (y1.2 > 9223372036854775807)) then
      none
    else
      Option.bind (mk? (w64 y1.2) false) fun x2 =>
      Option.bind (α := (List Bool)) (
        slices_Repeat_bool_L1 N N (cpy x2 0 x2.length a0) ((min a0.length x2.length : Nat) : Int)
      ) fun z3 =>
      some z3
-- narthex/dag.run$1
def dag_run_1_3 (N : Nat) (a0 : TArc) (l0 : List Int) (l2 : List Bool) (c3_0 : Int) : Option (Bool) :=
  Option.bind (if (a0.To == c3_0) = true then at? l2 a0.From else some default) fun x1 =>
  some ((a0.To == c3_0) && x1)
-- slices.IndexFunc[[]narthex/api.Arc,narthex/api.Arc]
def slices_IndexFunc_Arc_3_L1 (N : Nat) (a0 : List TArc) (l0 : List Int) (l2 : List Bool) (c3_0 : Int) : Nat → Int → Option (Int ⊕ Unit)
  | 0, _ => none
  | n1 + 1, s8_1 =>
    if decide (s8_1 < (a0.length : Int)) then
      Option.bind (at? a0 s8_1) fun x4 =>
      Option.bind (dag_run_1_3 N x4 l0 l2 c3_0) fun y5 =>
      if y5 then
        some (.inl s8_1)
      else
        slices_IndexFunc_Arc_3_L1 N a0 l0 l2 c3_0 n1 (w64 (s8_1 + 1))
    else
      some (.inr (()))
def slices_IndexFunc_Arc_3 (N : Nat) (a0 : List TArc) (l0 : List Int) (l2 : List Bool) (c3_0 : Int) : Option (Int) :=
  Option.bind (α := Int ⊕ Unit) (
    slices_IndexFunc_Arc_3_L1 N a0 l0 l2 c3_0 N 0
  ) fun z1 =>
  match z1 with
  | .inl r2 =>
    some r2
  | .inr z3 =>
    some (-1)
-- slices.ContainsFunc[[]narthex/api.Arc,narthex/api.Arc]
def slices_ContainsFunc_Arc_3 (N : Nat) (a0 : List TArc) (l0 : List Int) (l2 : List Bool) (c3_0 : Int) : Option (Bool) :=
  Option.bind (slices_IndexFunc_Arc_3 N a0 l0 l2 c3_0) fun y1 =>
  some (decide (y1 ≥ 0))
-- narthex/dag.run
def dag_run_L2 (N : Nat) (a0 : Int) (a1 : List TArc) (l0_1 : List Int) (l2_1 : List Bool) : Nat → Int → Option (((List Int) × (List Bool)) ⊕ Unit)
  | 0, _ => none
  | n2 + 1, s12_2 =>
    if decide (s12_2 < a0) then
      Option.bind (at? l2_1 s12_2) fun x5 =>
      Option.bind (if x5 = true then slices_ContainsFunc_Arc_3 N a1 l0_1 l2_1 s12_2 else some default) fun y6 =>
      if x5 && (!y6) then
        Option.bind (at? l2_1 s12_2) fun x7 =>
        Option.bind (app? l0_1 [s12_2]) fun x8 =>
        some (.inl ((x8, l2_1.set s12_2.toNat false)))
      else
        dag_run_L2 N a0 a1 l0_1 l2_1 n2 (w64 (s12_2 + 1))
    else
      some (.inr (()))
def dag_run_J1 (N : Nat) (a0 : Int) (a1 : List TArc) : Nat → (List Int) → (List Bool) → Option ((List Int) × (List Bool))
  | 0, _, _ => none
  | n1 + 1, l0_1, l2_1 =>
    Option.bind (α := ((List Int) × (List Bool)) ⊕ Unit) (
      dag_run_L2 N a0 a1 l0_1 l2_1 N 0
    ) fun z2 =>
    match z2 with
    | .inl z3 =>
      dag_run_J1 N a0 a1 n1 z3.1 z3.2
    | .inr z4 =>
      some (l0_1, l2_1)
def dag_run (N : Nat) (a0 : Int) (a1 : List TArc) : Option ((List Int) × (List Bool)) :=
  Option.bind (α := (List Int) × (List Bool)) (
    Option.bind (slices_Repeat_bool N [true] a0) fun y9 =>
    dag_run_J1 N a0 a1 N ([] : List Int) y9
  ) fun z1 =>
  some z1
-- narthex/dag.Order
def dag_Order (N : Nat) (a0 : Int) (a1 : List TArc) : Option ((List Int) × Bool) :=
  Option.bind (dag_Check N a0 a1) fun y1 =>
  if y1 != 0 then
    some ([], false)
  else
    Option.bind (dag_run N a0 a1) fun y2 =>
    if decide ((y2.1.length : Int) < a0) then
      some ([], false)
    else
      some (y2.1, true)
-- narthex/dag.Depths
def dag_Depths_L2 (N : Nat) (a1 : List TArc) (x4 : Int) : Nat → (List Int) → Int → Option ((List Int))
  | 0, _, _ => none
  | n2 + 1, l0_2, s31_2 =>
    if decide (s31_2 < (a1.length : Int)) then
      Option.bind (at? a1 s31_2) fun x6 =>
      if x6.From == x4 then
        Option.bind (at? l0_2 x6.To) fun x7 =>
        Option.bind (at? l0_2 x4) fun x8 =>
        Option.bind (at? l0_2 x6.To) fun x9 =>
        dag_Depths_L2 N a1 x4 n2 (l0_2.set x6.To.toNat (max x7 (w64 (x8 + 1)))) (w64 (s31_2 + 1))
      else
        dag_Depths_L2 N a1 x4 n2 l0_2 (w64 (s31_2 + 1))
    else
      some l0_2
def dag_Depths_L1 (N : Nat) (a1 : List TArc) (y1 : (List Int) × Bool) : Nat → (List Int) → Int → Option ((List Int))
  | 0, _, _ => none
  | n1 + 1, l0_1, s25_1 =>
    if decide (s25_1 < (y1.1.length : Int)) then
      Option.bind (at? y1.1 s25_1) fun x4 =>
      Option.bind (α := (List Int)) (
        dag_Depths_L2 N a1 x4 N l0_1 0
      ) fun z5 =>
      dag_Depths_L1 N a1 y1 n1 z5 (w64 (s25_1 + 1))
    else
      some l0_1
def dag_Depths (N : Nat) (a0 : Int) (a1 : List TArc) : Option ((List Int) × Bool) :=
  Option.bind (dag_Order N a0 a1) fun y1 =>
  if !y1.2 then
    some ([], false)
  else
    Option.bind (mk? a0 0) fun x2 =>
    Option.bind (α := (List Int)) (
      dag_Depths_L1 N a1 y1 N x2 0
    ) fun z3 =>
    some (z3, true)
-- slices.Index[[]bool,bool]
def slices_Index_bool_L1 (N : Nat) (a0 : List Bool) (a1 : Bool) : Nat → Int → Option (Int ⊕ Unit)
  | 0, _ => none
  | n1 + 1, s8_1 =>
    if decide (s8_1 < (a0.length : Int)) then
      Option.bind (at? a0 s8_1) fun x4 =>
      if a1 == x4 then
        some (.inl s8_1)
      else
        slices_Index_bool_L1 N a0 a1 n1 (w64 (s8_1 + 1))
    else
      some (.inr (()))
def slices_Index_bool (N : Nat) (a0 : List Bool) (a1 : Bool) : Option (Int) :=
  Option.bind (α := Int ⊕ Unit) (
    slices_Index_bool_L1 N a0 a1 N 0
  ) fun z1 =>
  match z1 with
  | .inl r2 =>
    some r2
  | .inr z3 =>
    some (-1)
-- slices.Index[[]int,int]
def slices_Index_int_L1 (N : Nat) (a0 : List Int) (a1 : Int) : Nat → Int → Option (Int ⊕ Unit)
  | 0, _ => none
  | n1 + 1, s8_1 =>
    if decide (s8_1 < (a0.length : Int)) then
      Option.bind (at? a0 s8_1) fun x4 =>
      if a1 == x4 then
        some (.inl s8_1)
      else
        slices_Index_int_L1 N a0 a1 n1 (w64 (s8_1 + 1))
    else
      some (.inr (()))
def slices_Index_int (N : Nat) (a0 : List Int) (a1 : Int) : Option (Int) :=
  Option.bind (α := Int ⊕ Unit) (
    slices_Index_int_L1 N a0 a1 N 0
  ) fun z1 =>
  match z1 with
  | .inl r2 =>
    some r2
  | .inr z3 =>
    some (-1)
-- slices.Contains[[]int,int]
def slices_Contains_int (N : Nat) (a0 : List Int) (a1 : Int) : Option (Bool) :=
  Option.bind (slices_Index_int N a0 a1) fun y1 =>
  some (decide (y1 ≥ 0))
-- slices.Min[[]int,int]
def slices_Min_int_L1 (N : Nat) (a0 : List Int) : Nat → Int → Int → Option (Int)
  | 0, _, _ => none
  | n1 + 1, s3_1, s4_1 =>
    if decide (s4_1 < (a0.length : Int)) then
      Option.bind (at? a0 s4_1) fun x3 =>
      slices_Min_int_L1 N a0 n1 (min s3_1 x3) (w64 (s4_1 + 1))
    else
      some s3_1
def slices_Min_int (N : Nat) (a0 : List Int) : Option (Int) :=
  if decide ((a0.length : Int) < 1) then
    none
  else
    Option.bind (at? a0 0) fun x1 =>
    Option.bind (α := Int) (
      slices_Min_int_L1 N a0 N x1 1
    ) fun z2 =>
    some z2
-- slices.Grow[[]int,int]
def slices_Grow_int (N : Nat) (a1 : Int) : Option ((List Int)) :=
  if decide (a1 < 0) then
    none
  else
    if decide ((w64 (a1 - (w64 (0 - ((0 : Nat) : Int))))) > 0) then
      Option.bind (mk? (w64 (a1 - (w64 (0 - ((0 : Nat) : Int))))) 0) fun x1 =>
      Option.bind (sub? x1 0 ((0 : Nat) : Int)) fun x2 =>
      some x2
    else
      some []
-- slices.Grow[[]int,int]
def slices_Grow_int_o (N : Nat) (a1 : Int) : Option ((List Int)) :=
  if decide (a1 < 0) then
    none
  else
    if decide ((w64 (a1 - (w64 (0 - ((0 : Nat) : Int))))) > 0) then
      Option.bind (mk? (w64 (a1 - (w64 (0 - ((0 : Nat) : Int))))) 0) fun x1 =>
      Option.bind (sub? x1 0 ((0 : Nat) : Int)) fun x2 =>
      some x2
    else
      some ([] : List Int)
-- slices.Concat[[]int,int]
def slices_Concat_int_L1 (N : Nat) (a0 : List (List Int)) : Nat → Int → Int → Option (Int)
  | 0, _, _ => none
  | n1 + 1, s3_1, s11_1 =>
    if decide (s11_1 < (a0.length : Int)) then
      Option.bind (at? a0 s11_1) fun x2 =>
      if decide ((w64 (s3_1 + (x2.length : Int))) < 0) then
        none
      else
        slices_Concat_int_L1 N a0 n1 (w64 (s3_1 + (x2.length : Int))) (w64 (s11_1 + 1))
    else
      some s3_1
def slices_Concat_int_L2 (N : Nat) (a0 : List (List Int)) : Nat → (List Int) → Int → Option ((List Int))
  | 0, _, _ => none
  | n2 + 1, l0_2, s27_2 =>
    if decide (s27_2 < (a0.length : Int)) then
      Option.bind (at? a0 s27_2) fun x5 =>
      Option.bind (app? l0_2 x5) fun x6 =>
      slices_Concat_int_L2 N a0 n2 x6 (w64 (s27_2 + 1))
    else
      some l0_2
def slices_Concat_int (N : Nat) (a0 : List (List Int)) : Option ((List Int)) :=
  Option.bind (α := Int) (
    slices_Concat_int_L1 N a0 N 0 0
  ) fun z1 =>
  Option.bind (slices_Grow_int_o N z1) fun y3 =>
  Option.bind (α := (List Int)) (
    slices_Concat_int_L2 N a0 N y3 0
  ) fun z4 =>
  some z4
-- narthex/dag.Cycle
def dag_Cycle_L2 (N : Nat) (a1 : List TArc) (y2 : (List Int) × (List Bool)) (s8_1 : Int) : Nat → Int → Int → Option (Int)
  | 0, _, _ => none
  | n2 + 1, s10_2, s39_2 =>
    if decide (s39_2 < (a1.length : Int)) then
      Option.bind (at? a1 s39_2) fun x8 =>
      Option.bind (if (x8.To == s8_1) = true then at? y2.2 x8.From else some default) fun x9 =>
      if (x8.To == s8_1) && x9 then
        dag_Cycle_L2 N a1 y2 s8_1 n2 (min s10_2 x8.From) (w64 (s39_2 + 1))
      else
        dag_Cycle_L2 N a1 y2 s8_1 n2 s10_2 (w64 (s39_2 + 1))
    else
      some s10_2
def dag_Cycle_L1 (N : Nat) (a0 : Int) (a1 : List TArc) (y2 : (List Int) × (List Bool)) : Nat → (List Int) → Int → Option ((List Int) × Int)
  | 0, _, _ => none
  | n1 + 1, l0_1, s8_1 =>
    Option.bind (slices_Contains_int N l0_1 s8_1) fun y5 =>
    if !y5 then
      Option.bind (app? l0_1 [s8_1]) fun x6 =>
      Option.bind (α := Int) (
        dag_Cycle_L2 N a1 y2 s8_1 N a0 0
      ) fun z7 =>
      dag_Cycle_L1 N a0 a1 y2 n1 x6 z7
    else
      some (l0_1, s8_1)
def dag_Cycle (N : Nat) (a0 : Int) (a1 : List TArc) : Option ((List Int) × Bool) :=
  Option.bind (dag_Check N a0 a1) fun y1 =>
  if y1 != 0 then
    some ([], false)
  else
    Option.bind (dag_run N a0 a1) fun y2 =>
    Option.bind (slices_Index_bool N y2.2 true) fun y3 =>
    if decide (y3 < 0) then
      some ([], false)
    else
      Option.bind (α := (List Int) × Int) (
        dag_Cycle_L1 N a0 a1 y2 N ([] : List Int) y3
      ) fun z4 =>
      Option.bind (slices_Index_int N z4.1 z4.2) fun y10 =>
      Option.bind (sub? z4.1 y10 (z4.1.length : Int)) fun x11 =>
      Option.bind (rev? x11) fun x12 =>
      Option.bind (slices_Min_int N x12) fun y13 =>
      Option.bind (slices_Index_int N x12 y13) fun y14 =>
      Option.bind (sub? x12 y14 (x12.length : Int)) fun x15 =>
      Option.bind (sub? x12 0 y14) fun x16 =>
      Option.bind (slices_Concat_int N [x15, x16]) fun y17 =>
      some (y17, true)
-- narthex/narthexref01.Same
def narthexref01_Same_L1 (N : Nat) (a0 : List Int) (a1 : List Int) : Nat → Int → Option (Bool ⊕ Unit)
  | 0, _ => none
  | n1 + 1, s5_1 =>
    if decide (s5_1 < (a0.length : Int)) then
      Option.bind (at? a0 s5_1) fun x4 =>
      Option.bind (at? a1 s5_1) fun x5 =>
      if x4 != x5 then
        some (.inl false)
      else
        narthexref01_Same_L1 N a0 a1 n1 (w64 (s5_1 + 1))
    else
      some (.inr (()))
def narthexref01_Same (N : Nat) (a0 : List Int) (a1 : List Int) : Option (Bool) :=
  if (a0.length : Int) != (a1.length : Int) then
    some false
  else
    Option.bind (α := Bool ⊕ Unit) (
      narthexref01_Same_L1 N a0 a1 N 0
    ) fun z1 =>
    match z1 with
    | .inl r2 =>
      some r2
    | .inr z3 =>
      some true
-- narthex/dag.Sinks
def dag_Sinks_L2 (N : Nat) (a1 : List TArc) (s14_1 : Int) : Nat → Int → Option (Unit ⊕ Unit)
  | 0, _ => none
  | n2 + 1, s19_2 =>
    if decide (s19_2 < (a1.length : Int)) then
      Option.bind (at? a1 s19_2) fun x6 =>
      if x6.From == s14_1 then
        some (.inl ())
      else
        dag_Sinks_L2 N a1 s14_1 n2 (w64 (s19_2 + 1))
    else
      some (.inr (()))
def dag_Sinks_L1 (N : Nat) (a0 : Int) (a1 : List TArc) : Nat → (List Int) → Int → Option ((List Int))
  | 0, _, _ => none
  | n1 + 1, l0_1, s14_1 =>
    if decide (s14_1 < a0) then
      Option.bind (α := Unit ⊕ Unit) (
        dag_Sinks_L2 N a1 s14_1 N 0
      ) fun z3 =>
      match z3 with
      | .inl z4 =>
        dag_Sinks_L1 N a0 a1 n1 l0_1 (w64 (s14_1 + 1))
      | .inr z5 =>
        Option.bind (app? l0_1 [s14_1]) fun x7 =>
        dag_Sinks_L1 N a0 a1 n1 x7 (w64 (s14_1 + 1))
    else
      some l0_1
def dag_Sinks (N : Nat) (a0 : Int) (a1 : List TArc) : Option ((List Int)) :=
  Option.bind (dag_Check N a0 a1) fun y1 =>
  if y1 != 0 then
    some []
  else
    Option.bind (α := (List Int)) (
      dag_Sinks_L1 N a0 a1 N ([] : List Int) 0
    ) fun z2 =>
    some z2
def slices_Clone_Arc (N : Nat) (a0 : List TArc) : Option (List TArc) := app? [] a0
-- narthex/dag.Flip
def dag_Flip_L1 (N : Nat) (a0 : List TArc) (a1 : Int) : Nat → (List TArc) → Int → Option ((List TArc))
  | 0, _, _ => none
  | n1 + 1, l0_1, s12_1 =>
    if decide (s12_1 < (a0.length : Int)) then
      Option.bind (at? a0 s12_1) fun x3 =>
      if x3.From == a1 then
        Option.bind (at? l0_1 s12_1) fun x4 =>
        dag_Flip_L1 N a0 a1 n1 (l0_1.set s12_1.toNat (⟨x3.To, a1⟩ : TArc)) (w64 (s12_1 + 1))
      else
        dag_Flip_L1 N a0 a1 n1 l0_1 (w64 (s12_1 + 1))
    else
      some l0_1
def dag_Flip (N : Nat) (a0 : List TArc) (a1 : Int) : Option ((List TArc)) :=
  Option.bind (slices_Clone_Arc N a0) fun y1 =>
  Option.bind (α := (List TArc)) (
    dag_Flip_L1 N a0 a1 N y1 0
  ) fun z2 =>
  some z2
-- narthex/narthexlaw04.awake
def narthexlaw04_awake (N : Nat) : Option (Bool) :=
  Option.bind (dag_Order N 3 [(⟨0, 1⟩ : TArc), (⟨1, 2⟩ : TArc)]) fun y1 =>
  Option.bind (dag_Depths N 3 [(⟨0, 1⟩ : TArc), (⟨1, 2⟩ : TArc)]) fun y2 =>
  Option.bind (app? ([] : List TArc) [(⟨0, 1⟩ : TArc), (⟨1, 2⟩ : TArc)]) fun x3 =>
  Option.bind (app? x3 [(⟨2, 0⟩ : TArc)]) fun x4 =>
  Option.bind (dag_Cycle N 3 x4) fun y5 =>
  Option.bind (dag_Order N 3 x4) fun y6 =>
  if y1.2 then
    Option.bind (narthexref01_Same N y1.1 [0, 1, 2]) fun y7 =>
    if y7 then
      if y2.2 then
        Option.bind (narthexref01_Same N y2.1 [0, 1, 2]) fun y8 =>
        if y8 then
          if y5.2 then
            Option.bind (narthexref01_Same N y5.1 [0, 1, 2]) fun y9 =>
            if y9 then
              if !y6.2 then
                Option.bind (dag_Check N 3 x4) fun y10 =>
                if y10 == 0 then
                  Option.bind (dag_Sinks N 3 [(⟨0, 1⟩ : TArc), (⟨1, 2⟩ : TArc)]) fun y11 =>
                  Option.bind (narthexref01_Same N y11 [2]) fun y12 =>
                  if y12 then
                    Option.bind (dag_Flip N [(⟨0, 1⟩ : TArc), (⟨1, 2⟩ : TArc)] 0) fun y13 =>
                    Option.bind (dag_Sinks N 3 y13) fun y14 =>
                    Option.bind (narthexref01_Same N y14 [0, 2]) fun y15 =>
                    some y15
                  else
                    some false
                else
                  some false
              else
                some false
            else
              some false
          else
            some false
        else
          some false
      else
        some false
    else
      some false
  else
    some false
-- narthex/narthexlaw04.few
def narthexlaw04_few (N : Nat) (a0 : Int) (a1 : List TArc) : Option (Bool) :=
  some ((decide ((a1.length : Int) ≤ 60)) && ((decide (a0 ≤ 24)) || (decide (a0 > 64))))
-- narthex/narthexlaw04.own
def narthexlaw04_own (N : Nat) (a0 : List TArc) : Option ((List TArc)) :=
  Option.bind (app? ([] : List TArc) a0) fun x1 =>
  some x1
-- narthex/narthexref04.Check
def narthexref04_Check_L2 (N : Nat) (a1 : List TArc) (s5_1 : Int) (x4 : TArc) : Nat → Int → Option (Bool ⊕ Unit)
  | 0, _ => none
  | n2 + 1, s7_2 =>
    if decide (s7_2 < s5_1) then
      Option.bind (at? a1 s7_2) fun x8 =>
      if decide (x8 = x4) then
        some (.inl false)
      else
        narthexref04_Check_L2 N a1 s5_1 x4 n2 (w64 (s7_2 + 1))
    else
      some (.inr (()))
def narthexref04_Check_L1 (N : Nat) (a0 : Int) (a1 : List TArc) : Nat → Int → Option (Bool ⊕ Unit)
  | 0, _ => none
  | n1 + 1, s5_1 =>
    if decide (s5_1 < (a1.length : Int)) then
      Option.bind (at? a1 s5_1) fun x4 =>
      if ((((decide (x4.From < 0)) || (decide (x4.From ≥ a0))) || (decide (x4.To < 0))) || (decide (x4.To ≥ a0))) || (x4.From == x4.To) then
        some (.inl false)
      else
        Option.bind (α := Bool ⊕ Unit) (
          narthexref04_Check_L2 N a1 s5_1 x4 N 0
        ) fun z5 =>
        match z5 with
        | .inl r6 =>
          some (.inl r6)
        | .inr z7 =>
          narthexref04_Check_L1 N a0 a1 n1 (w64 (s5_1 + 1))
    else
      some (.inr (()))
def narthexref04_Check (N : Nat) (a0 : Int) (a1 : List TArc) : Option (Bool) :=
  if ((decide (a0 < 0)) || (decide (a0 > 64))) || (decide ((a1.length : Int) > 400)) then
    some false
  else
    Option.bind (α := Bool ⊕ Unit) (
      narthexref04_Check_L1 N a0 a1 N 0
    ) fun z1 =>
    match z1 with
    | .inl r2 =>
      some r2
    | .inr z3 =>
      some true
-- narthex/narthexref01.Has
def narthexref01_Has_L1 (N : Nat) (a0 : List Int) (a1 : Int) : Nat → Int → Option (Bool ⊕ Unit)
  | 0, _ => none
  | n1 + 1, s5_1 =>
    if decide (s5_1 < (a0.length : Int)) then
      Option.bind (at? a0 s5_1) fun x4 =>
      if x4 == a1 then
        some (.inl true)
      else
        narthexref01_Has_L1 N a0 a1 n1 (w64 (s5_1 + 1))
    else
      some (.inr (()))
def narthexref01_Has (N : Nat) (a0 : List Int) (a1 : Int) : Option (Bool) :=
  Option.bind (α := Bool ⊕ Unit) (
    narthexref01_Has_L1 N a0 a1 N 0
  ) fun z1 =>
  match z1 with
  | .inl r2 =>
    some r2
  | .inr z3 =>
    some false
-- narthex/narthexref04.free
def narthexref04_free_L1 (N : Nat) (a0 : List TArc) (a1 : List Int) (a2 : Int) : Nat → Int → Option (Bool ⊕ Unit)
  | 0, _ => none
  | n1 + 1, s7_1 =>
    if decide (s7_1 < (a0.length : Int)) then
      Option.bind (at? a0 s7_1) fun x4 =>
      Option.bind (if (x4.To == a2) = true then at? a0 s7_1 else some default) fun x5 =>
      Option.bind (if (x4.To == a2) = true then narthexref01_Has N a1 x5.From else some default) fun y6 =>
      if (x4.To == a2) && (!y6) then
        some (.inl false)
      else
        narthexref04_free_L1 N a0 a1 a2 n1 (w64 (s7_1 + 1))
    else
      some (.inr (()))
def narthexref04_free (N : Nat) (a0 : List TArc) (a1 : List Int) (a2 : Int) : Option (Bool) :=
  Option.bind (α := Bool ⊕ Unit) (
    narthexref04_free_L1 N a0 a1 a2 N 0
  ) fun z1 =>
  match z1 with
  | .inl r2 =>
    some r2
  | .inr z3 =>
    some true
-- narthex/narthexref04.Told
def narthexref04_Told_L2 (N : Nat) (a0 : Int) (a1 : List TArc) (l0_1 : List Int) : Nat → Int → Option (Int)
  | 0, _ => none
  | n2 + 1, s7_2 =>
    Option.bind (if (decide (s7_2 < a0)) = true then narthexref01_Has N l0_1 s7_2 else some default) fun y5 =>
    Option.bind (if ((decide (s7_2 < a0)) && (!y5)) = true then narthexref04_free N a1 l0_1 s7_2 else some default) fun y6 =>
    if (decide (s7_2 < a0)) && (y5 || (!y6)) then
      narthexref04_Told_L2 N a0 a1 l0_1 n2 (w64 (s7_2 + 1))
    else
      some s7_2
def narthexref04_Told_L1 (N : Nat) (a0 : Int) (a1 : List TArc) : Nat → (List Int) → Int → Option (((List Int)) ⊕ ((List Int)))
  | 0, _, _ => none
  | n1 + 1, l0_1, s6_1 =>
    if decide (s6_1 < a0) then
      Option.bind (α := Int) (
        narthexref04_Told_L2 N a0 a1 l0_1 N 0
      ) fun z4 =>
      if z4 == a0 then
        some (.inl l0_1)
      else
        Option.bind (app? l0_1 [z4]) fun x7 =>
        narthexref04_Told_L1 N a0 a1 n1 x7 (w64 (s6_1 + 1))
    else
      some (.inr l0_1)
def narthexref04_Told (N : Nat) (a0 : Int) (a1 : List TArc) : Option ((List Int)) :=
  Option.bind (α := ((List Int)) ⊕ ((List Int))) (
    narthexref04_Told_L1 N a0 a1 N ([] : List Int) 0
  ) fun z1 =>
  match z1 with
  | .inl r2 =>
    some r2
  | .inr z3 =>
    some z3
-- narthex/narthexref04.Order
def narthexref04_Order (N : Nat) (a0 : Int) (a1 : List TArc) : Option ((List Int) × Bool) :=
  Option.bind (narthexref04_Check N a0 a1) fun y1 =>
  if !y1 then
    some ([], false)
  else
    Option.bind (narthexref04_Told N a0 a1) fun y2 =>
    if decide ((y2.length : Int) < a0) then
      some ([], false)
    else
      some (y2, true)
-- narthex/narthexref04.Reach
def narthexref04_Reach_L2 (N : Nat) (a1 : List TArc) (a2 : Int) : Nat → (List Int) → Int → Option ((List Int))
  | 0, _, _ => none
  | n2 + 1, l0_2, s9_2 =>
    if decide (s9_2 < (a1.length : Int)) then
      Option.bind (at? a1 s9_2) fun x3 =>
      Option.bind (if (!(x3.From == a2)) = true then at? a1 s9_2 else some default) fun x4 =>
      Option.bind (if (!(x3.From == a2)) = true then narthexref01_Has N l0_2 x4.From else some default) fun y5 =>
      if (x3.From == a2) || y5 then
        Option.bind (at? a1 s9_2) fun x6 =>
        Option.bind (narthexref01_Has N l0_2 x6.To) fun y7 =>
        if !y7 then
          Option.bind (at? a1 s9_2) fun x8 =>
          Option.bind (app? l0_2 [x8.To]) fun x9 =>
          narthexref04_Reach_L2 N a1 a2 n2 x9 (w64 (s9_2 + 1))
        else
          narthexref04_Reach_L2 N a1 a2 n2 l0_2 (w64 (s9_2 + 1))
      else
        narthexref04_Reach_L2 N a1 a2 n2 l0_2 (w64 (s9_2 + 1))
    else
      some l0_2
def narthexref04_Reach_L1 (N : Nat) (a0 : Int) (a1 : List TArc) (a2 : Int) : Nat → (List Int) → Int → Option ((List Int))
  | 0, _, _ => none
  | n1 + 1, l0_1, s8_1 =>
    if decide (s8_1 ≤ a0) then
      Option.bind (α := (List Int)) (
        narthexref04_Reach_L2 N a1 a2 N l0_1 0
      ) fun z2 =>
      narthexref04_Reach_L1 N a0 a1 a2 n1 z2 (w64 (s8_1 + 1))
    else
      some l0_1
def narthexref04_Reach (N : Nat) (a0 : Int) (a1 : List TArc) (a2 : Int) : Option ((List Int)) :=
  Option.bind (α := (List Int)) (
    narthexref04_Reach_L1 N a0 a1 a2 N ([] : List Int) 0
  ) fun z1 =>
  some z1
-- narthex/narthexref04.Round
def narthexref04_Round_L1 (N : Nat) (a0 : Int) (a1 : List TArc) : Nat → Int → Option (Bool ⊕ Unit)
  | 0, _ => none
  | n1 + 1, s5_1 =>
    if decide (s5_1 < a0) then
      Option.bind (narthexref04_Reach N a0 a1 s5_1) fun y4 =>
      Option.bind (narthexref01_Has N y4 s5_1) fun y5 =>
      if y5 then
        some (.inl true)
      else
        narthexref04_Round_L1 N a0 a1 n1 (w64 (s5_1 + 1))
    else
      some (.inr (()))
def narthexref04_Round (N : Nat) (a0 : Int) (a1 : List TArc) : Option (Bool) :=
  Option.bind (α := Bool ⊕ Unit) (
    narthexref04_Round_L1 N a0 a1 N 0
  ) fun z1 =>
  match z1 with
  | .inl r2 =>
    some r2
  | .inr z3 =>
    some false
-- narthex/narthexref04.Depths
def narthexref04_Depths_L1 (N : Nat) (a0 : Int) : Nat → (List Int) → Int → Option ((List Int))
  | 0, _, _ => none
  | n1 + 1, l0_1, s7_1 =>
    if decide (s7_1 < a0) then
      Option.bind (app? l0_1 [0]) fun x4 =>
      narthexref04_Depths_L1 N a0 n1 x4 (w64 (s7_1 + 1))
    else
      some l0_1
def narthexref04_Depths_L3 (N : Nat) (a1 : List TArc) : Nat → (List Int) → Int → Option ((List Int))
  | 0, _, _ => none
  | n3 + 1, l0_3, s9_3 =>
    if decide (s9_3 < (a1.length : Int)) then
      Option.bind (at? a1 s9_3) fun x7 =>
      Option.bind (at? a1 s9_3) fun x8 =>
      Option.bind (at? l0_3 x8.To) fun x9 =>
      Option.bind (at? a1 s9_3) fun x10 =>
      Option.bind (at? l0_3 x10.From) fun x11 =>
      Option.bind (at? l0_3 x7.To) fun x12 =>
      narthexref04_Depths_L3 N a1 n3 (l0_3.set x7.To.toNat (max x9 (w64 (x11 + 1)))) (w64 (s9_3 + 1))
    else
      some l0_3
def narthexref04_Depths_L2 (N : Nat) (a0 : Int) (a1 : List TArc) : Nat → (List Int) → Int → Option ((List Int))
  | 0, _, _ => none
  | n2 + 1, l0_2, s8_2 =>
    if decide (s8_2 < a0) then
      Option.bind (α := (List Int)) (
        narthexref04_Depths_L3 N a1 N l0_2 0
      ) fun z6 =>
      narthexref04_Depths_L2 N a0 a1 n2 z6 (w64 (s8_2 + 1))
    else
      some l0_2
def narthexref04_Depths (N : Nat) (a0 : Int) (a1 : List TArc) : Option ((List Int) × Bool) :=
  Option.bind (narthexref04_Check N a0 a1) fun y1 =>
  Option.bind (if (!(!y1)) = true then narthexref04_Round N a0 a1 else some default) fun y2 =>
  if (!y1) || y2 then
    some ([], false)
  else
    Option.bind (α := (List Int)) (
      narthexref04_Depths_L1 N a0 N ([] : List Int) 0
    ) fun z3 =>
    Option.bind (α := (List Int)) (
      narthexref04_Depths_L2 N a0 a1 N z3 0
    ) fun z5 =>
    some (z5, true)
-- narthex/narthexlaw04.DagOrders
def narthexlaw04_DagOrders (N : Nat) (a0 : Int) (a1 : List TArc) : Option (Bool) :=
  Option.bind (narthexlaw04_awake N) fun y1 =>
  Option.bind (if (!(!y1)) = true then narthexlaw04_few N a0 a1 else some default) fun y2 =>
  if (!y1) || (!y2) then
    Option.bind (narthexlaw04_awake N) fun y3 =>
    some y3
  else
    Option.bind (narthexlaw04_own N a1) fun y4 =>
    Option.bind (dag_Order N a0 y4) fun y5 =>
    Option.bind (narthexref04_Order N a0 a1) fun y6 =>
    Option.bind (narthexlaw04_own N a1) fun y7 =>
    Option.bind (dag_Depths N a0 y7) fun y8 =>
    Option.bind (narthexref04_Depths N a0 a1) fun y9 =>
    Option.bind (narthexref01_Same N y5.1 y6.1) fun y10 =>
    Option.bind (if (y10 && (y5.2 == y6.2)) = true then narthexref01_Same N y8.1 y9.1 else some default) fun y11 =>
    Option.bind (if (((y10 && (y5.2 == y6.2)) && y11) && (y8.2 == y9.2)) = true then narthexlaw04_own N a1 else some default) fun y12 =>
    Option.bind (if (((y10 && (y5.2 == y6.2)) && y11) && (y8.2 == y9.2)) = true then dag_Check N a0 y12 else some default) fun y13 =>
    Option.bind (if (((y10 && (y5.2 == y6.2)) && y11) && (y8.2 == y9.2)) = true then narthexref04_Check N a0 a1 else some default) fun y14 =>
    Option.bind (if ((((y10 && (y5.2 == y6.2)) && y11) && (y8.2 == y9.2)) && ((y13 == 0) == y14)) = true then narthexref04_Check N a0 a1 else some default) fun y15 =>
    Option.bind (if (((((y10 && (y5.2 == y6.2)) && y11) && (y8.2 == y9.2)) && ((y13 == 0) == y14)) && (!y15)) = true then narthexlaw04_own N a1 else some default) fun y16 =>
    Option.bind (if (((((y10 && (y5.2 == y6.2)) && y11) && (y8.2 == y9.2)) && ((y13 == 0) == y14)) && (!y15)) = true then dag_Check N a0 y16 else some default) fun y17 =>
    some (((((y10 && (y5.2 == y6.2)) && y11) && (y8.2 == y9.2)) && ((y13 == 0) == y14)) && (y15 || (y17 == 40)))
-- narthex/narthexref04.Cycle
def narthexref04_Cycle_L1 (N : Nat) (a0 : Int) (y2 : (List Int)) : Nat → Int → Option (Int)
  | 0, _ => none
  | n1 + 1, s7_1 =>
    Option.bind (if (decide (s7_1 < a0)) = true then narthexref01_Has N y2 s7_1 else some default) fun y4 =>
    if (decide (s7_1 < a0)) && y4 then
      narthexref04_Cycle_L1 N a0 y2 n1 (w64 (s7_1 + 1))
    else
      some s7_1
def narthexref04_Cycle_L4 (N : Nat) (a1 : List TArc) (s7_2 : Int) (s9_3 : Int) : Nat → Bool → Int → Option (Bool)
  | 0, _, _ => none
  | n4 + 1, s11_4, s12_4 =>
    if decide (s12_4 < (a1.length : Int)) then
      Option.bind (if (!s11_4) = true then at? a1 s12_4 else some default) fun x11 =>
      Option.bind (if ((!s11_4) && (x11.From == s9_3)) = true then at? a1 s12_4 else some default) fun x12 =>
      narthexref04_Cycle_L4 N a1 s7_2 s9_3 n4 (s11_4 || ((x11.From == s9_3) && (x12.To == s7_2))) (w64 (s12_4 + 1))
    else
      some s11_4
def narthexref04_Cycle_L3 (N : Nat) (a0 : Int) (a1 : List TArc) (y2 : (List Int)) (s7_2 : Int) : Nat → Int → Option (Int)
  | 0, _ => none
  | n3 + 1, s9_3 =>
    if decide (s9_3 < a0) then
      Option.bind (narthexref01_Has N y2 s9_3) fun y9 =>
      Option.bind (α := Bool) (
        narthexref04_Cycle_L4 N a1 s7_2 s9_3 N false 0
      ) fun z10 =>
      if (!y9) && z10 then
        some s9_3
      else
        narthexref04_Cycle_L3 N a0 a1 y2 s7_2 n3 (w64 (s9_3 + 1))
    else
      some s9_3
def narthexref04_Cycle_L2 (N : Nat) (a0 : Int) (a1 : List TArc) (y2 : (List Int)) : Nat → (List Int) → Int → Option ((List Int) × Int)
  | 0, _, _ => none
  | n2 + 1, l0_2, s7_2 =>
    Option.bind (narthexref01_Has N l0_2 s7_2) fun y6 =>
    if !y6 then
      Option.bind (app? [s7_2] l0_2) fun x7 =>
      Option.bind (α := Int) (
        narthexref04_Cycle_L3 N a0 a1 y2 s7_2 N 0
      ) fun z8 =>
      narthexref04_Cycle_L2 N a0 a1 y2 n2 x7 z8
    else
      some (l0_2, s7_2)
def narthexref04_Cycle_L5 (N : Nat) (z5 : (List Int) × Int) : Nat → (List Int) → Int → Option ((List Int))
  | 0, _, _ => none
  | n5 + 1, l1_5, s14_5 =>
    if decide (s14_5 < (z5.1.length : Int)) then
      Option.bind (at? z5.1 s14_5) fun x14 =>
      Option.bind (app? l1_5 [x14]) fun x15 =>
      Option.bind (at? z5.1 s14_5) fun x16 =>
      if x16 == z5.2 then
        some x15
      else
        narthexref04_Cycle_L5 N z5 n5 x15 (w64 (s14_5 + 1))
    else
      some l1_5
def narthexref04_Cycle_L6 (N : Nat) (z13 : (List Int)) : Nat → Int → Int → Option (Int)
  | 0, _, _ => none
  | n6 + 1, s15_6, s16_6 =>
    if decide (s16_6 < (z13.length : Int)) then
      Option.bind (at? z13 s16_6) fun x18 =>
      Option.bind (at? z13 s15_6) fun x19 =>
      if decide (x18 < x19) then
        narthexref04_Cycle_L6 N z13 n6 s16_6 (w64 (s16_6 + 1))
      else
        narthexref04_Cycle_L6 N z13 n6 s15_6 (w64 (s16_6 + 1))
    else
      some s15_6
def narthexref04_Cycle (N : Nat) (a0 : Int) (a1 : List TArc) : Option ((List Int) × Bool) :=
  Option.bind (narthexref04_Check N a0 a1) fun y1 =>
  if !y1 then
    some ([], false)
  else
    Option.bind (narthexref04_Told N a0 a1) fun y2 =>
    Option.bind (α := Int) (
      narthexref04_Cycle_L1 N a0 y2 N 0
    ) fun z3 =>
    if z3 == a0 then
      some ([], false)
    else
      Option.bind (α := (List Int) × Int) (
        narthexref04_Cycle_L2 N a0 a1 y2 N ([] : List Int) z3
      ) fun z5 =>
      Option.bind (α := (List Int)) (
        narthexref04_Cycle_L5 N z5 N ([] : List Int) 0
      ) fun z13 =>
      Option.bind (α := Int) (
        narthexref04_Cycle_L6 N z13 N 0 0
      ) fun z17 =>
      Option.bind (sub? z13 z17 (z13.length : Int)) fun x20 =>
      Option.bind (app? ([] : List Int) ((z13.drop (Int.toNat z17)).take x20.length)) fun x21 =>
      Option.bind (sub? z13 0 z17) fun x22 =>
      Option.bind (app? x21 ((z13.drop 0).take x22.length)) fun x23 =>
      some (x23, true)
-- narthex/narthexlaw04.DagCycles
def narthexlaw04_DagCycles (N : Nat) (a0 : Int) (a1 : List TArc) : Option (Bool) :=
  Option.bind (narthexlaw04_awake N) fun y1 =>
  Option.bind (if (!(!y1)) = true then narthexlaw04_few N a0 a1 else some default) fun y2 =>
  if (!y1) || (!y2) then
    Option.bind (narthexlaw04_awake N) fun y3 =>
    some y3
  else
    Option.bind (narthexlaw04_own N a1) fun y4 =>
    Option.bind (dag_Cycle N a0 y4) fun y5 =>
    Option.bind (narthexref04_Cycle N a0 a1) fun y6 =>
    Option.bind (narthexref01_Same N y5.1 y6.1) fun y7 =>
    some (y7 && (y5.2 == y6.2))
-- narthex/narthexref04.Flip
def narthexref04_Flip_L1 (N : Nat) (a0 : List TArc) (a1 : Int) : Nat → (List TArc) → Int → Option ((List TArc))
  | 0, _, _ => none
  | n1 + 1, l0_1, s6_1 =>
    if decide (s6_1 < (a0.length : Int)) then
      Option.bind (at? a0 s6_1) fun x2 =>
      if x2.From == a1 then
        Option.bind (app? l0_1 [(⟨x2.To, x2.From⟩ : TArc)]) fun x3 =>
        narthexref04_Flip_L1 N a0 a1 n1 x3 (w64 (s6_1 + 1))
      else
        Option.bind (app? l0_1 [x2]) fun x4 =>
        narthexref04_Flip_L1 N a0 a1 n1 x4 (w64 (s6_1 + 1))
    else
      some l0_1
def narthexref04_Flip (N : Nat) (a0 : List TArc) (a1 : Int) : Option ((List TArc)) :=
  Option.bind (α := (List TArc)) (
    narthexref04_Flip_L1 N a0 a1 N ([] : List TArc) 0
  ) fun z1 =>
  some z1
-- narthex/narthexref04.Same
def narthexref04_Same_L1 (N : Nat) (a0 : List TArc) (a1 : List TArc) : Nat → Int → Option (Bool ⊕ Unit)
  | 0, _ => none
  | n1 + 1, s5_1 =>
    if decide (s5_1 < (a0.length : Int)) then
      Option.bind (at? a0 s5_1) fun x4 =>
      Option.bind (at? a1 s5_1) fun x5 =>
      if !decide (x4 = x5) then
        some (.inl false)
      else
        narthexref04_Same_L1 N a0 a1 n1 (w64 (s5_1 + 1))
    else
      some (.inr (()))
def narthexref04_Same (N : Nat) (a0 : List TArc) (a1 : List TArc) : Option (Bool) :=
  if (a0.length : Int) != (a1.length : Int) then
    some false
  else
    Option.bind (α := Bool ⊕ Unit) (
      narthexref04_Same_L1 N a0 a1 N 0
    ) fun z1 =>
    match z1 with
    | .inl r2 =>
      some r2
    | .inr z3 =>
      some true
-- narthex/narthexref04.Sinks
def narthexref04_Sinks_L2 (N : Nat) (a1 : List TArc) (s6_1 : Int) : Nat → Bool → Int → Option (Bool)
  | 0, _, _ => none
  | n2 + 1, s7_2, s8_2 =>
    if decide (s8_2 < (a1.length : Int)) then
      Option.bind (if (!s7_2) = true then at? a1 s8_2 else some default) fun x4 =>
      narthexref04_Sinks_L2 N a1 s6_1 n2 (s7_2 || (x4.From == s6_1)) (w64 (s8_2 + 1))
    else
      some s7_2
def narthexref04_Sinks_L1 (N : Nat) (a0 : Int) (a1 : List TArc) : Nat → (List Int) → Int → Option ((List Int))
  | 0, _, _ => none
  | n1 + 1, l0_1, s6_1 =>
    Option.bind (if (decide (s6_1 < a0)) = true then narthexref04_Check N a0 a1 else some default) fun y2 =>
    if (decide (s6_1 < a0)) && y2 then
      Option.bind (α := Bool) (
        narthexref04_Sinks_L2 N a1 s6_1 N false 0
      ) fun z3 =>
      if !z3 then
        Option.bind (app? l0_1 [s6_1]) fun x5 =>
        narthexref04_Sinks_L1 N a0 a1 n1 x5 (w64 (s6_1 + 1))
      else
        narthexref04_Sinks_L1 N a0 a1 n1 l0_1 (w64 (s6_1 + 1))
    else
      some l0_1
def narthexref04_Sinks (N : Nat) (a0 : Int) (a1 : List TArc) : Option ((List Int)) :=
  Option.bind (α := (List Int)) (
    narthexref04_Sinks_L1 N a0 a1 N ([] : List Int) 0
  ) fun z1 =>
  some z1
-- narthex/narthexlaw04.DagFlips
def narthexlaw04_DagFlips (N : Nat) (a0 : Int) (a1 : List TArc) (a2 : Int) : Option (Bool) :=
  Option.bind (narthexlaw04_awake N) fun y1 =>
  Option.bind (if (!(!y1)) = true then narthexlaw04_few N a0 a1 else some default) fun y2 =>
  if (!y1) || (!y2) then
    Option.bind (narthexlaw04_awake N) fun y3 =>
    some y3
  else
    Option.bind (narthexlaw04_own N a1) fun y4 =>
    Option.bind (dag_Flip N y4 a2) fun y5 =>
    Option.bind (narthexref04_Flip N a1 a2) fun y6 =>
    Option.bind (narthexref04_Same N y5 y6) fun y7 =>
    Option.bind (if y7 = true then narthexlaw04_own N a1 else some default) fun y8 =>
    Option.bind (if y7 = true then dag_Sinks N a0 y8 else some default) fun y9 =>
    Option.bind (if y7 = true then narthexref04_Sinks N a0 a1 else some default) fun y10 =>
    Option.bind (if y7 = true then narthexref01_Same N y9 y10 else some default) fun y11 =>
    some (y7 && y11)
-- narthex/narthexlaw04.DagDeep
def narthexlaw04_DagDeep_L2 (N : Nat) (a1 : List TArc) (y5 : (List Int) × Bool) (s8_1 : Int) : Nat → Int → Int → Option (Int)
  | 0, _, _ => none
  | n2 + 1, s9_2, s10_2 =>
    if decide (s10_2 < (a1.length : Int)) then
      Option.bind (at? a1 s10_2) fun x8 =>
      if x8.To == s8_1 then
        Option.bind (at? a1 s10_2) fun x9 =>
        Option.bind (at? y5.1 x9.From) fun x10 =>
        narthexlaw04_DagDeep_L2 N a1 y5 s8_1 n2 (max s9_2 (w64 (x10 + 1))) (w64 (s10_2 + 1))
      else
        narthexlaw04_DagDeep_L2 N a1 y5 s8_1 n2 s9_2 (w64 (s10_2 + 1))
    else
      some s9_2
def narthexlaw04_DagDeep_L1 (N : Nat) (a0 : Int) (a1 : List TArc) (y5 : (List Int) × Bool) : Nat → (List Int) → Int → Option ((List Int))
  | 0, _, _ => none
  | n1 + 1, l0_1, s8_1 =>
    if decide (s8_1 < a0) then
      Option.bind (α := Int) (
        narthexlaw04_DagDeep_L2 N a1 y5 s8_1 N 0 0
      ) fun z7 =>
      Option.bind (app? l0_1 [z7]) fun x11 =>
      narthexlaw04_DagDeep_L1 N a0 a1 y5 n1 x11 (w64 (s8_1 + 1))
    else
      some l0_1
def narthexlaw04_DagDeep (N : Nat) (a0 : Int) (a1 : List TArc) : Option (Bool) :=
  Option.bind (narthexlaw04_awake N) fun y1 =>
  Option.bind (if (!(!y1)) = true then narthexlaw04_few N a0 a1 else some default) fun y2 =>
  if (!y1) || (!y2) then
    Option.bind (narthexlaw04_awake N) fun y3 =>
    some y3
  else
    Option.bind (narthexlaw04_own N a1) fun y4 =>
    Option.bind (dag_Depths N a0 y4) fun y5 =>
    if !y5.2 then
      some ((y5.1.length : Int) == 0)
    else
      Option.bind (α := (List Int)) (
        narthexlaw04_DagDeep_L1 N a0 a1 y5 N ([] : List Int) 0
      ) fun z6 =>
      Option.bind (narthexref01_Same N y5.1 z6) fun y12 =>
      some y12
-- narthex/narthexlaw04.DagLess
def narthexlaw04_DagLess_L1 (N : Nat) (y5 : (List Int) × Bool) (y11 : (List Int) × Bool) : Nat → Int → Option (Bool ⊕ Unit)
  | 0, _ => none
  | n1 + 1, s12_1 =>
    if (decide (s12_1 < (y5.1.length : Int))) && (decide (s12_1 < (y11.1.length : Int))) then
      Option.bind (at? y11.1 s12_1) fun x15 =>
      Option.bind (at? y5.1 s12_1) fun x16 =>
      if decide (x15 > x16) then
        some (.inl false)
      else
        narthexlaw04_DagLess_L1 N y5 y11 n1 (w64 (s12_1 + 1))
    else
      some (.inr (()))
def narthexlaw04_DagLess (N : Nat) (a0 : Int) (a1 : List TArc) (a2 : Int) : Option (Bool) :=
  Option.bind (narthexlaw04_awake N) fun y1 =>
  Option.bind (if (!(!y1)) = true then narthexlaw04_few N a0 a1 else some default) fun y2 =>
  if ((!y1) || (!y2)) || ((a1.length : Int) == 0) then
    Option.bind (narthexlaw04_awake N) fun y3 =>
    some y3
  else
    Option.bind (narthexlaw04_own N a1) fun y4 =>
    Option.bind (dag_Depths N a0 y4) fun y5 =>
    if !y5.2 then
      some true
    else
      Option.bind (rem? (w64 a2) (a1.length : Int)) fun x6 =>
      Option.bind (sub? a1 0 x6) fun x7 =>
      Option.bind (narthexlaw04_own N x7) fun y8 =>
      Option.bind (sub? a1 (w64 (x6 + 1)) (a1.length : Int)) fun x9 =>
      Option.bind (app? y8 x9) fun x10 =>
      Option.bind (dag_Depths N a0 x10) fun y11 =>
      Option.bind (α := Bool ⊕ Unit) (
        narthexlaw04_DagLess_L1 N y5 y11 N 0
      ) fun z12 =>
      match z12 with
      | .inl r13 =>
        some r13
      | .inr z14 =>
        some (y11.2 && ((y5.1.length : Int) == (y11.1.length : Int)))
-- narthex/narthexlaw04.has
def narthexlaw04_has_L1 (N : Nat) (a0 : List TArc) (a1 : TArc) : Nat → Int → Option (Bool ⊕ Unit)
  | 0, _ => none
  | n1 + 1, s5_1 =>
    if decide (s5_1 < (a0.length : Int)) then
      Option.bind (at? a0 s5_1) fun x4 =>
      if decide (x4 = a1) then
        some (.inl true)
      else
        narthexlaw04_has_L1 N a0 a1 n1 (w64 (s5_1 + 1))
    else
      some (.inr (()))
def narthexlaw04_has (N : Nat) (a0 : List TArc) (a1 : TArc) : Option (Bool) :=
  Option.bind (α := Bool ⊕ Unit) (
    narthexlaw04_has_L1 N a0 a1 N 0
  ) fun z1 =>
  match z1 with
  | .inl r2 =>
    some r2
  | .inr z3 =>
    some false
-- narthex/set.Has
def set_Has (N : Nat) (a0 : List Int) (a1 : Int) : Option (Bool) :=
  Option.bind (slices_Contains_int N a0 a1) fun y1 =>
  some y1
-- narthex/narthexlaw04.DagSink
def narthexlaw04_DagSink_L1 (N : Nat) (y9 : (List TArc)) : Nat → (List TArc) → Int → Option ((List TArc))
  | 0, _, _ => none
  | n1 + 1, l0_1, s13_1 =>
    if decide (s13_1 < (y9.length : Int)) then
      Option.bind (narthexref04_Same N l0_1 []) fun y11 =>
      Option.bind (if (!y11) = true then at? y9 s13_1 else some default) fun x12 =>
      Option.bind (if (!y11) = true then narthexlaw04_has N l0_1 x12 else some default) fun y13 =>
      if (!y11) && y13 then
        narthexlaw04_DagSink_L1 N y9 n1 l0_1 (w64 (s13_1 + 1))
      else
        Option.bind (at? y9 s13_1) fun x14 =>
        Option.bind (app? l0_1 [x14]) fun x15 =>
        narthexlaw04_DagSink_L1 N y9 n1 x15 (w64 (s13_1 + 1))
    else
      some l0_1
def narthexlaw04_DagSink (N : Nat) (a0 : Int) (a1 : List TArc) (a2 : Int) (a3 : Int) : Option (Bool) :=
  Option.bind (narthexlaw04_awake N) fun y1 =>
  Option.bind (if (!(!y1)) = true then narthexlaw04_few N a0 a1 else some default) fun y2 =>
  Option.bind (if (!((!y1) || (!y2))) = true then narthexlaw04_own N a1 else some default) fun y3 =>
  Option.bind (if (!((!y1) || (!y2))) = true then dag_Check N a0 y3 else some default) fun y4 =>
  if (((((((!y1) || (!y2)) || (y4 != 0)) || (decide (a2 < 0))) || (decide (a2 ≥ a0))) || (decide (a3 < 0))) || (decide (a3 ≥ a0))) || (a3 == a2) then
    Option.bind (narthexlaw04_awake N) fun y5 =>
    some y5
  else
    Option.bind (narthexlaw04_own N a1) fun y6 =>
    Option.bind (dag_Order N a0 y6) fun y7 =>
    if !y7.2 then
      some true
    else
      Option.bind (narthexlaw04_own N a1) fun y8 =>
      Option.bind (dag_Flip N y8 a2) fun y9 =>
      Option.bind (α := (List TArc)) (
        narthexlaw04_DagSink_L1 N y9 N ([] : List TArc) 0
      ) fun z10 =>
      Option.bind (narthexlaw04_own N z10) fun y16 =>
      Option.bind (dag_Order N a0 y16) fun y17 =>
      Option.bind (if (!(!y17.2)) = true then narthexlaw04_own N z10 else some default) fun y18 =>
      Option.bind (if (!(!y17.2)) = true then dag_Sinks N a0 y18 else some default) fun y19 =>
      Option.bind (if (!(!y17.2)) = true then set_Has N y19 a2 else some default) fun y20 =>
      Option.bind (if (!((!y17.2) || (!y20))) = true then narthexlaw04_has N z10 (⟨a3, a2⟩ : TArc) else some default) fun y21 =>
      if ((!y17.2) || (!y20)) || y21 then
        Option.bind (if y17.2 = true then narthexlaw04_own N z10 else some default) fun y22 =>
        Option.bind (if y17.2 = true then dag_Sinks N a0 y22 else some default) fun y23 =>
        Option.bind (if y17.2 = true then set_Has N y23 a2 else some default) fun y24 =>
        some (y17.2 && y24)
      else
        Option.bind (narthexlaw04_own N z10) fun y25 =>
        Option.bind (app? y25 [(⟨a3, a2⟩ : TArc)]) fun x26 =>
        Option.bind (dag_Order N a0 x26) fun y27 =>
        some y27.2
-- narthex/narthexlaw04.DagEither$1
def narthexlaw04_DagEither_1_L1 (N : Nat) (a0 : Int) (c0_0 : List Int) : Nat → Int → Option (Int ⊕ Unit)
  | 0, _ => none
  | n1 + 1, s4_1 =>
    if decide (s4_1 < (c0_0.length : Int)) then
      Option.bind (at? c0_0 s4_1) fun x4 =>
      if x4 == a0 then
        some (.inl s4_1)
      else
        narthexlaw04_DagEither_1_L1 N a0 c0_0 n1 (w64 (s4_1 + 1))
    else
      some (.inr (()))
def narthexlaw04_DagEither_1 (N : Nat) (a0 : Int) (c0_0 : List Int) : Option (Int) :=
  Option.bind (α := Int ⊕ Unit) (
    narthexlaw04_DagEither_1_L1 N a0 c0_0 N 0
  ) fun z1 =>
  match z1 with
  | .inl r2 =>
    some r2
  | .inr z3 =>
    some (-1)
def slices_Clone_int (N : Nat) (a0 : List Int) : Option (List Int) := app? [] a0
-- narthex/set.Of
def set_Of (N : Nat) (a0 : List Int) : Option ((List Int)) :=
  Option.bind (slices_Clone_int N a0) fun y1 =>
  Option.bind (sort? y1) fun x2 =>
  Option.bind (ded? x2) fun x3 =>
  some x3
-- narthex/narthexref01.Place
def narthexref01_Place_L1 (N : Nat) (a0 : List Int) (a1 : Int) : Nat → Int → Int → Option (Int)
  | 0, _, _ => none
  | n1 + 1, s5_1, s6_1 =>
    if decide (s6_1 < (a0.length : Int)) then
      Option.bind (at? a0 s6_1) fun x2 =>
      Option.bind (if (decide (x2 < a1)) = true then sub? a0 0 s6_1 else some default) fun x3 =>
      Option.bind (if (decide (x2 < a1)) = true then at? a0 s6_1 else some default) fun x4 =>
      Option.bind (if (decide (x2 < a1)) = true then narthexref01_Has N x3 x4 else some default) fun y5 =>
      if (decide (x2 < a1)) && (!y5) then
        narthexref01_Place_L1 N a0 a1 n1 (w64 (s5_1 + 1)) (w64 (s6_1 + 1))
      else
        narthexref01_Place_L1 N a0 a1 n1 s5_1 (w64 (s6_1 + 1))
    else
      some s5_1
def narthexref01_Place (N : Nat) (a0 : List Int) (a1 : Int) : Option (Int) :=
  Option.bind (α := Int) (
    narthexref01_Place_L1 N a0 a1 N 0 0
  ) fun z1 =>
  some z1
-- narthex/narthexref01.Of
def narthexref01_Of_L1 (N : Nat) (a0 : List Int) : Nat → (List Int) → Int → Option ((List Int))
  | 0, _, _ => none
  | n1 + 1, l0_1, s4_1 =>
    if decide (s4_1 < (a0.length : Int)) then
      Option.bind (at? a0 s4_1) fun x2 =>
      Option.bind (narthexref01_Has N l0_1 x2) fun y3 =>
      if y3 then
        narthexref01_Of_L1 N a0 n1 l0_1 (w64 (s4_1 + 1))
      else
        Option.bind (at? a0 s4_1) fun x4 =>
        Option.bind (narthexref01_Place N l0_1 x4) fun y5 =>
        Option.bind (sub? l0_1 0 y5) fun x6 =>
        Option.bind (app? ([] : List Int) ((l0_1.drop 0).take x6.length)) fun x7 =>
        Option.bind (at? a0 s4_1) fun x8 =>
        Option.bind (app? x7 [x8]) fun x9 =>
        Option.bind (sub? l0_1 y5 (l0_1.length : Int)) fun x10 =>
        Option.bind (app? x9 ((l0_1.drop (Int.toNat y5)).take x10.length)) fun x11 =>
        narthexref01_Of_L1 N a0 n1 x11 (w64 (s4_1 + 1))
    else
      some l0_1
def narthexref01_Of (N : Nat) (a0 : List Int) : Option ((List Int)) :=
  Option.bind (α := (List Int)) (
    narthexref01_Of_L1 N a0 N ([] : List Int) 0
  ) fun z1 =>
  some z1
-- narthex/narthexlaw04.DagEither
def narthexlaw04_DagEither_L1 (N : Nat) (a1 : List TArc) (y7 : (List Int) × Bool) : Nat → Int → Option (Bool ⊕ Unit)
  | 0, _ => none
  | n1 + 1, s10_1 =>
    if decide (s10_1 < (a1.length : Int)) then
      Option.bind (at? a1 s10_1) fun x14 =>
      Option.bind (narthexlaw04_DagEither_1 N x14.From y7.1) fun y15 =>
      Option.bind (at? a1 s10_1) fun x16 =>
      Option.bind (narthexlaw04_DagEither_1 N x16.To y7.1) fun y17 =>
      if decide (y15 ≥ y17) then
        some (.inl false)
      else
        narthexlaw04_DagEither_L1 N a1 y7 n1 (w64 (s10_1 + 1))
    else
      some (.inr (()))
def narthexlaw04_DagEither_L3 (N : Nat) (a1 : List TArc) (x25 : Int) (x27 : Int) : Nat → Bool → Int → Option (Bool)
  | 0, _, _ => none
  | n3 + 1, s13_3, s14_3 =>
    if decide (s14_3 < (a1.length : Int)) then
      Option.bind (if (!s13_3) = true then at? a1 s14_3 else some default) fun x29 =>
      narthexlaw04_DagEither_L3 N a1 x25 x27 n3 (s13_3 || (decide (x29 = (⟨x25, x27⟩ : TArc)))) (w64 (s14_3 + 1))
    else
      some s13_3
def narthexlaw04_DagEither_L2 (N : Nat) (a1 : List TArc) (y9 : (List Int) × Bool) : Nat → Int → Option (Bool ⊕ Unit)
  | 0, _ => none
  | n2 + 1, s11_2 =>
    if decide (s11_2 < (y9.1.length : Int)) then
      Option.bind (at? y9.1 s11_2) fun x25 =>
      Option.bind (rem? (w64 (s11_2 + 1)) (y9.1.length : Int)) fun x26 =>
      Option.bind (at? y9.1 x26) fun x27 =>
      Option.bind (α := Bool) (
        narthexlaw04_DagEither_L3 N a1 x25 x27 N false 0
      ) fun z28 =>
      Option.bind (if ((!(!z28)) && (decide (s11_2 > 0))) = true then at? y9.1 s11_2 else some default) fun x30 =>
      Option.bind (if ((!(!z28)) && (decide (s11_2 > 0))) = true then at? y9.1 0 else some default) fun x31 =>
      if (!z28) || ((decide (s11_2 > 0)) && (decide (x30 ≤ x31))) then
        some (.inl false)
      else
        narthexlaw04_DagEither_L2 N a1 y9 n2 (w64 (s11_2 + 1))
    else
      some (.inr (()))
def narthexlaw04_DagEither (N : Nat) (a0 : Int) (a1 : List TArc) : Option (Bool) :=
  Option.bind (narthexlaw04_awake N) fun y1 =>
  Option.bind (if (!(!y1)) = true then narthexlaw04_few N a0 a1 else some default) fun y2 =>
  Option.bind (if (!((!y1) || (!y2))) = true then narthexlaw04_own N a1 else some default) fun y3 =>
  Option.bind (if (!((!y1) || (!y2))) = true then dag_Check N a0 y3 else some default) fun y4 =>
  if ((!y1) || (!y2)) || (y4 != 0) then
    Option.bind (narthexlaw04_awake N) fun y5 =>
    some y5
  else
    Option.bind (narthexlaw04_own N a1) fun y6 =>
    Option.bind (dag_Order N a0 y6) fun y7 =>
    Option.bind (narthexlaw04_own N a1) fun y8 =>
    Option.bind (dag_Cycle N a0 y8) fun y9 =>
    Option.bind (if (!(y7.2 == y9.2)) = true then narthexref04_Round N a0 a1 else some default) fun y10 =>
    if (y7.2 == y9.2) || (!(y9.2 == y10)) then
      some false
    else
      if y7.2 then
        Option.bind (α := Bool ⊕ Unit) (
          narthexlaw04_DagEither_L1 N a1 y7 N 0
        ) fun z11 =>
        match z11 with
        | .inl r12 =>
          some r12
        | .inr z13 =>
          Option.bind (if ((y7.1.length : Int) == a0) = true then set_Of N y7.1 else some default) fun y18 =>
          Option.bind (if ((y7.1.length : Int) == a0) = true then narthexref01_Of N y7.1 else some default) fun y19 =>
          Option.bind (if ((y7.1.length : Int) == a0) = true then narthexref01_Same N y18 y19 else some default) fun y20 =>
          Option.bind (if (((y7.1.length : Int) == a0) && y20) = true then set_Of N y7.1 else some default) fun y21 =>
          some (((((y7.1.length : Int) == a0) && y20) && ((y21.length : Int) == a0)) && ((y9.1.length : Int) == 0))
      else
        Option.bind (α := Bool ⊕ Unit) (
          narthexlaw04_DagEither_L2 N a1 y9 N 0
        ) fun z22 =>
        match z22 with
        | .inl r23 =>
          some r23
        | .inr z24 =>
          Option.bind (if (decide ((y9.1.length : Int) > 1)) = true then set_Of N y9.1 else some default) fun y32 =>
          some (((decide ((y9.1.length : Int) > 1)) && ((y32.length : Int) == (y9.1.length : Int))) && ((y7.1.length : Int) == 0))
end Go.Proofs.Ytnoffbgiaenmpaa
