/- Models of the functions, and what is known of data that came in. -/
import Derived.Test.YtagmkgbkagpmnaaFwE
namespace Go.Proofs.Ytagmkgbkagpmnaa
open Go Go.Nx
set_option linter.unusedVariables false
set_option linter.unusedSimpArgs false
set_option linter.unnecessarySimpa false
set_option maxRecDepth 8000
structure TEdge where
  A : Int
  B : Int
  deriving DecidableEq, Inhabited
structure TGraph where
  N : Int
  Edges : List TEdge
  deriving DecidableEq, Inhabited
def eEdge (x : TEdge) : List Leaf := [I x.A, I x.B]
def eI (x : Int) : List Leaf := [I x]
def eGraph (x : TGraph) : List Leaf := [I x.N, .slv (x.Edges.map eEdge)]
def kEdge (x : TEdge) : Prop := (Lit.int .i64 x.A).wf = true ∧ (Lit.int .i64 x.B).wf = true
def kGraph (x : TGraph) : Prop := (Lit.int .i64 x.N).wf = true ∧ (x.Edges.length ≤ maxLen ∧ ∀ y ∈ x.Edges, kEdge y)
-- narthex/graph.Check$1
def graph_Check_1 (N : Nat) (a0 : TEdge) (c0_0 : Int) (c0_1 : List TEdge) : Option (Bool) :=
  some (((decide (a0.A < 0)) || (decide (a0.A ≥ a0.B))) || (decide (a0.B ≥ c0_0)))
-- slices.IndexFunc[[]narthex/api.Edge,narthex/api.Edge]
def slices_IndexFunc_Edge_L1 (N : Nat) (a0 : List TEdge) (c0_0 : Int) (c0_1 : List TEdge) : Nat → Int → Option (Int ⊕ Unit)
  | 0, _ => none
  | n1 + 1, s8_1 =>
    if decide (s8_1 < (a0.length : Int)) then
      Option.bind (at? a0 s8_1) fun x4 =>
      Option.bind (graph_Check_1 N x4 c0_0 c0_1) fun y5 =>
      if y5 then
        some (.inl s8_1)
      else
        slices_IndexFunc_Edge_L1 N a0 c0_0 c0_1 n1 (w64 (s8_1 + 1))
    else
      some (.inr (()))
def slices_IndexFunc_Edge (N : Nat) (a0 : List TEdge) (c0_0 : Int) (c0_1 : List TEdge) : Option (Int) :=
  Option.bind (α := Int ⊕ Unit) (
    slices_IndexFunc_Edge_L1 N a0 c0_0 c0_1 N 0
  ) fun z1 =>
  match z1 with
  | .inl r2 =>
    some r2
  | .inr z3 =>
    some (-1)
-- slices.ContainsFunc[[]narthex/api.Edge,narthex/api.Edge]
def slices_ContainsFunc_Edge (N : Nat) (a0 : List TEdge) (c0_0 : Int) (c0_1 : List TEdge) : Option (Bool) :=
  Option.bind (slices_IndexFunc_Edge N a0 c0_0 c0_1) fun y1 =>
  some (decide (y1 ≥ 0))
-- cmp.isNaN[int]
def cmp_isNaN_int (N : Nat) (a0 : Int) : Option (Bool) :=
  some (a0 != a0)
-- cmp.Compare[int]
def cmp_Compare_int (N : Nat) (a0 : Int) (a1 : Int) : Option (Int) :=
  Option.bind (cmp_isNaN_int N a0) fun y1 =>
  Option.bind (cmp_isNaN_int N a1) fun y2 =>
  if y1 then
    if y2 then
      some 0
    else
      some (-1)
  else
    if y2 then
      some 1
    else
      if decide (a0 < a1) then
        some (-1)
      else
        if decide (a0 > a1) then
          some 1
        else
          some 0
-- cmp.Or[int]
def cmp_Or_int_L1 (N : Nat) (a0 : List Int) : Nat → Int → Option (Int ⊕ Unit)
  | 0, _ => none
  | n1 + 1, s8_1 =>
    if decide (s8_1 < (a0.length : Int)) then
      Option.bind (at? a0 s8_1) fun x4 =>
      if x4 != 0 then
        some (.inl x4)
      else
        cmp_Or_int_L1 N a0 n1 (w64 (s8_1 + 1))
    else
      some (.inr (()))
def cmp_Or_int (N : Nat) (a0 : List Int) : Option (Int) :=
  Option.bind (α := Int ⊕ Unit) (
    cmp_Or_int_L1 N a0 N 0
  ) fun z1 =>
  match z1 with
  | .inl r2 =>
    some r2
  | .inr z3 =>
    some 0
-- narthex/graph.rank
def graph_rank (N : Nat) (a0 : TEdge) (a1 : TEdge) : Option (Int) :=
  Option.bind (cmp_Compare_int N a0.A a1.A) fun y1 =>
  Option.bind (cmp_Compare_int N a0.B a1.B) fun y2 =>
  Option.bind (cmp_Or_int N [y1, y2]) fun y3 =>
  some y3
-- narthex/graph.Check
def graph_Check_L1 (N : Nat) (a0 : TGraph) : Nat → Int → Option (Int ⊕ Unit)
  | 0, _ => none
  | n1 + 1, s29_1 =>
    if decide (s29_1 < (a0.Edges.length : Int)) then
      Option.bind (if (decide (s29_1 > 0)) = true then at? a0.Edges (w64 (s29_1 - 1)) else some default) fun x5 =>
      Option.bind (if (decide (s29_1 > 0)) = true then at? a0.Edges s29_1 else some default) fun x6 =>
      Option.bind (if (decide (s29_1 > 0)) = true then graph_rank N x5 x6 else some default) fun y7 =>
      if (decide (s29_1 > 0)) && (decide (y7 ≥ 0)) then
        some (.inl 30)
      else
        graph_Check_L1 N a0 n1 (w64 (s29_1 + 1))
    else
      some (.inr (()))
def graph_Check (N : Nat) (a0 : TGraph) : Option (Int) :=
  Option.bind (if (!(((decide (a0.N < 0)) || (decide (a0.N > 64))) || (decide ((a0.Edges.length : Int) > 400)))) = true then slices_ContainsFunc_Edge N a0.Edges a0.N a0.Edges else some default) fun y1 =>
  if (((decide (a0.N < 0)) || (decide (a0.N > 64))) || (decide ((a0.Edges.length : Int) > 400))) || y1 then
    some 30
  else
    Option.bind (α := Int ⊕ Unit) (
      graph_Check_L1 N a0 N 0
    ) fun z2 =>
    match z2 with
    | .inl r3 =>
      some r3
    | .inr z4 =>
      some 0
-- slices.Index[[]int,int]
def slices_Index_int_L1 (N : Nat) (a0 : List Int) (a1 : Int) : Nat → Int → Option (Int ⊕ Unit)
  | 0, _ => none
  | n1 + 1, s8_1 =>
    if decide (s8_1 < (a0.length : Int)) then
      Option.bind (at? a0 s8_1) fun x4 =>
      if a1 == x4 then
        some (.inl s8_1)
      else
        slices_Index_int_L1 N a0 a1 n1 (w64 (s8_1 + 1))
    else
      some (.inr (()))
def slices_Index_int (N : Nat) (a0 : List Int) (a1 : Int) : Option (Int) :=
  Option.bind (α := Int ⊕ Unit) (
    slices_Index_int_L1 N a0 a1 N 0
  ) fun z1 =>
  match z1 with
  | .inl r2 =>
    some r2
  | .inr z3 =>
    some (-1)
-- slices.Contains[[]int,int]
def slices_Contains_int (N : Nat) (a0 : List Int) (a1 : Int) : Option (Bool) :=
  Option.bind (slices_Index_int N a0 a1) fun y1 =>
  some (decide (y1 ≥ 0))
-- narthex/colour.Round$1
def colour_Round_1 (N : Nat) (a0 : Int) : Option (Bool) :=
  some (decide (a0 < 0))
-- slices.IndexFunc[[]int,int]
def slices_IndexFunc_int_L1 (N : Nat) (a0 : List Int) : Nat → Int → Option (Int ⊕ Unit)
  | 0, _ => none
  | n1 + 1, s8_1 =>
    if decide (s8_1 < (a0.length : Int)) then
      Option.bind (at? a0 s8_1) fun x4 =>
      Option.bind (colour_Round_1 N x4) fun y5 =>
      if y5 then
        some (.inl s8_1)
      else
        slices_IndexFunc_int_L1 N a0 n1 (w64 (s8_1 + 1))
    else
      some (.inr (()))
def slices_IndexFunc_int (N : Nat) (a0 : List Int) : Option (Int) :=
  Option.bind (α := Int ⊕ Unit) (
    slices_IndexFunc_int_L1 N a0 N 0
  ) fun z1 =>
  match z1 with
  | .inl r2 =>
    some r2
  | .inr z3 =>
    some (-1)
-- slices.ContainsFunc[[]int,int]
def slices_ContainsFunc_int (N : Nat) (a0 : List Int) : Option (Bool) :=
  Option.bind (slices_IndexFunc_int N a0) fun y1 =>
  some (decide (y1 ≥ 0))
def slices_Clone_int (N : Nat) (a0 : List Int) : Option (List Int) := app? [] a0
-- narthex/set.Of
def set_Of (N : Nat) (a0 : List Int) : Option ((List Int)) :=
  Option.bind (slices_Clone_int N a0) fun y1 =>
  Option.bind (sort? y1) fun x2 =>
  Option.bind (ded? x2) fun x3 =>
  some x3
-- narthex/graph.Near
def graph_Near_L1 (N : Nat) (a0 : TGraph) (a1 : Int) : Nat → (List Int) → Int → Option ((List Int))
  | 0, _, _ => none
  | n1 + 1, l0_1, s14_1 =>
    if decide (s14_1 < (a0.Edges.length : Int)) then
      Option.bind (at? a0.Edges s14_1) fun x3 =>
      if a1 == x3.A then
        Option.bind (app? l0_1 [x3.B]) fun x4 =>
        graph_Near_L1 N a0 a1 n1 x4 (w64 (s14_1 + 1))
      else
        if a1 == x3.B then
          Option.bind (app? l0_1 [x3.A]) fun x5 =>
          graph_Near_L1 N a0 a1 n1 x5 (w64 (s14_1 + 1))
        else
          graph_Near_L1 N a0 a1 n1 l0_1 (w64 (s14_1 + 1))
    else
      some l0_1
def graph_Near (N : Nat) (a0 : TGraph) (a1 : Int) : Option ((List Int)) :=
  Option.bind (graph_Check N a0) fun y1 =>
  if y1 != 0 then
    some []
  else
    Option.bind (α := (List Int)) (
      graph_Near_L1 N a0 a1 N ([] : List Int) 0
    ) fun z2 =>
    Option.bind (set_Of N z2) fun y6 =>
    some y6
-- narthex/colour.Round$2
def colour_Round_2_2 (N : Nat) (a0 : Int) (c0_0 : Int) (c0_1 : List TEdge) (c1_0 : List Int) (l3 : List Int) (c4_0 : Int) : Option (Bool) :=
  Option.bind (at? c1_0 a0) fun x1 =>
  some ((x1 == 0) && (decide (a0 > c4_0)))
-- slices.IndexFunc[[]int,int]
def slices_IndexFunc_int_3_L1 (N : Nat) (a0 : List Int) (c0_0 : Int) (c0_1 : List TEdge) (c1_0 : List Int) (l3 : List Int) (c4_0 : Int) : Nat → Int → Option (Int ⊕ Unit)
  | 0, _ => none
  | n1 + 1, s8_1 =>
    if decide (s8_1 < (a0.length : Int)) then
      Option.bind (at? a0 s8_1) fun x4 =>
      Option.bind (colour_Round_2_2 N x4 c0_0 c0_1 c1_0 l3 c4_0) fun y5 =>
      if y5 then
        some (.inl s8_1)
      else
        slices_IndexFunc_int_3_L1 N a0 c0_0 c0_1 c1_0 l3 c4_0 n1 (w64 (s8_1 + 1))
    else
      some (.inr (()))
def slices_IndexFunc_int_3 (N : Nat) (a0 : List Int) (c0_0 : Int) (c0_1 : List TEdge) (c1_0 : List Int) (l3 : List Int) (c4_0 : Int) : Option (Int) :=
  Option.bind (α := Int ⊕ Unit) (
    slices_IndexFunc_int_3_L1 N a0 c0_0 c0_1 c1_0 l3 c4_0 N 0
  ) fun z1 =>
  match z1 with
  | .inl r2 =>
    some r2
  | .inr z3 =>
    some (-1)
-- slices.ContainsFunc[[]int,int]
def slices_ContainsFunc_int_3 (N : Nat) (a0 : List Int) (c0_0 : Int) (c0_1 : List TEdge) (c1_0 : List Int) (l3 : List Int) (c4_0 : Int) : Option (Bool) :=
  Option.bind (slices_IndexFunc_int_3 N a0 c0_0 c0_1 c1_0 l3 c4_0) fun y1 =>
  some (decide (y1 ≥ 0))
-- narthex/colour.Round$3
def colour_Round_3 (N : Nat) (a0 : Int) (c0_0 : Int) (c0_1 : List TEdge) (c1_0 : List Int) (l3 : List Int) (c4_0 : Int) : Option (Bool) :=
  Option.bind (at? c1_0 a0) fun x1 =>
  Option.bind (at? l3 c4_0) fun x2 =>
  some (x1 == x2)
-- slices.IndexFunc[[]int,int]
def slices_IndexFunc_int_4_L1 (N : Nat) (a0 : List Int) (c0_0 : Int) (c0_1 : List TEdge) (c1_0 : List Int) (l3 : List Int) (c4_0 : Int) : Nat → Int → Option (Int ⊕ Unit)
  | 0, _ => none
  | n1 + 1, s8_1 =>
    if decide (s8_1 < (a0.length : Int)) then
      Option.bind (at? a0 s8_1) fun x4 =>
      Option.bind (colour_Round_3 N x4 c0_0 c0_1 c1_0 l3 c4_0) fun y5 =>
      if y5 then
        some (.inl s8_1)
      else
        slices_IndexFunc_int_4_L1 N a0 c0_0 c0_1 c1_0 l3 c4_0 n1 (w64 (s8_1 + 1))
    else
      some (.inr (()))
def slices_IndexFunc_int_4 (N : Nat) (a0 : List Int) (c0_0 : Int) (c0_1 : List TEdge) (c1_0 : List Int) (l3 : List Int) (c4_0 : Int) : Option (Int) :=
  Option.bind (α := Int ⊕ Unit) (
    slices_IndexFunc_int_4_L1 N a0 c0_0 c0_1 c1_0 l3 c4_0 N 0
  ) fun z1 =>
  match z1 with
  | .inl r2 =>
    some r2
  | .inr z3 =>
    some (-1)
-- slices.ContainsFunc[[]int,int]
def slices_ContainsFunc_int_4 (N : Nat) (a0 : List Int) (c0_0 : Int) (c0_1 : List TEdge) (c1_0 : List Int) (l3 : List Int) (c4_0 : Int) : Option (Bool) :=
  Option.bind (slices_IndexFunc_int_4 N a0 c0_0 c0_1 c1_0 l3 c4_0) fun y1 =>
  some (decide (y1 ≥ 0))
-- narthex/colour.Round
def colour_Round_L2 (N : Nat) (a0 : TGraph) (a1 : List Int) (s28_1 : Int) (y5 : (List Int)) : Nat → (List Int) → Option ((List Int))
  | 0, _ => none
  | n2 + 1, l3_2 =>
    Option.bind (slices_ContainsFunc_int_4 N y5 a0.N a0.Edges a1 l3_2 s28_1) fun y10 =>
    if y10 then
      Option.bind (at? l3_2 s28_1) fun x11 =>
      Option.bind (at? l3_2 s28_1) fun x12 =>
      colour_Round_L2 N a0 a1 s28_1 y5 n2 (l3_2.set s28_1.toNat (w64 (x11 + 1)))
    else
      some l3_2
def colour_Round_L1 (N : Nat) (a0 : TGraph) (a1 : List Int) : Nat → (List Int) → Int → Option ((List Int))
  | 0, _, _ => none
  | n1 + 1, l3_1, s28_1 =>
    if decide (s28_1 < a0.N) then
      Option.bind (graph_Near N a0 s28_1) fun y5 =>
      Option.bind (at? a1 s28_1) fun x6 =>
      Option.bind (if (!(x6 != 0)) = true then slices_ContainsFunc_int_3 N y5 a0.N a0.Edges a1 l3_1 s28_1 else some default) fun y7 =>
      if (x6 != 0) || y7 then
        colour_Round_L1 N a0 a1 n1 l3_1 (w64 (s28_1 + 1))
      else
        Option.bind (at? l3_1 s28_1) fun x8 =>
        Option.bind (α := (List Int)) (
          colour_Round_L2 N a0 a1 s28_1 y5 N (l3_1.set s28_1.toNat 1)
        ) fun z9 =>
        colour_Round_L1 N a0 a1 n1 z9 (w64 (s28_1 + 1))
    else
      some l3_1
def colour_Round (N : Nat) (a0 : TGraph) (a1 : List Int) : Option ((List Int) × Int) :=
  Option.bind (graph_Check N a0) fun y1 =>
  if y1 != 0 then
    some ([], y1)
  else
    Option.bind (if (!((a1.length : Int) != a0.N)) = true then slices_ContainsFunc_int N a1 else some default) fun y2 =>
    if ((a1.length : Int) != a0.N) || y2 then
      some ([], 110)
    else
      Option.bind (slices_Clone_int N a1) fun y3 =>
      Option.bind (α := (List Int)) (
        colour_Round_L1 N a0 a1 N y3 0
      ) fun z4 =>
      some (z4, 0)
-- narthex/colour.Run
def colour_Run_L1 (N : Nat) (a0 : TGraph) : Nat → (List Int) → Int → Option ((List Int) × Int)
  | 0, _, _ => none
  | n1 + 1, s6_1, s7_1 =>
    Option.bind (slices_Contains_int N s6_1 0) fun y4 =>
    if y4 then
      Option.bind (colour_Round N a0 s6_1) fun y5 =>
      colour_Run_L1 N a0 n1 y5.1 (w64 (s7_1 + 1))
    else
      some (s6_1, s7_1)
def colour_Run (N : Nat) (a0 : TGraph) : Option ((List Int) × Int × Int) :=
  Option.bind (graph_Check N a0) fun y1 =>
  if y1 != 0 then
    some ([], 0, y1)
  else
    Option.bind (mk? a0.N 0) fun x2 =>
    Option.bind (α := (List Int) × Int) (
      colour_Run_L1 N a0 N x2 0
    ) fun z3 =>
    some (z3.1, z3.2, 0)
-- narthex/narthexref01.Same
def narthexref01_Same_L1 (N : Nat) (a0 : List Int) (a1 : List Int) : Nat → Int → Option (Bool ⊕ Unit)
  | 0, _ => none
  | n1 + 1, s5_1 =>
    if decide (s5_1 < (a0.length : Int)) then
      Option.bind (at? a0 s5_1) fun x4 =>
      Option.bind (at? a1 s5_1) fun x5 =>
      if x4 != x5 then
        some (.inl false)
      else
        narthexref01_Same_L1 N a0 a1 n1 (w64 (s5_1 + 1))
    else
      some (.inr (()))
def narthexref01_Same (N : Nat) (a0 : List Int) (a1 : List Int) : Option (Bool) :=
  if (a0.length : Int) != (a1.length : Int) then
    some false
  else
    Option.bind (α := Bool ⊕ Unit) (
      narthexref01_Same_L1 N a0 a1 N 0
    ) fun z1 =>
    match z1 with
    | .inl r2 =>
      some r2
    | .inr z3 =>
      some true
-- narthex/colour.Right$1
def colour_Right_1 (N : Nat) (a0 : Int) : Option (Bool) :=
  some (decide (a0 < 1))
-- slices.IndexFunc[[]int,int]
def slices_IndexFunc_int_5_L1 (N : Nat) (a0 : List Int) : Nat → Int → Option (Int ⊕ Unit)
  | 0, _ => none
  | n1 + 1, s8_1 =>
    if decide (s8_1 < (a0.length : Int)) then
      Option.bind (at? a0 s8_1) fun x4 =>
      Option.bind (colour_Right_1 N x4) fun y5 =>
      if y5 then
        some (.inl s8_1)
      else
        slices_IndexFunc_int_5_L1 N a0 n1 (w64 (s8_1 + 1))
    else
      some (.inr (()))
def slices_IndexFunc_int_5 (N : Nat) (a0 : List Int) : Option (Int) :=
  Option.bind (α := Int ⊕ Unit) (
    slices_IndexFunc_int_5_L1 N a0 N 0
  ) fun z1 =>
  match z1 with
  | .inl r2 =>
    some r2
  | .inr z3 =>
    some (-1)
-- slices.ContainsFunc[[]int,int]
def slices_ContainsFunc_int_5 (N : Nat) (a0 : List Int) : Option (Bool) :=
  Option.bind (slices_IndexFunc_int_5 N a0) fun y1 =>
  some (decide (y1 ≥ 0))
-- narthex/colour.Right$2
def colour_Right_2 (N : Nat) (a0 : TEdge) (c0_0 : Int) (c0_1 : List TEdge) (c1_0 : List Int) : Option (Bool) :=
  Option.bind (at? c1_0 a0.A) fun x1 =>
  Option.bind (at? c1_0 a0.B) fun x2 =>
  some (x1 == x2)
-- slices.IndexFunc[[]narthex/api.Edge,narthex/api.Edge]
def slices_IndexFunc_Edge_2_L1 (N : Nat) (a0 : List TEdge) (c0_0 : Int) (c0_1 : List TEdge) (c1_0 : List Int) : Nat → Int → Option (Int ⊕ Unit)
  | 0, _ => none
  | n1 + 1, s8_1 =>
    if decide (s8_1 < (a0.length : Int)) then
      Option.bind (at? a0 s8_1) fun x4 =>
      Option.bind (colour_Right_2 N x4 c0_0 c0_1 c1_0) fun y5 =>
      if y5 then
        some (.inl s8_1)
      else
        slices_IndexFunc_Edge_2_L1 N a0 c0_0 c0_1 c1_0 n1 (w64 (s8_1 + 1))
    else
      some (.inr (()))
def slices_IndexFunc_Edge_2 (N : Nat) (a0 : List TEdge) (c0_0 : Int) (c0_1 : List TEdge) (c1_0 : List Int) : Option (Int) :=
  Option.bind (α := Int ⊕ Unit) (
    slices_IndexFunc_Edge_2_L1 N a0 c0_0 c0_1 c1_0 N 0
  ) fun z1 =>
  match z1 with
  | .inl r2 =>
    some r2
  | .inr z3 =>
    some (-1)
-- slices.ContainsFunc[[]narthex/api.Edge,narthex/api.Edge]
def slices_ContainsFunc_Edge_2 (N : Nat) (a0 : List TEdge) (c0_0 : Int) (c0_1 : List TEdge) (c1_0 : List Int) : Option (Bool) :=
  Option.bind (slices_IndexFunc_Edge_2 N a0 c0_0 c0_1 c1_0) fun y1 =>
  some (decide (y1 ≥ 0))
-- narthex/colour.Right
def colour_Right (N : Nat) (a0 : TGraph) (a1 : List Int) : Option (Bool) :=
  Option.bind (graph_Check N a0) fun y1 =>
  Option.bind (if (!((y1 != 0) || ((a1.length : Int) != a0.N))) = true then slices_ContainsFunc_int_5 N a1 else some default) fun y2 =>
  if ((y1 != 0) || ((a1.length : Int) != a0.N)) || y2 then
    some false
  else
    Option.bind (slices_ContainsFunc_Edge_2 N a0.Edges a0.N a0.Edges a1) fun y3 =>
    some (!y3)
-- slices.Max[[]int,int]
def slices_Max_int_L1 (N : Nat) (a0 : List Int) : Nat → Int → Int → Option (Int)
  | 0, _, _ => none
  | n1 + 1, s3_1, s4_1 =>
    if decide (s4_1 < (a0.length : Int)) then
      Option.bind (at? a0 s4_1) fun x3 =>
      slices_Max_int_L1 N a0 n1 (max s3_1 x3) (w64 (s4_1 + 1))
    else
      some s3_1
def slices_Max_int (N : Nat) (a0 : List Int) : Option (Int) :=
  if decide ((a0.length : Int) < 1) then
    none
  else
    Option.bind (at? a0 0) fun x1 =>
    Option.bind (α := Int) (
      slices_Max_int_L1 N a0 N x1 1
    ) fun z2 =>
    some z2
-- narthex/colour.Most
def colour_Most (N : Nat) (a0 : List Int) : Option (Int) :=
  Option.bind (app? [0] a0) fun x1 =>
  Option.bind (slices_Max_int N x1) fun y2 =>
  some (max 0 y2)
-- narthex/narthexlaw11.awake
def narthexlaw11_awake (N : Nat) : Option (Bool) :=
  Option.bind (colour_Run N (⟨3, [(⟨0, 1⟩ : TEdge), (⟨1, 2⟩ : TEdge)]⟩ : TGraph)) fun y1 =>
  Option.bind (colour_Round N (⟨3, [(⟨0, 1⟩ : TEdge), (⟨1, 2⟩ : TEdge)]⟩ : TGraph) [0, 0, 0]) fun y2 =>
  if y1.2.2 == 0 then
    if y1.2.1 == 3 then
      Option.bind (narthexref01_Same N y1.1 [1, 2, 1]) fun y3 =>
      if y3 then
        if y2.2 == 0 then
          Option.bind (narthexref01_Same N y2.1 [0, 0, 1]) fun y4 =>
          if y4 then
            Option.bind (colour_Right N (⟨3, [(⟨0, 1⟩ : TEdge), (⟨1, 2⟩ : TEdge)]⟩ : TGraph) y1.1) fun y5 =>
            if y5 then
              Option.bind (colour_Right N (⟨3, [(⟨0, 1⟩ : TEdge), (⟨1, 2⟩ : TEdge)]⟩ : TGraph) y2.1) fun y6 =>
              if !y6 then
                Option.bind (colour_Most N y1.1) fun y7 =>
                if y7 == 2 then
                  Option.bind (colour_Most N []) fun y8 =>
                  some (y8 == 0)
                else
                  some false
              else
                some false
            else
              some false
          else
            some false
        else
          some false
      else
        some false
    else
      some false
  else
    some false
-- narthex/narthexlaw11.few
def narthexlaw11_few (N : Nat) (a0 : TGraph) (a1 : List Int) : Option (Bool) :=
  some ((decide ((a0.Edges.length : Int) ≤ 60)) && (decide ((a1.length : Int) ≤ 70)))
-- narthex/narthexlaw03.Own
def narthexlaw03_Own (N : Nat) (a0 : TGraph) : Option (TGraph) :=
  Option.bind (app? ([] : List TEdge) a0.Edges) fun x1 =>
  some { a0 with Edges := x1 }
-- narthex/narthexlaw11.own
def narthexlaw11_own (N : Nat) (a0 : List Int) : Option ((List Int)) :=
  Option.bind (app? ([] : List Int) a0) fun x1 =>
  some x1
-- narthex/narthexref03.ahead
def narthexref03_ahead (N : Nat) (a0 : TEdge) (a1 : TEdge) : Option (Bool) :=
  some ((decide (a0.A < a1.A)) || ((a0.A == a1.A) && (decide (a0.B < a1.B))))
-- narthex/narthexref03.Check
def narthexref03_Check_L1 (N : Nat) (a0 : TGraph) : Nat → Int → Option (Bool ⊕ Unit)
  | 0, _ => none
  | n1 + 1, s3_1 =>
    if decide (s3_1 < (a0.Edges.length : Int)) then
      Option.bind (at? a0.Edges s3_1) fun x4 =>
      Option.bind (if ((!(((decide (x4.A < 0)) || (decide (x4.A ≥ x4.B))) || (decide (x4.B ≥ a0.N)))) && (decide (s3_1 > 0))) = true then at? a0.Edges (w64 (s3_1 - 1)) else some default) fun x5 =>
      Option.bind (if ((!(((decide (x4.A < 0)) || (decide (x4.A ≥ x4.B))) || (decide (x4.B ≥ a0.N)))) && (decide (s3_1 > 0))) = true then narthexref03_ahead N x5 x4 else some default) fun y6 =>
      if (((decide (x4.A < 0)) || (decide (x4.A ≥ x4.B))) || (decide (x4.B ≥ a0.N))) || ((decide (s3_1 > 0)) && (!y6)) then
        some (.inl false)
      else
        narthexref03_Check_L1 N a0 n1 (w64 (s3_1 + 1))
    else
      some (.inr (()))
def narthexref03_Check (N : Nat) (a0 : TGraph) : Option (Bool) :=
  if ((decide (a0.N < 0)) || (decide (a0.N > 64))) || (decide ((a0.Edges.length : Int) > 400)) then
    some false
  else
    Option.bind (α := Bool ⊕ Unit) (
      narthexref03_Check_L1 N a0 N 0
    ) fun z1 =>
    match z1 with
    | .inl r2 =>
      some r2
    | .inr z3 =>
      some true
-- narthex/narthexref11.Check
def narthexref11_Check_L1 (N : Nat) (a1 : List Int) : Nat → Int → Option (Bool ⊕ Unit)
  | 0, _ => none
  | n1 + 1, s5_1 =>
    if decide (s5_1 < (a1.length : Int)) then
      Option.bind (at? a1 s5_1) fun x4 =>
      if decide (x4 < 0) then
        some (.inl false)
      else
        narthexref11_Check_L1 N a1 n1 (w64 (s5_1 + 1))
    else
      some (.inr (()))
def narthexref11_Check (N : Nat) (a0 : TGraph) (a1 : List Int) : Option (Bool) :=
  Option.bind (α := Bool ⊕ Unit) (
    narthexref11_Check_L1 N a1 N 0
  ) fun z1 =>
  match z1 with
  | .inl r2 =>
    some r2
  | .inr z3 =>
    some ((a1.length : Int) == a0.N)
-- narthex/narthexref01.Has
def narthexref01_Has_L1 (N : Nat) (a0 : List Int) (a1 : Int) : Nat → Int → Option (Bool ⊕ Unit)
  | 0, _ => none
  | n1 + 1, s5_1 =>
    if decide (s5_1 < (a0.length : Int)) then
      Option.bind (at? a0 s5_1) fun x4 =>
      if x4 == a1 then
        some (.inl true)
      else
        narthexref01_Has_L1 N a0 a1 n1 (w64 (s5_1 + 1))
    else
      some (.inr (()))
def narthexref01_Has (N : Nat) (a0 : List Int) (a1 : Int) : Option (Bool) :=
  Option.bind (α := Bool ⊕ Unit) (
    narthexref01_Has_L1 N a0 a1 N 0
  ) fun z1 =>
  match z1 with
  | .inl r2 =>
    some r2
  | .inr z3 =>
    some false
-- narthex/narthexref11.Right
def narthexref11_Right_L1 (N : Nat) (a0 : TGraph) (a1 : List Int) : Nat → Int → Option (Bool ⊕ Unit)
  | 0, _ => none
  | n1 + 1, s5_1 =>
    if decide (s5_1 < (a0.Edges.length : Int)) then
      Option.bind (at? a0.Edges s5_1) fun x7 =>
      Option.bind (at? a1 x7.A) fun x8 =>
      Option.bind (at? a0.Edges s5_1) fun x9 =>
      Option.bind (at? a1 x9.B) fun x10 =>
      if x8 == x10 then
        some (.inl false)
      else
        narthexref11_Right_L1 N a0 a1 n1 (w64 (s5_1 + 1))
    else
      some (.inr (()))
def narthexref11_Right (N : Nat) (a0 : TGraph) (a1 : List Int) : Option (Bool) :=
  Option.bind (narthexref03_Check N a0) fun y1 =>
  Option.bind (if (!(!y1)) = true then narthexref11_Check N a0 a1 else some default) fun y2 =>
  Option.bind (if (!((!y1) || (!y2))) = true then narthexref01_Has N a1 0 else some default) fun y3 =>
  if ((!y1) || (!y2)) || y3 then
    some false
  else
    Option.bind (α := Bool ⊕ Unit) (
      narthexref11_Right_L1 N a0 a1 N 0
    ) fun z4 =>
    match z4 with
    | .inl r5 =>
      some r5
    | .inr z6 =>
      some true
-- narthex/narthexref03.Has
def narthexref03_Has_L1 (N : Nat) (a0 : TGraph) (a1 : Int) (a2 : Int) : Nat → Int → Option (Bool ⊕ Unit)
  | 0, _ => none
  | n1 + 1, s7_1 =>
    if decide (s7_1 < (a0.Edges.length : Int)) then
      Option.bind (at? a0.Edges s7_1) fun x4 =>
      if (((x4.A == a1) && (x4.B == a2)) && (decide (a1 ≤ a2))) || (((x4.A == a2) && (x4.B == a1)) && (decide (a2 < a1))) then
        some (.inl true)
      else
        narthexref03_Has_L1 N a0 a1 a2 n1 (w64 (s7_1 + 1))
    else
      some (.inr (()))
def narthexref03_Has (N : Nat) (a0 : TGraph) (a1 : Int) (a2 : Int) : Option (Bool) :=
  Option.bind (α := Bool ⊕ Unit) (
    narthexref03_Has_L1 N a0 a1 a2 N 0
  ) fun z1 =>
  match z1 with
  | .inl r2 =>
    some r2
  | .inr z3 =>
    some false
-- narthex/narthexref03.Near
def narthexref03_Near_L1 (N : Nat) (a0 : TGraph) (a1 : Int) : Nat → (List Int) → Int → Option ((List Int))
  | 0, _, _ => none
  | n1 + 1, l1_1, s6_1 =>
    Option.bind (if (decide (s6_1 < a0.N)) = true then narthexref03_Check N a0 else some default) fun y2 =>
    if (decide (s6_1 < a0.N)) && y2 then
      Option.bind (narthexref03_Has N a0 a1 s6_1) fun y3 =>
      if y3 then
        Option.bind (app? l1_1 [s6_1]) fun x4 =>
        narthexref03_Near_L1 N a0 a1 n1 x4 (w64 (s6_1 + 1))
      else
        narthexref03_Near_L1 N a0 a1 n1 l1_1 (w64 (s6_1 + 1))
    else
      some l1_1
def narthexref03_Near (N : Nat) (a0 : TGraph) (a1 : Int) : Option ((List Int)) :=
  Option.bind (α := (List Int)) (
    narthexref03_Near_L1 N a0 a1 N ([] : List Int) 0
  ) fun z1 =>
  some z1
-- narthex/narthexref11.turn
def narthexref11_turn_L1 (N : Nat) (a0 : List Int) (a1 : List Int) (a2 : Int) : Nat → Int → Option (Bool ⊕ Unit)
  | 0, _ => none
  | n1 + 1, s7_1 =>
    if decide (s7_1 < (a1.length : Int)) then
      Option.bind (at? a1 s7_1) fun x4 =>
      Option.bind (if (decide (x4 > a2)) = true then at? a1 s7_1 else some default) fun x5 =>
      Option.bind (if (decide (x4 > a2)) = true then at? a0 x5 else some default) fun x6 =>
      if (decide (x4 > a2)) && (x6 == 0) then
        some (.inl false)
      else
        narthexref11_turn_L1 N a0 a1 a2 n1 (w64 (s7_1 + 1))
    else
      some (.inr (()))
def narthexref11_turn (N : Nat) (a0 : List Int) (a1 : List Int) (a2 : Int) : Option (Bool) :=
  Option.bind (α := Bool ⊕ Unit) (
    narthexref11_turn_L1 N a0 a1 a2 N 0
  ) fun z1 =>
  match z1 with
  | .inl r2 =>
    some r2
  | .inr z3 =>
    Option.bind (at? a0 a2) fun x7 =>
    some (x7 == 0)
-- narthex/narthexref11.used
def narthexref11_used_L1 (N : Nat) (a0 : List Int) (a1 : List Int) (a2 : Int) : Nat → Int → Option (Bool ⊕ Unit)
  | 0, _ => none
  | n1 + 1, s7_1 =>
    if decide (s7_1 < (a1.length : Int)) then
      Option.bind (at? a1 s7_1) fun x4 =>
      Option.bind (at? a0 x4) fun x5 =>
      if x5 == a2 then
        some (.inl true)
      else
        narthexref11_used_L1 N a0 a1 a2 n1 (w64 (s7_1 + 1))
    else
      some (.inr (()))
def narthexref11_used (N : Nat) (a0 : List Int) (a1 : List Int) (a2 : Int) : Option (Bool) :=
  Option.bind (α := Bool ⊕ Unit) (
    narthexref11_used_L1 N a0 a1 a2 N 0
  ) fun z1 =>
  match z1 with
  | .inl r2 =>
    some r2
  | .inr z3 =>
    some false
-- narthex/narthexref11.Round
def narthexref11_Round_L2 (N : Nat) (a1 : List Int) (y2 : (List Int)) : Nat → Int → Option (Int)
  | 0, _ => none
  | n2 + 1, s8_2 =>
    Option.bind (narthexref11_used N a1 y2 s8_2) fun y6 =>
    if y6 then
      narthexref11_Round_L2 N a1 y2 n2 (w64 (s8_2 + 1))
    else
      some s8_2
def narthexref11_Round_L1 (N : Nat) (a0 : TGraph) (a1 : List Int) : Nat → (List Int) → Int → Option ((List Int))
  | 0, _, _ => none
  | n1 + 1, l1_1, s6_1 =>
    if decide (s6_1 < a0.N) then
      Option.bind (narthexref03_Near N a0 s6_1) fun y2 =>
      Option.bind (at? a1 s6_1) fun x3 =>
      Option.bind (narthexref11_turn N a1 y2 s6_1) fun y4 =>
      if y4 then
        Option.bind (α := Int) (
          narthexref11_Round_L2 N a1 y2 N 1
        ) fun z5 =>
        Option.bind (app? l1_1 [z5]) fun x7 =>
        narthexref11_Round_L1 N a0 a1 n1 x7 (w64 (s6_1 + 1))
      else
        Option.bind (app? l1_1 [x3]) fun x8 =>
        narthexref11_Round_L1 N a0 a1 n1 x8 (w64 (s6_1 + 1))
    else
      some l1_1
def narthexref11_Round (N : Nat) (a0 : TGraph) (a1 : List Int) : Option ((List Int)) :=
  Option.bind (α := (List Int)) (
    narthexref11_Round_L1 N a0 a1 N ([] : List Int) 0
  ) fun z1 =>
  some z1
-- narthex/narthexlaw11.ColourRounds
def narthexlaw11_ColourRounds_L1 (N : Nat) (a1 : List Int) : Nat → Int → Int → Option (Int)
  | 0, _, _ => none
  | n1 + 1, s7_1, s8_1 =>
    if decide (s8_1 < (a1.length : Int)) then
      Option.bind (at? a1 s8_1) fun x8 =>
      narthexlaw11_ColourRounds_L1 N a1 n1 (max s7_1 x8) (w64 (s8_1 + 1))
    else
      some s7_1
def narthexlaw11_ColourRounds (N : Nat) (a0 : TGraph) (a1 : List Int) : Option (Bool) :=
  Option.bind (narthexlaw11_awake N) fun y1 =>
  Option.bind (if (!(!y1)) = true then narthexlaw11_few N a0 a1 else some default) fun y2 =>
  if (!y1) || (!y2) then
    Option.bind (narthexlaw11_awake N) fun y3 =>
    some y3
  else
    Option.bind (narthexlaw03_Own N a0) fun y4 =>
    Option.bind (narthexlaw11_own N a1) fun y5 =>
    Option.bind (colour_Round N y4 y5) fun y6 =>
    Option.bind (α := Int) (
      narthexlaw11_ColourRounds_L1 N a1 N 0 0
    ) fun z7 =>
    Option.bind (narthexlaw03_Own N a0) fun y9 =>
    Option.bind (narthexlaw11_own N a1) fun y10 =>
    Option.bind (colour_Right N y9 y10) fun y11 =>
    Option.bind (narthexref11_Right N a0 a1) fun y12 =>
    Option.bind (if (!(!(y11 == y12))) = true then narthexlaw11_own N a1 else some default) fun y13 =>
    Option.bind (if (!(!(y11 == y12))) = true then colour_Most N y13 else some default) fun y14 =>
    if (!(y11 == y12)) || (y14 != z7) then
      some false
    else
      Option.bind (narthexref03_Check N a0) fun y15 =>
      if !y15 then
        some (((y6.1.length : Int) == 0) && (y6.2 == 30))
      else
        Option.bind (narthexref11_Check N a0 a1) fun y16 =>
        if !y16 then
          some (((y6.1.length : Int) == 0) && (y6.2 == 110))
        else
          Option.bind (narthexref11_Round N a0 a1) fun y17 =>
          Option.bind (narthexref01_Same N y6.1 y17) fun y18 =>
          some (y18 && (y6.2 == 0))
-- narthex/narthexref11.Run
def narthexref11_Run_L1 (N : Nat) (a0 : TGraph) : Nat → (List Int) → Int → Option ((List Int))
  | 0, _, _ => none
  | n1 + 1, l1_1, s6_1 =>
    if decide (s6_1 < a0.N) then
      Option.bind (app? l1_1 [0]) fun x2 =>
      narthexref11_Run_L1 N a0 n1 x2 (w64 (s6_1 + 1))
    else
      some l1_1
def narthexref11_Run_L2 (N : Nat) (a0 : TGraph) : Nat → (List Int) → Int → Option ((List Int) × Int)
  | 0, _, _ => none
  | n2 + 1, s4_2, s5_2 =>
    Option.bind (narthexref01_Has N s4_2 0) fun y4 =>
    if y4 then
      Option.bind (narthexref11_Round N a0 s4_2) fun y5 =>
      narthexref11_Run_L2 N a0 n2 y5 (w64 (s5_2 + 1))
    else
      some (s4_2, s5_2)
def narthexref11_Run (N : Nat) (a0 : TGraph) : Option ((List Int) × Int) :=
  Option.bind (α := (List Int)) (
    narthexref11_Run_L1 N a0 N ([] : List Int) 0
  ) fun z1 =>
  Option.bind (α := (List Int) × Int) (
    narthexref11_Run_L2 N a0 N z1 0
  ) fun z3 =>
  some (z3.1, z3.2)
-- narthex/narthexlaw11.ColourRuns
def narthexlaw11_ColourRuns (N : Nat) (a0 : TGraph) : Option (Bool) :=
  Option.bind (narthexlaw11_awake N) fun y1 =>
  Option.bind (if (!(!y1)) = true then narthexlaw11_few N a0 [] else some default) fun y2 =>
  if (!y1) || (!y2) then
    Option.bind (narthexlaw11_awake N) fun y3 =>
    some y3
  else
    Option.bind (narthexlaw03_Own N a0) fun y4 =>
    Option.bind (colour_Run N y4) fun y5 =>
    Option.bind (narthexref03_Check N a0) fun y6 =>
    if !y6 then
      some ((((y5.1.length : Int) == 0) && (y5.2.1 == 0)) && (y5.2.2 == 30))
    else
      Option.bind (narthexref11_Run N a0) fun y7 =>
      Option.bind (narthexref01_Same N y5.1 y7.1) fun y8 =>
      some ((y8 && (y5.2.1 == y7.2)) && (y5.2.2 == 0))
-- narthex/narthexlaw11.ColourRight
def narthexlaw11_ColourRight_L1 (N : Nat) (a0 : TGraph) (y5 : (List Int) × Int × Int) : Nat → Int → Option (Bool ⊕ Unit)
  | 0, _ => none
  | n1 + 1, s6_1 =>
    if decide (s6_1 < (y5.1.length : Int)) then
      Option.bind (at? y5.1 s6_1) fun x9 =>
      Option.bind (if (!(decide (x9 < 1))) = true then at? y5.1 s6_1 else some default) fun x10 =>
      Option.bind (if (!(decide (x9 < 1))) = true then narthexref03_Near N a0 s6_1 else some default) fun y11 =>
      if (decide (x9 < 1)) || (decide (x10 > (w64 ((y11.length : Int) + 1)))) then
        some (.inl false)
      else
        narthexlaw11_ColourRight_L1 N a0 y5 n1 (w64 (s6_1 + 1))
    else
      some (.inr (()))
def narthexlaw11_ColourRight (N : Nat) (a0 : TGraph) : Option (Bool) :=
  Option.bind (narthexlaw11_awake N) fun y1 =>
  Option.bind (if (!(!y1)) = true then narthexlaw11_few N a0 [] else some default) fun y2 =>
  if (!y1) || (!y2) then
    Option.bind (narthexlaw11_awake N) fun y3 =>
    some y3
  else
    Option.bind (narthexlaw03_Own N a0) fun y4 =>
    Option.bind (colour_Run N y4) fun y5 =>
    if y5.2.2 != 0 then
      some ((y5.1.length : Int) == 0)
    else
      Option.bind (α := Bool ⊕ Unit) (
        narthexlaw11_ColourRight_L1 N a0 y5 N 0
      ) fun z6 =>
      match z6 with
      | .inl r7 =>
        some r7
      | .inr z8 =>
        Option.bind (narthexlaw03_Own N a0) fun y12 =>
        Option.bind (narthexlaw11_own N y5.1) fun y13 =>
        Option.bind (colour_Right N y12 y13) fun y14 =>
        some ((y14 && (decide (y5.2.1 ≤ a0.N))) && ((decide (y5.2.1 > 0)) || (a0.N == 0)))
-- narthex/narthexlaw11.ColourGreedy
def narthexlaw11_ColourGreedy_L2 (N : Nat) (y5 : (List Int) × Int × Int) (s6_1 : Int) (y9 : (List Int)) : Nat → (List Int) → Int → Option ((List Int))
  | 0, _, _ => none
  | n2 + 1, l1_2, s9_2 =>
    if decide (s9_2 < (y9.length : Int)) then
      Option.bind (at? y9 s9_2) fun x11 =>
      if decide (x11 > s6_1) then
        Option.bind (at? y9 s9_2) fun x12 =>
        Option.bind (at? y5.1 x12) fun x13 =>
        Option.bind (app? l1_2 [x13]) fun x14 =>
        narthexlaw11_ColourGreedy_L2 N y5 s6_1 y9 n2 x14 (w64 (s9_2 + 1))
      else
        narthexlaw11_ColourGreedy_L2 N y5 s6_1 y9 n2 l1_2 (w64 (s9_2 + 1))
    else
      some l1_2
def narthexlaw11_ColourGreedy_L3 (N : Nat) (y5 : (List Int) × Int × Int) (s6_1 : Int) (z10 : (List Int)) : Nat → Int → Option (Bool ⊕ Unit)
  | 0, _ => none
  | n3 + 1, s10_3 =>
    Option.bind (at? y5.1 s6_1) fun x18 =>
    if decide (s10_3 < x18) then
      Option.bind (narthexref01_Has N z10 s10_3) fun y19 =>
      if !y19 then
        some (.inl false)
      else
        narthexlaw11_ColourGreedy_L3 N y5 s6_1 z10 n3 (w64 (s10_3 + 1))
    else
      some (.inr (()))
def narthexlaw11_ColourGreedy_L1 (N : Nat) (a0 : TGraph) (y5 : (List Int) × Int × Int) : Nat → Int → Option (Bool ⊕ Unit)
  | 0, _ => none
  | n1 + 1, s6_1 =>
    if decide (s6_1 < (y5.1.length : Int)) then
      Option.bind (narthexref03_Near N a0 s6_1) fun y9 =>
      Option.bind (α := (List Int)) (
        narthexlaw11_ColourGreedy_L2 N y5 s6_1 y9 N ([] : List Int) 0
      ) fun z10 =>
      Option.bind (α := Bool ⊕ Unit) (
        narthexlaw11_ColourGreedy_L3 N y5 s6_1 z10 N 1
      ) fun z15 =>
      match z15 with
      | .inl r16 =>
        some (.inl r16)
      | .inr z17 =>
        Option.bind (at? y5.1 s6_1) fun x20 =>
        Option.bind (narthexref01_Has N z10 x20) fun y21 =>
        if y21 then
          some (.inl false)
        else
          narthexlaw11_ColourGreedy_L1 N a0 y5 n1 (w64 (s6_1 + 1))
    else
      some (.inr (()))
def narthexlaw11_ColourGreedy (N : Nat) (a0 : TGraph) : Option (Bool) :=
  Option.bind (narthexlaw11_awake N) fun y1 =>
  Option.bind (if (!(!y1)) = true then narthexlaw11_few N a0 [] else some default) fun y2 =>
  if (!y1) || (!y2) then
    Option.bind (narthexlaw11_awake N) fun y3 =>
    some y3
  else
    Option.bind (narthexlaw03_Own N a0) fun y4 =>
    Option.bind (colour_Run N y4) fun y5 =>
    if y5.2.2 != 0 then
      some ((y5.1.length : Int) == 0)
    else
      Option.bind (α := Bool ⊕ Unit) (
        narthexlaw11_ColourGreedy_L1 N a0 y5 N 0
      ) fun z6 =>
      match z6 with
      | .inl r7 =>
        some r7
      | .inr z8 =>
        some ((y5.1.length : Int) == a0.N)
-- narthex/narthexlaw11.ColourStays
def narthexlaw11_ColourStays_L1 (N : Nat) (a1 : List Int) (y6 : (List Int) × Int) : Nat → Int → Int → Option (Bool ⊕ Int)
  | 0, _, _ => none
  | n1 + 1, s7_1, s8_1 =>
    if decide (s8_1 < (a1.length : Int)) then
      Option.bind (at? a1 s8_1) fun x10 =>
      Option.bind (if (x10 != 0) = true then at? y6.1 s8_1 else some default) fun x11 =>
      Option.bind (if (x10 != 0) = true then at? a1 s8_1 else some default) fun x12 =>
      if (x10 != 0) && (x11 != x12) then
        some (.inl false)
      else
        Option.bind (at? a1 s8_1) fun x13 =>
        Option.bind (if (x13 == 0) = true then at? y6.1 s8_1 else some default) fun x14 =>
        if (x13 == 0) && (x14 != 0) then
          narthexlaw11_ColourStays_L1 N a1 y6 n1 (w64 (s7_1 + 1)) (w64 (s8_1 + 1))
        else
          narthexlaw11_ColourStays_L1 N a1 y6 n1 s7_1 (w64 (s8_1 + 1))
    else
      some (.inr s7_1)
def narthexlaw11_ColourStays_L2 (N : Nat) (a0 : TGraph) (a1 : List Int) (y6 : (List Int) × Int) : Nat → Int → Option (Bool ⊕ Unit)
  | 0, _ => none
  | n2 + 1, s9_2 =>
    if decide (s9_2 < (a0.Edges.length : Int)) then
      Option.bind (at? a0.Edges s9_2) fun x18 =>
      Option.bind (at? a1 x18.A) fun x19 =>
      Option.bind (if (x19 == 0) = true then at? a1 x18.B else some default) fun x20 =>
      Option.bind (if ((x19 == 0) && (x20 == 0)) = true then at? y6.1 x18.A else some default) fun x21 =>
      Option.bind (if (((x19 == 0) && (x20 == 0)) && (x21 != 0)) = true then at? y6.1 x18.B else some default) fun x22 =>
      if (((x19 == 0) && (x20 == 0)) && (x21 != 0)) && (x22 != 0) then
        some (.inl false)
      else
        narthexlaw11_ColourStays_L2 N a0 a1 y6 n2 (w64 (s9_2 + 1))
    else
      some (.inr (()))
def narthexlaw11_ColourStays (N : Nat) (a0 : TGraph) (a1 : List Int) : Option (Bool) :=
  Option.bind (narthexlaw11_awake N) fun y1 =>
  Option.bind (if (!(!y1)) = true then narthexlaw11_few N a0 a1 else some default) fun y2 =>
  if (!y1) || (!y2) then
    Option.bind (narthexlaw11_awake N) fun y3 =>
    some y3
  else
    Option.bind (narthexlaw03_Own N a0) fun y4 =>
    Option.bind (narthexlaw11_own N a1) fun y5 =>
    Option.bind (colour_Round N y4 y5) fun y6 =>
    if (y6.2 != 0) || ((y6.1.length : Int) != (a1.length : Int)) then
      some ((y6.2 != 0) && ((y6.1.length : Int) == 0))
    else
      Option.bind (α := Bool ⊕ Int) (
        narthexlaw11_ColourStays_L1 N a1 y6 N 0 0
      ) fun z7 =>
      match z7 with
      | .inl r8 =>
        some r8
      | .inr z9 =>
        Option.bind (α := Bool ⊕ Unit) (
          narthexlaw11_ColourStays_L2 N a0 a1 y6 N 0
        ) fun z15 =>
        match z15 with
        | .inl r16 =>
          some r16
        | .inr z17 =>
          Option.bind (if (!(decide (z9 > 0))) = true then narthexref01_Has N a1 0 else some default) fun y23 =>
          some ((decide (z9 > 0)) || (!y23))
-- narthex/narthexlaw11.ColourAlone
def narthexlaw11_ColourAlone_L1 (N : Nat) (a0 : TGraph) : Nat → (List Int) → Int → Option ((List Int))
  | 0, _, _ => none
  | n1 + 1, l1_1, s4_1 =>
    if decide (s4_1 < a0.N) then
      Option.bind (app? l1_1 [0]) fun x6 =>
      narthexlaw11_ColourAlone_L1 N a0 n1 x6 (w64 (s4_1 + 1))
    else
      some l1_1
def narthexlaw11_ColourAlone_L2 (N : Nat) (a0 : TGraph) (y8 : (List Int) × Int) : Nat → Int → Option (Bool ⊕ Unit)
  | 0, _ => none
  | n2 + 1, s7_2 =>
    if decide (s7_2 < (y8.1.length : Int)) then
      Option.bind (narthexref03_Near N a0 s7_2) fun y12 =>
      Option.bind (if (((y12.length : Int) == 0) || (s7_2 == (w64 (a0.N - 1)))) = true then at? y8.1 s7_2 else some default) fun x13 =>
      Option.bind (if (!((((y12.length : Int) == 0) || (s7_2 == (w64 (a0.N - 1)))) && (x13 != 1))) = true then at? y8.1 s7_2 else some default) fun x14 =>
      if ((((y12.length : Int) == 0) || (s7_2 == (w64 (a0.N - 1)))) && (x13 != 1)) || (decide (x14 > 1)) then
        some (.inl false)
      else
        narthexlaw11_ColourAlone_L2 N a0 y8 n2 (w64 (s7_2 + 1))
    else
      some (.inr (()))
def narthexlaw11_ColourAlone (N : Nat) (a0 : TGraph) : Option (Bool) :=
  Option.bind (narthexlaw11_awake N) fun y1 =>
  Option.bind (if (!(!y1)) = true then narthexlaw11_few N a0 [] else some default) fun y2 =>
  Option.bind (if (!((!y1) || (!y2))) = true then narthexref03_Check N a0 else some default) fun y3 =>
  if ((!y1) || (!y2)) || (!y3) then
    Option.bind (narthexlaw11_awake N) fun y4 =>
    some y4
  else
    Option.bind (α := (List Int)) (
      narthexlaw11_ColourAlone_L1 N a0 N ([] : List Int) 0
    ) fun z5 =>
    Option.bind (narthexlaw03_Own N a0) fun y7 =>
    Option.bind (colour_Round N y7 z5) fun y8 =>
    Option.bind (α := Bool ⊕ Unit) (
      narthexlaw11_ColourAlone_L2 N a0 y8 N 0
    ) fun z9 =>
    match z9 with
    | .inl r10 =>
      some r10
    | .inr z11 =>
      some ((y8.2 == 0) && ((y8.1.length : Int) == a0.N))
end Go.Proofs.Ytagmkgbkagpmnaa
