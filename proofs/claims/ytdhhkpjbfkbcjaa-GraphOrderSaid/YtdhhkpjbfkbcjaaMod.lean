/- Models of the functions, and what is known of data that came in. -/
import Derived.Test.YtdhhkpjbfkbcjaaFwE
namespace Go.Proofs.Ytdhhkpjbfkbcjaa
open Go Go.Nx
set_option linter.unusedVariables false
set_option linter.unusedSimpArgs false
set_option linter.unnecessarySimpa false
set_option maxRecDepth 8000
structure TEdge where
  A : Int
  B : Int
  deriving DecidableEq, Inhabited
structure TGraph where
  N : Int
  Edges : List TEdge
  deriving DecidableEq, Inhabited
def eEdge (x : TEdge) : List Leaf := [I x.A, I x.B]
def eI (x : Int) : List Leaf := [I x]
def eGraph (x : TGraph) : List Leaf := [I x.N, .slv (x.Edges.map eEdge)]
def kEdge (x : TEdge) : Prop := (Lit.int .i64 x.A).wf = true ∧ (Lit.int .i64 x.B).wf = true
def kGraph (x : TGraph) : Prop := (Lit.int .i64 x.N).wf = true ∧ (x.Edges.length ≤ maxLen ∧ ∀ y ∈ x.Edges, kEdge y)
-- narthex/graph.Check$1
def graph_Check_1 (N : Nat) (a0 : TEdge) (c0_0 : Int) (c0_1 : List TEdge) : Option (Bool) :=
  some (((decide (a0.A < 0)) || (decide (a0.A ≥ a0.B))) || (decide (a0.B ≥ c0_0)))
-- slices.IndexFunc[[]narthex/api.Edge,narthex/api.Edge]
def slices_IndexFunc_Edge_L1 (N : Nat) (a0 : List TEdge) (c0_0 : Int) (c0_1 : List TEdge) : Nat → Int → Option (Int ⊕ Unit)
  | 0, _ => none
  | n1 + 1, s8_1 =>
    if decide (s8_1 < (a0.length : Int)) then
      Option.bind (at? a0 s8_1) fun x4 =>
      Option.bind (graph_Check_1 N x4 c0_0 c0_1) fun y5 =>
      if y5 then
        some (.inl s8_1)
      else
        slices_IndexFunc_Edge_L1 N a0 c0_0 c0_1 n1 (w64 (s8_1 + 1))
    else
      some (.inr (()))
def slices_IndexFunc_Edge (N : Nat) (a0 : List TEdge) (c0_0 : Int) (c0_1 : List TEdge) : Option (Int) :=
  Option.bind (α := Int ⊕ Unit) (
    slices_IndexFunc_Edge_L1 N a0 c0_0 c0_1 N 0
  ) fun z1 =>
  match z1 with
  | .inl r2 =>
    some r2
  | .inr z3 =>
    some (-1)
-- slices.ContainsFunc[[]narthex/api.Edge,narthex/api.Edge]
def slices_ContainsFunc_Edge (N : Nat) (a0 : List TEdge) (c0_0 : Int) (c0_1 : List TEdge) : Option (Bool) :=
  Option.bind (slices_IndexFunc_Edge N a0 c0_0 c0_1) fun y1 =>
  some (decide (y1 ≥ 0))
-- cmp.isNaN[int]
def cmp_isNaN_int (N : Nat) (a0 : Int) : Option (Bool) :=
  some (a0 != a0)
-- cmp.Compare[int]
def cmp_Compare_int (N : Nat) (a0 : Int) (a1 : Int) : Option (Int) :=
  Option.bind (cmp_isNaN_int N a0) fun y1 =>
  Option.bind (cmp_isNaN_int N a1) fun y2 =>
  if y1 then
    if y2 then
      some 0
    else
      some (-1)
  else
    if y2 then
      some 1
    else
      if decide (a0 < a1) then
        some (-1)
      else
        if decide (a0 > a1) then
          some 1
        else
          some 0
-- cmp.Or[int]
def cmp_Or_int_L1 (N : Nat) (a0 : List Int) : Nat → Int → Option (Int ⊕ Unit)
  | 0, _ => none
  | n1 + 1, s8_1 =>
    if decide (s8_1 < (a0.length : Int)) then
      Option.bind (at? a0 s8_1) fun x4 =>
      if x4 != 0 then
        some (.inl x4)
      else
        cmp_Or_int_L1 N a0 n1 (w64 (s8_1 + 1))
    else
      some (.inr (()))
def cmp_Or_int (N : Nat) (a0 : List Int) : Option (Int) :=
  Option.bind (α := Int ⊕ Unit) (
    cmp_Or_int_L1 N a0 N 0
  ) fun z1 =>
  match z1 with
  | .inl r2 =>
    some r2
  | .inr z3 =>
    some 0
-- narthex/graph.rank
def graph_rank (N : Nat) (a0 : TEdge) (a1 : TEdge) : Option (Int) :=
  Option.bind (cmp_Compare_int N a0.A a1.A) fun y1 =>
  Option.bind (cmp_Compare_int N a0.B a1.B) fun y2 =>
  Option.bind (cmp_Or_int N [y1, y2]) fun y3 =>
  some y3
-- narthex/graph.Check
def graph_Check_L1 (N : Nat) (a0 : TGraph) : Nat → Int → Option (Int ⊕ Unit)
  | 0, _ => none
  | n1 + 1, s29_1 =>
    if decide (s29_1 < (a0.Edges.length : Int)) then
      Option.bind (if (decide (s29_1 > 0)) = true then at? a0.Edges (w64 (s29_1 - 1)) else some default) fun x5 =>
      Option.bind (if (decide (s29_1 > 0)) = true then at? a0.Edges s29_1 else some default) fun x6 =>
      Option.bind (if (decide (s29_1 > 0)) = true then graph_rank N x5 x6 else some default) fun y7 =>
      if (decide (s29_1 > 0)) && (decide (y7 ≥ 0)) then
        some (.inl 30)
      else
        graph_Check_L1 N a0 n1 (w64 (s29_1 + 1))
    else
      some (.inr (()))
def graph_Check (N : Nat) (a0 : TGraph) : Option (Int) :=
  Option.bind (if (!(((decide (a0.N < 0)) || (decide (a0.N > 64))) || (decide ((a0.Edges.length : Int) > 400)))) = true then slices_ContainsFunc_Edge N a0.Edges a0.N a0.Edges else some default) fun y1 =>
  if (((decide (a0.N < 0)) || (decide (a0.N > 64))) || (decide ((a0.Edges.length : Int) > 400))) || y1 then
    some 30
  else
    Option.bind (α := Int ⊕ Unit) (
      graph_Check_L1 N a0 N 0
    ) fun z2 =>
    match z2 with
    | .inl r3 =>
      some r3
    | .inr z4 =>
      some 0
-- narthex/graph.edge
def graph_edge (N : Nat) (a0 : Int) (a1 : Int) : Option (TEdge) :=
  some (⟨min a0 a1, max a0 a1⟩ : TEdge)
-- narthex/graph.told
def graph_told (N : Nat) (a0 : TGraph) (a1 : Int) (a2 : Int) : Option (Int) :=
  Option.bind (graph_Check N a0) fun y1 =>
  Option.bind (graph_edge N a1 a2) fun y2 =>
  if (y1 == 0) && (((decide (y2.A < 0)) || (y2.A == y2.B)) || (decide (y2.B ≥ a0.N))) then
    some 31
  else
    some y1
-- slices.Index[[]narthex/api.Edge,narthex/api.Edge]
def slices_Index_Edge_L1 (N : Nat) (a0 : List TEdge) (a1 : TEdge) : Nat → Int → Option (Int ⊕ Unit)
  | 0, _ => none
  | n1 + 1, s8_1 =>
    if decide (s8_1 < (a0.length : Int)) then
      Option.bind (at? a0 s8_1) fun x4 =>
      if decide (a1 = x4) then
        some (.inl s8_1)
      else
        slices_Index_Edge_L1 N a0 a1 n1 (w64 (s8_1 + 1))
    else
      some (.inr (()))
def slices_Index_Edge (N : Nat) (a0 : List TEdge) (a1 : TEdge) : Option (Int) :=
  Option.bind (α := Int ⊕ Unit) (
    slices_Index_Edge_L1 N a0 a1 N 0
  ) fun z1 =>
  match z1 with
  | .inl r2 =>
    some r2
  | .inr z3 =>
    some (-1)
-- slices.Contains[[]narthex/api.Edge,narthex/api.Edge]
def slices_Contains_Edge (N : Nat) (a0 : List TEdge) (a1 : TEdge) : Option (Bool) :=
  Option.bind (slices_Index_Edge N a0 a1) fun y1 =>
  some (decide (y1 ≥ 0))
-- narthex/graph.Has
def graph_Has (N : Nat) (a0 : TGraph) (a1 : Int) (a2 : Int) : Option (Bool) :=
  Option.bind (graph_edge N a1 a2) fun y1 =>
  Option.bind (slices_Contains_Edge N a0.Edges y1) fun y2 =>
  some y2
-- slices.BinarySearchFunc[[]narthex/api.Edge,narthex/api.Edge,narthex/api.Edge]
def slices_BinarySearchFunc_Edge_L1 (N : Nat) (a0 : List TEdge) (a1 : TEdge) : Nat → Int → Int → Option (Int)
  | 0, _, _ => none
  | n1 + 1, s9_1, s10_1 =>
    if decide (s9_1 < s10_1) then
      Option.bind (at? a0 (w64 (Int.fdiv (IntKind.u64.wrap (w64 (s9_1 + s10_1))) (2 ^ 1)))) fun x2 =>
      Option.bind (graph_rank N x2 a1) fun y3 =>
      if decide (y3 < 0) then
        slices_BinarySearchFunc_Edge_L1 N a0 a1 n1 (w64 ((w64 (Int.fdiv (IntKind.u64.wrap (w64 (s9_1 + s10_1))) (2 ^ 1))) + 1)) s10_1
      else
        slices_BinarySearchFunc_Edge_L1 N a0 a1 n1 s9_1 (w64 (Int.fdiv (IntKind.u64.wrap (w64 (s9_1 + s10_1))) (2 ^ 1)))
    else
      some s9_1
def slices_BinarySearchFunc_Edge (N : Nat) (a0 : List TEdge) (a1 : TEdge) : Option (Int × Bool) :=
  Option.bind (α := Int) (
    slices_BinarySearchFunc_Edge_L1 N a0 a1 N 0 (a0.length : Int)
  ) fun z1 =>
  Option.bind (if (decide (z1 < (a0.length : Int))) = true then at? a0 z1 else some default) fun x4 =>
  Option.bind (if (decide (z1 < (a0.length : Int))) = true then graph_rank N x4 a1 else some default) fun y5 =>
  some (z1, (decide (z1 < (a0.length : Int))) && (y5 == 0))
def slices_Clone_Edge (N : Nat) (a0 : List TEdge) : Option (List TEdge) := app? [] a0

-- narthex/graph.Add
def graph_Add (N : Nat) (a0 : TGraph) (a1 : Int) (a2 : Int) : Option (TGraph × Int) :=
  Option.bind (graph_told N a0 a1 a2) fun y1 =>
  Option.bind (α := Int) (
    if y1 != 0 then
      some y1
    else
      Option.bind (graph_Has N a0 a1 a2) fun y3 =>
      if y3 then
        some 32
      else
        if (a0.Edges.length : Int) == 400 then
          some 30
        else
          some y1
  ) fun z2 =>
  if z2 != 0 then
    some ((⟨0, []⟩ : TGraph), z2)
  else
    Option.bind (graph_edge N a1 a2) fun y4 =>
    Option.bind (slices_BinarySearchFunc_Edge N a0.Edges y4) fun y5 =>
    Option.bind (slices_Clone_Edge N a0.Edges) fun y6 =>
    Option.bind (graph_edge N a1 a2) fun y7 =>
    Option.bind (ins? y6 y5.1 y7) fun x8 =>
    some ({ a0 with Edges := x8 }, 0)
-- narthex/graph.Remove$1
def graph_Remove_1 (N : Nat) (a0 : TEdge) (c0_0 : Int) (c0_1 : List TEdge) (c1_0 : Int) (c2_0 : Int) (c3_0 : Int) (l4 : List TEdge) : Option (Bool) :=
  Option.bind (graph_edge N c1_0 c2_0) fun y1 =>
  some (decide (a0 = y1))
-- slices.IndexFunc[[]narthex/api.Edge,narthex/api.Edge]
def slices_IndexFunc_Edge_2_L1 (N : Nat) (c0_0 : Int) (c0_1 : List TEdge) (c1_0 : Int) (c2_0 : Int) (c3_0 : Int) (l4 : List TEdge) : Nat → Int → Option (Int ⊕ Unit)
  | 0, _ => none
  | n1 + 1, s8_1 =>
    if decide (s8_1 < (l4.length : Int)) then
      Option.bind (at? l4 s8_1) fun x4 =>
      Option.bind (graph_Remove_1 N x4 c0_0 c0_1 c1_0 c2_0 c3_0 l4) fun y5 =>
      if y5 then
        some (.inl s8_1)
      else
        slices_IndexFunc_Edge_2_L1 N c0_0 c0_1 c1_0 c2_0 c3_0 l4 n1 (w64 (s8_1 + 1))
    else
      some (.inr (()))
def slices_IndexFunc_Edge_2 (N : Nat) (c0_0 : Int) (c0_1 : List TEdge) (c1_0 : Int) (c2_0 : Int) (c3_0 : Int) (l4 : List TEdge) : Option (Int) :=
  Option.bind (α := Int ⊕ Unit) (
    slices_IndexFunc_Edge_2_L1 N c0_0 c0_1 c1_0 c2_0 c3_0 l4 N 0
  ) fun z1 =>
  match z1 with
  | .inl r2 =>
    some r2
  | .inr z3 =>
    some (-1)
-- narthex/graph.Remove$1
def graph_Remove_1_2 (N : Nat) (a0 : TEdge) (c0_0 : Int) (c0_1 : List TEdge) (c1_0 : Int) (c2_0 : Int) (c3_0 : Int) (l4 : List TEdge) (c5_0 : Int) (c5_1 : Int) : Option (Bool) :=
  Option.bind (graph_edge N c1_0 c2_0) fun y1 =>
  some (decide (a0 = y1))
-- slices.DeleteFunc[[]narthex/api.Edge,narthex/api.Edge]
def slices_DeleteFunc_Edge_L1 (N : Nat) (c0_0 : Int) (c0_1 : List TEdge) (c1_0 : Int) (c2_0 : Int) (c3_0 : Int) : Nat → (List TEdge) → Int → Int → Option ((List TEdge) × Int)
  | 0, _, _, _ => none
  | n1 + 1, l4_1, s5_1, s6_1 =>
    if decide (s6_1 < (l4_1.length : Int)) then
      Option.bind (at? l4_1 s6_1) fun x3 =>
      Option.bind (graph_Remove_1_2 N x3 c0_0 c0_1 c1_0 c2_0 c3_0 l4_1 x3.A x3.B) fun y4 =>
      if !y4 then
        Option.bind (at? l4_1 s5_1) fun x5 =>
        slices_DeleteFunc_Edge_L1 N c0_0 c0_1 c1_0 c2_0 c3_0 n1 (l4_1.set s5_1.toNat x3) (w64 (s5_1 + 1)) (w64 (s6_1 + 1))
      else
        slices_DeleteFunc_Edge_L1 N c0_0 c0_1 c1_0 c2_0 c3_0 n1 l4_1 s5_1 (w64 (s6_1 + 1))
    else
      some (l4_1, s5_1)
def slices_DeleteFunc_Edge (N : Nat) (c0_0 : Int) (c0_1 : List TEdge) (c1_0 : Int) (c2_0 : Int) (c3_0 : Int) (l4 : List TEdge) : Option ((List TEdge)) :=
  Option.bind (slices_IndexFunc_Edge_2 N c0_0 c0_1 c1_0 c2_0 c3_0 l4) fun y1 =>
  if y1 == (-1) then
    some l4
  else
    Option.bind (α := (List TEdge) × Int) (
      slices_DeleteFunc_Edge_L1 N c0_0 c0_1 c1_0 c2_0 c3_0 N l4 y1 (w64 (y1 + 1))
    ) fun z2 =>
    Option.bind (sub? z2.1 z2.2 (z2.1.length : Int)) fun x6 =>
    Option.bind (sub? (clr z2.1 (Int.toNat z2.2) x6.length (⟨0, 0⟩ : TEdge)) 0 z2.2) fun x7 =>
    some x7
-- narthex/graph.Remove
def graph_Remove (N : Nat) (a0 : TGraph) (a1 : Int) (a2 : Int) : Option (TGraph × Int) :=
  Option.bind (graph_told N a0 a1 a2) fun y1 =>
  if y1 != 0 then
    some ((⟨0, []⟩ : TGraph), y1)
  else
    Option.bind (graph_Has N a0 a1 a2) fun y2 =>
    if !y2 then
      some ((⟨0, []⟩ : TGraph), 33)
    else
      Option.bind (slices_Clone_Edge N a0.Edges) fun y3 =>
      Option.bind (slices_DeleteFunc_Edge N a0.N a0.Edges a1 a2 0 y3) fun y4 =>
      some ({ a0 with Edges := y4 }, 0)
def slices_Clone_int (N : Nat) (a0 : List Int) : Option (List Int) := app? [] a0
-- narthex/set.Of
def set_Of (N : Nat) (a0 : List Int) : Option ((List Int)) :=
  Option.bind (slices_Clone_int N a0) fun y1 =>
  Option.bind (sort? y1) fun x2 =>
  Option.bind (ded? x2) fun x3 =>
  some x3
-- narthex/graph.Near
def graph_Near_L1 (N : Nat) (a0 : TGraph) (a1 : Int) : Nat → (List Int) → Int → Option ((List Int))
  | 0, _, _ => none
  | n1 + 1, l0_1, s14_1 =>
    if decide (s14_1 < (a0.Edges.length : Int)) then
      Option.bind (at? a0.Edges s14_1) fun x3 =>
      if a1 == x3.A then
        Option.bind (app? l0_1 [x3.B]) fun x4 =>
        graph_Near_L1 N a0 a1 n1 x4 (w64 (s14_1 + 1))
      else
        if a1 == x3.B then
          Option.bind (app? l0_1 [x3.A]) fun x5 =>
          graph_Near_L1 N a0 a1 n1 x5 (w64 (s14_1 + 1))
        else
          graph_Near_L1 N a0 a1 n1 l0_1 (w64 (s14_1 + 1))
    else
      some l0_1
def graph_Near (N : Nat) (a0 : TGraph) (a1 : Int) : Option ((List Int)) :=
  Option.bind (graph_Check N a0) fun y1 =>
  if y1 != 0 then
    some []
  else
    Option.bind (α := (List Int)) (
      graph_Near_L1 N a0 a1 N ([] : List Int) 0
    ) fun z2 =>
    Option.bind (set_Of N z2) fun y6 =>
    some y6
-- narthex/narthexref01.Same
def narthexref01_Same_L1 (N : Nat) (a0 : List Int) (a1 : List Int) : Nat → Int → Option (Bool ⊕ Unit)
  | 0, _ => none
  | n1 + 1, s5_1 =>
    if decide (s5_1 < (a0.length : Int)) then
      Option.bind (at? a0 s5_1) fun x4 =>
      Option.bind (at? a1 s5_1) fun x5 =>
      if x4 != x5 then
        some (.inl false)
      else
        narthexref01_Same_L1 N a0 a1 n1 (w64 (s5_1 + 1))
    else
      some (.inr (()))
def narthexref01_Same (N : Nat) (a0 : List Int) (a1 : List Int) : Option (Bool) :=
  if (a0.length : Int) != (a1.length : Int) then
    some false
  else
    Option.bind (α := Bool ⊕ Unit) (
      narthexref01_Same_L1 N a0 a1 N 0
    ) fun z1 =>
    match z1 with
    | .inl r2 =>
      some r2
    | .inr z3 =>
      some true
def graph_Parts_L2 (N : Nat) (a0 : TGraph) (s17_1 : Int) : Nat → (List Int) → (List Int) → (List Int) → Option ((List Int) × (List Int))
  | 0, _, _, _ => none
  | n2 + 1, l1_2, ks, l3_2 =>
    if decide ((l3_2.length : Int) > 0) then
      Option.bind (at? l3_2 0) fun x5 =>
      if ks.contains x5 then
        graph_Parts_L2 N a0 s17_1 n2 l1_2 ks (l3_2.drop 1)
      else
        Option.bind (at? l1_2 x5) fun x8 =>
        Option.bind (graph_Near N a0 x5) fun y9 =>
        Option.bind (app? (l3_2.drop 1) y9) fun x10 =>
        graph_Parts_L2 N a0 s17_1 n2 (l1_2.set x5.toNat s17_1) (ks ++ [x5]) x10
    else
      some (l1_2, ks)
def graph_Parts_L1 (N : Nat) (a0 : TGraph) : Nat → (List Int) → (List Int) → Int → Option ((List Int))
  | 0, _, _, _ => none
  | n1 + 1, l1_1, ks, s17_1 =>
    if decide (s17_1 < a0.N) then
      Option.bind (α := (List Int) × (List Int)) (
        graph_Parts_L2 N a0 s17_1 N l1_1 ks [s17_1]
      ) fun z4 =>
      graph_Parts_L1 N a0 n1 z4.1 z4.2 (w64 (s17_1 + 1))
    else
      some l1_1
def graph_Parts (N : Nat) (a0 : TGraph) : Option ((List Int)) :=
  Option.bind (graph_Check N a0) fun y1 =>
  if y1 != 0 then
    some []
  else
    Option.bind (mk? a0.N 0) fun x2 =>
    Option.bind (α := (List Int)) (
      graph_Parts_L1 N a0 N x2 ([] : List Int) 0
    ) fun z3 =>
    some z3
-- slices.Equal[[]narthex/api.Edge,narthex/api.Edge]
def slices_Equal_Edge_L1 (N : Nat) (a0 : List TEdge) (a1 : List TEdge) : Nat → Int → Option (Bool ⊕ Unit)
  | 0, _ => none
  | n1 + 1, s13_1 =>
    if decide (s13_1 < (a0.length : Int)) then
      Option.bind (at? a0 s13_1) fun x4 =>
      Option.bind (at? a1 s13_1) fun x5 =>
      if !decide (x4 = x5) then
        some (.inl false)
      else
        slices_Equal_Edge_L1 N a0 a1 n1 (w64 (s13_1 + 1))
    else
      some (.inr (()))
def slices_Equal_Edge (N : Nat) (a0 : List TEdge) (a1 : List TEdge) : Option (Bool) :=
  if (a0.length : Int) != (a1.length : Int) then
    some false
  else
    Option.bind (α := Bool ⊕ Unit) (
      slices_Equal_Edge_L1 N a0 a1 N 0
    ) fun z1 =>
    match z1 with
    | .inl r2 =>
      some r2
    | .inr z3 =>
      some true
-- narthex/graph.Same
def graph_Same (N : Nat) (a0 : TGraph) (a1 : TGraph) : Option (Bool) :=
  Option.bind (if (a0.N == a1.N) = true then slices_Equal_Edge N a0.Edges a1.Edges else some default) fun y1 =>
  some ((a0.N == a1.N) && y1)
-- narthex/narthexlaw03.awake
def narthexlaw03_awake (N : Nat) : Option (Bool) :=
  Option.bind (graph_Add N (⟨3, []⟩ : TGraph) 2 0) fun y1 =>
  Option.bind (graph_Remove N y1.1 0 2) fun y2 =>
  Option.bind (graph_Add N y1.1 0 2) fun y3 =>
  if y1.2 == 0 then
    if y2.2 == 0 then
      if y3.2 == 32 then
        Option.bind (graph_Check N y1.1) fun y4 =>
        if y4 == 0 then
          Option.bind (graph_Has N y1.1 2 0) fun y5 =>
          if y5 then
            Option.bind (graph_Has N y1.1 1 0) fun y6 =>
            if !y6 then
              Option.bind (graph_Near N y1.1 2) fun y7 =>
              Option.bind (narthexref01_Same N y7 [0]) fun y8 =>
              if y8 then
                Option.bind (graph_Parts N y1.1) fun y9 =>
                Option.bind (narthexref01_Same N y9 [0, 1, 0]) fun y10 =>
                if y10 then
                  Option.bind (graph_Same N y2.1 (⟨3, []⟩ : TGraph)) fun y11 =>
                  if y11 then
                    Option.bind (graph_Same N y1.1 y2.1) fun y12 =>
                    some (!y12)
                  else
                    some false
                else
                  some false
              else
                some false
            else
              some false
          else
            some false
        else
          some false
      else
        some false
    else
      some false
  else
    some false
-- narthex/narthexlaw03.Own
def narthexlaw03_Own (N : Nat) (a0 : TGraph) : Option (TGraph) :=
  Option.bind (app? ([] : List TEdge) a0.Edges) fun x1 =>
  some { a0 with Edges := x1 }
-- narthex/narthexref03.ahead
def narthexref03_ahead (N : Nat) (a0 : TEdge) (a1 : TEdge) : Option (Bool) :=
  some ((decide (a0.A < a1.A)) || ((a0.A == a1.A) && (decide (a0.B < a1.B))))
-- narthex/narthexref03.Check
def narthexref03_Check_L1 (N : Nat) (a0 : TGraph) : Nat → Int → Option (Bool ⊕ Unit)
  | 0, _ => none
  | n1 + 1, s3_1 =>
    if decide (s3_1 < (a0.Edges.length : Int)) then
      Option.bind (at? a0.Edges s3_1) fun x4 =>
      Option.bind (if ((!(((decide (x4.A < 0)) || (decide (x4.A ≥ x4.B))) || (decide (x4.B ≥ a0.N)))) && (decide (s3_1 > 0))) = true then at? a0.Edges (w64 (s3_1 - 1)) else some default) fun x5 =>
      Option.bind (if ((!(((decide (x4.A < 0)) || (decide (x4.A ≥ x4.B))) || (decide (x4.B ≥ a0.N)))) && (decide (s3_1 > 0))) = true then narthexref03_ahead N x5 x4 else some default) fun y6 =>
      if (((decide (x4.A < 0)) || (decide (x4.A ≥ x4.B))) || (decide (x4.B ≥ a0.N))) || ((decide (s3_1 > 0)) && (!y6)) then
        some (.inl false)
      else
        narthexref03_Check_L1 N a0 n1 (w64 (s3_1 + 1))
    else
      some (.inr (()))
def narthexref03_Check (N : Nat) (a0 : TGraph) : Option (Bool) :=
  if ((decide (a0.N < 0)) || (decide (a0.N > 64))) || (decide ((a0.Edges.length : Int) > 400)) then
    some false
  else
    Option.bind (α := Bool ⊕ Unit) (
      narthexref03_Check_L1 N a0 N 0
    ) fun z1 =>
    match z1 with
    | .inl r2 =>
      some r2
    | .inr z3 =>
      some true
-- narthex/narthexref03.nodes
def narthexref03_nodes (N : Nat) (a0 : TGraph) (a1 : Int) (a2 : Int) : Option (Bool) :=
  some (((((decide (a1 ≥ 0)) && (decide (a1 < a0.N))) && (decide (a2 ≥ 0))) && (decide (a2 < a0.N))) && (a1 != a2))
-- narthex/narthexref03.Has
def narthexref03_Has_L1 (N : Nat) (a0 : TGraph) (a1 : Int) (a2 : Int) : Nat → Int → Option (Bool ⊕ Unit)
  | 0, _ => none
  | n1 + 1, s7_1 =>
    if decide (s7_1 < (a0.Edges.length : Int)) then
      Option.bind (at? a0.Edges s7_1) fun x4 =>
      if (((x4.A == a1) && (x4.B == a2)) && (decide (a1 ≤ a2))) || (((x4.A == a2) && (x4.B == a1)) && (decide (a2 < a1))) then
        some (.inl true)
      else
        narthexref03_Has_L1 N a0 a1 a2 n1 (w64 (s7_1 + 1))
    else
      some (.inr (()))
def narthexref03_Has (N : Nat) (a0 : TGraph) (a1 : Int) (a2 : Int) : Option (Bool) :=
  Option.bind (α := Bool ⊕ Unit) (
    narthexref03_Has_L1 N a0 a1 a2 N 0
  ) fun z1 =>
  match z1 with
  | .inl r2 =>
    some r2
  | .inr z3 =>
    some false
-- narthex/narthexref03.Add
def narthexref03_Add_L1 (N : Nat) (a0 : TGraph) (a1 : Int) (a2 : Int) : Nat → (List TEdge) → Bool → Int → Option ((List TEdge) × Bool)
  | 0, _, _, _ => none
  | n1 + 1, l4_1, s10_1, s11_1 =>
    if decide (s11_1 < (a0.Edges.length : Int)) then
      Option.bind (if (!s10_1) = true then at? a0.Edges s11_1 else some default) fun x5 =>
      Option.bind (if (!s10_1) = true then narthexref03_ahead N (⟨min a1 a2, max a1 a2⟩ : TEdge) x5 else some default) fun y6 =>
      if (!s10_1) && y6 then
        Option.bind (app? l4_1 [(⟨min a1 a2, max a1 a2⟩ : TEdge)]) fun x7 =>
        Option.bind (at? a0.Edges s11_1) fun x8 =>
        Option.bind (app? x7 [x8]) fun x9 =>
        narthexref03_Add_L1 N a0 a1 a2 n1 x9 true (w64 (s11_1 + 1))
      else
        Option.bind (at? a0.Edges s11_1) fun x10 =>
        Option.bind (app? l4_1 [x10]) fun x11 =>
        narthexref03_Add_L1 N a0 a1 a2 n1 x11 s10_1 (w64 (s11_1 + 1))
    else
      some (l4_1, s10_1)
def narthexref03_Add (N : Nat) (a0 : TGraph) (a1 : Int) (a2 : Int) : Option (TGraph × Int) :=
  Option.bind (narthexref03_Check N a0) fun y1 =>
  if !y1 then
    some ((⟨0, []⟩ : TGraph), 30)
  else
    Option.bind (narthexref03_nodes N a0 a1 a2) fun y2 =>
    if !y2 then
      some ((⟨0, []⟩ : TGraph), 31)
    else
      Option.bind (narthexref03_Has N a0 a1 a2) fun y3 =>
      if y3 then
        some ((⟨0, []⟩ : TGraph), 32)
      else
        if (a0.Edges.length : Int) == 400 then
          some ((⟨0, []⟩ : TGraph), 30)
        else
          Option.bind (α := (List TEdge) × Bool) (
            narthexref03_Add_L1 N a0 a1 a2 N ([] : List TEdge) false 0
          ) fun z4 =>
          if !z4.2 then
            Option.bind (app? z4.1 [(⟨min a1 a2, max a1 a2⟩ : TEdge)]) fun x12 =>
            some ({ a0 with Edges := x12 }, 0)
          else
            some ({ a0 with Edges := z4.1 }, 0)
-- narthex/narthexref03.Remove
def narthexref03_Remove_L1 (N : Nat) (a0 : TGraph) (a1 : Int) (a2 : Int) : Nat → (List TEdge) → Int → Option ((List TEdge))
  | 0, _, _ => none
  | n1 + 1, l3_1, s9_1 =>
    if decide (s9_1 < (a0.Edges.length : Int)) then
      Option.bind (at? a0.Edges s9_1) fun x5 =>
      if (x5.A != (min a1 a2)) || (x5.B != (max a1 a2)) then
        Option.bind (app? l3_1 [x5]) fun x6 =>
        narthexref03_Remove_L1 N a0 a1 a2 n1 x6 (w64 (s9_1 + 1))
      else
        narthexref03_Remove_L1 N a0 a1 a2 n1 l3_1 (w64 (s9_1 + 1))
    else
      some l3_1
def narthexref03_Remove (N : Nat) (a0 : TGraph) (a1 : Int) (a2 : Int) : Option (TGraph × Int) :=
  Option.bind (narthexref03_Check N a0) fun y1 =>
  if !y1 then
    some ((⟨0, []⟩ : TGraph), 30)
  else
    Option.bind (narthexref03_nodes N a0 a1 a2) fun y2 =>
    if !y2 then
      some ((⟨0, []⟩ : TGraph), 31)
    else
      Option.bind (narthexref03_Has N a0 a1 a2) fun y3 =>
      if !y3 then
        some ((⟨0, []⟩ : TGraph), 33)
      else
        Option.bind (α := (List TEdge)) (
          narthexref03_Remove_L1 N a0 a1 a2 N ([] : List TEdge) 0
        ) fun z4 =>
        some ({ a0 with Edges := z4 }, 0)
-- narthex/narthexref03.Same
def narthexref03_Same_L1 (N : Nat) (a0 : TGraph) (a1 : TGraph) : Nat → Int → Option (Bool ⊕ Unit)
  | 0, _ => none
  | n1 + 1, s5_1 =>
    if decide (s5_1 < (a0.Edges.length : Int)) then
      Option.bind (at? a0.Edges s5_1) fun x4 =>
      Option.bind (at? a1.Edges s5_1) fun x5 =>
      if !decide (x4 = x5) then
        some (.inl false)
      else
        narthexref03_Same_L1 N a0 a1 n1 (w64 (s5_1 + 1))
    else
      some (.inr (()))
def narthexref03_Same (N : Nat) (a0 : TGraph) (a1 : TGraph) : Option (Bool) :=
  if (a0.N != a1.N) || ((a0.Edges.length : Int) != (a1.Edges.length : Int)) then
    some false
  else
    Option.bind (α := Bool ⊕ Unit) (
      narthexref03_Same_L1 N a0 a1 N 0
    ) fun z1 =>
    match z1 with
    | .inl r2 =>
      some r2
    | .inr z3 =>
      some true
-- narthex/narthexlaw03.GraphChanges
def narthexlaw03_GraphChanges (N : Nat) (a0 : TGraph) (a1 : Int) (a2 : Int) : Option (Bool) :=
  Option.bind (narthexlaw03_awake N) fun y1 =>
  if (!y1) || (decide ((a0.Edges.length : Int) > 60)) then
    Option.bind (narthexlaw03_awake N) fun y2 =>
    some y2
  else
    Option.bind (narthexlaw03_Own N a0) fun y3 =>
    Option.bind (graph_Add N y3 a1 a2) fun y4 =>
    Option.bind (narthexref03_Add N a0 a1 a2) fun y5 =>
    Option.bind (narthexlaw03_Own N a0) fun y6 =>
    Option.bind (graph_Remove N y6 a1 a2) fun y7 =>
    Option.bind (narthexref03_Remove N a0 a1 a2) fun y8 =>
    Option.bind (narthexref03_Same N y4.1 y5.1) fun y9 =>
    Option.bind (if (y9 && (y4.2 == y5.2)) = true then narthexref03_Same N y7.1 y8.1 else some default) fun y10 =>
    some (((y9 && (y4.2 == y5.2)) && y10) && (y7.2 == y8.2))
-- narthex/narthexlaw03.GraphBack
def narthexlaw03_GraphBack (N : Nat) (a0 : TGraph) (a1 : Int) (a2 : Int) (a3 : Int) (a4 : Int) : Option (Bool) :=
  Option.bind (narthexlaw03_awake N) fun y1 =>
  if (!y1) || (decide ((a0.Edges.length : Int) > 60)) then
    Option.bind (narthexlaw03_awake N) fun y2 =>
    some y2
  else
    Option.bind (narthexlaw03_Own N a0) fun y3 =>
    Option.bind (graph_Add N y3 a1 a2) fun y4 =>
    if y4.2 != 0 then
      Option.bind (narthexref03_Same N y4.1 (⟨0, []⟩ : TGraph)) fun y5 =>
      some y5
    else
      Option.bind (narthexlaw03_Own N y4.1) fun y6 =>
      Option.bind (graph_Remove N y6 a2 a1) fun y7 =>
      Option.bind (graph_Check N y4.1) fun y8 =>
      Option.bind (if (y8 == 0) = true then graph_Has N y4.1 a3 a4 else some default) fun y9 =>
      Option.bind (if ((y8 == 0) && (!(((a1 == a3) && (a2 == a4)) || ((a1 == a4) && (a2 == a3))))) = true then narthexlaw03_Own N a0 else some default) fun y10 =>
      Option.bind (if ((y8 == 0) && (!(((a1 == a3) && (a2 == a4)) || ((a1 == a4) && (a2 == a3))))) = true then graph_Has N y10 a3 a4 else some default) fun y11 =>
      Option.bind (if (((y8 == 0) && (y9 == ((((a1 == a3) && (a2 == a4)) || ((a1 == a4) && (a2 == a3))) || y11))) && (y7.2 == 0)) = true then narthexref03_Same N y7.1 a0 else some default) fun y12 =>
      some ((((y8 == 0) && (y9 == ((((a1 == a3) && (a2 == a4)) || ((a1 == a4) && (a2 == a3))) || y11))) && (y7.2 == 0)) && y12)
-- narthex/narthexlaw03.GraphParts
def narthexlaw03_GraphParts_L1 (N : Nat) (y6 : List Int) : Nat → Int → Option (Bool ⊕ Unit)
  | 0, _ => none
  | n1 + 1, s8_1 =>
    if decide (s8_1 < (y6.length : Int)) then
      Option.bind (at? y6 s8_1) fun x10 =>
      Option.bind (if (!(decide (x10 < 0))) = true then at? y6 s8_1 else some default) fun x11 =>
      Option.bind (if (!((decide (x10 < 0)) || (decide (x11 > s8_1)))) = true then at? y6 s8_1 else some default) fun x12 =>
      Option.bind (if (!((decide (x10 < 0)) || (decide (x11 > s8_1)))) = true then at? y6 x12 else some default) fun x13 =>
      Option.bind (if (!((decide (x10 < 0)) || (decide (x11 > s8_1)))) = true then at? y6 s8_1 else some default) fun x14 =>
      if ((decide (x10 < 0)) || (decide (x11 > s8_1))) || (x13 != x14) then
        some (.inl false)
      else
        narthexlaw03_GraphParts_L1 N y6 n1 (w64 (s8_1 + 1))
    else
      some (.inr (()))
def narthexlaw03_GraphParts_L2 (N : Nat) (a0 : TGraph) (y6 : List Int) : Nat → Int → Option (Bool ⊕ Unit)
  | 0, _ => none
  | n2 + 1, s9_2 =>
    if decide (s9_2 < (a0.Edges.length : Int)) then
      Option.bind (at? a0.Edges s9_2) fun x18 =>
      Option.bind (at? y6 x18.A) fun x19 =>
      Option.bind (at? a0.Edges s9_2) fun x20 =>
      Option.bind (at? y6 x20.B) fun x21 =>
      if x19 != x21 then
        some (.inl false)
      else
        narthexlaw03_GraphParts_L2 N a0 y6 n2 (w64 (s9_2 + 1))
    else
      some (.inr (()))
def narthexlaw03_GraphParts_L3 (N : Nat) (a1 : Int) (a2 : Int) (y6 : List Int) (y24 : List Int) : Nat → Int → Option (Bool ⊕ Unit)
  | 0, _ => none
  | n3 + 1, s13_3 =>
    if (decide (s13_3 < (y6.length : Int))) && (decide (s13_3 < (y24.length : Int))) then
      Option.bind (at? y6 s13_3) fun x28 =>
      Option.bind (at? y6 s13_3) fun x29 =>
      Option.bind (at? y6 a1) fun x30 =>
      Option.bind (if (!(x29 == x30)) = true then at? y6 s13_3 else some default) fun x31 =>
      Option.bind (if (!(x29 == x30)) = true then at? y6 a2 else some default) fun x32 =>
      Option.bind (α := Int) (
        if (x29 == x30) || (x31 == x32) then
          Option.bind (at? y6 a1) fun x34 =>
          Option.bind (at? y6 a2) fun x35 =>
          some (min x34 x35)
        else
          some x28
      ) fun z33 =>
      Option.bind (at? y24 s13_3) fun x36 =>
      if x36 != z33 then
        some (.inl false)
      else
        narthexlaw03_GraphParts_L3 N a1 a2 y6 y24 n3 (w64 (s13_3 + 1))
    else
      some (.inr (()))
def narthexlaw03_GraphParts (N : Nat) (a0 : TGraph) (a1 : Int) (a2 : Int) : Option (Bool) :=
  Option.bind (narthexlaw03_awake N) fun y1 =>
  Option.bind (if (!((!y1) || (decide ((a0.Edges.length : Int) > 60)))) = true then narthexlaw03_Own N a0 else some default) fun y2 =>
  Option.bind (if (!((!y1) || (decide ((a0.Edges.length : Int) > 60)))) = true then graph_Check N y2 else some default) fun y3 =>
  if ((!y1) || (decide ((a0.Edges.length : Int) > 60))) || (y3 != 0) then
    Option.bind (narthexlaw03_awake N) fun y4 =>
    some y4
  else
    Option.bind (narthexlaw03_Own N a0) fun y5 =>
    Option.bind (graph_Parts N y5) fun y6 =>
    if (y6.length : Int) != a0.N then
      some false
    else
      Option.bind (α := Bool ⊕ Unit) (
        narthexlaw03_GraphParts_L1 N y6 N 0
      ) fun z7 =>
      match z7 with
      | .inl r8 =>
        some r8
      | .inr z9 =>
        Option.bind (α := Bool ⊕ Unit) (
          narthexlaw03_GraphParts_L2 N a0 y6 N 0
        ) fun z15 =>
        match z15 with
        | .inl r16 =>
          some r16
        | .inr z17 =>
          Option.bind (narthexlaw03_Own N a0) fun y22 =>
          Option.bind (graph_Add N y22 a1 a2) fun y23 =>
          if y23.2 != 0 then
            some true
          else
            Option.bind (graph_Parts N y23.1) fun y24 =>
            Option.bind (α := Bool ⊕ Unit) (
              narthexlaw03_GraphParts_L3 N a1 a2 y6 y24 N 0
            ) fun z25 =>
            match z25 with
            | .inl r26 =>
              some r26
            | .inr z27 =>
              some ((y24.length : Int) == (y6.length : Int))
-- narthex/narthexlaw03.GraphOrder
def narthexlaw03_GraphOrder (N : Nat) (a0 : TGraph) (a1 : Int) (a2 : Int) (a3 : Int) (a4 : Int) : Option (Bool) :=
  Option.bind (narthexlaw03_awake N) fun y1 =>
  if (!y1) || (decide ((a0.Edges.length : Int) > 60)) then
    Option.bind (narthexlaw03_awake N) fun y2 =>
    some y2
  else
    Option.bind (narthexlaw03_Own N a0) fun y3 =>
    Option.bind (graph_Add N y3 a1 a2) fun y4 =>
    Option.bind (narthexlaw03_Own N y4.1) fun y5 =>
    Option.bind (graph_Add N y5 a3 a4) fun y6 =>
    Option.bind (narthexlaw03_Own N a0) fun y7 =>
    Option.bind (graph_Add N y7 a3 a4) fun y8 =>
    Option.bind (narthexlaw03_Own N y8.1) fun y9 =>
    Option.bind (graph_Add N y9 a1 a2) fun y10 =>
    if (y4.2 != 0) || (y6.2 != 0) then
      some ((y8.2 != 0) || (y10.2 != 0))
    else
      Option.bind (if ((y8.2 == 0) && (y10.2 == 0)) = true then graph_Same N y6.1 y10.1 else some default) fun y11 =>
      some ((((y8.2 == 0) && (y10.2 == 0)) && y11) && ((y6.1.Edges.length : Int) == (w64 ((a0.Edges.length : Int) + 2))))
-- narthex/set.Valid
def set_Valid_L1 (N : Nat) (a0 : List Int) : Nat → Int → Option (Bool ⊕ Unit)
  | 0, _ => none
  | n1 + 1, s6_1 =>
    if decide (s6_1 < (a0.length : Int)) then
      Option.bind (if (decide (s6_1 > 0)) = true then at? a0 (w64 (s6_1 - 1)) else some default) fun x4 =>
      Option.bind (if (decide (s6_1 > 0)) = true then at? a0 s6_1 else some default) fun x5 =>
      if (decide (s6_1 > 0)) && (decide (x4 ≥ x5)) then
        some (.inl false)
      else
        set_Valid_L1 N a0 n1 (w64 (s6_1 + 1))
    else
      some (.inr (()))
def set_Valid (N : Nat) (a0 : List Int) : Option (Bool) :=
  Option.bind (α := Bool ⊕ Unit) (
    set_Valid_L1 N a0 N 0
  ) fun z1 =>
  match z1 with
  | .inl r2 =>
    some r2
  | .inr z3 =>
    some true
-- slices.Index[[]int,int]
def slices_Index_int_L1 (N : Nat) (a0 : List Int) (a1 : Int) : Nat → Int → Option (Int ⊕ Unit)
  | 0, _ => none
  | n1 + 1, s8_1 =>
    if decide (s8_1 < (a0.length : Int)) then
      Option.bind (at? a0 s8_1) fun x4 =>
      if a1 == x4 then
        some (.inl s8_1)
      else
        slices_Index_int_L1 N a0 a1 n1 (w64 (s8_1 + 1))
    else
      some (.inr (()))
def slices_Index_int (N : Nat) (a0 : List Int) (a1 : Int) : Option (Int) :=
  Option.bind (α := Int ⊕ Unit) (
    slices_Index_int_L1 N a0 a1 N 0
  ) fun z1 =>
  match z1 with
  | .inl r2 =>
    some r2
  | .inr z3 =>
    some (-1)
-- slices.Contains[[]int,int]
def slices_Contains_int (N : Nat) (a0 : List Int) (a1 : Int) : Option (Bool) :=
  Option.bind (slices_Index_int N a0 a1) fun y1 =>
  some (decide (y1 ≥ 0))
-- narthex/set.Has
def set_Has (N : Nat) (a0 : List Int) (a1 : Int) : Option (Bool) :=
  Option.bind (slices_Contains_int N a0 a1) fun y1 =>
  some y1
-- narthex/narthexlaw03.GraphNear
def narthexlaw03_GraphNear (N : Nat) (a0 : TGraph) (a1 : Int) (a2 : Int) : Option (Bool) :=
  Option.bind (narthexlaw03_awake N) fun y1 =>
  Option.bind (if (!((!y1) || (decide ((a0.Edges.length : Int) > 60)))) = true then narthexlaw03_Own N a0 else some default) fun y2 =>
  Option.bind (if (!((!y1) || (decide ((a0.Edges.length : Int) > 60)))) = true then graph_Check N y2 else some default) fun y3 =>
  if ((!y1) || (decide ((a0.Edges.length : Int) > 60))) || (y3 != 0) then
    Option.bind (narthexlaw03_awake N) fun y4 =>
    some y4
  else
    Option.bind (narthexlaw03_Own N a0) fun y5 =>
    Option.bind (graph_Near N y5 a1) fun y6 =>
    Option.bind (narthexlaw03_Own N a0) fun y7 =>
    Option.bind (graph_Near N y7 a2) fun y8 =>
    Option.bind (set_Valid N y6) fun y9 =>
    Option.bind (if y9 = true then set_Has N y6 a2 else some default) fun y10 =>
    Option.bind (if y9 = true then set_Has N y8 a1 else some default) fun y11 =>
    Option.bind (if (y9 && (y10 == y11)) = true then set_Has N y6 a2 else some default) fun y12 =>
    Option.bind (if (y9 && (y10 == y11)) = true then narthexlaw03_Own N a0 else some default) fun y13 =>
    Option.bind (if (y9 && (y10 == y11)) = true then graph_Has N y13 a1 a2 else some default) fun y14 =>
    Option.bind (if ((y9 && (y10 == y11)) && (y12 == y14)) = true then set_Has N y6 a1 else some default) fun y15 =>
    some (((y9 && (y10 == y11)) && (y12 == y14)) && (!y15))
end Go.Proofs.Ytdhhkpjbfkbcjaa
