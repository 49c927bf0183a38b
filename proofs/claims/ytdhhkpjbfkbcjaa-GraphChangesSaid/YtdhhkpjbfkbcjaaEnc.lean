/- The rows of data stay what they are. -/
import Derived.Test.YtdhhkpjbfkbcjaaMod
import Derived.Test.YtdhhkpjbfkbcjaaFac
namespace Go.Proofs.Ytdhhkpjbfkbcjaa
open Go Go.Nx
set_option linter.unusedVariables false
set_option linter.unusedSimpArgs false
set_option linter.unnecessarySimpa false
set_option maxRecDepth 8000
theorem h_Edge (x : TEdge) : hfAll (eEdge x) = true := by simp [eEdge, hfAll, hfL]
theorem hm_Edge (xs : List TEdge) : hfRows (xs.map eEdge) = true := hfRows_map h_Edge xs
theorem ok_eEdge {p : Leaf → Bool} [h : Okp p] (x : TEdge) : (eEdge x).all p = true := by simp [eEdge, h.int, h.bool, h.slv]
theorem okR_eEdge {p : Leaf → Bool} [h : Okp p] (xs : List TEdge) : ((xs.map eEdge).all fun r => r.all p) = true := okRows ok_eEdge xs
theorem fx_eEdge {g : Leaf → Leaf} [h : Fix g] (x : TEdge) : (eEdge x).map g = eEdge x := by simp [eEdge, h.int, h.bool, h.slv]
theorem fxR_eEdge {g : Leaf → Leaf} [h : Fix g] (xs : List TEdge) : ((xs.map eEdge).map fun r => r.map g) = xs.map eEdge := fixRows fx_eEdge xs
theorem h_I (x : Int) : hfAll (eI x) = true := by simp [eI, hfAll, hfL]
theorem hm_I (xs : List Int) : hfRows (xs.map eI) = true := hfRows_map h_I xs
theorem ok_eI {p : Leaf → Bool} [h : Okp p] (x : Int) : (eI x).all p = true := by simp [eI, h.int, h.bool, h.slv]
theorem okR_eI {p : Leaf → Bool} [h : Okp p] (xs : List Int) : ((xs.map eI).all fun r => r.all p) = true := okRows ok_eI xs
theorem fx_eI {g : Leaf → Leaf} [h : Fix g] (x : Int) : (eI x).map g = eI x := by simp [eI, h.int, h.bool, h.slv]
theorem fxR_eI {g : Leaf → Leaf} [h : Fix g] (xs : List Int) : ((xs.map eI).map fun r => r.map g) = xs.map eI := fixRows fx_eI xs
theorem h_Graph (x : TGraph) : hfAll (eGraph x) = true := by simp [eGraph, hfAll, hfL, hfRows_map h_Edge]
theorem hm_Graph (xs : List TGraph) : hfRows (xs.map eGraph) = true := hfRows_map h_Graph xs
theorem ok_eGraph {p : Leaf → Bool} [h : Okp p] (x : TGraph) : (eGraph x).all p = true := by simp [eGraph, h.int, h.bool, h.slv, hfRows_map h_Edge]
theorem okR_eGraph {p : Leaf → Bool} [h : Okp p] (xs : List TGraph) : ((xs.map eGraph).all fun r => r.all p) = true := okRows ok_eGraph xs
theorem fx_eGraph {g : Leaf → Leaf} [h : Fix g] (x : TGraph) : (eGraph x).map g = eGraph x := by simp [eGraph, h.int, h.bool, h.slv]
theorem fxR_eGraph {g : Leaf → Leaf} [h : Fix g] (xs : List TGraph) : ((xs.map eGraph).map fun r => r.map g) = xs.map eGraph := fixRows fx_eGraph xs
theorem q_Edge (x y : TEdge) : eqCells [.int, .int] (eEdge x) (eEdge y) = some (decide (x = y)) := by
  rcases x with ⟨v1, v2⟩
  rcases y with ⟨v3, v4⟩
  simp [eqCells, eq1, eEdge]
  rw [Bool.eq_iff_iff]
  simp [and_assoc]
end Go.Proofs.Ytdhhkpjbfkbcjaa
