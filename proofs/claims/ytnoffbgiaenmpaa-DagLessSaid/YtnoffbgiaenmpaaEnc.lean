/- The rows of data stay what they are. -/
import Derived.Test.YtnoffbgiaenmpaaMod
import Derived.Test.YtnoffbgiaenmpaaFac
namespace Go.Proofs.Ytnoffbgiaenmpaa
open Go Go.Nx
set_option linter.unusedVariables false
set_option linter.unusedSimpArgs false
set_option linter.unnecessarySimpa false
set_option maxRecDepth 8000
theorem h_Arc (x : TArc) : hfAll (eArc x) = true := by simp [eArc, hfAll, hfL]
theorem hm_Arc (xs : List TArc) : hfRows (xs.map eArc) = true := hfRows_map h_Arc xs
theorem ok_eArc {p : Leaf → Bool} [h : Okp p] (x : TArc) : (eArc x).all p = true := by simp [eArc, h.int, h.bool, h.slv]
theorem okR_eArc {p : Leaf → Bool} [h : Okp p] (xs : List TArc) : ((xs.map eArc).all fun r => r.all p) = true := okRows ok_eArc xs
theorem fx_eArc {g : Leaf → Leaf} [h : Fix g] (x : TArc) : (eArc x).map g = eArc x := by simp [eArc, h.int, h.bool, h.slv]
theorem fxR_eArc {g : Leaf → Leaf} [h : Fix g] (xs : List TArc) : ((xs.map eArc).map fun r => r.map g) = xs.map eArc := fixRows fx_eArc xs
theorem h_I (x : Int) : hfAll (eI x) = true := by simp [eI, hfAll, hfL]
theorem hm_I (xs : List Int) : hfRows (xs.map eI) = true := hfRows_map h_I xs
theorem ok_eI {p : Leaf → Bool} [h : Okp p] (x : Int) : (eI x).all p = true := by simp [eI, h.int, h.bool, h.slv]
theorem okR_eI {p : Leaf → Bool} [h : Okp p] (xs : List Int) : ((xs.map eI).all fun r => r.all p) = true := okRows ok_eI xs
theorem fx_eI {g : Leaf → Leaf} [h : Fix g] (x : Int) : (eI x).map g = eI x := by simp [eI, h.int, h.bool, h.slv]
theorem fxR_eI {g : Leaf → Leaf} [h : Fix g] (xs : List Int) : ((xs.map eI).map fun r => r.map g) = xs.map eI := fixRows fx_eI xs
theorem h_B (x : Bool) : hfAll (eB x) = true := by simp [eB, hfAll, hfL]
theorem hm_B (xs : List Bool) : hfRows (xs.map eB) = true := hfRows_map h_B xs
theorem ok_eB {p : Leaf → Bool} [h : Okp p] (x : Bool) : (eB x).all p = true := by simp [eB, h.int, h.bool, h.slv]
theorem okR_eB {p : Leaf → Bool} [h : Okp p] (xs : List Bool) : ((xs.map eB).all fun r => r.all p) = true := okRows ok_eB xs
theorem fx_eB {g : Leaf → Leaf} [h : Fix g] (x : Bool) : (eB x).map g = eB x := by simp [eB, h.int, h.bool, h.slv]
theorem fxR_eB {g : Leaf → Leaf} [h : Fix g] (xs : List Bool) : ((xs.map eB).map fun r => r.map g) = xs.map eB := fixRows fx_eB xs
theorem h_L_I (x : List Int) : hfAll (eL_I x) = true := by simp [eL_I, hfAll, hfL, hfRows_map h_I]
theorem hm_L_I (xs : List (List Int)) : hfRows (xs.map eL_I) = true := hfRows_map h_L_I xs
theorem ok_eL_I {p : Leaf → Bool} [h : Okp p] (x : List Int) : (eL_I x).all p = true := by simp [eL_I, h.int, h.bool, h.slv, hfRows_map h_I]
theorem okR_eL_I {p : Leaf → Bool} [h : Okp p] (xs : List (List Int)) : ((xs.map eL_I).all fun r => r.all p) = true := okRows ok_eL_I xs
theorem fx_eL_I {g : Leaf → Leaf} [h : Fix g] (x : List Int) : (eL_I x).map g = eL_I x := by simp [eL_I, h.int, h.bool, h.slv]
theorem fxR_eL_I {g : Leaf → Leaf} [h : Fix g] (xs : List (List Int)) : ((xs.map eL_I).map fun r => r.map g) = xs.map eL_I := fixRows fx_eL_I xs
theorem q_Arc (x y : TArc) : eqCells [.int, .int] (eArc x) (eArc y) = some (decide (x = y)) := by
  rcases x with ⟨v1, v2⟩
  rcases y with ⟨v3, v4⟩
  simp [eqCells, eq1, eArc]
  rw [Bool.eq_iff_iff]
  simp [and_assoc]
end Go.Proofs.Ytnoffbgiaenmpaa
