/- The rows of data stay what they are. -/
import Derived.Test.YtlbopfkhnebegaaMod
import Derived.Test.YtlbopfkhnebegaaFac
namespace Go.Proofs.Ytlbopfkhnebegaa
open Go Go.Nx
set_option linter.unusedVariables false
set_option linter.unusedSimpArgs false
set_option maxRecDepth 8000
theorem h_I (x : Int) : hfAll (eI x) = true := by simp [eI, hfAll, hfL]
theorem ok_eI {p : Leaf → Bool} [h : Okp p] (x : Int) : (eI x).all p = true := by simp [eI, h.int, h.bool, h.slv]
theorem okR_eI {p : Leaf → Bool} [h : Okp p] (xs : List Int) : ((xs.map eI).all fun r => r.all p) = true := okRows ok_eI xs
theorem fx_eI {g : Leaf → Leaf} [h : Fix g] (x : Int) : (eI x).map g = eI x := by simp [eI, h.int, h.bool, h.slv]
theorem fxR_eI {g : Leaf → Leaf} [h : Fix g] (xs : List Int) : ((xs.map eI).map fun r => r.map g) = xs.map eI := fixRows fx_eI xs
theorem h_L_I (x : List Int) : hfAll (eL_I x) = true := by simp [eL_I, hfAll, hfL, hfRows_map h_I]
theorem ok_eL_I {p : Leaf → Bool} [h : Okp p] (x : List Int) : (eL_I x).all p = true := by simp [eL_I, h.int, h.bool, h.slv, hfRows_map h_I]
theorem okR_eL_I {p : Leaf → Bool} [h : Okp p] (xs : List (List Int)) : ((xs.map eL_I).all fun r => r.all p) = true := okRows ok_eL_I xs
theorem fx_eL_I {g : Leaf → Leaf} [h : Fix g] (x : List Int) : (eL_I x).map g = eL_I x := by simp [eL_I, h.int, h.bool, h.slv]
theorem fxR_eL_I {g : Leaf → Leaf} [h : Fix g] (xs : List (List Int)) : ((xs.map eL_I).map fun r => r.map g) = xs.map eL_I := fixRows fx_eL_I xs
end Go.Proofs.Ytlbopfkhnebegaa
