/- The rows of data stay what they are. -/
import Derived.Test.YtcdjfellhgdgoaaMod
import Derived.Test.YtcdjfellhgdgoaaFac
namespace Go.Proofs.Ytcdjfellhgdgoaa
open Go Go.Nx
set_option linter.unusedVariables false
set_option linter.unusedSimpArgs false
set_option linter.unnecessarySimpa false
set_option maxRecDepth 8000
theorem h_Side (x : TSide) : hfAll (eSide x) = true := by simp [eSide, hfAll, hfL]
theorem hm_Side (xs : List TSide) : hfRows (xs.map eSide) = true := hfRows_map h_Side xs
theorem ok_eSide {p : Leaf → Bool} [h : Okp p] (x : TSide) : (eSide x).all p = true := by simp [eSide, h.int, h.bool, h.slv]
theorem okR_eSide {p : Leaf → Bool} [h : Okp p] (xs : List TSide) : ((xs.map eSide).all fun r => r.all p) = true := okRows ok_eSide xs
theorem fx_eSide {g : Leaf → Leaf} [h : Fix g] (x : TSide) : (eSide x).map g = eSide x := by simp [eSide, h.int, h.bool, h.slv]
theorem fxR_eSide {g : Leaf → Leaf} [h : Fix g] (xs : List TSide) : ((xs.map eSide).map fun r => r.map g) = xs.map eSide := fixRows fx_eSide xs
theorem h_I (x : Int) : hfAll (eI x) = true := by simp [eI, hfAll, hfL]
theorem hm_I (xs : List Int) : hfRows (xs.map eI) = true := hfRows_map h_I xs
theorem ok_eI {p : Leaf → Bool} [h : Okp p] (x : Int) : (eI x).all p = true := by simp [eI, h.int, h.bool, h.slv]
theorem okR_eI {p : Leaf → Bool} [h : Okp p] (xs : List Int) : ((xs.map eI).all fun r => r.all p) = true := okRows ok_eI xs
theorem fx_eI {g : Leaf → Leaf} [h : Fix g] (x : Int) : (eI x).map g = eI x := by simp [eI, h.int, h.bool, h.slv]
theorem fxR_eI {g : Leaf → Leaf} [h : Fix g] (xs : List Int) : ((xs.map eI).map fun r => r.map g) = xs.map eI := fixRows fx_eI xs
theorem h_Diner (x : TDiner) : hfAll (eDiner x) = true := by simp [eDiner, hfAll, hfL, hfRows_map h_Side]
theorem hm_Diner (xs : List TDiner) : hfRows (xs.map eDiner) = true := hfRows_map h_Diner xs
theorem ok_eDiner {p : Leaf → Bool} [h : Okp p] (x : TDiner) : (eDiner x).all p = true := by simp [eDiner, h.int, h.bool, h.slv, hfRows_map h_Side]
theorem okR_eDiner {p : Leaf → Bool} [h : Okp p] (xs : List TDiner) : ((xs.map eDiner).all fun r => r.all p) = true := okRows ok_eDiner xs
theorem fx_eDiner {g : Leaf → Leaf} [h : Fix g] (x : TDiner) : (eDiner x).map g = eDiner x := by simp [eDiner, h.int, h.bool, h.slv]
theorem fxR_eDiner {g : Leaf → Leaf} [h : Fix g] (xs : List TDiner) : ((xs.map eDiner).map fun r => r.map g) = xs.map eDiner := fixRows fx_eDiner xs
theorem h_Drinker (x : TDrinker) : hfAll (eDrinker x) = true := by simp [eDrinker, hfAll, hfL, hfRows_map h_Side, hfRows_map h_I]
theorem hm_Drinker (xs : List TDrinker) : hfRows (xs.map eDrinker) = true := hfRows_map h_Drinker xs
theorem ok_eDrinker {p : Leaf → Bool} [h : Okp p] (x : TDrinker) : (eDrinker x).all p = true := by simp [eDrinker, h.int, h.bool, h.slv, hfRows_map h_Side, hfRows_map h_I]
theorem okR_eDrinker {p : Leaf → Bool} [h : Okp p] (xs : List TDrinker) : ((xs.map eDrinker).all fun r => r.all p) = true := okRows ok_eDrinker xs
theorem fx_eDrinker {g : Leaf → Leaf} [h : Fix g] (x : TDrinker) : (eDrinker x).map g = eDrinker x := by simp [eDrinker, h.int, h.bool, h.slv]
theorem fxR_eDrinker {g : Leaf → Leaf} [h : Fix g] (xs : List TDrinker) : ((xs.map eDrinker).map fun r => r.map g) = xs.map eDrinker := fixRows fx_eDrinker xs
theorem h_Mail (x : TMail) : hfAll (eMail x) = true := by simp [eMail, hfAll, hfL]
theorem hm_Mail (xs : List TMail) : hfRows (xs.map eMail) = true := hfRows_map h_Mail xs
theorem ok_eMail {p : Leaf → Bool} [h : Okp p] (x : TMail) : (eMail x).all p = true := by simp [eMail, h.int, h.bool, h.slv]
theorem okR_eMail {p : Leaf → Bool} [h : Okp p] (xs : List TMail) : ((xs.map eMail).all fun r => r.all p) = true := okRows ok_eMail xs
theorem fx_eMail {g : Leaf → Leaf} [h : Fix g] (x : TMail) : (eMail x).map g = eMail x := by simp [eMail, h.int, h.bool, h.slv]
theorem fxR_eMail {g : Leaf → Leaf} [h : Fix g] (xs : List TMail) : ((xs.map eMail).map fun r => r.map g) = xs.map eMail := fixRows fx_eMail xs
theorem h_Msg (x : TMsg) : hfAll (eMsg x) = true := by simp [eMsg, hfAll, hfL]
theorem hm_Msg (xs : List TMsg) : hfRows (xs.map eMsg) = true := hfRows_map h_Msg xs
theorem ok_eMsg {p : Leaf → Bool} [h : Okp p] (x : TMsg) : (eMsg x).all p = true := by simp [eMsg, h.int, h.bool, h.slv]
theorem okR_eMsg {p : Leaf → Bool} [h : Okp p] (xs : List TMsg) : ((xs.map eMsg).all fun r => r.all p) = true := okRows ok_eMsg xs
theorem fx_eMsg {g : Leaf → Leaf} [h : Fix g] (x : TMsg) : (eMsg x).map g = eMsg x := by simp [eMsg, h.int, h.bool, h.slv]
theorem fxR_eMsg {g : Leaf → Leaf} [h : Fix g] (xs : List TMsg) : ((xs.map eMsg).map fun r => r.map g) = xs.map eMsg := fixRows fx_eMsg xs
theorem q_Side (x y : TSide) : eqCells [.int, .int, .int, .bool, .bool, .bool, .bool, .bool] (eSide x) (eSide y) = some (decide (x = y)) := by
  rcases x with ⟨v1, v2, v3, v4, v5, v6, v7, v8⟩
  rcases y with ⟨v9, v10, v11, v12, v13, v14, v15, v16⟩
  simp [eqCells, eq1, eSide]
  rw [Bool.eq_iff_iff]
  simp [and_assoc]
theorem q_Mail (x y : TMail) : eqCells [.int, .int, .int, .int, .int] (eMail x) (eMail y) = some (decide (x = y)) := by
  rcases x with ⟨v1, v2, ⟨v3, v4, v5⟩⟩
  rcases y with ⟨v6, v7, ⟨v8, v9, v10⟩⟩
  simp [eqCells, eq1, eMail]
  rw [Bool.eq_iff_iff]
  simp [and_assoc]
end Go.Proofs.Ytcdjfellhgdgoaa
