/- The rows of data stay what they are. -/
import Derived.Test.YthlocamkdmaflaaMod
import Derived.Test.YthlocamkdmaflaaFac
namespace Go.Proofs.Ythlocamkdmaflaa
open Go Go.Nx
set_option linter.unusedVariables false
set_option linter.unusedSimpArgs false
set_option linter.unnecessarySimpa false
set_option maxRecDepth 8000
theorem h_I (x : Int) : hfAll (eI x) = true := by simp [eI, hfAll, hfL]
theorem hm_I (xs : List Int) : hfRows (xs.map eI) = true := hfRows_map h_I xs
theorem ok_eI {p : Leaf → Bool} [h : Okp p] (x : Int) : (eI x).all p = true := by simp [eI, h.int, h.bool, h.slv]
theorem okR_eI {p : Leaf → Bool} [h : Okp p] (xs : List Int) : ((xs.map eI).all fun r => r.all p) = true := okRows ok_eI xs
theorem fx_eI {g : Leaf → Leaf} [h : Fix g] (x : Int) : (eI x).map g = eI x := by simp [eI, h.int, h.bool, h.slv]
theorem fxR_eI {g : Leaf → Leaf} [h : Fix g] (xs : List Int) : ((xs.map eI).map fun r => r.map g) = xs.map eI := fixRows fx_eI xs
theorem h_Sess (x : TSess) : hfAll (eSess x) = true := by simp [eSess, hfAll, hfL, hfRows_map h_I]
theorem hm_Sess (xs : List TSess) : hfRows (xs.map eSess) = true := hfRows_map h_Sess xs
theorem ok_eSess {p : Leaf → Bool} [h : Okp p] (x : TSess) : (eSess x).all p = true := by simp [eSess, h.int, h.bool, h.slv, hfRows_map h_I]
theorem okR_eSess {p : Leaf → Bool} [h : Okp p] (xs : List TSess) : ((xs.map eSess).all fun r => r.all p) = true := okRows ok_eSess xs
theorem fx_eSess {g : Leaf → Leaf} [h : Fix g] (x : TSess) : (eSess x).map g = eSess x := by simp [eSess, h.int, h.bool, h.slv]
theorem fxR_eSess {g : Leaf → Leaf} [h : Fix g] (xs : List TSess) : ((xs.map eSess).map fun r => r.map g) = xs.map eSess := fixRows fx_eSess xs
theorem h_Book (x : TBook) : hfAll (eBook x) = true := by simp [eBook, hfAll, hfL, hfRows_map h_Sess]
theorem hm_Book (xs : List TBook) : hfRows (xs.map eBook) = true := hfRows_map h_Book xs
theorem ok_eBook {p : Leaf → Bool} [h : Okp p] (x : TBook) : (eBook x).all p = true := by simp [eBook, h.int, h.bool, h.slv, hfRows_map h_Sess]
theorem okR_eBook {p : Leaf → Bool} [h : Okp p] (xs : List TBook) : ((xs.map eBook).all fun r => r.all p) = true := okRows ok_eBook xs
theorem fx_eBook {g : Leaf → Leaf} [h : Fix g] (x : TBook) : (eBook x).map g = eBook x := by simp [eBook, h.int, h.bool, h.slv]
theorem fxR_eBook {g : Leaf → Leaf} [h : Fix g] (xs : List TBook) : ((xs.map eBook).map fun r => r.map g) = xs.map eBook := fixRows fx_eBook xs
theorem h_narthexlaw17_Act (x : Tnarthexlaw17_Act) : hfAll (enarthexlaw17_Act x) = true := by simp [enarthexlaw17_Act, hfAll, hfL, hfRows_map h_I]
theorem hm_narthexlaw17_Act (xs : List Tnarthexlaw17_Act) : hfRows (xs.map enarthexlaw17_Act) = true := hfRows_map h_narthexlaw17_Act xs
theorem ok_enarthexlaw17_Act {p : Leaf → Bool} [h : Okp p] (x : Tnarthexlaw17_Act) : (enarthexlaw17_Act x).all p = true := by simp [enarthexlaw17_Act, h.int, h.bool, h.slv, hfRows_map h_I]
theorem okR_enarthexlaw17_Act {p : Leaf → Bool} [h : Okp p] (xs : List Tnarthexlaw17_Act) : ((xs.map enarthexlaw17_Act).all fun r => r.all p) = true := okRows ok_enarthexlaw17_Act xs
theorem fx_enarthexlaw17_Act {g : Leaf → Leaf} [h : Fix g] (x : Tnarthexlaw17_Act) : (enarthexlaw17_Act x).map g = enarthexlaw17_Act x := by simp [enarthexlaw17_Act, h.int, h.bool, h.slv]
theorem fxR_enarthexlaw17_Act {g : Leaf → Leaf} [h : Fix g] (xs : List Tnarthexlaw17_Act) : ((xs.map enarthexlaw17_Act).map fun r => r.map g) = xs.map enarthexlaw17_Act := fixRows fx_enarthexlaw17_Act xs
end Go.Proofs.Ythlocamkdmaflaa
