/- What the tables of the translation say. -/
import Derived.Test.YtcnbkfgajnlbpaaNyL
import Derived.Test.YtcnbkfgajnlbpaaProg
import Derived.KernelRfl
namespace Go.Proofs.Ytcnbkfgajnlbpaa
open Go Go.Nx
set_option linter.unusedVariables false
set_option linter.unusedSimpArgs false
set_option maxRecDepth 8000
theorem cm25 : cm Try.prog 25 = some ([I 0, I 0, nilS], [(0, 1), (1, 1), (2, 1)]) := by kernel_rfl
theorem cm40 : cm Try.prog 40 = some ([I 0, I 0, I 0], [(0, 1), (1, 1), (2, 1)]) := by kernel_rfl
theorem cm47 : cm Try.prog 47 = some ([I 0, I 0, I 0, B false, B false, B false, B false, B false], [(0, 1), (1, 1), (2, 1), (3, 1), (4, 1), (5, 1), (6, 1), (7, 1)]) := by kernel_rfl
theorem cm49 : cm Try.prog 49 = some ([I 0, I 0, I 0, I 0, I 0], [(0, 1), (1, 1), (2, 3)]) := by kernel_rfl
theorem en10 : enters Try.prog 10 = true := by kernel_rfl
theorem en11 : enters Try.prog 11 = true := by kernel_rfl
theorem en12 : enters Try.prog 12 = true := by kernel_rfl
theorem en13 : enters Try.prog 13 = true := by kernel_rfl
theorem en14 : enters Try.prog 14 = true := by kernel_rfl
theorem en15 : enters Try.prog 15 = true := by kernel_rfl
theorem en16 : enters Try.prog 16 = true := by kernel_rfl
theorem en17 : enters Try.prog 17 = true := by kernel_rfl
theorem en18 : enters Try.prog 18 = true := by kernel_rfl
theorem en19 : enters Try.prog 19 = true := by kernel_rfl
theorem en20 : enters Try.prog 20 = true := by kernel_rfl
theorem en21 : enters Try.prog 21 = true := by kernel_rfl
theorem en22 : enters Try.prog 22 = true := by kernel_rfl
theorem en23 : enters Try.prog 23 = true := by kernel_rfl
theorem en24 : enters Try.prog 24 = true := by kernel_rfl
theorem en25 : enters Try.prog 25 = true := by kernel_rfl
theorem en26 : enters Try.prog 26 = true := by kernel_rfl
theorem en27 : enters Try.prog 27 = true := by kernel_rfl
theorem en28 : enters Try.prog 28 = true := by kernel_rfl
theorem en29 : enters Try.prog 29 = true := by kernel_rfl
theorem en3 : enters Try.prog 3 = true := by kernel_rfl
theorem en30 : enters Try.prog 30 = true := by kernel_rfl
theorem en31 : enters Try.prog 31 = true := by kernel_rfl
theorem en32 : enters Try.prog 32 = true := by kernel_rfl
theorem en33 : enters Try.prog 33 = true := by kernel_rfl
theorem en34 : enters Try.prog 34 = true := by kernel_rfl
theorem en4 : enters Try.prog 4 = true := by kernel_rfl
theorem en5 : enters Try.prog 5 = true := by kernel_rfl
theorem en6 : enters Try.prog 6 = true := by kernel_rfl
theorem en7 : enters Try.prog 7 = true := by kernel_rfl
theorem en8 : enters Try.prog 8 = true := by kernel_rfl
theorem en9 : enters Try.prog 9 = true := by kernel_rfl
theorem eqs47 : eqs Try.prog 47 = some [.int, .int, .int, .bool, .bool, .bool, .bool, .bool] := by kernel_rfl
theorem eqs49 : eqs Try.prog 49 = some [.int, .int, .int, .int, .int] := by kernel_rfl
theorem fo25_0 : fo Try.prog 25 0 = some (0, 1, false) := by kernel_rfl
theorem fo25_1 : fo Try.prog 25 1 = some (1, 1, false) := by kernel_rfl
theorem fo25_2 : fo Try.prog 25 2 = some (2, 1, false) := by kernel_rfl
theorem fo40_0 : fo Try.prog 40 0 = some (0, 1, false) := by kernel_rfl
theorem fo40_1 : fo Try.prog 40 1 = some (1, 1, false) := by kernel_rfl
theorem fo40_2 : fo Try.prog 40 2 = some (2, 1, false) := by kernel_rfl
theorem fo47_0 : fo Try.prog 47 0 = some (0, 1, false) := by kernel_rfl
theorem fo47_1 : fo Try.prog 47 1 = some (1, 1, false) := by kernel_rfl
theorem fo47_2 : fo Try.prog 47 2 = some (2, 1, false) := by kernel_rfl
theorem fo47_3 : fo Try.prog 47 3 = some (3, 1, false) := by kernel_rfl
theorem fo47_4 : fo Try.prog 47 4 = some (4, 1, false) := by kernel_rfl
theorem fo47_5 : fo Try.prog 47 5 = some (5, 1, false) := by kernel_rfl
theorem fo47_6 : fo Try.prog 47 6 = some (6, 1, false) := by kernel_rfl
theorem fo47_7 : fo Try.prog 47 7 = some (7, 1, false) := by kernel_rfl
theorem fo49_1 : fo Try.prog 49 1 = some (1, 1, false) := by kernel_rfl
theorem fo49_2 : fo Try.prog 49 2 = some (2, 3, true) := by kernel_rfl
theorem se23 : se Try.prog 23 = some (47, 8, 32, [I 0, I 0, I 0, B false, B false, B false, B false, B false]) := by kernel_rfl
theorem se27 : se Try.prog 27 = some (49, 5, 40, [I 0, I 0, I 0, I 0, I 0]) := by kernel_rfl
theorem tk22 : tk Try.prog 22 = some (false, 1) := by kernel_rfl
theorem tk23 : tk Try.prog 23 = some (false, 1) := by kernel_rfl
theorem tk25 : tk Try.prog 25 = some (true, 3) := by kernel_rfl
theorem tk27 : tk Try.prog 27 = some (false, 1) := by kernel_rfl
theorem tk3 : tk Try.prog 3 = some (false, 1) := by kernel_rfl
theorem tk38 : tk Try.prog 38 = some (false, 1) := by kernel_rfl
theorem tk4 : tk Try.prog 4 = some (false, 1) := by kernel_rfl
theorem tk40 : tk Try.prog 40 = some (true, 3) := by kernel_rfl
theorem tk45 : tk Try.prog 45 = some (false, 1) := by kernel_rfl
theorem tk47 : tk Try.prog 47 = some (true, 8) := by kernel_rfl
theorem tk49 : tk Try.prog 49 = some (true, 5) := by kernel_rfl
theorem tk54 : tk Try.prog 54 = some (false, 1) := by kernel_rfl
theorem us23 : Try.prog.underlying 23 = some (.slice 47) := by kernel_rfl
theorem us27 : Try.prog.underlying 27 = some (.slice 49) := by kernel_rfl
theorem zc25 : zc Try.prog 25 = some [I 0, I 0, nilS] := by kernel_rfl
theorem zc27 : zc Try.prog 27 = some [nilS] := by kernel_rfl
theorem zc3 : zc Try.prog 3 = some [I 0] := by kernel_rfl
theorem zc47 : zc Try.prog 47 = some [I 0, I 0, I 0, B false, B false, B false, B false, B false] := by kernel_rfl
theorem zc49 : zc Try.prog 49 = some [I 0, I 0, I 0, I 0, I 0] := by kernel_rfl
theorem zc54 : zc Try.prog 54 = some [.v (.pointer none)] := by kernel_rfl
theorem mixed : Try.prog.follows .mixedOrders = true := by kernel_rfl
end Go.Proofs.Ytcnbkfgajnlbpaa
