/- What the tables of the translation say. -/
import Derived.Test.YtdhhkpjbfkbcjaaFwE
import Derived.Test.YtdhhkpjbfkbcjaaProg
import Derived.KernelRfl
namespace Go.Proofs.Ytdhhkpjbfkbcjaa
open Go Go.Nx
set_option linter.unusedVariables false
set_option linter.unusedSimpArgs false
set_option linter.unnecessarySimpa false
set_option maxRecDepth 8000
theorem cm24 : cm Try.prog 24 = some ([I 0, nilS], [(0, 1), (1, 1)]) := by kernel_rfl
theorem cm37 : cm Try.prog 37 = some ([I 0, I 0], [(0, 1), (1, 1)]) := by kernel_rfl
theorem en10 : enters Try.prog 10 = true := by kernel_rfl
theorem en11 : enters Try.prog 11 = true := by kernel_rfl
theorem en12 : enters Try.prog 12 = true := by kernel_rfl
theorem en13 : enters Try.prog 13 = true := by kernel_rfl
theorem en14 : enters Try.prog 14 = true := by kernel_rfl
theorem en15 : enters Try.prog 15 = true := by kernel_rfl
theorem en16 : enters Try.prog 16 = true := by kernel_rfl
theorem en17 : enters Try.prog 17 = true := by kernel_rfl
theorem en18 : enters Try.prog 18 = true := by kernel_rfl
theorem en19 : enters Try.prog 19 = true := by kernel_rfl
theorem en20 : enters Try.prog 20 = true := by kernel_rfl
theorem en21 : enters Try.prog 21 = true := by kernel_rfl
theorem en22 : enters Try.prog 22 = true := by kernel_rfl
theorem en23 : enters Try.prog 23 = true := by kernel_rfl
theorem en24 : enters Try.prog 24 = true := by kernel_rfl
theorem en25 : enters Try.prog 25 = true := by kernel_rfl
theorem en26 : enters Try.prog 26 = true := by kernel_rfl
theorem en27 : enters Try.prog 27 = true := by kernel_rfl
theorem en28 : enters Try.prog 28 = true := by kernel_rfl
theorem en29 : enters Try.prog 29 = true := by kernel_rfl
theorem en3 : enters Try.prog 3 = true := by kernel_rfl
theorem en30 : enters Try.prog 30 = true := by kernel_rfl
theorem en31 : enters Try.prog 31 = true := by kernel_rfl
theorem en32 : enters Try.prog 32 = true := by kernel_rfl
theorem en33 : enters Try.prog 33 = true := by kernel_rfl
theorem en34 : enters Try.prog 34 = true := by kernel_rfl
theorem en35 : enters Try.prog 35 = true := by kernel_rfl
theorem en36 : enters Try.prog 36 = true := by kernel_rfl
theorem en37 : enters Try.prog 37 = true := by kernel_rfl
theorem en38 : enters Try.prog 38 = true := by kernel_rfl
theorem en39 : enters Try.prog 39 = true := by kernel_rfl
theorem en4 : enters Try.prog 4 = true := by kernel_rfl
theorem en40 : enters Try.prog 40 = true := by kernel_rfl
theorem en41 : enters Try.prog 41 = true := by kernel_rfl
theorem en42 : enters Try.prog 42 = true := by kernel_rfl
theorem en45 : enters Try.prog 45 = true := by kernel_rfl
theorem en46 : enters Try.prog 46 = true := by kernel_rfl
theorem en47 : enters Try.prog 47 = true := by kernel_rfl
theorem en48 : enters Try.prog 48 = true := by kernel_rfl
theorem en49 : enters Try.prog 49 = true := by kernel_rfl
theorem en5 : enters Try.prog 5 = true := by kernel_rfl
theorem en50 : enters Try.prog 50 = true := by kernel_rfl
theorem en51 : enters Try.prog 51 = true := by kernel_rfl
theorem en6 : enters Try.prog 6 = true := by kernel_rfl
theorem en7 : enters Try.prog 7 = true := by kernel_rfl
theorem en8 : enters Try.prog 8 = true := by kernel_rfl
theorem en9 : enters Try.prog 9 = true := by kernel_rfl
theorem eqs37 : eqs Try.prog 37 = some [.int, .int] := by kernel_rfl
theorem fo24_0 : fo Try.prog 24 0 = some (0, 1, false) := by kernel_rfl
theorem fo24_1 : fo Try.prog 24 1 = some (1, 1, false) := by kernel_rfl
theorem fo37_0 : fo Try.prog 37 0 = some (0, 1, false) := by kernel_rfl
theorem fo37_1 : fo Try.prog 37 1 = some (1, 1, false) := by kernel_rfl
theorem ik3 : ik Try.prog 3 = some .i64 := by kernel_rfl
theorem ik58 : ik Try.prog 58 = some .u64 := by kernel_rfl
theorem se22 : se Try.prog 22 = some (37, 2, 16, [I 0, I 0]) := by kernel_rfl
theorem se34 : se Try.prog 34 = some (3, 1, 8, [I 0]) := by kernel_rfl
theorem tk22 : tk Try.prog 22 = some (false, 1) := by kernel_rfl
theorem tk24 : tk Try.prog 24 = some (true, 2) := by kernel_rfl
theorem tk3 : tk Try.prog 3 = some (false, 1) := by kernel_rfl
theorem tk37 : tk Try.prog 37 = some (true, 2) := by kernel_rfl
theorem us22 : Try.prog.underlying 22 = some (.slice 37) := by kernel_rfl
theorem us34 : Try.prog.underlying 34 = some (.slice 3) := by kernel_rfl
theorem zc24 : zc Try.prog 24 = some [I 0, nilS] := by kernel_rfl
theorem zc37 : zc Try.prog 37 = some [I 0, I 0] := by kernel_rfl
theorem mixed : Try.prog.follows .mixedOrders = true := by kernel_rfl
end Go.Proofs.Ytdhhkpjbfkbcjaa
