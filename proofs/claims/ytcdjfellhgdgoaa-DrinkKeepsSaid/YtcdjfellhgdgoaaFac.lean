/- What the tables of the translation say. -/
import Derived.Test.YtcdjfellhgdgoaaFwE
import Derived.Test.YtcdjfellhgdgoaaProg
import Derived.KernelRfl
namespace Go.Proofs.Ytcdjfellhgdgoaa
open Go Go.Nx
set_option linter.unusedVariables false
set_option linter.unusedSimpArgs false
set_option linter.unnecessarySimpa false
set_option maxRecDepth 8000
theorem ar59 : ar Try.prog 59 = some (4, 1, false) := by kernel_rfl
theorem cm25 : cm Try.prog 25 = some ([I 0, I 0, nilS], [(0, 1), (1, 1), (2, 1)]) := by kernel_rfl
theorem cm29 : cm Try.prog 29 = some ([I 0, I 0, nilS, I 0, nilS], [(0, 3), (3, 1), (4, 1)]) := by kernel_rfl
theorem cm44 : cm Try.prog 44 = some ([I 0, I 0, I 0], [(0, 1), (1, 1), (2, 1)]) := by kernel_rfl
theorem cm53 : cm Try.prog 53 = some ([I 0, I 0, I 0, B false, B false, B false, B false, B false], [(0, 1), (1, 1), (2, 1), (3, 1), (4, 1), (5, 1), (6, 1), (7, 1)]) := by kernel_rfl
theorem cm59 : cm Try.prog 59 = some ([B false, B false, B false, B false], [(0, 1), (1, 1), (2, 1), (3, 1)]) := by kernel_rfl
theorem cm61 : cm Try.prog 61 = some ([I 0, I 0, I 0, I 0, I 0], [(0, 1), (1, 1), (2, 3)]) := by kernel_rfl
theorem cm64 : cm Try.prog 64 = some ([I 0, I 0, nilS, I 0, nilS, nilS], [(0, 5), (5, 1)]) := by kernel_rfl
theorem en10 : enters Try.prog 10 = true := by kernel_rfl
theorem en11 : enters Try.prog 11 = true := by kernel_rfl
theorem en12 : enters Try.prog 12 = true := by kernel_rfl
theorem en13 : enters Try.prog 13 = true := by kernel_rfl
theorem en14 : enters Try.prog 14 = true := by kernel_rfl
theorem en15 : enters Try.prog 15 = true := by kernel_rfl
theorem en16 : enters Try.prog 16 = true := by kernel_rfl
theorem en17 : enters Try.prog 17 = true := by kernel_rfl
theorem en18 : enters Try.prog 18 = true := by kernel_rfl
theorem en19 : enters Try.prog 19 = true := by kernel_rfl
theorem en20 : enters Try.prog 20 = true := by kernel_rfl
theorem en21 : enters Try.prog 21 = true := by kernel_rfl
theorem en22 : enters Try.prog 22 = true := by kernel_rfl
theorem en23 : enters Try.prog 23 = true := by kernel_rfl
theorem en24 : enters Try.prog 24 = true := by kernel_rfl
theorem en25 : enters Try.prog 25 = true := by kernel_rfl
theorem en26 : enters Try.prog 26 = true := by kernel_rfl
theorem en27 : enters Try.prog 27 = true := by kernel_rfl
theorem en28 : enters Try.prog 28 = true := by kernel_rfl
theorem en29 : enters Try.prog 29 = true := by kernel_rfl
theorem en3 : enters Try.prog 3 = true := by kernel_rfl
theorem en30 : enters Try.prog 30 = true := by kernel_rfl
theorem en31 : enters Try.prog 31 = true := by kernel_rfl
theorem en32 : enters Try.prog 32 = true := by kernel_rfl
theorem en33 : enters Try.prog 33 = true := by kernel_rfl
theorem en34 : enters Try.prog 34 = true := by kernel_rfl
theorem en35 : enters Try.prog 35 = true := by kernel_rfl
theorem en36 : enters Try.prog 36 = true := by kernel_rfl
theorem en37 : enters Try.prog 37 = true := by kernel_rfl
theorem en38 : enters Try.prog 38 = true := by kernel_rfl
theorem en39 : enters Try.prog 39 = true := by kernel_rfl
theorem en4 : enters Try.prog 4 = true := by kernel_rfl
theorem en40 : enters Try.prog 40 = true := by kernel_rfl
theorem en41 : enters Try.prog 41 = true := by kernel_rfl
theorem en42 : enters Try.prog 42 = true := by kernel_rfl
theorem en43 : enters Try.prog 43 = true := by kernel_rfl
theorem en44 : enters Try.prog 44 = true := by kernel_rfl
theorem en45 : enters Try.prog 45 = true := by kernel_rfl
theorem en46 : enters Try.prog 46 = true := by kernel_rfl
theorem en47 : enters Try.prog 47 = true := by kernel_rfl
theorem en48 : enters Try.prog 48 = true := by kernel_rfl
theorem en49 : enters Try.prog 49 = true := by kernel_rfl
theorem en5 : enters Try.prog 5 = true := by kernel_rfl
theorem en50 : enters Try.prog 50 = true := by kernel_rfl
theorem en51 : enters Try.prog 51 = true := by kernel_rfl
theorem en52 : enters Try.prog 52 = true := by kernel_rfl
theorem en53 : enters Try.prog 53 = true := by kernel_rfl
theorem en54 : enters Try.prog 54 = true := by kernel_rfl
theorem en55 : enters Try.prog 55 = true := by kernel_rfl
theorem en56 : enters Try.prog 56 = true := by kernel_rfl
theorem en57 : enters Try.prog 57 = true := by kernel_rfl
theorem en58 : enters Try.prog 58 = true := by kernel_rfl
theorem en59 : enters Try.prog 59 = true := by kernel_rfl
theorem en6 : enters Try.prog 6 = true := by kernel_rfl
theorem en60 : enters Try.prog 60 = true := by kernel_rfl
theorem en61 : enters Try.prog 61 = true := by kernel_rfl
theorem en62 : enters Try.prog 62 = true := by kernel_rfl
theorem en63 : enters Try.prog 63 = true := by kernel_rfl
theorem en64 : enters Try.prog 64 = true := by kernel_rfl
theorem en65 : enters Try.prog 65 = true := by kernel_rfl
theorem en66 : enters Try.prog 66 = true := by kernel_rfl
theorem en67 : enters Try.prog 67 = true := by kernel_rfl
theorem en68 : enters Try.prog 68 = true := by kernel_rfl
theorem en69 : enters Try.prog 69 = true := by kernel_rfl
theorem en7 : enters Try.prog 7 = true := by kernel_rfl
theorem en70 : enters Try.prog 70 = true := by kernel_rfl
theorem en73 : enters Try.prog 73 = true := by kernel_rfl
theorem en74 : enters Try.prog 74 = true := by kernel_rfl
theorem en8 : enters Try.prog 8 = true := by kernel_rfl
theorem en86 : enters Try.prog 86 = true := by kernel_rfl
theorem en9 : enters Try.prog 9 = true := by kernel_rfl
theorem eqs53 : eqs Try.prog 53 = some [.int, .int, .int, .bool, .bool, .bool, .bool, .bool] := by kernel_rfl
theorem eqs61 : eqs Try.prog 61 = some [.int, .int, .int, .int, .int] := by kernel_rfl
theorem fo25_0 : fo Try.prog 25 0 = some (0, 1, false) := by kernel_rfl
theorem fo25_1 : fo Try.prog 25 1 = some (1, 1, false) := by kernel_rfl
theorem fo25_2 : fo Try.prog 25 2 = some (2, 1, false) := by kernel_rfl
theorem fo29_0 : fo Try.prog 29 0 = some (0, 3, true) := by kernel_rfl
theorem fo29_1 : fo Try.prog 29 1 = some (3, 1, false) := by kernel_rfl
theorem fo29_2 : fo Try.prog 29 2 = some (4, 1, false) := by kernel_rfl
theorem fo44_0 : fo Try.prog 44 0 = some (0, 1, false) := by kernel_rfl
theorem fo44_1 : fo Try.prog 44 1 = some (1, 1, false) := by kernel_rfl
theorem fo44_2 : fo Try.prog 44 2 = some (2, 1, false) := by kernel_rfl
theorem fo53_0 : fo Try.prog 53 0 = some (0, 1, false) := by kernel_rfl
theorem fo53_1 : fo Try.prog 53 1 = some (1, 1, false) := by kernel_rfl
theorem fo53_2 : fo Try.prog 53 2 = some (2, 1, false) := by kernel_rfl
theorem fo53_3 : fo Try.prog 53 3 = some (3, 1, false) := by kernel_rfl
theorem fo53_4 : fo Try.prog 53 4 = some (4, 1, false) := by kernel_rfl
theorem fo53_5 : fo Try.prog 53 5 = some (5, 1, false) := by kernel_rfl
theorem fo53_6 : fo Try.prog 53 6 = some (6, 1, false) := by kernel_rfl
theorem fo53_7 : fo Try.prog 53 7 = some (7, 1, false) := by kernel_rfl
theorem fo61_2 : fo Try.prog 61 2 = some (2, 3, true) := by kernel_rfl
theorem fo64_0 : fo Try.prog 64 0 = some (0, 5, true) := by kernel_rfl
theorem fo64_1 : fo Try.prog 64 1 = some (5, 1, false) := by kernel_rfl
theorem se23 : se Try.prog 23 = some (53, 8, 32, [I 0, I 0, I 0, B false, B false, B false, B false, B false]) := by kernel_rfl
theorem se27 : se Try.prog 27 = some (3, 1, 8, [I 0]) := by kernel_rfl
theorem se32 : se Try.prog 32 = some (61, 5, 40, [I 0, I 0, I 0, I 0, I 0]) := by kernel_rfl
theorem tk22 : tk Try.prog 22 = some (false, 1) := by kernel_rfl
theorem tk23 : tk Try.prog 23 = some (false, 1) := by kernel_rfl
theorem tk25 : tk Try.prog 25 = some (true, 3) := by kernel_rfl
theorem tk26 : tk Try.prog 26 = some (false, 1) := by kernel_rfl
theorem tk27 : tk Try.prog 27 = some (false, 1) := by kernel_rfl
theorem tk29 : tk Try.prog 29 = some (true, 5) := by kernel_rfl
theorem tk3 : tk Try.prog 3 = some (false, 1) := by kernel_rfl
theorem tk32 : tk Try.prog 32 = some (false, 1) := by kernel_rfl
theorem tk4 : tk Try.prog 4 = some (false, 1) := by kernel_rfl
theorem tk42 : tk Try.prog 42 = some (false, 1) := by kernel_rfl
theorem tk44 : tk Try.prog 44 = some (true, 3) := by kernel_rfl
theorem tk51 : tk Try.prog 51 = some (false, 1) := by kernel_rfl
theorem tk53 : tk Try.prog 53 = some (true, 8) := by kernel_rfl
theorem tk59 : tk Try.prog 59 = some (true, 4) := by kernel_rfl
theorem tk61 : tk Try.prog 61 = some (true, 5) := by kernel_rfl
theorem tk91 : tk Try.prog 91 = some (false, 1) := by kernel_rfl
theorem us23 : Try.prog.underlying 23 = some (.slice 53) := by kernel_rfl
theorem us27 : Try.prog.underlying 27 = some (.slice 3) := by kernel_rfl
theorem us32 : Try.prog.underlying 32 = some (.slice 61) := by kernel_rfl
theorem zc25 : zc Try.prog 25 = some [I 0, I 0, nilS] := by kernel_rfl
theorem zc29 : zc Try.prog 29 = some [I 0, I 0, nilS, I 0, nilS] := by kernel_rfl
theorem zc3 : zc Try.prog 3 = some [I 0] := by kernel_rfl
theorem zc32 : zc Try.prog 32 = some [nilS] := by kernel_rfl
theorem zc53 : zc Try.prog 53 = some [I 0, I 0, I 0, B false, B false, B false, B false, B false] := by kernel_rfl
theorem zc59 : zc Try.prog 59 = some [B false, B false, B false, B false] := by kernel_rfl
theorem zc61 : zc Try.prog 61 = some [I 0, I 0, I 0, I 0, I 0] := by kernel_rfl
theorem zc91 : zc Try.prog 91 = some [.v (.pointer none)] := by kernel_rfl
theorem mixed : Try.prog.follows .mixedOrders = true := by kernel_rfl
end Go.Proofs.Ytcdjfellhgdgoaa
