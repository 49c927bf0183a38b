/- What comes in, read as data. -/
import Derived.Test.YtlbopfkhnebegaaWkb
import Derived.Test.YtlbopfkhnebegaaFwM
import Derived.Test.YtlbopfkhnebegaaRows
namespace Go.Proofs.Ytlbopfkhnebegaa
open Go Go.Nx
set_option linter.unusedVariables false
set_option linter.unusedSimpArgs false
set_option maxRecDepth 8000
theorem rd3 : Reads Try.prog 3 (fun n : Int => [.v (.int .i64 n)]) (fun n => (Lit.int .i64 n).wf = true) := reads_int Try.underlying3
theorem rd22 : Reads Try.prog 22 (fun l : List Int => [.slv (l.map eI)]) (fun l => (l.length ≤ maxLen ∧ ∀ y ∈ l, (Lit.int .i64 y).wf = true)) := reads_slice Try.underlying22 rd3 (by kernel_rfl : Try.prog.cellsOf 3 = 1) (by decide) (fun _ => rfl)
end Go.Proofs.Ytlbopfkhnebegaa
