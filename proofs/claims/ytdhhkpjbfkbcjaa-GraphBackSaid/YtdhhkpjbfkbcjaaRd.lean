/- What comes in, read as data. -/
import Derived.Test.YtdhhkpjbfkbcjaaWkb
import Derived.Test.YtdhhkpjbfkbcjaaFwM
import Derived.Test.YtdhhkpjbfkbcjaaRows
namespace Go.Proofs.Ytdhhkpjbfkbcjaa
open Go Go.Nx
set_option linter.unusedVariables false
set_option linter.unusedSimpArgs false
set_option linter.unnecessarySimpa false
set_option maxRecDepth 8000
theorem rd3 : Reads Try.prog 3 (fun n : Int => [.v (.int .i64 n)]) (fun n => (Lit.int .i64 n).wf = true) := reads_int Try.underlying3
theorem ce3 : Try.prog.cellsOf 3 = 1 := by kernel_rfl
theorem rd37 : Reads Try.prog 37 eEdge kEdge := by
  refine reads_struct Try.underlying37 (by kernel_rfl : Try.prog.cellsOf 37 = 2) (fun H enc W sp held m cs hl hf => ?_)
  obtain ⟨x0, h0⟩ := hf 0 _ rfl
  obtain ⟨a0, o0, c0⟩ := rd3 H enc W sp held m _ _ h0
  change concAll _ _ (List.take (Try.prog.cellsOf 3) (List.drop 0 cs)) at c0
  rw [ce3] at c0
  obtain ⟨x1, h1⟩ := hf 1 _ rfl
  obtain ⟨a1, o1, c1⟩ := rd3 H enc W sp held m _ _ h1
  change concAll _ _ (List.take (Try.prog.cellsOf 3) (List.drop 1 cs)) at c1
  rw [ce3] at c1
  refine ⟨⟨a0, a1⟩, ⟨o0, o1⟩, ?_⟩
  have := (concAll_part (o := 0) (k := 1) c0 (concAll_part (o := 1) (k := 1) c1 (concAll_end hl)))
  exact this
theorem rd22 : Reads Try.prog 22 (fun l : List TEdge => [.slv (l.map eEdge)]) (fun l => (l.length ≤ maxLen ∧ ∀ y ∈ l, kEdge y)) := reads_slice Try.underlying22 rd37 (by kernel_rfl : Try.prog.cellsOf 37 = 2) (by decide) (fun _ => rfl)
theorem ce22 : Try.prog.cellsOf 22 = 1 := by kernel_rfl
theorem rd24 : Reads Try.prog 24 eGraph kGraph := by
  refine reads_struct Try.underlying24 (by kernel_rfl : Try.prog.cellsOf 24 = 2) (fun H enc W sp held m cs hl hf => ?_)
  obtain ⟨x0, h0⟩ := hf 0 _ rfl
  obtain ⟨a0, o0, c0⟩ := rd3 H enc W sp held m _ _ h0
  change concAll _ _ (List.take (Try.prog.cellsOf 3) (List.drop 0 cs)) at c0
  rw [ce3] at c0
  obtain ⟨x1, h1⟩ := hf 1 _ rfl
  obtain ⟨a1, o1, c1⟩ := rd22 H enc W sp held m _ _ h1
  change concAll _ _ (List.take (Try.prog.cellsOf 22) (List.drop 1 cs)) at c1
  rw [ce22] at c1
  refine ⟨⟨a0, a1⟩, ⟨o0, o1⟩, ?_⟩
  have := (concAll_part (o := 0) (k := 1) c0 (concAll_part (o := 1) (k := 1) c1 (concAll_end hl)))
  exact this
end Go.Proofs.Ytdhhkpjbfkbcjaa
