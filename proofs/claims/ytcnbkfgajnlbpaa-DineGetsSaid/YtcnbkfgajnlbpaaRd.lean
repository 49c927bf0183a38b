/- What comes in, read as data. -/
import Derived.Test.YtcnbkfgajnlbpaaWkb
import Derived.Test.YtcnbkfgajnlbpaaNyM
import Derived.Test.YtcnbkfgajnlbpaaRows
namespace Go.Proofs.Ytcnbkfgajnlbpaa
open Go Go.Nx
set_option linter.unusedVariables false
set_option linter.unusedSimpArgs false
set_option maxRecDepth 8000
theorem rd3 : Reads Try.prog 3 (fun n : Int => [.v (.int .i64 n)]) (fun n => (Lit.int .i64 n).wf = true) := reads_int Try.underlying3
theorem rd22 : Reads Try.prog 22 (fun n : Int => [.v (.int .i64 n)]) (fun n => (Lit.int .i64 n).wf = true) := reads_int Try.underlying22
theorem rd45 : Reads Try.prog 45 (fun n : Int => [.v (.int .i64 n)]) (fun n => (Lit.int .i64 n).wf = true) := reads_int Try.underlying45
theorem rd4 : Reads Try.prog 4 (fun b : Bool => [B b]) (fun _ => True) := reads_bool Try.underlying4
theorem ce3 : Try.prog.cellsOf 3 = 1 := by kernel_rfl
theorem ce45 : Try.prog.cellsOf 45 = 1 := by kernel_rfl
theorem ce4 : Try.prog.cellsOf 4 = 1 := by kernel_rfl
theorem rd47 : Reads Try.prog 47 eSide kSide := by
  refine reads_struct Try.underlying47 (by kernel_rfl : Try.prog.cellsOf 47 = 8) (fun H enc W sp held m cs hl hf => ?_)
  obtain ⟨x0, h0⟩ := hf 0 _ rfl
  obtain ⟨a0, o0, c0⟩ := rd3 H enc W sp held m _ _ h0
  simp only [ce3] at c0
  obtain ⟨x1, h1⟩ := hf 1 _ rfl
  obtain ⟨a1, o1, c1⟩ := rd3 H enc W sp held m _ _ h1
  simp only [ce3] at c1
  obtain ⟨x2, h2⟩ := hf 2 _ rfl
  obtain ⟨a2, o2, c2⟩ := rd45 H enc W sp held m _ _ h2
  simp only [ce45] at c2
  obtain ⟨x3, h3⟩ := hf 3 _ rfl
  obtain ⟨a3, o3, c3⟩ := rd4 H enc W sp held m _ _ h3
  simp only [ce4] at c3
  obtain ⟨x4, h4⟩ := hf 4 _ rfl
  obtain ⟨a4, o4, c4⟩ := rd4 H enc W sp held m _ _ h4
  simp only [ce4] at c4
  obtain ⟨x5, h5⟩ := hf 5 _ rfl
  obtain ⟨a5, o5, c5⟩ := rd4 H enc W sp held m _ _ h5
  simp only [ce4] at c5
  obtain ⟨x6, h6⟩ := hf 6 _ rfl
  obtain ⟨a6, o6, c6⟩ := rd4 H enc W sp held m _ _ h6
  simp only [ce4] at c6
  obtain ⟨x7, h7⟩ := hf 7 _ rfl
  obtain ⟨a7, o7, c7⟩ := rd4 H enc W sp held m _ _ h7
  simp only [ce4] at c7
  refine ⟨⟨a0, a1, a2, a3, a4, a5, a6, a7⟩, ⟨o0, o1, o2, o3, o4, o5, o6, o7⟩, ?_⟩
  have := (concAll_part (o := 0) (k := 1) c0 (concAll_part (o := 1) (k := 1) c1 (concAll_part (o := 2) (k := 1) c2 (concAll_part (o := 3) (k := 1) c3 (concAll_part (o := 4) (k := 1) c4 (concAll_part (o := 5) (k := 1) c5 (concAll_part (o := 6) (k := 1) c6 (concAll_part (o := 7) (k := 1) c7 (concAll_end hl)))))))))
  exact this
theorem rd23 : Reads Try.prog 23 (fun l : List TSide => [.slv (l.map eSide)]) (fun l => (l.length ≤ maxLen ∧ ∀ y ∈ l, kSide y)) := reads_slice Try.underlying23 rd47 (by kernel_rfl : Try.prog.cellsOf 47 = 8) (by decide) (fun _ => rfl)
theorem ce22 : Try.prog.cellsOf 22 = 1 := by kernel_rfl
theorem ce23 : Try.prog.cellsOf 23 = 1 := by kernel_rfl
theorem rd25 : Reads Try.prog 25 eDiner kDiner := by
  refine reads_struct Try.underlying25 (by kernel_rfl : Try.prog.cellsOf 25 = 3) (fun H enc W sp held m cs hl hf => ?_)
  obtain ⟨x0, h0⟩ := hf 0 _ rfl
  obtain ⟨a0, o0, c0⟩ := rd3 H enc W sp held m _ _ h0
  simp only [ce3] at c0
  obtain ⟨x1, h1⟩ := hf 1 _ rfl
  obtain ⟨a1, o1, c1⟩ := rd22 H enc W sp held m _ _ h1
  simp only [ce22] at c1
  obtain ⟨x2, h2⟩ := hf 2 _ rfl
  obtain ⟨a2, o2, c2⟩ := rd23 H enc W sp held m _ _ h2
  simp only [ce23] at c2
  refine ⟨⟨a0, a1, a2⟩, ⟨o0, o1, o2⟩, ?_⟩
  have := (concAll_part (o := 0) (k := 1) c0 (concAll_part (o := 1) (k := 1) c1 (concAll_part (o := 2) (k := 1) c2 (concAll_end hl))))
  exact this
theorem rd38 : Reads Try.prog 38 (fun n : Int => [.v (.int .i64 n)]) (fun n => (Lit.int .i64 n).wf = true) := reads_int Try.underlying38
theorem ce38 : Try.prog.cellsOf 38 = 1 := by kernel_rfl
theorem rd40 : Reads Try.prog 40 eMsg kMsg := by
  refine reads_struct Try.underlying40 (by kernel_rfl : Try.prog.cellsOf 40 = 3) (fun H enc W sp held m cs hl hf => ?_)
  obtain ⟨x0, h0⟩ := hf 0 _ rfl
  obtain ⟨a0, o0, c0⟩ := rd38 H enc W sp held m _ _ h0
  simp only [ce38] at c0
  obtain ⟨x1, h1⟩ := hf 1 _ rfl
  obtain ⟨a1, o1, c1⟩ := rd3 H enc W sp held m _ _ h1
  simp only [ce3] at c1
  obtain ⟨x2, h2⟩ := hf 2 _ rfl
  obtain ⟨a2, o2, c2⟩ := rd3 H enc W sp held m _ _ h2
  simp only [ce3] at c2
  refine ⟨⟨a0, a1, a2⟩, ⟨o0, o1, o2⟩, ?_⟩
  have := (concAll_part (o := 0) (k := 1) c0 (concAll_part (o := 1) (k := 1) c1 (concAll_part (o := 2) (k := 1) c2 (concAll_end hl))))
  exact this
end Go.Proofs.Ytcnbkfgajnlbpaa
