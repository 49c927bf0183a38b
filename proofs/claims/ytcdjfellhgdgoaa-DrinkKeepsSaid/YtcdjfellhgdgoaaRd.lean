/- What comes in, read as data. -/
import Derived.Test.YtcdjfellhgdgoaaWkc
import Derived.Test.YtcdjfellhgdgoaaFwM
import Derived.Test.YtcdjfellhgdgoaaRows
namespace Go.Proofs.Ytcdjfellhgdgoaa
open Go Go.Nx
set_option linter.unusedVariables false
set_option linter.unusedSimpArgs false
set_option linter.unnecessarySimpa false
set_option maxRecDepth 8000
theorem rd3 : Reads Try.prog 3 (fun n : Int => [.v (.int .i64 n)]) (fun n => (Lit.int .i64 n).wf = true) := reads_int Try.underlying3
theorem rd22 : Reads Try.prog 22 (fun n : Int => [.v (.int .i64 n)]) (fun n => (Lit.int .i64 n).wf = true) := reads_int Try.underlying22
theorem rd51 : Reads Try.prog 51 (fun n : Int => [.v (.int .i64 n)]) (fun n => (Lit.int .i64 n).wf = true) := reads_int Try.underlying51
theorem rd4 : Reads Try.prog 4 (fun b : Bool => [B b]) (fun _ => True) := reads_bool Try.underlying4
theorem ce3 : Try.prog.cellsOf 3 = 1 := by kernel_rfl
theorem ce51 : Try.prog.cellsOf 51 = 1 := by kernel_rfl
theorem ce4 : Try.prog.cellsOf 4 = 1 := by kernel_rfl
theorem rd53 : Reads Try.prog 53 eSide kSide := by
  refine reads_struct Try.underlying53 (by kernel_rfl : Try.prog.cellsOf 53 = 8) (fun H enc W sp held m cs hl hf => ?_)
  obtain ⟨x0, h0⟩ := hf 0 _ rfl
  obtain ⟨a0, o0, c0⟩ := rd3 H enc W sp held m _ _ h0
  change concAll _ _ (List.take (Try.prog.cellsOf 3) (List.drop 0 cs)) at c0
  rw [ce3] at c0
  obtain ⟨x1, h1⟩ := hf 1 _ rfl
  obtain ⟨a1, o1, c1⟩ := rd3 H enc W sp held m _ _ h1
  change concAll _ _ (List.take (Try.prog.cellsOf 3) (List.drop 1 cs)) at c1
  rw [ce3] at c1
  obtain ⟨x2, h2⟩ := hf 2 _ rfl
  obtain ⟨a2, o2, c2⟩ := rd51 H enc W sp held m _ _ h2
  change concAll _ _ (List.take (Try.prog.cellsOf 51) (List.drop 2 cs)) at c2
  rw [ce51] at c2
  obtain ⟨x3, h3⟩ := hf 3 _ rfl
  obtain ⟨a3, o3, c3⟩ := rd4 H enc W sp held m _ _ h3
  change concAll _ _ (List.take (Try.prog.cellsOf 4) (List.drop 3 cs)) at c3
  rw [ce4] at c3
  obtain ⟨x4, h4⟩ := hf 4 _ rfl
  obtain ⟨a4, o4, c4⟩ := rd4 H enc W sp held m _ _ h4
  change concAll _ _ (List.take (Try.prog.cellsOf 4) (List.drop 4 cs)) at c4
  rw [ce4] at c4
  obtain ⟨x5, h5⟩ := hf 5 _ rfl
  obtain ⟨a5, o5, c5⟩ := rd4 H enc W sp held m _ _ h5
  change concAll _ _ (List.take (Try.prog.cellsOf 4) (List.drop 5 cs)) at c5
  rw [ce4] at c5
  obtain ⟨x6, h6⟩ := hf 6 _ rfl
  obtain ⟨a6, o6, c6⟩ := rd4 H enc W sp held m _ _ h6
  change concAll _ _ (List.take (Try.prog.cellsOf 4) (List.drop 6 cs)) at c6
  rw [ce4] at c6
  obtain ⟨x7, h7⟩ := hf 7 _ rfl
  obtain ⟨a7, o7, c7⟩ := rd4 H enc W sp held m _ _ h7
  change concAll _ _ (List.take (Try.prog.cellsOf 4) (List.drop 7 cs)) at c7
  rw [ce4] at c7
  refine ⟨⟨a0, a1, a2, a3, a4, a5, a6, a7⟩, ⟨o0, o1, o2, o3, o4, o5, o6, o7⟩, ?_⟩
  have := (concAll_part (o := 0) (k := 1) c0 (concAll_part (o := 1) (k := 1) c1 (concAll_part (o := 2) (k := 1) c2 (concAll_part (o := 3) (k := 1) c3 (concAll_part (o := 4) (k := 1) c4 (concAll_part (o := 5) (k := 1) c5 (concAll_part (o := 6) (k := 1) c6 (concAll_part (o := 7) (k := 1) c7 (concAll_end hl)))))))))
  exact this
theorem rd23 : Reads Try.prog 23 (fun l : List TSide => [.slv (l.map eSide)]) (fun l => (l.length ≤ maxLen ∧ ∀ y ∈ l, kSide y)) := reads_slice Try.underlying23 rd53 (by kernel_rfl : Try.prog.cellsOf 53 = 8) (by decide) (fun _ => rfl)
theorem ce22 : Try.prog.cellsOf 22 = 1 := by kernel_rfl
theorem ce23 : Try.prog.cellsOf 23 = 1 := by kernel_rfl
theorem rd25 : Reads Try.prog 25 eDiner kDiner := by
  refine reads_struct Try.underlying25 (by kernel_rfl : Try.prog.cellsOf 25 = 3) (fun H enc W sp held m cs hl hf => ?_)
  obtain ⟨x0, h0⟩ := hf 0 _ rfl
  obtain ⟨a0, o0, c0⟩ := rd3 H enc W sp held m _ _ h0
  change concAll _ _ (List.take (Try.prog.cellsOf 3) (List.drop 0 cs)) at c0
  rw [ce3] at c0
  obtain ⟨x1, h1⟩ := hf 1 _ rfl
  obtain ⟨a1, o1, c1⟩ := rd22 H enc W sp held m _ _ h1
  change concAll _ _ (List.take (Try.prog.cellsOf 22) (List.drop 1 cs)) at c1
  rw [ce22] at c1
  obtain ⟨x2, h2⟩ := hf 2 _ rfl
  obtain ⟨a2, o2, c2⟩ := rd23 H enc W sp held m _ _ h2
  change concAll _ _ (List.take (Try.prog.cellsOf 23) (List.drop 2 cs)) at c2
  rw [ce23] at c2
  refine ⟨⟨a0, a1, a2⟩, ⟨o0, o1, o2⟩, ?_⟩
  have := (concAll_part (o := 0) (k := 1) c0 (concAll_part (o := 1) (k := 1) c1 (concAll_part (o := 2) (k := 1) c2 (concAll_end hl))))
  exact this
theorem rd26 : Reads Try.prog 26 (fun n : Int => [.v (.int .i64 n)]) (fun n => (Lit.int .i64 n).wf = true) := reads_int Try.underlying26
theorem rd27 : Reads Try.prog 27 (fun l : List Int => [.slv (l.map eI)]) (fun l => (l.length ≤ maxLen ∧ ∀ y ∈ l, (Lit.int .i64 y).wf = true)) := reads_slice Try.underlying27 rd3 (by kernel_rfl : Try.prog.cellsOf 3 = 1) (by decide) (fun _ => rfl)
theorem ce25 : Try.prog.cellsOf 25 = 3 := by kernel_rfl
theorem ce26 : Try.prog.cellsOf 26 = 1 := by kernel_rfl
theorem ce27 : Try.prog.cellsOf 27 = 1 := by kernel_rfl
theorem rd29 : Reads Try.prog 29 eDrinker kDrinker := by
  refine reads_struct Try.underlying29 (by kernel_rfl : Try.prog.cellsOf 29 = 5) (fun H enc W sp held m cs hl hf => ?_)
  obtain ⟨x0, h0⟩ := hf 0 _ rfl
  obtain ⟨a0, o0, c0⟩ := rd25 H enc W sp held m _ _ h0
  change concAll _ _ (List.take (Try.prog.cellsOf 25) (List.drop 0 cs)) at c0
  rw [ce25] at c0
  obtain ⟨x1, h1⟩ := hf 1 _ rfl
  obtain ⟨a1, o1, c1⟩ := rd26 H enc W sp held m _ _ h1
  change concAll _ _ (List.take (Try.prog.cellsOf 26) (List.drop 3 cs)) at c1
  rw [ce26] at c1
  obtain ⟨x2, h2⟩ := hf 2 _ rfl
  obtain ⟨a2, o2, c2⟩ := rd27 H enc W sp held m _ _ h2
  change concAll _ _ (List.take (Try.prog.cellsOf 27) (List.drop 4 cs)) at c2
  rw [ce27] at c2
  refine ⟨⟨a0, a1, a2⟩, ⟨o0, o1, o2⟩, ?_⟩
  have := (concAll_part (o := 0) (k := 3) c0 (concAll_part (o := 3) (k := 1) c1 (concAll_part (o := 4) (k := 1) c2 (concAll_end hl))))
  exact this
theorem rd42 : Reads Try.prog 42 (fun n : Int => [.v (.int .i64 n)]) (fun n => (Lit.int .i64 n).wf = true) := reads_int Try.underlying42
theorem ce42 : Try.prog.cellsOf 42 = 1 := by kernel_rfl
theorem rd44 : Reads Try.prog 44 eMsg kMsg := by
  refine reads_struct Try.underlying44 (by kernel_rfl : Try.prog.cellsOf 44 = 3) (fun H enc W sp held m cs hl hf => ?_)
  obtain ⟨x0, h0⟩ := hf 0 _ rfl
  obtain ⟨a0, o0, c0⟩ := rd42 H enc W sp held m _ _ h0
  change concAll _ _ (List.take (Try.prog.cellsOf 42) (List.drop 0 cs)) at c0
  rw [ce42] at c0
  obtain ⟨x1, h1⟩ := hf 1 _ rfl
  obtain ⟨a1, o1, c1⟩ := rd3 H enc W sp held m _ _ h1
  change concAll _ _ (List.take (Try.prog.cellsOf 3) (List.drop 1 cs)) at c1
  rw [ce3] at c1
  obtain ⟨x2, h2⟩ := hf 2 _ rfl
  obtain ⟨a2, o2, c2⟩ := rd3 H enc W sp held m _ _ h2
  change concAll _ _ (List.take (Try.prog.cellsOf 3) (List.drop 2 cs)) at c2
  rw [ce3] at c2
  refine ⟨⟨a0, a1, a2⟩, ⟨o0, o1, o2⟩, ?_⟩
  have := (concAll_part (o := 0) (k := 1) c0 (concAll_part (o := 1) (k := 1) c1 (concAll_part (o := 2) (k := 1) c2 (concAll_end hl))))
  exact this
end Go.Proofs.Ytcdjfellhgdgoaa
