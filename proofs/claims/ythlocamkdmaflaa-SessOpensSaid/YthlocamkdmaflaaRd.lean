/- What comes in, read as data. -/
import Derived.Test.YthlocamkdmaflaaWkc
import Derived.Test.YthlocamkdmaflaaFwM
import Derived.Test.YthlocamkdmaflaaRows
namespace Go.Proofs.Ythlocamkdmaflaa
open Go Go.Nx
set_option linter.unusedVariables false
set_option linter.unusedSimpArgs false
set_option linter.unnecessarySimpa false
set_option maxRecDepth 8000
theorem rd3 : Reads Try.prog 3 (fun n : Int => [.v (.int .i64 n)]) (fun n => (Lit.int .i64 n).wf = true) := reads_int Try.underlying3
theorem rd25 : Reads Try.prog 25 (fun l : List Int => [.slv (l.map eI)]) (fun l => (l.length ≤ maxLen ∧ ∀ y ∈ l, (Lit.int .i64 y).wf = true)) := reads_slice Try.underlying25 rd3 (by kernel_rfl : Try.prog.cellsOf 3 = 1) (by decide) (fun _ => rfl)
theorem rd36 : Reads Try.prog 36 (fun n : Int => [.v (.int .i64 n)]) (fun n => (Lit.int .i64 n).wf = true) := reads_int Try.underlying36
theorem ce3 : Try.prog.cellsOf 3 = 1 := by kernel_rfl
theorem ce25 : Try.prog.cellsOf 25 = 1 := by kernel_rfl
theorem ce36 : Try.prog.cellsOf 36 = 1 := by kernel_rfl
theorem rd41 : Reads Try.prog 41 eSess kSess := by
  refine reads_struct Try.underlying41 (by kernel_rfl : Try.prog.cellsOf 41 = 4) (fun H enc W sp held m cs hl hf => ?_)
  obtain ⟨x0, h0⟩ := hf 0 _ rfl
  obtain ⟨a0, o0, c0⟩ := rd3 H enc W sp held m _ _ h0
  change concAll _ _ (List.take (Try.prog.cellsOf 3) (List.drop 0 cs)) at c0
  rw [ce3] at c0
  obtain ⟨x1, h1⟩ := hf 1 _ rfl
  obtain ⟨a1, o1, c1⟩ := rd25 H enc W sp held m _ _ h1
  change concAll _ _ (List.take (Try.prog.cellsOf 25) (List.drop 1 cs)) at c1
  rw [ce25] at c1
  obtain ⟨x2, h2⟩ := hf 2 _ rfl
  obtain ⟨a2, o2, c2⟩ := rd36 H enc W sp held m _ _ h2
  change concAll _ _ (List.take (Try.prog.cellsOf 36) (List.drop 2 cs)) at c2
  rw [ce36] at c2
  obtain ⟨x3, h3⟩ := hf 3 _ rfl
  obtain ⟨a3, o3, c3⟩ := rd3 H enc W sp held m _ _ h3
  change concAll _ _ (List.take (Try.prog.cellsOf 3) (List.drop 3 cs)) at c3
  rw [ce3] at c3
  refine ⟨⟨a0, a1, a2, a3⟩, ⟨o0, o1, o2, o3⟩, ?_⟩
  have := (concAll_part (o := 0) (k := 1) c0 (concAll_part (o := 1) (k := 1) c1 (concAll_part (o := 2) (k := 1) c2 (concAll_part (o := 3) (k := 1) c3 (concAll_end hl)))))
  exact this
theorem rd22 : Reads Try.prog 22 (fun l : List TSess => [.slv (l.map eSess)]) (fun l => (l.length ≤ maxLen ∧ ∀ y ∈ l, kSess y)) := reads_slice Try.underlying22 rd41 (by kernel_rfl : Try.prog.cellsOf 41 = 4) (by decide) (fun _ => rfl)
theorem ce22 : Try.prog.cellsOf 22 = 1 := by kernel_rfl
theorem rd24 : Reads Try.prog 24 eBook kBook := by
  refine reads_struct Try.underlying24 (by kernel_rfl : Try.prog.cellsOf 24 = 2) (fun H enc W sp held m cs hl hf => ?_)
  obtain ⟨x0, h0⟩ := hf 0 _ rfl
  obtain ⟨a0, o0, c0⟩ := rd3 H enc W sp held m _ _ h0
  change concAll _ _ (List.take (Try.prog.cellsOf 3) (List.drop 0 cs)) at c0
  rw [ce3] at c0
  obtain ⟨x1, h1⟩ := hf 1 _ rfl
  obtain ⟨a1, o1, c1⟩ := rd22 H enc W sp held m _ _ h1
  change concAll _ _ (List.take (Try.prog.cellsOf 22) (List.drop 1 cs)) at c1
  rw [ce22] at c1
  refine ⟨⟨a0, a1⟩, ⟨o0, o1⟩, ?_⟩
  have := (concAll_part (o := 0) (k := 1) c0 (concAll_part (o := 1) (k := 1) c1 (concAll_end hl)))
  exact this
theorem rd27 : Reads Try.prog 27 enarthexlaw17_Act knarthexlaw17_Act := by
  refine reads_struct Try.underlying27 (by kernel_rfl : Try.prog.cellsOf 27 = 4) (fun H enc W sp held m cs hl hf => ?_)
  obtain ⟨x0, h0⟩ := hf 0 _ rfl
  obtain ⟨a0, o0, c0⟩ := rd3 H enc W sp held m _ _ h0
  change concAll _ _ (List.take (Try.prog.cellsOf 3) (List.drop 0 cs)) at c0
  rw [ce3] at c0
  obtain ⟨x1, h1⟩ := hf 1 _ rfl
  obtain ⟨a1, o1, c1⟩ := rd3 H enc W sp held m _ _ h1
  change concAll _ _ (List.take (Try.prog.cellsOf 3) (List.drop 1 cs)) at c1
  rw [ce3] at c1
  obtain ⟨x2, h2⟩ := hf 2 _ rfl
  obtain ⟨a2, o2, c2⟩ := rd3 H enc W sp held m _ _ h2
  change concAll _ _ (List.take (Try.prog.cellsOf 3) (List.drop 2 cs)) at c2
  rw [ce3] at c2
  obtain ⟨x3, h3⟩ := hf 3 _ rfl
  obtain ⟨a3, o3, c3⟩ := rd25 H enc W sp held m _ _ h3
  change concAll _ _ (List.take (Try.prog.cellsOf 25) (List.drop 3 cs)) at c3
  rw [ce25] at c3
  refine ⟨⟨a0, a1, a2, a3⟩, ⟨o0, o1, o2, o3⟩, ?_⟩
  have := (concAll_part (o := 0) (k := 1) c0 (concAll_part (o := 1) (k := 1) c1 (concAll_part (o := 2) (k := 1) c2 (concAll_part (o := 3) (k := 1) c3 (concAll_end hl)))))
  exact this
theorem rd31 : Reads Try.prog 31 (fun l : List Tnarthexlaw17_Act => [.slv (l.map enarthexlaw17_Act)]) (fun l => (l.length ≤ maxLen ∧ ∀ y ∈ l, knarthexlaw17_Act y)) := reads_slice Try.underlying31 rd27 (by kernel_rfl : Try.prog.cellsOf 27 = 4) (by decide) (fun _ => rfl)
theorem rd5 : Reads Try.prog 5 (fun n : Int => [.v (.int .u8 n)]) (fun n => (Lit.int .u8 n).wf = true) := reads_int Try.underlying5
end Go.Proofs.Ythlocamkdmaflaa
