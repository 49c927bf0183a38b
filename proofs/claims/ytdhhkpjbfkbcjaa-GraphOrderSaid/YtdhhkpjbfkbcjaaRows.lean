/-
  No cell of these rows narrows 'for every input' (looked for: loops, veiled, ifaces, maps, wideKeys, modest, calm, conditions, laid).
  DERIVED. THE GIVEN ROWS OF THIS SEAT. 5 by the template 'for every input the law returns true; each argument reads behind the call as it read before'; 0 by the template 'total and deterministic' (their statements: YtdhhkpjbfkbcjaaTotals.lean).
  GIVEN WITH THE SEED: the statements are not yours to turn. If you find one false, say at which input.
  Laid BY PROGRAM, IN A SANDBOX (cutbox-rows.mjs): the forced cells as the released guide's own fill.sh prints them over the translation cbe3ad6c7614a67d… (all of the seat's roots in one cut). By AI agents, Wed Nov 11 2026. No macro, syntax, notation, axiom, sorry.
-/
import Derived.Test.YtdhhkpjbfkbcjaaChecked
import GoSem.Claim
import GoSem.ClaimJoined
import GoSem.ClaimMapViews
import Derived.JoinedTies
import Derived.KernelRfl
namespace Go.Proofs.Ytdhhkpjbfkbcjaa
/- THE CELL 'sum', in the pinned program and in every row, IS THE sha256 OF THE DUMP (.gsa) THAT YtdhhkpjbfkbcjaaProg.lean LOADS. Nothing in Lean hashes anything: it is a label: what it is worth is what the hold of that sum in a sandbox is worth. -/
noncomputable def Try.pinned : Pinned := { name := "ytdhhkpjbfkbcjaa", sum := "cbe3ad6c7614a67d286825cdf30a5c330de41a87e347f83825f0b794138d4324", checked := Try.checked }
namespace Rows
def none {H : Type} : Left H := { results := [], args := [] }

/-- 'narthexlaw03.GraphChanges': WHATEVER THE INPUT: true; the input reads as it did. -/
def graphChangesSpec : ChangeSpec := { name := "graphChanges", fn := fun _ => fun
  | [d1, d2, d3] => { results := [.lit (.bool true)], args := [d1, d2, d3] }
  | _ => none }
def graphChangesRow : OpenClaim := { program := "ytdhhkpjbfkbcjaa", sum := "cbe3ad6c7614a67d286825cdf30a5c330de41a87e347f83825f0b794138d4324", func := "narthex/narthexlaw03.GraphChanges", spec := "graphChanges", inPlace := ["slices.overlaps[narthex/api.Edge]"], unfollowed := true, recurses := true, apart := false }
def GraphChangesSaid : Prop := graphChangesRow.holds Try.pinned (OpenSpec.ofChange graphChangesSpec)

/-- ITS FALSE NEIGHBOUR: 'it returns false'. Refute it at one input. -/
def graphChangesWrong : ChangeSpec := { name := "graphChanges", fn := fun _ => fun
  | [d1, d2, d3] => { results := [.lit (.bool false)], args := [d1, d2, d3] }
  | _ => none }
def GraphChangesWrongFalsely : Prop := graphChangesRow.holds Try.pinned (OpenSpec.ofChange graphChangesWrong)

/-- 'narthexlaw03.GraphBack': WHATEVER THE INPUT: true; the input reads as it did. -/
def graphBackSpec : ChangeSpec := { name := "graphBack", fn := fun _ => fun
  | [d1, d2, d3, d4, d5] => { results := [.lit (.bool true)], args := [d1, d2, d3, d4, d5] }
  | _ => none }
def graphBackRow : OpenClaim := { program := "ytdhhkpjbfkbcjaa", sum := "cbe3ad6c7614a67d286825cdf30a5c330de41a87e347f83825f0b794138d4324", func := "narthex/narthexlaw03.GraphBack", spec := "graphBack", inPlace := ["slices.overlaps[narthex/api.Edge]"], unfollowed := true, recurses := true, apart := false }
def GraphBackSaid : Prop := graphBackRow.holds Try.pinned (OpenSpec.ofChange graphBackSpec)

/-- ITS FALSE NEIGHBOUR: 'it returns false'. Refute it at one input. -/
def graphBackWrong : ChangeSpec := { name := "graphBack", fn := fun _ => fun
  | [d1, d2, d3, d4, d5] => { results := [.lit (.bool false)], args := [d1, d2, d3, d4, d5] }
  | _ => none }
def GraphBackWrongFalsely : Prop := graphBackRow.holds Try.pinned (OpenSpec.ofChange graphBackWrong)

/-- 'narthexlaw03.GraphParts': WHATEVER THE INPUT: true; the input reads as it did. -/
def graphPartsSpec : ChangeSpec := { name := "graphParts", fn := fun _ => fun
  | [d1, d2, d3] => { results := [.lit (.bool true)], args := [d1, d2, d3] }
  | _ => none }
def graphPartsRow : OpenClaim := { program := "ytdhhkpjbfkbcjaa", sum := "cbe3ad6c7614a67d286825cdf30a5c330de41a87e347f83825f0b794138d4324", func := "narthex/narthexlaw03.GraphParts", spec := "graphParts", inPlace := ["slices.overlaps[narthex/api.Edge]"], unfollowed := true, recurses := true, apart := false }
def GraphPartsSaid : Prop := graphPartsRow.holds Try.pinned (OpenSpec.ofChange graphPartsSpec)

/-- ITS FALSE NEIGHBOUR: 'it returns false'. Refute it at one input. -/
def graphPartsWrong : ChangeSpec := { name := "graphParts", fn := fun _ => fun
  | [d1, d2, d3] => { results := [.lit (.bool false)], args := [d1, d2, d3] }
  | _ => none }
def GraphPartsWrongFalsely : Prop := graphPartsRow.holds Try.pinned (OpenSpec.ofChange graphPartsWrong)

/-- 'narthexlaw03.GraphOrder': WHATEVER THE INPUT: true; the input reads as it did. -/
def graphOrderSpec : ChangeSpec := { name := "graphOrder", fn := fun _ => fun
  | [d1, d2, d3, d4, d5] => { results := [.lit (.bool true)], args := [d1, d2, d3, d4, d5] }
  | _ => none }
def graphOrderRow : OpenClaim := { program := "ytdhhkpjbfkbcjaa", sum := "cbe3ad6c7614a67d286825cdf30a5c330de41a87e347f83825f0b794138d4324", func := "narthex/narthexlaw03.GraphOrder", spec := "graphOrder", inPlace := ["slices.overlaps[narthex/api.Edge]"], unfollowed := true, recurses := true, apart := false }
def GraphOrderSaid : Prop := graphOrderRow.holds Try.pinned (OpenSpec.ofChange graphOrderSpec)

/-- ITS FALSE NEIGHBOUR: 'it returns false'. Refute it at one input. -/
def graphOrderWrong : ChangeSpec := { name := "graphOrder", fn := fun _ => fun
  | [d1, d2, d3, d4, d5] => { results := [.lit (.bool false)], args := [d1, d2, d3, d4, d5] }
  | _ => none }
def GraphOrderWrongFalsely : Prop := graphOrderRow.holds Try.pinned (OpenSpec.ofChange graphOrderWrong)

/-- 'narthexlaw03.GraphNear': WHATEVER THE INPUT: true; the input reads as it did. -/
def graphNearSpec : ChangeSpec := { name := "graphNear", fn := fun _ => fun
  | [d1, d2, d3] => { results := [.lit (.bool true)], args := [d1, d2, d3] }
  | _ => none }
def graphNearRow : OpenClaim := { program := "ytdhhkpjbfkbcjaa", sum := "cbe3ad6c7614a67d286825cdf30a5c330de41a87e347f83825f0b794138d4324", func := "narthex/narthexlaw03.GraphNear", spec := "graphNear", inPlace := ["slices.overlaps[narthex/api.Edge]"], unfollowed := true, recurses := true, apart := false }
def GraphNearSaid : Prop := graphNearRow.holds Try.pinned (OpenSpec.ofChange graphNearSpec)

/-- ITS FALSE NEIGHBOUR: 'it returns false'. Refute it at one input. -/
def graphNearWrong : ChangeSpec := { name := "graphNear", fn := fun _ => fun
  | [d1, d2, d3] => { results := [.lit (.bool false)], args := [d1, d2, d3] }
  | _ => none }
def GraphNearWrongFalsely : Prop := graphNearRow.holds Try.pinned (OpenSpec.ofChange graphNearWrong)

/- THE SECOND FORM. 'bulk': how many values and letters a reading holds, each counted each time it is reached (what is shared counts as often as it is met; a slice's spare places count too). A statement '..UptoSaid' is the law's where the arguments, and the package variables that the reading takes, are together of bulk at most 1048576: NARROWER than '..Said'. Prove '..Said' where nothing that the law and all that it calls make is longer than what came in: it says more and counts as full. Else prove '..UptoSaid'. A law counts once. -/
mutual
def uptoBulk {H : Type} : DataW H → Nat
  | .lit (.string bytes) => bytes.length + 1
  | .lit _ => 1
  | .nil => 1
  | .ptr d => uptoBulk d + 1
  | .slice elems spare => uptoBulkAll elems + uptoBulkAll spare + 1
  | .agg parts => uptoBulkAll parts + 1
  | .iface _ d => uptoBulk d + 1
  | .map entries => uptoBulkEntries entries + 1
  | .held _ => 1
def uptoBulkAll {H : Type} : List (DataW H) → Nat
  | [] => 0
  | d :: r => uptoBulk d + uptoBulkAll r
def uptoBulkEntries {H : Type} : List (Lit × DataW H) → Nat
  | [] => 0
  | x :: r => uptoBulkEntry x + uptoBulkEntries r
def uptoBulkEntry {H : Type} : Lit × DataW H → Nat
  | (.string bytes, d) => bytes.length + uptoBulk d + 1
  | (_, d) => uptoBulk d + 1
 end
def uptoSmall : (H : Type) → List (DataW H) → Bool := fun _ ds => decide (uptoBulkAll ds ≤ 1048576)
def OpenSpec.upto (s : _root_.Go.ChangeSpec) : _root_.Go.OpenSpec := { _root_.Go.OpenSpec.ofChange s with cond := some uptoSmall }

/-- 'narthexlaw03.GraphChanges', WHERE WHAT IT READS IS OF BULK AT MOST 1048576: true; the input reads as it did. -/
def graphChangesUptoRow : OpenClaim := { program := "ytdhhkpjbfkbcjaa", sum := "cbe3ad6c7614a67d286825cdf30a5c330de41a87e347f83825f0b794138d4324", func := "narthex/narthexlaw03.GraphChanges", spec := "graphChanges", inPlace := ["slices.overlaps[narthex/api.Edge]"], unfollowed := true, recurses := true, apart := false, narrowed := true }
def GraphChangesUptoSaid : Prop := graphChangesUptoRow.holds Try.pinned (OpenSpec.upto graphChangesSpec)

/-- 'narthexlaw03.GraphBack', WHERE WHAT IT READS IS OF BULK AT MOST 1048576: true; the input reads as it did. -/
def graphBackUptoRow : OpenClaim := { program := "ytdhhkpjbfkbcjaa", sum := "cbe3ad6c7614a67d286825cdf30a5c330de41a87e347f83825f0b794138d4324", func := "narthex/narthexlaw03.GraphBack", spec := "graphBack", inPlace := ["slices.overlaps[narthex/api.Edge]"], unfollowed := true, recurses := true, apart := false, narrowed := true }
def GraphBackUptoSaid : Prop := graphBackUptoRow.holds Try.pinned (OpenSpec.upto graphBackSpec)

/-- 'narthexlaw03.GraphParts', WHERE WHAT IT READS IS OF BULK AT MOST 1048576: true; the input reads as it did. -/
def graphPartsUptoRow : OpenClaim := { program := "ytdhhkpjbfkbcjaa", sum := "cbe3ad6c7614a67d286825cdf30a5c330de41a87e347f83825f0b794138d4324", func := "narthex/narthexlaw03.GraphParts", spec := "graphParts", inPlace := ["slices.overlaps[narthex/api.Edge]"], unfollowed := true, recurses := true, apart := false, narrowed := true }
def GraphPartsUptoSaid : Prop := graphPartsUptoRow.holds Try.pinned (OpenSpec.upto graphPartsSpec)

/-- 'narthexlaw03.GraphOrder', WHERE WHAT IT READS IS OF BULK AT MOST 1048576: true; the input reads as it did. -/
def graphOrderUptoRow : OpenClaim := { program := "ytdhhkpjbfkbcjaa", sum := "cbe3ad6c7614a67d286825cdf30a5c330de41a87e347f83825f0b794138d4324", func := "narthex/narthexlaw03.GraphOrder", spec := "graphOrder", inPlace := ["slices.overlaps[narthex/api.Edge]"], unfollowed := true, recurses := true, apart := false, narrowed := true }
def GraphOrderUptoSaid : Prop := graphOrderUptoRow.holds Try.pinned (OpenSpec.upto graphOrderSpec)

/-- 'narthexlaw03.GraphNear', WHERE WHAT IT READS IS OF BULK AT MOST 1048576: true; the input reads as it did. -/
def graphNearUptoRow : OpenClaim := { program := "ytdhhkpjbfkbcjaa", sum := "cbe3ad6c7614a67d286825cdf30a5c330de41a87e347f83825f0b794138d4324", func := "narthex/narthexlaw03.GraphNear", spec := "graphNear", inPlace := ["slices.overlaps[narthex/api.Edge]"], unfollowed := true, recurses := true, apart := false, narrowed := true }
def GraphNearUptoSaid : Prop := graphNearUptoRow.holds Try.pinned (OpenSpec.upto graphNearSpec)

end Rows
end Go.Proofs.Ytdhhkpjbfkbcjaa
