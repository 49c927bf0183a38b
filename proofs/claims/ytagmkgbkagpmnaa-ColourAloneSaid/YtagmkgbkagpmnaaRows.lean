/-
  No cell of these rows narrows 'for every input' (looked for: loops, veiled, ifaces, maps, wideKeys, modest, calm, conditions, laid).
  DERIVED. THE GIVEN ROWS OF THIS SEAT. 6 by the template 'for every input the law returns true; each argument reads behind the call as it read before'; 0 by the template 'total and deterministic' (their statements: YtagmkgbkagpmnaaTotals.lean).
  GIVEN WITH THE SEED: the statements are not yours to turn. If you find one false, say at which input.
  Laid BY PROGRAM, IN A SANDBOX (cutbox-rows.mjs): the forced cells as the released guide's own fill.sh prints them over the translation 91270dfdc7680795… (all of the seat's roots in one cut). By AI agents, Wed Nov 11 2026. No macro, syntax, notation, axiom, sorry.
-/
import Derived.Test.YtagmkgbkagpmnaaChecked
import GoSem.Claim
import GoSem.ClaimJoined
import GoSem.ClaimMapViews
import Derived.JoinedTies
import Derived.KernelRfl
namespace Go.Proofs.Ytagmkgbkagpmnaa
/- THE CELL 'sum', in the pinned program and in every row, IS THE sha256 OF THE DUMP (.gsa) THAT YtagmkgbkagpmnaaProg.lean LOADS. Nothing in Lean hashes anything: it is a label: what it is worth is what the hold of that sum in a sandbox is worth. -/
noncomputable def Try.pinned : Pinned := { name := "ytagmkgbkagpmnaa", sum := "91270dfdc76807954f11e21db790e2c04089f24a5ca8ee08d95f072b6b5815a4", checked := Try.checked }
namespace Rows
def none {H : Type} : Left H := { results := [], args := [] }

/-- 'narthexlaw11.ColourRounds': WHATEVER THE INPUT: true; the input reads as it did. -/
def colourRoundsSpec : ChangeSpec := { name := "colourRounds", fn := fun _ => fun
  | [d1, d2] => { results := [.lit (.bool true)], args := [d1, d2] }
  | _ => none }
def colourRoundsRow : OpenClaim := { program := "ytagmkgbkagpmnaa", sum := "91270dfdc76807954f11e21db790e2c04089f24a5ca8ee08d95f072b6b5815a4", func := "narthex/narthexlaw11.ColourRounds", spec := "colourRounds", unfollowed := true, recurses := true, apart := false }
def ColourRoundsSaid : Prop := colourRoundsRow.holds Try.pinned (OpenSpec.ofChange colourRoundsSpec)

/-- ITS FALSE NEIGHBOUR: 'it returns false'. Refute it at one input. -/
def colourRoundsWrong : ChangeSpec := { name := "colourRounds", fn := fun _ => fun
  | [d1, d2] => { results := [.lit (.bool false)], args := [d1, d2] }
  | _ => none }
def ColourRoundsWrongFalsely : Prop := colourRoundsRow.holds Try.pinned (OpenSpec.ofChange colourRoundsWrong)

/-- 'narthexlaw11.ColourRuns': WHATEVER THE INPUT: true; the input reads as it did. -/
def colourRunsSpec : ChangeSpec := { name := "colourRuns", fn := fun _ => fun
  | [d] => { results := [.lit (.bool true)], args := [d] }
  | _ => none }
def colourRunsRow : OpenClaim := { program := "ytagmkgbkagpmnaa", sum := "91270dfdc76807954f11e21db790e2c04089f24a5ca8ee08d95f072b6b5815a4", func := "narthex/narthexlaw11.ColourRuns", spec := "colourRuns", unfollowed := true, recurses := true, apart := false }
def ColourRunsSaid : Prop := colourRunsRow.holds Try.pinned (OpenSpec.ofChange colourRunsSpec)

/-- ITS FALSE NEIGHBOUR: 'it returns false'. Refute it at one input. -/
def colourRunsWrong : ChangeSpec := { name := "colourRuns", fn := fun _ => fun
  | [d] => { results := [.lit (.bool false)], args := [d] }
  | _ => none }
def ColourRunsWrongFalsely : Prop := colourRunsRow.holds Try.pinned (OpenSpec.ofChange colourRunsWrong)

/-- 'narthexlaw11.ColourRight': WHATEVER THE INPUT: true; the input reads as it did. -/
def colourRightSpec : ChangeSpec := { name := "colourRight", fn := fun _ => fun
  | [d] => { results := [.lit (.bool true)], args := [d] }
  | _ => none }
def colourRightRow : OpenClaim := { program := "ytagmkgbkagpmnaa", sum := "91270dfdc76807954f11e21db790e2c04089f24a5ca8ee08d95f072b6b5815a4", func := "narthex/narthexlaw11.ColourRight", spec := "colourRight", unfollowed := true, recurses := true, apart := false }
def ColourRightSaid : Prop := colourRightRow.holds Try.pinned (OpenSpec.ofChange colourRightSpec)

/-- ITS FALSE NEIGHBOUR: 'it returns false'. Refute it at one input. -/
def colourRightWrong : ChangeSpec := { name := "colourRight", fn := fun _ => fun
  | [d] => { results := [.lit (.bool false)], args := [d] }
  | _ => none }
def ColourRightWrongFalsely : Prop := colourRightRow.holds Try.pinned (OpenSpec.ofChange colourRightWrong)

/-- 'narthexlaw11.ColourGreedy': WHATEVER THE INPUT: true; the input reads as it did. -/
def colourGreedySpec : ChangeSpec := { name := "colourGreedy", fn := fun _ => fun
  | [d] => { results := [.lit (.bool true)], args := [d] }
  | _ => none }
def colourGreedyRow : OpenClaim := { program := "ytagmkgbkagpmnaa", sum := "91270dfdc76807954f11e21db790e2c04089f24a5ca8ee08d95f072b6b5815a4", func := "narthex/narthexlaw11.ColourGreedy", spec := "colourGreedy", unfollowed := true, recurses := true, apart := false }
def ColourGreedySaid : Prop := colourGreedyRow.holds Try.pinned (OpenSpec.ofChange colourGreedySpec)

/-- ITS FALSE NEIGHBOUR: 'it returns false'. Refute it at one input. -/
def colourGreedyWrong : ChangeSpec := { name := "colourGreedy", fn := fun _ => fun
  | [d] => { results := [.lit (.bool false)], args := [d] }
  | _ => none }
def ColourGreedyWrongFalsely : Prop := colourGreedyRow.holds Try.pinned (OpenSpec.ofChange colourGreedyWrong)

/-- 'narthexlaw11.ColourStays': WHATEVER THE INPUT: true; the input reads as it did. -/
def colourStaysSpec : ChangeSpec := { name := "colourStays", fn := fun _ => fun
  | [d1, d2] => { results := [.lit (.bool true)], args := [d1, d2] }
  | _ => none }
def colourStaysRow : OpenClaim := { program := "ytagmkgbkagpmnaa", sum := "91270dfdc76807954f11e21db790e2c04089f24a5ca8ee08d95f072b6b5815a4", func := "narthex/narthexlaw11.ColourStays", spec := "colourStays", unfollowed := true, recurses := true, apart := false }
def ColourStaysSaid : Prop := colourStaysRow.holds Try.pinned (OpenSpec.ofChange colourStaysSpec)

/-- ITS FALSE NEIGHBOUR: 'it returns false'. Refute it at one input. -/
def colourStaysWrong : ChangeSpec := { name := "colourStays", fn := fun _ => fun
  | [d1, d2] => { results := [.lit (.bool false)], args := [d1, d2] }
  | _ => none }
def ColourStaysWrongFalsely : Prop := colourStaysRow.holds Try.pinned (OpenSpec.ofChange colourStaysWrong)

/-- 'narthexlaw11.ColourAlone': WHATEVER THE INPUT: true; the input reads as it did. -/
def colourAloneSpec : ChangeSpec := { name := "colourAlone", fn := fun _ => fun
  | [d] => { results := [.lit (.bool true)], args := [d] }
  | _ => none }
def colourAloneRow : OpenClaim := { program := "ytagmkgbkagpmnaa", sum := "91270dfdc76807954f11e21db790e2c04089f24a5ca8ee08d95f072b6b5815a4", func := "narthex/narthexlaw11.ColourAlone", spec := "colourAlone", unfollowed := true, recurses := true, apart := false }
def ColourAloneSaid : Prop := colourAloneRow.holds Try.pinned (OpenSpec.ofChange colourAloneSpec)

/-- ITS FALSE NEIGHBOUR: 'it returns false'. Refute it at one input. -/
def colourAloneWrong : ChangeSpec := { name := "colourAlone", fn := fun _ => fun
  | [d] => { results := [.lit (.bool false)], args := [d] }
  | _ => none }
def ColourAloneWrongFalsely : Prop := colourAloneRow.holds Try.pinned (OpenSpec.ofChange colourAloneWrong)

/- THE SECOND FORM. 'bulk': how many values and letters a reading holds, each counted each time it is reached (what is shared counts as often as it is met; a slice's spare places count too). A statement '..UptoSaid' is the law's where the arguments, and the package variables that the reading takes, are together of bulk at most 1048576: NARROWER than '..Said'. Prove '..Said' where nothing that the law and all that it calls make is longer than what came in: it says more and counts as full. Else prove '..UptoSaid'. A law counts once. -/
mutual
def uptoBulk {H : Type} : DataW H → Nat
  | .lit (.string bytes) => bytes.length + 1
  | .lit _ => 1
  | .nil => 1
  | .ptr d => uptoBulk d + 1
  | .slice elems spare => uptoBulkAll elems + uptoBulkAll spare + 1
  | .agg parts => uptoBulkAll parts + 1
  | .iface _ d => uptoBulk d + 1
  | .map entries => uptoBulkEntries entries + 1
  | .held _ => 1
def uptoBulkAll {H : Type} : List (DataW H) → Nat
  | [] => 0
  | d :: r => uptoBulk d + uptoBulkAll r
def uptoBulkEntries {H : Type} : List (Lit × DataW H) → Nat
  | [] => 0
  | x :: r => uptoBulkEntry x + uptoBulkEntries r
def uptoBulkEntry {H : Type} : Lit × DataW H → Nat
  | (.string bytes, d) => bytes.length + uptoBulk d + 1
  | (_, d) => uptoBulk d + 1
 end
def uptoSmall : (H : Type) → List (DataW H) → Bool := fun _ ds => decide (uptoBulkAll ds ≤ 1048576)
def OpenSpec.upto (s : _root_.Go.ChangeSpec) : _root_.Go.OpenSpec := { _root_.Go.OpenSpec.ofChange s with cond := some uptoSmall }

/-- 'narthexlaw11.ColourRounds', WHERE WHAT IT READS IS OF BULK AT MOST 1048576: true; the input reads as it did. -/
def colourRoundsUptoRow : OpenClaim := { program := "ytagmkgbkagpmnaa", sum := "91270dfdc76807954f11e21db790e2c04089f24a5ca8ee08d95f072b6b5815a4", func := "narthex/narthexlaw11.ColourRounds", spec := "colourRounds", unfollowed := true, recurses := true, apart := false, narrowed := true }
def ColourRoundsUptoSaid : Prop := colourRoundsUptoRow.holds Try.pinned (OpenSpec.upto colourRoundsSpec)

/-- 'narthexlaw11.ColourRuns', WHERE WHAT IT READS IS OF BULK AT MOST 1048576: true; the input reads as it did. -/
def colourRunsUptoRow : OpenClaim := { program := "ytagmkgbkagpmnaa", sum := "91270dfdc76807954f11e21db790e2c04089f24a5ca8ee08d95f072b6b5815a4", func := "narthex/narthexlaw11.ColourRuns", spec := "colourRuns", unfollowed := true, recurses := true, apart := false, narrowed := true }
def ColourRunsUptoSaid : Prop := colourRunsUptoRow.holds Try.pinned (OpenSpec.upto colourRunsSpec)

/-- 'narthexlaw11.ColourRight', WHERE WHAT IT READS IS OF BULK AT MOST 1048576: true; the input reads as it did. -/
def colourRightUptoRow : OpenClaim := { program := "ytagmkgbkagpmnaa", sum := "91270dfdc76807954f11e21db790e2c04089f24a5ca8ee08d95f072b6b5815a4", func := "narthex/narthexlaw11.ColourRight", spec := "colourRight", unfollowed := true, recurses := true, apart := false, narrowed := true }
def ColourRightUptoSaid : Prop := colourRightUptoRow.holds Try.pinned (OpenSpec.upto colourRightSpec)

/-- 'narthexlaw11.ColourGreedy', WHERE WHAT IT READS IS OF BULK AT MOST 1048576: true; the input reads as it did. -/
def colourGreedyUptoRow : OpenClaim := { program := "ytagmkgbkagpmnaa", sum := "91270dfdc76807954f11e21db790e2c04089f24a5ca8ee08d95f072b6b5815a4", func := "narthex/narthexlaw11.ColourGreedy", spec := "colourGreedy", unfollowed := true, recurses := true, apart := false, narrowed := true }
def ColourGreedyUptoSaid : Prop := colourGreedyUptoRow.holds Try.pinned (OpenSpec.upto colourGreedySpec)

/-- 'narthexlaw11.ColourStays', WHERE WHAT IT READS IS OF BULK AT MOST 1048576: true; the input reads as it did. -/
def colourStaysUptoRow : OpenClaim := { program := "ytagmkgbkagpmnaa", sum := "91270dfdc76807954f11e21db790e2c04089f24a5ca8ee08d95f072b6b5815a4", func := "narthex/narthexlaw11.ColourStays", spec := "colourStays", unfollowed := true, recurses := true, apart := false, narrowed := true }
def ColourStaysUptoSaid : Prop := colourStaysUptoRow.holds Try.pinned (OpenSpec.upto colourStaysSpec)

/-- 'narthexlaw11.ColourAlone', WHERE WHAT IT READS IS OF BULK AT MOST 1048576: true; the input reads as it did. -/
def colourAloneUptoRow : OpenClaim := { program := "ytagmkgbkagpmnaa", sum := "91270dfdc76807954f11e21db790e2c04089f24a5ca8ee08d95f072b6b5815a4", func := "narthex/narthexlaw11.ColourAlone", spec := "colourAlone", unfollowed := true, recurses := true, apart := false, narrowed := true }
def ColourAloneUptoSaid : Prop := colourAloneUptoRow.holds Try.pinned (OpenSpec.upto colourAloneSpec)

end Rows
end Go.Proofs.Ytagmkgbkagpmnaa
