/-
  No cell of these rows narrows 'for every input' (looked for: loops, veiled, ifaces, maps, wideKeys, modest, calm, conditions, laid).
  DERIVED. THE GIVEN ROWS OF THIS SEAT. 7 by the template 'for every input the law returns true; each argument reads behind the call as it read before'; 0 by the template 'total and deterministic' (their statements: YtnoffbgiaenmpaaTotals.lean).
  GIVEN WITH THE SEED: the statements are not yours to turn. If you find one false, say at which input.
  Laid BY PROGRAM, IN A SANDBOX (cutbox-rows.mjs): the forced cells as the released guide's own fill.sh prints them over the translation cf0e3413ad4ef425… (all of the seat's roots in one cut). By AI agents, Wed Nov 11 2026. No macro, syntax, notation, axiom, sorry.
-/
import Derived.Test.YtnoffbgiaenmpaaChecked
import GoSem.Claim
import GoSem.ClaimJoined
import GoSem.ClaimMapViews
import Derived.JoinedTies
import Derived.KernelRfl
namespace Go.Proofs.Ytnoffbgiaenmpaa
/- THE CELL 'sum', in the pinned program and in every row, IS THE sha256 OF THE DUMP (.gsa) THAT YtnoffbgiaenmpaaProg.lean LOADS. Nothing in Lean hashes anything: it is a label: what it is worth is what the hold of that sum in a sandbox is worth. -/
noncomputable def Try.pinned : Pinned := { name := "ytnoffbgiaenmpaa", sum := "cf0e3413ad4ef425b264be7e0cc7f3b9ab0a3bc5d879daa21c031fb5b5ca9d0b", checked := Try.checked }
namespace Rows
def none {H : Type} : Left H := { results := [], args := [] }

/-- 'narthexlaw04.DagOrders': WHATEVER THE INPUT: true; the input reads as it did. -/
def dagOrdersSpec : ChangeSpec := { name := "dagOrders", fn := fun _ => fun
  | [d1, d2] => { results := [.lit (.bool true)], args := [d1, d2] }
  | _ => none }
def dagOrdersRow : OpenClaim := { program := "ytnoffbgiaenmpaa", sum := "cf0e3413ad4ef425b264be7e0cc7f3b9ab0a3bc5d879daa21c031fb5b5ca9d0b", func := "narthex/narthexlaw04.DagOrders", spec := "dagOrders", unfollowed := true, recurses := true, apart := false }
def DagOrdersSaid : Prop := dagOrdersRow.holds Try.pinned (OpenSpec.ofChange dagOrdersSpec)

/-- ITS FALSE NEIGHBOUR: 'it returns false'. Refute it at one input. -/
def dagOrdersWrong : ChangeSpec := { name := "dagOrders", fn := fun _ => fun
  | [d1, d2] => { results := [.lit (.bool false)], args := [d1, d2] }
  | _ => none }
def DagOrdersWrongFalsely : Prop := dagOrdersRow.holds Try.pinned (OpenSpec.ofChange dagOrdersWrong)

/-- 'narthexlaw04.DagCycles': WHATEVER THE INPUT: true; the input reads as it did. -/
def dagCyclesSpec : ChangeSpec := { name := "dagCycles", fn := fun _ => fun
  | [d1, d2] => { results := [.lit (.bool true)], args := [d1, d2] }
  | _ => none }
def dagCyclesRow : OpenClaim := { program := "ytnoffbgiaenmpaa", sum := "cf0e3413ad4ef425b264be7e0cc7f3b9ab0a3bc5d879daa21c031fb5b5ca9d0b", func := "narthex/narthexlaw04.DagCycles", spec := "dagCycles", unfollowed := true, recurses := true, apart := false }
def DagCyclesSaid : Prop := dagCyclesRow.holds Try.pinned (OpenSpec.ofChange dagCyclesSpec)

/-- ITS FALSE NEIGHBOUR: 'it returns false'. Refute it at one input. -/
def dagCyclesWrong : ChangeSpec := { name := "dagCycles", fn := fun _ => fun
  | [d1, d2] => { results := [.lit (.bool false)], args := [d1, d2] }
  | _ => none }
def DagCyclesWrongFalsely : Prop := dagCyclesRow.holds Try.pinned (OpenSpec.ofChange dagCyclesWrong)

/-- 'narthexlaw04.DagFlips': WHATEVER THE INPUT: true; the input reads as it did. -/
def dagFlipsSpec : ChangeSpec := { name := "dagFlips", fn := fun _ => fun
  | [d1, d2, d3] => { results := [.lit (.bool true)], args := [d1, d2, d3] }
  | _ => none }
def dagFlipsRow : OpenClaim := { program := "ytnoffbgiaenmpaa", sum := "cf0e3413ad4ef425b264be7e0cc7f3b9ab0a3bc5d879daa21c031fb5b5ca9d0b", func := "narthex/narthexlaw04.DagFlips", spec := "dagFlips", unfollowed := true, recurses := true, apart := false }
def DagFlipsSaid : Prop := dagFlipsRow.holds Try.pinned (OpenSpec.ofChange dagFlipsSpec)

/-- ITS FALSE NEIGHBOUR: 'it returns false'. Refute it at one input. -/
def dagFlipsWrong : ChangeSpec := { name := "dagFlips", fn := fun _ => fun
  | [d1, d2, d3] => { results := [.lit (.bool false)], args := [d1, d2, d3] }
  | _ => none }
def DagFlipsWrongFalsely : Prop := dagFlipsRow.holds Try.pinned (OpenSpec.ofChange dagFlipsWrong)

/-- 'narthexlaw04.DagDeep': WHATEVER THE INPUT: true; the input reads as it did. -/
def dagDeepSpec : ChangeSpec := { name := "dagDeep", fn := fun _ => fun
  | [d1, d2] => { results := [.lit (.bool true)], args := [d1, d2] }
  | _ => none }
def dagDeepRow : OpenClaim := { program := "ytnoffbgiaenmpaa", sum := "cf0e3413ad4ef425b264be7e0cc7f3b9ab0a3bc5d879daa21c031fb5b5ca9d0b", func := "narthex/narthexlaw04.DagDeep", spec := "dagDeep", unfollowed := true, recurses := true, apart := false }
def DagDeepSaid : Prop := dagDeepRow.holds Try.pinned (OpenSpec.ofChange dagDeepSpec)

/-- ITS FALSE NEIGHBOUR: 'it returns false'. Refute it at one input. -/
def dagDeepWrong : ChangeSpec := { name := "dagDeep", fn := fun _ => fun
  | [d1, d2] => { results := [.lit (.bool false)], args := [d1, d2] }
  | _ => none }
def DagDeepWrongFalsely : Prop := dagDeepRow.holds Try.pinned (OpenSpec.ofChange dagDeepWrong)

/-- 'narthexlaw04.DagLess': WHATEVER THE INPUT: true; the input reads as it did. -/
def dagLessSpec : ChangeSpec := { name := "dagLess", fn := fun _ => fun
  | [d1, d2, d3] => { results := [.lit (.bool true)], args := [d1, d2, d3] }
  | _ => none }
def dagLessRow : OpenClaim := { program := "ytnoffbgiaenmpaa", sum := "cf0e3413ad4ef425b264be7e0cc7f3b9ab0a3bc5d879daa21c031fb5b5ca9d0b", func := "narthex/narthexlaw04.DagLess", spec := "dagLess", unfollowed := true, recurses := true, apart := false }
def DagLessSaid : Prop := dagLessRow.holds Try.pinned (OpenSpec.ofChange dagLessSpec)

/-- ITS FALSE NEIGHBOUR: 'it returns false'. Refute it at one input. -/
def dagLessWrong : ChangeSpec := { name := "dagLess", fn := fun _ => fun
  | [d1, d2, d3] => { results := [.lit (.bool false)], args := [d1, d2, d3] }
  | _ => none }
def DagLessWrongFalsely : Prop := dagLessRow.holds Try.pinned (OpenSpec.ofChange dagLessWrong)

/-- 'narthexlaw04.DagSink': WHATEVER THE INPUT: true; the input reads as it did. -/
def dagSinkSpec : ChangeSpec := { name := "dagSink", fn := fun _ => fun
  | [d1, d2, d3, d4] => { results := [.lit (.bool true)], args := [d1, d2, d3, d4] }
  | _ => none }
def dagSinkRow : OpenClaim := { program := "ytnoffbgiaenmpaa", sum := "cf0e3413ad4ef425b264be7e0cc7f3b9ab0a3bc5d879daa21c031fb5b5ca9d0b", func := "narthex/narthexlaw04.DagSink", spec := "dagSink", unfollowed := true, recurses := true, apart := false }
def DagSinkSaid : Prop := dagSinkRow.holds Try.pinned (OpenSpec.ofChange dagSinkSpec)

/-- ITS FALSE NEIGHBOUR: 'it returns false'. Refute it at one input. -/
def dagSinkWrong : ChangeSpec := { name := "dagSink", fn := fun _ => fun
  | [d1, d2, d3, d4] => { results := [.lit (.bool false)], args := [d1, d2, d3, d4] }
  | _ => none }
def DagSinkWrongFalsely : Prop := dagSinkRow.holds Try.pinned (OpenSpec.ofChange dagSinkWrong)

/-- 'narthexlaw04.DagEither': WHATEVER THE INPUT: true; the input reads as it did. -/
def dagEitherSpec : ChangeSpec := { name := "dagEither", fn := fun _ => fun
  | [d1, d2] => { results := [.lit (.bool true)], args := [d1, d2] }
  | _ => none }
def dagEitherRow : OpenClaim := { program := "ytnoffbgiaenmpaa", sum := "cf0e3413ad4ef425b264be7e0cc7f3b9ab0a3bc5d879daa21c031fb5b5ca9d0b", func := "narthex/narthexlaw04.DagEither", spec := "dagEither", unfollowed := true, recurses := true, apart := false }
def DagEitherSaid : Prop := dagEitherRow.holds Try.pinned (OpenSpec.ofChange dagEitherSpec)

/-- ITS FALSE NEIGHBOUR: 'it returns false'. Refute it at one input. -/
def dagEitherWrong : ChangeSpec := { name := "dagEither", fn := fun _ => fun
  | [d1, d2] => { results := [.lit (.bool false)], args := [d1, d2] }
  | _ => none }
def DagEitherWrongFalsely : Prop := dagEitherRow.holds Try.pinned (OpenSpec.ofChange dagEitherWrong)

/- THE SECOND FORM. 'bulk': how many values and letters a reading holds, each counted each time it is reached (what is shared counts as often as it is met; a slice's spare places count too). A statement '..UptoSaid' is the law's where the arguments, and the package variables that the reading takes, are together of bulk at most 1048576: NARROWER than '..Said'. Prove '..Said' where nothing that the law and all that it calls make is longer than what came in: it says more and counts as full. Else prove '..UptoSaid'. A law counts once. -/
mutual
def uptoBulk {H : Type} : DataW H → Nat
  | .lit (.string bytes) => bytes.length + 1
  | .lit _ => 1
  | .nil => 1
  | .ptr d => uptoBulk d + 1
  | .slice elems spare => uptoBulkAll elems + uptoBulkAll spare + 1
  | .agg parts => uptoBulkAll parts + 1
  | .iface _ d => uptoBulk d + 1
  | .map entries => uptoBulkEntries entries + 1
  | .held _ => 1
def uptoBulkAll {H : Type} : List (DataW H) → Nat
  | [] => 0
  | d :: r => uptoBulk d + uptoBulkAll r
def uptoBulkEntries {H : Type} : List (Lit × DataW H) → Nat
  | [] => 0
  | x :: r => uptoBulkEntry x + uptoBulkEntries r
def uptoBulkEntry {H : Type} : Lit × DataW H → Nat
  | (.string bytes, d) => bytes.length + uptoBulk d + 1
  | (_, d) => uptoBulk d + 1
 end
def uptoSmall : (H : Type) → List (DataW H) → Bool := fun _ ds => decide (uptoBulkAll ds ≤ 1048576)
def OpenSpec.upto (s : _root_.Go.ChangeSpec) : _root_.Go.OpenSpec := { _root_.Go.OpenSpec.ofChange s with cond := some uptoSmall }

/-- 'narthexlaw04.DagOrders', WHERE WHAT IT READS IS OF BULK AT MOST 1048576: true; the input reads as it did. -/
def dagOrdersUptoRow : OpenClaim := { program := "ytnoffbgiaenmpaa", sum := "cf0e3413ad4ef425b264be7e0cc7f3b9ab0a3bc5d879daa21c031fb5b5ca9d0b", func := "narthex/narthexlaw04.DagOrders", spec := "dagOrders", unfollowed := true, recurses := true, apart := false, narrowed := true }
def DagOrdersUptoSaid : Prop := dagOrdersUptoRow.holds Try.pinned (OpenSpec.upto dagOrdersSpec)

/-- 'narthexlaw04.DagCycles', WHERE WHAT IT READS IS OF BULK AT MOST 1048576: true; the input reads as it did. -/
def dagCyclesUptoRow : OpenClaim := { program := "ytnoffbgiaenmpaa", sum := "cf0e3413ad4ef425b264be7e0cc7f3b9ab0a3bc5d879daa21c031fb5b5ca9d0b", func := "narthex/narthexlaw04.DagCycles", spec := "dagCycles", unfollowed := true, recurses := true, apart := false, narrowed := true }
def DagCyclesUptoSaid : Prop := dagCyclesUptoRow.holds Try.pinned (OpenSpec.upto dagCyclesSpec)

/-- 'narthexlaw04.DagFlips', WHERE WHAT IT READS IS OF BULK AT MOST 1048576: true; the input reads as it did. -/
def dagFlipsUptoRow : OpenClaim := { program := "ytnoffbgiaenmpaa", sum := "cf0e3413ad4ef425b264be7e0cc7f3b9ab0a3bc5d879daa21c031fb5b5ca9d0b", func := "narthex/narthexlaw04.DagFlips", spec := "dagFlips", unfollowed := true, recurses := true, apart := false, narrowed := true }
def DagFlipsUptoSaid : Prop := dagFlipsUptoRow.holds Try.pinned (OpenSpec.upto dagFlipsSpec)

/-- 'narthexlaw04.DagDeep', WHERE WHAT IT READS IS OF BULK AT MOST 1048576: true; the input reads as it did. -/
def dagDeepUptoRow : OpenClaim := { program := "ytnoffbgiaenmpaa", sum := "cf0e3413ad4ef425b264be7e0cc7f3b9ab0a3bc5d879daa21c031fb5b5ca9d0b", func := "narthex/narthexlaw04.DagDeep", spec := "dagDeep", unfollowed := true, recurses := true, apart := false, narrowed := true }
def DagDeepUptoSaid : Prop := dagDeepUptoRow.holds Try.pinned (OpenSpec.upto dagDeepSpec)

/-- 'narthexlaw04.DagLess', WHERE WHAT IT READS IS OF BULK AT MOST 1048576: true; the input reads as it did. -/
def dagLessUptoRow : OpenClaim := { program := "ytnoffbgiaenmpaa", sum := "cf0e3413ad4ef425b264be7e0cc7f3b9ab0a3bc5d879daa21c031fb5b5ca9d0b", func := "narthex/narthexlaw04.DagLess", spec := "dagLess", unfollowed := true, recurses := true, apart := false, narrowed := true }
def DagLessUptoSaid : Prop := dagLessUptoRow.holds Try.pinned (OpenSpec.upto dagLessSpec)

/-- 'narthexlaw04.DagSink', WHERE WHAT IT READS IS OF BULK AT MOST 1048576: true; the input reads as it did. -/
def dagSinkUptoRow : OpenClaim := { program := "ytnoffbgiaenmpaa", sum := "cf0e3413ad4ef425b264be7e0cc7f3b9ab0a3bc5d879daa21c031fb5b5ca9d0b", func := "narthex/narthexlaw04.DagSink", spec := "dagSink", unfollowed := true, recurses := true, apart := false, narrowed := true }
def DagSinkUptoSaid : Prop := dagSinkUptoRow.holds Try.pinned (OpenSpec.upto dagSinkSpec)

/-- 'narthexlaw04.DagEither', WHERE WHAT IT READS IS OF BULK AT MOST 1048576: true; the input reads as it did. -/
def dagEitherUptoRow : OpenClaim := { program := "ytnoffbgiaenmpaa", sum := "cf0e3413ad4ef425b264be7e0cc7f3b9ab0a3bc5d879daa21c031fb5b5ca9d0b", func := "narthex/narthexlaw04.DagEither", spec := "dagEither", unfollowed := true, recurses := true, apart := false, narrowed := true }
def DagEitherUptoSaid : Prop := dagEitherUptoRow.holds Try.pinned (OpenSpec.upto dagEitherSpec)

end Rows
end Go.Proofs.Ytnoffbgiaenmpaa
