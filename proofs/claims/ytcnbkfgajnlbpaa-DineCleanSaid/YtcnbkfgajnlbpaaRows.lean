/-
  No cell of these rows narrows 'for every input' (looked for: loops, veiled, ifaces, maps, wideKeys, modest, calm, conditions, laid).
  DERIVED. THE GIVEN ROWS OF THIS SEAT. 7 by the template 'for every input the law returns true; each argument reads behind the call as it read before'; 0 by the template 'total and deterministic' (their statements: YtcnbkfgajnlbpaaTotals.lean).
  GIVEN WITH THE SEED: the statements are not yours to turn. If you find one false, say at which input.
  Laid BY PROGRAM, IN A SANDBOX (cutbox-rows.mjs): the forced cells as the released guide's own fill.sh prints them over the translation 41f2518a39a638ed… (all of the seat's roots in one cut). By AI agents, Wed Nov 11 2026. No macro, syntax, notation, axiom, sorry.
-/
import Derived.Test.YtcnbkfgajnlbpaaChecked
import GoSem.Claim
import GoSem.ClaimJoined
import GoSem.ClaimMapViews
import Derived.JoinedTies
import Derived.KernelRfl
namespace Go.Proofs.Ytcnbkfgajnlbpaa
/- THE CELL 'sum', in the pinned program and in every row, IS THE sha256 OF THE DUMP (.gsa) THAT YtcnbkfgajnlbpaaProg.lean LOADS. Nothing in Lean hashes anything: it is a label: what it is worth is what the hold of that sum in a sandbox is worth. -/
noncomputable def Try.pinned : Pinned := { name := "ytcnbkfgajnlbpaa", sum := "41f2518a39a638ed001ce1010c2e2d47e879a7cdf52b764fcb7f47414f648d63", checked := Try.checked }
namespace Rows
def none {H : Type} : Left H := { results := [], args := [] }

/-- 'narthexlaw13.DineFires': WHATEVER THE INPUT: true; the input reads as it did. -/
def dineFiresSpec : ChangeSpec := { name := "dineFires", fn := fun _ => fun
  | [d1, d2] => { results := [.lit (.bool true)], args := [d1, d2] }
  | _ => none }
def dineFiresRow : OpenClaim := { program := "ytcnbkfgajnlbpaa", sum := "41f2518a39a638ed001ce1010c2e2d47e879a7cdf52b764fcb7f47414f648d63", func := "narthex/narthexlaw13.DineFires", spec := "dineFires", unfollowed := true, recurses := true, apart := false }
def DineFiresSaid : Prop := dineFiresRow.holds Try.pinned (OpenSpec.ofChange dineFiresSpec)

/-- ITS FALSE NEIGHBOUR: 'it returns false'. Refute it at one input. -/
def dineFiresWrong : ChangeSpec := { name := "dineFires", fn := fun _ => fun
  | [d1, d2] => { results := [.lit (.bool false)], args := [d1, d2] }
  | _ => none }
def DineFiresWrongFalsely : Prop := dineFiresRow.holds Try.pinned (OpenSpec.ofChange dineFiresWrong)

/-- 'narthexlaw13.DineGets': WHATEVER THE INPUT: true; the input reads as it did. -/
def dineGetsSpec : ChangeSpec := { name := "dineGets", fn := fun _ => fun
  | [d1, d2, d3] => { results := [.lit (.bool true)], args := [d1, d2, d3] }
  | _ => none }
def dineGetsRow : OpenClaim := { program := "ytcnbkfgajnlbpaa", sum := "41f2518a39a638ed001ce1010c2e2d47e879a7cdf52b764fcb7f47414f648d63", func := "narthex/narthexlaw13.DineGets", spec := "dineGets", unfollowed := true, recurses := true, apart := false }
def DineGetsSaid : Prop := dineGetsRow.holds Try.pinned (OpenSpec.ofChange dineGetsSpec)

/-- ITS FALSE NEIGHBOUR: 'it returns false'. Refute it at one input. -/
def dineGetsWrong : ChangeSpec := { name := "dineGets", fn := fun _ => fun
  | [d1, d2, d3] => { results := [.lit (.bool false)], args := [d1, d2, d3] }
  | _ => none }
def DineGetsWrongFalsely : Prop := dineGetsRow.holds Try.pinned (OpenSpec.ofChange dineGetsWrong)

/-- 'narthexlaw13.DineTurns': WHATEVER THE INPUT: true; the input reads as it did. -/
def dineTurnsSpec : ChangeSpec := { name := "dineTurns", fn := fun _ => fun
  | [d] => { results := [.lit (.bool true)], args := [d] }
  | _ => none }
def dineTurnsRow : OpenClaim := { program := "ytcnbkfgajnlbpaa", sum := "41f2518a39a638ed001ce1010c2e2d47e879a7cdf52b764fcb7f47414f648d63", func := "narthex/narthexlaw13.DineTurns", spec := "dineTurns", unfollowed := true, recurses := true, apart := false }
def DineTurnsSaid : Prop := dineTurnsRow.holds Try.pinned (OpenSpec.ofChange dineTurnsSpec)

/-- ITS FALSE NEIGHBOUR: 'it returns false'. Refute it at one input. -/
def dineTurnsWrong : ChangeSpec := { name := "dineTurns", fn := fun _ => fun
  | [d] => { results := [.lit (.bool false)], args := [d] }
  | _ => none }
def DineTurnsWrongFalsely : Prop := dineTurnsRow.holds Try.pinned (OpenSpec.ofChange dineTurnsWrong)

/-- 'narthexlaw13.DineStill': WHATEVER THE INPUT: true; the input reads as it did. -/
def dineStillSpec : ChangeSpec := { name := "dineStill", fn := fun _ => fun
  | [d] => { results := [.lit (.bool true)], args := [d] }
  | _ => none }
def dineStillRow : OpenClaim := { program := "ytcnbkfgajnlbpaa", sum := "41f2518a39a638ed001ce1010c2e2d47e879a7cdf52b764fcb7f47414f648d63", func := "narthex/narthexlaw13.DineStill", spec := "dineStill", unfollowed := true, recurses := true, apart := false }
def DineStillSaid : Prop := dineStillRow.holds Try.pinned (OpenSpec.ofChange dineStillSpec)

/-- ITS FALSE NEIGHBOUR: 'it returns false'. Refute it at one input. -/
def dineStillWrong : ChangeSpec := { name := "dineStill", fn := fun _ => fun
  | [d] => { results := [.lit (.bool false)], args := [d] }
  | _ => none }
def DineStillWrongFalsely : Prop := dineStillRow.holds Try.pinned (OpenSpec.ofChange dineStillWrong)

/-- 'narthexlaw13.DineKeeps': WHATEVER THE INPUT: true; the input reads as it did. -/
def dineKeepsSpec : ChangeSpec := { name := "dineKeeps", fn := fun _ => fun
  | [d] => { results := [.lit (.bool true)], args := [d] }
  | _ => none }
def dineKeepsRow : OpenClaim := { program := "ytcnbkfgajnlbpaa", sum := "41f2518a39a638ed001ce1010c2e2d47e879a7cdf52b764fcb7f47414f648d63", func := "narthex/narthexlaw13.DineKeeps", spec := "dineKeeps", unfollowed := true, recurses := true, apart := false }
def DineKeepsSaid : Prop := dineKeepsRow.holds Try.pinned (OpenSpec.ofChange dineKeepsSpec)

/-- ITS FALSE NEIGHBOUR: 'it returns false'. Refute it at one input. -/
def dineKeepsWrong : ChangeSpec := { name := "dineKeeps", fn := fun _ => fun
  | [d] => { results := [.lit (.bool false)], args := [d] }
  | _ => none }
def DineKeepsWrongFalsely : Prop := dineKeepsRow.holds Try.pinned (OpenSpec.ofChange dineKeepsWrong)

/-- 'narthexlaw13.DineClean': WHATEVER THE INPUT: true; the input reads as it did. -/
def dineCleanSpec : ChangeSpec := { name := "dineClean", fn := fun _ => fun
  | [d1, d2, d3] => { results := [.lit (.bool true)], args := [d1, d2, d3] }
  | _ => none }
def dineCleanRow : OpenClaim := { program := "ytcnbkfgajnlbpaa", sum := "41f2518a39a638ed001ce1010c2e2d47e879a7cdf52b764fcb7f47414f648d63", func := "narthex/narthexlaw13.DineClean", spec := "dineClean", unfollowed := true, recurses := true, apart := false }
def DineCleanSaid : Prop := dineCleanRow.holds Try.pinned (OpenSpec.ofChange dineCleanSpec)

/-- ITS FALSE NEIGHBOUR: 'it returns false'. Refute it at one input. -/
def dineCleanWrong : ChangeSpec := { name := "dineClean", fn := fun _ => fun
  | [d1, d2, d3] => { results := [.lit (.bool false)], args := [d1, d2, d3] }
  | _ => none }
def DineCleanWrongFalsely : Prop := dineCleanRow.holds Try.pinned (OpenSpec.ofChange dineCleanWrong)

/-- 'narthexlaw13.DineRow': WHATEVER THE INPUT: true; the input reads as it did. -/
def dineRowSpec : ChangeSpec := { name := "dineRow", fn := fun _ => fun
  | [d] => { results := [.lit (.bool true)], args := [d] }
  | _ => none }
def dineRowRow : OpenClaim := { program := "ytcnbkfgajnlbpaa", sum := "41f2518a39a638ed001ce1010c2e2d47e879a7cdf52b764fcb7f47414f648d63", func := "narthex/narthexlaw13.DineRow", spec := "dineRow", unfollowed := true, recurses := true, apart := false }
def DineRowSaid : Prop := dineRowRow.holds Try.pinned (OpenSpec.ofChange dineRowSpec)

/-- ITS FALSE NEIGHBOUR: 'it returns false'. Refute it at one input. -/
def dineRowWrong : ChangeSpec := { name := "dineRow", fn := fun _ => fun
  | [d] => { results := [.lit (.bool false)], args := [d] }
  | _ => none }
def DineRowWrongFalsely : Prop := dineRowRow.holds Try.pinned (OpenSpec.ofChange dineRowWrong)

/- THE SECOND FORM. 'bulk': how many values and letters a reading holds, each counted each time it is reached (what is shared counts as often as it is met; a slice's spare places count too). A statement '..UptoSaid' is the law's where the arguments, and the package variables that the reading takes, are together of bulk at most 1048576: NARROWER than '..Said'. Prove '..Said' where nothing that the law and all that it calls make is longer than what came in: it says more and counts as full. Else prove '..UptoSaid'. A law counts once. -/
mutual
def uptoBulk {H : Type} : DataW H → Nat
  | .lit (.string bytes) => bytes.length + 1
  | .lit _ => 1
  | .nil => 1
  | .ptr d => uptoBulk d + 1
  | .slice elems spare => uptoBulkAll elems + uptoBulkAll spare + 1
  | .agg parts => uptoBulkAll parts + 1
  | .iface _ d => uptoBulk d + 1
  | .map entries => uptoBulkEntries entries + 1
  | .held _ => 1
def uptoBulkAll {H : Type} : List (DataW H) → Nat
  | [] => 0
  | d :: r => uptoBulk d + uptoBulkAll r
def uptoBulkEntries {H : Type} : List (Lit × DataW H) → Nat
  | [] => 0
  | x :: r => uptoBulkEntry x + uptoBulkEntries r
def uptoBulkEntry {H : Type} : Lit × DataW H → Nat
  | (.string bytes, d) => bytes.length + uptoBulk d + 1
  | (_, d) => uptoBulk d + 1
 end
def uptoSmall : (H : Type) → List (DataW H) → Bool := fun _ ds => decide (uptoBulkAll ds ≤ 1048576)
def OpenSpec.upto (s : _root_.Go.ChangeSpec) : _root_.Go.OpenSpec := { _root_.Go.OpenSpec.ofChange s with cond := some uptoSmall }

/-- 'narthexlaw13.DineFires', WHERE WHAT IT READS IS OF BULK AT MOST 1048576: true; the input reads as it did. -/
def dineFiresUptoRow : OpenClaim := { program := "ytcnbkfgajnlbpaa", sum := "41f2518a39a638ed001ce1010c2e2d47e879a7cdf52b764fcb7f47414f648d63", func := "narthex/narthexlaw13.DineFires", spec := "dineFires", unfollowed := true, recurses := true, apart := false, narrowed := true }
def DineFiresUptoSaid : Prop := dineFiresUptoRow.holds Try.pinned (OpenSpec.upto dineFiresSpec)

/-- 'narthexlaw13.DineGets', WHERE WHAT IT READS IS OF BULK AT MOST 1048576: true; the input reads as it did. -/
def dineGetsUptoRow : OpenClaim := { program := "ytcnbkfgajnlbpaa", sum := "41f2518a39a638ed001ce1010c2e2d47e879a7cdf52b764fcb7f47414f648d63", func := "narthex/narthexlaw13.DineGets", spec := "dineGets", unfollowed := true, recurses := true, apart := false, narrowed := true }
def DineGetsUptoSaid : Prop := dineGetsUptoRow.holds Try.pinned (OpenSpec.upto dineGetsSpec)

/-- 'narthexlaw13.DineTurns', WHERE WHAT IT READS IS OF BULK AT MOST 1048576: true; the input reads as it did. -/
def dineTurnsUptoRow : OpenClaim := { program := "ytcnbkfgajnlbpaa", sum := "41f2518a39a638ed001ce1010c2e2d47e879a7cdf52b764fcb7f47414f648d63", func := "narthex/narthexlaw13.DineTurns", spec := "dineTurns", unfollowed := true, recurses := true, apart := false, narrowed := true }
def DineTurnsUptoSaid : Prop := dineTurnsUptoRow.holds Try.pinned (OpenSpec.upto dineTurnsSpec)

/-- 'narthexlaw13.DineStill', WHERE WHAT IT READS IS OF BULK AT MOST 1048576: true; the input reads as it did. -/
def dineStillUptoRow : OpenClaim := { program := "ytcnbkfgajnlbpaa", sum := "41f2518a39a638ed001ce1010c2e2d47e879a7cdf52b764fcb7f47414f648d63", func := "narthex/narthexlaw13.DineStill", spec := "dineStill", unfollowed := true, recurses := true, apart := false, narrowed := true }
def DineStillUptoSaid : Prop := dineStillUptoRow.holds Try.pinned (OpenSpec.upto dineStillSpec)

/-- 'narthexlaw13.DineKeeps', WHERE WHAT IT READS IS OF BULK AT MOST 1048576: true; the input reads as it did. -/
def dineKeepsUptoRow : OpenClaim := { program := "ytcnbkfgajnlbpaa", sum := "41f2518a39a638ed001ce1010c2e2d47e879a7cdf52b764fcb7f47414f648d63", func := "narthex/narthexlaw13.DineKeeps", spec := "dineKeeps", unfollowed := true, recurses := true, apart := false, narrowed := true }
def DineKeepsUptoSaid : Prop := dineKeepsUptoRow.holds Try.pinned (OpenSpec.upto dineKeepsSpec)

/-- 'narthexlaw13.DineClean', WHERE WHAT IT READS IS OF BULK AT MOST 1048576: true; the input reads as it did. -/
def dineCleanUptoRow : OpenClaim := { program := "ytcnbkfgajnlbpaa", sum := "41f2518a39a638ed001ce1010c2e2d47e879a7cdf52b764fcb7f47414f648d63", func := "narthex/narthexlaw13.DineClean", spec := "dineClean", unfollowed := true, recurses := true, apart := false, narrowed := true }
def DineCleanUptoSaid : Prop := dineCleanUptoRow.holds Try.pinned (OpenSpec.upto dineCleanSpec)

/-- 'narthexlaw13.DineRow', WHERE WHAT IT READS IS OF BULK AT MOST 1048576: true; the input reads as it did. -/
def dineRowUptoRow : OpenClaim := { program := "ytcnbkfgajnlbpaa", sum := "41f2518a39a638ed001ce1010c2e2d47e879a7cdf52b764fcb7f47414f648d63", func := "narthex/narthexlaw13.DineRow", spec := "dineRow", unfollowed := true, recurses := true, apart := false, narrowed := true }
def DineRowUptoSaid : Prop := dineRowUptoRow.holds Try.pinned (OpenSpec.upto dineRowSpec)

end Rows
end Go.Proofs.Ytcnbkfgajnlbpaa
