/-
  No cell of these rows narrows 'for every input' (looked for: loops, veiled, ifaces, maps, wideKeys, modest, calm, conditions, laid).
  DERIVED. THE GIVEN ROWS OF THIS SEAT. 6 by the template 'for every input the law returns true; each argument reads behind the call as it read before'; 0 by the template 'total and deterministic' (their statements: YthlocamkdmaflaaTotals.lean).
  GIVEN WITH THE SEED: the statements are not yours to turn. If you find one false, say at which input.
  Laid BY PROGRAM, IN A SANDBOX (cutbox-rows.mjs): the forced cells as the released guide's own fill.sh prints them over the translation 12dadf559987baef… (all of the seat's roots in one cut). By AI agents, Wed Nov 11 2026. No macro, syntax, notation, axiom, sorry.
-/
import Derived.Test.YthlocamkdmaflaaChecked
import GoSem.Claim
import GoSem.ClaimJoined
import GoSem.ClaimMapViews
import Derived.JoinedTies
import Derived.KernelRfl
namespace Go.Proofs.Ythlocamkdmaflaa
/- THE CELL 'sum', in the pinned program and in every row, IS THE sha256 OF THE DUMP (.gsa) THAT YthlocamkdmaflaaProg.lean LOADS. Nothing in Lean hashes anything: it is a label: what it is worth is what the hold of that sum in a sandbox is worth. -/
noncomputable def Try.pinned : Pinned := { name := "ythlocamkdmaflaa", sum := "12dadf559987baef2e3bfbb0ccbec618a03319aae68dd3f4238ca26fcfaef6f3", checked := Try.checked }
namespace Rows
def none {H : Type} : Left H := { results := [], args := [] }

/-- 'narthexlaw17.SessSteps': WHATEVER THE INPUT: true; the input reads as it did. -/
def sessStepsSpec : ChangeSpec := { name := "sessSteps", fn := fun _ => fun
  | [d1, d2, d3, d4] => { results := [.lit (.bool true)], args := [d1, d2, d3, d4] }
  | _ => none }
def sessStepsRow : OpenClaim := { program := "ythlocamkdmaflaa", sum := "12dadf559987baef2e3bfbb0ccbec618a03319aae68dd3f4238ca26fcfaef6f3", func := "narthex/narthexlaw17.SessSteps", spec := "sessSteps", unfollowed := true, recurses := true, apart := false }
def SessStepsSaid : Prop := sessStepsRow.holds Try.pinned (OpenSpec.ofChange sessStepsSpec)

/-- ITS FALSE NEIGHBOUR: 'it returns false'. Refute it at one input. -/
def sessStepsWrong : ChangeSpec := { name := "sessSteps", fn := fun _ => fun
  | [d1, d2, d3, d4] => { results := [.lit (.bool false)], args := [d1, d2, d3, d4] }
  | _ => none }
def SessStepsWrongFalsely : Prop := sessStepsRow.holds Try.pinned (OpenSpec.ofChange sessStepsWrong)

/-- 'narthexlaw17.SessOrder': WHATEVER THE INPUT: true; the input reads as it did. -/
def sessOrderSpec : ChangeSpec := { name := "sessOrder", fn := fun _ => fun
  | [d] => { results := [.lit (.bool true)], args := [d] }
  | _ => none }
def sessOrderRow : OpenClaim := { program := "ythlocamkdmaflaa", sum := "12dadf559987baef2e3bfbb0ccbec618a03319aae68dd3f4238ca26fcfaef6f3", func := "narthex/narthexlaw17.SessOrder", spec := "sessOrder", unfollowed := true, recurses := true, apart := false }
def SessOrderSaid : Prop := sessOrderRow.holds Try.pinned (OpenSpec.ofChange sessOrderSpec)

/-- ITS FALSE NEIGHBOUR: 'it returns false'. Refute it at one input. -/
def sessOrderWrong : ChangeSpec := { name := "sessOrder", fn := fun _ => fun
  | [d] => { results := [.lit (.bool false)], args := [d] }
  | _ => none }
def SessOrderWrongFalsely : Prop := sessOrderRow.holds Try.pinned (OpenSpec.ofChange sessOrderWrong)

/-- 'narthexlaw17.SessEnds': WHATEVER THE INPUT: true; the input reads as it did. -/
def sessEndsSpec : ChangeSpec := { name := "sessEnds", fn := fun _ => fun
  | [d] => { results := [.lit (.bool true)], args := [d] }
  | _ => none }
def sessEndsRow : OpenClaim := { program := "ythlocamkdmaflaa", sum := "12dadf559987baef2e3bfbb0ccbec618a03319aae68dd3f4238ca26fcfaef6f3", func := "narthex/narthexlaw17.SessEnds", spec := "sessEnds", unfollowed := true, recurses := true, apart := false }
def SessEndsSaid : Prop := sessEndsRow.holds Try.pinned (OpenSpec.ofChange sessEndsSpec)

/-- ITS FALSE NEIGHBOUR: 'it returns false'. Refute it at one input. -/
def sessEndsWrong : ChangeSpec := { name := "sessEnds", fn := fun _ => fun
  | [d] => { results := [.lit (.bool false)], args := [d] }
  | _ => none }
def SessEndsWrongFalsely : Prop := sessEndsRow.holds Try.pinned (OpenSpec.ofChange sessEndsWrong)

/-- 'narthexlaw17.SessHeld': WHATEVER THE INPUT: true; the input reads as it did. -/
def sessHeldSpec : ChangeSpec := { name := "sessHeld", fn := fun _ => fun
  | [d1, d2, d3] => { results := [.lit (.bool true)], args := [d1, d2, d3] }
  | _ => none }
def sessHeldRow : OpenClaim := { program := "ythlocamkdmaflaa", sum := "12dadf559987baef2e3bfbb0ccbec618a03319aae68dd3f4238ca26fcfaef6f3", func := "narthex/narthexlaw17.SessHeld", spec := "sessHeld", unfollowed := true, recurses := true, apart := false }
def SessHeldSaid : Prop := sessHeldRow.holds Try.pinned (OpenSpec.ofChange sessHeldSpec)

/-- ITS FALSE NEIGHBOUR: 'it returns false'. Refute it at one input. -/
def sessHeldWrong : ChangeSpec := { name := "sessHeld", fn := fun _ => fun
  | [d1, d2, d3] => { results := [.lit (.bool false)], args := [d1, d2, d3] }
  | _ => none }
def SessHeldWrongFalsely : Prop := sessHeldRow.holds Try.pinned (OpenSpec.ofChange sessHeldWrong)

/-- 'narthexlaw17.SessGone': WHATEVER THE INPUT: true; the input reads as it did. -/
def sessGoneSpec : ChangeSpec := { name := "sessGone", fn := fun _ => fun
  | [d1, d2] => { results := [.lit (.bool true)], args := [d1, d2] }
  | _ => none }
def sessGoneRow : OpenClaim := { program := "ythlocamkdmaflaa", sum := "12dadf559987baef2e3bfbb0ccbec618a03319aae68dd3f4238ca26fcfaef6f3", func := "narthex/narthexlaw17.SessGone", spec := "sessGone", unfollowed := true, recurses := true, apart := false }
def SessGoneSaid : Prop := sessGoneRow.holds Try.pinned (OpenSpec.ofChange sessGoneSpec)

/-- ITS FALSE NEIGHBOUR: 'it returns false'. Refute it at one input. -/
def sessGoneWrong : ChangeSpec := { name := "sessGone", fn := fun _ => fun
  | [d1, d2] => { results := [.lit (.bool false)], args := [d1, d2] }
  | _ => none }
def SessGoneWrongFalsely : Prop := sessGoneRow.holds Try.pinned (OpenSpec.ofChange sessGoneWrong)

/-- 'narthexlaw17.SessOpens': WHATEVER THE INPUT: true; the input reads as it did. -/
def sessOpensSpec : ChangeSpec := { name := "sessOpens", fn := fun _ => fun
  | [d1, d2, d3] => { results := [.lit (.bool true)], args := [d1, d2, d3] }
  | _ => none }
def sessOpensRow : OpenClaim := { program := "ythlocamkdmaflaa", sum := "12dadf559987baef2e3bfbb0ccbec618a03319aae68dd3f4238ca26fcfaef6f3", func := "narthex/narthexlaw17.SessOpens", spec := "sessOpens", unfollowed := true, recurses := true, apart := false }
def SessOpensSaid : Prop := sessOpensRow.holds Try.pinned (OpenSpec.ofChange sessOpensSpec)

/-- ITS FALSE NEIGHBOUR: 'it returns false'. Refute it at one input. -/
def sessOpensWrong : ChangeSpec := { name := "sessOpens", fn := fun _ => fun
  | [d1, d2, d3] => { results := [.lit (.bool false)], args := [d1, d2, d3] }
  | _ => none }
def SessOpensWrongFalsely : Prop := sessOpensRow.holds Try.pinned (OpenSpec.ofChange sessOpensWrong)

/- THE SECOND FORM. 'bulk': how many values and letters a reading holds, each counted each time it is reached (what is shared counts as often as it is met; a slice's spare places count too). A statement '..UptoSaid' is the law's where the arguments, and the package variables that the reading takes, are together of bulk at most 1048576: NARROWER than '..Said'. Prove '..Said' where nothing that the law and all that it calls make is longer than what came in: it says more and counts as full. Else prove '..UptoSaid'. A law counts once. -/
mutual
def uptoBulk {H : Type} : DataW H → Nat
  | .lit (.string bytes) => bytes.length + 1
  | .lit _ => 1
  | .nil => 1
  | .ptr d => uptoBulk d + 1
  | .slice elems spare => uptoBulkAll elems + uptoBulkAll spare + 1
  | .agg parts => uptoBulkAll parts + 1
  | .iface _ d => uptoBulk d + 1
  | .map entries => uptoBulkEntries entries + 1
  | .held _ => 1
def uptoBulkAll {H : Type} : List (DataW H) → Nat
  | [] => 0
  | d :: r => uptoBulk d + uptoBulkAll r
def uptoBulkEntries {H : Type} : List (Lit × DataW H) → Nat
  | [] => 0
  | x :: r => uptoBulkEntry x + uptoBulkEntries r
def uptoBulkEntry {H : Type} : Lit × DataW H → Nat
  | (.string bytes, d) => bytes.length + uptoBulk d + 1
  | (_, d) => uptoBulk d + 1
 end
def uptoSmall : (H : Type) → List (DataW H) → Bool := fun _ ds => decide (uptoBulkAll ds ≤ 1048576)
def OpenSpec.upto (s : _root_.Go.ChangeSpec) : _root_.Go.OpenSpec := { _root_.Go.OpenSpec.ofChange s with cond := some uptoSmall }

/-- 'narthexlaw17.SessSteps', WHERE WHAT IT READS IS OF BULK AT MOST 1048576: true; the input reads as it did. -/
def sessStepsUptoRow : OpenClaim := { program := "ythlocamkdmaflaa", sum := "12dadf559987baef2e3bfbb0ccbec618a03319aae68dd3f4238ca26fcfaef6f3", func := "narthex/narthexlaw17.SessSteps", spec := "sessSteps", unfollowed := true, recurses := true, apart := false, narrowed := true }
def SessStepsUptoSaid : Prop := sessStepsUptoRow.holds Try.pinned (OpenSpec.upto sessStepsSpec)

/-- 'narthexlaw17.SessOrder', WHERE WHAT IT READS IS OF BULK AT MOST 1048576: true; the input reads as it did. -/
def sessOrderUptoRow : OpenClaim := { program := "ythlocamkdmaflaa", sum := "12dadf559987baef2e3bfbb0ccbec618a03319aae68dd3f4238ca26fcfaef6f3", func := "narthex/narthexlaw17.SessOrder", spec := "sessOrder", unfollowed := true, recurses := true, apart := false, narrowed := true }
def SessOrderUptoSaid : Prop := sessOrderUptoRow.holds Try.pinned (OpenSpec.upto sessOrderSpec)

/-- 'narthexlaw17.SessEnds', WHERE WHAT IT READS IS OF BULK AT MOST 1048576: true; the input reads as it did. -/
def sessEndsUptoRow : OpenClaim := { program := "ythlocamkdmaflaa", sum := "12dadf559987baef2e3bfbb0ccbec618a03319aae68dd3f4238ca26fcfaef6f3", func := "narthex/narthexlaw17.SessEnds", spec := "sessEnds", unfollowed := true, recurses := true, apart := false, narrowed := true }
def SessEndsUptoSaid : Prop := sessEndsUptoRow.holds Try.pinned (OpenSpec.upto sessEndsSpec)

/-- 'narthexlaw17.SessHeld', WHERE WHAT IT READS IS OF BULK AT MOST 1048576: true; the input reads as it did. -/
def sessHeldUptoRow : OpenClaim := { program := "ythlocamkdmaflaa", sum := "12dadf559987baef2e3bfbb0ccbec618a03319aae68dd3f4238ca26fcfaef6f3", func := "narthex/narthexlaw17.SessHeld", spec := "sessHeld", unfollowed := true, recurses := true, apart := false, narrowed := true }
def SessHeldUptoSaid : Prop := sessHeldUptoRow.holds Try.pinned (OpenSpec.upto sessHeldSpec)

/-- 'narthexlaw17.SessGone', WHERE WHAT IT READS IS OF BULK AT MOST 1048576: true; the input reads as it did. -/
def sessGoneUptoRow : OpenClaim := { program := "ythlocamkdmaflaa", sum := "12dadf559987baef2e3bfbb0ccbec618a03319aae68dd3f4238ca26fcfaef6f3", func := "narthex/narthexlaw17.SessGone", spec := "sessGone", unfollowed := true, recurses := true, apart := false, narrowed := true }
def SessGoneUptoSaid : Prop := sessGoneUptoRow.holds Try.pinned (OpenSpec.upto sessGoneSpec)

/-- 'narthexlaw17.SessOpens', WHERE WHAT IT READS IS OF BULK AT MOST 1048576: true; the input reads as it did. -/
def sessOpensUptoRow : OpenClaim := { program := "ythlocamkdmaflaa", sum := "12dadf559987baef2e3bfbb0ccbec618a03319aae68dd3f4238ca26fcfaef6f3", func := "narthex/narthexlaw17.SessOpens", spec := "sessOpens", unfollowed := true, recurses := true, apart := false, narrowed := true }
def SessOpensUptoSaid : Prop := sessOpensUptoRow.holds Try.pinned (OpenSpec.upto sessOpensSpec)

end Rows
end Go.Proofs.Ythlocamkdmaflaa
