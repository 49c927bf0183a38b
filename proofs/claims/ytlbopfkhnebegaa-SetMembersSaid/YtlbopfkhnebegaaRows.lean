/-
  No cell of these rows narrows 'for every input' (looked for: loops, veiled, ifaces, maps, wideKeys, modest, calm, conditions, laid).
  DERIVED. THE GIVEN ROWS OF THIS SEAT. 7 by the template 'for every input the law returns true; each argument reads behind the call as it read before'; 0 by the template 'total and deterministic' (their statements: YtlbopfkhnebegaaTotals.lean).
  GIVEN WITH THE SEED: the statements are not yours to turn. If you find one false, say at which input.
  Laid BY PROGRAM, IN A SANDBOX (cutbox-rows.mjs): the forced cells as the released guide's own fill.sh prints them over the translation 7f6c9303a0bec7c7… (all of the seat's roots in one cut). By AI agents, Wed Nov 11 2026. No macro, syntax, notation, axiom, sorry.
-/
import Derived.Test.YtlbopfkhnebegaaChecked
import GoSem.Claim
import GoSem.ClaimJoined
import GoSem.ClaimMapViews
import Derived.JoinedTies
import Derived.KernelRfl
namespace Go.Proofs.Ytlbopfkhnebegaa
/- THE CELL 'sum', in the pinned program and in every row, IS THE sha256 OF THE DUMP (.gsa) THAT YtlbopfkhnebegaaProg.lean LOADS. Nothing in Lean hashes anything: it is a label: what it is worth is what the hold of that sum in a sandbox is worth. -/
noncomputable def Try.pinned : Pinned := { name := "ytlbopfkhnebegaa", sum := "7f6c9303a0bec7c776037883b2a67402e75cd8c83686bc77966be9933a5a5f85", checked := Try.checked }
namespace Rows
def none {H : Type} : Left H := { results := [], args := [] }

/-- 'narthexlaw01.SetOf': WHATEVER THE INPUT: true; the input reads as it did. -/
def setOfSpec : ChangeSpec := { name := "setOf", fn := fun _ => fun
  | [d1, d2] => { results := [.lit (.bool true)], args := [d1, d2] }
  | _ => none }
def setOfRow : OpenClaim := { program := "ytlbopfkhnebegaa", sum := "7f6c9303a0bec7c776037883b2a67402e75cd8c83686bc77966be9933a5a5f85", func := "narthex/narthexlaw01.SetOf", spec := "setOf", unfollowed := true, recurses := true, apart := false }
def SetOfSaid : Prop := setOfRow.holds Try.pinned (OpenSpec.ofChange setOfSpec)

/-- ITS FALSE NEIGHBOUR: 'it returns false'. Refute it at one input. -/
def setOfWrong : ChangeSpec := { name := "setOf", fn := fun _ => fun
  | [d1, d2] => { results := [.lit (.bool false)], args := [d1, d2] }
  | _ => none }
def SetOfWrongFalsely : Prop := setOfRow.holds Try.pinned (OpenSpec.ofChange setOfWrong)

/-- 'narthexlaw01.SetJoins': WHATEVER THE INPUT: true; the input reads as it did. -/
def setJoinsSpec : ChangeSpec := { name := "setJoins", fn := fun _ => fun
  | [d1, d2, d3] => { results := [.lit (.bool true)], args := [d1, d2, d3] }
  | _ => none }
def setJoinsRow : OpenClaim := { program := "ytlbopfkhnebegaa", sum := "7f6c9303a0bec7c776037883b2a67402e75cd8c83686bc77966be9933a5a5f85", func := "narthex/narthexlaw01.SetJoins", spec := "setJoins", unfollowed := true, recurses := true, apart := false }
def SetJoinsSaid : Prop := setJoinsRow.holds Try.pinned (OpenSpec.ofChange setJoinsSpec)

/-- ITS FALSE NEIGHBOUR: 'it returns false'. Refute it at one input. -/
def setJoinsWrong : ChangeSpec := { name := "setJoins", fn := fun _ => fun
  | [d1, d2, d3] => { results := [.lit (.bool false)], args := [d1, d2, d3] }
  | _ => none }
def SetJoinsWrongFalsely : Prop := setJoinsRow.holds Try.pinned (OpenSpec.ofChange setJoinsWrong)

/-- 'narthexlaw01.SetMembers': WHATEVER THE INPUT: true; the input reads as it did. -/
def setMembersSpec : ChangeSpec := { name := "setMembers", fn := fun _ => fun
  | [d1, d2, d3] => { results := [.lit (.bool true)], args := [d1, d2, d3] }
  | _ => none }
def setMembersRow : OpenClaim := { program := "ytlbopfkhnebegaa", sum := "7f6c9303a0bec7c776037883b2a67402e75cd8c83686bc77966be9933a5a5f85", func := "narthex/narthexlaw01.SetMembers", spec := "setMembers", unfollowed := true, recurses := true, apart := false }
def SetMembersSaid : Prop := setMembersRow.holds Try.pinned (OpenSpec.ofChange setMembersSpec)

/-- ITS FALSE NEIGHBOUR: 'it returns false'. Refute it at one input. -/
def setMembersWrong : ChangeSpec := { name := "setMembers", fn := fun _ => fun
  | [d1, d2, d3] => { results := [.lit (.bool false)], args := [d1, d2, d3] }
  | _ => none }
def SetMembersWrongFalsely : Prop := setMembersRow.holds Try.pinned (OpenSpec.ofChange setMembersWrong)

/-- 'narthexlaw01.SetStays': WHATEVER THE INPUT: true; the input reads as it did. -/
def setStaysSpec : ChangeSpec := { name := "setStays", fn := fun _ => fun
  | [d1, d2, d3] => { results := [.lit (.bool true)], args := [d1, d2, d3] }
  | _ => none }
def setStaysRow : OpenClaim := { program := "ytlbopfkhnebegaa", sum := "7f6c9303a0bec7c776037883b2a67402e75cd8c83686bc77966be9933a5a5f85", func := "narthex/narthexlaw01.SetStays", spec := "setStays", unfollowed := true, recurses := true, apart := false }
def SetStaysSaid : Prop := setStaysRow.holds Try.pinned (OpenSpec.ofChange setStaysSpec)

/-- ITS FALSE NEIGHBOUR: 'it returns false'. Refute it at one input. -/
def setStaysWrong : ChangeSpec := { name := "setStays", fn := fun _ => fun
  | [d1, d2, d3] => { results := [.lit (.bool false)], args := [d1, d2, d3] }
  | _ => none }
def SetStaysWrongFalsely : Prop := setStaysRow.holds Try.pinned (OpenSpec.ofChange setStaysWrong)

/-- 'narthexlaw01.SetSame': WHATEVER THE INPUT: true; the input reads as it did. -/
def setSameSpec : ChangeSpec := { name := "setSame", fn := fun _ => fun
  | [d1, d2] => { results := [.lit (.bool true)], args := [d1, d2] }
  | _ => none }
def setSameRow : OpenClaim := { program := "ytlbopfkhnebegaa", sum := "7f6c9303a0bec7c776037883b2a67402e75cd8c83686bc77966be9933a5a5f85", func := "narthex/narthexlaw01.SetSame", spec := "setSame", unfollowed := true, recurses := true, apart := false }
def SetSameSaid : Prop := setSameRow.holds Try.pinned (OpenSpec.ofChange setSameSpec)

/-- ITS FALSE NEIGHBOUR: 'it returns false'. Refute it at one input. -/
def setSameWrong : ChangeSpec := { name := "setSame", fn := fun _ => fun
  | [d1, d2] => { results := [.lit (.bool false)], args := [d1, d2] }
  | _ => none }
def SetSameWrongFalsely : Prop := setSameRow.holds Try.pinned (OpenSpec.ofChange setSameWrong)

/-- 'narthexlaw01.SetParts': WHATEVER THE INPUT: true; the input reads as it did. -/
def setPartsSpec : ChangeSpec := { name := "setParts", fn := fun _ => fun
  | [d1, d2] => { results := [.lit (.bool true)], args := [d1, d2] }
  | _ => none }
def setPartsRow : OpenClaim := { program := "ytlbopfkhnebegaa", sum := "7f6c9303a0bec7c776037883b2a67402e75cd8c83686bc77966be9933a5a5f85", func := "narthex/narthexlaw01.SetParts", spec := "setParts", unfollowed := true, recurses := true, apart := false }
def SetPartsSaid : Prop := setPartsRow.holds Try.pinned (OpenSpec.ofChange setPartsSpec)

/-- ITS FALSE NEIGHBOUR: 'it returns false'. Refute it at one input. -/
def setPartsWrong : ChangeSpec := { name := "setParts", fn := fun _ => fun
  | [d1, d2] => { results := [.lit (.bool false)], args := [d1, d2] }
  | _ => none }
def SetPartsWrongFalsely : Prop := setPartsRow.holds Try.pinned (OpenSpec.ofChange setPartsWrong)

/-- 'narthexlaw01.SetPlaces': WHATEVER THE INPUT: true; the input reads as it did. -/
def setPlacesSpec : ChangeSpec := { name := "setPlaces", fn := fun _ => fun
  | [d1, d2] => { results := [.lit (.bool true)], args := [d1, d2] }
  | _ => none }
def setPlacesRow : OpenClaim := { program := "ytlbopfkhnebegaa", sum := "7f6c9303a0bec7c776037883b2a67402e75cd8c83686bc77966be9933a5a5f85", func := "narthex/narthexlaw01.SetPlaces", spec := "setPlaces", unfollowed := true, recurses := true, apart := false }
def SetPlacesSaid : Prop := setPlacesRow.holds Try.pinned (OpenSpec.ofChange setPlacesSpec)

/-- ITS FALSE NEIGHBOUR: 'it returns false'. Refute it at one input. -/
def setPlacesWrong : ChangeSpec := { name := "setPlaces", fn := fun _ => fun
  | [d1, d2] => { results := [.lit (.bool false)], args := [d1, d2] }
  | _ => none }
def SetPlacesWrongFalsely : Prop := setPlacesRow.holds Try.pinned (OpenSpec.ofChange setPlacesWrong)

/- THE SECOND FORM. 'bulk': how many values and letters a reading holds, each counted each time it is reached (what is shared counts as often as it is met; a slice's spare places count too). A statement '..UptoSaid' is the law's where the arguments, and the package variables that the reading takes, are together of bulk at most 1048576: NARROWER than '..Said'. Prove '..Said' where nothing that the law and all that it calls make is longer than what came in: it says more and counts as full. Else prove '..UptoSaid'. A law counts once. -/
mutual
def uptoBulk {H : Type} : DataW H → Nat
  | .lit (.string bytes) => bytes.length + 1
  | .lit _ => 1
  | .nil => 1
  | .ptr d => uptoBulk d + 1
  | .slice elems spare => uptoBulkAll elems + uptoBulkAll spare + 1
  | .agg parts => uptoBulkAll parts + 1
  | .iface _ d => uptoBulk d + 1
  | .map entries => uptoBulkEntries entries + 1
  | .held _ => 1
def uptoBulkAll {H : Type} : List (DataW H) → Nat
  | [] => 0
  | d :: r => uptoBulk d + uptoBulkAll r
def uptoBulkEntries {H : Type} : List (Lit × DataW H) → Nat
  | [] => 0
  | x :: r => uptoBulkEntry x + uptoBulkEntries r
def uptoBulkEntry {H : Type} : Lit × DataW H → Nat
  | (.string bytes, d) => bytes.length + uptoBulk d + 1
  | (_, d) => uptoBulk d + 1
 end
def uptoSmall : (H : Type) → List (DataW H) → Bool := fun _ ds => decide (uptoBulkAll ds ≤ 1048576)
def OpenSpec.upto (s : _root_.Go.ChangeSpec) : _root_.Go.OpenSpec := { _root_.Go.OpenSpec.ofChange s with cond := some uptoSmall }

/-- 'narthexlaw01.SetOf', WHERE WHAT IT READS IS OF BULK AT MOST 1048576: true; the input reads as it did. -/
def setOfUptoRow : OpenClaim := { program := "ytlbopfkhnebegaa", sum := "7f6c9303a0bec7c776037883b2a67402e75cd8c83686bc77966be9933a5a5f85", func := "narthex/narthexlaw01.SetOf", spec := "setOf", unfollowed := true, recurses := true, apart := false, narrowed := true }
def SetOfUptoSaid : Prop := setOfUptoRow.holds Try.pinned (OpenSpec.upto setOfSpec)

/-- 'narthexlaw01.SetJoins', WHERE WHAT IT READS IS OF BULK AT MOST 1048576: true; the input reads as it did. -/
def setJoinsUptoRow : OpenClaim := { program := "ytlbopfkhnebegaa", sum := "7f6c9303a0bec7c776037883b2a67402e75cd8c83686bc77966be9933a5a5f85", func := "narthex/narthexlaw01.SetJoins", spec := "setJoins", unfollowed := true, recurses := true, apart := false, narrowed := true }
def SetJoinsUptoSaid : Prop := setJoinsUptoRow.holds Try.pinned (OpenSpec.upto setJoinsSpec)

/-- 'narthexlaw01.SetMembers', WHERE WHAT IT READS IS OF BULK AT MOST 1048576: true; the input reads as it did. -/
def setMembersUptoRow : OpenClaim := { program := "ytlbopfkhnebegaa", sum := "7f6c9303a0bec7c776037883b2a67402e75cd8c83686bc77966be9933a5a5f85", func := "narthex/narthexlaw01.SetMembers", spec := "setMembers", unfollowed := true, recurses := true, apart := false, narrowed := true }
def SetMembersUptoSaid : Prop := setMembersUptoRow.holds Try.pinned (OpenSpec.upto setMembersSpec)

/-- 'narthexlaw01.SetStays', WHERE WHAT IT READS IS OF BULK AT MOST 1048576: true; the input reads as it did. -/
def setStaysUptoRow : OpenClaim := { program := "ytlbopfkhnebegaa", sum := "7f6c9303a0bec7c776037883b2a67402e75cd8c83686bc77966be9933a5a5f85", func := "narthex/narthexlaw01.SetStays", spec := "setStays", unfollowed := true, recurses := true, apart := false, narrowed := true }
def SetStaysUptoSaid : Prop := setStaysUptoRow.holds Try.pinned (OpenSpec.upto setStaysSpec)

/-- 'narthexlaw01.SetSame', WHERE WHAT IT READS IS OF BULK AT MOST 1048576: true; the input reads as it did. -/
def setSameUptoRow : OpenClaim := { program := "ytlbopfkhnebegaa", sum := "7f6c9303a0bec7c776037883b2a67402e75cd8c83686bc77966be9933a5a5f85", func := "narthex/narthexlaw01.SetSame", spec := "setSame", unfollowed := true, recurses := true, apart := false, narrowed := true }
def SetSameUptoSaid : Prop := setSameUptoRow.holds Try.pinned (OpenSpec.upto setSameSpec)

/-- 'narthexlaw01.SetParts', WHERE WHAT IT READS IS OF BULK AT MOST 1048576: true; the input reads as it did. -/
def setPartsUptoRow : OpenClaim := { program := "ytlbopfkhnebegaa", sum := "7f6c9303a0bec7c776037883b2a67402e75cd8c83686bc77966be9933a5a5f85", func := "narthex/narthexlaw01.SetParts", spec := "setParts", unfollowed := true, recurses := true, apart := false, narrowed := true }
def SetPartsUptoSaid : Prop := setPartsUptoRow.holds Try.pinned (OpenSpec.upto setPartsSpec)

/-- 'narthexlaw01.SetPlaces', WHERE WHAT IT READS IS OF BULK AT MOST 1048576: true; the input reads as it did. -/
def setPlacesUptoRow : OpenClaim := { program := "ytlbopfkhnebegaa", sum := "7f6c9303a0bec7c776037883b2a67402e75cd8c83686bc77966be9933a5a5f85", func := "narthex/narthexlaw01.SetPlaces", spec := "setPlaces", unfollowed := true, recurses := true, apart := false, narrowed := true }
def SetPlacesUptoSaid : Prop := setPlacesUptoRow.holds Try.pinned (OpenSpec.upto setPlacesSpec)

end Rows
end Go.Proofs.Ytlbopfkhnebegaa
