/-
  No cell of these rows narrows 'for every input' (looked for: loops, veiled, ifaces, maps, wideKeys, modest, calm, conditions, laid).
  DERIVED. THE GIVEN ROWS OF THIS SEAT. 7 by the template 'for every input the law returns true; each argument reads behind the call as it read before'; 0 by the template 'total and deterministic' (their statements: YtcdjfellhgdgoaaTotals.lean).
  GIVEN WITH THE SEED: the statements are not yours to turn. If you find one false, say at which input.
  Laid BY PROGRAM, IN A SANDBOX (cutbox-rows.mjs): the forced cells as the released guide's own fill.sh prints them over the translation 4ccb2f646917bd81… (all of the seat's roots in one cut). By AI agents, Wed Nov 11 2026. No macro, syntax, notation, axiom, sorry.
-/
import Derived.Test.YtcdjfellhgdgoaaChecked
import GoSem.Claim
import GoSem.ClaimJoined
import GoSem.ClaimMapViews
import Derived.JoinedTies
import Derived.KernelRfl
namespace Go.Proofs.Ytcdjfellhgdgoaa
/- THE CELL 'sum', in the pinned program and in every row, IS THE sha256 OF THE DUMP (.gsa) THAT YtcdjfellhgdgoaaProg.lean LOADS. Nothing in Lean hashes anything: it is a label: what it is worth is what the hold of that sum in a sandbox is worth. -/
noncomputable def Try.pinned : Pinned := { name := "ytcdjfellhgdgoaa", sum := "4ccb2f646917bd81d49e5e39b02106eb2416f353d5c55455be02433094286d92", checked := Try.checked }
namespace Rows
def none {H : Type} : Left H := { results := [], args := [] }

/-- 'narthexlaw15.DrinkFires': WHATEVER THE INPUT: true; the input reads as it did. -/
def drinkFiresSpec : ChangeSpec := { name := "drinkFires", fn := fun _ => fun
  | [d1, d2] => { results := [.lit (.bool true)], args := [d1, d2] }
  | _ => none }
def drinkFiresRow : OpenClaim := { program := "ytcdjfellhgdgoaa", sum := "4ccb2f646917bd81d49e5e39b02106eb2416f353d5c55455be02433094286d92", func := "narthex/narthexlaw15.DrinkFires", spec := "drinkFires", unfollowed := true, recurses := true, apart := false }
def DrinkFiresSaid : Prop := drinkFiresRow.holds Try.pinned (OpenSpec.ofChange drinkFiresSpec)

/-- ITS FALSE NEIGHBOUR: 'it returns false'. Refute it at one input. -/
def drinkFiresWrong : ChangeSpec := { name := "drinkFires", fn := fun _ => fun
  | [d1, d2] => { results := [.lit (.bool false)], args := [d1, d2] }
  | _ => none }
def DrinkFiresWrongFalsely : Prop := drinkFiresRow.holds Try.pinned (OpenSpec.ofChange drinkFiresWrong)

/-- 'narthexlaw15.DrinkGets': WHATEVER THE INPUT: true; the input reads as it did. -/
def drinkGetsSpec : ChangeSpec := { name := "drinkGets", fn := fun _ => fun
  | [d1, d2, d3] => { results := [.lit (.bool true)], args := [d1, d2, d3] }
  | _ => none }
def drinkGetsRow : OpenClaim := { program := "ytcdjfellhgdgoaa", sum := "4ccb2f646917bd81d49e5e39b02106eb2416f353d5c55455be02433094286d92", func := "narthex/narthexlaw15.DrinkGets", spec := "drinkGets", unfollowed := true, recurses := true, apart := false }
def DrinkGetsSaid : Prop := drinkGetsRow.holds Try.pinned (OpenSpec.ofChange drinkGetsSpec)

/-- ITS FALSE NEIGHBOUR: 'it returns false'. Refute it at one input. -/
def drinkGetsWrong : ChangeSpec := { name := "drinkGets", fn := fun _ => fun
  | [d1, d2, d3] => { results := [.lit (.bool false)], args := [d1, d2, d3] }
  | _ => none }
def DrinkGetsWrongFalsely : Prop := drinkGetsRow.holds Try.pinned (OpenSpec.ofChange drinkGetsWrong)

/-- 'narthexlaw15.DrinkOpens': WHATEVER THE INPUT: true; the input reads as it did. -/
def drinkOpensSpec : ChangeSpec := { name := "drinkOpens", fn := fun _ => fun
  | [d1, d2] => { results := [.lit (.bool true)], args := [d1, d2] }
  | _ => none }
def drinkOpensRow : OpenClaim := { program := "ytcdjfellhgdgoaa", sum := "4ccb2f646917bd81d49e5e39b02106eb2416f353d5c55455be02433094286d92", func := "narthex/narthexlaw15.DrinkOpens", spec := "drinkOpens", unfollowed := true, recurses := true, apart := false }
def DrinkOpensSaid : Prop := drinkOpensRow.holds Try.pinned (OpenSpec.ofChange drinkOpensSpec)

/-- ITS FALSE NEIGHBOUR: 'it returns false'. Refute it at one input. -/
def drinkOpensWrong : ChangeSpec := { name := "drinkOpens", fn := fun _ => fun
  | [d1, d2] => { results := [.lit (.bool false)], args := [d1, d2] }
  | _ => none }
def DrinkOpensWrongFalsely : Prop := drinkOpensRow.holds Try.pinned (OpenSpec.ofChange drinkOpensWrong)

/-- 'narthexlaw15.DrinkStill': WHATEVER THE INPUT: true; the input reads as it did. -/
def drinkStillSpec : ChangeSpec := { name := "drinkStill", fn := fun _ => fun
  | [d] => { results := [.lit (.bool true)], args := [d] }
  | _ => none }
def drinkStillRow : OpenClaim := { program := "ytcdjfellhgdgoaa", sum := "4ccb2f646917bd81d49e5e39b02106eb2416f353d5c55455be02433094286d92", func := "narthex/narthexlaw15.DrinkStill", spec := "drinkStill", unfollowed := true, recurses := true, apart := false }
def DrinkStillSaid : Prop := drinkStillRow.holds Try.pinned (OpenSpec.ofChange drinkStillSpec)

/-- ITS FALSE NEIGHBOUR: 'it returns false'. Refute it at one input. -/
def drinkStillWrong : ChangeSpec := { name := "drinkStill", fn := fun _ => fun
  | [d] => { results := [.lit (.bool false)], args := [d] }
  | _ => none }
def DrinkStillWrongFalsely : Prop := drinkStillRow.holds Try.pinned (OpenSpec.ofChange drinkStillWrong)

/-- 'narthexlaw15.DrinkHas': WHATEVER THE INPUT: true; the input reads as it did. -/
def drinkHasSpec : ChangeSpec := { name := "drinkHas", fn := fun _ => fun
  | [d1, d2, d3] => { results := [.lit (.bool true)], args := [d1, d2, d3] }
  | _ => none }
def drinkHasRow : OpenClaim := { program := "ytcdjfellhgdgoaa", sum := "4ccb2f646917bd81d49e5e39b02106eb2416f353d5c55455be02433094286d92", func := "narthex/narthexlaw15.DrinkHas", spec := "drinkHas", unfollowed := true, recurses := true, apart := false }
def DrinkHasSaid : Prop := drinkHasRow.holds Try.pinned (OpenSpec.ofChange drinkHasSpec)

/-- ITS FALSE NEIGHBOUR: 'it returns false'. Refute it at one input. -/
def drinkHasWrong : ChangeSpec := { name := "drinkHas", fn := fun _ => fun
  | [d1, d2, d3] => { results := [.lit (.bool false)], args := [d1, d2, d3] }
  | _ => none }
def DrinkHasWrongFalsely : Prop := drinkHasRow.holds Try.pinned (OpenSpec.ofChange drinkHasWrong)

/-- 'narthexlaw15.DrinkKeeps': WHATEVER THE INPUT: true; the input reads as it did. -/
def drinkKeepsSpec : ChangeSpec := { name := "drinkKeeps", fn := fun _ => fun
  | [d] => { results := [.lit (.bool true)], args := [d] }
  | _ => none }
def drinkKeepsRow : OpenClaim := { program := "ytcdjfellhgdgoaa", sum := "4ccb2f646917bd81d49e5e39b02106eb2416f353d5c55455be02433094286d92", func := "narthex/narthexlaw15.DrinkKeeps", spec := "drinkKeeps", unfollowed := true, recurses := true, apart := false }
def DrinkKeepsSaid : Prop := drinkKeepsRow.holds Try.pinned (OpenSpec.ofChange drinkKeepsSpec)

/-- ITS FALSE NEIGHBOUR: 'it returns false'. Refute it at one input. -/
def drinkKeepsWrong : ChangeSpec := { name := "drinkKeeps", fn := fun _ => fun
  | [d] => { results := [.lit (.bool false)], args := [d] }
  | _ => none }
def DrinkKeepsWrongFalsely : Prop := drinkKeepsRow.holds Try.pinned (OpenSpec.ofChange drinkKeepsWrong)

/-- 'narthexlaw15.DrinkNone': WHATEVER THE INPUT: true; the input reads as it did. -/
def drinkNoneSpec : ChangeSpec := { name := "drinkNone", fn := fun _ => fun
  | [d] => { results := [.lit (.bool true)], args := [d] }
  | _ => none }
def drinkNoneRow : OpenClaim := { program := "ytcdjfellhgdgoaa", sum := "4ccb2f646917bd81d49e5e39b02106eb2416f353d5c55455be02433094286d92", func := "narthex/narthexlaw15.DrinkNone", spec := "drinkNone", unfollowed := true, recurses := true, apart := false }
def DrinkNoneSaid : Prop := drinkNoneRow.holds Try.pinned (OpenSpec.ofChange drinkNoneSpec)

/-- ITS FALSE NEIGHBOUR: 'it returns false'. Refute it at one input. -/
def drinkNoneWrong : ChangeSpec := { name := "drinkNone", fn := fun _ => fun
  | [d] => { results := [.lit (.bool false)], args := [d] }
  | _ => none }
def DrinkNoneWrongFalsely : Prop := drinkNoneRow.holds Try.pinned (OpenSpec.ofChange drinkNoneWrong)

/- THE SECOND FORM. 'bulk': how many values and letters a reading holds, each counted each time it is reached (what is shared counts as often as it is met; a slice's spare places count too). A statement '..UptoSaid' is the law's where the arguments, and the package variables that the reading takes, are together of bulk at most 1048576: NARROWER than '..Said'. Prove '..Said' where nothing that the law and all that it calls make is longer than what came in: it says more and counts as full. Else prove '..UptoSaid'. A law counts once. -/
mutual
def uptoBulk {H : Type} : DataW H → Nat
  | .lit (.string bytes) => bytes.length + 1
  | .lit _ => 1
  | .nil => 1
  | .ptr d => uptoBulk d + 1
  | .slice elems spare => uptoBulkAll elems + uptoBulkAll spare + 1
  | .agg parts => uptoBulkAll parts + 1
  | .iface _ d => uptoBulk d + 1
  | .map entries => uptoBulkEntries entries + 1
  | .held _ => 1
def uptoBulkAll {H : Type} : List (DataW H) → Nat
  | [] => 0
  | d :: r => uptoBulk d + uptoBulkAll r
def uptoBulkEntries {H : Type} : List (Lit × DataW H) → Nat
  | [] => 0
  | x :: r => uptoBulkEntry x + uptoBulkEntries r
def uptoBulkEntry {H : Type} : Lit × DataW H → Nat
  | (.string bytes, d) => bytes.length + uptoBulk d + 1
  | (_, d) => uptoBulk d + 1
 end
def uptoSmall : (H : Type) → List (DataW H) → Bool := fun _ ds => decide (uptoBulkAll ds ≤ 1048576)
def OpenSpec.upto (s : _root_.Go.ChangeSpec) : _root_.Go.OpenSpec := { _root_.Go.OpenSpec.ofChange s with cond := some uptoSmall }

/-- 'narthexlaw15.DrinkFires', WHERE WHAT IT READS IS OF BULK AT MOST 1048576: true; the input reads as it did. -/
def drinkFiresUptoRow : OpenClaim := { program := "ytcdjfellhgdgoaa", sum := "4ccb2f646917bd81d49e5e39b02106eb2416f353d5c55455be02433094286d92", func := "narthex/narthexlaw15.DrinkFires", spec := "drinkFires", unfollowed := true, recurses := true, apart := false, narrowed := true }
def DrinkFiresUptoSaid : Prop := drinkFiresUptoRow.holds Try.pinned (OpenSpec.upto drinkFiresSpec)

/-- 'narthexlaw15.DrinkGets', WHERE WHAT IT READS IS OF BULK AT MOST 1048576: true; the input reads as it did. -/
def drinkGetsUptoRow : OpenClaim := { program := "ytcdjfellhgdgoaa", sum := "4ccb2f646917bd81d49e5e39b02106eb2416f353d5c55455be02433094286d92", func := "narthex/narthexlaw15.DrinkGets", spec := "drinkGets", unfollowed := true, recurses := true, apart := false, narrowed := true }
def DrinkGetsUptoSaid : Prop := drinkGetsUptoRow.holds Try.pinned (OpenSpec.upto drinkGetsSpec)

/-- 'narthexlaw15.DrinkOpens', WHERE WHAT IT READS IS OF BULK AT MOST 1048576: true; the input reads as it did. -/
def drinkOpensUptoRow : OpenClaim := { program := "ytcdjfellhgdgoaa", sum := "4ccb2f646917bd81d49e5e39b02106eb2416f353d5c55455be02433094286d92", func := "narthex/narthexlaw15.DrinkOpens", spec := "drinkOpens", unfollowed := true, recurses := true, apart := false, narrowed := true }
def DrinkOpensUptoSaid : Prop := drinkOpensUptoRow.holds Try.pinned (OpenSpec.upto drinkOpensSpec)

/-- 'narthexlaw15.DrinkStill', WHERE WHAT IT READS IS OF BULK AT MOST 1048576: true; the input reads as it did. -/
def drinkStillUptoRow : OpenClaim := { program := "ytcdjfellhgdgoaa", sum := "4ccb2f646917bd81d49e5e39b02106eb2416f353d5c55455be02433094286d92", func := "narthex/narthexlaw15.DrinkStill", spec := "drinkStill", unfollowed := true, recurses := true, apart := false, narrowed := true }
def DrinkStillUptoSaid : Prop := drinkStillUptoRow.holds Try.pinned (OpenSpec.upto drinkStillSpec)

/-- 'narthexlaw15.DrinkHas', WHERE WHAT IT READS IS OF BULK AT MOST 1048576: true; the input reads as it did. -/
def drinkHasUptoRow : OpenClaim := { program := "ytcdjfellhgdgoaa", sum := "4ccb2f646917bd81d49e5e39b02106eb2416f353d5c55455be02433094286d92", func := "narthex/narthexlaw15.DrinkHas", spec := "drinkHas", unfollowed := true, recurses := true, apart := false, narrowed := true }
def DrinkHasUptoSaid : Prop := drinkHasUptoRow.holds Try.pinned (OpenSpec.upto drinkHasSpec)

/-- 'narthexlaw15.DrinkKeeps', WHERE WHAT IT READS IS OF BULK AT MOST 1048576: true; the input reads as it did. -/
def drinkKeepsUptoRow : OpenClaim := { program := "ytcdjfellhgdgoaa", sum := "4ccb2f646917bd81d49e5e39b02106eb2416f353d5c55455be02433094286d92", func := "narthex/narthexlaw15.DrinkKeeps", spec := "drinkKeeps", unfollowed := true, recurses := true, apart := false, narrowed := true }
def DrinkKeepsUptoSaid : Prop := drinkKeepsUptoRow.holds Try.pinned (OpenSpec.upto drinkKeepsSpec)

/-- 'narthexlaw15.DrinkNone', WHERE WHAT IT READS IS OF BULK AT MOST 1048576: true; the input reads as it did. -/
def drinkNoneUptoRow : OpenClaim := { program := "ytcdjfellhgdgoaa", sum := "4ccb2f646917bd81d49e5e39b02106eb2416f353d5c55455be02433094286d92", func := "narthex/narthexlaw15.DrinkNone", spec := "drinkNone", unfollowed := true, recurses := true, apart := false, narrowed := true }
def DrinkNoneUptoSaid : Prop := drinkNoneUptoRow.holds Try.pinned (OpenSpec.upto drinkNoneSpec)

end Rows
end Go.Proofs.Ytcdjfellhgdgoaa
