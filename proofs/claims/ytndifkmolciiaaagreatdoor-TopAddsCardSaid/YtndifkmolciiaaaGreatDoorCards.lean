/-
  DERIVED. GIVEN WITH THE SEED: THE CARDS: each row of YtndifkmolciiaaaGreatDoorRows.lean that lists a variable, with what it lists TIED to the program's text (the seventh form; the later family's looks); each row that meets fmt, with fmt's text TOLD by the authors' own Lean function (tested against real Go, not proved from fmt's source: count such statements apart). THE CARD IS WHAT COUNTS. Prove the row's statement (the work); the ties are given (YtndifkmolciiaaaGreatDoorTie.lean); close each card by the builder's one call (the guide's Derived/Test/ToyasCard.lean, 'card_holds'). Laid BY PROGRAM, IN A SANDBOX (cutbox-door.mjs). By AI agents, Wed Nov 11 2026. No macro, syntax, notation, axiom, sorry.
-/
import Derived.Test.YtndifkmolciiaaaGreatDoorRows
import GoSem.ClaimSeven
namespace Go.Proofs.YtndifkmolciiaaaGreatDoor
namespace Rows

/-- THE TIED CARD OF 'narthextop.TopOrder'. -/
def topOrderCard : Claim7 := { stood := { row := topOrderRow, standIns := [], harness := (true, "a3a5e38e45533baf2cf60728955e816bcacb337ac2803ea42312e57fdb9de390"), looks := true }, kinds := [], alts := [], laidByText := true, laidKinds := [.data, .data, .data, .data, .data, .handle, .sentinel, .sentinel, .pinned], laidTests := true, laidLooks := .later }
def TopOrderCardSaid : Prop := Claim7.holds Tryz.pinned (.plain (OpenSpec.ofChange topOrderSpec)) topOrderCard

/-- THE TIED CARD OF 'narthextop.TopAnswer'. -/
def topAnswerCard : Claim7 := { stood := { row := topAnswerRow, standIns := [], harness := (true, "a3a5e38e45533baf2cf60728955e816bcacb337ac2803ea42312e57fdb9de390"), looks := true }, kinds := [], alts := [], laidByText := true, laidKinds := [.data, .data, .data, .data, .data, .handle, .sentinel, .sentinel, .pinned], laidTests := true, laidLooks := .later }
def TopAnswerCardSaid : Prop := Claim7.holds Tryz.pinned (.plain (OpenSpec.ofChange topAnswerSpec)) topAnswerCard

/-- THE TIED CARD OF 'narthextop.TopEpochs'. -/
def topEpochsCard : Claim7 := { stood := { row := topEpochsRow, standIns := [], harness := (true, "a3a5e38e45533baf2cf60728955e816bcacb337ac2803ea42312e57fdb9de390"), looks := true }, kinds := [], alts := [], laidByText := true, laidKinds := [.data, .data, .data, .data, .data, .handle, .sentinel, .sentinel, .pinned], laidTests := true, laidLooks := .later }
def TopEpochsCardSaid : Prop := Claim7.holds Tryz.pinned (.plain (OpenSpec.ofChange topEpochsSpec)) topEpochsCard

/-- THE TIED CARD OF 'narthextop.TopAdds'. -/
def topAddsCard : Claim7 := { stood := { row := topAddsRow, standIns := [], harness := (true, "a3a5e38e45533baf2cf60728955e816bcacb337ac2803ea42312e57fdb9de390"), looks := true }, kinds := [], alts := [], laidByText := true, laidKinds := [.data, .data, .data, .data, .data, .handle, .sentinel, .sentinel, .pinned], laidTests := true, laidLooks := .later }
def TopAddsCardSaid : Prop := Claim7.holds Tryz.pinned (.plain (OpenSpec.ofChange topAddsSpec)) topAddsCard

/-- THE SECOND FORM's CARD OF 'narthextop.TopOrder'. -/
def topOrderUptoCard : Claim7 := { stood := { row := topOrderUptoRow, standIns := [], harness := (true, "a3a5e38e45533baf2cf60728955e816bcacb337ac2803ea42312e57fdb9de390"), looks := true }, kinds := [], alts := [], laidByText := true, laidKinds := [.data, .data, .data, .data, .data, .handle, .sentinel, .sentinel, .pinned], laidTests := true, laidLooks := .later }
def TopOrderUptoCardSaid : Prop := Claim7.holds Tryz.pinned (.plain (OpenSpec.upto topOrderSpec)) topOrderUptoCard

/-- THE SECOND FORM's CARD OF 'narthextop.TopAnswer'. -/
def topAnswerUptoCard : Claim7 := { stood := { row := topAnswerUptoRow, standIns := [], harness := (true, "a3a5e38e45533baf2cf60728955e816bcacb337ac2803ea42312e57fdb9de390"), looks := true }, kinds := [], alts := [], laidByText := true, laidKinds := [.data, .data, .data, .data, .data, .handle, .sentinel, .sentinel, .pinned], laidTests := true, laidLooks := .later }
def TopAnswerUptoCardSaid : Prop := Claim7.holds Tryz.pinned (.plain (OpenSpec.upto topAnswerSpec)) topAnswerUptoCard

/-- THE SECOND FORM's CARD OF 'narthextop.TopEpochs'. -/
def topEpochsUptoCard : Claim7 := { stood := { row := topEpochsUptoRow, standIns := [], harness := (true, "a3a5e38e45533baf2cf60728955e816bcacb337ac2803ea42312e57fdb9de390"), looks := true }, kinds := [], alts := [], laidByText := true, laidKinds := [.data, .data, .data, .data, .data, .handle, .sentinel, .sentinel, .pinned], laidTests := true, laidLooks := .later }
def TopEpochsUptoCardSaid : Prop := Claim7.holds Tryz.pinned (.plain (OpenSpec.upto topEpochsSpec)) topEpochsUptoCard

/-- THE SECOND FORM's CARD OF 'narthextop.TopAdds'. -/
def topAddsUptoCard : Claim7 := { stood := { row := topAddsUptoRow, standIns := [], harness := (true, "a3a5e38e45533baf2cf60728955e816bcacb337ac2803ea42312e57fdb9de390"), looks := true }, kinds := [], alts := [], laidByText := true, laidKinds := [.data, .data, .data, .data, .data, .handle, .sentinel, .sentinel, .pinned], laidTests := true, laidLooks := .later }
def TopAddsUptoCardSaid : Prop := Claim7.holds Tryz.pinned (.plain (OpenSpec.upto topAddsSpec)) topAddsUptoCard
end Rows
end Go.Proofs.YtndifkmolciiaaaGreatDoor
