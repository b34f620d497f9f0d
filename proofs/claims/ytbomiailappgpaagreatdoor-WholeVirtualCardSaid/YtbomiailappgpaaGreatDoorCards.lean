/-
  DERIVED. GIVEN WITH THE SEED: THE CARDS: each row of YtbomiailappgpaaGreatDoorRows.lean that lists a variable, with what it lists TIED to the program's text (the seventh form; the later family's looks); each row that meets fmt, with fmt's text TOLD by the authors' own Lean function (tested against real Go, not proved from fmt's source: count such statements apart). THE CARD IS WHAT COUNTS. Prove the row's statement (the work); the ties are given (YtbomiailappgpaaGreatDoorTie.lean); close each card by the builder's one call (the guide's Derived/Test/ToyasCard.lean, 'card_holds'). Laid BY PROGRAM, IN A SANDBOX (cutbox-door.mjs). By AI agents, Wed Nov 11 2026. No macro, syntax, notation, axiom, sorry.
-/
import Derived.Test.YtbomiailappgpaaGreatDoorRows
import GoSem.ClaimSeven
namespace Go.Proofs.YtbomiailappgpaaGreatDoor
namespace Rows

/-- THE TIED CARD OF 'pedigreetop.WholeVirtual'. -/
def wholeVirtualCard : Claim7 := { stood := { row := wholeVirtualRow, standIns := [], harness := (true, "a0dc2e564841f25d4877b1570c640486de3c9c90e5c4309df4f82e954b917afa"), looks := true }, kinds := [], alts := [], laidByText := true, laidKinds := [.data, .data, .data, .sentinel, .sentinel], laidTests := true, laidLooks := .later }
def WholeVirtualCardSaid : Prop := Claim7.holds Tryz.pinned (.plain (OpenSpec.ofChange wholeVirtualSpec)) wholeVirtualCard

/-- THE TIED CARD OF 'pedigreetop.WholeAncestry'. -/
def wholeAncestryCard : Claim7 := { stood := { row := wholeAncestryRow, standIns := [], harness := (true, "a0dc2e564841f25d4877b1570c640486de3c9c90e5c4309df4f82e954b917afa"), looks := true }, kinds := [], alts := [], laidByText := true, laidKinds := [.data, .data, .data, .sentinel, .sentinel], laidTests := true, laidLooks := .later }
def WholeAncestryCardSaid : Prop := Claim7.holds Tryz.pinned (.plain (OpenSpec.ofChange wholeAncestrySpec)) wholeAncestryCard

/-- THE SECOND FORM's CARD OF 'pedigreetop.WholeVirtual'. -/
def wholeVirtualUptoCard : Claim7 := { stood := { row := wholeVirtualUptoRow, standIns := [], harness := (true, "a0dc2e564841f25d4877b1570c640486de3c9c90e5c4309df4f82e954b917afa"), looks := true }, kinds := [], alts := [], laidByText := true, laidKinds := [.data, .data, .data, .sentinel, .sentinel], laidTests := true, laidLooks := .later }
def WholeVirtualUptoCardSaid : Prop := Claim7.holds Tryz.pinned (.plain (OpenSpec.upto wholeVirtualSpec)) wholeVirtualUptoCard

/-- THE SECOND FORM's CARD OF 'pedigreetop.WholeAncestry'. -/
def wholeAncestryUptoCard : Claim7 := { stood := { row := wholeAncestryUptoRow, standIns := [], harness := (true, "a0dc2e564841f25d4877b1570c640486de3c9c90e5c4309df4f82e954b917afa"), looks := true }, kinds := [], alts := [], laidByText := true, laidKinds := [.data, .data, .data, .sentinel, .sentinel], laidTests := true, laidLooks := .later }
def WholeAncestryUptoCardSaid : Prop := Claim7.holds Tryz.pinned (.plain (OpenSpec.upto wholeAncestrySpec)) wholeAncestryUptoCard
end Rows
end Go.Proofs.YtbomiailappgpaaGreatDoor
