/-
  DERIVED. GIVEN WITH THE SEED: THE CARDS: each row of YtkldhmbmahgnjaaGreatDoorRows.lean that lists a variable, with what it lists TIED to the program's text (the seventh form; the later family's looks); each row that meets fmt, with fmt's text TOLD by the authors' own Lean function (tested against real Go, not proved from fmt's source: count such statements apart). THE CARD IS WHAT COUNTS. Prove the row's statement (the work); the ties are given (YtkldhmbmahgnjaaGreatDoorTie.lean); close each card by the builder's one call (the guide's Derived/Test/ToyasCard.lean, 'card_holds'). Laid BY PROGRAM, IN A SANDBOX (cutbox-door.mjs). By AI agents, Wed Nov 11 2026. No macro, syntax, notation, axiom, sorry.
-/
import Derived.Test.YtkldhmbmahgnjaaGreatDoorRows
import GoSem.ClaimSeven
namespace Go.Proofs.YtkldhmbmahgnjaaGreatDoor
namespace Rows

/-- THE TIED CARD OF 'pedigreelaw23.VbaseTells'. -/
def vbaseTellsCard : Claim7 := { stood := { row := vbaseTellsRow, standIns := [], harness := (true, "12096fde76b78d3ccf18bc78cd785972fed9a77a2168d54d3d4e0b4d9f21551a"), looks := false }, kinds := [], alts := [], laidByText := true, laidKinds := [.data], laidTests := true, laidLooks := .later }
def VbaseTellsCardSaid : Prop := Claim7.holds Tryz.pinned (.plain (OpenSpec.ofChange vbaseTellsSpec)) vbaseTellsCard

/-- THE SECOND FORM's CARD OF 'pedigreelaw23.VbaseTells'. -/
def vbaseTellsUptoCard : Claim7 := { stood := { row := vbaseTellsUptoRow, standIns := [], harness := (true, "12096fde76b78d3ccf18bc78cd785972fed9a77a2168d54d3d4e0b4d9f21551a"), looks := false }, kinds := [], alts := [], laidByText := true, laidKinds := [.data], laidTests := true, laidLooks := .later }
def VbaseTellsUptoCardSaid : Prop := Claim7.holds Tryz.pinned (.plain (OpenSpec.upto vbaseTellsSpec)) vbaseTellsUptoCard
end Rows
end Go.Proofs.YtkldhmbmahgnjaaGreatDoor
