/-
  DERIVED. GIVEN WITH THE SEED: THE CARDS: each row of YtieggbckcacihaaDoorRows.lean that lists a variable, with what it lists TIED to the program's text (the seventh form; the later family's looks); each row that meets fmt, with fmt's text TOLD by the authors' own Lean function (tested against real Go, not proved from fmt's source: count such statements apart). THE CARD IS WHAT COUNTS. Prove the row's statement (the work); the ties are given (YtieggbckcacihaaDoorTie.lean); close each card by the builder's one call (the guide's Derived/Test/ToyasCard.lean, 'card_holds'). Laid BY PROGRAM, IN A SANDBOX (cutbox-door.mjs). By AI agents, Wed Nov 11 2026. No macro, syntax, notation, axiom, sorry.
-/
import Derived.Test.YtieggbckcacihaaDoorRows
import GoSem.ClaimSeven
namespace Go.Proofs.YtieggbckcacihaaDoor
namespace Rows

/-- THE TIED CARD OF 'pedigreelaw19.WalkAncestor'. -/
def walkAncestorCard : Claim7 := { stood := { row := walkAncestorRow, standIns := [], harness := (true, "a471c508e459ab776a6ae694e57d96bf5a313d88a319b690c9adf36db674be96"), looks := false }, kinds := [], alts := [], laidByText := true, laidKinds := [.data], laidTests := true, laidLooks := .later }
def WalkAncestorCardSaid : Prop := Claim7.holds Tryd.pinned (.plain (OpenSpec.ofChange walkAncestorSpec)) walkAncestorCard

/-- THE TIED CARD OF 'pedigreelaw19.WalkDown'. -/
def walkDownCard : Claim7 := { stood := { row := walkDownRow, standIns := [], harness := (true, "a471c508e459ab776a6ae694e57d96bf5a313d88a319b690c9adf36db674be96"), looks := false }, kinds := [], alts := [], laidByText := true, laidKinds := [.data], laidTests := true, laidLooks := .later }
def WalkDownCardSaid : Prop := Claim7.holds Tryd.pinned (.plain (OpenSpec.ofChange walkDownSpec)) walkDownCard

/-- THE TIED CARD OF 'pedigreelaw19.WalkReaches'. -/
def walkReachesCard : Claim7 := { stood := { row := walkReachesRow, standIns := [], harness := (true, "a471c508e459ab776a6ae694e57d96bf5a313d88a319b690c9adf36db674be96"), looks := false }, kinds := [], alts := [], laidByText := true, laidKinds := [.data], laidTests := true, laidLooks := .later }
def WalkReachesCardSaid : Prop := Claim7.holds Tryd.pinned (.plain (OpenSpec.ofChange walkReachesSpec)) walkReachesCard

/-- THE TIED CARD OF 'pedigreelaw19.WalkPairs'. -/
def walkPairsCard : Claim7 := { stood := { row := walkPairsRow, standIns := [], harness := (true, "a471c508e459ab776a6ae694e57d96bf5a313d88a319b690c9adf36db674be96"), looks := false }, kinds := [], alts := [], laidByText := true, laidKinds := [.data], laidTests := true, laidLooks := .later }
def WalkPairsCardSaid : Prop := Claim7.holds Tryd.pinned (.plain (OpenSpec.ofChange walkPairsSpec)) walkPairsCard

/-- THE TIED CARD OF 'pedigreelaw19.WalkSplit'. -/
def walkSplitCard : Claim7 := { stood := { row := walkSplitRow, standIns := [], harness := (true, "a471c508e459ab776a6ae694e57d96bf5a313d88a319b690c9adf36db674be96"), looks := false }, kinds := [], alts := [], laidByText := true, laidKinds := [.data], laidTests := true, laidLooks := .later }
def WalkSplitCardSaid : Prop := Claim7.holds Tryd.pinned (.plain (OpenSpec.ofChange walkSplitSpec)) walkSplitCard

/-- THE TIED CARD OF 'pedigreelaw20.BasesMerge'. -/
def basesMergeCard : Claim7 := { stood := { row := basesMergeRow, standIns := [], harness := (true, "a471c508e459ab776a6ae694e57d96bf5a313d88a319b690c9adf36db674be96"), looks := false }, kinds := [], alts := [], laidByText := true, laidKinds := [.data], laidTests := true, laidLooks := .later }
def BasesMergeCardSaid : Prop := Claim7.holds Tryd.pinned (.plain (OpenSpec.ofChange basesMergeSpec)) basesMergeCard

/-- THE TIED CARD OF 'pedigreelaw20.BasesLists'. -/
def basesListsCard : Claim7 := { stood := { row := basesListsRow, standIns := [], harness := (true, "a471c508e459ab776a6ae694e57d96bf5a313d88a319b690c9adf36db674be96"), looks := false }, kinds := [], alts := [], laidByText := true, laidKinds := [.data], laidTests := true, laidLooks := .later }
def BasesListsCardSaid : Prop := Claim7.holds Tryd.pinned (.plain (OpenSpec.ofChange basesListsSpec)) basesListsCard

/-- THE TIED CARD OF 'pedigreelaw20.BasesLaws'. -/
def basesLawsCard : Claim7 := { stood := { row := basesLawsRow, standIns := [], harness := (true, "a471c508e459ab776a6ae694e57d96bf5a313d88a319b690c9adf36db674be96"), looks := false }, kinds := [], alts := [], laidByText := true, laidKinds := [.data], laidTests := true, laidLooks := .later }
def BasesLawsCardSaid : Prop := Claim7.holds Tryd.pinned (.plain (OpenSpec.ofChange basesLawsSpec)) basesLawsCard

/-- THE TIED CARD OF 'pedigreelaw20.BasesCross'. -/
def basesCrossCard : Claim7 := { stood := { row := basesCrossRow, standIns := [], harness := (true, "a471c508e459ab776a6ae694e57d96bf5a313d88a319b690c9adf36db674be96"), looks := false }, kinds := [], alts := [], laidByText := true, laidKinds := [.data], laidTests := true, laidLooks := .later }
def BasesCrossCardSaid : Prop := Claim7.holds Tryd.pinned (.plain (OpenSpec.ofChange basesCrossSpec)) basesCrossCard

/-- THE TIED CARD OF 'pedigreelaw20.BasesDefinition'. -/
def basesDefinitionCard : Claim7 := { stood := { row := basesDefinitionRow, standIns := [], harness := (true, "a471c508e459ab776a6ae694e57d96bf5a313d88a319b690c9adf36db674be96"), looks := false }, kinds := [], alts := [], laidByText := true, laidKinds := [.data], laidTests := true, laidLooks := .later }
def BasesDefinitionCardSaid : Prop := Claim7.holds Tryd.pinned (.plain (OpenSpec.ofChange basesDefinitionSpec)) basesDefinitionCard

/-- THE SECOND FORM's CARD OF 'pedigreelaw19.WalkAncestor'. -/
def walkAncestorUptoCard : Claim7 := { stood := { row := walkAncestorUptoRow, standIns := [], harness := (true, "a471c508e459ab776a6ae694e57d96bf5a313d88a319b690c9adf36db674be96"), looks := false }, kinds := [], alts := [], laidByText := true, laidKinds := [.data], laidTests := true, laidLooks := .later }
def WalkAncestorUptoCardSaid : Prop := Claim7.holds Tryd.pinned (.plain (OpenSpec.upto walkAncestorSpec)) walkAncestorUptoCard

/-- THE SECOND FORM's CARD OF 'pedigreelaw19.WalkDown'. -/
def walkDownUptoCard : Claim7 := { stood := { row := walkDownUptoRow, standIns := [], harness := (true, "a471c508e459ab776a6ae694e57d96bf5a313d88a319b690c9adf36db674be96"), looks := false }, kinds := [], alts := [], laidByText := true, laidKinds := [.data], laidTests := true, laidLooks := .later }
def WalkDownUptoCardSaid : Prop := Claim7.holds Tryd.pinned (.plain (OpenSpec.upto walkDownSpec)) walkDownUptoCard

/-- THE SECOND FORM's CARD OF 'pedigreelaw19.WalkReaches'. -/
def walkReachesUptoCard : Claim7 := { stood := { row := walkReachesUptoRow, standIns := [], harness := (true, "a471c508e459ab776a6ae694e57d96bf5a313d88a319b690c9adf36db674be96"), looks := false }, kinds := [], alts := [], laidByText := true, laidKinds := [.data], laidTests := true, laidLooks := .later }
def WalkReachesUptoCardSaid : Prop := Claim7.holds Tryd.pinned (.plain (OpenSpec.upto walkReachesSpec)) walkReachesUptoCard

/-- THE SECOND FORM's CARD OF 'pedigreelaw19.WalkPairs'. -/
def walkPairsUptoCard : Claim7 := { stood := { row := walkPairsUptoRow, standIns := [], harness := (true, "a471c508e459ab776a6ae694e57d96bf5a313d88a319b690c9adf36db674be96"), looks := false }, kinds := [], alts := [], laidByText := true, laidKinds := [.data], laidTests := true, laidLooks := .later }
def WalkPairsUptoCardSaid : Prop := Claim7.holds Tryd.pinned (.plain (OpenSpec.upto walkPairsSpec)) walkPairsUptoCard

/-- THE SECOND FORM's CARD OF 'pedigreelaw19.WalkSplit'. -/
def walkSplitUptoCard : Claim7 := { stood := { row := walkSplitUptoRow, standIns := [], harness := (true, "a471c508e459ab776a6ae694e57d96bf5a313d88a319b690c9adf36db674be96"), looks := false }, kinds := [], alts := [], laidByText := true, laidKinds := [.data], laidTests := true, laidLooks := .later }
def WalkSplitUptoCardSaid : Prop := Claim7.holds Tryd.pinned (.plain (OpenSpec.upto walkSplitSpec)) walkSplitUptoCard

/-- THE SECOND FORM's CARD OF 'pedigreelaw20.BasesMerge'. -/
def basesMergeUptoCard : Claim7 := { stood := { row := basesMergeUptoRow, standIns := [], harness := (true, "a471c508e459ab776a6ae694e57d96bf5a313d88a319b690c9adf36db674be96"), looks := false }, kinds := [], alts := [], laidByText := true, laidKinds := [.data], laidTests := true, laidLooks := .later }
def BasesMergeUptoCardSaid : Prop := Claim7.holds Tryd.pinned (.plain (OpenSpec.upto basesMergeSpec)) basesMergeUptoCard

/-- THE SECOND FORM's CARD OF 'pedigreelaw20.BasesLists'. -/
def basesListsUptoCard : Claim7 := { stood := { row := basesListsUptoRow, standIns := [], harness := (true, "a471c508e459ab776a6ae694e57d96bf5a313d88a319b690c9adf36db674be96"), looks := false }, kinds := [], alts := [], laidByText := true, laidKinds := [.data], laidTests := true, laidLooks := .later }
def BasesListsUptoCardSaid : Prop := Claim7.holds Tryd.pinned (.plain (OpenSpec.upto basesListsSpec)) basesListsUptoCard

/-- THE SECOND FORM's CARD OF 'pedigreelaw20.BasesLaws'. -/
def basesLawsUptoCard : Claim7 := { stood := { row := basesLawsUptoRow, standIns := [], harness := (true, "a471c508e459ab776a6ae694e57d96bf5a313d88a319b690c9adf36db674be96"), looks := false }, kinds := [], alts := [], laidByText := true, laidKinds := [.data], laidTests := true, laidLooks := .later }
def BasesLawsUptoCardSaid : Prop := Claim7.holds Tryd.pinned (.plain (OpenSpec.upto basesLawsSpec)) basesLawsUptoCard

/-- THE SECOND FORM's CARD OF 'pedigreelaw20.BasesCross'. -/
def basesCrossUptoCard : Claim7 := { stood := { row := basesCrossUptoRow, standIns := [], harness := (true, "a471c508e459ab776a6ae694e57d96bf5a313d88a319b690c9adf36db674be96"), looks := false }, kinds := [], alts := [], laidByText := true, laidKinds := [.data], laidTests := true, laidLooks := .later }
def BasesCrossUptoCardSaid : Prop := Claim7.holds Tryd.pinned (.plain (OpenSpec.upto basesCrossSpec)) basesCrossUptoCard

/-- THE SECOND FORM's CARD OF 'pedigreelaw20.BasesDefinition'. -/
def basesDefinitionUptoCard : Claim7 := { stood := { row := basesDefinitionUptoRow, standIns := [], harness := (true, "a471c508e459ab776a6ae694e57d96bf5a313d88a319b690c9adf36db674be96"), looks := false }, kinds := [], alts := [], laidByText := true, laidKinds := [.data], laidTests := true, laidLooks := .later }
def BasesDefinitionUptoCardSaid : Prop := Claim7.holds Tryd.pinned (.plain (OpenSpec.upto basesDefinitionSpec)) basesDefinitionUptoCard
end Rows
end Go.Proofs.YtieggbckcacihaaDoor
