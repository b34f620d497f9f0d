/-
  DERIVED. GIVEN WITH THE SEED: THE CARDS: each row of YtfbfmokgpdmcfaaDoorRows.lean that lists a variable, with what it lists TIED to the program's text (the seventh form; the later family's looks); each row that meets fmt, with fmt's text TOLD by the authors' own Lean function (tested against real Go, not proved from fmt's source: count such statements apart). THE CARD IS WHAT COUNTS. Prove the row's statement (the work); the ties are given (YtfbfmokgpdmcfaaDoorTie.lean); close each card by the builder's one call (the guide's Derived/Test/ToyasCard.lean, 'card_holds'). Laid BY PROGRAM, IN A SANDBOX (cutbox-door.mjs). By AI agents, Wed Nov 11 2026. No macro, syntax, notation, axiom, sorry.
-/
import Derived.Test.YtfbfmokgpdmcfaaDoorRows
import GoSem.ClaimSeven
namespace Go.Proofs.YtfbfmokgpdmcfaaDoor
namespace Rows

/-- THE TIED CARD OF 'pedigreelaw04.MarksLists'. -/
def marksListsCard : Claim7 := { stood := { row := marksListsRow, standIns := [], harness := (true, "bbce505bd52bd62da85b36269a5cb239a7438800e0b46073070da6d61a4a19de"), looks := false }, kinds := [], alts := [], laidByText := true, laidKinds := [.data], laidTests := true, laidLooks := .later }
def MarksListsCardSaid : Prop := Claim7.holds Tryd.pinned (.plain (OpenSpec.ofChange marksListsSpec)) marksListsCard

/-- THE TIED CARD OF 'pedigreelaw04.MarksPlays'. -/
def marksPlaysCard : Claim7 := { stood := { row := marksPlaysRow, standIns := [], harness := (true, "bbce505bd52bd62da85b36269a5cb239a7438800e0b46073070da6d61a4a19de"), looks := false }, kinds := [], alts := [], laidByText := true, laidKinds := [.data], laidTests := true, laidLooks := .later }
def MarksPlaysCardSaid : Prop := Claim7.holds Tryd.pinned (.plain (OpenSpec.ofChange marksPlaysSpec)) marksPlaysCard

/-- THE TIED CARD OF 'pedigreelaw04.MarksSizes'. -/
def marksSizesCard : Claim7 := { stood := { row := marksSizesRow, standIns := [], harness := (true, "bbce505bd52bd62da85b36269a5cb239a7438800e0b46073070da6d61a4a19de"), looks := false }, kinds := [], alts := [], laidByText := true, laidKinds := [.data], laidTests := true, laidLooks := .later }
def MarksSizesCardSaid : Prop := Claim7.holds Tryd.pinned (.plain (OpenSpec.ofChange marksSizesSpec)) marksSizesCard

/-- THE TIED CARD OF 'pedigreelaw04.MarksAlgebra'. -/
def marksAlgebraCard : Claim7 := { stood := { row := marksAlgebraRow, standIns := [], harness := (true, "bbce505bd52bd62da85b36269a5cb239a7438800e0b46073070da6d61a4a19de"), looks := false }, kinds := [], alts := [], laidByText := true, laidKinds := [.data], laidTests := true, laidLooks := .later }
def MarksAlgebraCardSaid : Prop := Claim7.holds Tryd.pinned (.plain (OpenSpec.ofChange marksAlgebraSpec)) marksAlgebraCard

/-- THE TIED CARD OF 'pedigreelaw04.MarksNone'. -/
def marksNoneCard : Claim7 := { stood := { row := marksNoneRow, standIns := [], harness := (true, "bbce505bd52bd62da85b36269a5cb239a7438800e0b46073070da6d61a4a19de"), looks := false }, kinds := [], alts := [], laidByText := true, laidKinds := [.data], laidTests := true, laidLooks := .later }
def MarksNoneCardSaid : Prop := Claim7.holds Tryd.pinned (.plain (OpenSpec.ofChange marksNoneSpec)) marksNoneCard

/-- THE TIED CARD OF 'pedigreelaw11.DagOrder'. -/
def dagOrderCard : Claim7 := { stood := { row := dagOrderRow, standIns := [], harness := (true, "bbce505bd52bd62da85b36269a5cb239a7438800e0b46073070da6d61a4a19de"), looks := false }, kinds := [], alts := [], laidByText := true, laidKinds := [.data], laidTests := true, laidLooks := .later }
def DagOrderCardSaid : Prop := Claim7.holds Tryd.pinned (.plain (OpenSpec.ofChange dagOrderSpec)) dagOrderCard

/-- THE TIED CARD OF 'pedigreelaw11.DagBases'. -/
def dagBasesCard : Claim7 := { stood := { row := dagBasesRow, standIns := [], harness := (true, "bbce505bd52bd62da85b36269a5cb239a7438800e0b46073070da6d61a4a19de"), looks := false }, kinds := [], alts := [], laidByText := true, laidKinds := [.data], laidTests := true, laidLooks := .later }
def DagBasesCardSaid : Prop := Claim7.holds Tryd.pinned (.plain (OpenSpec.ofChange dagBasesSpec)) dagBasesCard

/-- THE TIED CARD OF 'pedigreelaw11.DagSides'. -/
def dagSidesCard : Claim7 := { stood := { row := dagSidesRow, standIns := [], harness := (true, "bbce505bd52bd62da85b36269a5cb239a7438800e0b46073070da6d61a4a19de"), looks := false }, kinds := [], alts := [], laidByText := true, laidKinds := [.data], laidTests := true, laidLooks := .later }
def DagSidesCardSaid : Prop := Claim7.holds Tryd.pinned (.plain (OpenSpec.ofChange dagSidesSpec)) dagSidesCard

/-- THE TIED CARD OF 'pedigreelaw11.DagAnswers'. -/
def dagAnswersCard : Claim7 := { stood := { row := dagAnswersRow, standIns := [], harness := (true, "bbce505bd52bd62da85b36269a5cb239a7438800e0b46073070da6d61a4a19de"), looks := false }, kinds := [], alts := [], laidByText := true, laidKinds := [.data], laidTests := true, laidLooks := .later }
def DagAnswersCardSaid : Prop := Claim7.holds Tryd.pinned (.plain (OpenSpec.ofChange dagAnswersSpec)) dagAnswersCard

/-- THE TIED CARD OF 'pedigreelaw11.DagPairs'. -/
def dagPairsCard : Claim7 := { stood := { row := dagPairsRow, standIns := [], harness := (true, "bbce505bd52bd62da85b36269a5cb239a7438800e0b46073070da6d61a4a19de"), looks := false }, kinds := [], alts := [], laidByText := true, laidKinds := [.data], laidTests := true, laidLooks := .later }
def DagPairsCardSaid : Prop := Claim7.holds Tryd.pinned (.plain (OpenSpec.ofChange dagPairsSpec)) dagPairsCard

/-- THE SECOND FORM's CARD OF 'pedigreelaw04.MarksLists'. -/
def marksListsUptoCard : Claim7 := { stood := { row := marksListsUptoRow, standIns := [], harness := (true, "bbce505bd52bd62da85b36269a5cb239a7438800e0b46073070da6d61a4a19de"), looks := false }, kinds := [], alts := [], laidByText := true, laidKinds := [.data], laidTests := true, laidLooks := .later }
def MarksListsUptoCardSaid : Prop := Claim7.holds Tryd.pinned (.plain (OpenSpec.upto marksListsSpec)) marksListsUptoCard

/-- THE SECOND FORM's CARD OF 'pedigreelaw04.MarksPlays'. -/
def marksPlaysUptoCard : Claim7 := { stood := { row := marksPlaysUptoRow, standIns := [], harness := (true, "bbce505bd52bd62da85b36269a5cb239a7438800e0b46073070da6d61a4a19de"), looks := false }, kinds := [], alts := [], laidByText := true, laidKinds := [.data], laidTests := true, laidLooks := .later }
def MarksPlaysUptoCardSaid : Prop := Claim7.holds Tryd.pinned (.plain (OpenSpec.upto marksPlaysSpec)) marksPlaysUptoCard

/-- THE SECOND FORM's CARD OF 'pedigreelaw04.MarksSizes'. -/
def marksSizesUptoCard : Claim7 := { stood := { row := marksSizesUptoRow, standIns := [], harness := (true, "bbce505bd52bd62da85b36269a5cb239a7438800e0b46073070da6d61a4a19de"), looks := false }, kinds := [], alts := [], laidByText := true, laidKinds := [.data], laidTests := true, laidLooks := .later }
def MarksSizesUptoCardSaid : Prop := Claim7.holds Tryd.pinned (.plain (OpenSpec.upto marksSizesSpec)) marksSizesUptoCard

/-- THE SECOND FORM's CARD OF 'pedigreelaw04.MarksAlgebra'. -/
def marksAlgebraUptoCard : Claim7 := { stood := { row := marksAlgebraUptoRow, standIns := [], harness := (true, "bbce505bd52bd62da85b36269a5cb239a7438800e0b46073070da6d61a4a19de"), looks := false }, kinds := [], alts := [], laidByText := true, laidKinds := [.data], laidTests := true, laidLooks := .later }
def MarksAlgebraUptoCardSaid : Prop := Claim7.holds Tryd.pinned (.plain (OpenSpec.upto marksAlgebraSpec)) marksAlgebraUptoCard

/-- THE SECOND FORM's CARD OF 'pedigreelaw04.MarksNone'. -/
def marksNoneUptoCard : Claim7 := { stood := { row := marksNoneUptoRow, standIns := [], harness := (true, "bbce505bd52bd62da85b36269a5cb239a7438800e0b46073070da6d61a4a19de"), looks := false }, kinds := [], alts := [], laidByText := true, laidKinds := [.data], laidTests := true, laidLooks := .later }
def MarksNoneUptoCardSaid : Prop := Claim7.holds Tryd.pinned (.plain (OpenSpec.upto marksNoneSpec)) marksNoneUptoCard

/-- THE SECOND FORM's CARD OF 'pedigreelaw11.DagOrder'. -/
def dagOrderUptoCard : Claim7 := { stood := { row := dagOrderUptoRow, standIns := [], harness := (true, "bbce505bd52bd62da85b36269a5cb239a7438800e0b46073070da6d61a4a19de"), looks := false }, kinds := [], alts := [], laidByText := true, laidKinds := [.data], laidTests := true, laidLooks := .later }
def DagOrderUptoCardSaid : Prop := Claim7.holds Tryd.pinned (.plain (OpenSpec.upto dagOrderSpec)) dagOrderUptoCard

/-- THE SECOND FORM's CARD OF 'pedigreelaw11.DagBases'. -/
def dagBasesUptoCard : Claim7 := { stood := { row := dagBasesUptoRow, standIns := [], harness := (true, "bbce505bd52bd62da85b36269a5cb239a7438800e0b46073070da6d61a4a19de"), looks := false }, kinds := [], alts := [], laidByText := true, laidKinds := [.data], laidTests := true, laidLooks := .later }
def DagBasesUptoCardSaid : Prop := Claim7.holds Tryd.pinned (.plain (OpenSpec.upto dagBasesSpec)) dagBasesUptoCard

/-- THE SECOND FORM's CARD OF 'pedigreelaw11.DagSides'. -/
def dagSidesUptoCard : Claim7 := { stood := { row := dagSidesUptoRow, standIns := [], harness := (true, "bbce505bd52bd62da85b36269a5cb239a7438800e0b46073070da6d61a4a19de"), looks := false }, kinds := [], alts := [], laidByText := true, laidKinds := [.data], laidTests := true, laidLooks := .later }
def DagSidesUptoCardSaid : Prop := Claim7.holds Tryd.pinned (.plain (OpenSpec.upto dagSidesSpec)) dagSidesUptoCard

/-- THE SECOND FORM's CARD OF 'pedigreelaw11.DagAnswers'. -/
def dagAnswersUptoCard : Claim7 := { stood := { row := dagAnswersUptoRow, standIns := [], harness := (true, "bbce505bd52bd62da85b36269a5cb239a7438800e0b46073070da6d61a4a19de"), looks := false }, kinds := [], alts := [], laidByText := true, laidKinds := [.data], laidTests := true, laidLooks := .later }
def DagAnswersUptoCardSaid : Prop := Claim7.holds Tryd.pinned (.plain (OpenSpec.upto dagAnswersSpec)) dagAnswersUptoCard

/-- THE SECOND FORM's CARD OF 'pedigreelaw11.DagPairs'. -/
def dagPairsUptoCard : Claim7 := { stood := { row := dagPairsUptoRow, standIns := [], harness := (true, "bbce505bd52bd62da85b36269a5cb239a7438800e0b46073070da6d61a4a19de"), looks := false }, kinds := [], alts := [], laidByText := true, laidKinds := [.data], laidTests := true, laidLooks := .later }
def DagPairsUptoCardSaid : Prop := Claim7.holds Tryd.pinned (.plain (OpenSpec.upto dagPairsSpec)) dagPairsUptoCard
end Rows
end Go.Proofs.YtfbfmokgpdmcfaaDoor
