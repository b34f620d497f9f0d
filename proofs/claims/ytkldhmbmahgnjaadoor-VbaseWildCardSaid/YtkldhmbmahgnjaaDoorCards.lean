/-
  DERIVED. GIVEN WITH THE SEED: THE CARDS: each row of YtkldhmbmahgnjaaDoorRows.lean that lists a variable, with what it lists TIED to the program's text (the seventh form; the later family's looks); each row that meets fmt, with fmt's text TOLD by the authors' own Lean function (tested against real Go, not proved from fmt's source: count such statements apart). THE CARD IS WHAT COUNTS. Prove the row's statement (the work); the ties are given (YtkldhmbmahgnjaaDoorTie.lean); close each card by the builder's one call (the guide's Derived/Test/ToyasCard.lean, 'card_holds'). Laid BY PROGRAM, IN A SANDBOX (cutbox-door.mjs). By AI agents, Wed Nov 11 2026. No macro, syntax, notation, axiom, sorry.
-/
import Derived.Test.YtkldhmbmahgnjaaDoorRows
import GoSem.ClaimSeven
namespace Go.Proofs.YtkldhmbmahgnjaaDoor
namespace Rows

/-- THE TIED CARD OF 'pedigreelaw23.VbaseSteps'. -/
def vbaseStepsCard : Claim7 := { stood := { row := vbaseStepsRow, standIns := [], harness := (true, "70014f2801ca2c513b577e5a6efd9d0dbb2f750adb3afa692779a15d67e7b513"), looks := false }, kinds := [], alts := [], laidByText := true, laidKinds := [.data], laidTests := true, laidLooks := .later }
def VbaseStepsCardSaid : Prop := Claim7.holds Tryd.pinned (.plain (OpenSpec.ofChange vbaseStepsSpec)) vbaseStepsCard

/-- THE TIED CARD OF 'pedigreelaw23.VbaseSelf'. -/
def vbaseSelfCard : Claim7 := { stood := { row := vbaseSelfRow, standIns := [], harness := (true, "70014f2801ca2c513b577e5a6efd9d0dbb2f750adb3afa692779a15d67e7b513"), looks := false }, kinds := [], alts := [], laidByText := true, laidKinds := [.data], laidTests := true, laidLooks := .later }
def VbaseSelfCardSaid : Prop := Claim7.holds Tryd.pinned (.plain (OpenSpec.ofChange vbaseSelfSpec)) vbaseSelfCard

/-- THE TIED CARD OF 'pedigreelaw23.VbaseCross'. -/
def vbaseCrossCard : Claim7 := { stood := { row := vbaseCrossRow, standIns := [], harness := (true, "70014f2801ca2c513b577e5a6efd9d0dbb2f750adb3afa692779a15d67e7b513"), looks := false }, kinds := [], alts := [], laidByText := true, laidKinds := [.data], laidTests := true, laidLooks := .later }
def VbaseCrossCardSaid : Prop := Claim7.holds Tryd.pinned (.plain (OpenSpec.ofChange vbaseCrossSpec)) vbaseCrossCard

/-- THE TIED CARD OF 'pedigreelaw23.VbaseWild'. -/
def vbaseWildCard : Claim7 := { stood := { row := vbaseWildRow, standIns := [], harness := (true, "70014f2801ca2c513b577e5a6efd9d0dbb2f750adb3afa692779a15d67e7b513"), looks := false }, kinds := [], alts := [], laidByText := true, laidKinds := [.data], laidTests := true, laidLooks := .later }
def VbaseWildCardSaid : Prop := Claim7.holds Tryd.pinned (.plain (OpenSpec.ofChange vbaseWildSpec)) vbaseWildCard

/-- THE TIED CARD OF 'pedigreelaw23.VbaseBases'. -/
def vbaseBasesCard : Claim7 := { stood := { row := vbaseBasesRow, standIns := [], harness := (true, "70014f2801ca2c513b577e5a6efd9d0dbb2f750adb3afa692779a15d67e7b513"), looks := false }, kinds := [], alts := [], laidByText := true, laidKinds := [.data], laidTests := true, laidLooks := .later }
def VbaseBasesCardSaid : Prop := Claim7.holds Tryd.pinned (.plain (OpenSpec.ofChange vbaseBasesSpec)) vbaseBasesCard

/-- THE SECOND FORM's CARD OF 'pedigreelaw23.VbaseSteps'. -/
def vbaseStepsUptoCard : Claim7 := { stood := { row := vbaseStepsUptoRow, standIns := [], harness := (true, "70014f2801ca2c513b577e5a6efd9d0dbb2f750adb3afa692779a15d67e7b513"), looks := false }, kinds := [], alts := [], laidByText := true, laidKinds := [.data], laidTests := true, laidLooks := .later }
def VbaseStepsUptoCardSaid : Prop := Claim7.holds Tryd.pinned (.plain (OpenSpec.upto vbaseStepsSpec)) vbaseStepsUptoCard

/-- THE SECOND FORM's CARD OF 'pedigreelaw23.VbaseSelf'. -/
def vbaseSelfUptoCard : Claim7 := { stood := { row := vbaseSelfUptoRow, standIns := [], harness := (true, "70014f2801ca2c513b577e5a6efd9d0dbb2f750adb3afa692779a15d67e7b513"), looks := false }, kinds := [], alts := [], laidByText := true, laidKinds := [.data], laidTests := true, laidLooks := .later }
def VbaseSelfUptoCardSaid : Prop := Claim7.holds Tryd.pinned (.plain (OpenSpec.upto vbaseSelfSpec)) vbaseSelfUptoCard

/-- THE SECOND FORM's CARD OF 'pedigreelaw23.VbaseCross'. -/
def vbaseCrossUptoCard : Claim7 := { stood := { row := vbaseCrossUptoRow, standIns := [], harness := (true, "70014f2801ca2c513b577e5a6efd9d0dbb2f750adb3afa692779a15d67e7b513"), looks := false }, kinds := [], alts := [], laidByText := true, laidKinds := [.data], laidTests := true, laidLooks := .later }
def VbaseCrossUptoCardSaid : Prop := Claim7.holds Tryd.pinned (.plain (OpenSpec.upto vbaseCrossSpec)) vbaseCrossUptoCard

/-- THE SECOND FORM's CARD OF 'pedigreelaw23.VbaseWild'. -/
def vbaseWildUptoCard : Claim7 := { stood := { row := vbaseWildUptoRow, standIns := [], harness := (true, "70014f2801ca2c513b577e5a6efd9d0dbb2f750adb3afa692779a15d67e7b513"), looks := false }, kinds := [], alts := [], laidByText := true, laidKinds := [.data], laidTests := true, laidLooks := .later }
def VbaseWildUptoCardSaid : Prop := Claim7.holds Tryd.pinned (.plain (OpenSpec.upto vbaseWildSpec)) vbaseWildUptoCard

/-- THE SECOND FORM's CARD OF 'pedigreelaw23.VbaseBases'. -/
def vbaseBasesUptoCard : Claim7 := { stood := { row := vbaseBasesUptoRow, standIns := [], harness := (true, "70014f2801ca2c513b577e5a6efd9d0dbb2f750adb3afa692779a15d67e7b513"), looks := false }, kinds := [], alts := [], laidByText := true, laidKinds := [.data], laidTests := true, laidLooks := .later }
def VbaseBasesUptoCardSaid : Prop := Claim7.holds Tryd.pinned (.plain (OpenSpec.upto vbaseBasesSpec)) vbaseBasesUptoCard
end Rows
end Go.Proofs.YtkldhmbmahgnjaaDoor
