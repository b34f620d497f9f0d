/-
  No cell of these rows narrows 'for every input' (looked for: loops, veiled, ifaces, maps, wideKeys, modest, calm, conditions, laid).
  DERIVED. THE GIVEN ROWS OF THIS SEAT. 9 by the template 'for every input the law returns true; each argument reads behind the call as it read before'; 0 by the template 'total and deterministic' (their statements: YtfkonmhlgfommaaTotals.lean).
  GIVEN WITH THE SEED: the statements are not yours to turn. If you find one false, say at which input.
  Laid BY PROGRAM, IN A SANDBOX (cutbox-rows.mjs): the forced cells as the released guide's own fill.sh prints them over the translation ab3c9c0ad28030b0… (all of the seat's roots in one cut). By AI agents, Wed Nov 11 2026. No macro, syntax, notation, axiom, sorry.
-/
import Derived.Test.YtfkonmhlgfommaaChecked
import GoSem.Claim
import GoSem.ClaimJoined
import GoSem.ClaimMapViews
import Derived.JoinedTies
import Derived.KernelRfl
namespace Go.Proofs.Ytfkonmhlgfommaa
/- THE CELL 'sum', in the pinned program and in every row, IS THE sha256 OF THE DUMP (.gsa) THAT YtfkonmhlgfommaaProg.lean LOADS. Nothing in Lean hashes anything: it is a label: what it is worth is what the hold of that sum in a sandbox is worth. -/
noncomputable def Try.pinned : Pinned := { name := "ytfkonmhlgfommaa", sum := "ab3c9c0ad28030b0268cd046a16aea4725a2c5d0524a257a906d28350d2c956e", checked := Try.checked }
namespace Rows
def none {H : Type} : Left H := { results := [], args := [] }

/-- 'pedigreelaw21.HistoryFilters': WHATEVER THE INPUT: true; the input reads as it did. -/
def historyFiltersSpec : ChangeSpec := { name := "historyFilters", fn := fun _ => fun
  | [d1, d2, d3] => { results := [.lit (.bool true)], args := [d1, d2, d3] }
  | _ => none }
def historyFiltersRow : OpenClaim := { program := "ytfkonmhlgfommaa", sum := "ab3c9c0ad28030b0268cd046a16aea4725a2c5d0524a257a906d28350d2c956e", func := "pedigree/pedigreelaw21.HistoryFilters", spec := "historyFilters", inPlace := ["internal/bytealg.abigen_runtime_cmpstring"], unfollowed := true, recurses := true, apart := false }
def HistoryFiltersSaid : Prop := historyFiltersRow.holds Try.pinned (OpenSpec.ofChange historyFiltersSpec)

/-- ITS FALSE NEIGHBOUR: 'it returns false'. Refute it at one input. -/
def historyFiltersWrong : ChangeSpec := { name := "historyFilters", fn := fun _ => fun
  | [d1, d2, d3] => { results := [.lit (.bool false)], args := [d1, d2, d3] }
  | _ => none }
def HistoryFiltersWrongFalsely : Prop := historyFiltersRow.holds Try.pinned (OpenSpec.ofChange historyFiltersWrong)

/-- 'pedigreelaw21.HistoryLine': WHATEVER THE INPUT: true; the input reads as it did. -/
def historyLineSpec : ChangeSpec := { name := "historyLine", fn := fun _ => fun
  | [d1, d2] => { results := [.lit (.bool true)], args := [d1, d2] }
  | _ => none }
def historyLineRow : OpenClaim := { program := "ytfkonmhlgfommaa", sum := "ab3c9c0ad28030b0268cd046a16aea4725a2c5d0524a257a906d28350d2c956e", func := "pedigree/pedigreelaw21.HistoryLine", spec := "historyLine", inPlace := ["internal/bytealg.abigen_runtime_cmpstring"], unfollowed := true, recurses := true, apart := false }
def HistoryLineSaid : Prop := historyLineRow.holds Try.pinned (OpenSpec.ofChange historyLineSpec)

/-- ITS FALSE NEIGHBOUR: 'it returns false'. Refute it at one input. -/
def historyLineWrong : ChangeSpec := { name := "historyLine", fn := fun _ => fun
  | [d1, d2] => { results := [.lit (.bool false)], args := [d1, d2] }
  | _ => none }
def HistoryLineWrongFalsely : Prop := historyLineRow.holds Try.pinned (OpenSpec.ofChange historyLineWrong)

/-- 'pedigreelaw21.HistoryTells': WHATEVER THE INPUT: true; the input reads as it did. -/
def historyTellsSpec : ChangeSpec := { name := "historyTells", fn := fun _ => fun
  | [d1, d2, d3] => { results := [.lit (.bool true)], args := [d1, d2, d3] }
  | _ => none }
def historyTellsRow : OpenClaim := { program := "ytfkonmhlgfommaa", sum := "ab3c9c0ad28030b0268cd046a16aea4725a2c5d0524a257a906d28350d2c956e", func := "pedigree/pedigreelaw21.HistoryTells", spec := "historyTells", inPlace := ["internal/bytealg.abigen_runtime_cmpstring"], unfollowed := true, recurses := true, apart := false }
def HistoryTellsSaid : Prop := historyTellsRow.holds Try.pinned (OpenSpec.ofChange historyTellsSpec)

/-- ITS FALSE NEIGHBOUR: 'it returns false'. Refute it at one input. -/
def historyTellsWrong : ChangeSpec := { name := "historyTells", fn := fun _ => fun
  | [d1, d2, d3] => { results := [.lit (.bool false)], args := [d1, d2, d3] }
  | _ => none }
def HistoryTellsWrongFalsely : Prop := historyTellsRow.holds Try.pinned (OpenSpec.ofChange historyTellsWrong)

/-- 'pedigreelaw22.MergeMarks': WHATEVER THE INPUT: true; the input reads as it did. -/
def mergeMarksSpec : ChangeSpec := { name := "mergeMarks", fn := fun _ => fun
  | [d1, d2, d3] => { results := [.lit (.bool true)], args := [d1, d2, d3] }
  | _ => none }
def mergeMarksRow : OpenClaim := { program := "ytfkonmhlgfommaa", sum := "ab3c9c0ad28030b0268cd046a16aea4725a2c5d0524a257a906d28350d2c956e", func := "pedigree/pedigreelaw22.MergeMarks", spec := "mergeMarks", inPlace := ["internal/bytealg.abigen_runtime_cmpstring"], unfollowed := true, recurses := true, apart := false }
def MergeMarksSaid : Prop := mergeMarksRow.holds Try.pinned (OpenSpec.ofChange mergeMarksSpec)

/-- ITS FALSE NEIGHBOUR: 'it returns false'. Refute it at one input. -/
def mergeMarksWrong : ChangeSpec := { name := "mergeMarks", fn := fun _ => fun
  | [d1, d2, d3] => { results := [.lit (.bool false)], args := [d1, d2, d3] }
  | _ => none }
def MergeMarksWrongFalsely : Prop := mergeMarksRow.holds Try.pinned (OpenSpec.ofChange mergeMarksWrong)

/-- 'pedigreelaw22.MergePaths': WHATEVER THE INPUT: true; the input reads as it did. -/
def mergePathsSpec : ChangeSpec := { name := "mergePaths", fn := fun _ => fun
  | [d1, d2, d3] => { results := [.lit (.bool true)], args := [d1, d2, d3] }
  | _ => none }
def mergePathsRow : OpenClaim := { program := "ytfkonmhlgfommaa", sum := "ab3c9c0ad28030b0268cd046a16aea4725a2c5d0524a257a906d28350d2c956e", func := "pedigree/pedigreelaw22.MergePaths", spec := "mergePaths", inPlace := ["internal/bytealg.abigen_runtime_cmpstring"], unfollowed := true, recurses := true, apart := false }
def MergePathsSaid : Prop := mergePathsRow.holds Try.pinned (OpenSpec.ofChange mergePathsSpec)

/-- ITS FALSE NEIGHBOUR: 'it returns false'. Refute it at one input. -/
def mergePathsWrong : ChangeSpec := { name := "mergePaths", fn := fun _ => fun
  | [d1, d2, d3] => { results := [.lit (.bool false)], args := [d1, d2, d3] }
  | _ => none }
def MergePathsWrongFalsely : Prop := mergePathsRow.holds Try.pinned (OpenSpec.ofChange mergePathsWrong)

/-- 'pedigreelaw22.MergeThree': WHATEVER THE INPUT: true; the input reads as it did. -/
def mergeThreeSpec : ChangeSpec := { name := "mergeThree", fn := fun _ => fun
  | [d1, d2, d3] => { results := [.lit (.bool true)], args := [d1, d2, d3] }
  | _ => none }
def mergeThreeRow : OpenClaim := { program := "ytfkonmhlgfommaa", sum := "ab3c9c0ad28030b0268cd046a16aea4725a2c5d0524a257a906d28350d2c956e", func := "pedigree/pedigreelaw22.MergeThree", spec := "mergeThree", inPlace := ["internal/bytealg.abigen_runtime_cmpstring"], unfollowed := true, recurses := true, apart := false }
def MergeThreeSaid : Prop := mergeThreeRow.holds Try.pinned (OpenSpec.ofChange mergeThreeSpec)

/-- ITS FALSE NEIGHBOUR: 'it returns false'. Refute it at one input. -/
def mergeThreeWrong : ChangeSpec := { name := "mergeThree", fn := fun _ => fun
  | [d1, d2, d3] => { results := [.lit (.bool false)], args := [d1, d2, d3] }
  | _ => none }
def MergeThreeWrongFalsely : Prop := mergeThreeRow.holds Try.pinned (OpenSpec.ofChange mergeThreeWrong)

/-- 'pedigreelaw22.MergeSides': WHATEVER THE INPUT: true; the input reads as it did. -/
def mergeSidesSpec : ChangeSpec := { name := "mergeSides", fn := fun _ => fun
  | [d1, d2, d3] => { results := [.lit (.bool true)], args := [d1, d2, d3] }
  | _ => none }
def mergeSidesRow : OpenClaim := { program := "ytfkonmhlgfommaa", sum := "ab3c9c0ad28030b0268cd046a16aea4725a2c5d0524a257a906d28350d2c956e", func := "pedigree/pedigreelaw22.MergeSides", spec := "mergeSides", inPlace := ["internal/bytealg.abigen_runtime_cmpstring"], unfollowed := true, recurses := true, apart := false }
def MergeSidesSaid : Prop := mergeSidesRow.holds Try.pinned (OpenSpec.ofChange mergeSidesSpec)

/-- ITS FALSE NEIGHBOUR: 'it returns false'. Refute it at one input. -/
def mergeSidesWrong : ChangeSpec := { name := "mergeSides", fn := fun _ => fun
  | [d1, d2, d3] => { results := [.lit (.bool false)], args := [d1, d2, d3] }
  | _ => none }
def MergeSidesWrongFalsely : Prop := mergeSidesRow.holds Try.pinned (OpenSpec.ofChange mergeSidesWrong)

/-- 'pedigreelaw21.HistoryPaths': WHATEVER THE INPUT: true; the input reads as it did. -/
def historyPathsSpec : ChangeSpec := { name := "historyPaths", fn := fun _ => fun
  | [d1, d2, d3] => { results := [.lit (.bool true)], args := [d1, d2, d3] }
  | _ => none }
def historyPathsRow : OpenClaim := { program := "ytfkonmhlgfommaa", sum := "ab3c9c0ad28030b0268cd046a16aea4725a2c5d0524a257a906d28350d2c956e", func := "pedigree/pedigreelaw21.HistoryPaths", spec := "historyPaths", inPlace := ["internal/bytealg.abigen_runtime_cmpstring"], unfollowed := true, recurses := true, apart := false }
def HistoryPathsSaid : Prop := historyPathsRow.holds Try.pinned (OpenSpec.ofChange historyPathsSpec)

/-- ITS FALSE NEIGHBOUR: 'it returns false'. Refute it at one input. -/
def historyPathsWrong : ChangeSpec := { name := "historyPaths", fn := fun _ => fun
  | [d1, d2, d3] => { results := [.lit (.bool false)], args := [d1, d2, d3] }
  | _ => none }
def HistoryPathsWrongFalsely : Prop := historyPathsRow.holds Try.pinned (OpenSpec.ofChange historyPathsWrong)

/-- 'pedigreelaw21.HistoryWild': WHATEVER THE INPUT: true; the input reads as it did. -/
def historyWildSpec : ChangeSpec := { name := "historyWild", fn := fun _ => fun
  | [d1, d2, d3] => { results := [.lit (.bool true)], args := [d1, d2, d3] }
  | _ => none }
def historyWildRow : OpenClaim := { program := "ytfkonmhlgfommaa", sum := "ab3c9c0ad28030b0268cd046a16aea4725a2c5d0524a257a906d28350d2c956e", func := "pedigree/pedigreelaw21.HistoryWild", spec := "historyWild", inPlace := ["internal/bytealg.abigen_runtime_cmpstring"], unfollowed := true, recurses := true, apart := false }
def HistoryWildSaid : Prop := historyWildRow.holds Try.pinned (OpenSpec.ofChange historyWildSpec)

/-- ITS FALSE NEIGHBOUR: 'it returns false'. Refute it at one input. -/
def historyWildWrong : ChangeSpec := { name := "historyWild", fn := fun _ => fun
  | [d1, d2, d3] => { results := [.lit (.bool false)], args := [d1, d2, d3] }
  | _ => none }
def HistoryWildWrongFalsely : Prop := historyWildRow.holds Try.pinned (OpenSpec.ofChange historyWildWrong)

/- THE SECOND FORM. 'bulk': how many values and letters a reading holds, each counted each time it is reached (what is shared counts as often as it is met; a slice's spare places count too). A statement '..UptoSaid' is the law's where the arguments, and the package variables that the reading takes, are together of bulk at most 1048576: NARROWER than '..Said'. Prove '..Said' where nothing that the law and all that it calls make is longer than what came in: it says more and counts as full. Else prove '..UptoSaid'. A law counts once. -/
mutual
def uptoBulk {H : Type} : DataW H → Nat
  | .lit (.string bytes) => bytes.length + 1
  | .lit _ => 1
  | .nil => 1
  | .ptr d => uptoBulk d + 1
  | .slice elems spare => uptoBulkAll elems + uptoBulkAll spare + 1
  | .agg parts => uptoBulkAll parts + 1
  | .iface _ d => uptoBulk d + 1
  | .map entries => uptoBulkEntries entries + 1
  | .held _ => 1
def uptoBulkAll {H : Type} : List (DataW H) → Nat
  | [] => 0
  | d :: r => uptoBulk d + uptoBulkAll r
def uptoBulkEntries {H : Type} : List (Lit × DataW H) → Nat
  | [] => 0
  | x :: r => uptoBulkEntry x + uptoBulkEntries r
def uptoBulkEntry {H : Type} : Lit × DataW H → Nat
  | (.string bytes, d) => bytes.length + uptoBulk d + 1
  | (_, d) => uptoBulk d + 1
 end
def uptoSmall : (H : Type) → List (DataW H) → Bool := fun _ ds => decide (uptoBulkAll ds ≤ 1048576)
def OpenSpec.upto (s : _root_.Go.ChangeSpec) : _root_.Go.OpenSpec := { _root_.Go.OpenSpec.ofChange s with cond := some uptoSmall }

/-- 'pedigreelaw21.HistoryFilters', WHERE WHAT IT READS IS OF BULK AT MOST 1048576: true; the input reads as it did. -/
def historyFiltersUptoRow : OpenClaim := { program := "ytfkonmhlgfommaa", sum := "ab3c9c0ad28030b0268cd046a16aea4725a2c5d0524a257a906d28350d2c956e", func := "pedigree/pedigreelaw21.HistoryFilters", spec := "historyFilters", inPlace := ["internal/bytealg.abigen_runtime_cmpstring"], unfollowed := true, recurses := true, apart := false, narrowed := true }
def HistoryFiltersUptoSaid : Prop := historyFiltersUptoRow.holds Try.pinned (OpenSpec.upto historyFiltersSpec)

/-- 'pedigreelaw21.HistoryLine', WHERE WHAT IT READS IS OF BULK AT MOST 1048576: true; the input reads as it did. -/
def historyLineUptoRow : OpenClaim := { program := "ytfkonmhlgfommaa", sum := "ab3c9c0ad28030b0268cd046a16aea4725a2c5d0524a257a906d28350d2c956e", func := "pedigree/pedigreelaw21.HistoryLine", spec := "historyLine", inPlace := ["internal/bytealg.abigen_runtime_cmpstring"], unfollowed := true, recurses := true, apart := false, narrowed := true }
def HistoryLineUptoSaid : Prop := historyLineUptoRow.holds Try.pinned (OpenSpec.upto historyLineSpec)

/-- 'pedigreelaw21.HistoryTells', WHERE WHAT IT READS IS OF BULK AT MOST 1048576: true; the input reads as it did. -/
def historyTellsUptoRow : OpenClaim := { program := "ytfkonmhlgfommaa", sum := "ab3c9c0ad28030b0268cd046a16aea4725a2c5d0524a257a906d28350d2c956e", func := "pedigree/pedigreelaw21.HistoryTells", spec := "historyTells", inPlace := ["internal/bytealg.abigen_runtime_cmpstring"], unfollowed := true, recurses := true, apart := false, narrowed := true }
def HistoryTellsUptoSaid : Prop := historyTellsUptoRow.holds Try.pinned (OpenSpec.upto historyTellsSpec)

/-- 'pedigreelaw22.MergeMarks', WHERE WHAT IT READS IS OF BULK AT MOST 1048576: true; the input reads as it did. -/
def mergeMarksUptoRow : OpenClaim := { program := "ytfkonmhlgfommaa", sum := "ab3c9c0ad28030b0268cd046a16aea4725a2c5d0524a257a906d28350d2c956e", func := "pedigree/pedigreelaw22.MergeMarks", spec := "mergeMarks", inPlace := ["internal/bytealg.abigen_runtime_cmpstring"], unfollowed := true, recurses := true, apart := false, narrowed := true }
def MergeMarksUptoSaid : Prop := mergeMarksUptoRow.holds Try.pinned (OpenSpec.upto mergeMarksSpec)

/-- 'pedigreelaw22.MergePaths', WHERE WHAT IT READS IS OF BULK AT MOST 1048576: true; the input reads as it did. -/
def mergePathsUptoRow : OpenClaim := { program := "ytfkonmhlgfommaa", sum := "ab3c9c0ad28030b0268cd046a16aea4725a2c5d0524a257a906d28350d2c956e", func := "pedigree/pedigreelaw22.MergePaths", spec := "mergePaths", inPlace := ["internal/bytealg.abigen_runtime_cmpstring"], unfollowed := true, recurses := true, apart := false, narrowed := true }
def MergePathsUptoSaid : Prop := mergePathsUptoRow.holds Try.pinned (OpenSpec.upto mergePathsSpec)

/-- 'pedigreelaw22.MergeThree', WHERE WHAT IT READS IS OF BULK AT MOST 1048576: true; the input reads as it did. -/
def mergeThreeUptoRow : OpenClaim := { program := "ytfkonmhlgfommaa", sum := "ab3c9c0ad28030b0268cd046a16aea4725a2c5d0524a257a906d28350d2c956e", func := "pedigree/pedigreelaw22.MergeThree", spec := "mergeThree", inPlace := ["internal/bytealg.abigen_runtime_cmpstring"], unfollowed := true, recurses := true, apart := false, narrowed := true }
def MergeThreeUptoSaid : Prop := mergeThreeUptoRow.holds Try.pinned (OpenSpec.upto mergeThreeSpec)

/-- 'pedigreelaw22.MergeSides', WHERE WHAT IT READS IS OF BULK AT MOST 1048576: true; the input reads as it did. -/
def mergeSidesUptoRow : OpenClaim := { program := "ytfkonmhlgfommaa", sum := "ab3c9c0ad28030b0268cd046a16aea4725a2c5d0524a257a906d28350d2c956e", func := "pedigree/pedigreelaw22.MergeSides", spec := "mergeSides", inPlace := ["internal/bytealg.abigen_runtime_cmpstring"], unfollowed := true, recurses := true, apart := false, narrowed := true }
def MergeSidesUptoSaid : Prop := mergeSidesUptoRow.holds Try.pinned (OpenSpec.upto mergeSidesSpec)

/-- 'pedigreelaw21.HistoryPaths', WHERE WHAT IT READS IS OF BULK AT MOST 1048576: true; the input reads as it did. -/
def historyPathsUptoRow : OpenClaim := { program := "ytfkonmhlgfommaa", sum := "ab3c9c0ad28030b0268cd046a16aea4725a2c5d0524a257a906d28350d2c956e", func := "pedigree/pedigreelaw21.HistoryPaths", spec := "historyPaths", inPlace := ["internal/bytealg.abigen_runtime_cmpstring"], unfollowed := true, recurses := true, apart := false, narrowed := true }
def HistoryPathsUptoSaid : Prop := historyPathsUptoRow.holds Try.pinned (OpenSpec.upto historyPathsSpec)

/-- 'pedigreelaw21.HistoryWild', WHERE WHAT IT READS IS OF BULK AT MOST 1048576: true; the input reads as it did. -/
def historyWildUptoRow : OpenClaim := { program := "ytfkonmhlgfommaa", sum := "ab3c9c0ad28030b0268cd046a16aea4725a2c5d0524a257a906d28350d2c956e", func := "pedigree/pedigreelaw21.HistoryWild", spec := "historyWild", inPlace := ["internal/bytealg.abigen_runtime_cmpstring"], unfollowed := true, recurses := true, apart := false, narrowed := true }
def HistoryWildUptoSaid : Prop := historyWildUptoRow.holds Try.pinned (OpenSpec.upto historyWildSpec)

end Rows
end Go.Proofs.Ytfkonmhlgfommaa
