/-
  NARROWER THAN 'FOR EVERY INPUT', by the rows' own cells (each row's printed sentence says how): WalkAncestor: laid · WalkDown: laid · WalkReaches: laid · WalkPairs: laid · WalkSplit: laid · BasesMerge: laid · BasesLists: laid · BasesLaws: laid · BasesCross: laid · BasesDefinition: laid.
  DERIVED. THE GIVEN ROWS OF THIS SEAT. 10 by the template 'for every input the law returns true; each argument reads behind the call as it read before'; 0 by the template 'total and deterministic' (their statements: YtieggbckcacihaaDoorTotals.lean).
  GIVEN WITH THE SEED: the statements are not yours to turn. If you find one false, say at which input.
  Laid BY PROGRAM, IN A SANDBOX (cutbox-rows.mjs): the forced cells as the released guide's own fill.sh prints them over the translation 94ad71950dcfaed0… (all of the seat's roots in one cut). By AI agents, Wed Nov 11 2026. No macro, syntax, notation, axiom, sorry.
-/
import Derived.Test.YtieggbckcacihaaDoorChecked
import GoSem.Claim
import GoSem.ClaimJoined
import GoSem.ClaimMapViews
import Derived.JoinedTies
import Derived.KernelRfl
namespace Go.Proofs.YtieggbckcacihaaDoor
/- THE CELL 'sum', in the pinned program and in every row, IS THE sha256 OF THE DUMP (.gsa) THAT YtieggbckcacihaaDoorProg.lean LOADS. Nothing in Lean hashes anything: it is a label: what it is worth is what the hold of that sum in a sandbox is worth. -/
noncomputable def Tryd.pinned : Pinned := { name := "ytieggbckcacihaadoor", sum := "94ad71950dcfaed069ddcdb1bde477ce1abde81ec78a2c9d9d085323bc166972", checked := Tryd.checked }
namespace Rows
def none {H : Type} : Left H := { results := [], args := [] }

/- WHAT THE LISTED PACKAGE-LEVEL VARIABLES READ AS WHEN THE CALL BEGINS. Each datum BY PROGRAM (the guide's laid-datum.mjs) off the statement by which the dump's own 'gosem.cut.vars' lays the variable. In a bare row this is a premise. The card (YtieggbckcacihaaDoorCards.lean) ties it to the program's text. -/
def laid_math_bits_deBruijn64tab {H : Type} : DataW H := .agg [.lit (.int .u8 0), .lit (.int .u8 1), .lit (.int .u8 56), .lit (.int .u8 2), .lit (.int .u8 57), .lit (.int .u8 49), .lit (.int .u8 28), .lit (.int .u8 3), .lit (.int .u8 61), .lit (.int .u8 58), .lit (.int .u8 42), .lit (.int .u8 50), .lit (.int .u8 38), .lit (.int .u8 29), .lit (.int .u8 17), .lit (.int .u8 4), .lit (.int .u8 62), .lit (.int .u8 47), .lit (.int .u8 59), .lit (.int .u8 36), .lit (.int .u8 45), .lit (.int .u8 43), .lit (.int .u8 51), .lit (.int .u8 22), .lit (.int .u8 53), .lit (.int .u8 39), .lit (.int .u8 33), .lit (.int .u8 30), .lit (.int .u8 24), .lit (.int .u8 18), .lit (.int .u8 12), .lit (.int .u8 5), .lit (.int .u8 63), .lit (.int .u8 55), .lit (.int .u8 48), .lit (.int .u8 27), .lit (.int .u8 60), .lit (.int .u8 41), .lit (.int .u8 37), .lit (.int .u8 16), .lit (.int .u8 46), .lit (.int .u8 35), .lit (.int .u8 44), .lit (.int .u8 21), .lit (.int .u8 52), .lit (.int .u8 32), .lit (.int .u8 23), .lit (.int .u8 11), .lit (.int .u8 54), .lit (.int .u8 26), .lit (.int .u8 40), .lit (.int .u8 15), .lit (.int .u8 34), .lit (.int .u8 20), .lit (.int .u8 31), .lit (.int .u8 10), .lit (.int .u8 25), .lit (.int .u8 14), .lit (.int .u8 19), .lit (.int .u8 9), .lit (.int .u8 13), .lit (.int .u8 8), .lit (.int .u8 7), .lit (.int .u8 6)]

/-- 'pedigreelaw19.WalkAncestor': WHATEVER THE INPUT: true; the input reads as it did. -/
def walkAncestorSpec : ChangeSpec := { name := "walkAncestor", fn := fun _ => fun
  | [d1, d2, d3] => { results := [.lit (.bool true)], args := [d1, d2, d3] }
  | _ => none }
def walkAncestorRow : OpenClaim := { program := "ytieggbckcacihaadoor", sum := "94ad71950dcfaed069ddcdb1bde477ce1abde81ec78a2c9d9d085323bc166972", func := "pedigree/pedigreelaw19.WalkAncestor", spec := "walkAncestor", unfollowed := true, recurses := true, named := ["math/bits.deBruijn64tab"], apart := false, laid := [("math/bits.deBruijn64tab", laid_math_bits_deBruijn64tab)] }
def WalkAncestorSaid : Prop := walkAncestorRow.holds Tryd.pinned (OpenSpec.ofChange walkAncestorSpec)

/-- ITS FALSE NEIGHBOUR: 'it returns false'. Refute it at one input. -/
def walkAncestorWrong : ChangeSpec := { name := "walkAncestor", fn := fun _ => fun
  | [d1, d2, d3] => { results := [.lit (.bool false)], args := [d1, d2, d3] }
  | _ => none }
def WalkAncestorWrongFalsely : Prop := walkAncestorRow.holds Tryd.pinned (OpenSpec.ofChange walkAncestorWrong)

/-- 'pedigreelaw19.WalkDown': WHATEVER THE INPUT: true; the input reads as it did. -/
def walkDownSpec : ChangeSpec := { name := "walkDown", fn := fun _ => fun
  | [d1, d2, d3] => { results := [.lit (.bool true)], args := [d1, d2, d3] }
  | _ => none }
def walkDownRow : OpenClaim := { program := "ytieggbckcacihaadoor", sum := "94ad71950dcfaed069ddcdb1bde477ce1abde81ec78a2c9d9d085323bc166972", func := "pedigree/pedigreelaw19.WalkDown", spec := "walkDown", unfollowed := true, recurses := true, named := ["math/bits.deBruijn64tab"], apart := false, laid := [("math/bits.deBruijn64tab", laid_math_bits_deBruijn64tab)] }
def WalkDownSaid : Prop := walkDownRow.holds Tryd.pinned (OpenSpec.ofChange walkDownSpec)

/-- ITS FALSE NEIGHBOUR: 'it returns false'. Refute it at one input. -/
def walkDownWrong : ChangeSpec := { name := "walkDown", fn := fun _ => fun
  | [d1, d2, d3] => { results := [.lit (.bool false)], args := [d1, d2, d3] }
  | _ => none }
def WalkDownWrongFalsely : Prop := walkDownRow.holds Tryd.pinned (OpenSpec.ofChange walkDownWrong)

/-- 'pedigreelaw19.WalkReaches': WHATEVER THE INPUT: true; the input reads as it did. -/
def walkReachesSpec : ChangeSpec := { name := "walkReaches", fn := fun _ => fun
  | [d1, d2, d3] => { results := [.lit (.bool true)], args := [d1, d2, d3] }
  | _ => none }
def walkReachesRow : OpenClaim := { program := "ytieggbckcacihaadoor", sum := "94ad71950dcfaed069ddcdb1bde477ce1abde81ec78a2c9d9d085323bc166972", func := "pedigree/pedigreelaw19.WalkReaches", spec := "walkReaches", unfollowed := true, recurses := true, named := ["math/bits.deBruijn64tab"], apart := false, laid := [("math/bits.deBruijn64tab", laid_math_bits_deBruijn64tab)] }
def WalkReachesSaid : Prop := walkReachesRow.holds Tryd.pinned (OpenSpec.ofChange walkReachesSpec)

/-- ITS FALSE NEIGHBOUR: 'it returns false'. Refute it at one input. -/
def walkReachesWrong : ChangeSpec := { name := "walkReaches", fn := fun _ => fun
  | [d1, d2, d3] => { results := [.lit (.bool false)], args := [d1, d2, d3] }
  | _ => none }
def WalkReachesWrongFalsely : Prop := walkReachesRow.holds Tryd.pinned (OpenSpec.ofChange walkReachesWrong)

/-- 'pedigreelaw19.WalkPairs': WHATEVER THE INPUT: true; the input reads as it did. -/
def walkPairsSpec : ChangeSpec := { name := "walkPairs", fn := fun _ => fun
  | [d1, d2] => { results := [.lit (.bool true)], args := [d1, d2] }
  | _ => none }
def walkPairsRow : OpenClaim := { program := "ytieggbckcacihaadoor", sum := "94ad71950dcfaed069ddcdb1bde477ce1abde81ec78a2c9d9d085323bc166972", func := "pedigree/pedigreelaw19.WalkPairs", spec := "walkPairs", unfollowed := true, recurses := true, named := ["math/bits.deBruijn64tab"], apart := false, laid := [("math/bits.deBruijn64tab", laid_math_bits_deBruijn64tab)] }
def WalkPairsSaid : Prop := walkPairsRow.holds Tryd.pinned (OpenSpec.ofChange walkPairsSpec)

/-- ITS FALSE NEIGHBOUR: 'it returns false'. Refute it at one input. -/
def walkPairsWrong : ChangeSpec := { name := "walkPairs", fn := fun _ => fun
  | [d1, d2] => { results := [.lit (.bool false)], args := [d1, d2] }
  | _ => none }
def WalkPairsWrongFalsely : Prop := walkPairsRow.holds Tryd.pinned (OpenSpec.ofChange walkPairsWrong)

/-- 'pedigreelaw19.WalkSplit': WHATEVER THE INPUT: true; the input reads as it did. -/
def walkSplitSpec : ChangeSpec := { name := "walkSplit", fn := fun _ => fun
  | [d1, d2, d3] => { results := [.lit (.bool true)], args := [d1, d2, d3] }
  | _ => none }
def walkSplitRow : OpenClaim := { program := "ytieggbckcacihaadoor", sum := "94ad71950dcfaed069ddcdb1bde477ce1abde81ec78a2c9d9d085323bc166972", func := "pedigree/pedigreelaw19.WalkSplit", spec := "walkSplit", unfollowed := true, recurses := true, named := ["math/bits.deBruijn64tab"], apart := false, laid := [("math/bits.deBruijn64tab", laid_math_bits_deBruijn64tab)] }
def WalkSplitSaid : Prop := walkSplitRow.holds Tryd.pinned (OpenSpec.ofChange walkSplitSpec)

/-- ITS FALSE NEIGHBOUR: 'it returns false'. Refute it at one input. -/
def walkSplitWrong : ChangeSpec := { name := "walkSplit", fn := fun _ => fun
  | [d1, d2, d3] => { results := [.lit (.bool false)], args := [d1, d2, d3] }
  | _ => none }
def WalkSplitWrongFalsely : Prop := walkSplitRow.holds Tryd.pinned (OpenSpec.ofChange walkSplitWrong)

/-- 'pedigreelaw20.BasesMerge': WHATEVER THE INPUT: true; the input reads as it did. -/
def basesMergeSpec : ChangeSpec := { name := "basesMerge", fn := fun _ => fun
  | [d1, d2, d3] => { results := [.lit (.bool true)], args := [d1, d2, d3] }
  | _ => none }
def basesMergeRow : OpenClaim := { program := "ytieggbckcacihaadoor", sum := "94ad71950dcfaed069ddcdb1bde477ce1abde81ec78a2c9d9d085323bc166972", func := "pedigree/pedigreelaw20.BasesMerge", spec := "basesMerge", unfollowed := true, recurses := true, named := ["math/bits.deBruijn64tab"], apart := false, laid := [("math/bits.deBruijn64tab", laid_math_bits_deBruijn64tab)] }
def BasesMergeSaid : Prop := basesMergeRow.holds Tryd.pinned (OpenSpec.ofChange basesMergeSpec)

/-- ITS FALSE NEIGHBOUR: 'it returns false'. Refute it at one input. -/
def basesMergeWrong : ChangeSpec := { name := "basesMerge", fn := fun _ => fun
  | [d1, d2, d3] => { results := [.lit (.bool false)], args := [d1, d2, d3] }
  | _ => none }
def BasesMergeWrongFalsely : Prop := basesMergeRow.holds Tryd.pinned (OpenSpec.ofChange basesMergeWrong)

/-- 'pedigreelaw20.BasesLists': WHATEVER THE INPUT: true; the input reads as it did. -/
def basesListsSpec : ChangeSpec := { name := "basesLists", fn := fun _ => fun
  | [d1, d2, d3] => { results := [.lit (.bool true)], args := [d1, d2, d3] }
  | _ => none }
def basesListsRow : OpenClaim := { program := "ytieggbckcacihaadoor", sum := "94ad71950dcfaed069ddcdb1bde477ce1abde81ec78a2c9d9d085323bc166972", func := "pedigree/pedigreelaw20.BasesLists", spec := "basesLists", unfollowed := true, recurses := true, named := ["math/bits.deBruijn64tab"], apart := false, laid := [("math/bits.deBruijn64tab", laid_math_bits_deBruijn64tab)] }
def BasesListsSaid : Prop := basesListsRow.holds Tryd.pinned (OpenSpec.ofChange basesListsSpec)

/-- ITS FALSE NEIGHBOUR: 'it returns false'. Refute it at one input. -/
def basesListsWrong : ChangeSpec := { name := "basesLists", fn := fun _ => fun
  | [d1, d2, d3] => { results := [.lit (.bool false)], args := [d1, d2, d3] }
  | _ => none }
def BasesListsWrongFalsely : Prop := basesListsRow.holds Tryd.pinned (OpenSpec.ofChange basesListsWrong)

/-- 'pedigreelaw20.BasesLaws': WHATEVER THE INPUT: true; the input reads as it did. -/
def basesLawsSpec : ChangeSpec := { name := "basesLaws", fn := fun _ => fun
  | [d1, d2, d3] => { results := [.lit (.bool true)], args := [d1, d2, d3] }
  | _ => none }
def basesLawsRow : OpenClaim := { program := "ytieggbckcacihaadoor", sum := "94ad71950dcfaed069ddcdb1bde477ce1abde81ec78a2c9d9d085323bc166972", func := "pedigree/pedigreelaw20.BasesLaws", spec := "basesLaws", unfollowed := true, recurses := true, named := ["math/bits.deBruijn64tab"], apart := false, laid := [("math/bits.deBruijn64tab", laid_math_bits_deBruijn64tab)] }
def BasesLawsSaid : Prop := basesLawsRow.holds Tryd.pinned (OpenSpec.ofChange basesLawsSpec)

/-- ITS FALSE NEIGHBOUR: 'it returns false'. Refute it at one input. -/
def basesLawsWrong : ChangeSpec := { name := "basesLaws", fn := fun _ => fun
  | [d1, d2, d3] => { results := [.lit (.bool false)], args := [d1, d2, d3] }
  | _ => none }
def BasesLawsWrongFalsely : Prop := basesLawsRow.holds Tryd.pinned (OpenSpec.ofChange basesLawsWrong)

/-- 'pedigreelaw20.BasesCross': WHATEVER THE INPUT: true; the input reads as it did. -/
def basesCrossSpec : ChangeSpec := { name := "basesCross", fn := fun _ => fun
  | [d1, d2, d3] => { results := [.lit (.bool true)], args := [d1, d2, d3] }
  | _ => none }
def basesCrossRow : OpenClaim := { program := "ytieggbckcacihaadoor", sum := "94ad71950dcfaed069ddcdb1bde477ce1abde81ec78a2c9d9d085323bc166972", func := "pedigree/pedigreelaw20.BasesCross", spec := "basesCross", unfollowed := true, recurses := true, named := ["math/bits.deBruijn64tab"], apart := false, laid := [("math/bits.deBruijn64tab", laid_math_bits_deBruijn64tab)] }
def BasesCrossSaid : Prop := basesCrossRow.holds Tryd.pinned (OpenSpec.ofChange basesCrossSpec)

/-- ITS FALSE NEIGHBOUR: 'it returns false'. Refute it at one input. -/
def basesCrossWrong : ChangeSpec := { name := "basesCross", fn := fun _ => fun
  | [d1, d2, d3] => { results := [.lit (.bool false)], args := [d1, d2, d3] }
  | _ => none }
def BasesCrossWrongFalsely : Prop := basesCrossRow.holds Tryd.pinned (OpenSpec.ofChange basesCrossWrong)

/-- 'pedigreelaw20.BasesDefinition': WHATEVER THE INPUT: true; the input reads as it did. -/
def basesDefinitionSpec : ChangeSpec := { name := "basesDefinition", fn := fun _ => fun
  | [d1, d2, d3] => { results := [.lit (.bool true)], args := [d1, d2, d3] }
  | _ => none }
def basesDefinitionRow : OpenClaim := { program := "ytieggbckcacihaadoor", sum := "94ad71950dcfaed069ddcdb1bde477ce1abde81ec78a2c9d9d085323bc166972", func := "pedigree/pedigreelaw20.BasesDefinition", spec := "basesDefinition", unfollowed := true, recurses := true, named := ["math/bits.deBruijn64tab"], apart := false, laid := [("math/bits.deBruijn64tab", laid_math_bits_deBruijn64tab)] }
def BasesDefinitionSaid : Prop := basesDefinitionRow.holds Tryd.pinned (OpenSpec.ofChange basesDefinitionSpec)

/-- ITS FALSE NEIGHBOUR: 'it returns false'. Refute it at one input. -/
def basesDefinitionWrong : ChangeSpec := { name := "basesDefinition", fn := fun _ => fun
  | [d1, d2, d3] => { results := [.lit (.bool false)], args := [d1, d2, d3] }
  | _ => none }
def BasesDefinitionWrongFalsely : Prop := basesDefinitionRow.holds Tryd.pinned (OpenSpec.ofChange basesDefinitionWrong)

/- THE SECOND FORM. 'bulk': how many values and letters a reading holds, each counted each time it is reached (what is shared counts as often as it is met; a slice's spare places count too). A statement '..UptoSaid' is the law's where the arguments, and the package variables that the reading takes, are together of bulk at most 1048576: NARROWER than '..Said'. Prove '..Said' where nothing that the law and all that it calls make is longer than what came in: it says more and counts as full. Else prove '..UptoSaid'. A law counts once. -/
mutual
def uptoBulk {H : Type} : DataW H → Nat
  | .lit (.string bytes) => bytes.length + 1
  | .lit _ => 1
  | .nil => 1
  | .ptr d => uptoBulk d + 1
  | .slice elems spare => uptoBulkAll elems + uptoBulkAll spare + 1
  | .agg parts => uptoBulkAll parts + 1
  | .iface _ d => uptoBulk d + 1
  | .map entries => uptoBulkEntries entries + 1
  | .held _ => 1
def uptoBulkAll {H : Type} : List (DataW H) → Nat
  | [] => 0
  | d :: r => uptoBulk d + uptoBulkAll r
def uptoBulkEntries {H : Type} : List (Lit × DataW H) → Nat
  | [] => 0
  | x :: r => uptoBulkEntry x + uptoBulkEntries r
def uptoBulkEntry {H : Type} : Lit × DataW H → Nat
  | (.string bytes, d) => bytes.length + uptoBulk d + 1
  | (_, d) => uptoBulk d + 1
 end
def uptoSmall : (H : Type) → List (DataW H) → Bool := fun _ ds => decide (uptoBulkAll ds ≤ 1048576)
def OpenSpec.upto (s : _root_.Go.ChangeSpec) : _root_.Go.OpenSpec := { _root_.Go.OpenSpec.ofChange s with cond := some uptoSmall }

/-- 'pedigreelaw19.WalkAncestor', WHERE WHAT IT READS IS OF BULK AT MOST 1048576: true; the input reads as it did. -/
def walkAncestorUptoRow : OpenClaim := { program := "ytieggbckcacihaadoor", sum := "94ad71950dcfaed069ddcdb1bde477ce1abde81ec78a2c9d9d085323bc166972", func := "pedigree/pedigreelaw19.WalkAncestor", spec := "walkAncestor", unfollowed := true, recurses := true, named := ["math/bits.deBruijn64tab"], apart := false, laid := [("math/bits.deBruijn64tab", laid_math_bits_deBruijn64tab)], narrowed := true }
def WalkAncestorUptoSaid : Prop := walkAncestorUptoRow.holds Tryd.pinned (OpenSpec.upto walkAncestorSpec)

/-- 'pedigreelaw19.WalkDown', WHERE WHAT IT READS IS OF BULK AT MOST 1048576: true; the input reads as it did. -/
def walkDownUptoRow : OpenClaim := { program := "ytieggbckcacihaadoor", sum := "94ad71950dcfaed069ddcdb1bde477ce1abde81ec78a2c9d9d085323bc166972", func := "pedigree/pedigreelaw19.WalkDown", spec := "walkDown", unfollowed := true, recurses := true, named := ["math/bits.deBruijn64tab"], apart := false, laid := [("math/bits.deBruijn64tab", laid_math_bits_deBruijn64tab)], narrowed := true }
def WalkDownUptoSaid : Prop := walkDownUptoRow.holds Tryd.pinned (OpenSpec.upto walkDownSpec)

/-- 'pedigreelaw19.WalkReaches', WHERE WHAT IT READS IS OF BULK AT MOST 1048576: true; the input reads as it did. -/
def walkReachesUptoRow : OpenClaim := { program := "ytieggbckcacihaadoor", sum := "94ad71950dcfaed069ddcdb1bde477ce1abde81ec78a2c9d9d085323bc166972", func := "pedigree/pedigreelaw19.WalkReaches", spec := "walkReaches", unfollowed := true, recurses := true, named := ["math/bits.deBruijn64tab"], apart := false, laid := [("math/bits.deBruijn64tab", laid_math_bits_deBruijn64tab)], narrowed := true }
def WalkReachesUptoSaid : Prop := walkReachesUptoRow.holds Tryd.pinned (OpenSpec.upto walkReachesSpec)

/-- 'pedigreelaw19.WalkPairs', WHERE WHAT IT READS IS OF BULK AT MOST 1048576: true; the input reads as it did. -/
def walkPairsUptoRow : OpenClaim := { program := "ytieggbckcacihaadoor", sum := "94ad71950dcfaed069ddcdb1bde477ce1abde81ec78a2c9d9d085323bc166972", func := "pedigree/pedigreelaw19.WalkPairs", spec := "walkPairs", unfollowed := true, recurses := true, named := ["math/bits.deBruijn64tab"], apart := false, laid := [("math/bits.deBruijn64tab", laid_math_bits_deBruijn64tab)], narrowed := true }
def WalkPairsUptoSaid : Prop := walkPairsUptoRow.holds Tryd.pinned (OpenSpec.upto walkPairsSpec)

/-- 'pedigreelaw19.WalkSplit', WHERE WHAT IT READS IS OF BULK AT MOST 1048576: true; the input reads as it did. -/
def walkSplitUptoRow : OpenClaim := { program := "ytieggbckcacihaadoor", sum := "94ad71950dcfaed069ddcdb1bde477ce1abde81ec78a2c9d9d085323bc166972", func := "pedigree/pedigreelaw19.WalkSplit", spec := "walkSplit", unfollowed := true, recurses := true, named := ["math/bits.deBruijn64tab"], apart := false, laid := [("math/bits.deBruijn64tab", laid_math_bits_deBruijn64tab)], narrowed := true }
def WalkSplitUptoSaid : Prop := walkSplitUptoRow.holds Tryd.pinned (OpenSpec.upto walkSplitSpec)

/-- 'pedigreelaw20.BasesMerge', WHERE WHAT IT READS IS OF BULK AT MOST 1048576: true; the input reads as it did. -/
def basesMergeUptoRow : OpenClaim := { program := "ytieggbckcacihaadoor", sum := "94ad71950dcfaed069ddcdb1bde477ce1abde81ec78a2c9d9d085323bc166972", func := "pedigree/pedigreelaw20.BasesMerge", spec := "basesMerge", unfollowed := true, recurses := true, named := ["math/bits.deBruijn64tab"], apart := false, laid := [("math/bits.deBruijn64tab", laid_math_bits_deBruijn64tab)], narrowed := true }
def BasesMergeUptoSaid : Prop := basesMergeUptoRow.holds Tryd.pinned (OpenSpec.upto basesMergeSpec)

/-- 'pedigreelaw20.BasesLists', WHERE WHAT IT READS IS OF BULK AT MOST 1048576: true; the input reads as it did. -/
def basesListsUptoRow : OpenClaim := { program := "ytieggbckcacihaadoor", sum := "94ad71950dcfaed069ddcdb1bde477ce1abde81ec78a2c9d9d085323bc166972", func := "pedigree/pedigreelaw20.BasesLists", spec := "basesLists", unfollowed := true, recurses := true, named := ["math/bits.deBruijn64tab"], apart := false, laid := [("math/bits.deBruijn64tab", laid_math_bits_deBruijn64tab)], narrowed := true }
def BasesListsUptoSaid : Prop := basesListsUptoRow.holds Tryd.pinned (OpenSpec.upto basesListsSpec)

/-- 'pedigreelaw20.BasesLaws', WHERE WHAT IT READS IS OF BULK AT MOST 1048576: true; the input reads as it did. -/
def basesLawsUptoRow : OpenClaim := { program := "ytieggbckcacihaadoor", sum := "94ad71950dcfaed069ddcdb1bde477ce1abde81ec78a2c9d9d085323bc166972", func := "pedigree/pedigreelaw20.BasesLaws", spec := "basesLaws", unfollowed := true, recurses := true, named := ["math/bits.deBruijn64tab"], apart := false, laid := [("math/bits.deBruijn64tab", laid_math_bits_deBruijn64tab)], narrowed := true }
def BasesLawsUptoSaid : Prop := basesLawsUptoRow.holds Tryd.pinned (OpenSpec.upto basesLawsSpec)

/-- 'pedigreelaw20.BasesCross', WHERE WHAT IT READS IS OF BULK AT MOST 1048576: true; the input reads as it did. -/
def basesCrossUptoRow : OpenClaim := { program := "ytieggbckcacihaadoor", sum := "94ad71950dcfaed069ddcdb1bde477ce1abde81ec78a2c9d9d085323bc166972", func := "pedigree/pedigreelaw20.BasesCross", spec := "basesCross", unfollowed := true, recurses := true, named := ["math/bits.deBruijn64tab"], apart := false, laid := [("math/bits.deBruijn64tab", laid_math_bits_deBruijn64tab)], narrowed := true }
def BasesCrossUptoSaid : Prop := basesCrossUptoRow.holds Tryd.pinned (OpenSpec.upto basesCrossSpec)

/-- 'pedigreelaw20.BasesDefinition', WHERE WHAT IT READS IS OF BULK AT MOST 1048576: true; the input reads as it did. -/
def basesDefinitionUptoRow : OpenClaim := { program := "ytieggbckcacihaadoor", sum := "94ad71950dcfaed069ddcdb1bde477ce1abde81ec78a2c9d9d085323bc166972", func := "pedigree/pedigreelaw20.BasesDefinition", spec := "basesDefinition", unfollowed := true, recurses := true, named := ["math/bits.deBruijn64tab"], apart := false, laid := [("math/bits.deBruijn64tab", laid_math_bits_deBruijn64tab)], narrowed := true }
def BasesDefinitionUptoSaid : Prop := basesDefinitionUptoRow.holds Tryd.pinned (OpenSpec.upto basesDefinitionSpec)

end Rows
end Go.Proofs.YtieggbckcacihaaDoor
