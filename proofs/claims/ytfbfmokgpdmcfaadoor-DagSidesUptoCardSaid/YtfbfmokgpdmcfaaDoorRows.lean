/-
  NARROWER THAN 'FOR EVERY INPUT', by the rows' own cells (each row's printed sentence says how): MarksLists: laid · MarksPlays: laid · MarksSizes: laid · MarksAlgebra: laid · MarksNone: laid · DagOrder: laid · DagBases: laid · DagSides: laid · DagAnswers: laid · DagPairs: laid.
  DERIVED. THE GIVEN ROWS OF THIS SEAT. 10 by the template 'for every input the law returns true; each argument reads behind the call as it read before'; 0 by the template 'total and deterministic' (their statements: YtfbfmokgpdmcfaaDoorTotals.lean).
  GIVEN WITH THE SEED: the statements are not yours to turn. If you find one false, say at which input.
  Laid BY PROGRAM, IN A SANDBOX (cutbox-rows.mjs): the forced cells as the released guide's own fill.sh prints them over the translation f7d726fb68cec247… (all of the seat's roots in one cut). By AI agents, Wed Nov 11 2026. No macro, syntax, notation, axiom, sorry.
-/
import Derived.Test.YtfbfmokgpdmcfaaDoorChecked
import GoSem.Claim
import GoSem.ClaimJoined
import GoSem.ClaimMapViews
import Derived.JoinedTies
import Derived.KernelRfl
namespace Go.Proofs.YtfbfmokgpdmcfaaDoor
/- THE CELL 'sum', in the pinned program and in every row, IS THE sha256 OF THE DUMP (.gsa) THAT YtfbfmokgpdmcfaaDoorProg.lean LOADS. Nothing in Lean hashes anything: it is a label: what it is worth is what the hold of that sum in a sandbox is worth. -/
noncomputable def Tryd.pinned : Pinned := { name := "ytfbfmokgpdmcfaadoor", sum := "f7d726fb68cec247d4c7e7388b2348d99f2cc5244f35adb330a9716ad4d43e7d", checked := Tryd.checked }
namespace Rows
def none {H : Type} : Left H := { results := [], args := [] }

/- WHAT THE LISTED PACKAGE-LEVEL VARIABLES READ AS WHEN THE CALL BEGINS. Each datum BY PROGRAM (the guide's laid-datum.mjs) off the statement by which the dump's own 'gosem.cut.vars' lays the variable. In a bare row this is a premise. The card (YtfbfmokgpdmcfaaDoorCards.lean) ties it to the program's text. -/
def laid_math_bits_deBruijn64tab {H : Type} : DataW H := .agg [.lit (.int .u8 0), .lit (.int .u8 1), .lit (.int .u8 56), .lit (.int .u8 2), .lit (.int .u8 57), .lit (.int .u8 49), .lit (.int .u8 28), .lit (.int .u8 3), .lit (.int .u8 61), .lit (.int .u8 58), .lit (.int .u8 42), .lit (.int .u8 50), .lit (.int .u8 38), .lit (.int .u8 29), .lit (.int .u8 17), .lit (.int .u8 4), .lit (.int .u8 62), .lit (.int .u8 47), .lit (.int .u8 59), .lit (.int .u8 36), .lit (.int .u8 45), .lit (.int .u8 43), .lit (.int .u8 51), .lit (.int .u8 22), .lit (.int .u8 53), .lit (.int .u8 39), .lit (.int .u8 33), .lit (.int .u8 30), .lit (.int .u8 24), .lit (.int .u8 18), .lit (.int .u8 12), .lit (.int .u8 5), .lit (.int .u8 63), .lit (.int .u8 55), .lit (.int .u8 48), .lit (.int .u8 27), .lit (.int .u8 60), .lit (.int .u8 41), .lit (.int .u8 37), .lit (.int .u8 16), .lit (.int .u8 46), .lit (.int .u8 35), .lit (.int .u8 44), .lit (.int .u8 21), .lit (.int .u8 52), .lit (.int .u8 32), .lit (.int .u8 23), .lit (.int .u8 11), .lit (.int .u8 54), .lit (.int .u8 26), .lit (.int .u8 40), .lit (.int .u8 15), .lit (.int .u8 34), .lit (.int .u8 20), .lit (.int .u8 31), .lit (.int .u8 10), .lit (.int .u8 25), .lit (.int .u8 14), .lit (.int .u8 19), .lit (.int .u8 9), .lit (.int .u8 13), .lit (.int .u8 8), .lit (.int .u8 7), .lit (.int .u8 6)]

/-- 'pedigreelaw04.MarksLists': WHATEVER THE INPUT: true; the input reads as it did. -/
def marksListsSpec : ChangeSpec := { name := "marksLists", fn := fun _ => fun
  | [d1, d2] => { results := [.lit (.bool true)], args := [d1, d2] }
  | _ => none }
def marksListsRow : OpenClaim := { program := "ytfbfmokgpdmcfaadoor", sum := "f7d726fb68cec247d4c7e7388b2348d99f2cc5244f35adb330a9716ad4d43e7d", func := "pedigree/pedigreelaw04.MarksLists", spec := "marksLists", named := ["math/bits.deBruijn64tab"], apart := false, laid := [("math/bits.deBruijn64tab", laid_math_bits_deBruijn64tab)] }
def MarksListsSaid : Prop := marksListsRow.holds Tryd.pinned (OpenSpec.ofChange marksListsSpec)

/-- ITS FALSE NEIGHBOUR: 'it returns false'. Refute it at one input. -/
def marksListsWrong : ChangeSpec := { name := "marksLists", fn := fun _ => fun
  | [d1, d2] => { results := [.lit (.bool false)], args := [d1, d2] }
  | _ => none }
def MarksListsWrongFalsely : Prop := marksListsRow.holds Tryd.pinned (OpenSpec.ofChange marksListsWrong)

/-- 'pedigreelaw04.MarksPlays': WHATEVER THE INPUT: true; the input reads as it did. -/
def marksPlaysSpec : ChangeSpec := { name := "marksPlays", fn := fun _ => fun
  | [d1, d2, d3] => { results := [.lit (.bool true)], args := [d1, d2, d3] }
  | _ => none }
def marksPlaysRow : OpenClaim := { program := "ytfbfmokgpdmcfaadoor", sum := "f7d726fb68cec247d4c7e7388b2348d99f2cc5244f35adb330a9716ad4d43e7d", func := "pedigree/pedigreelaw04.MarksPlays", spec := "marksPlays", unfollowed := true, recurses := true, named := ["math/bits.deBruijn64tab"], apart := false, laid := [("math/bits.deBruijn64tab", laid_math_bits_deBruijn64tab)] }
def MarksPlaysSaid : Prop := marksPlaysRow.holds Tryd.pinned (OpenSpec.ofChange marksPlaysSpec)

/-- ITS FALSE NEIGHBOUR: 'it returns false'. Refute it at one input. -/
def marksPlaysWrong : ChangeSpec := { name := "marksPlays", fn := fun _ => fun
  | [d1, d2, d3] => { results := [.lit (.bool false)], args := [d1, d2, d3] }
  | _ => none }
def MarksPlaysWrongFalsely : Prop := marksPlaysRow.holds Tryd.pinned (OpenSpec.ofChange marksPlaysWrong)

/-- 'pedigreelaw04.MarksSizes': WHATEVER THE INPUT: true; the input reads as it did. -/
def marksSizesSpec : ChangeSpec := { name := "marksSizes", fn := fun _ => fun
  | [d1, d2, d3] => { results := [.lit (.bool true)], args := [d1, d2, d3] }
  | _ => none }
def marksSizesRow : OpenClaim := { program := "ytfbfmokgpdmcfaadoor", sum := "f7d726fb68cec247d4c7e7388b2348d99f2cc5244f35adb330a9716ad4d43e7d", func := "pedigree/pedigreelaw04.MarksSizes", spec := "marksSizes", unfollowed := true, recurses := true, named := ["math/bits.deBruijn64tab"], apart := false, laid := [("math/bits.deBruijn64tab", laid_math_bits_deBruijn64tab)] }
def MarksSizesSaid : Prop := marksSizesRow.holds Tryd.pinned (OpenSpec.ofChange marksSizesSpec)

/-- ITS FALSE NEIGHBOUR: 'it returns false'. Refute it at one input. -/
def marksSizesWrong : ChangeSpec := { name := "marksSizes", fn := fun _ => fun
  | [d1, d2, d3] => { results := [.lit (.bool false)], args := [d1, d2, d3] }
  | _ => none }
def MarksSizesWrongFalsely : Prop := marksSizesRow.holds Tryd.pinned (OpenSpec.ofChange marksSizesWrong)

/-- 'pedigreelaw04.MarksAlgebra': WHATEVER THE INPUT: true; the input reads as it did. -/
def marksAlgebraSpec : ChangeSpec := { name := "marksAlgebra", fn := fun _ => fun
  | [d1, d2, d3] => { results := [.lit (.bool true)], args := [d1, d2, d3] }
  | _ => none }
def marksAlgebraRow : OpenClaim := { program := "ytfbfmokgpdmcfaadoor", sum := "f7d726fb68cec247d4c7e7388b2348d99f2cc5244f35adb330a9716ad4d43e7d", func := "pedigree/pedigreelaw04.MarksAlgebra", spec := "marksAlgebra", unfollowed := true, recurses := true, named := ["math/bits.deBruijn64tab"], apart := false, laid := [("math/bits.deBruijn64tab", laid_math_bits_deBruijn64tab)] }
def MarksAlgebraSaid : Prop := marksAlgebraRow.holds Tryd.pinned (OpenSpec.ofChange marksAlgebraSpec)

/-- ITS FALSE NEIGHBOUR: 'it returns false'. Refute it at one input. -/
def marksAlgebraWrong : ChangeSpec := { name := "marksAlgebra", fn := fun _ => fun
  | [d1, d2, d3] => { results := [.lit (.bool false)], args := [d1, d2, d3] }
  | _ => none }
def MarksAlgebraWrongFalsely : Prop := marksAlgebraRow.holds Tryd.pinned (OpenSpec.ofChange marksAlgebraWrong)

/-- 'pedigreelaw04.MarksNone': WHATEVER THE INPUT: true; the input reads as it did. -/
def marksNoneSpec : ChangeSpec := { name := "marksNone", fn := fun _ => fun
  | [d1, d2] => { results := [.lit (.bool true)], args := [d1, d2] }
  | _ => none }
def marksNoneRow : OpenClaim := { program := "ytfbfmokgpdmcfaadoor", sum := "f7d726fb68cec247d4c7e7388b2348d99f2cc5244f35adb330a9716ad4d43e7d", func := "pedigree/pedigreelaw04.MarksNone", spec := "marksNone", unfollowed := true, recurses := true, named := ["math/bits.deBruijn64tab"], apart := false, laid := [("math/bits.deBruijn64tab", laid_math_bits_deBruijn64tab)] }
def MarksNoneSaid : Prop := marksNoneRow.holds Tryd.pinned (OpenSpec.ofChange marksNoneSpec)

/-- ITS FALSE NEIGHBOUR: 'it returns false'. Refute it at one input. -/
def marksNoneWrong : ChangeSpec := { name := "marksNone", fn := fun _ => fun
  | [d1, d2] => { results := [.lit (.bool false)], args := [d1, d2] }
  | _ => none }
def MarksNoneWrongFalsely : Prop := marksNoneRow.holds Tryd.pinned (OpenSpec.ofChange marksNoneWrong)

/-- 'pedigreelaw11.DagOrder': WHATEVER THE INPUT: true; the input reads as it did. -/
def dagOrderSpec : ChangeSpec := { name := "dagOrder", fn := fun _ => fun
  | [d] => { results := [.lit (.bool true)], args := [d] }
  | _ => none }
def dagOrderRow : OpenClaim := { program := "ytfbfmokgpdmcfaadoor", sum := "f7d726fb68cec247d4c7e7388b2348d99f2cc5244f35adb330a9716ad4d43e7d", func := "pedigree/pedigreelaw11.DagOrder", spec := "dagOrder", unfollowed := true, recurses := true, named := ["math/bits.deBruijn64tab"], apart := false, laid := [("math/bits.deBruijn64tab", laid_math_bits_deBruijn64tab)] }
def DagOrderSaid : Prop := dagOrderRow.holds Tryd.pinned (OpenSpec.ofChange dagOrderSpec)

/-- ITS FALSE NEIGHBOUR: 'it returns false'. Refute it at one input. -/
def dagOrderWrong : ChangeSpec := { name := "dagOrder", fn := fun _ => fun
  | [d] => { results := [.lit (.bool false)], args := [d] }
  | _ => none }
def DagOrderWrongFalsely : Prop := dagOrderRow.holds Tryd.pinned (OpenSpec.ofChange dagOrderWrong)

/-- 'pedigreelaw11.DagBases': WHATEVER THE INPUT: true; the input reads as it did. -/
def dagBasesSpec : ChangeSpec := { name := "dagBases", fn := fun _ => fun
  | [d1, d2, d3] => { results := [.lit (.bool true)], args := [d1, d2, d3] }
  | _ => none }
def dagBasesRow : OpenClaim := { program := "ytfbfmokgpdmcfaadoor", sum := "f7d726fb68cec247d4c7e7388b2348d99f2cc5244f35adb330a9716ad4d43e7d", func := "pedigree/pedigreelaw11.DagBases", spec := "dagBases", unfollowed := true, recurses := true, named := ["math/bits.deBruijn64tab"], apart := false, laid := [("math/bits.deBruijn64tab", laid_math_bits_deBruijn64tab)] }
def DagBasesSaid : Prop := dagBasesRow.holds Tryd.pinned (OpenSpec.ofChange dagBasesSpec)

/-- ITS FALSE NEIGHBOUR: 'it returns false'. Refute it at one input. -/
def dagBasesWrong : ChangeSpec := { name := "dagBases", fn := fun _ => fun
  | [d1, d2, d3] => { results := [.lit (.bool false)], args := [d1, d2, d3] }
  | _ => none }
def DagBasesWrongFalsely : Prop := dagBasesRow.holds Tryd.pinned (OpenSpec.ofChange dagBasesWrong)

/-- 'pedigreelaw11.DagSides': WHATEVER THE INPUT: true; the input reads as it did. -/
def dagSidesSpec : ChangeSpec := { name := "dagSides", fn := fun _ => fun
  | [d1, d2, d3] => { results := [.lit (.bool true)], args := [d1, d2, d3] }
  | _ => none }
def dagSidesRow : OpenClaim := { program := "ytfbfmokgpdmcfaadoor", sum := "f7d726fb68cec247d4c7e7388b2348d99f2cc5244f35adb330a9716ad4d43e7d", func := "pedigree/pedigreelaw11.DagSides", spec := "dagSides", unfollowed := true, recurses := true, named := ["math/bits.deBruijn64tab"], apart := false, laid := [("math/bits.deBruijn64tab", laid_math_bits_deBruijn64tab)] }
def DagSidesSaid : Prop := dagSidesRow.holds Tryd.pinned (OpenSpec.ofChange dagSidesSpec)

/-- ITS FALSE NEIGHBOUR: 'it returns false'. Refute it at one input. -/
def dagSidesWrong : ChangeSpec := { name := "dagSides", fn := fun _ => fun
  | [d1, d2, d3] => { results := [.lit (.bool false)], args := [d1, d2, d3] }
  | _ => none }
def DagSidesWrongFalsely : Prop := dagSidesRow.holds Tryd.pinned (OpenSpec.ofChange dagSidesWrong)

/-- 'pedigreelaw11.DagAnswers': WHATEVER THE INPUT: true; the input reads as it did. -/
def dagAnswersSpec : ChangeSpec := { name := "dagAnswers", fn := fun _ => fun
  | [d1, d2, d3] => { results := [.lit (.bool true)], args := [d1, d2, d3] }
  | _ => none }
def dagAnswersRow : OpenClaim := { program := "ytfbfmokgpdmcfaadoor", sum := "f7d726fb68cec247d4c7e7388b2348d99f2cc5244f35adb330a9716ad4d43e7d", func := "pedigree/pedigreelaw11.DagAnswers", spec := "dagAnswers", unfollowed := true, recurses := true, named := ["math/bits.deBruijn64tab"], apart := false, laid := [("math/bits.deBruijn64tab", laid_math_bits_deBruijn64tab)] }
def DagAnswersSaid : Prop := dagAnswersRow.holds Tryd.pinned (OpenSpec.ofChange dagAnswersSpec)

/-- ITS FALSE NEIGHBOUR: 'it returns false'. Refute it at one input. -/
def dagAnswersWrong : ChangeSpec := { name := "dagAnswers", fn := fun _ => fun
  | [d1, d2, d3] => { results := [.lit (.bool false)], args := [d1, d2, d3] }
  | _ => none }
def DagAnswersWrongFalsely : Prop := dagAnswersRow.holds Tryd.pinned (OpenSpec.ofChange dagAnswersWrong)

/-- 'pedigreelaw11.DagPairs': WHATEVER THE INPUT: true; the input reads as it did. -/
def dagPairsSpec : ChangeSpec := { name := "dagPairs", fn := fun _ => fun
  | [d] => { results := [.lit (.bool true)], args := [d] }
  | _ => none }
def dagPairsRow : OpenClaim := { program := "ytfbfmokgpdmcfaadoor", sum := "f7d726fb68cec247d4c7e7388b2348d99f2cc5244f35adb330a9716ad4d43e7d", func := "pedigree/pedigreelaw11.DagPairs", spec := "dagPairs", unfollowed := true, recurses := true, named := ["math/bits.deBruijn64tab"], apart := false, laid := [("math/bits.deBruijn64tab", laid_math_bits_deBruijn64tab)] }
def DagPairsSaid : Prop := dagPairsRow.holds Tryd.pinned (OpenSpec.ofChange dagPairsSpec)

/-- ITS FALSE NEIGHBOUR: 'it returns false'. Refute it at one input. -/
def dagPairsWrong : ChangeSpec := { name := "dagPairs", fn := fun _ => fun
  | [d] => { results := [.lit (.bool false)], args := [d] }
  | _ => none }
def DagPairsWrongFalsely : Prop := dagPairsRow.holds Tryd.pinned (OpenSpec.ofChange dagPairsWrong)

/- THE SECOND FORM. 'bulk': how many values and letters a reading holds, each counted each time it is reached (what is shared counts as often as it is met; a slice's spare places count too). A statement '..UptoSaid' is the law's where the arguments, and the package variables that the reading takes, are together of bulk at most 1048576: NARROWER than '..Said'. Prove '..Said' where nothing that the law and all that it calls make is longer than what came in: it says more and counts as full. Else prove '..UptoSaid'. A law counts once. -/
mutual
def uptoBulk {H : Type} : DataW H → Nat
  | .lit (.string bytes) => bytes.length + 1
  | .lit _ => 1
  | .nil => 1
  | .ptr d => uptoBulk d + 1
  | .slice elems spare => uptoBulkAll elems + uptoBulkAll spare + 1
  | .agg parts => uptoBulkAll parts + 1
  | .iface _ d => uptoBulk d + 1
  | .map entries => uptoBulkEntries entries + 1
  | .held _ => 1
def uptoBulkAll {H : Type} : List (DataW H) → Nat
  | [] => 0
  | d :: r => uptoBulk d + uptoBulkAll r
def uptoBulkEntries {H : Type} : List (Lit × DataW H) → Nat
  | [] => 0
  | x :: r => uptoBulkEntry x + uptoBulkEntries r
def uptoBulkEntry {H : Type} : Lit × DataW H → Nat
  | (.string bytes, d) => bytes.length + uptoBulk d + 1
  | (_, d) => uptoBulk d + 1
 end
def uptoSmall : (H : Type) → List (DataW H) → Bool := fun _ ds => decide (uptoBulkAll ds ≤ 1048576)
def OpenSpec.upto (s : _root_.Go.ChangeSpec) : _root_.Go.OpenSpec := { _root_.Go.OpenSpec.ofChange s with cond := some uptoSmall }

/-- 'pedigreelaw04.MarksLists', WHERE WHAT IT READS IS OF BULK AT MOST 1048576: true; the input reads as it did. -/
def marksListsUptoRow : OpenClaim := { program := "ytfbfmokgpdmcfaadoor", sum := "f7d726fb68cec247d4c7e7388b2348d99f2cc5244f35adb330a9716ad4d43e7d", func := "pedigree/pedigreelaw04.MarksLists", spec := "marksLists", named := ["math/bits.deBruijn64tab"], apart := false, laid := [("math/bits.deBruijn64tab", laid_math_bits_deBruijn64tab)], narrowed := true }
def MarksListsUptoSaid : Prop := marksListsUptoRow.holds Tryd.pinned (OpenSpec.upto marksListsSpec)

/-- 'pedigreelaw04.MarksPlays', WHERE WHAT IT READS IS OF BULK AT MOST 1048576: true; the input reads as it did. -/
def marksPlaysUptoRow : OpenClaim := { program := "ytfbfmokgpdmcfaadoor", sum := "f7d726fb68cec247d4c7e7388b2348d99f2cc5244f35adb330a9716ad4d43e7d", func := "pedigree/pedigreelaw04.MarksPlays", spec := "marksPlays", unfollowed := true, recurses := true, named := ["math/bits.deBruijn64tab"], apart := false, laid := [("math/bits.deBruijn64tab", laid_math_bits_deBruijn64tab)], narrowed := true }
def MarksPlaysUptoSaid : Prop := marksPlaysUptoRow.holds Tryd.pinned (OpenSpec.upto marksPlaysSpec)

/-- 'pedigreelaw04.MarksSizes', WHERE WHAT IT READS IS OF BULK AT MOST 1048576: true; the input reads as it did. -/
def marksSizesUptoRow : OpenClaim := { program := "ytfbfmokgpdmcfaadoor", sum := "f7d726fb68cec247d4c7e7388b2348d99f2cc5244f35adb330a9716ad4d43e7d", func := "pedigree/pedigreelaw04.MarksSizes", spec := "marksSizes", unfollowed := true, recurses := true, named := ["math/bits.deBruijn64tab"], apart := false, laid := [("math/bits.deBruijn64tab", laid_math_bits_deBruijn64tab)], narrowed := true }
def MarksSizesUptoSaid : Prop := marksSizesUptoRow.holds Tryd.pinned (OpenSpec.upto marksSizesSpec)

/-- 'pedigreelaw04.MarksAlgebra', WHERE WHAT IT READS IS OF BULK AT MOST 1048576: true; the input reads as it did. -/
def marksAlgebraUptoRow : OpenClaim := { program := "ytfbfmokgpdmcfaadoor", sum := "f7d726fb68cec247d4c7e7388b2348d99f2cc5244f35adb330a9716ad4d43e7d", func := "pedigree/pedigreelaw04.MarksAlgebra", spec := "marksAlgebra", unfollowed := true, recurses := true, named := ["math/bits.deBruijn64tab"], apart := false, laid := [("math/bits.deBruijn64tab", laid_math_bits_deBruijn64tab)], narrowed := true }
def MarksAlgebraUptoSaid : Prop := marksAlgebraUptoRow.holds Tryd.pinned (OpenSpec.upto marksAlgebraSpec)

/-- 'pedigreelaw04.MarksNone', WHERE WHAT IT READS IS OF BULK AT MOST 1048576: true; the input reads as it did. -/
def marksNoneUptoRow : OpenClaim := { program := "ytfbfmokgpdmcfaadoor", sum := "f7d726fb68cec247d4c7e7388b2348d99f2cc5244f35adb330a9716ad4d43e7d", func := "pedigree/pedigreelaw04.MarksNone", spec := "marksNone", unfollowed := true, recurses := true, named := ["math/bits.deBruijn64tab"], apart := false, laid := [("math/bits.deBruijn64tab", laid_math_bits_deBruijn64tab)], narrowed := true }
def MarksNoneUptoSaid : Prop := marksNoneUptoRow.holds Tryd.pinned (OpenSpec.upto marksNoneSpec)

/-- 'pedigreelaw11.DagOrder', WHERE WHAT IT READS IS OF BULK AT MOST 1048576: true; the input reads as it did. -/
def dagOrderUptoRow : OpenClaim := { program := "ytfbfmokgpdmcfaadoor", sum := "f7d726fb68cec247d4c7e7388b2348d99f2cc5244f35adb330a9716ad4d43e7d", func := "pedigree/pedigreelaw11.DagOrder", spec := "dagOrder", unfollowed := true, recurses := true, named := ["math/bits.deBruijn64tab"], apart := false, laid := [("math/bits.deBruijn64tab", laid_math_bits_deBruijn64tab)], narrowed := true }
def DagOrderUptoSaid : Prop := dagOrderUptoRow.holds Tryd.pinned (OpenSpec.upto dagOrderSpec)

/-- 'pedigreelaw11.DagBases', WHERE WHAT IT READS IS OF BULK AT MOST 1048576: true; the input reads as it did. -/
def dagBasesUptoRow : OpenClaim := { program := "ytfbfmokgpdmcfaadoor", sum := "f7d726fb68cec247d4c7e7388b2348d99f2cc5244f35adb330a9716ad4d43e7d", func := "pedigree/pedigreelaw11.DagBases", spec := "dagBases", unfollowed := true, recurses := true, named := ["math/bits.deBruijn64tab"], apart := false, laid := [("math/bits.deBruijn64tab", laid_math_bits_deBruijn64tab)], narrowed := true }
def DagBasesUptoSaid : Prop := dagBasesUptoRow.holds Tryd.pinned (OpenSpec.upto dagBasesSpec)

/-- 'pedigreelaw11.DagSides', WHERE WHAT IT READS IS OF BULK AT MOST 1048576: true; the input reads as it did. -/
def dagSidesUptoRow : OpenClaim := { program := "ytfbfmokgpdmcfaadoor", sum := "f7d726fb68cec247d4c7e7388b2348d99f2cc5244f35adb330a9716ad4d43e7d", func := "pedigree/pedigreelaw11.DagSides", spec := "dagSides", unfollowed := true, recurses := true, named := ["math/bits.deBruijn64tab"], apart := false, laid := [("math/bits.deBruijn64tab", laid_math_bits_deBruijn64tab)], narrowed := true }
def DagSidesUptoSaid : Prop := dagSidesUptoRow.holds Tryd.pinned (OpenSpec.upto dagSidesSpec)

/-- 'pedigreelaw11.DagAnswers', WHERE WHAT IT READS IS OF BULK AT MOST 1048576: true; the input reads as it did. -/
def dagAnswersUptoRow : OpenClaim := { program := "ytfbfmokgpdmcfaadoor", sum := "f7d726fb68cec247d4c7e7388b2348d99f2cc5244f35adb330a9716ad4d43e7d", func := "pedigree/pedigreelaw11.DagAnswers", spec := "dagAnswers", unfollowed := true, recurses := true, named := ["math/bits.deBruijn64tab"], apart := false, laid := [("math/bits.deBruijn64tab", laid_math_bits_deBruijn64tab)], narrowed := true }
def DagAnswersUptoSaid : Prop := dagAnswersUptoRow.holds Tryd.pinned (OpenSpec.upto dagAnswersSpec)

/-- 'pedigreelaw11.DagPairs', WHERE WHAT IT READS IS OF BULK AT MOST 1048576: true; the input reads as it did. -/
def dagPairsUptoRow : OpenClaim := { program := "ytfbfmokgpdmcfaadoor", sum := "f7d726fb68cec247d4c7e7388b2348d99f2cc5244f35adb330a9716ad4d43e7d", func := "pedigree/pedigreelaw11.DagPairs", spec := "dagPairs", unfollowed := true, recurses := true, named := ["math/bits.deBruijn64tab"], apart := false, laid := [("math/bits.deBruijn64tab", laid_math_bits_deBruijn64tab)], narrowed := true }
def DagPairsUptoSaid : Prop := dagPairsUptoRow.holds Tryd.pinned (OpenSpec.upto dagPairsSpec)

end Rows
end Go.Proofs.YtfbfmokgpdmcfaaDoor
