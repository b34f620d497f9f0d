/-
  No cell of these rows narrows 'for every input' (looked for: loops, veiled, ifaces, maps, wideKeys, modest, calm, conditions, laid).
  DERIVED. THE GIVEN ROWS OF THIS SEAT. 5 by the template 'for every input the law returns true; each argument reads behind the call as it read before'; 0 by the template 'total and deterministic' (their statements: YtplekpdckcidjaaTotals.lean).
  GIVEN WITH THE SEED: the statements are not yours to turn. If you find one false, say at which input.
  Laid BY PROGRAM, IN A SANDBOX (cutbox-rows.mjs): the forced cells as the released guide's own fill.sh prints them over the translation a49478e9819f2033… (all of the seat's roots in one cut). By AI agents, Wed Nov 11 2026. No macro, syntax, notation, axiom, sorry.
-/
import Derived.Test.YtplekpdckcidjaaChecked
import GoSem.Claim
import GoSem.ClaimJoined
import GoSem.ClaimMapViews
import Derived.JoinedTies
import Derived.KernelRfl
namespace Go.Proofs.Ytplekpdckcidjaa
/- THE CELL 'sum', in the pinned program and in every row, IS THE sha256 OF THE DUMP (.gsa) THAT YtplekpdckcidjaaProg.lean LOADS. Nothing in Lean hashes anything: it is a label: what it is worth is what the hold of that sum in a sandbox is worth. -/
noncomputable def Try.pinned : Pinned := { name := "ytplekpdckcidjaa", sum := "a49478e9819f203391991944fe3fdc61537f291a14d0ce81153e778f21d0dcfb", checked := Try.checked }
namespace Rows
def none {H : Type} : Left H := { results := [], args := [] }

/-- 'pedigreelaw03.QueueSorts': WHATEVER THE INPUT: true; the input reads as it did. -/
def queueSortsSpec : ChangeSpec := { name := "queueSorts", fn := fun _ => fun
  | [d1, d2] => { results := [.lit (.bool true)], args := [d1, d2] }
  | _ => none }
def queueSortsRow : OpenClaim := { program := "ytplekpdckcidjaa", sum := "a49478e9819f203391991944fe3fdc61537f291a14d0ce81153e778f21d0dcfb", func := "pedigree/pedigreelaw03.QueueSorts", spec := "queueSorts", unfollowed := true, recurses := true, apart := false }
def QueueSortsSaid : Prop := queueSortsRow.holds Try.pinned (OpenSpec.ofChange queueSortsSpec)

/-- ITS FALSE NEIGHBOUR: 'it returns false'. Refute it at one input. -/
def queueSortsWrong : ChangeSpec := { name := "queueSorts", fn := fun _ => fun
  | [d1, d2] => { results := [.lit (.bool false)], args := [d1, d2] }
  | _ => none }
def QueueSortsWrongFalsely : Prop := queueSortsRow.holds Try.pinned (OpenSpec.ofChange queueSortsWrong)

/-- 'pedigreelaw03.QueueWhile': WHATEVER THE INPUT: true; the input reads as it did. -/
def queueWhileSpec : ChangeSpec := { name := "queueWhile", fn := fun _ => fun
  | [d1, d2] => { results := [.lit (.bool true)], args := [d1, d2] }
  | _ => none }
def queueWhileRow : OpenClaim := { program := "ytplekpdckcidjaa", sum := "a49478e9819f203391991944fe3fdc61537f291a14d0ce81153e778f21d0dcfb", func := "pedigree/pedigreelaw03.QueueWhile", spec := "queueWhile", unfollowed := true, recurses := true, apart := false }
def QueueWhileSaid : Prop := queueWhileRow.holds Try.pinned (OpenSpec.ofChange queueWhileSpec)

/-- ITS FALSE NEIGHBOUR: 'it returns false'. Refute it at one input. -/
def queueWhileWrong : ChangeSpec := { name := "queueWhile", fn := fun _ => fun
  | [d1, d2] => { results := [.lit (.bool false)], args := [d1, d2] }
  | _ => none }
def QueueWhileWrongFalsely : Prop := queueWhileRow.holds Try.pinned (OpenSpec.ofChange queueWhileWrong)

/-- 'pedigreelaw03.QueueOdd': WHATEVER THE INPUT: true; the input reads as it did. -/
def queueOddSpec : ChangeSpec := { name := "queueOdd", fn := fun _ => fun
  | [d1, d2] => { results := [.lit (.bool true)], args := [d1, d2] }
  | _ => none }
def queueOddRow : OpenClaim := { program := "ytplekpdckcidjaa", sum := "a49478e9819f203391991944fe3fdc61537f291a14d0ce81153e778f21d0dcfb", func := "pedigree/pedigreelaw03.QueueOdd", spec := "queueOdd", unfollowed := true, recurses := true, apart := false }
def QueueOddSaid : Prop := queueOddRow.holds Try.pinned (OpenSpec.ofChange queueOddSpec)

/-- ITS FALSE NEIGHBOUR: 'it returns false'. Refute it at one input. -/
def queueOddWrong : ChangeSpec := { name := "queueOdd", fn := fun _ => fun
  | [d1, d2] => { results := [.lit (.bool false)], args := [d1, d2] }
  | _ => none }
def QueueOddWrongFalsely : Prop := queueOddRow.holds Try.pinned (OpenSpec.ofChange queueOddWrong)

/-- 'pedigreelaw03.QueuePlays': WHATEVER THE INPUT: true; the input reads as it did. -/
def queuePlaysSpec : ChangeSpec := { name := "queuePlays", fn := fun _ => fun
  | [d] => { results := [.lit (.bool true)], args := [d] }
  | _ => none }
def queuePlaysRow : OpenClaim := { program := "ytplekpdckcidjaa", sum := "a49478e9819f203391991944fe3fdc61537f291a14d0ce81153e778f21d0dcfb", func := "pedigree/pedigreelaw03.QueuePlays", spec := "queuePlays", unfollowed := true, recurses := true, apart := false }
def QueuePlaysSaid : Prop := queuePlaysRow.holds Try.pinned (OpenSpec.ofChange queuePlaysSpec)

/-- ITS FALSE NEIGHBOUR: 'it returns false'. Refute it at one input. -/
def queuePlaysWrong : ChangeSpec := { name := "queuePlays", fn := fun _ => fun
  | [d] => { results := [.lit (.bool false)], args := [d] }
  | _ => none }
def QueuePlaysWrongFalsely : Prop := queuePlaysRow.holds Try.pinned (OpenSpec.ofChange queuePlaysWrong)

/-- 'pedigreelaw03.QueueNone': WHATEVER THE INPUT: true; the input reads as it did. -/
def queueNoneSpec : ChangeSpec := { name := "queueNone", fn := fun _ => fun
  | [d] => { results := [.lit (.bool true)], args := [d] }
  | _ => none }
def queueNoneRow : OpenClaim := { program := "ytplekpdckcidjaa", sum := "a49478e9819f203391991944fe3fdc61537f291a14d0ce81153e778f21d0dcfb", func := "pedigree/pedigreelaw03.QueueNone", spec := "queueNone", unfollowed := true, recurses := true, apart := false }
def QueueNoneSaid : Prop := queueNoneRow.holds Try.pinned (OpenSpec.ofChange queueNoneSpec)

/-- ITS FALSE NEIGHBOUR: 'it returns false'. Refute it at one input. -/
def queueNoneWrong : ChangeSpec := { name := "queueNone", fn := fun _ => fun
  | [d] => { results := [.lit (.bool false)], args := [d] }
  | _ => none }
def QueueNoneWrongFalsely : Prop := queueNoneRow.holds Try.pinned (OpenSpec.ofChange queueNoneWrong)

/- THE SECOND FORM. 'bulk': how many values and letters a reading holds, each counted each time it is reached (what is shared counts as often as it is met; a slice's spare places count too). A statement '..UptoSaid' is the law's where the arguments, and the package variables that the reading takes, are together of bulk at most 1048576: NARROWER than '..Said'. Prove '..Said' where nothing that the law and all that it calls make is longer than what came in: it says more and counts as full. Else prove '..UptoSaid'. A law counts once. -/
mutual
def uptoBulk {H : Type} : DataW H → Nat
  | .lit (.string bytes) => bytes.length + 1
  | .lit _ => 1
  | .nil => 1
  | .ptr d => uptoBulk d + 1
  | .slice elems spare => uptoBulkAll elems + uptoBulkAll spare + 1
  | .agg parts => uptoBulkAll parts + 1
  | .iface _ d => uptoBulk d + 1
  | .map entries => uptoBulkEntries entries + 1
  | .held _ => 1
def uptoBulkAll {H : Type} : List (DataW H) → Nat
  | [] => 0
  | d :: r => uptoBulk d + uptoBulkAll r
def uptoBulkEntries {H : Type} : List (Lit × DataW H) → Nat
  | [] => 0
  | x :: r => uptoBulkEntry x + uptoBulkEntries r
def uptoBulkEntry {H : Type} : Lit × DataW H → Nat
  | (.string bytes, d) => bytes.length + uptoBulk d + 1
  | (_, d) => uptoBulk d + 1
 end
def uptoSmall : (H : Type) → List (DataW H) → Bool := fun _ ds => decide (uptoBulkAll ds ≤ 1048576)
def OpenSpec.upto (s : _root_.Go.ChangeSpec) : _root_.Go.OpenSpec := { _root_.Go.OpenSpec.ofChange s with cond := some uptoSmall }

/-- 'pedigreelaw03.QueueSorts', WHERE WHAT IT READS IS OF BULK AT MOST 1048576: true; the input reads as it did. -/
def queueSortsUptoRow : OpenClaim := { program := "ytplekpdckcidjaa", sum := "a49478e9819f203391991944fe3fdc61537f291a14d0ce81153e778f21d0dcfb", func := "pedigree/pedigreelaw03.QueueSorts", spec := "queueSorts", unfollowed := true, recurses := true, apart := false, narrowed := true }
def QueueSortsUptoSaid : Prop := queueSortsUptoRow.holds Try.pinned (OpenSpec.upto queueSortsSpec)

/-- 'pedigreelaw03.QueueWhile', WHERE WHAT IT READS IS OF BULK AT MOST 1048576: true; the input reads as it did. -/
def queueWhileUptoRow : OpenClaim := { program := "ytplekpdckcidjaa", sum := "a49478e9819f203391991944fe3fdc61537f291a14d0ce81153e778f21d0dcfb", func := "pedigree/pedigreelaw03.QueueWhile", spec := "queueWhile", unfollowed := true, recurses := true, apart := false, narrowed := true }
def QueueWhileUptoSaid : Prop := queueWhileUptoRow.holds Try.pinned (OpenSpec.upto queueWhileSpec)

/-- 'pedigreelaw03.QueueOdd', WHERE WHAT IT READS IS OF BULK AT MOST 1048576: true; the input reads as it did. -/
def queueOddUptoRow : OpenClaim := { program := "ytplekpdckcidjaa", sum := "a49478e9819f203391991944fe3fdc61537f291a14d0ce81153e778f21d0dcfb", func := "pedigree/pedigreelaw03.QueueOdd", spec := "queueOdd", unfollowed := true, recurses := true, apart := false, narrowed := true }
def QueueOddUptoSaid : Prop := queueOddUptoRow.holds Try.pinned (OpenSpec.upto queueOddSpec)

/-- 'pedigreelaw03.QueuePlays', WHERE WHAT IT READS IS OF BULK AT MOST 1048576: true; the input reads as it did. -/
def queuePlaysUptoRow : OpenClaim := { program := "ytplekpdckcidjaa", sum := "a49478e9819f203391991944fe3fdc61537f291a14d0ce81153e778f21d0dcfb", func := "pedigree/pedigreelaw03.QueuePlays", spec := "queuePlays", unfollowed := true, recurses := true, apart := false, narrowed := true }
def QueuePlaysUptoSaid : Prop := queuePlaysUptoRow.holds Try.pinned (OpenSpec.upto queuePlaysSpec)

/-- 'pedigreelaw03.QueueNone', WHERE WHAT IT READS IS OF BULK AT MOST 1048576: true; the input reads as it did. -/
def queueNoneUptoRow : OpenClaim := { program := "ytplekpdckcidjaa", sum := "a49478e9819f203391991944fe3fdc61537f291a14d0ce81153e778f21d0dcfb", func := "pedigree/pedigreelaw03.QueueNone", spec := "queueNone", unfollowed := true, recurses := true, apart := false, narrowed := true }
def QueueNoneUptoSaid : Prop := queueNoneUptoRow.holds Try.pinned (OpenSpec.upto queueNoneSpec)

end Rows
end Go.Proofs.Ytplekpdckcidjaa
