/-
  No cell of these rows narrows 'for every input' (looked for: loops, veiled, ifaces, maps, wideKeys, modest, calm, conditions, laid).
  DERIVED. THE GIVEN ROWS OF THIS SEAT. 7 by the template 'for every input the law returns true; each argument reads behind the call as it read before'; 0 by the template 'total and deterministic' (their statements: YtakdmomhhjnolaaTotals.lean).
  GIVEN WITH THE SEED: the statements are not yours to turn. If you find one false, say at which input.
  Laid BY PROGRAM, IN A SANDBOX (cutbox-rows.mjs): the forced cells as the released guide's own fill.sh prints them over the translation 2d8ae0513123c805… (all of the seat's roots in one cut). By AI agents, Wed Nov 11 2026. No macro, syntax, notation, axiom, sorry.
-/
import Derived.Test.YtakdmomhhjnolaaChecked
import GoSem.Claim
import GoSem.ClaimJoined
import GoSem.ClaimMapViews
import Derived.JoinedTies
import Derived.KernelRfl
namespace Go.Proofs.Ytakdmomhhjnolaa
/- THE CELL 'sum', in the pinned program and in every row, IS THE sha256 OF THE DUMP (.gsa) THAT YtakdmomhhjnolaaProg.lean LOADS. Nothing in Lean hashes anything: it is a label: what it is worth is what the hold of that sum in a sandbox is worth. -/
noncomputable def Try.pinned : Pinned := { name := "ytakdmomhhjnolaa", sum := "2d8ae0513123c8054bb53063a030e3596b4aa40f96ddf1a0543679e5a666b86c", checked := Try.checked }
namespace Rows
def none {H : Type} : Left H := { results := [], args := [] }

/-- 'pedigreelaw12.GenNext': WHATEVER THE INPUT: true; the input reads as it did. -/
def genNextSpec : ChangeSpec := { name := "genNext", fn := fun _ => fun
  | [d] => { results := [.lit (.bool true)], args := [d] }
  | _ => none }
def genNextRow : OpenClaim := { program := "ytakdmomhhjnolaa", sum := "2d8ae0513123c8054bb53063a030e3596b4aa40f96ddf1a0543679e5a666b86c", func := "pedigree/pedigreelaw12.GenNext", spec := "genNext", unfollowed := true, recurses := true, apart := false }
def GenNextSaid : Prop := genNextRow.holds Try.pinned (OpenSpec.ofChange genNextSpec)

/-- ITS FALSE NEIGHBOUR: 'it returns false'. Refute it at one input. -/
def genNextWrong : ChangeSpec := { name := "genNext", fn := fun _ => fun
  | [d] => { results := [.lit (.bool false)], args := [d] }
  | _ => none }
def GenNextWrongFalsely : Prop := genNextRow.holds Try.pinned (OpenSpec.ofChange genNextWrong)

/-- 'pedigreelaw12.GenMay': WHATEVER THE INPUT: true; the input reads as it did. -/
def genMaySpec : ChangeSpec := { name := "genMay", fn := fun _ => fun
  | [d1, d2] => { results := [.lit (.bool true)], args := [d1, d2] }
  | _ => none }
def genMayRow : OpenClaim := { program := "ytakdmomhhjnolaa", sum := "2d8ae0513123c8054bb53063a030e3596b4aa40f96ddf1a0543679e5a666b86c", func := "pedigree/pedigreelaw12.GenMay", spec := "genMay", unfollowed := true, recurses := true, apart := false }
def GenMaySaid : Prop := genMayRow.holds Try.pinned (OpenSpec.ofChange genMaySpec)

/-- ITS FALSE NEIGHBOUR: 'it returns false'. Refute it at one input. -/
def genMayWrong : ChangeSpec := { name := "genMay", fn := fun _ => fun
  | [d1, d2] => { results := [.lit (.bool false)], args := [d1, d2] }
  | _ => none }
def GenMayWrongFalsely : Prop := genMayRow.holds Try.pinned (OpenSpec.ofChange genMayWrong)

/-- 'pedigreelaw12.GenAll': WHATEVER THE INPUT: true; the input reads as it did. -/
def genAllSpec : ChangeSpec := { name := "genAll", fn := fun _ => fun
  | [d] => { results := [.lit (.bool true)], args := [d] }
  | _ => none }
def genAllRow : OpenClaim := { program := "ytakdmomhhjnolaa", sum := "2d8ae0513123c8054bb53063a030e3596b4aa40f96ddf1a0543679e5a666b86c", func := "pedigree/pedigreelaw12.GenAll", spec := "genAll", unfollowed := true, recurses := true, apart := false }
def GenAllSaid : Prop := genAllRow.holds Try.pinned (OpenSpec.ofChange genAllSpec)

/-- ITS FALSE NEIGHBOUR: 'it returns false'. Refute it at one input. -/
def genAllWrong : ChangeSpec := { name := "genAll", fn := fun _ => fun
  | [d] => { results := [.lit (.bool false)], args := [d] }
  | _ => none }
def GenAllWrongFalsely : Prop := genAllRow.holds Try.pinned (OpenSpec.ofChange genAllWrong)

/-- 'pedigreelaw12.GenMore': WHATEVER THE INPUT: true; the input reads as it did. -/
def genMoreSpec : ChangeSpec := { name := "genMore", fn := fun _ => fun
  | [d1, d2] => { results := [.lit (.bool true)], args := [d1, d2] }
  | _ => none }
def genMoreRow : OpenClaim := { program := "ytakdmomhhjnolaa", sum := "2d8ae0513123c8054bb53063a030e3596b4aa40f96ddf1a0543679e5a666b86c", func := "pedigree/pedigreelaw12.GenMore", spec := "genMore", unfollowed := true, recurses := true, apart := false }
def GenMoreSaid : Prop := genMoreRow.holds Try.pinned (OpenSpec.ofChange genMoreSpec)

/-- ITS FALSE NEIGHBOUR: 'it returns false'. Refute it at one input. -/
def genMoreWrong : ChangeSpec := { name := "genMore", fn := fun _ => fun
  | [d1, d2] => { results := [.lit (.bool false)], args := [d1, d2] }
  | _ => none }
def GenMoreWrongFalsely : Prop := genMoreRow.holds Try.pinned (OpenSpec.ofChange genMoreWrong)

/-- 'pedigreelaw12.GenPieces': WHATEVER THE INPUT: true; the input reads as it did. -/
def genPiecesSpec : ChangeSpec := { name := "genPieces", fn := fun _ => fun
  | [d1, d2] => { results := [.lit (.bool true)], args := [d1, d2] }
  | _ => none }
def genPiecesRow : OpenClaim := { program := "ytakdmomhhjnolaa", sum := "2d8ae0513123c8054bb53063a030e3596b4aa40f96ddf1a0543679e5a666b86c", func := "pedigree/pedigreelaw12.GenPieces", spec := "genPieces", unfollowed := true, recurses := true, apart := false }
def GenPiecesSaid : Prop := genPiecesRow.holds Try.pinned (OpenSpec.ofChange genPiecesSpec)

/-- ITS FALSE NEIGHBOUR: 'it returns false'. Refute it at one input. -/
def genPiecesWrong : ChangeSpec := { name := "genPieces", fn := fun _ => fun
  | [d1, d2] => { results := [.lit (.bool false)], args := [d1, d2] }
  | _ => none }
def GenPiecesWrongFalsely : Prop := genPiecesRow.holds Try.pinned (OpenSpec.ofChange genPiecesWrong)

/-- 'pedigreelaw12.GenReach': WHATEVER THE INPUT: true; the input reads as it did. -/
def genReachSpec : ChangeSpec := { name := "genReach", fn := fun _ => fun
  | [d1, d2] => { results := [.lit (.bool true)], args := [d1, d2] }
  | _ => none }
def genReachRow : OpenClaim := { program := "ytakdmomhhjnolaa", sum := "2d8ae0513123c8054bb53063a030e3596b4aa40f96ddf1a0543679e5a666b86c", func := "pedigree/pedigreelaw12.GenReach", spec := "genReach", unfollowed := true, recurses := true, apart := false }
def GenReachSaid : Prop := genReachRow.holds Try.pinned (OpenSpec.ofChange genReachSpec)

/-- ITS FALSE NEIGHBOUR: 'it returns false'. Refute it at one input. -/
def genReachWrong : ChangeSpec := { name := "genReach", fn := fun _ => fun
  | [d1, d2] => { results := [.lit (.bool false)], args := [d1, d2] }
  | _ => none }
def GenReachWrongFalsely : Prop := genReachRow.holds Try.pinned (OpenSpec.ofChange genReachWrong)

/-- 'pedigreelaw12.GenLong': WHATEVER THE INPUT: true; the input reads as it did. -/
def genLongSpec : ChangeSpec := { name := "genLong", fn := fun _ => fun
  | [d1, d2] => { results := [.lit (.bool true)], args := [d1, d2] }
  | _ => none }
def genLongRow : OpenClaim := { program := "ytakdmomhhjnolaa", sum := "2d8ae0513123c8054bb53063a030e3596b4aa40f96ddf1a0543679e5a666b86c", func := "pedigree/pedigreelaw12.GenLong", spec := "genLong", unfollowed := true, recurses := true, apart := false }
def GenLongSaid : Prop := genLongRow.holds Try.pinned (OpenSpec.ofChange genLongSpec)

/-- ITS FALSE NEIGHBOUR: 'it returns false'. Refute it at one input. -/
def genLongWrong : ChangeSpec := { name := "genLong", fn := fun _ => fun
  | [d1, d2] => { results := [.lit (.bool false)], args := [d1, d2] }
  | _ => none }
def GenLongWrongFalsely : Prop := genLongRow.holds Try.pinned (OpenSpec.ofChange genLongWrong)

/- THE SECOND FORM. 'bulk': how many values and letters a reading holds, each counted each time it is reached (what is shared counts as often as it is met; a slice's spare places count too). A statement '..UptoSaid' is the law's where the arguments, and the package variables that the reading takes, are together of bulk at most 1048576: NARROWER than '..Said'. Prove '..Said' where nothing that the law and all that it calls make is longer than what came in: it says more and counts as full. Else prove '..UptoSaid'. A law counts once. -/
mutual
def uptoBulk {H : Type} : DataW H → Nat
  | .lit (.string bytes) => bytes.length + 1
  | .lit _ => 1
  | .nil => 1
  | .ptr d => uptoBulk d + 1
  | .slice elems spare => uptoBulkAll elems + uptoBulkAll spare + 1
  | .agg parts => uptoBulkAll parts + 1
  | .iface _ d => uptoBulk d + 1
  | .map entries => uptoBulkEntries entries + 1
  | .held _ => 1
def uptoBulkAll {H : Type} : List (DataW H) → Nat
  | [] => 0
  | d :: r => uptoBulk d + uptoBulkAll r
def uptoBulkEntries {H : Type} : List (Lit × DataW H) → Nat
  | [] => 0
  | x :: r => uptoBulkEntry x + uptoBulkEntries r
def uptoBulkEntry {H : Type} : Lit × DataW H → Nat
  | (.string bytes, d) => bytes.length + uptoBulk d + 1
  | (_, d) => uptoBulk d + 1
 end
def uptoSmall : (H : Type) → List (DataW H) → Bool := fun _ ds => decide (uptoBulkAll ds ≤ 1048576)
def OpenSpec.upto (s : _root_.Go.ChangeSpec) : _root_.Go.OpenSpec := { _root_.Go.OpenSpec.ofChange s with cond := some uptoSmall }

/-- 'pedigreelaw12.GenNext', WHERE WHAT IT READS IS OF BULK AT MOST 1048576: true; the input reads as it did. -/
def genNextUptoRow : OpenClaim := { program := "ytakdmomhhjnolaa", sum := "2d8ae0513123c8054bb53063a030e3596b4aa40f96ddf1a0543679e5a666b86c", func := "pedigree/pedigreelaw12.GenNext", spec := "genNext", unfollowed := true, recurses := true, apart := false, narrowed := true }
def GenNextUptoSaid : Prop := genNextUptoRow.holds Try.pinned (OpenSpec.upto genNextSpec)

/-- 'pedigreelaw12.GenMay', WHERE WHAT IT READS IS OF BULK AT MOST 1048576: true; the input reads as it did. -/
def genMayUptoRow : OpenClaim := { program := "ytakdmomhhjnolaa", sum := "2d8ae0513123c8054bb53063a030e3596b4aa40f96ddf1a0543679e5a666b86c", func := "pedigree/pedigreelaw12.GenMay", spec := "genMay", unfollowed := true, recurses := true, apart := false, narrowed := true }
def GenMayUptoSaid : Prop := genMayUptoRow.holds Try.pinned (OpenSpec.upto genMaySpec)

/-- 'pedigreelaw12.GenAll', WHERE WHAT IT READS IS OF BULK AT MOST 1048576: true; the input reads as it did. -/
def genAllUptoRow : OpenClaim := { program := "ytakdmomhhjnolaa", sum := "2d8ae0513123c8054bb53063a030e3596b4aa40f96ddf1a0543679e5a666b86c", func := "pedigree/pedigreelaw12.GenAll", spec := "genAll", unfollowed := true, recurses := true, apart := false, narrowed := true }
def GenAllUptoSaid : Prop := genAllUptoRow.holds Try.pinned (OpenSpec.upto genAllSpec)

/-- 'pedigreelaw12.GenMore', WHERE WHAT IT READS IS OF BULK AT MOST 1048576: true; the input reads as it did. -/
def genMoreUptoRow : OpenClaim := { program := "ytakdmomhhjnolaa", sum := "2d8ae0513123c8054bb53063a030e3596b4aa40f96ddf1a0543679e5a666b86c", func := "pedigree/pedigreelaw12.GenMore", spec := "genMore", unfollowed := true, recurses := true, apart := false, narrowed := true }
def GenMoreUptoSaid : Prop := genMoreUptoRow.holds Try.pinned (OpenSpec.upto genMoreSpec)

/-- 'pedigreelaw12.GenPieces', WHERE WHAT IT READS IS OF BULK AT MOST 1048576: true; the input reads as it did. -/
def genPiecesUptoRow : OpenClaim := { program := "ytakdmomhhjnolaa", sum := "2d8ae0513123c8054bb53063a030e3596b4aa40f96ddf1a0543679e5a666b86c", func := "pedigree/pedigreelaw12.GenPieces", spec := "genPieces", unfollowed := true, recurses := true, apart := false, narrowed := true }
def GenPiecesUptoSaid : Prop := genPiecesUptoRow.holds Try.pinned (OpenSpec.upto genPiecesSpec)

/-- 'pedigreelaw12.GenReach', WHERE WHAT IT READS IS OF BULK AT MOST 1048576: true; the input reads as it did. -/
def genReachUptoRow : OpenClaim := { program := "ytakdmomhhjnolaa", sum := "2d8ae0513123c8054bb53063a030e3596b4aa40f96ddf1a0543679e5a666b86c", func := "pedigree/pedigreelaw12.GenReach", spec := "genReach", unfollowed := true, recurses := true, apart := false, narrowed := true }
def GenReachUptoSaid : Prop := genReachUptoRow.holds Try.pinned (OpenSpec.upto genReachSpec)

/-- 'pedigreelaw12.GenLong', WHERE WHAT IT READS IS OF BULK AT MOST 1048576: true; the input reads as it did. -/
def genLongUptoRow : OpenClaim := { program := "ytakdmomhhjnolaa", sum := "2d8ae0513123c8054bb53063a030e3596b4aa40f96ddf1a0543679e5a666b86c", func := "pedigree/pedigreelaw12.GenLong", spec := "genLong", unfollowed := true, recurses := true, apart := false, narrowed := true }
def GenLongUptoSaid : Prop := genLongUptoRow.holds Try.pinned (OpenSpec.upto genLongSpec)

end Rows
end Go.Proofs.Ytakdmomhhjnolaa
