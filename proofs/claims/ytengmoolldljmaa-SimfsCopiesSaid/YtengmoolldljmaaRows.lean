/-
  No cell of these rows narrows 'for every input' (looked for: loops, veiled, ifaces, maps, wideKeys, modest, calm, conditions, laid).
  DERIVED. THE GIVEN ROWS OF THIS SEAT. 8 by the template 'for every input the law returns true; each argument reads behind the call as it read before'; 0 by the template 'total and deterministic' (their statements: YtengmoolldljmaaTotals.lean).
  GIVEN WITH THE SEED: the statements are not yours to turn. If you find one false, say at which input.
  Laid BY PROGRAM, IN A SANDBOX (cutbox-rows.mjs): the forced cells as the released guide's own fill.sh prints them over the translation 5fb5f9edb61b6b73… (all of the seat's roots in one cut). By AI agents, Wed Nov 11 2026. No macro, syntax, notation, axiom, sorry.
-/
import Derived.Test.YtengmoolldljmaaChecked
import GoSem.Claim
import GoSem.ClaimJoined
import GoSem.ClaimMapViews
import Derived.JoinedTies
import Derived.KernelRfl
namespace Go.Proofs.Ytengmoolldljmaa
/- THE CELL 'sum', in the pinned program and in every row, IS THE sha256 OF THE DUMP (.gsa) THAT YtengmoolldljmaaProg.lean LOADS. Nothing in Lean hashes anything: it is a label: what it is worth is what the hold of that sum in a sandbox is worth. -/
noncomputable def Try.pinned : Pinned := { name := "ytengmoolldljmaa", sum := "5fb5f9edb61b6b73074ff97fca8f3e742836f59f17cffd21e2d1104e3797ced0", checked := Try.checked }
namespace Rows
def none {H : Type} : Left H := { results := [], args := [] }

/-- 'pedigreelaw06.SimfsBegins': WHATEVER THE INPUT: true; the input reads as it did. -/
def simfsBeginsSpec : ChangeSpec := { name := "simfsBegins", fn := fun _ => fun
  | [d1, d2, d3] => { results := [.lit (.bool true)], args := [d1, d2, d3] }
  | _ => none }
def simfsBeginsRow : OpenClaim := { program := "ytengmoolldljmaa", sum := "5fb5f9edb61b6b73074ff97fca8f3e742836f59f17cffd21e2d1104e3797ced0", func := "pedigree/pedigreelaw06.SimfsBegins", spec := "simfsBegins", inPlace := ["maps.clone"], unfollowed := true, recurses := true, apart := false }
def SimfsBeginsSaid : Prop := simfsBeginsRow.holds Try.pinned (OpenSpec.ofChange simfsBeginsSpec)

/-- ITS FALSE NEIGHBOUR: 'it returns false'. Refute it at one input. -/
def simfsBeginsWrong : ChangeSpec := { name := "simfsBegins", fn := fun _ => fun
  | [d1, d2, d3] => { results := [.lit (.bool false)], args := [d1, d2, d3] }
  | _ => none }
def SimfsBeginsWrongFalsely : Prop := simfsBeginsRow.holds Try.pinned (OpenSpec.ofChange simfsBeginsWrong)

/-- 'pedigreelaw06.SimfsStays': WHATEVER THE INPUT: true; the input reads as it did. -/
def simfsStaysSpec : ChangeSpec := { name := "simfsStays", fn := fun _ => fun
  | [d1, d2, d3] => { results := [.lit (.bool true)], args := [d1, d2, d3] }
  | _ => none }
def simfsStaysRow : OpenClaim := { program := "ytengmoolldljmaa", sum := "5fb5f9edb61b6b73074ff97fca8f3e742836f59f17cffd21e2d1104e3797ced0", func := "pedigree/pedigreelaw06.SimfsStays", spec := "simfsStays", inPlace := ["maps.clone"], unfollowed := true, recurses := true, apart := false }
def SimfsStaysSaid : Prop := simfsStaysRow.holds Try.pinned (OpenSpec.ofChange simfsStaysSpec)

/-- ITS FALSE NEIGHBOUR: 'it returns false'. Refute it at one input. -/
def simfsStaysWrong : ChangeSpec := { name := "simfsStays", fn := fun _ => fun
  | [d1, d2, d3] => { results := [.lit (.bool false)], args := [d1, d2, d3] }
  | _ => none }
def SimfsStaysWrongFalsely : Prop := simfsStaysRow.holds Try.pinned (OpenSpec.ofChange simfsStaysWrong)

/-- 'pedigreelaw06.SimfsNames': WHATEVER THE INPUT: true; the input reads as it did. -/
def simfsNamesSpec : ChangeSpec := { name := "simfsNames", fn := fun _ => fun
  | [d1, d2, d3] => { results := [.lit (.bool true)], args := [d1, d2, d3] }
  | _ => none }
def simfsNamesRow : OpenClaim := { program := "ytengmoolldljmaa", sum := "5fb5f9edb61b6b73074ff97fca8f3e742836f59f17cffd21e2d1104e3797ced0", func := "pedigree/pedigreelaw06.SimfsNames", spec := "simfsNames", inPlace := ["maps.clone"], unfollowed := true, recurses := true, apart := false }
def SimfsNamesSaid : Prop := simfsNamesRow.holds Try.pinned (OpenSpec.ofChange simfsNamesSpec)

/-- ITS FALSE NEIGHBOUR: 'it returns false'. Refute it at one input. -/
def simfsNamesWrong : ChangeSpec := { name := "simfsNames", fn := fun _ => fun
  | [d1, d2, d3] => { results := [.lit (.bool false)], args := [d1, d2, d3] }
  | _ => none }
def SimfsNamesWrongFalsely : Prop := simfsNamesRow.holds Try.pinned (OpenSpec.ofChange simfsNamesWrong)

/-- 'pedigreelaw06.SimfsFalls': WHATEVER THE INPUT: true; the input reads as it did. -/
def simfsFallsSpec : ChangeSpec := { name := "simfsFalls", fn := fun _ => fun
  | [d1, d2] => { results := [.lit (.bool true)], args := [d1, d2] }
  | _ => none }
def simfsFallsRow : OpenClaim := { program := "ytengmoolldljmaa", sum := "5fb5f9edb61b6b73074ff97fca8f3e742836f59f17cffd21e2d1104e3797ced0", func := "pedigree/pedigreelaw06.SimfsFalls", spec := "simfsFalls", inPlace := ["maps.clone"], unfollowed := true, recurses := true, apart := false }
def SimfsFallsSaid : Prop := simfsFallsRow.holds Try.pinned (OpenSpec.ofChange simfsFallsSpec)

/-- ITS FALSE NEIGHBOUR: 'it returns false'. Refute it at one input. -/
def simfsFallsWrong : ChangeSpec := { name := "simfsFalls", fn := fun _ => fun
  | [d1, d2] => { results := [.lit (.bool false)], args := [d1, d2] }
  | _ => none }
def SimfsFallsWrongFalsely : Prop := simfsFallsRow.holds Try.pinned (OpenSpec.ofChange simfsFallsWrong)

/-- 'pedigreelaw06.SimfsPlays': WHATEVER THE INPUT: true; the input reads as it did. -/
def simfsPlaysSpec : ChangeSpec := { name := "simfsPlays", fn := fun _ => fun
  | [d1, d2] => { results := [.lit (.bool true)], args := [d1, d2] }
  | _ => none }
def simfsPlaysRow : OpenClaim := { program := "ytengmoolldljmaa", sum := "5fb5f9edb61b6b73074ff97fca8f3e742836f59f17cffd21e2d1104e3797ced0", func := "pedigree/pedigreelaw06.SimfsPlays", spec := "simfsPlays", inPlace := ["maps.clone"], unfollowed := true, recurses := true, apart := false }
def SimfsPlaysSaid : Prop := simfsPlaysRow.holds Try.pinned (OpenSpec.ofChange simfsPlaysSpec)

/-- ITS FALSE NEIGHBOUR: 'it returns false'. Refute it at one input. -/
def simfsPlaysWrong : ChangeSpec := { name := "simfsPlays", fn := fun _ => fun
  | [d1, d2] => { results := [.lit (.bool false)], args := [d1, d2] }
  | _ => none }
def SimfsPlaysWrongFalsely : Prop := simfsPlaysRow.holds Try.pinned (OpenSpec.ofChange simfsPlaysWrong)

/-- 'pedigreelaw06.SimfsCopies': WHATEVER THE INPUT: true; the input reads as it did. -/
def simfsCopiesSpec : ChangeSpec := { name := "simfsCopies", fn := fun _ => fun
  | [d1, d2, d3] => { results := [.lit (.bool true)], args := [d1, d2, d3] }
  | _ => none }
def simfsCopiesRow : OpenClaim := { program := "ytengmoolldljmaa", sum := "5fb5f9edb61b6b73074ff97fca8f3e742836f59f17cffd21e2d1104e3797ced0", func := "pedigree/pedigreelaw06.SimfsCopies", spec := "simfsCopies", inPlace := ["maps.clone"], unfollowed := true, recurses := true, apart := false }
def SimfsCopiesSaid : Prop := simfsCopiesRow.holds Try.pinned (OpenSpec.ofChange simfsCopiesSpec)

/-- ITS FALSE NEIGHBOUR: 'it returns false'. Refute it at one input. -/
def simfsCopiesWrong : ChangeSpec := { name := "simfsCopies", fn := fun _ => fun
  | [d1, d2, d3] => { results := [.lit (.bool false)], args := [d1, d2, d3] }
  | _ => none }
def SimfsCopiesWrongFalsely : Prop := simfsCopiesRow.holds Try.pinned (OpenSpec.ofChange simfsCopiesWrong)

/-- 'pedigreelaw06.SimfsRefused': WHATEVER THE INPUT: true; the input reads as it did. -/
def simfsRefusedSpec : ChangeSpec := { name := "simfsRefused", fn := fun _ => fun
  | [d1, d2, d3] => { results := [.lit (.bool true)], args := [d1, d2, d3] }
  | _ => none }
def simfsRefusedRow : OpenClaim := { program := "ytengmoolldljmaa", sum := "5fb5f9edb61b6b73074ff97fca8f3e742836f59f17cffd21e2d1104e3797ced0", func := "pedigree/pedigreelaw06.SimfsRefused", spec := "simfsRefused", inPlace := ["maps.clone"], unfollowed := true, recurses := true, apart := false }
def SimfsRefusedSaid : Prop := simfsRefusedRow.holds Try.pinned (OpenSpec.ofChange simfsRefusedSpec)

/-- ITS FALSE NEIGHBOUR: 'it returns false'. Refute it at one input. -/
def simfsRefusedWrong : ChangeSpec := { name := "simfsRefused", fn := fun _ => fun
  | [d1, d2, d3] => { results := [.lit (.bool false)], args := [d1, d2, d3] }
  | _ => none }
def SimfsRefusedWrongFalsely : Prop := simfsRefusedRow.holds Try.pinned (OpenSpec.ofChange simfsRefusedWrong)

/-- 'pedigreelaw06.SimfsNone': WHATEVER THE INPUT: true; the input reads as it did. -/
def simfsNoneSpec : ChangeSpec := { name := "simfsNone", fn := fun _ => fun
  | [d] => { results := [.lit (.bool true)], args := [d] }
  | _ => none }
def simfsNoneRow : OpenClaim := { program := "ytengmoolldljmaa", sum := "5fb5f9edb61b6b73074ff97fca8f3e742836f59f17cffd21e2d1104e3797ced0", func := "pedigree/pedigreelaw06.SimfsNone", spec := "simfsNone", inPlace := ["maps.clone"], unfollowed := true, recurses := true, apart := false }
def SimfsNoneSaid : Prop := simfsNoneRow.holds Try.pinned (OpenSpec.ofChange simfsNoneSpec)

/-- ITS FALSE NEIGHBOUR: 'it returns false'. Refute it at one input. -/
def simfsNoneWrong : ChangeSpec := { name := "simfsNone", fn := fun _ => fun
  | [d] => { results := [.lit (.bool false)], args := [d] }
  | _ => none }
def SimfsNoneWrongFalsely : Prop := simfsNoneRow.holds Try.pinned (OpenSpec.ofChange simfsNoneWrong)

/- THE SECOND FORM. 'bulk': how many values and letters a reading holds, each counted each time it is reached (what is shared counts as often as it is met; a slice's spare places count too). A statement '..UptoSaid' is the law's where the arguments, and the package variables that the reading takes, are together of bulk at most 1048576: NARROWER than '..Said'. Prove '..Said' where nothing that the law and all that it calls make is longer than what came in: it says more and counts as full. Else prove '..UptoSaid'. A law counts once. -/
mutual
def uptoBulk {H : Type} : DataW H → Nat
  | .lit (.string bytes) => bytes.length + 1
  | .lit _ => 1
  | .nil => 1
  | .ptr d => uptoBulk d + 1
  | .slice elems spare => uptoBulkAll elems + uptoBulkAll spare + 1
  | .agg parts => uptoBulkAll parts + 1
  | .iface _ d => uptoBulk d + 1
  | .map entries => uptoBulkEntries entries + 1
  | .held _ => 1
def uptoBulkAll {H : Type} : List (DataW H) → Nat
  | [] => 0
  | d :: r => uptoBulk d + uptoBulkAll r
def uptoBulkEntries {H : Type} : List (Lit × DataW H) → Nat
  | [] => 0
  | x :: r => uptoBulkEntry x + uptoBulkEntries r
def uptoBulkEntry {H : Type} : Lit × DataW H → Nat
  | (.string bytes, d) => bytes.length + uptoBulk d + 1
  | (_, d) => uptoBulk d + 1
 end
def uptoSmall : (H : Type) → List (DataW H) → Bool := fun _ ds => decide (uptoBulkAll ds ≤ 1048576)
def OpenSpec.upto (s : _root_.Go.ChangeSpec) : _root_.Go.OpenSpec := { _root_.Go.OpenSpec.ofChange s with cond := some uptoSmall }

/-- 'pedigreelaw06.SimfsBegins', WHERE WHAT IT READS IS OF BULK AT MOST 1048576: true; the input reads as it did. -/
def simfsBeginsUptoRow : OpenClaim := { program := "ytengmoolldljmaa", sum := "5fb5f9edb61b6b73074ff97fca8f3e742836f59f17cffd21e2d1104e3797ced0", func := "pedigree/pedigreelaw06.SimfsBegins", spec := "simfsBegins", inPlace := ["maps.clone"], unfollowed := true, recurses := true, apart := false, narrowed := true }
def SimfsBeginsUptoSaid : Prop := simfsBeginsUptoRow.holds Try.pinned (OpenSpec.upto simfsBeginsSpec)

/-- 'pedigreelaw06.SimfsStays', WHERE WHAT IT READS IS OF BULK AT MOST 1048576: true; the input reads as it did. -/
def simfsStaysUptoRow : OpenClaim := { program := "ytengmoolldljmaa", sum := "5fb5f9edb61b6b73074ff97fca8f3e742836f59f17cffd21e2d1104e3797ced0", func := "pedigree/pedigreelaw06.SimfsStays", spec := "simfsStays", inPlace := ["maps.clone"], unfollowed := true, recurses := true, apart := false, narrowed := true }
def SimfsStaysUptoSaid : Prop := simfsStaysUptoRow.holds Try.pinned (OpenSpec.upto simfsStaysSpec)

/-- 'pedigreelaw06.SimfsNames', WHERE WHAT IT READS IS OF BULK AT MOST 1048576: true; the input reads as it did. -/
def simfsNamesUptoRow : OpenClaim := { program := "ytengmoolldljmaa", sum := "5fb5f9edb61b6b73074ff97fca8f3e742836f59f17cffd21e2d1104e3797ced0", func := "pedigree/pedigreelaw06.SimfsNames", spec := "simfsNames", inPlace := ["maps.clone"], unfollowed := true, recurses := true, apart := false, narrowed := true }
def SimfsNamesUptoSaid : Prop := simfsNamesUptoRow.holds Try.pinned (OpenSpec.upto simfsNamesSpec)

/-- 'pedigreelaw06.SimfsFalls', WHERE WHAT IT READS IS OF BULK AT MOST 1048576: true; the input reads as it did. -/
def simfsFallsUptoRow : OpenClaim := { program := "ytengmoolldljmaa", sum := "5fb5f9edb61b6b73074ff97fca8f3e742836f59f17cffd21e2d1104e3797ced0", func := "pedigree/pedigreelaw06.SimfsFalls", spec := "simfsFalls", inPlace := ["maps.clone"], unfollowed := true, recurses := true, apart := false, narrowed := true }
def SimfsFallsUptoSaid : Prop := simfsFallsUptoRow.holds Try.pinned (OpenSpec.upto simfsFallsSpec)

/-- 'pedigreelaw06.SimfsPlays', WHERE WHAT IT READS IS OF BULK AT MOST 1048576: true; the input reads as it did. -/
def simfsPlaysUptoRow : OpenClaim := { program := "ytengmoolldljmaa", sum := "5fb5f9edb61b6b73074ff97fca8f3e742836f59f17cffd21e2d1104e3797ced0", func := "pedigree/pedigreelaw06.SimfsPlays", spec := "simfsPlays", inPlace := ["maps.clone"], unfollowed := true, recurses := true, apart := false, narrowed := true }
def SimfsPlaysUptoSaid : Prop := simfsPlaysUptoRow.holds Try.pinned (OpenSpec.upto simfsPlaysSpec)

/-- 'pedigreelaw06.SimfsCopies', WHERE WHAT IT READS IS OF BULK AT MOST 1048576: true; the input reads as it did. -/
def simfsCopiesUptoRow : OpenClaim := { program := "ytengmoolldljmaa", sum := "5fb5f9edb61b6b73074ff97fca8f3e742836f59f17cffd21e2d1104e3797ced0", func := "pedigree/pedigreelaw06.SimfsCopies", spec := "simfsCopies", inPlace := ["maps.clone"], unfollowed := true, recurses := true, apart := false, narrowed := true }
def SimfsCopiesUptoSaid : Prop := simfsCopiesUptoRow.holds Try.pinned (OpenSpec.upto simfsCopiesSpec)

/-- 'pedigreelaw06.SimfsRefused', WHERE WHAT IT READS IS OF BULK AT MOST 1048576: true; the input reads as it did. -/
def simfsRefusedUptoRow : OpenClaim := { program := "ytengmoolldljmaa", sum := "5fb5f9edb61b6b73074ff97fca8f3e742836f59f17cffd21e2d1104e3797ced0", func := "pedigree/pedigreelaw06.SimfsRefused", spec := "simfsRefused", inPlace := ["maps.clone"], unfollowed := true, recurses := true, apart := false, narrowed := true }
def SimfsRefusedUptoSaid : Prop := simfsRefusedUptoRow.holds Try.pinned (OpenSpec.upto simfsRefusedSpec)

/-- 'pedigreelaw06.SimfsNone', WHERE WHAT IT READS IS OF BULK AT MOST 1048576: true; the input reads as it did. -/
def simfsNoneUptoRow : OpenClaim := { program := "ytengmoolldljmaa", sum := "5fb5f9edb61b6b73074ff97fca8f3e742836f59f17cffd21e2d1104e3797ced0", func := "pedigree/pedigreelaw06.SimfsNone", spec := "simfsNone", inPlace := ["maps.clone"], unfollowed := true, recurses := true, apart := false, narrowed := true }
def SimfsNoneUptoSaid : Prop := simfsNoneUptoRow.holds Try.pinned (OpenSpec.upto simfsNoneSpec)

end Rows
end Go.Proofs.Ytengmoolldljmaa
