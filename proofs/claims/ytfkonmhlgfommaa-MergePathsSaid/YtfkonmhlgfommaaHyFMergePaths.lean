/- MergePaths: at each path of the three stands what the rule says, and at no other path anything: for every input. -/
import Derived.Test.YtfkonmhlgfommaaB819df0b1
import Derived.Test.YtfkonmhlgfommaaB364f660b
import Derived.Test.YtfkonmhlgfommaaB60e1278a
import Derived.Test.YtfkonmhlgfommaaRows
namespace Go.Proofs.Ytfkonmhlgfommaa.mergePaths
open Go Go.ChangeShapes Go.WideShapes Go.ChangeAt Go.RowKit

theorem own : ownKnob Try.prog.godebug = none := by kernel_rfl

set_option maxRecDepth 100000 in
theorem contract (H : Type) (enc : TypeId × Value → H) (W : World) (base : Nat) (args : Array Value) (ds gs : List (DataW H)) (before : List MemPlace)
    (hval : ∀ (j : Nat) t v, Try.f7.params[j]? = some t → args[j]? = some v → Value.okWide Try.prog W .any base t v)
    (hW : DataW.Whole enc Try.prog Try.f7.params.toList Rows.mergePathsSpec.vars false W args.toList ds gs before) :
    Calls Try.prog 7 args W fun e W' => ∃ v, e = .returned v ∧ Rows.mergePathsSpec.post enc Try.prog Try.f7 false true false false W args v W' := by
  have hW' := hW
  obtain ⟨p, q, hA0, hV, rfl, hfz, hnd⟩ := hW
  have hA : DataW.TrodAll enc Try.prog W 0 (fun _ => true) true Try.f7.params.toList args.toList ds p := hA0
  rw [Try.params7] at hA hval
  obtain ⟨v0, vs0, d0, ds0, p0, q0, hargs, rfl, rfl, h0, r0⟩ := trodAll_cons hA
  obtain ⟨v1, vs1, d1, ds1, p1, q1, rfl, rfl, rfl, h1, r1⟩ := trodAll_cons r0
  obtain ⟨v2, vs2, d2, ds2, p2, q2, rfl, rfl, rfl, h2, r2⟩ := trodAll_cons r1
  obtain ⟨rfl, rfl, rfl⟩ := trodAll_nil r2
  obtain rfl : args = #[v0, v1, v2] := by cases args; simp_all
  obtain ⟨rfl, rfl⟩ := trodVars_none hV
  obtain ⟨xs0, hrow0, hu0⟩ := SX.arg_entries Try.underlying44 (show Try.prog.underlying 51 = _ from Try.underlying51) ⟨rfl, rfl⟩ ⟨rfl, rfl⟩ Try.underlying9 Try.underlying24 (by kernel_rfl) (by kernel_rfl) (by kernel_rfl) (hval 0 44 v0 rfl rfl) h0
  obtain ⟨xs1, hrow1, hu1⟩ := SX.arg_entries Try.underlying44 (show Try.prog.underlying 51 = _ from Try.underlying51) ⟨rfl, rfl⟩ ⟨rfl, rfl⟩ Try.underlying9 Try.underlying24 (by kernel_rfl) (by kernel_rfl) (by kernel_rfl) (hval 1 44 v1 rfl rfl) h1
  obtain ⟨xs2, hrow2, hu2⟩ := SX.arg_entries Try.underlying44 (show Try.prog.underlying 51 = _ from Try.underlying51) ⟨rfl, rfl⟩ ⟨rfl, rfl⟩ Try.underlying9 Try.underlying24 (by kernel_rfl) (by kernel_rfl) (by kernel_rfl) (hval 2 44 v2 rfl rfl) h2
  refine (SX.calls_ro (SX.mergepaths_spec _ v0 v1 v2 xs0 xs1 xs2 hrow0 hrow1 hrow2 ⟨hu0, hu1, hu2⟩)).mono fun e W' ⟨he, hb⟩ => ?_
  subst he
  exact ⟨_, rfl, SX.law_post (tb := 4) (by kernel_rfl) (by kernel_rfl) rfl rfl Try.underlying4 hW' hb rfl⟩

set_option maxRecDepth 100000 in
theorem lifted (os : Os) (started : os.Started) (H : Type) (enc : TypeId × Value → H) :
    ReturnsInHanded {} Try.checked os 7 .any (Rows.mergePathsSpec.pre6 enc Try.prog Try.f7 Rows.mergePathsRow.domain false) (Rows.mergePathsSpec.post enc Try.prog Try.f7 false true false false) := by
  refine returnsInHanded_of_change (C := Try.checked) own started (by kernel_rfl) Try.func7
    (ChangeSpec.witness6 (enc := enc) (C := Try.checked) false ⟨#[], #[.slice none 0 0, .slice none 0 0, .slice none 0 0], []⟩ 8 (by kernel_rfl) (by kernel_rfl) (by kernel_rfl) (by kernel_rfl)) ?_
  intro W base args ds gs before hval hW _ _
  exact contract H enc W base args ds gs before hval hW

theorem proved : Rows.MergePathsSaid :=
  OpenClaim.holds_of_wide (p := Try.pinned) (s := Rows.mergePathsSpec) (c := Rows.mergePathsRow) 7 Try.f7 rfl rfl rfl rfl rfl rfl rfl ⟨rfl, rfl, rfl, rfl, rfl⟩ rfl rfl rfl rfl rfl (by kernel_rfl) Try.func7 (by kernel_rfl)
    (of_decide_eq_true (by kernel_rfl)) (by unfold Func.isWrapper; first | (rw [if_pos (by decide +kernel)]; kernel_rfl) | (rw [if_neg (by decide +kernel)]; exact ⟨rfl, rfl⟩))
    (fun os started H enc _ => lifted os started H enc)

#print axioms proved
end Go.Proofs.Ytfkonmhlgfommaa.mergePaths
