/- GenNext: a commit's generation, from any numbers of its parents, is the document's: for every input. -/
import Derived.Test.YtakdmomhhjnolaaB6000f653
import Derived.Test.YtakdmomhhjnolaaB501dd00b
import Derived.Test.YtakdmomhhjnolaaRows
namespace Go.Proofs.Ytakdmomhhjnolaa.genNext
open Go Go.ChangeShapes Go.WideShapes Go.ChangeAt Go.RowKit

theorem own : ownKnob Try.prog.godebug = none := by kernel_rfl

set_option maxRecDepth 100000 in
theorem contract (H : Type) (enc : TypeId × Value → H) (W : World) (base : Nat) (args : Array Value) (ds gs : List (DataW H)) (before : List MemPlace)
    (hval : ∀ (j : Nat) t v, Try.f3.params[j]? = some t → args[j]? = some v → Value.okWide Try.prog W .any base t v)
    (hW : DataW.Whole enc Try.prog Try.f3.params.toList Rows.genNextSpec.vars false W args.toList ds gs before) (hk : (DataW.weightsEach Try.prog (Try.f3.params.toList ++ Rows.genNextSpec.plain.varTypes Try.prog) (ds ++ gs)).all (· ≤ reachBytes) = true) :
    Calls Try.prog 3 args W fun e W' => ∃ v, e = .returned v ∧ Rows.genNextSpec.post enc Try.prog Try.f3 false true false false W args v W' := by
  have hW' := hW
  obtain ⟨p, q, hA0, hV, rfl, hfz, hnd⟩ := hW
  have hA : DataW.TrodAll enc Try.prog W 0 (fun _ => true) true Try.f3.params.toList args.toList ds p := hA0
  rw [Try.params3] at hA hval
  obtain ⟨v0, vs0, d0, ds0, p0, q0, hargs, rfl, rfl, h0, r0⟩ := trodAll_cons hA
  obtain ⟨rfl, rfl, rfl⟩ := trodAll_nil r0
  obtain rfl : args = #[v0] := by cases args; simp_all
  obtain ⟨rfl, rfl⟩ := trodVars_none hV
  obtain ⟨xs0, hrow0, hwf0, hd0⟩ := SX.arg_ints Try.underlying22 Try.underlying3 (by kernel_rfl) (hval 0 22 v0 rfl rfl) h0
  have hs0 := SX.ints_sized Try.underlying22 (by decide +kernel) (SX.weights_at (i := 0) (t := 22) (by kernel_rfl) rfl hk) (hd0.imp_right fun ⟨sp, e⟩ => ⟨_, sp, e, by simp [lits]⟩)
  refine (SX.calls_ro (SX.gennext_spec _ v0 xs0 hrow0 hs0)).mono fun e W' ⟨he, hb⟩ => ?_
  subst he
  exact ⟨_, rfl, SX.law_post (tb := 4) (by kernel_rfl) (by kernel_rfl) rfl rfl Try.underlying4 hW' hb rfl⟩

set_option maxRecDepth 100000 in
theorem lifted (os : Os) (started : os.Started) (H : Type) (enc : TypeId × Value → H) :
    ReturnsInHanded {} Try.checked os 3 .any (Rows.genNextSpec.pre6 enc Try.prog Try.f3 Rows.genNextRow.domain false) (Rows.genNextSpec.post enc Try.prog Try.f3 false true false false) := by
  refine SX.returns_sized (C := Try.checked) own started (by kernel_rfl) Try.func3
    (ChangeSpec.witness6 (enc := enc) (C := Try.checked) false ⟨#[], #[.slice none 0 0], []⟩ 8 (by kernel_rfl) (by kernel_rfl) (by kernel_rfl) (by kernel_rfl)) ?_
  intro W base args ds gs before hval hW hk
  exact contract H enc W base args ds gs before hval hW hk

theorem proved : Rows.GenNextSaid :=
  OpenClaim.holds_of_wide (p := Try.pinned) (s := Rows.genNextSpec) (c := Rows.genNextRow) 3 Try.f3 rfl rfl rfl rfl rfl rfl rfl ⟨rfl, rfl, rfl, rfl, rfl⟩ rfl rfl rfl rfl rfl (by kernel_rfl) Try.func3 (by kernel_rfl)
    (of_decide_eq_true (by kernel_rfl)) (by unfold Func.isWrapper; first | (rw [if_pos (by decide +kernel)]; kernel_rfl) | (rw [if_neg (by decide +kernel)]; exact ⟨rfl, rfl⟩))
    (fun os started H enc _ => lifted os started H enc)

#print axioms proved
end Go.Proofs.Ytakdmomhhjnolaa.genNext
