/- GenReach: of two commits of which one reaches the other May is true, with all, some or no generations known: for every input. -/
import Derived.Test.YtakdmomhhjnolaaBc1554223
import Derived.Test.YtakdmomhhjnolaaB0046e5f0
import Derived.Test.YtakdmomhhjnolaaRows
namespace Go.Proofs.Ytakdmomhhjnolaa.genReach
open Go Go.ChangeShapes Go.WideShapes Go.ChangeAt Go.RowKit

theorem own : ownKnob Try.prog.godebug = none := by kernel_rfl

set_option maxRecDepth 100000 in
theorem contract (H : Type) (enc : TypeId × Value → H) (W : World) (base : Nat) (args : Array Value) (ds gs : List (DataW H)) (before : List MemPlace)
    (hval : ∀ (j : Nat) t v, Try.f8.params[j]? = some t → args[j]? = some v → Value.okWide Try.prog W .any base t v)
    (hW : DataW.Whole enc Try.prog Try.f8.params.toList Rows.genReachSpec.vars false W args.toList ds gs before) (hk : (DataW.weightsEach Try.prog (Try.f8.params.toList ++ Rows.genReachSpec.plain.varTypes Try.prog) (ds ++ gs)).all (· ≤ reachBytes) = true) :
    Calls Try.prog 8 args W fun e W' => ∃ v, e = .returned v ∧ Rows.genReachSpec.post enc Try.prog Try.f8 false true false false W args v W' := by
  have hW' := hW
  obtain ⟨p, q, hA0, hV, rfl, hfz, hnd⟩ := hW
  have hA : DataW.TrodAll enc Try.prog W 0 (fun _ => true) true Try.f8.params.toList args.toList ds p := hA0
  rw [Try.params8] at hA hval
  obtain ⟨v0, vs0, d0, ds0, p0, q0, hargs, rfl, rfl, h0, r0⟩ := trodAll_cons hA
  obtain ⟨v1, vs1, d1, ds1, p1, q1, rfl, rfl, rfl, h1, r1⟩ := trodAll_cons r0
  obtain ⟨rfl, rfl, rfl⟩ := trodAll_nil r1
  obtain rfl : args = #[v0, v1] := by cases args; simp_all
  obtain ⟨rfl, rfl⟩ := trodVars_none hV
  obtain ⟨xs0, hrow0, hel0, hd0⟩ := SX.arg_graph Try.underlying30 Try.underlying22 Try.underlying3 (by kernel_rfl) (by kernel_rfl) (hval 0 30 v0 rfl rfl) h0
  obtain ⟨hs0, ht0⟩ := SX.graph_sized Try.underlying30 (by decide +kernel) Try.underlying22 (by decide +kernel) (SX.weights_at (i := 0) (t := 30) (by kernel_rfl) rfl hk) hd0
  obtain ⟨x1, rfl, rfl, rfl, w1⟩ := open_int Try.underlying5 (hval 1 5 v1 rfl rfl) h1
  refine (SX.calls_ro (SX.genreach_spec _ v0 xs0 x1 ⟨hrow0, fun x hx => (hel0 x hx).1⟩ hs0 ht0 (SX.wf_u8 w1))).mono fun e W' ⟨he, hb⟩ => ?_
  subst he
  exact ⟨_, rfl, SX.law_post (tb := 4) (by kernel_rfl) (by kernel_rfl) rfl rfl Try.underlying4 hW' hb rfl⟩

set_option maxRecDepth 100000 in
theorem lifted (os : Os) (started : os.Started) (H : Type) (enc : TypeId × Value → H) :
    ReturnsInHanded {} Try.checked os 8 .any (Rows.genReachSpec.pre6 enc Try.prog Try.f8 Rows.genReachRow.domain false) (Rows.genReachSpec.post enc Try.prog Try.f8 false true false false) := by
  refine SX.returns_sized (C := Try.checked) own started (by kernel_rfl) Try.func8
    (ChangeSpec.witness6 (enc := enc) (C := Try.checked) false ⟨#[], #[.slice none 0 0, .int .u8 0], []⟩ 8 (by kernel_rfl) (by kernel_rfl) (by kernel_rfl) (by kernel_rfl)) ?_
  intro W base args ds gs before hval hW hk
  exact contract H enc W base args ds gs before hval hW hk

theorem proved : Rows.GenReachSaid :=
  OpenClaim.holds_of_wide (p := Try.pinned) (s := Rows.genReachSpec) (c := Rows.genReachRow) 8 Try.f8 rfl rfl rfl rfl rfl rfl rfl ⟨rfl, rfl, rfl, rfl, rfl⟩ rfl rfl rfl rfl rfl (by kernel_rfl) Try.func8 (by kernel_rfl)
    (of_decide_eq_true (by kernel_rfl)) (by unfold Func.isWrapper; first | (rw [if_pos (by decide +kernel)]; kernel_rfl) | (rw [if_neg (by decide +kernel)]; exact ⟨rfl, rfl⟩))
    (fun os started H enc _ => lifted os started H enc)

#print axioms proved
end Go.Proofs.Ytakdmomhhjnolaa.genReach
