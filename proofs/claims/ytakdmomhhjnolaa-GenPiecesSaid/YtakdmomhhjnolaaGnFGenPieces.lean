/- GenPieces: reckoned in pieces, the numbers are those of the whole; each is above its parents', or the greatest: for every input. -/
import Derived.Test.YtakdmomhhjnolaaBe1d56187
import Derived.Test.YtakdmomhhjnolaaB38581223
import Derived.Test.YtakdmomhhjnolaaRows
namespace Go.Proofs.Ytakdmomhhjnolaa.genPieces
open Go Go.ChangeShapes Go.WideShapes Go.ChangeAt Go.RowKit

theorem own : ownKnob Try.prog.godebug = none := by kernel_rfl

set_option maxRecDepth 100000 in
theorem contract (H : Type) (enc : TypeId × Value → H) (W : World) (base : Nat) (args : Array Value) (ds gs : List (DataW H)) (before : List MemPlace)
    (hval : ∀ (j : Nat) t v, Try.f7.params[j]? = some t → args[j]? = some v → Value.okWide Try.prog W .any base t v)
    (hW : DataW.Whole enc Try.prog Try.f7.params.toList Rows.genPiecesSpec.vars false W args.toList ds gs before) (hk : (DataW.weightsEach Try.prog (Try.f7.params.toList ++ Rows.genPiecesSpec.plain.varTypes Try.prog) (ds ++ gs)).all (· ≤ reachBytes) = true) :
    Calls Try.prog 7 args W fun e W' => ∃ v, e = .returned v ∧ Rows.genPiecesSpec.post enc Try.prog Try.f7 false true false false W args v W' := by
  have hW' := hW
  obtain ⟨p, q, hA0, hV, rfl, hfz, hnd⟩ := hW
  have hA : DataW.TrodAll enc Try.prog W 0 (fun _ => true) true Try.f7.params.toList args.toList ds p := hA0
  rw [Try.params7] at hA hval
  obtain ⟨v0, vs0, d0, ds0, p0, q0, hargs, rfl, rfl, h0, r0⟩ := trodAll_cons hA
  obtain ⟨v1, vs1, d1, ds1, p1, q1, rfl, rfl, rfl, h1, r1⟩ := trodAll_cons r0
  obtain ⟨rfl, rfl, rfl⟩ := trodAll_nil r1
  obtain rfl : args = #[v0, v1] := by cases args; simp_all
  obtain ⟨rfl, rfl⟩ := trodVars_none hV
  obtain ⟨xs0, hrow0, hel0, hd0⟩ := SX.arg_graph Try.underlying30 Try.underlying22 Try.underlying3 (by kernel_rfl) (by kernel_rfl) (hval 0 30 v0 rfl rfl) h0
  obtain ⟨hs0, ht0⟩ := SX.graph_sized Try.underlying30 (by decide +kernel) Try.underlying22 (by decide +kernel) (SX.weights_at (i := 0) (t := 30) (by kernel_rfl) rfl hk) hd0
  obtain ⟨xs1, hrow1, hwf1, hd1⟩ := SX.arg_ints Try.underlying40 Try.underlying5 (by kernel_rfl) (hval 1 40 v1 rfl rfl) h1
  have hs1 := SX.bytes_sized Try.underlying40 (by decide +kernel) (SX.weights_at (i := 1) (t := 40) (by kernel_rfl) rfl hk) (hd1.imp_right fun ⟨sp, e⟩ => ⟨_, sp, e, by simp [lits]⟩)
  refine (SX.calls_ro (SX.genpieces_spec _ v0 v1 xs0 xs1 ⟨hrow0, fun x hx => (hel0 x hx).1⟩ hs0 ht0 hrow1 hs1 (fun c hc => SX.wf_u8 (hwf1 c hc)))).mono fun e W' ⟨he, hb⟩ => ?_
  subst he
  exact ⟨_, rfl, SX.law_post (tb := 4) (by kernel_rfl) (by kernel_rfl) rfl rfl Try.underlying4 hW' hb rfl⟩

set_option maxRecDepth 100000 in
theorem lifted (os : Os) (started : os.Started) (H : Type) (enc : TypeId × Value → H) :
    ReturnsInHanded {} Try.checked os 7 .any (Rows.genPiecesSpec.pre6 enc Try.prog Try.f7 Rows.genPiecesRow.domain false) (Rows.genPiecesSpec.post enc Try.prog Try.f7 false true false false) := by
  refine SX.returns_sized (C := Try.checked) own started (by kernel_rfl) Try.func7
    (ChangeSpec.witness6 (enc := enc) (C := Try.checked) false ⟨#[], #[.slice none 0 0, .slice none 0 0], []⟩ 8 (by kernel_rfl) (by kernel_rfl) (by kernel_rfl) (by kernel_rfl)) ?_
  intro W base args ds gs before hval hW hk
  exact contract H enc W base args ds gs before hval hW hk

theorem proved : Rows.GenPiecesSaid :=
  OpenClaim.holds_of_wide (p := Try.pinned) (s := Rows.genPiecesSpec) (c := Rows.genPiecesRow) 7 Try.f7 rfl rfl rfl rfl rfl rfl rfl ⟨rfl, rfl, rfl, rfl, rfl⟩ rfl rfl rfl rfl rfl (by kernel_rfl) Try.func7 (by kernel_rfl)
    (of_decide_eq_true (by kernel_rfl)) (by unfold Func.isWrapper; first | (rw [if_pos (by decide +kernel)]; kernel_rfl) | (rw [if_neg (by decide +kernel)]; exact ⟨rfl, rfl⟩))
    (fun os started H enc _ => lifted os started H enc)

#print axioms proved
end Go.Proofs.Ytakdmomhhjnolaa.genPieces
