/- SimfsRefused: a call that is refused, but by the power, changes nothing that the disk tells now or behind a crash: for every input. -/
import Derived.Test.YtengmoolldljmaaBbfb06366
import Derived.Test.YtengmoolldljmaaB878aa9ab
import Derived.Test.YtengmoolldljmaaRows
namespace Go.Proofs.Ytengmoolldljmaa.simfsRefused
open Go Go.ChangeShapes Go.WideShapes Go.ChangeAt Go.RowKit

theorem own : ownKnob Try.prog.godebug = none := by kernel_rfl

set_option maxRecDepth 100000 in
theorem contract (H : Type) (enc : TypeId × Value → H) (W : World) (base : Nat) (args : Array Value) (ds gs : List (DataW H)) (before : List MemPlace)
    (hval : ∀ (j : Nat) t v, Try.f9.params[j]? = some t → args[j]? = some v → Value.okWide Try.prog W .any base t v)
    (hW : DataW.Whole enc Try.prog Try.f9.params.toList Rows.simfsRefusedSpec.vars false W args.toList ds gs before) (hk : (DataW.weightsEach Try.prog (Try.f9.params.toList ++ Rows.simfsRefusedSpec.plain.varTypes Try.prog) (ds ++ gs)).all (· ≤ reachBytes) = true) :
    Calls Try.prog 9 args W fun e W' => ∃ v, e = .returned v ∧ Rows.simfsRefusedSpec.post enc Try.prog Try.f9 false true false false W args v W' := by
  have hW' := hW
  obtain ⟨p, q, hA0, hV, rfl, hfz, hnd⟩ := hW
  have hA : DataW.TrodAll enc Try.prog W 0 (fun _ => true) true Try.f9.params.toList args.toList ds p := hA0
  rw [Try.params9] at hA hval
  obtain ⟨v0, vs0, d0, ds0, p0, q0, hargs, rfl, rfl, h0, r0⟩ := trodAll_cons hA
  obtain ⟨v1, vs1, d1, ds1, p1, q1, rfl, rfl, rfl, h1, r1⟩ := trodAll_cons r0
  obtain ⟨v2, vs2, d2, ds2, p2, q2, rfl, rfl, rfl, h2, r2⟩ := trodAll_cons r1
  obtain ⟨rfl, rfl, rfl⟩ := trodAll_nil r2
  obtain rfl : args = #[v0, v1, v2] := by cases args; simp_all
  obtain ⟨rfl, rfl⟩ := trodVars_none hV
  have hT : SX.OpT Try.prog 43 5 9 3 34 32 := ⟨⟨_, _, _, _, _, _, _, _, (show Try.prog.underlying 43 = _ from Try.underlying43), (show Try.prog.underlying 34 = _ from Try.underlying34), ⟨rfl, rfl⟩, ⟨rfl, rfl⟩, ⟨rfl, rfl⟩, ⟨rfl, rfl⟩, ⟨rfl, rfl⟩, ⟨rfl, rfl⟩, ⟨rfl, rfl⟩, rfl, rfl⟩, Try.underlying5, Try.underlying9, Try.underlying3, Try.underlying32, ⟨by kernel_rfl, by kernel_rfl, by kernel_rfl, by kernel_rfl, by kernel_rfl, by kernel_rfl⟩⟩
  obtain ⟨x0, rfl, rfl, rfl, w0⟩ := open_int Try.underlying3 (hval 0 3 v0 rfl rfl) h0
  obtain ⟨xs1, hrow1, hs1, hd1⟩ := SX.arg_ops hT Try.underlying38 (hval 1 38 v1 rfl rfl) h1
  obtain ⟨o2, rfl, ho2⟩ := SX.arg_op hT (hval 2 43 v2 rfl rfl) h2
  have ht1 := SX.ops_sized hT Try.underlying38 (SX.weights_at (i := 1) (t := 38) (by kernel_rfl) rfl hk) hd1
  have ht2 := SX.op_sized hT ho2 (SX.weights_at (i := 2) (t := 43) (by kernel_rfl) rfl hk)
  refine (SX.calls_ro (SX.simfsrefused_spec _ x0 v1 xs1 o2 hrow1 hs1 ht1 ho2.1 ht2)).mono fun e W' ⟨he, hb⟩ => ?_
  subst he
  exact ⟨_, rfl, SX.law_post (tb := 4) (by kernel_rfl) (by kernel_rfl) rfl rfl Try.underlying4 hW' hb rfl⟩

set_option maxRecDepth 100000 in
theorem lifted (os : Os) (started : os.Started) (H : Type) (enc : TypeId × Value → H) :
    ReturnsInHanded {} Try.checked os 9 .any (Rows.simfsRefusedSpec.pre6 enc Try.prog Try.f9 Rows.simfsRefusedRow.domain false) (Rows.simfsRefusedSpec.post enc Try.prog Try.f9 false true false false) := by
  refine SX.returns_sized (C := Try.checked) own started (by kernel_rfl) Try.func9
    (ChangeSpec.witness6 (enc := enc) (C := Try.checked) false ⟨#[], #[.int .i64 0, .slice none 0 0, .agg #[.int .u8 0, .string ⟨#[]⟩, .string ⟨#[]⟩, .string ⟨#[]⟩, .int .i64 0, .int .i64 0, .slice none 0 0]], []⟩ 8 (by kernel_rfl) (by kernel_rfl) (by kernel_rfl) (by kernel_rfl)) ?_
  intro W base args ds gs before hval hW hk
  exact contract H enc W base args ds gs before hval hW hk

theorem proved : Rows.SimfsRefusedSaid :=
  OpenClaim.holds_of_wide (p := Try.pinned) (s := Rows.simfsRefusedSpec) (c := Rows.simfsRefusedRow) 9 Try.f9 rfl rfl rfl rfl rfl rfl rfl ⟨rfl, rfl, rfl, rfl, rfl⟩ rfl rfl rfl rfl rfl (by kernel_rfl) Try.func9 (by kernel_rfl)
    (of_decide_eq_true (by kernel_rfl)) (by unfold Func.isWrapper; first | (rw [if_pos (by decide +kernel)]; kernel_rfl) | (rw [if_neg (by decide +kernel)]; exact ⟨rfl, rfl⟩))
    (fun os started H enc _ => lifted os started H enc)

#print axioms proved
end Go.Proofs.Ytengmoolldljmaa.simfsRefused
