/- SimfsCopies: a copy tells the same, goes on alike, and each of the two knows nothing of the other: for every input. -/
import Derived.Test.YtengmoolldljmaaB1a0c2216
import Derived.Test.YtengmoolldljmaaBd6f8e813
import Derived.Test.YtengmoolldljmaaRows
namespace Go.Proofs.Ytengmoolldljmaa.simfsCopies
open Go Go.ChangeShapes Go.WideShapes Go.ChangeAt Go.RowKit

theorem own : ownKnob Try.prog.godebug = none := by kernel_rfl

set_option maxRecDepth 100000 in
theorem contract (H : Type) (enc : TypeId × Value → H) (W : World) (base : Nat) (args : Array Value) (ds gs : List (DataW H)) (before : List MemPlace)
    (hval : ∀ (j : Nat) t v, Try.f8.params[j]? = some t → args[j]? = some v → Value.okWide Try.prog W .any base t v)
    (hW : DataW.Whole enc Try.prog Try.f8.params.toList Rows.simfsCopiesSpec.vars false W args.toList ds gs before) (hk : (DataW.weightsEach Try.prog (Try.f8.params.toList ++ Rows.simfsCopiesSpec.plain.varTypes Try.prog) (ds ++ gs)).all (· ≤ reachBytes) = true) :
    Calls Try.prog 8 args W fun e W' => ∃ v, e = .returned v ∧ Rows.simfsCopiesSpec.post enc Try.prog Try.f8 false true false false W args v W' := by
  have hW' := hW
  obtain ⟨p, q, hA0, hV, rfl, hfz, hnd⟩ := hW
  have hA : DataW.TrodAll enc Try.prog W 0 (fun _ => true) true Try.f8.params.toList args.toList ds p := hA0
  rw [Try.params8] at hA hval
  obtain ⟨v0, vs0, d0, ds0, p0, q0, hargs, rfl, rfl, h0, r0⟩ := trodAll_cons hA
  obtain ⟨v1, vs1, d1, ds1, p1, q1, rfl, rfl, rfl, h1, r1⟩ := trodAll_cons r0
  obtain ⟨v2, vs2, d2, ds2, p2, q2, rfl, rfl, rfl, h2, r2⟩ := trodAll_cons r1
  obtain ⟨rfl, rfl, rfl⟩ := trodAll_nil r2
  obtain rfl : args = #[v0, v1, v2] := by cases args; simp_all
  obtain ⟨rfl, rfl⟩ := trodVars_none hV
  have hT : SX.OpT Try.prog 43 5 9 3 34 32 := ⟨⟨_, _, _, _, _, _, _, _, (show Try.prog.underlying 43 = _ from Try.underlying43), (show Try.prog.underlying 34 = _ from Try.underlying34), ⟨rfl, rfl⟩, ⟨rfl, rfl⟩, ⟨rfl, rfl⟩, ⟨rfl, rfl⟩, ⟨rfl, rfl⟩, ⟨rfl, rfl⟩, ⟨rfl, rfl⟩, rfl, rfl⟩, Try.underlying5, Try.underlying9, Try.underlying3, Try.underlying32, ⟨by kernel_rfl, by kernel_rfl, by kernel_rfl, by kernel_rfl, by kernel_rfl, by kernel_rfl⟩⟩
  obtain ⟨x0, rfl, rfl, rfl, w0⟩ := open_int Try.underlying3 (hval 0 3 v0 rfl rfl) h0
  obtain ⟨xs1, hrow1, hs1, hd1⟩ := SX.arg_ops hT Try.underlying38 (hval 1 38 v1 rfl rfl) h1
  obtain ⟨va, vb, ys, zs, da, db, rfl, rfl, ry, oy, dy, rz, oz, dz⟩ := SX.arg_opss hT Try.underlying38 Try.underlying55 (by kernel_rfl) (by kernel_rfl) (hval 2 55 v2 rfl rfl) h2
  have ht1 := SX.ops_sized hT Try.underlying38 (SX.weights_at (i := 1) (t := 38) (by kernel_rfl) rfl hk) hd1
  have hb2 := SX.weights_at (i := 2) (t := 55) (by kernel_rfl) rfl hk
  refine (SX.calls_ro (SX.simfscopies_spec _ x0 v1 va vb xs1 ys zs hrow1 hs1 ht1 ry oy (SX.ops_sized hT Try.underlying38 (SX.array_in Try.underlying55 (by simp) hb2) dy) rz oz (SX.ops_sized hT Try.underlying38 (SX.array_in Try.underlying55 (by simp) hb2) dz))).mono fun e W' ⟨he, hb⟩ => ?_
  subst he
  exact ⟨_, rfl, SX.law_post (tb := 4) (by kernel_rfl) (by kernel_rfl) rfl rfl Try.underlying4 hW' hb rfl⟩

set_option maxRecDepth 100000 in
theorem lifted (os : Os) (started : os.Started) (H : Type) (enc : TypeId × Value → H) :
    ReturnsInHanded {} Try.checked os 8 .any (Rows.simfsCopiesSpec.pre6 enc Try.prog Try.f8 Rows.simfsCopiesRow.domain false) (Rows.simfsCopiesSpec.post enc Try.prog Try.f8 false true false false) := by
  refine SX.returns_sized (C := Try.checked) own started (by kernel_rfl) Try.func8
    (ChangeSpec.witness6 (enc := enc) (C := Try.checked) false ⟨#[], #[.int .i64 0, .slice none 0 0, .agg #[.slice none 0 0, .slice none 0 0]], []⟩ 8 (by kernel_rfl) (by kernel_rfl) (by kernel_rfl) (by kernel_rfl)) ?_
  intro W base args ds gs before hval hW hk
  exact contract H enc W base args ds gs before hval hW hk

theorem proved : Rows.SimfsCopiesSaid :=
  OpenClaim.holds_of_wide (p := Try.pinned) (s := Rows.simfsCopiesSpec) (c := Rows.simfsCopiesRow) 8 Try.f8 rfl rfl rfl rfl rfl rfl rfl ⟨rfl, rfl, rfl, rfl, rfl⟩ rfl rfl rfl rfl rfl (by kernel_rfl) Try.func8 (by kernel_rfl)
    (of_decide_eq_true (by kernel_rfl)) (by unfold Func.isWrapper; first | (rw [if_pos (by decide +kernel)]; kernel_rfl) | (rw [if_neg (by decide +kernel)]; exact ⟨rfl, rfl⟩))
    (fun os started H enc _ => lifted os started H enc)

#print axioms proved
end Go.Proofs.Ytengmoolldljmaa.simfsCopies
