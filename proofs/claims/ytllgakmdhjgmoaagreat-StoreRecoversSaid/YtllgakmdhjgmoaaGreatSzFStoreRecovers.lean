/- StoreRecovers: wherever the power goes, all that was answered is there, and at most the one that was under way: for every input. -/
import Derived.Test.YtllgakmdhjgmoaaGreatBce0a1209
import Derived.Test.YtllgakmdhjgmoaaGreatBd9eac427
import Derived.Test.YtllgakmdhjgmoaaGreatRows
namespace Go.Proofs.YtllgakmdhjgmoaaGreat.storeRecovers
open Go Go.ChangeShapes Go.WideShapes Go.ChangeAt Go.RowKit

theorem own : ownKnob Tryz.prog.godebug = none := by kernel_rfl

set_option maxRecDepth 100000 in
theorem contract (H : Type) (enc : TypeId × Value → H) (W : World) (base : Nat) (args : Array Value) (ds gs : List (DataW H)) (before : List MemPlace)
    (hval : ∀ (j : Nat) t v, Tryz.f4.params[j]? = some t → args[j]? = some v → Value.okWide Tryz.prog W .any base t v)
    (hW : DataW.Whole enc Tryz.prog Tryz.f4.params.toList Rows.storeRecoversSpec.vars false W args.toList ds gs before) :
    Calls Tryz.prog 4 args W fun e W' => ∃ v, e = .returned v ∧ Rows.storeRecoversSpec.post enc Tryz.prog Tryz.f4 false true false false W args v W' := by
  have hW' := hW
  obtain ⟨p, q, hA0, hV, rfl, hfz, hnd⟩ := hW
  have hA : DataW.TrodAll enc Tryz.prog W 0 (fun _ => true) true Tryz.f4.params.toList args.toList ds p := hA0
  rw [Tryz.params4] at hA hval
  obtain ⟨v0, vs0, d0, ds0, p0, q0, hargs, rfl, rfl, h0, r0⟩ := trodAll_cons hA
  obtain ⟨v1, vs1, d1, ds1, p1, q1, rfl, rfl, rfl, h1, r1⟩ := trodAll_cons r0
  obtain ⟨v2, vs2, d2, ds2, p2, q2, rfl, rfl, rfl, h2, r2⟩ := trodAll_cons r1
  obtain ⟨rfl, rfl, rfl⟩ := trodAll_nil r2
  obtain rfl : args = #[v0, v1, v2] := by cases args; simp_all
  obtain ⟨rfl, rfl⟩ := trodVars_none hV
  have hT : SX.OpSt Tryz.prog 65 5 22 47 9 45 25 3 63 23 := ⟨⟨_, _, _, _, _, _, _, _, _, _, _, (show Tryz.prog.underlying 65 = _ from Tryz.underlying65), (show Tryz.prog.underlying 25 = _ from Tryz.underlying25), (show Tryz.prog.underlying 63 = _ from Tryz.underlying63), (show Tryz.prog.underlying 47 = _ from Tryz.underlying47), ⟨rfl, rfl⟩, ⟨rfl, rfl⟩, ⟨rfl, rfl⟩, ⟨rfl, rfl⟩, ⟨rfl, rfl⟩, ⟨rfl, rfl⟩, ⟨rfl, rfl⟩, ⟨rfl, rfl⟩, ⟨rfl, rfl⟩, ⟨rfl, rfl⟩, rfl, rfl⟩, Tryz.underlying5, Tryz.underlying22, Tryz.underlying9, Tryz.underlying45, Tryz.underlying3, Tryz.underlying23, ⟨by kernel_rfl, by kernel_rfl, by kernel_rfl, by kernel_rfl, by kernel_rfl, by kernel_rfl, by kernel_rfl, by kernel_rfl, by kernel_rfl, by kernel_rfl⟩⟩
  obtain ⟨xs0, hrow0, hs0⟩ := SX.arg_opSs hT Tryz.underlying60 (hval 0 60 v0 rfl rfl) h0
  obtain ⟨xs1, hrow1, hw1, _⟩ := SX.arg_ints Tryz.underlying61 Tryz.underlying5 (by kernel_rfl) (hval 1 61 v1 rfl rfl) h1
  obtain ⟨n2, kv2, ks2, rfl, hk2⟩ := SX.arg_fate ⟨_, _, (show Tryz.prog.underlying 63 = _ from Tryz.underlying63), ⟨rfl, rfl⟩, rfl, rfl⟩ Tryz.underlying3 Tryz.underlying23 ⟨by kernel_rfl, by kernel_rfl, by kernel_rfl⟩ (hval 2 63 v2 rfl rfl) h2
  refine (SX.calls_ro (SX.storerecovers_spec _ v0 xs0 v1 xs1 n2 kv2 ks2 hrow0 hs0 hrow1 (fun x hx => SX.wf_u8 (hw1 x hx)) hk2)).mono fun e W' ⟨he, hb⟩ => ?_
  subst he
  exact ⟨_, rfl, SX.law_post (tb := 4) (by kernel_rfl) (by kernel_rfl) rfl rfl Tryz.underlying4 hW' hb rfl⟩

set_option maxRecDepth 100000 in
theorem lifted (os : Os) (started : os.Started) (H : Type) (enc : TypeId × Value → H) :
    ReturnsInHanded {} Tryz.checked os 4 .any (Rows.storeRecoversSpec.pre6 enc Tryz.prog Tryz.f4 Rows.storeRecoversRow.domain false) (Rows.storeRecoversSpec.post enc Tryz.prog Tryz.f4 false true false false) := by
  refine returnsInHanded_of_change (C := Tryz.checked) own started (by kernel_rfl) Tryz.func4
    (ChangeSpec.witness6 (enc := enc) (C := Tryz.checked) false ⟨#[], #[.slice none 0 0, .slice none 0 0, .agg #[.int .i64 0, .slice none 0 0]], []⟩ 8 (by kernel_rfl) (by kernel_rfl) (by kernel_rfl) (by kernel_rfl)) ?_
  intro W base args ds gs before hval hW _ _
  exact contract H enc W base args ds gs before hval hW

theorem proved : Rows.StoreRecoversSaid :=
  OpenClaim.holds_of_wide (p := Tryz.pinned) (s := Rows.storeRecoversSpec) (c := Rows.storeRecoversRow) 4 Tryz.f4 rfl rfl rfl rfl rfl rfl rfl ⟨rfl, rfl, rfl, rfl, rfl⟩ rfl rfl rfl rfl rfl (by kernel_rfl) Tryz.func4 (by kernel_rfl)
    (of_decide_eq_true (by kernel_rfl)) (by unfold Func.isWrapper; first | (rw [if_pos (by decide +kernel)]; kernel_rfl) | (rw [if_neg (by decide +kernel)]; exact ⟨rfl, rfl⟩))
    (fun os started H enc _ => lifted os started H enc)

#print axioms proved
end Go.Proofs.YtllgakmdhjgmoaaGreat.storeRecovers
