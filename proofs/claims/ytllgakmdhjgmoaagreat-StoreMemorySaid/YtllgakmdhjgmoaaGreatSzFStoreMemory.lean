/- StoreMemory: a store keeps nothing that was handed in and hands out nothing that it keeps: for every input. -/
import Derived.Test.YtllgakmdhjgmoaaGreatBa02a9808
import Derived.Test.YtllgakmdhjgmoaaGreatB9a0af180
import Derived.Test.YtllgakmdhjgmoaaGreatRows
namespace Go.Proofs.YtllgakmdhjgmoaaGreat.storeMemory
open Go Go.ChangeShapes Go.WideShapes Go.ChangeAt Go.RowKit

theorem own : ownKnob Tryz.prog.godebug = none := by kernel_rfl

set_option maxRecDepth 100000 in
theorem contract (H : Type) (enc : TypeId × Value → H) (W : World) (base : Nat) (args : Array Value) (ds gs : List (DataW H)) (before : List MemPlace)
    (hval : ∀ (j : Nat) t v, Tryz.f3.params[j]? = some t → args[j]? = some v → Value.okWide Tryz.prog W .any base t v)
    (hW : DataW.Whole enc Tryz.prog Tryz.f3.params.toList Rows.storeMemorySpec.vars false W args.toList ds gs before) (hk : (DataW.weightsEach Tryz.prog (Tryz.f3.params.toList ++ Rows.storeMemorySpec.plain.varTypes Tryz.prog) (ds ++ gs)).all (· ≤ reachBytes) = true) :
    Calls Tryz.prog 3 args W fun e W' => ∃ v, e = .returned v ∧ Rows.storeMemorySpec.post enc Tryz.prog Tryz.f3 false true false false W args v W' := by
  have hW' := hW
  obtain ⟨p, q, hA0, hV, rfl, hfz, hnd⟩ := hW
  have hA : DataW.TrodAll enc Tryz.prog W 0 (fun _ => true) true Tryz.f3.params.toList args.toList ds p := hA0
  rw [Tryz.params3] at hA hval
  obtain ⟨v0, vs0, d0, ds0, p0, q0, hargs, rfl, rfl, h0, r0⟩ := trodAll_cons hA
  obtain ⟨v1, vs1, d1, ds1, p1, q1, rfl, rfl, rfl, h1, r1⟩ := trodAll_cons r0
  obtain ⟨rfl, rfl, rfl⟩ := trodAll_nil r1
  obtain rfl : args = #[v0, v1] := by cases args; simp_all
  obtain ⟨rfl, rfl⟩ := trodVars_none hV
  obtain ⟨xs0, hrow0, hu0, hd0⟩ := SX.arg_entriesL Tryz.underlying22 (show Tryz.prog.underlying 47 = _ from Tryz.underlying47) ⟨rfl, rfl⟩ ⟨rfl, rfl⟩ Tryz.underlying9 Tryz.underlying45 (by kernel_rfl) (by kernel_rfl) (by kernel_rfl) (hval 0 22 v0 rfl rfl) h0
  obtain ⟨kv1, ks1, n1, a1, b1, rfl, hk1, rfl, hd1⟩ := SX.arg_commitL ⟨_, _, (show Tryz.prog.underlying 25 = _ from Tryz.underlying25), ⟨rfl, rfl⟩, rfl, rfl⟩ Tryz.underlying3 Tryz.underlying23 ⟨by kernel_rfl, by kernel_rfl, by kernel_rfl⟩ (hval 1 25 v1 rfl rfl) h1
  have hs0 := SX.list24 Tryz.underlying22 (by decide +kernel) (SX.weights_at (i := 0) (t := 22) (by kernel_rfl) rfl hk) hd0
  have hs1 := SX.fst8 (show Tryz.prog.underlying 25 = _ from Tryz.underlying25) rfl Tryz.underlying23 (by decide +kernel) (SX.weights_at (i := 1) (t := 25) (by kernel_rfl) rfl hk) hd1
  refine (SX.calls_ro (SX.storememory_spec _ v0 kv1 xs0 (ks1, n1) hrow0 hu0 hk1 hs0 hs1)).mono fun e W' ⟨he, hb⟩ => ?_
  subst he
  exact ⟨_, rfl, SX.law_post (tb := 4) (by kernel_rfl) (by kernel_rfl) rfl rfl Tryz.underlying4 hW' hb rfl⟩

set_option maxRecDepth 100000 in
theorem lifted (os : Os) (started : os.Started) (H : Type) (enc : TypeId × Value → H) :
    ReturnsInHanded {} Tryz.checked os 3 .any (Rows.storeMemorySpec.pre6 enc Tryz.prog Tryz.f3 Rows.storeMemoryRow.domain false) (Rows.storeMemorySpec.post enc Tryz.prog Tryz.f3 false true false false) := by
  refine SX.returns_sized (C := Tryz.checked) own started (by kernel_rfl) Tryz.func3
    (ChangeSpec.witness6 (enc := enc) (C := Tryz.checked) false ⟨#[], #[.slice none 0 0, .agg #[.slice none 0 0, .int .i64 0]], []⟩ 8 (by kernel_rfl) (by kernel_rfl) (by kernel_rfl) (by kernel_rfl)) ?_
  intro W base args ds gs before hval hW hk
  exact contract H enc W base args ds gs before hval hW hk

theorem proved : Rows.StoreMemorySaid :=
  OpenClaim.holds_of_wide (p := Tryz.pinned) (s := Rows.storeMemorySpec) (c := Rows.storeMemoryRow) 3 Tryz.f3 rfl rfl rfl rfl rfl rfl rfl ⟨rfl, rfl, rfl, rfl, rfl⟩ rfl rfl rfl rfl rfl (by kernel_rfl) Tryz.func3 (by kernel_rfl)
    (of_decide_eq_true (by kernel_rfl)) (by unfold Func.isWrapper; first | (rw [if_pos (by decide +kernel)]; kernel_rfl) | (rw [if_neg (by decide +kernel)]; exact ⟨rfl, rfl⟩))
    (fun os started H enc _ => lifted os started H enc)

#print axioms proved
end Go.Proofs.YtllgakmdhjgmoaaGreat.storeMemory
