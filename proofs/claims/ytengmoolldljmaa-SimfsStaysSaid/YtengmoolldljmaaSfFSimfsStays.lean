/- SimfsStays: what was synced under a name that was synced stands behind every crash, whatever was done to other names: for every input. -/
import Derived.Test.YtengmoolldljmaaBdaa3b577
import Derived.Test.YtengmoolldljmaaBb5903f20
import Derived.Test.YtengmoolldljmaaRows
namespace Go.Proofs.Ytengmoolldljmaa.simfsStays
open Go Go.ChangeShapes Go.WideShapes Go.ChangeAt Go.RowKit

theorem own : ownKnob Try.prog.godebug = none := by kernel_rfl

set_option maxRecDepth 100000 in
theorem contract (H : Type) (enc : TypeId × Value → H) (W : World) (base : Nat) (args : Array Value) (ds gs : List (DataW H)) (before : List MemPlace)
    (hval : ∀ (j : Nat) t v, Try.f4.params[j]? = some t → args[j]? = some v → Value.okWide Try.prog W .any base t v)
    (hW : DataW.Whole enc Try.prog Try.f4.params.toList Rows.simfsStaysSpec.vars false W args.toList ds gs before) :
    Calls Try.prog 4 args W fun e W' => ∃ v, e = .returned v ∧ Rows.simfsStaysSpec.post enc Try.prog Try.f4 false true false false W args v W' := by
  have hW' := hW
  obtain ⟨p, q, hA0, hV, rfl, hfz, hnd⟩ := hW
  have hA : DataW.TrodAll enc Try.prog W 0 (fun _ => true) true Try.f4.params.toList args.toList ds p := hA0
  rw [Try.params4] at hA hval
  obtain ⟨v0, vs0, d0, ds0, p0, q0, hargs, rfl, rfl, h0, r0⟩ := trodAll_cons hA
  obtain ⟨v1, vs1, d1, ds1, p1, q1, rfl, rfl, rfl, h1, r1⟩ := trodAll_cons r0
  obtain ⟨v2, vs2, d2, ds2, p2, q2, rfl, rfl, rfl, h2, r2⟩ := trodAll_cons r1
  obtain ⟨rfl, rfl, rfl⟩ := trodAll_nil r2
  obtain rfl : args = #[v0, v1, v2] := by cases args; simp_all
  obtain ⟨rfl, rfl⟩ := trodVars_none hV
  have hT : SX.OpT Try.prog 43 5 9 3 34 32 := ⟨⟨_, _, _, _, _, _, _, _, (show Try.prog.underlying 43 = _ from Try.underlying43), (show Try.prog.underlying 34 = _ from Try.underlying34), ⟨rfl, rfl⟩, ⟨rfl, rfl⟩, ⟨rfl, rfl⟩, ⟨rfl, rfl⟩, ⟨rfl, rfl⟩, ⟨rfl, rfl⟩, ⟨rfl, rfl⟩, rfl, rfl⟩, Try.underlying5, Try.underlying9, Try.underlying3, Try.underlying32, ⟨by kernel_rfl, by kernel_rfl, by kernel_rfl, by kernel_rfl, by kernel_rfl, by kernel_rfl⟩⟩
  obtain ⟨s0, rfl, rfl, rfl, w0⟩ := SX.arg_string Try.underlying9 (hval 0 9 v0 rfl rfl) h0
  obtain ⟨xs1, hrow1, hs1, hd1⟩ := SX.arg_ops hT Try.underlying38 (hval 1 38 v1 rfl rfl) h1
  obtain ⟨n2, kv2, ks2, rfl, hk2⟩ := SX.arg_fate ⟨_, _, (show Try.prog.underlying 34 = _ from Try.underlying34), ⟨rfl, rfl⟩, rfl, rfl⟩ Try.underlying3 Try.underlying32 ⟨by kernel_rfl, by kernel_rfl, by kernel_rfl⟩ (hval 2 34 v2 rfl rfl) h2
  refine (SX.calls_ro (SX.simfsstays_spec _ s0 v1 xs1 n2 kv2 ks2 w0 hrow1 hs1 hk2)).mono fun e W' ⟨he, hb⟩ => ?_
  subst he
  exact ⟨_, rfl, SX.law_post (tb := 4) (by kernel_rfl) (by kernel_rfl) rfl rfl Try.underlying4 hW' hb rfl⟩

set_option maxRecDepth 100000 in
theorem lifted (os : Os) (started : os.Started) (H : Type) (enc : TypeId × Value → H) :
    ReturnsInHanded {} Try.checked os 4 .any (Rows.simfsStaysSpec.pre6 enc Try.prog Try.f4 Rows.simfsStaysRow.domain false) (Rows.simfsStaysSpec.post enc Try.prog Try.f4 false true false false) := by
  refine returnsInHanded_of_change (C := Try.checked) own started (by kernel_rfl) Try.func4
    (ChangeSpec.witness6 (enc := enc) (C := Try.checked) false ⟨#[], #[.string ⟨#[]⟩, .slice none 0 0, .agg #[.int .i64 0, .slice none 0 0]], []⟩ 8 (by kernel_rfl) (by kernel_rfl) (by kernel_rfl) (by kernel_rfl)) ?_
  intro W base args ds gs before hval hW _ _
  exact contract H enc W base args ds gs before hval hW

theorem proved : Rows.SimfsStaysSaid :=
  OpenClaim.holds_of_wide (p := Try.pinned) (s := Rows.simfsStaysSpec) (c := Rows.simfsStaysRow) 4 Try.f4 rfl rfl rfl rfl rfl rfl rfl ⟨rfl, rfl, rfl, rfl, rfl⟩ rfl rfl rfl rfl rfl (by kernel_rfl) Try.func4 (by kernel_rfl)
    (of_decide_eq_true (by kernel_rfl)) (by unfold Func.isWrapper; first | (rw [if_pos (by decide +kernel)]; kernel_rfl) | (rw [if_neg (by decide +kernel)]; exact ⟨rfl, rfl⟩))
    (fun os started H enc _ => lifted os started H enc)

#print axioms proved
end Go.Proofs.Ytengmoolldljmaa.simfsStays
