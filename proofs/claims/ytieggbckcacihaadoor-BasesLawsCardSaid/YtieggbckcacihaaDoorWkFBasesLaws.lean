/- BasesLaws: of a commit and itself it is that one; of a commit and one that it reaches it is the other; a list's order and doubles don't matter; the bases of two are independent, and so are those of more: for every input, with the table of math/bits as its text lays it. -/
import Derived.Test.YtieggbckcacihaaDoorB2e3696ed
import Derived.Test.YtieggbckcacihaaDoorB7a82cff9
import Derived.Test.YtieggbckcacihaaDoorRows
import Derived.Test.YtieggbckcacihaaDoorCards
import Derived.Test.YtieggbckcacihaaDoorTie
import Derived.SevenTiedAt
namespace Go.Proofs.YtieggbckcacihaaDoor.basesLaws
open Go Go.ChangeShapes Go.WideShapes Go.ChangeAt Go.RowKit

set_option maxRecDepth 100000 in
theorem contract (H : Type) (enc : TypeId × Value → H) (W : World) (base : Nat) (args : Array Value) (ds gs : List (DataW H)) (before : List MemPlace)
    (hval : ∀ (j : Nat) t v, Tryd.f10.params[j]? = some t → args[j]? = some v → Value.okWide Tryd.prog W .any base t v)
    (hW : DataW.Whole enc Tryd.prog Tryd.f10.params.toList Rows.basesLawsSpec.vars false W args.toList ds gs before) (hk : (DataW.weightsEach Tryd.prog (Tryd.f10.params.toList ++ Rows.basesLawsSpec.plain.varTypes Tryd.prog) (ds ++ gs)).all (· ≤ reachBytes) = true) (hL : laidMetH Tryd.prog Rows.basesLawsRow.laid W) :
    Calls Tryd.prog 10 args W fun e W' => ∃ v, e = .returned v ∧ Rows.basesLawsSpec.post enc Tryd.prog Tryd.f10 false true false false W args v W' := by
  have hT := tab_of hL
  have hW' := hW
  obtain ⟨p, q, hA0, hV, rfl, hfz, hnd⟩ := hW
  have hA : DataW.TrodAll enc Tryd.prog W 0 (fun _ => true) true Tryd.f10.params.toList args.toList ds p := hA0
  rw [Tryd.params10] at hA hval
  obtain ⟨v0, vs0, d0, ds0, p0, q0, hargs, rfl, rfl, h0, r0⟩ := trodAll_cons hA
  obtain ⟨v1, vs1, d1, ds1, p1, q1, rfl, rfl, rfl, h1, r1⟩ := trodAll_cons r0
  obtain ⟨v2, vs2, d2, ds2, p2, q2, rfl, rfl, rfl, h2, r2⟩ := trodAll_cons r1
  obtain ⟨rfl, rfl, rfl⟩ := trodAll_nil r2
  obtain rfl : args = #[v0, v1, v2] := by cases args; simp_all
  obtain ⟨rfl, rfl⟩ := trodVars_none hV
  obtain ⟨xs0, hrow0, hel0, hd0⟩ := SX.arg_graph Tryd.underlying22 Tryd.underlying31 Tryd.underlying3 (by kernel_rfl) (by kernel_rfl) (hval 0 22 v0 rfl rfl) h0
  obtain ⟨hs0, ht0⟩ := SX.graph_sized Tryd.underlying22 (by decide +kernel) Tryd.underlying31 (by decide +kernel) (SX.weights_at (i := 0) (t := 22) (by kernel_rfl) rfl hk) hd0
  obtain ⟨xs1, hrow1, hwf1, hd1⟩ := SX.arg_ints Tryd.underlying31 Tryd.underlying3 (by kernel_rfl) (hval 1 31 v1 rfl rfl) h1
  obtain ⟨x2, rfl, rfl, rfl, w2⟩ := open_int Tryd.underlying5 (hval 2 5 v2 rfl rfl) h2
  refine (SX.calls_ro (SX.baseslaws_spec _ v0 v1 xs0 xs1 x2 hT ⟨hrow0, fun x hx => (hel0 x hx).1⟩ hs0 ht0 hrow1 (SX.wf_u8 w2))).mono fun e W' ⟨he, hb⟩ => ?_
  subst he
  exact ⟨_, rfl, SX.law_post (tb := 4) (by kernel_rfl) (by kernel_rfl) rfl rfl Tryd.underlying4 hW' hb rfl⟩

set_option maxRecDepth 100000 in
theorem lifted (os : Os) (started : os.Started) (H : Type) (enc : TypeId × Value → H) :
    ReturnsInHanded {} Tryd.checked os 10 .any (fun w args => (Rows.basesLawsSpec.pre enc Tryd.prog Tryd.f10 [] false w args ∧ laidMetH Tryd.prog Rows.basesLawsRow.laid w) ∧ sizedMet enc Tryd.prog Tryd.f10 (OpenSpec.ofChange Rows.basesLawsSpec) false w args)
      (Rows.basesLawsSpec.post enc Tryd.prog Tryd.f10 false true false false) := by
  refine returnsInHanded_of_change_and (C := Tryd.checked) (X := fun w _ => laidMetH Tryd.prog Rows.basesLawsRow.laid w) (fun _ _ _ hh h => h.of_heap hh) ownKnobF started (by kernel_rfl) Tryd.func10
    (ChangeSpec.witness_shaped (enc := enc) (C := Tryd.checked) (os := os) (X := fun w _ => laidMetH Tryd.prog Rows.basesLawsRow.laid w) false (World.doorLaid Tryd.prog 400 os) #[.slice none 0 0, .slice none 0 0, .int .u8 0] 8 rfl (World.shaped_of_RefB (by kernel_rfl) (by kernel_rfl)) (by kernel_rfl) (by kernel_rfl) (by kernel_rfl) (door_met os _)) ?_
  intro W base args ds gs before hval hW _ hk hL _
  exact contract H enc W base args ds gs before hval hW hk hL

theorem holds : Rows.BasesLawsSaid :=
  OpenClaim.holds_of_wide (p := Tryd.pinned) (s := Rows.basesLawsSpec) (c := Rows.basesLawsRow) 10 Tryd.f10 rfl rfl rfl rfl rfl rfl rfl ⟨rfl, rfl, rfl, rfl, rfl⟩ rfl rfl rfl rfl rfl (by kernel_rfl) Tryd.func10 (by kernel_rfl)
    (of_decide_eq_true (by kernel_rfl)) (by unfold Func.isWrapper; first | (rw [if_pos (by decide +kernel)]; kernel_rfl) | (rw [if_neg (by decide +kernel)]; exact ⟨rfl, rfl⟩))
    (fun os started H enc _ => lifted os started H enc)

theorem proved : Rows.BasesLawsCardSaid :=
  Claim7.holds_tied_plain_at .later [] [.data] true (true, "a471c508e459ab776a6ae694e57d96bf5a313d88a319b690c9adf36db674be96") false
    holds (fun _ h => by cases h) (by kernel_rfl) (fun _ h => by cases h) basesLaws_row_tie rfl ⟨rfl, rfl⟩ (by kernel_rfl) rfl
    (fun f fn hf hfn => by
      obtain rfl : f = 10 := Option.some.inj ((show Tryd.prog.funcNamed "pedigree/pedigreelaw20.BasesLaws" = some 10 by kernel_rfl).symm.trans hf) |>.symm
      obtain rfl : fn = Tryd.f10 := (Option.some.inj (Tryd.func10.symm.trans hfn)).symm
      exact ⟨by kernel_rfl, fun j t ht => by
        rw [Tryd.params10] at ht
        have hm : t ∈ [22, 31, 5] := by simpa using Array.mem_of_getElem? ht
        have hall : ([22, 31, 5].all fun u => !Tryd.prog.wantsStandIn u) = true := by kernel_rfl
        exact (show Tryd.prog.wantsStandIn t = false by simpa using List.all_eq_true.1 hall t hm)⟩)
    (by kernel_rfl)

#print axioms proved
end Go.Proofs.YtieggbckcacihaaDoor.basesLaws
