/- DagOrder: reaching is an order: each commit reaches itself and its parents, what one reaches and the next one reaches the first one reaches, and no two reach one another: for arguments of bulk at most 1048576, with the table of math/bits as its text lays it. -/
import Derived.Test.YtfbfmokgpdmcfaaDoorB5c9b60f3
import Derived.Test.YtfbfmokgpdmcfaaDoorCards
import Derived.Test.YtfbfmokgpdmcfaaDoorTie
import Derived.SevenTiedAt
namespace Go.Proofs.YtfbfmokgpdmcfaaDoor.dagOrder
open Go Go.ChangeShapes Go.WideShapes Go.ChangeAt Go.RowKit

set_option maxRecDepth 100000 in
theorem contract (H : Type) (enc : TypeId × Value → H) (W : World) (base : Nat) (args : Array Value) (ds gs : List (DataW H)) (before : List MemPlace)
    (hval : ∀ (j : Nat) t v, Tryd.f8.params[j]? = some t → args[j]? = some v → Value.okWide Tryd.prog W .any base t v)
    (hW : DataW.Whole enc Tryd.prog Tryd.f8.params.toList Rows.dagOrderSpec.vars false W args.toList ds gs before) (hk : Rows.uptoSmall H (ds ++ gs) = true) (hL : laidMetH Tryd.prog Rows.dagOrderUptoRow.laid W) :
    Calls Tryd.prog 8 args W fun e W' => ∃ v, e = .returned v ∧ Rows.dagOrderSpec.post enc Tryd.prog Tryd.f8 false true false false W args v W' := by
  have hT := tab_of hL
  have hW' := hW
  obtain ⟨p, q, hA0, hV, rfl, hfz, hnd⟩ := hW
  have hA : DataW.TrodAll enc Tryd.prog W 0 (fun _ => true) true Tryd.f8.params.toList args.toList ds p := hA0
  rw [Tryd.params8] at hA hval
  obtain ⟨v0, vs0, d0, ds0, p0, q0, hargs, rfl, rfl, h0, r0⟩ := trodAll_cons hA
  obtain ⟨rfl, rfl, rfl⟩ := trodAll_nil r0
  obtain rfl : args = #[v0] := by cases args; simp_all
  obtain ⟨rfl, rfl⟩ := trodVars_none hV
  obtain ⟨xs, hrow, hel, hd⟩ := SX.arg_graph Tryd.underlying54 Tryd.underlying23 Tryd.underlying3 (by kernel_rfl) (by kernel_rfl) (hval 0 54 v0 rfl rfl) h0
  obtain ⟨hs1, hs2⟩ := graph_short hk hd
  refine (SX.calls_ro (SX.order_spec _ v0 xs hT ⟨hrow, fun x hx => (hel x hx).1⟩ hs1 hs2)).mono fun e W' ⟨he, hb⟩ => ?_
  subst he
  exact ⟨_, rfl, SX.law_post (tb := 4) (by kernel_rfl) (by kernel_rfl) rfl rfl Tryd.underlying4 hW' hb rfl⟩

set_option maxRecDepth 100000 in
theorem lifted (os : Os) (started : os.Started) (H : Type) (enc : TypeId × Value → H) (F : Stop.Interp) :
    ReturnsInHanded {} Tryd.checked os 8 .any (fun w args => ((Rows.OpenSpec.upto Rows.dagOrderSpec).pre enc Tryd.prog Tryd.f8 [] false w args ∧ laidMetH Tryd.prog Rows.dagOrderUptoRow.laid w) ∧ sizedMet enc Tryd.prog Tryd.f8 (Rows.OpenSpec.upto Rows.dagOrderSpec) false w args)
      (((Rows.OpenSpec.upto Rows.dagOrderSpec).at F).post enc Tryd.prog Tryd.f8 false true false false) := by
  refine SX.returns_cond_and (C := Tryd.checked) (s := Rows.OpenSpec.upto Rows.dagOrderSpec) (k := Rows.uptoSmall) rfl (X := fun w _ => laidMetH Tryd.prog Rows.dagOrderUptoRow.laid w) (fun _ _ _ hh h => h.of_heap hh) ownKnobF started (by kernel_rfl) Tryd.func8
    (SX.witness_cond_and (enc := enc) (C := Tryd.checked) (os := os) (s := Rows.OpenSpec.upto Rows.dagOrderSpec) (k := Rows.uptoSmall) rfl (X := fun w _ => laidMetH Tryd.prog Rows.dagOrderUptoRow.laid w) false (World.doorLaid Tryd.prog 400 os) #[.slice none 0 0] 8 rfl (World.shaped_of_RefB (by kernel_rfl) (by kernel_rfl)) (by kernel_rfl) (x := ([.nil], [], [])) (by kernel_rfl) rfl (by kernel_rfl) (by kernel_rfl) (door_met os _)) ?_
  intro W base args ds gs before hval hW hk hL
  exact contract H enc W base args ds gs before hval hW hk hL

theorem holds : Rows.DagOrderUptoSaid :=
  OpenClaim.holds_of_cond 8 Tryd.f8 rfl rfl rfl rfl rfl rfl rfl ⟨rfl, rfl, rfl, rfl, rfl⟩ rfl rfl rfl rfl rfl (by kernel_rfl) Tryd.func8 (by kernel_rfl)
    (of_decide_eq_true (by kernel_rfl)) (by unfold Func.isWrapper; first | (rw [if_pos (by decide +kernel)]; kernel_rfl) | (rw [if_neg (by decide +kernel)]; exact ⟨rfl, rfl⟩))
    (fun os started H enc _ F => lifted os started H enc F)

theorem proved : Rows.DagOrderUptoCardSaid :=
  Claim7.holds_tied_plain_at .later [] [.data] true (true, "bbce505bd52bd62da85b36269a5cb239a7438800e0b46073070da6d61a4a19de") false
    holds (fun _ h => by cases h) (by kernel_rfl) (fun _ h => by cases h) dagOrderUpto_row_tie rfl ⟨rfl, rfl⟩ (by kernel_rfl) rfl
    (fun f fn hf hfn => by
      obtain rfl : f = 8 := Option.some.inj ((show Tryd.prog.funcNamed "pedigree/pedigreelaw11.DagOrder" = some 8 by kernel_rfl).symm.trans hf) |>.symm
      obtain rfl : fn = Tryd.f8 := (Option.some.inj (Tryd.func8.symm.trans hfn)).symm
      exact ⟨by kernel_rfl, fun j t ht => by
        rw [Tryd.params8] at ht
        have hm : t ∈ [54] := by simpa using Array.mem_of_getElem? ht
        have hall : ([54].all fun u => !Tryd.prog.wantsStandIn u) = true := by kernel_rfl
        exact (show Tryd.prog.wantsStandIn t = false by simpa using List.all_eq_true.1 hall t hm)⟩)
    (by kernel_rfl)

#print axioms proved
end Go.Proofs.YtfbfmokgpdmcfaaDoor.dagOrder
