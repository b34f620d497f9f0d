/- VbaseWild: sources that say anything: all calls end; no source: for every input, with the table of math/bits as its text lays it. -/
import Derived.Test.YtkldhmbmahgnjaaDoorBc597f159
import Derived.Test.YtkldhmbmahgnjaaDoorB2fe6d66a
import Derived.Test.YtkldhmbmahgnjaaDoorB5c872605
import Derived.Test.YtkldhmbmahgnjaaDoorRows
import Derived.Test.YtkldhmbmahgnjaaDoorCards
import Derived.Test.YtkldhmbmahgnjaaDoorTie
import Derived.SevenTiedAt
namespace Go.Proofs.YtkldhmbmahgnjaaDoor.vbaseWild
open Go Go.ChangeShapes Go.WideShapes Go.ChangeAt Go.RowKit

set_option maxRecDepth 100000 in
theorem contract (H : Type) (enc : TypeId × Value → H) (W : World) (base : Nat) (args : Array Value) (ds gs : List (DataW H)) (before : List MemPlace)
    (hval : ∀ (j : Nat) t v, Tryd.f6.params[j]? = some t → args[j]? = some v → Value.okWide Tryd.prog W .any base t v)
    (hW : DataW.Whole enc Tryd.prog Tryd.f6.params.toList Rows.vbaseWildSpec.vars false W args.toList ds gs before) (hL : laidMetH Tryd.prog Rows.vbaseWildRow.laid W) :
    Calls Tryd.prog 6 args W fun e W' => ∃ v, e = .returned v ∧ Rows.vbaseWildSpec.post enc Tryd.prog Tryd.f6 false true false false W args v W' := by
  have hT := tab_of hL
  have hW' := hW
  obtain ⟨p, q, hA0, hV, rfl, hfz, hnd⟩ := hW
  have hA : DataW.TrodAll enc Tryd.prog W 0 (fun _ => true) true Tryd.f6.params.toList args.toList ds p := hA0
  rw [Tryd.params6] at hA hval
  obtain ⟨v0, vs0, d0, ds0, p0, q0, hargs, rfl, rfl, h0, r0⟩ := trodAll_cons hA
  obtain ⟨v1, vs1, d1, ds1, p1, q1, rfl, rfl, rfl, h1, r1⟩ := trodAll_cons r0
  obtain ⟨v2, vs2, d2, ds2, p2, q2, rfl, rfl, rfl, h2, r2⟩ := trodAll_cons r1
  obtain ⟨rfl, rfl, rfl⟩ := trodAll_nil r2
  obtain rfl : args = #[v0, v1, v2] := by cases args; simp_all
  obtain ⟨rfl, rfl⟩ := trodVars_none hV
  obtain ⟨xm, xk, xG, xN, GG, nn, rfl, hGG, hNN⟩ := SX.arg_wild wild4 Tryd.underlying3 Tryd.underlying22 Tryd.underlying43 ⟨by kernel_rfl, by kernel_rfl, by kernel_rfl, by kernel_rfl⟩ (hval 0 56 v0 rfl rfl) h0
  obtain ⟨TT, hT1, hT2⟩ := SX.arg_trees Tryd.underlying23 Tryd.underlying33 Tryd.underlying52 ⟨rfl, rfl⟩ ⟨rfl, rfl⟩ Tryd.underlying9 Tryd.underlying24 ⟨by kernel_rfl, by kernel_rfl, by kernel_rfl, by kernel_rfl⟩ (hval 1 23 v1 rfl rfl) h1
  obtain ⟨xa, xb, xc, rfl⟩ := SX.arg_three ask3 Tryd.underlying3 ⟨by kernel_rfl, by kernel_rfl⟩ (hval 2 58 v2 rfl rfl) h2
  refine (SX.calls_ro (SX.wild_spec _ hT xm xk xG xN v1 GG nn TT hGG hNN hT1 hT2 xa xb xc)).mono fun e W' ⟨he, hb⟩ => ?_
  subst he
  exact ⟨_, rfl, SX.law_post (tb := 4) (by kernel_rfl) (by kernel_rfl) rfl rfl Tryd.underlying4 hW' hb rfl⟩

set_option maxRecDepth 100000 in
theorem lifted (os : Os) (started : os.Started) (H : Type) (enc : TypeId × Value → H) :
    ReturnsInHanded {} Tryd.checked os 6 .any (fun w args => (Rows.vbaseWildSpec.pre enc Tryd.prog Tryd.f6 [] false w args ∧ laidMetH Tryd.prog Rows.vbaseWildRow.laid w) ∧ sizedMet enc Tryd.prog Tryd.f6 (OpenSpec.ofChange Rows.vbaseWildSpec) false w args)
      (Rows.vbaseWildSpec.post enc Tryd.prog Tryd.f6 false true false false) := by
  refine returnsInHanded_of_change_and (C := Tryd.checked) (X := fun w _ => laidMetH Tryd.prog Rows.vbaseWildRow.laid w) (fun _ _ _ hh h => h.of_heap hh) ownKnobF started (by kernel_rfl) Tryd.func6
    (ChangeSpec.witness_shaped (enc := enc) (C := Tryd.checked) (os := os) (X := fun w _ => laidMetH Tryd.prog Rows.vbaseWildRow.laid w) false (World.doorLaid Tryd.prog 400 os) #[.agg #[.int .i64 0, .slice none 0 0, .slice none 0 0, .int .i64 0], .slice none 0 0, .agg #[.int .i64 0, .int .i64 0, .int .i64 0]] 8 rfl (World.shaped_of_RefB (by kernel_rfl) (by kernel_rfl)) (by kernel_rfl) (by kernel_rfl) (by kernel_rfl) (door_met os _)) ?_
  intro W base args ds gs before hval hW _ _ hL _
  exact contract H enc W base args ds gs before hval hW hL

theorem holds : Rows.VbaseWildSaid :=
  OpenClaim.holds_of_wide (p := Tryd.pinned) (s := Rows.vbaseWildSpec) (c := Rows.vbaseWildRow) 6 Tryd.f6 rfl rfl rfl rfl rfl rfl rfl ⟨rfl, rfl, rfl, rfl, rfl⟩ rfl rfl rfl rfl rfl (by kernel_rfl) Tryd.func6 (by kernel_rfl)
    (of_decide_eq_true (by kernel_rfl)) (by unfold Func.isWrapper; first | (rw [if_pos (by decide +kernel)]; kernel_rfl) | (rw [if_neg (by decide +kernel)]; exact ⟨rfl, rfl⟩))
    (fun os started H enc _ => lifted os started H enc)

theorem proved : Rows.VbaseWildCardSaid :=
  Claim7.holds_tied_plain_at .later [] [.data] true (true, "70014f2801ca2c513b577e5a6efd9d0dbb2f750adb3afa692779a15d67e7b513") false
    holds (fun _ h => by cases h) (by kernel_rfl) (fun _ h => by cases h) vbaseWild_row_tie rfl ⟨rfl, rfl⟩ (by kernel_rfl) rfl
    (fun f fn hf hfn => by
      obtain rfl : f = 6 := Option.some.inj ((show Tryd.prog.funcNamed "pedigree/pedigreelaw23.VbaseWild" = some 6 by kernel_rfl).symm.trans hf) |>.symm
      obtain rfl : fn = Tryd.f6 := (Option.some.inj (Tryd.func6.symm.trans hfn)).symm
      exact ⟨by kernel_rfl, fun j t ht => by
        rw [Tryd.params6] at ht
        have hm : t ∈ [56, 23, 58] := by simpa using Array.mem_of_getElem? ht
        have hall : ([56, 23, 58].all fun u => !Tryd.prog.wantsStandIn u) = true := by kernel_rfl
        exact (show Tryd.prog.wantsStandIn t = false by simpa using List.all_eq_true.1 hall t hm)⟩)
    (by kernel_rfl)

#print axioms proved
end Go.Proofs.YtkldhmbmahgnjaaDoor.vbaseWild
