/- VbaseTells: any commits and trees, any limit: the virtual ancestor, the merge over it, and the steps: for every input, with the table of math/bits as its text lays it. -/
import Derived.Test.YtkldhmbmahgnjaaGreatDoorB8d4879ed
import Derived.Test.YtkldhmbmahgnjaaGreatDoorB567907ac
import Derived.Test.YtkldhmbmahgnjaaGreatDoorBd87140dc
import Derived.Test.YtkldhmbmahgnjaaGreatDoorRows
import Derived.Test.YtkldhmbmahgnjaaGreatDoorCards
import Derived.Test.YtkldhmbmahgnjaaGreatDoorTie
import Derived.SevenTiedAt
namespace Go.Proofs.YtkldhmbmahgnjaaGreatDoor.vbaseTells
open Go Go.ChangeShapes Go.WideShapes Go.ChangeAt Go.RowKit

set_option maxRecDepth 100000 in
theorem contract (H : Type) (enc : TypeId × Value → H) (W : World) (base : Nat) (args : Array Value) (ds gs : List (DataW H)) (before : List MemPlace)
    (hval : ∀ (j : Nat) t v, Tryz.f3.params[j]? = some t → args[j]? = some v → Value.okWide Tryz.prog W .any base t v)
    (hW : DataW.Whole enc Tryz.prog Tryz.f3.params.toList Rows.vbaseTellsSpec.vars false W args.toList ds gs before) (hL : laidMetH Tryz.prog Rows.vbaseTellsRow.laid W) :
    Calls Tryz.prog 3 args W fun e W' => ∃ v, e = .returned v ∧ Rows.vbaseTellsSpec.post enc Tryz.prog Tryz.f3 false true false false W args v W' := by
  have hT := tab_of hL
  have hW' := hW
  obtain ⟨p, q, hA0, hV, rfl, hfz, hnd⟩ := hW
  have hA : DataW.TrodAll enc Tryz.prog W 0 (fun _ => true) true Tryz.f3.params.toList args.toList ds p := hA0
  rw [Tryz.params3] at hA hval
  obtain ⟨v0, vs0, d0, ds0, p0, q0, hargs, rfl, rfl, h0, r0⟩ := trodAll_cons hA
  obtain ⟨v1, vs1, d1, ds1, p1, q1, rfl, rfl, rfl, h1, r1⟩ := trodAll_cons r0
  obtain ⟨rfl, rfl, rfl⟩ := trodAll_nil r1
  obtain rfl : args = #[v0, v1] := by cases args; simp_all
  obtain ⟨rfl, rfl⟩ := trodVars_none hV
  obtain ⟨vG0, vT0, vF0, S0, G0, T0, F0, rfl, hG0, hT0, hTe0, hF0, _⟩ := SX.arg_world wldT (hval 0 29 v0 rfl rfl) h0
  obtain ⟨xa, xb, xc, rfl⟩ := SX.arg_three ask3 Tryz.underlying3 ⟨by kernel_rfl, by kernel_rfl⟩ (hval 1 31 v1 rfl rfl) h1
  refine (SX.calls_ro (SX.tells_spec ⟨vG0, vT0, vF0, S0, G0, T0, F0⟩ _ ⟨hG0, hT0, hTe0, hF0⟩ hT xa xb xc)).mono fun e W' ⟨he, hb⟩ => ?_
  subst he
  exact ⟨_, rfl, SX.law_post (tb := 4) (by kernel_rfl) (by kernel_rfl) rfl rfl Tryz.underlying4 hW' hb rfl⟩

set_option maxRecDepth 100000 in
theorem lifted (os : Os) (started : os.Started) (H : Type) (enc : TypeId × Value → H) :
    ReturnsInHanded {} Tryz.checked os 3 .any (fun w args => (Rows.vbaseTellsSpec.pre enc Tryz.prog Tryz.f3 [] false w args ∧ laidMetH Tryz.prog Rows.vbaseTellsRow.laid w) ∧ sizedMet enc Tryz.prog Tryz.f3 (OpenSpec.ofChange Rows.vbaseTellsSpec) false w args)
      (Rows.vbaseTellsSpec.post enc Tryz.prog Tryz.f3 false true false false) := by
  refine returnsInHanded_of_change_and (C := Tryz.checked) (X := fun w _ => laidMetH Tryz.prog Rows.vbaseTellsRow.laid w) (fun _ _ _ hh h => h.of_heap hh) ownKnobF started (by kernel_rfl) Tryz.func3
    (ChangeSpec.witness_shaped (enc := enc) (C := Tryz.checked) (os := os) (X := fun w _ => laidMetH Tryz.prog Rows.vbaseTellsRow.laid w) false (World.doorLaid Tryz.prog 400 os) #[.agg #[.slice none 0 0, .slice none 0 0, .int .i64 0, .int .i64 0, .int .i64 0, .int .u32 0, .slice none 0 0], .agg #[.int .i64 0, .int .i64 0, .int .i64 0]] 8 rfl (World.shaped_of_RefB (by kernel_rfl) (by kernel_rfl)) (by kernel_rfl) (by kernel_rfl) (by kernel_rfl) (door_met os _)) ?_
  intro W base args ds gs before hval hW _ _ hL _
  exact contract H enc W base args ds gs before hval hW hL

theorem holds : Rows.VbaseTellsSaid :=
  OpenClaim.holds_of_wide (p := Tryz.pinned) (s := Rows.vbaseTellsSpec) (c := Rows.vbaseTellsRow) 3 Tryz.f3 rfl rfl rfl rfl rfl rfl rfl ⟨rfl, rfl, rfl, rfl, rfl⟩ rfl rfl rfl rfl rfl (by kernel_rfl) Tryz.func3 (by kernel_rfl)
    (of_decide_eq_true (by kernel_rfl)) (by unfold Func.isWrapper; first | (rw [if_pos (by decide +kernel)]; kernel_rfl) | (rw [if_neg (by decide +kernel)]; exact ⟨rfl, rfl⟩))
    (fun os started H enc _ => lifted os started H enc)

theorem proved : Rows.VbaseTellsCardSaid :=
  Claim7.holds_tied_plain_at .later [] [.data] true (true, "12096fde76b78d3ccf18bc78cd785972fed9a77a2168d54d3d4e0b4d9f21551a") false
    holds (fun _ h => by cases h) (by kernel_rfl) (fun _ h => by cases h) vbaseTells_row_tie rfl ⟨rfl, rfl⟩ (by kernel_rfl) rfl
    (fun f fn hf hfn => by
      obtain rfl : f = 3 := Option.some.inj ((show Tryz.prog.funcNamed "pedigree/pedigreelaw23.VbaseTells" = some 3 by kernel_rfl).symm.trans hf) |>.symm
      obtain rfl : fn = Tryz.f3 := (Option.some.inj (Tryz.func3.symm.trans hfn)).symm
      exact ⟨by kernel_rfl, fun j t ht => by
        rw [Tryz.params3] at ht
        have hm : t ∈ [29, 31] := by simpa using Array.mem_of_getElem? ht
        have hall : ([29, 31].all fun u => !Tryz.prog.wantsStandIn u) = true := by kernel_rfl
        exact (show Tryz.prog.wantsStandIn t = false by simpa using List.all_eq_true.1 hall t hm)⟩)
    (by kernel_rfl)

#print axioms proved
end Go.Proofs.YtkldhmbmahgnjaaGreatDoor.vbaseTells
