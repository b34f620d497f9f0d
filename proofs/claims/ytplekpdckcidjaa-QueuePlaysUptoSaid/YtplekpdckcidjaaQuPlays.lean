/- QueuePlays: any calls, one behind the other: every answer, and all things in their order behind them: for arguments of bulk at most 1048576. -/
import Derived.Test.YtplekpdckcidjaaQu16
import Derived.Test.YtplekpdckcidjaaSxLaw
import Derived.Test.YtplekpdckcidjaaRows
import Derived.JoinedCond
namespace Go.Proofs.Ytplekpdckcidjaa.queuePlays
open Go.ChangeShapes Go.WideShapes Go.ChangeAt Go.RowKit

theorem own : ownKnob Try.prog.godebug = none := by kernel_rfl

theorem bulk_len {H : Type} : ∀ l : List (DataW H), l.length ≤ Rows.uptoBulkAll l
  | [] => by simp [Rows.uptoBulkAll]
  | d :: l => by
    have h1 : 1 ≤ Rows.uptoBulk d := by
      cases d with
      | lit x => cases x <;> simp [Rows.uptoBulk]
      | _ => simp [Rows.uptoBulk]
    have h2 := bulk_len l
    simp only [Rows.uptoBulkAll, List.length_cons]
    omega
theorem short {H : Type} {xs : List (Int × Int)} {d : DataW H} (hd : (d = .nil ∧ xs = []) ∨ ∃ elems spare, d = .slice elems spare ∧ elems.length = xs.length) (hk : Rows.uptoSmall H [d] = true) : xs.length ≤ 1048576 := by
  have h : Rows.uptoBulkAll [d] ≤ 1048576 := of_decide_eq_true hk
  rcases hd with ⟨_, rfl⟩ | ⟨elems, spare, rfl, hl⟩
  · simp
  · have := bulk_len elems
    simp only [Rows.uptoBulkAll, Rows.uptoBulk] at h
    omega

set_option maxRecDepth 100000 in
theorem contract (H : Type) (enc : TypeId × Value → H) (W : World) (base : Nat) (args : Array Value) (ds gs : List (DataW H)) (before : List MemPlace)
    (hval : ∀ (j : Nat) t v, Try.f6.params[j]? = some t → args[j]? = some v → Value.okWide Try.prog W .any base t v)
    (hW : DataW.Whole enc Try.prog Try.f6.params.toList Rows.queuePlaysSpec.vars false W args.toList ds gs before) (hk : Rows.uptoSmall H (ds ++ gs) = true) :
    Calls Try.prog 6 args W fun e W' => ∃ v, e = .returned v ∧ Rows.queuePlaysSpec.post enc Try.prog Try.f6 false true false false W args v W' := by
  have hW' := hW
  obtain ⟨p, q, hA0, hV, rfl, hfz, hnd⟩ := hW
  have hA : DataW.TrodAll enc Try.prog W 0 (fun _ => true) true Try.f6.params.toList args.toList ds p := hA0
  rw [Try.params6] at hA hval
  obtain ⟨v0, vs0, d0, ds0, p0, q0, hargs, rfl, rfl, h0, r0⟩ := trodAll_cons hA
  obtain ⟨rfl, rfl, rfl⟩ := trodAll_nil r0
  obtain rfl : args = #[v0] := by cases args; simp_all
  obtain ⟨rfl, rfl⟩ := trodVars_none hV
  obtain ⟨xs, hrow, hd⟩ := SX.arg_int_pairs Try.underlying65 Try.underlying71 (by kernel_rfl) rfl rfl (by kernel_rfl) (by kernel_rfl) Try.underlying5 Try.underlying3 (hval 0 65 v0 rfl rfl) h0
  have hs := short hd hk
  refine (SX.calls_ro (SX.plays_spec _ v0 xs hrow hs)).mono fun e W' ⟨he, hb⟩ => ?_
  subst he
  exact ⟨_, rfl, SX.law_post (tb := 4) (by kernel_rfl) (by kernel_rfl) rfl rfl Try.underlying4 hW' hb rfl⟩

set_option maxRecDepth 100000 in
theorem lifted (os : Os) (started : os.Started) (H : Type) (enc : TypeId × Value → H) (F : Stop.Interp) :
    ReturnsInHanded {} Try.checked os 6 .any ((Rows.OpenSpec.upto Rows.queuePlaysSpec).pre6 enc Try.prog Try.f6 Rows.queuePlaysUptoRow.domain false) (((Rows.OpenSpec.upto Rows.queuePlaysSpec).at F).post enc Try.prog Try.f6 false true false false) := by
  refine returnsInHanded_of_cond (C := Try.checked) (s := Rows.OpenSpec.upto Rows.queuePlaysSpec) (k := Rows.uptoSmall) rfl own started (by kernel_rfl) Try.func6
    (OpenSpec.witness (enc := enc) (C := Try.checked) (s := Rows.OpenSpec.upto Rows.queuePlaysSpec) (k := Rows.uptoSmall) rfl false ⟨#[], #[.slice none 0 0], []⟩ 8 (by kernel_rfl) (by kernel_rfl) (by kernel_rfl)
      (x := ([.nil], [], [])) (by kernel_rfl) rfl (by kernel_rfl)) ?_
  intro W base args ds gs before hval hW _ hk _
  exact contract H enc W base args ds gs before hval hW hk

theorem proved : Rows.QueuePlaysUptoSaid :=
  OpenClaim.holds_of_cond 6 Try.f6 rfl rfl rfl rfl rfl rfl rfl ⟨rfl, rfl, rfl, rfl, rfl⟩ rfl rfl rfl rfl rfl (by kernel_rfl) Try.func6 (by kernel_rfl)
    (of_decide_eq_true (by kernel_rfl)) (by unfold Func.isWrapper; first | (rw [if_pos (by decide +kernel)]; kernel_rfl) | (rw [if_neg (by decide +kernel)]; exact ⟨rfl, rfl⟩))
    (fun os started H enc _ F => lifted os started H enc F)

#print axioms proved
end Go.Proofs.Ytplekpdckcidjaa.queuePlays
