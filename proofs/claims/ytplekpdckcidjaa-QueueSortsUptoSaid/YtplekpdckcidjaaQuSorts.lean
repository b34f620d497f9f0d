/- QueueSorts: what is pushed comes out, each as often, in rank, and those of one rank as they were pushed; texts too: for arguments of bulk at most 1048576. -/
import Derived.Test.YtplekpdckcidjaaQuSo
import Derived.Test.YtplekpdckcidjaaSxLaw2
import Derived.Test.YtplekpdckcidjaaRows
import Derived.JoinedCond
namespace Go.Proofs.Ytplekpdckcidjaa.queueSorts
open Go.ChangeShapes Go.WideShapes Go.ChangeAt Go.RowKit

theorem own : ownKnob Try.prog.godebug = none := by kernel_rfl

theorem bulk_ge {H : Type} : ∀ ds : List (DataW H), ds.length ≤ Rows.uptoBulkAll ds
  | [] => Nat.le_refl _
  | d :: ds => by
    have h1 := bulk_ge ds
    have h2 : 1 ≤ Rows.uptoBulk d := by
      cases d with
      | lit l => cases l <;> simp [Rows.uptoBulk]
      | _ => simp [Rows.uptoBulk]
    simp only [Rows.uptoBulkAll, List.length_cons]; omega
theorem short {H : Type} {n m : Nat} {d e : DataW H} (hd : (d = .nil ∧ n = 0) ∨ ∃ Ds sp, d = .slice Ds sp ∧ Ds.length = n) (he : (e = .nil ∧ m = 0) ∨ ∃ Ds sp, e = .slice Ds sp ∧ Ds.length = m) (hk : Rows.uptoSmall H [d, e] = true) : n ≤ 1048576 ∧ m ≤ 1048576 := by
  have h : Rows.uptoBulkAll [d, e] ≤ 1048576 := of_decide_eq_true hk
  simp only [Rows.uptoBulkAll] at h
  constructor
  · rcases hd with ⟨_, rfl⟩ | ⟨Ds, sp, rfl, rfl⟩
    · omega
    · have := bulk_ge Ds
      simp only [Rows.uptoBulk] at h; omega
  · rcases he with ⟨_, rfl⟩ | ⟨Ds, sp, rfl, rfl⟩
    · omega
    · have := bulk_ge Ds
      simp only [Rows.uptoBulk] at h; omega

set_option maxRecDepth 100000 in
theorem contract (H : Type) (enc : TypeId × Value → H) (W : World) (base : Nat) (args : Array Value) (ds gs : List (DataW H)) (before : List MemPlace)
    (hval : ∀ (j : Nat) t v, Try.f3.params[j]? = some t → args[j]? = some v → Value.okWide Try.prog W .any base t v)
    (hW : DataW.Whole enc Try.prog Try.f3.params.toList Rows.queueSortsSpec.vars false W args.toList ds gs before) (hk : Rows.uptoSmall H (ds ++ gs) = true) :
    Calls Try.prog 3 args W fun e W' => ∃ v, e = .returned v ∧ Rows.queueSortsSpec.post enc Try.prog Try.f3 false true false false W args v W' := by
  have hW' := hW
  obtain ⟨p, q, hA0, hV, rfl, hfz, hnd⟩ := hW
  have hA : DataW.TrodAll enc Try.prog W 0 (fun _ => true) true Try.f3.params.toList args.toList ds p := hA0
  rw [Try.params3] at hA hval
  obtain ⟨v0, vs0, d0, ds0, p0, q0, hargs, rfl, rfl, h0, r0⟩ := trodAll_cons hA
  obtain ⟨v1, vs1, d1, ds1, p1, q1, rfl, rfl, rfl, h1, r1⟩ := trodAll_cons r0
  obtain ⟨rfl, rfl, rfl⟩ := trodAll_nil r1
  obtain rfl : args = #[v0, v1] := by cases args; simp_all
  obtain ⟨rfl, rfl⟩ := trodVars_none hV
  obtain ⟨xs, hrow, hwf, hd⟩ := SX.arg_ints Try.underlying22 Try.underlying3 (by kernel_rfl) (hval 0 22 v0 rfl rfl) h0
  obtain ⟨ys, hrow2, _, he⟩ := SX.arg_strings Try.underlying23 Try.underlying9 (by kernel_rfl) (hval 1 23 v1 rfl rfl) h1
  have hs := short (n := xs.length) (m := ys.length) (hd.imp (fun ⟨a, b⟩ => ⟨a, by rw [b]; rfl⟩) fun ⟨sp, h⟩ => ⟨_, sp, h, by simp [lits]⟩) (he.imp (fun ⟨a, b⟩ => ⟨a, by rw [b]; rfl⟩) id) hk
  refine (SX.calls_ro (SX.sorts_spec _ v0 v1 xs ys hrow hrow2 hs.1 hs.2)).mono fun e W' ⟨he, hb⟩ => ?_
  subst he
  exact ⟨_, rfl, SX.law_post (tb := 4) (by kernel_rfl) (by kernel_rfl) rfl rfl Try.underlying4 hW' hb rfl⟩

set_option maxRecDepth 100000 in
theorem lifted (os : Os) (started : os.Started) (H : Type) (enc : TypeId × Value → H) (F : Stop.Interp) :
    ReturnsInHanded {} Try.checked os 3 .any ((Rows.OpenSpec.upto Rows.queueSortsSpec).pre6 enc Try.prog Try.f3 Rows.queueSortsUptoRow.domain false) (((Rows.OpenSpec.upto Rows.queueSortsSpec).at F).post enc Try.prog Try.f3 false true false false) := by
  refine returnsInHanded_of_cond (C := Try.checked) (s := Rows.OpenSpec.upto Rows.queueSortsSpec) (k := Rows.uptoSmall) rfl own started (by kernel_rfl) Try.func3
    (OpenSpec.witness (enc := enc) (C := Try.checked) (s := Rows.OpenSpec.upto Rows.queueSortsSpec) (k := Rows.uptoSmall) rfl false ⟨#[], #[.slice none 0 0, .slice none 0 0], []⟩ 8 (by kernel_rfl) (by kernel_rfl) (by kernel_rfl)
      (x := ([.nil, .nil], [], [])) (by kernel_rfl) rfl (by kernel_rfl)) ?_
  intro W base args ds gs before hval hW _ hk _
  exact contract H enc W base args ds gs before hval hW hk

theorem proved : Rows.QueueSortsUptoSaid :=
  OpenClaim.holds_of_cond 3 Try.f3 rfl rfl rfl rfl rfl rfl rfl ⟨rfl, rfl, rfl, rfl, rfl⟩ rfl rfl rfl rfl rfl (by kernel_rfl) Try.func3 (by kernel_rfl)
    (of_decide_eq_true (by kernel_rfl)) (by unfold Func.isWrapper; first | (rw [if_pos (by decide +kernel)]; kernel_rfl) | (rw [if_neg (by decide +kernel)]; exact ⟨rfl, rfl⟩))
    (fun os started H enc _ F => lifted os started H enc F)

#print axioms proved
end Go.Proofs.Ytplekpdckcidjaa.queueSorts
