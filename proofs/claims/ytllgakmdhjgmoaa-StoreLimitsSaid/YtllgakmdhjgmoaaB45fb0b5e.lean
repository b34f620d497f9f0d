/- A part of the proof: walks of the program's functions, and the rules by which they go. -/
import Derived.Test.YtllgakmdhjgmoaaB2244452f
import Derived.Test.YtllgakmdhjgmoaaB03f99ace
import Derived.Test.YtllgakmdhjgmoaaB70d18cc6
namespace SX
open Go Go.Proofs
theorem cloneT_spec (μ : PH) (v : Value) (t : List En) (hv : Row μ v 2 t.length (ens t)) (hl : t.length ≤ 1048576) : Spec Try.prog 37 [v] [ro μ] (fun r L => ∃ A c, r = .slice A t.length c ∧ L = [own 44 2 (.slice A t.length c) t.length (ens t), ro μ]) := by
  obtain ⟨A, cap, rfl⟩ := hv.sl
  refine Spec.of 8 Try.func37 rfl rfl rfl ?_
  refine swp_seq ?_
  refine swp_region ?_
  refine s_pu (pu_assign rfl) ?_
  refine swl_sub _ (.cons (t := 0) rfl .nil) ?_
  refine swl_nil ?_
  refine then_n ?_
  refine swp_seq ?_
  refine swp_seq ?_
  refine swp_region ?_
  refine s_pu (pu_move rfl) ?_
  refine s_pu (pu_sl_eq_nil rfl rfl) ?_
  refine swl_sub _ (.cons (t := 0) rfl (.cons (t := 4) rfl .nil)) ?_
  refine swl_nil ?_
  refine then_n ?_
  refine swp_cond (b := _) rfl (fun h4 => ?_) (fun h4 => ?_)
  · skip   -- 4 T
    refine swp_seq ?_
    refine swp_region ?_
    refine s_pu (pu_assign rfl) ?_
    refine swl_sub _ (.cons (t := 2) rfl .nil) ?_
    refine swl_nil ?_
    refine then_n ?_
    refine swp_ret ?_
    refine then_r ?_
    have hA : A = none := by cases A <;> simp_all
    subst hA
    have h0 : t = [] := by
      cases t with
      | nil => rfl
      | cons x l => obtain ⟨b, o, c, h, _⟩ := hv.pos (by simp); cases h
    subst h0
    exact done_retE [own 44 2 (.slice none 0 0) 0 [], ro μ] (.tmp rfl .nil) ⟨none, 0, rfl, rfl⟩ own_nil_ent
  · skip   -- 4 F
    refine swp_skip ?_
    refine then_n ?_
    refine swp_seq ?_
    refine swp_region ?_
    refine s_ef (ef_bldS (qs := []) rfl rfl rfl) ?_
    intro b5
    refine s_pu (pu_move rfl) ?_
    refine swl_ent (own_empty (n := 2)) ?_
    refine s_ef (ef_append_ro hv rfl rfl (by repeat (first | exact Split.nil | (apply Split.cons; (repeat (first | with_reducible exact Take.here | apply Take.there))))) (ens_one _) (by simp only [maxLen]; omega) (by omega)) ?_
    rintro v7 -
    rw [Nat.zero_add, List.nil_append]
    refine swl_fact (fun m h => own_form h) fun ⟨A7, c7, hv7⟩ => ?_
    subst hv7
    refine s_pu (pu_assign rfl) ?_
    refine swl_sub _ (.cons (t := 2) rfl .nil) ?_
    refine swl_nil ?_
    refine then_n ?_
    refine swp_ret ?_
    exact done_ret [own 44 2 (.slice A7 t.length c7) t.length (ens t), ro μ] (.tmp rfl .nil) ⟨A7, c7, rfl, rfl⟩ (by repeat (first | exact Split.nil | (apply Split.cons; (repeat (first | with_reducible exact Take.here | apply Take.there)))))
theorem cloneI_spec (μ : PH) (v : Value) (xs : List Int) (hv : Row μ v 1 xs.length (xs.flatMap (icsk .i64))) (hl : xs.length ≤ 1048576) : Spec Try.prog 44 [v] [ro μ] (fun r L => ∃ A c, r = .slice A xs.length c ∧ L = [own 3 1 (.slice A xs.length c) xs.length (xs.flatMap (icsk .i64)), ro μ]) := by
  obtain ⟨A, cap, rfl⟩ := hv.sl
  refine Spec.of 8 Try.func44 rfl rfl rfl ?_
  refine swp_seq ?_
  refine swp_region ?_
  refine s_pu (pu_assign rfl) ?_
  refine swl_sub _ (.cons (t := 0) rfl .nil) ?_
  refine swl_nil ?_
  refine then_n ?_
  refine swp_seq ?_
  refine swp_seq ?_
  refine swp_region ?_
  refine s_pu (pu_move rfl) ?_
  refine s_pu (pu_sl_eq_nil rfl rfl) ?_
  refine swl_sub _ (.cons (t := 0) rfl (.cons (t := 4) rfl .nil)) ?_
  refine swl_nil ?_
  refine then_n ?_
  refine swp_cond (b := _) rfl (fun h4 => ?_) (fun h4 => ?_)
  · skip   -- 4 T
    refine swp_seq ?_
    refine swp_region ?_
    refine s_pu (pu_assign rfl) ?_
    refine swl_sub _ (.cons (t := 2) rfl .nil) ?_
    refine swl_nil ?_
    refine then_n ?_
    refine swp_ret ?_
    refine then_r ?_
    have hA : A = none := by cases A <;> simp_all
    subst hA
    have h0 : xs = [] := by
      cases xs with
      | nil => rfl
      | cons x l => obtain ⟨b, o, c, h, _⟩ := hv.pos (by simp); cases h
    subst h0
    exact done_retE [own 3 1 (.slice none 0 0) 0 [], ro μ] (.tmp rfl .nil) ⟨none, 0, rfl, rfl⟩ own_nil_ent
  · skip   -- 4 F
    refine swp_skip ?_
    refine then_n ?_
    refine swp_seq ?_
    refine swp_region ?_
    refine s_ef (ef_bldS (qs := []) rfl rfl rfl) ?_
    intro b5
    refine s_pu (pu_move rfl) ?_
    refine swl_ent (own_empty (n := 1)) ?_
    refine s_ef (ef_append_ro hv rfl rfl (by repeat (first | exact Split.nil | (apply Split.cons; (repeat (first | with_reducible exact Take.here | apply Take.there))))) (icsk_one _) (by simp only [maxLen]; omega) (by omega)) ?_
    rintro v7 -
    rw [Nat.zero_add, List.nil_append]
    refine swl_fact (fun m h => own_form h) fun ⟨A7, c7, hv7⟩ => ?_
    subst hv7
    refine s_pu (pu_assign rfl) ?_
    refine swl_sub _ (.cons (t := 2) rfl .nil) ?_
    refine swl_nil ?_
    refine then_n ?_
    refine swp_ret ?_
    exact done_ret [own 3 1 (.slice A7 xs.length c7) xs.length (xs.flatMap (icsk .i64)), ro μ] (.tmp rfl .nil) ⟨A7, c7, rfl, rfl⟩ (by repeat (first | exact Split.nil | (apply Split.cons; (repeat (first | with_reducible exact Take.here | apply Take.there)))))
/-- a record, on the disk -/
def writeD (d : Dk) (f : Fm) : Dk × Int := if (appendD d logN (encFm f)).2 ≠ 0 then appendD d logN (encFm f) else syncD (appendD d logN (encFm f)).1 logN
theorem append_l (q : Nat) (d : Dk) (hd : d.Ok) (s : ByteArray) (l : List UInt8) (hl : l.length ≤ 1048576) : Spec Try.prog 9 [pv q, .string s, .string (str l)] [FSA q d] (fun r L => r = .int .i64 (appendD d s l).2 ∧ L = [FSA q (appendD d s l).1]) := append_spec q d hd s (str l) (Nat.le_trans hl (by decide))
abbrev wriL (b3 b7 p : Nat) (W : SW) (d : Dk) (f : Fm) : List Assn := [FSA W.q d, blk b3 29 [pv p], blk b7 9 [.string (str (encFm f))], stH p W]
theorem wri1_spec (b3 b7 p : Nat) (W : SW) (d : Dk) (hd : d.Ok) (f : Fm) (hf : f.2.length ≤ 1048567) : Spec Try.prog 66 [pv b3, pv b7] (wriL b3 b7 p W d f) (fun r L => r = .int .i64 (appendD d logN (encFm f)).2 ∧ L = wriL b3 b7 p W (appendD d logN (encFm f)).1 f) := by
  refine Spec.of 9 Try.func66 rfl rfl rfl ?_
  refine swp_seq ?_
  refine swp_region ?_
  refine s_pu (pu_assign rfl) ?_
  refine swl_sub _ (.cons (t := 0) rfl (.cons (t := 1) rfl .nil)) ?_
  refine swl_nil ?_
  refine then_n ?_
  refine swp_seq ?_
  refine swp_draw [0, 3, 4] _ [] (by simp only [List.append_nil]; exact Ent.refl _) (by kernel_rfl) ?_
  refine d_rd 0 rfl (rd_load rfl rfl) rfl (by kernel_rfl) (by kernel_rfl) (by kernel_rfl) ?_
  first | refine d_pu 1 rfl (pu_nilCheck rfl) (by kernel_rfl) (by kernel_rfl) (by kernel_rfl) ?_ | refine d_pu 1 rfl (pu_nilCheck_fn rfl) (by kernel_rfl) (by kernel_rfl) (by kernel_rfl) ?_ | refine d_pu 1 rfl (pu_nilCheck_if rfl) (by kernel_rfl) (by kernel_rfl) (by kernel_rfl) ?_
  first | refine d_pu 2 rfl (pu_fieldAddr0 rfl) (by kernel_rfl) (by kernel_rfl) (by kernel_rfl) ?_ | refine d_pu 2 rfl (pu_fieldAddr rfl) (by kernel_rfl) (by kernel_rfl) (by kernel_rfl) ?_
  refine d_rd 3 rfl (rd_load rfl rfl) rfl (by kernel_rfl) (by kernel_rfl) (by kernel_rfl) ?_
  refine d_rd 4 rfl (rd_load rfl rfl) rfl (by kernel_rfl) (by kernel_rfl) (by kernel_rfl) ?_
  first | refine d_fint 5 rfl (by kernel_rfl) (by kernel_rfl) (ef_fn (append_l W.q d hd logN (encFm f) (by rw [encFm_len]; omega)) rfl rfl (by repeat (first | exact Split.nil | (apply Split.cons; (repeat (first | with_reducible exact Take.here | apply Take.there)))))) ?_ | refine d_finf 5 rfl (by kernel_rfl) (by kernel_rfl) (ef_fn (append_l W.q d hd logN (encFm f) (by rw [encFm_len]; omega)) rfl rfl (by repeat (first | exact Split.nil | (apply Split.cons; (repeat (first | with_reducible exact Take.here | apply Take.there)))))) ?_
  rintro v8 L1 ⟨rfl, rfl⟩
  refine swd_app ?_
  refine d_pu 6 rfl (pu_assign rfl) (by kernel_rfl) (by kernel_rfl) (by kernel_rfl) ?_
  refine d_sub _ (.cons (t := 2) rfl .nil) ?_
  first | refine d_nilt (by kernel_rfl) ?_ | refine d_nilf (by kernel_rfl) ?_
  refine then_n ?_
  refine swp_ret ?_
  exact done_ret (wriL b3 b7 p W (appendD d logN (encFm f)).1 f) (.tmp rfl .nil) ⟨rfl, rfl⟩ (by repeat (first | exact Split.nil | (apply Split.cons; (repeat (first | with_reducible exact Take.here | apply Take.there)))))
theorem wri2_spec (b3 b7 p : Nat) (W : SW) (d : Dk) (hd : d.Ok) (f : Fm) : Spec Try.prog 67 [pv b3] (wriL b3 b7 p W d f) (fun r L => r = .int .i64 (syncD d logN).2 ∧ L = wriL b3 b7 p W (syncD d logN).1 f) := by
  refine Spec.of 7 Try.func67 rfl rfl rfl ?_
  refine swp_seq ?_
  refine swp_region ?_
  refine s_pu (pu_assign rfl) ?_
  refine swl_sub _ (.cons (t := 0) rfl .nil) ?_
  refine swl_nil ?_
  refine then_n ?_
  refine swp_seq ?_
  refine swp_region ?_
  refine s_rd (rd_load rfl rfl) ?_
  first | refine s_pu (pu_nilCheck rfl) ?_ | refine s_pu (pu_nilCheck_fn rfl) ?_ | refine s_pu (pu_nilCheck_if rfl) ?_
  first | refine s_pu (pu_fieldAddr0 rfl) ?_ | refine s_pu (pu_fieldAddr rfl) ?_
  refine s_rd (rd_load rfl rfl) ?_
  refine s_ef (ef_fn (sync_spec W.q d hd logN) rfl rfl (by repeat (first | exact Split.nil | (apply Split.cons; (repeat (first | with_reducible exact Take.here | apply Take.there)))))) ?_
  rintro v6 L1 ⟨rfl, rfl⟩
  refine swl_app ?_
  refine s_pu (pu_assign rfl) ?_
  refine swl_sub _ (.cons (t := 1) rfl .nil) ?_
  refine swl_nil ?_
  refine then_n ?_
  refine swp_ret ?_
  exact done_ret (wriL b3 b7 p W (syncD d logN).1 f) (.tmp rfl .nil) ⟨rfl, rfl⟩ (by repeat (first | exact Split.nil | (apply Split.cons; (repeat (first | with_reducible exact Take.here | apply Take.there)))))
theorem write_steps (b3 b7 p : Nat) (W : SW) (d : Dk) (hd : d.Ok) (f : Fm) (hf : f.2.length ≤ 1048567) :
    StepsF [.func (.func 66) #[] #[pv b3, pv b7], .func (.func 67) #[] #[pv b3]] (wriL b3 b7 p W d f) (fun e L => e = (writeD d f).2 ∧ L = wriL b3 b7 p W (writeD d f).1 f) := by
  have hd1 := appendD_ok hd logN (encFm f)
  refine ⟨66, inferInstance, [], [pv b3, pv b7], rfl, Spec.mono (wri1_spec b3 b7 p W d hd f hf) ?_⟩
  rintro r L ⟨rfl, rfl⟩
  refine ⟨_, rfl, ?_⟩
  by_cases h1 : (appendD d logN (encFm f)).2 = 0
  · refine .inl ⟨h1, 67, inferInstance, [], [pv b3], rfl, Spec.mono (wri2_spec b3 b7 p W _ hd1 f) ?_⟩
    rintro r L ⟨rfl, rfl⟩
    have e : writeD d f = syncD (appendD d logN (encFm f)).1 logN := by unfold writeD; rw [if_neg (not_not_intro h1)]
    refine ⟨_, rfl, ?_⟩
    by_cases h3 : (syncD (appendD d logN (encFm f)).1 logN).2 = 0
    · exact .inl ⟨h3, by rw [e]; exact ⟨h3.symm, rfl⟩⟩
    · exact .inr ⟨h3, by rw [e]; exact ⟨rfl, rfl⟩⟩
  · have e : writeD d f = appendD d logN (encFm f) := by unfold writeD; rw [if_pos h1]
    exact .inr ⟨h1, by rw [e]; exact ⟨rfl, rfl⟩⟩
theorem writeD_ok {d : Dk} (hd : d.Ok) (f : Fm) : (writeD d f).1.Ok := by
  unfold writeD
  split
  · exact appendD_ok hd _ _
  · exact syncD_ok (appendD_ok hd _ _) _
set_option maxHeartbeats 2000000 in
theorem write_spec (p : Nat) (W : SW) (d : Dk) (hd : d.Ok) (f : Fm) (h1 : 0 < f.1) (h2 : f.1 < 256) (hf : f.2.length ≤ 1048567) : Spec Try.prog 36 [pv p, .int .i64 (f.1 : Nat), .string (str f.2)] [FSA W.q d, stH p W] (fun r L => r = .int .i64 (writeD d f).2 ∧ L = [FSA W.q (writeD d f).1, stH p { W with dead := decide ((writeD d f).2 = 8) }]) := by
  refine Spec.of 28 Try.func36 rfl rfl rfl ?_
  refine swp_seq ?_
  refine swp_region ?_
  refine s_ef (ef_box rfl rfl) ?_
  intro b3
  refine s_pu (pu_assign rfl) ?_
  refine swl_sub _ (.cons (t := 1) rfl (.cons (t := 2) rfl (.cons (t := 3) rfl .nil))) ?_
  refine swl_nil ?_
  refine then_n ?_
  refine swp_seq ?_
  refine swp_region ?_
  refine s_pu (pu_move rfl) ?_
  refine s_pu (pu_move rfl) ?_
  refine s_pu (pu_bld (qs := [(0, _), (1, _)]) rfl) ?_
  refine s_ef (ef_fn (fenc_spec f h1 h2 (by omega)) rfl rfl (by repeat (first | exact Split.nil | (apply Split.cons; (repeat (first | with_reducible exact Take.here | apply Take.there)))))) ?_
  rintro v13 L1 ⟨rfl, rfl⟩
  refine swl_app ?_
  refine s_pu (pu_move rfl) ?_
  first | refine s_pu (pu_extractL rfl) ?_ | refine s_pu (pu_extract rfl rfl) ?_
  first | refine s_pu (pu_extractL rfl) ?_ | refine s_pu (pu_extract rfl rfl) ?_
  refine s_ef (ef_alloc) ?_
  intro b7
  refine s_ef0 (ef_store rfl rfl rfl) ?_
  refine s_pu (pu_assign rfl) ?_
  refine swl_sub _ (.cons (t := 3) rfl (.cons (t := 7) rfl (.cons (t := 8) rfl .nil))) ?_
  refine swl_nil ?_
  refine then_n ?_
  refine swp_seq ?_
  refine swp_seq ?_
  refine swp_region ?_
  refine s_pu (pu_move rfl) ?_
  refine s_pu (pu_eql rfl rfl) ?_
  refine swl_sub _ (.cons (t := 3) rfl (.cons (t := 7) rfl (.cons (t := 8) rfl (.cons (t := 17) rfl .nil)))) ?_
  refine swl_nil ?_
  refine then_n ?_
  refine swp_cond (b := _) rfl (fun h17 => ?_) (fun h17 => by cases h17)
  refine swp_region ?_
  refine s_pu (pu_func (vs := []) (us := [_, _]) rfl rfl) ?_
  refine s_pu (pu_func (vs := []) (us := [_]) rfl rfl) ?_
  refine s_ef (ef_bldS (qs := [(0, _), (1, _)]) rfl rfl rfl) ?_
  intro b20
  refine s_ef (ef_fn (first_spec b20 2 [.func (.func 66) #[] #[pv b3, pv b7], .func (.func 67) #[] #[pv b3]] (wriL b3 b7 p W d f) _ (by show 2 ≤ 1000; decide) (write_steps b3 b7 p W d hd f hf)) rfl rfl (by repeat (first | exact Split.nil | (apply Split.cons; (repeat (first | with_reducible exact Take.here | apply Take.there)))))) ?_
  rintro v21 L1 ⟨e, L2, rfl, ⟨rfl, rfl⟩, rfl⟩
  refine swl_app ?_
  refine s_pu (pu_assign rfl) ?_
  refine swl_sub _ (.cons (t := 3) rfl (.cons (t := 8) rfl .nil)) ?_
  refine swl_nil ?_
  refine then_n ?_
  refine swp_seq ?_
  refine swp_region ?_
  refine s_rd (rd_load rfl rfl) ?_
  refine s_pu (pu_move rfl) ?_
  refine s_pu (pu_eql rfl rfl) ?_
  first | refine s_pu (pu_nilCheck rfl) ?_ | refine s_pu (pu_nilCheck_fn rfl) ?_ | refine s_pu (pu_nilCheck_if rfl) ?_
  first | refine s_pu (pu_fieldAddr0 rfl) ?_ | refine s_pu (pu_fieldAddr rfl) ?_
  refine s_ef0 (ef_store rfl rfl rfl) ?_
  refine swl_sub _ (.cons (t := 8) rfl .nil) ?_
  refine swl_nil ?_
  refine then_n ?_
  refine swp_seq ?_
  refine swp_region ?_
  refine s_pu (pu_move rfl) ?_
  refine s_pu (pu_assign rfl) ?_
  refine swl_sub _ (.cons (t := 6) rfl .nil) ?_
  refine swl_nil ?_
  refine then_n ?_
  refine swp_ret ?_
  exact done_ret [FSA W.q (writeD d f).1, stH p { W with dead := decide ((writeD d f).2 = 8) }] (.tmp rfl .nil) ⟨rfl, rfl⟩ (by repeat (first | exact Split.nil | (apply Split.cons; (repeat (first | with_reducible exact Take.here | apply Take.there)))))
theorem live_spec (p : Nat) (W : SW) : Spec Try.prog 34 [pv p] [stH p W] (fun r L => r = .int .i64 (if W.dead = true then 8 else 0) ∧ L = [stH p W]) := by
  refine Spec.of 11 Try.func34 rfl rfl rfl ?_
  refine swp_seq ?_
  refine swp_region ?_
  refine s_pu (pu_assign rfl) ?_
  refine swl_sub _ (.cons (t := 0) rfl .nil) ?_
  refine swl_nil ?_
  refine then_n ?_
  refine swp_seq ?_
  refine swp_block ?_
  refine swp_seq ?_
  refine swp_region ?_
  refine s_pu (pu_move rfl) ?_
  refine s_pu (pu_ptr_eq_nil rfl rfl) ?_
  refine s_pu (pu_assign rfl) ?_
  refine swl_sub _ (.cons (t := 0) rfl (.cons (t := 3) rfl .nil)) ?_
  refine swl_nil ?_
  refine then_n ?_
  refine swp_cond (b := _) rfl (fun h3 => by cases h3) (fun h3 => ?_)
  refine swp_seq ?_
  refine swp_region ?_
  refine s_pu (pu_move rfl) ?_
  first | refine s_pu (pu_nilCheck rfl) ?_ | refine s_pu (pu_nilCheck_fn rfl) ?_ | refine s_pu (pu_nilCheck_if rfl) ?_
  first | refine s_pu (pu_fieldAddr0 rfl) ?_ | refine s_pu (pu_fieldAddr rfl) ?_
  refine s_rd (rd_load rfl rfl) ?_
  refine s_pu (pu_assign rfl) ?_
  refine swl_sub _ (.cons (t := 6) rfl .nil) ?_
  refine swl_nil ?_
  refine then_n ?_
  refine swp_cond (b := _) rfl (fun h6 => ?_) (fun h6 => ?_)
  · skip   -- 6 T
    refine swp_seq ?_
    refine swp_region ?_
    refine s_pu (pu_assign rfl) ?_
    refine swl_sub _ (.cons (t := 2) rfl .nil) ?_
    refine swl_nil ?_
    refine then_n ?_
    refine swp_ret ?_
    refine block_r ?_
    refine then_r ?_
    exact done_ret [stH p W] (.tmp rfl .nil) ⟨by rw [if_pos h6]; rfl, rfl⟩ (by repeat (first | exact Split.nil | (apply Split.cons; (repeat (first | with_reducible exact Take.here | apply Take.there)))))
  · skip   -- 6 F
    refine swp_skip ?_
    refine block_n ?_
    refine then_n ?_
    refine swp_seq ?_
    refine swp_region ?_
    refine s_pu (pu_assign rfl) ?_
    refine swl_sub _ (.cons (t := 2) rfl .nil) ?_
    refine swl_nil ?_
    refine then_n ?_
    refine swp_ret ?_
    exact done_ret [stH p W] (.tmp rfl .nil) ⟨by rw [if_neg (by rw [h6]; decide)]; rfl, rfl⟩ (by repeat (first | exact Split.nil | (apply Split.cons; (repeat (first | with_reducible exact Take.here | apply Take.there)))))
end SX
namespace SX
open Go Go.Proofs
/-- a store and its disk -/
structure PSt where
  d : Dk
  s : St2
  dead : Bool
def addR (x : PSt) (e0 : Int) (n : Nat) (f : Fm) (s' : St2) : PSt × Int × Int :=
  if x.dead = true then (x, 0, 8) else if e0 ≠ 0 then (x, 0, e0) else if 65536 ≤ n then (x, 0, 7) else
  if (writeD x.d f).2 ≠ 0 then (⟨(writeD x.d f).1, x.s, decide ((writeD x.d f).2 = 8)⟩, 0, (writeD x.d f).2) else (⟨(writeD x.d f).1, s', false⟩, (n : Nat), 0)
def addT (x : PSt) (t : List En) : PSt × Int × Int := addR x (encErr t) x.s.1.length (1, encT t) (x.s.1 ++ [t], x.s.2)
def addC (x : PSt) (c : Cm) : PSt × Int × Int := addR x (if checkC c ≠ 0 then checkC c else if knownS x.s.1.length x.s.2.length c = false then 9 else 0) x.s.2.length (2, encC' c) (x.s.1, x.s.2 ++ [c])
section
variable {x : PSt} {e0 : Int} {n : Nat} {f : Fm} {s' : St2}
theorem addR_dead (h : x.dead = true) : addR x e0 n f s' = (x, 0, 8) := by unfold addR; rw [if_pos h]
theorem addR_err (h : x.dead = false) (h2 : e0 ≠ 0) : addR x e0 n f s' = (x, 0, e0) := by unfold addR; rw [if_neg (by rw [h]; decide), if_pos h2]
theorem addR_full (h : x.dead = false) (h2 : e0 = 0) (h3 : 65536 ≤ n) : addR x e0 n f s' = (x, 0, 7) := by unfold addR; rw [if_neg (by rw [h]; decide), if_neg (not_not_intro h2), if_pos h3]
theorem addR_wr (h : x.dead = false) (h2 : e0 = 0) (h3 : n < 65536) (h4 : (writeD x.d f).2 ≠ 0) : addR x e0 n f s' = ((⟨(writeD x.d f).1, x.s, decide ((writeD x.d f).2 = 8)⟩ : PSt), (0 : Int), (writeD x.d f).2) := by unfold addR; rw [if_neg (by rw [h]; decide), if_neg (not_not_intro h2), if_neg (by omega), if_pos h4]
theorem addR_ok (h : x.dead = false) (h2 : e0 = 0) (h3 : n < 65536) (h4 : (writeD x.d f).2 = 0) : addR x e0 n f s' = ((⟨(writeD x.d f).1, s', false⟩ : PSt), ((n : Nat) : Int), (0 : Int)) := by unfold addR; rw [if_neg (by rw [h]; decide), if_neg (not_not_intro h2), if_neg (by omega), if_neg (not_not_intro h4)]
end
/-- what a call that adds leaves -/
def AddQ (μ : PH) (W : SW) (y : PSt × Int × Int) (r : Value) (W' : SW) (μ' : PH) : Prop := Le μ μ' ∧ W'.Ok μ' ∧ W'.q = W.q ∧ W'.pl = y.1.s ∧ W'.dead = y.1.dead ∧ r = .tuple #[.int .i64 y.2.1, .int .i64 y.2.2]
theorem encErr_ok {t : List En} (h : encErr t = 0) : t.length ≤ 1024 ∧ checkE t = 0 := by
  unfold encErr at h
  split at h
  · cases h
  · exact ⟨by omega, h⟩
theorem encT_len {t : List En} (h : encErr t = 0) : (encT t).length ≤ 1048567 := by
  obtain ⟨h1, h2⟩ := encErr_ok h
  have := encEs_len [] t fun e he => (check_paths h2 e he).1
  unfold encT
  rw [List.length_append, numB_len]
  omega
theorem encC_len {c : Cm} (h : checkC c = 0) : (encC' c).length ≤ 1048567 := by
  obtain ⟨h1, _⟩ := checkC_ok h
  unfold encC'
  simp only [List.length_append, numB_len, encPs_len]
  omega
theorem SW.Ok.dead {μ : PH} {W : SW} (h : W.Ok μ) (b : Bool) : SW.Ok μ { W with dead := b } := ⟨h.tf, h.cf, h.tr, h.cr, h.tl, h.cl⟩
set_option maxHeartbeats 4000000 in
theorem addtree_spec (μ : PH) (p : Nat) (W : SW) (hW : W.Ok μ) (d : Dk) (hd : d.Ok) (v : Value) (t : List En) (hv : Row μ v 2 t.length (ens t)) (hu : U32s t) : Spec Try.prog 11 [pv p, v] [FSA W.q d, stH p W, ttA W, ccA W, ro μ]
    (fun r L => ∃ W' μ', AddQ μ W (addT ⟨d, W.pl, W.dead⟩ t) r W' μ' ∧ L = [FSA W'.q (addT ⟨d, W.pl, W.dead⟩ t).1.d, stH p W', ttA W', ccA W', ro μ']) := by
  have hW0 := hW
  obtain ⟨⟨A1, c1, e1⟩, ⟨A2, c2, e2⟩, _, _, hT, hC⟩ := hW
  obtain ⟨q, tv, cv, T, C, dead⟩ := W
  dsimp only at e1 e2 hT hC
  subst e1 e2
  have hlen : (SW.pl ⟨q, .slice A1 T.length c1, .slice A2 C.length c2, T, C, dead⟩).1.length = T.length := List.length_map _
  generalize hy : addT ⟨d, SW.pl ⟨q, .slice A1 T.length c1, .slice A2 C.length c2, T, C, dead⟩, dead⟩ t = y
  refine Spec.of 54 Try.func11 rfl rfl rfl ?_
  refine swp_seq ?_
  refine swp_region ?_
  refine s_pu (pu_assign rfl) ?_
  refine s_pu (pu_assign rfl) ?_
  refine swl_sub _ (.cons (t := 0) rfl (.cons (t := 1) rfl .nil)) ?_
  refine swl_nil ?_
  refine then_n ?_
  refine swp_seq ?_
  refine swp_seq ?_
  refine swp_region ?_
  refine s_pu (pu_move rfl) ?_
  refine s_ef (ef_fn (live_spec p ⟨q, .slice A1 T.length c1, .slice A2 C.length c2, T, C, dead⟩) rfl rfl (by repeat (first | exact Split.nil | (apply Split.cons; (repeat (first | with_reducible exact Take.here | apply Take.there)))))) ?_
  rintro v10 L1 ⟨rfl, rfl⟩
  refine swl_app ?_
  refine s_pu (pu_assign rfl) ?_
  refine swl_sub _ (.cons (t := 0) rfl (.cons (t := 1) rfl (.cons (t := 6) rfl .nil))) ?_
  refine swl_nil ?_
  refine then_n ?_
  refine swp_seq ?_
  refine swp_region ?_
  refine s_pu (pu_move rfl) ?_
  refine s_pu (pu_neq rfl rfl) ?_
  refine swl_sub _ (.cons (t := 0) rfl (.cons (t := 1) rfl (.cons (t := 6) rfl (.cons (t := 12) rfl .nil)))) ?_
  refine swl_nil ?_
  refine then_n ?_
  refine swp_cond (b := _) rfl (fun h12 => ?_) (fun h12 => ?_)
  · skip   -- 12 T
    refine swp_seq ?_
    refine swp_region ?_
    refine s_pu (pu_move rfl) ?_
    refine s_pu (pu_assign rfl) ?_
    refine s_pu (pu_assign rfl) ?_
    refine swl_sub _ (.cons (t := 4) rfl (.cons (t := 5) rfl .nil)) ?_
    refine swl_nil ?_
    refine then_n ?_
    refine swp_ret ?_
    refine then_r ?_
    have hdd : dead = true := by
      cases dead with
      | true => rfl
      | false => simp at h12
    have ha : (⟨d, SW.pl ⟨q, .slice A1 T.length c1, .slice A2 C.length c2, T, C, dead⟩, dead⟩, 0, 8) = y := by rw [← hy]; exact (addR_dead (x := ⟨d, SW.pl ⟨q, .slice A1 T.length c1, .slice A2 C.length c2, T, C, dead⟩, dead⟩) hdd).symm
    subst ha
    exact done_ret [FSA q d, stH p ⟨q, .slice A1 T.length c1, .slice A2 C.length c2, T, C, dead⟩, ttA ⟨q, .slice A1 T.length c1, .slice A2 C.length c2, T, C, dead⟩, ccA ⟨q, .slice A1 T.length c1, .slice A2 C.length c2, T, C, dead⟩, ro μ] (.tmp rfl (.tmp rfl .nil)) ⟨⟨q, .slice A1 T.length c1, .slice A2 C.length c2, T, C, dead⟩, μ, ⟨Le.refl _, hW0, rfl, rfl, rfl, by rw [if_pos hdd]; rfl⟩, rfl⟩ (by repeat (first | exact Split.nil | (apply Split.cons; (repeat (first | with_reducible exact Take.here | apply Take.there)))))
  · skip   -- 12 F
    have hdd : dead = false := by
      cases dead with
      | true => simp at h12
      | false => rfl
    refine swp_skip ?_
    refine then_n ?_
    refine swp_seq ?_
    refine swp_region ?_
    refine s_pu (pu_move rfl) ?_
    refine s_ef (ef_fn (tenc_spec μ v t hv hu) rfl rfl (by repeat (first | exact Split.nil | (apply Split.cons; (repeat (first | with_reducible exact Take.here | apply Take.there)))))) ?_
    rintro v16 L1 ⟨rfl, rfl⟩
    refine swl_app ?_
    refine s_pu (pu_move rfl) ?_
    first | refine s_pu (pu_extractL rfl) ?_ | refine s_pu (pu_extract rfl rfl) ?_
    first | refine s_pu (pu_extractL rfl) ?_ | refine s_pu (pu_extract rfl rfl) ?_
    refine s_pu (pu_assign rfl) ?_
    refine s_pu (pu_assign rfl) ?_
    refine swl_sub _ (.cons (t := 0) rfl (.cons (t := 1) rfl (.cons (t := 7) rfl (.cons (t := 8) rfl .nil)))) ?_
    refine swl_nil ?_
    refine then_n ?_
    refine swp_seq ?_
    refine swp_seq ?_
    refine swp_region ?_
    refine s_pu (pu_move rfl) ?_
    refine s_pu (pu_eql rfl rfl) ?_
    refine s_pu (pu_move rfl) ?_
    refine s_split 21 rfl (fun h21 => ?_) (fun h21 => ?_)
    · skip   -- 21 T
      have h21' : encErr t = 0 := of_decide_eq_true h21
      obtain ⟨hl1, hl2⟩ := encErr_ok h21'
      have hev : encV t = encT t := by unfold encV; rw [if_pos h21']
      refine s_on rfl rfl ?_
      refine s_pu (pu_move rfl) ?_
      refine s_on rfl rfl ?_
      first | refine s_pu (pu_nilCheck rfl) ?_ | refine s_pu (pu_nilCheck_fn rfl) ?_ | refine s_pu (pu_nilCheck_if rfl) ?_
      refine s_on rfl rfl ?_
      first | refine s_pu (pu_fieldAddr0 rfl) ?_ | refine s_pu (pu_fieldAddr rfl) ?_
      refine s_on rfl rfl ?_
      refine s_rd (rd_load rfl rfl) ?_
      refine s_on rfl rfl ?_
      refine s_pu (pu_len rfl) ?_
      refine s_on rfl rfl ?_
      refine s_pu (pu_geq rfl rfl) ?_
      first | refine s_pu (pu_pick_t rfl rfl) ?_ | refine s_pu (pu_pick_f rfl rfl) ?_
      refine swl_sub _ (.cons (t := 0) rfl (.cons (t := 1) rfl (.cons (t := 7) rfl (.cons (t := 8) rfl (.cons (t := 28) rfl .nil))))) ?_
      refine swl_nil ?_
      refine then_n ?_
      refine swp_cond (b := _) rfl (fun h28 => ?_) (fun h28 => ?_)
      · skip   -- 28 T
        have h28' : 65536 ≤ T.length := by have := of_decide_eq_true h28; omega
        refine swp_region ?_
        refine s_pu (pu_assign rfl) ?_
        refine swl_sub _ (.cons (t := 0) rfl (.cons (t := 1) rfl (.cons (t := 7) rfl (.cons (t := 8) rfl .nil)))) ?_
        refine swl_nil ?_
        refine then_n ?_
        refine swp_seq ?_
        refine swp_seq ?_
        refine swp_region ?_
        refine s_pu (pu_move rfl) ?_
        refine s_pu (pu_eql rfl rfl) ?_
        refine swl_sub _ (.cons (t := 0) rfl (.cons (t := 1) rfl (.cons (t := 7) rfl (.cons (t := 8) rfl (.cons (t := 30) rfl .nil))))) ?_
        refine swl_nil ?_
        refine then_n ?_
        refine swp_cond (b := _) rfl (fun h30 => by cases h30) (fun h30 => ?_)
        refine swp_skip ?_
        refine then_n ?_
        refine swp_seq ?_
        refine swp_seq ?_
        refine swp_region ?_
        refine s_pu (pu_move rfl) ?_
        refine s_pu (pu_neq rfl rfl) ?_
        refine swl_sub _ (.cons (t := 0) rfl (.cons (t := 1) rfl (.cons (t := 8) rfl (.cons (t := 35) rfl .nil)))) ?_
        refine swl_nil ?_
        refine then_n ?_
        refine swp_cond (b := _) rfl (fun h35 => ?_) (fun h35 => by cases h35)
        refine swp_seq ?_
        refine swp_region ?_
        refine s_pu (pu_move rfl) ?_
        refine s_pu (pu_assign rfl) ?_
        refine s_pu (pu_assign rfl) ?_
        refine swl_sub _ (.cons (t := 4) rfl (.cons (t := 5) rfl .nil)) ?_
        refine swl_nil ?_
        refine then_n ?_
        refine swp_ret ?_
        refine then_r ?_
        have ha : (⟨d, SW.pl ⟨q, .slice A1 T.length c1, .slice A2 C.length c2, T, C, dead⟩, dead⟩, 0, 7) = y := by rw [← hy]; exact (addR_full (x := ⟨d, SW.pl ⟨q, .slice A1 T.length c1, .slice A2 C.length c2, T, C, dead⟩, dead⟩) hdd h21' (by first | (show (SW.pl ⟨q, .slice A1 T.length c1, .slice A2 C.length c2, T, C, dead⟩).1.length < 65536; rw [hlen]; exact h28') | (show 65536 ≤ (SW.pl ⟨q, .slice A1 T.length c1, .slice A2 C.length c2, T, C, dead⟩).1.length; rw [hlen]; exact h28'))).symm
        subst ha
        exact done_ret [FSA q d, stH p ⟨q, .slice A1 T.length c1, .slice A2 C.length c2, T, C, dead⟩, ttA ⟨q, .slice A1 T.length c1, .slice A2 C.length c2, T, C, dead⟩, ccA ⟨q, .slice A1 T.length c1, .slice A2 C.length c2, T, C, dead⟩, ro μ] (.tmp rfl (.tmp rfl .nil)) ⟨⟨q, .slice A1 T.length c1, .slice A2 C.length c2, T, C, dead⟩, μ, ⟨Le.refl _, hW0, rfl, rfl, rfl, rfl⟩, rfl⟩ (by repeat (first | exact Split.nil | (apply Split.cons; (repeat (first | with_reducible exact Take.here | apply Take.there)))))
      · skip   -- 28 F
        have h28' : T.length < 65536 := by have := of_decide_eq_false h28; omega
        refine swp_skip ?_
        refine then_n ?_
        refine swp_seq ?_
        refine swp_seq ?_
        refine swp_region ?_
        refine s_pu (pu_move rfl) ?_
        refine s_pu (pu_eql rfl rfl) ?_
        refine swl_sub _ (.cons (t := 0) rfl (.cons (t := 1) rfl (.cons (t := 7) rfl (.cons (t := 8) rfl (.cons (t := 30) rfl .nil))))) ?_
        refine swl_nil ?_
        refine then_n ?_
        refine swp_cond (b := _) rfl (fun h30 => ?_) (fun h30 => by rw [h21'] at h30; cases h30)
        refine swp_region ?_
        refine s_pu (pu_move rfl) ?_
        refine s_pu (pu_move rfl) ?_
        refine s_ef (ef_fn (write_spec p ⟨q, .slice A1 T.length c1, .slice A2 C.length c2, T, C, dead⟩ d hd (1, encV t) (by show 0 < 1; decide) (by show 1 < 256; decide) (by rw [hev]; exact encT_len h21')) rfl rfl (by repeat (first | exact Split.nil | (apply Split.cons; (repeat (first | with_reducible exact Take.here | apply Take.there)))))) ?_
        rintro v33 L1 ⟨rfl, rfl⟩
        rw [hev]
        refine swl_app ?_
        dsimp only
        refine s_pu (pu_assign rfl) ?_
        refine swl_sub _ (.cons (t := 0) rfl (.cons (t := 1) rfl (.cons (t := 8) rfl .nil))) ?_
        refine swl_nil ?_
        refine then_n ?_
        refine swp_seq ?_
        refine swp_seq ?_
        refine swp_region ?_
        refine s_pu (pu_move rfl) ?_
        refine s_pu (pu_neq rfl rfl) ?_
        refine swl_sub _ (.cons (t := 0) rfl (.cons (t := 1) rfl (.cons (t := 8) rfl (.cons (t := 35) rfl .nil)))) ?_
        refine swl_nil ?_
        refine then_n ?_
        refine swp_cond (b := _) rfl (fun h35 => ?_) (fun h35 => ?_)
        · skip   -- 35 T
          refine swp_seq ?_
          refine swp_region ?_
          refine s_pu (pu_move rfl) ?_
          refine s_pu (pu_assign rfl) ?_
          refine s_pu (pu_assign rfl) ?_
          refine swl_sub _ (.cons (t := 4) rfl (.cons (t := 5) rfl .nil)) ?_
          refine swl_nil ?_
          refine then_n ?_
          refine swp_ret ?_
          refine then_r ?_
          have h35' : (writeD d (1, encT t)).2 ≠ 0 := by simpa using h35
          have ha : (⟨(writeD d (1, encT t)).1, SW.pl ⟨q, .slice A1 T.length c1, .slice A2 C.length c2, T, C, dead⟩, decide ((writeD d (1, encT t)).2 = 8)⟩, 0, (writeD d (1, encT t)).2) = y := by rw [← hy]; exact (addR_wr (x := ⟨d, SW.pl ⟨q, .slice A1 T.length c1, .slice A2 C.length c2, T, C, dead⟩, dead⟩) hdd h21' (by first | (show (SW.pl ⟨q, .slice A1 T.length c1, .slice A2 C.length c2, T, C, dead⟩).1.length < 65536; rw [hlen]; exact h28') | (show 65536 ≤ (SW.pl ⟨q, .slice A1 T.length c1, .slice A2 C.length c2, T, C, dead⟩).1.length; rw [hlen]; exact h28')) h35').symm
          subst ha
          exact done_ret [FSA q (writeD d (1, encT t)).1, stH p ⟨q, .slice A1 T.length c1, .slice A2 C.length c2, T, C, decide ((writeD d (1, encT t)).2 = 8)⟩, ttA ⟨q, .slice A1 T.length c1, .slice A2 C.length c2, T, C, dead⟩, ccA ⟨q, .slice A1 T.length c1, .slice A2 C.length c2, T, C, dead⟩, ro μ] (.tmp rfl (.tmp rfl .nil)) ⟨⟨q, .slice A1 T.length c1, .slice A2 C.length c2, T, C, decide ((writeD d (1, encT t)).2 = 8)⟩, μ, ⟨Le.refl _, SW.Ok.dead hW0 _, rfl, rfl, rfl, rfl⟩, rfl⟩ (by repeat (first | exact Split.nil | (apply Split.cons; (repeat (first | with_reducible exact Take.here | apply Take.there)))))
        · skip   -- 35 F
          have h35' : (writeD d (1, encT t)).2 = 0 := by simpa using h35
          have ha : (⟨(writeD d (1, encT t)).1, ((SW.pl ⟨q, .slice A1 T.length c1, .slice A2 C.length c2, T, C, dead⟩).1 ++ [t], (SW.pl ⟨q, .slice A1 T.length c1, .slice A2 C.length c2, T, C, dead⟩).2), false⟩, ((SW.pl ⟨q, .slice A1 T.length c1, .slice A2 C.length c2, T, C, dead⟩).1.length : Int), 0) = y := by rw [← hy]; exact (addR_ok (x := ⟨d, SW.pl ⟨q, .slice A1 T.length c1, .slice A2 C.length c2, T, C, dead⟩, dead⟩) hdd h21' (by first | (show (SW.pl ⟨q, .slice A1 T.length c1, .slice A2 C.length c2, T, C, dead⟩).1.length < 65536; rw [hlen]; exact h28') | (show 65536 ≤ (SW.pl ⟨q, .slice A1 T.length c1, .slice A2 C.length c2, T, C, dead⟩).1.length; rw [hlen]; exact h28')) h35').symm
          have hd8 : decide ((writeD d (1, encT t)).2 = 8) = false := by rw [h35']; rfl
          rw [hd8]
          subst ha
          refine swp_skip ?_
          refine then_n ?_
          refine swp_seq ?_
          refine swp_draw [4] ([stH p ⟨q, .slice A1 T.length c1, .slice A2 C.length c2, T, C, false⟩]) ([FSA q (writeD d (1, encT t)).1, ro μ, ttA ⟨q, .slice A1 T.length c1, .slice A2 C.length c2, T, C, dead⟩, ccA ⟨q, .slice A1 T.length c1, .slice A2 C.length c2, T, C, dead⟩]) (Split.ent (by repeat (first | exact Split.nil | (apply Split.cons; (repeat (first | with_reducible exact Take.here | apply Take.there)))))) (by kernel_rfl) ?_
          refine d_pu 0 rfl (pu_move rfl) (by kernel_rfl) (by kernel_rfl) (by kernel_rfl) ?_
          refine d_pu 1 rfl (pu_move rfl) (by kernel_rfl) (by kernel_rfl) (by kernel_rfl) ?_
          first | refine d_pu 2 rfl (pu_nilCheck rfl) (by kernel_rfl) (by kernel_rfl) (by kernel_rfl) ?_ | refine d_pu 2 rfl (pu_nilCheck_fn rfl) (by kernel_rfl) (by kernel_rfl) (by kernel_rfl) ?_ | refine d_pu 2 rfl (pu_nilCheck_if rfl) (by kernel_rfl) (by kernel_rfl) (by kernel_rfl) ?_
          first | refine d_pu 3 rfl (pu_fieldAddr0 rfl) (by kernel_rfl) (by kernel_rfl) (by kernel_rfl) ?_ | refine d_pu 3 rfl (pu_fieldAddr rfl) (by kernel_rfl) (by kernel_rfl) (by kernel_rfl) ?_
          refine d_rd 4 rfl (rd_load rfl rfl) rfl (by kernel_rfl) (by kernel_rfl) (by kernel_rfl) ?_
          refine d_pu 5 rfl (pu_move rfl) (by kernel_rfl) (by kernel_rfl) (by kernel_rfl) ?_
          refine d_eft 6 rfl (by kernel_rfl) (ef_fn (cloneT_spec μ v t hv (by omega)) rfl rfl (by repeat (first | exact Split.nil | (apply Split.cons; (repeat (first | with_reducible exact Take.here | apply Take.there)))))) ?_
          rintro v43 L1 ⟨A3, c3, rfl, rfl⟩
          refine ⟨_, ent_appC (Split.ent (by repeat (first | exact Split.nil | (apply Split.cons; (repeat (first | with_reducible exact Take.here | apply Take.there)))))), ?_⟩
          refine d_eft 7 rfl (by kernel_rfl) (ef_bldS (qs := [(0, _)]) rfl rfl rfl) ?_
          intro b44
          refine ⟨_, Split.ent (by repeat (first | exact Split.nil | (apply Split.cons; (repeat (first | with_reducible exact Take.here | apply Take.there))))), ?_⟩
          first | refine d_fint 8 rfl (by kernel_rfl) (by kernel_rfl) (ef_append_lit (l := T.length) (m := 1) rfl rfl (by repeat (first | exact Split.nil | (apply Split.cons; (repeat (first | with_reducible exact Take.here | apply Take.there))))) (by simp only [maxLen]; omega) (by omega)) ?_ | refine d_finf 8 rfl (by kernel_rfl) (by kernel_rfl) (ef_append_lit (l := T.length) (m := 1) rfl rfl (by repeat (first | exact Split.nil | (apply Split.cons; (repeat (first | with_reducible exact Take.here | apply Take.there))))) (by simp only [maxLen]; omega) (by omega)) ?_
          rintro v45 -
          first | refine swd_factf (fun m h => own_form h) fun ⟨A45, c45, hv45⟩ => ?_ | refine swd_factt (fun m h => own_form h) fun ⟨A45, c45, hv45⟩ => ?_
          subst hv45
          first | refine d_pu 9 rfl (pu_nilCheck rfl) (by kernel_rfl) (by kernel_rfl) (by kernel_rfl) ?_ | refine d_pu 9 rfl (pu_nilCheck_fn rfl) (by kernel_rfl) (by kernel_rfl) (by kernel_rfl) ?_ | refine d_pu 9 rfl (pu_nilCheck_if rfl) (by kernel_rfl) (by kernel_rfl) (by kernel_rfl) ?_
          first | refine d_pu 10 rfl (pu_fieldAddr0 rfl) (by kernel_rfl) (by kernel_rfl) (by kernel_rfl) ?_ | refine d_pu 10 rfl (pu_fieldAddr rfl) (by kernel_rfl) (by kernel_rfl) (by kernel_rfl) ?_
          first | refine d_fin0t 11 rfl (by kernel_rfl) (by kernel_rfl) (ef_store rfl rfl rfl) ?_ | refine d_fin0f 11 rfl (by kernel_rfl) (by kernel_rfl) (ef_store rfl rfl rfl) ?_
          refine d_sub _ (.cons (t := 0) rfl .nil) ?_
          first | refine d_nilt (by kernel_rfl) ?_ | refine d_nilf (by kernel_rfl) ?_
          refine then_n ?_
          refine swp_seq ?_
          refine swp_share_own (μ := μ) (v := .slice A3 t.length c3) (e := 44) (n := 2) (by repeat (first | exact Split.nil | (apply Split.cons; (repeat (first | with_reducible exact Take.here | apply Take.there))))) fun μ' hle hrow => ?_
          refine swp_region ?_
          refine s_pu (pu_move rfl) ?_
          first | refine s_pu (pu_nilCheck rfl) ?_ | refine s_pu (pu_nilCheck_fn rfl) ?_ | refine s_pu (pu_nilCheck_if rfl) ?_
          first | refine s_pu (pu_fieldAddr0 rfl) ?_ | refine s_pu (pu_fieldAddr rfl) ?_
          refine s_rd (rd_load rfl rfl) ?_
          refine s_pu (pu_len rfl) ?_
          refine s_pu (pu_sub_as ((T.length : Nat) : Int) rfl rfl (by omega) (by omega) (by omega)) ?_
          refine s_pu (pu_assign rfl) ?_
          refine s_pu (pu_assign rfl) ?_
          refine swl_sub _ (.cons (t := 4) rfl (.cons (t := 5) rfl .nil)) ?_
          refine swl_nil ?_
          refine then_n ?_
          refine swp_ret ?_
          refine done_ret [FSA q (writeD d (1, encT t)).1, stH p ⟨q, .slice A45 (T.length + 1) c45, .slice A2 C.length c2, T ++ [(.slice A3 t.length c3, t)], C, false⟩, own 23 1 (.slice A45 (T.length + 1) c45) (T.length + 1) (T.flatMap tcs ++ [.slice A3 t.length c3]), ccA ⟨q, .slice A1 T.length c1, .slice A2 C.length c2, T, C, dead⟩, ro μ'] (.tmp rfl (.tmp rfl .nil)) ⟨⟨q, .slice A45 (T.length + 1) c45, .slice A2 C.length c2, T ++ [(.slice A3 t.length c3, t)], C, false⟩, μ', ⟨hle, SW.Ok.dead (Ok.addT hW0 hle hrow h28') false, rfl, ?_, rfl, ?_⟩, ?_⟩ (by repeat (first | exact Split.nil | (apply Split.cons; (repeat (first | with_reducible exact Take.here | apply Take.there)))))
          · unfold SW.pl; rw [List.map_append]; rfl
          · rw [hlen]; rfl
          · simp only [ttA, List.length_append, List.length_singleton, List.flatMap_append]; rfl
    · skip   -- 21 F
      have h21' : encErr t ≠ 0 := of_decide_eq_false h21
      refine s_off rfl rfl rfl ?_
      refine s_off rfl rfl rfl ?_
      refine s_off rfl rfl rfl ?_
      refine s_off rfl rfl rfl ?_
      refine s_off rfl rfl rfl ?_
      refine s_off rfl rfl rfl ?_
      first | refine s_pu (pu_pick_t rfl rfl) ?_ | refine s_pu (pu_pick_f rfl rfl) ?_
      refine swl_sub _ (.cons (t := 0) rfl (.cons (t := 1) rfl (.cons (t := 7) rfl (.cons (t := 8) rfl (.cons (t := 28) rfl .nil))))) ?_
      refine swl_nil ?_
      refine then_n ?_
      refine swp_cond (b := _) rfl (fun h28 => by cases h28) (fun h28 => ?_)
      refine swp_skip ?_
      refine then_n ?_
      refine swp_seq ?_
      refine swp_seq ?_
      refine swp_region ?_
      refine s_pu (pu_move rfl) ?_
      refine s_pu (pu_eql rfl rfl) ?_
      refine swl_sub _ (.cons (t := 0) rfl (.cons (t := 1) rfl (.cons (t := 7) rfl (.cons (t := 8) rfl (.cons (t := 30) rfl .nil))))) ?_
      refine swl_nil ?_
      refine then_n ?_
      refine swp_cond (b := _) rfl (fun h30 => by exact absurd (of_decide_eq_true h30) h21') (fun h30 => ?_)
      refine swp_skip ?_
      refine then_n ?_
      refine swp_seq ?_
      refine swp_seq ?_
      refine swp_region ?_
      refine s_pu (pu_move rfl) ?_
      refine s_pu (pu_neq rfl rfl) ?_
      refine swl_sub _ (.cons (t := 0) rfl (.cons (t := 1) rfl (.cons (t := 8) rfl (.cons (t := 35) rfl .nil)))) ?_
      refine swl_nil ?_
      refine then_n ?_
      refine swp_cond (b := _) rfl (fun h35 => ?_) (fun h35 => by rw [decide_eq_false h21'] at h35; cases h35)
      refine swp_seq ?_
      refine swp_region ?_
      refine s_pu (pu_move rfl) ?_
      refine s_pu (pu_assign rfl) ?_
      refine s_pu (pu_assign rfl) ?_
      refine swl_sub _ (.cons (t := 4) rfl (.cons (t := 5) rfl .nil)) ?_
      refine swl_nil ?_
      refine then_n ?_
      refine swp_ret ?_
      refine then_r ?_
      have ha : (⟨d, SW.pl ⟨q, .slice A1 T.length c1, .slice A2 C.length c2, T, C, dead⟩, dead⟩, 0, encErr t) = y := by rw [← hy]; exact (addR_err (x := ⟨d, SW.pl ⟨q, .slice A1 T.length c1, .slice A2 C.length c2, T, C, dead⟩, dead⟩) hdd h21').symm
      subst ha
      exact done_ret [FSA q d, stH p ⟨q, .slice A1 T.length c1, .slice A2 C.length c2, T, C, dead⟩, ttA ⟨q, .slice A1 T.length c1, .slice A2 C.length c2, T, C, dead⟩, ccA ⟨q, .slice A1 T.length c1, .slice A2 C.length c2, T, C, dead⟩, ro μ] (.tmp rfl (.tmp rfl .nil)) ⟨⟨q, .slice A1 T.length c1, .slice A2 C.length c2, T, C, dead⟩, μ, ⟨Le.refl _, hW0, rfl, rfl, rfl, rfl⟩, rfl⟩ (by repeat (first | exact Split.nil | (apply Split.cons; (repeat (first | with_reducible exact Take.here | apply Take.there)))))
end SX
namespace SX
open Go Go.Proofs
theorem comV_ok {c : Cm} (h : checkC c = 0) : comV c = encC' c := by unfold comV; rw [if_pos h]
set_option maxHeartbeats 4000000 in
theorem addcommit_spec (μ : PH) (p : Nat) (W : SW) (hW : W.Ok μ) (d : Dk) (hd : d.Ok) (v : Value) (c : Cm) (hv : Row μ v 1 c.1.length (c.1.flatMap (icsk .i64))) : Spec Try.prog 16 [pv p, cmV v c.2] [FSA W.q d, stH p W, ttA W, ccA W, ro μ]
    (fun r L => ∃ W' μ', AddQ μ W (addC ⟨d, W.pl, W.dead⟩ c) r W' μ' ∧ L = [FSA W'.q (addC ⟨d, W.pl, W.dead⟩ c).1.d, stH p W', ttA W', ccA W', ro μ']) := by
  have hW0 := hW
  obtain ⟨⟨A1, c1, e1⟩, ⟨A2, c2, e2⟩, _, _, hT, hC⟩ := hW
  obtain ⟨A5, c5, rfl⟩ := hv.sl
  obtain ⟨q, tv, cv, T, C, dead⟩ := W
  dsimp only at e1 e2 hT hC
  subst e1 e2
  have hlen : (SW.pl ⟨q, .slice A1 T.length c1, .slice A2 C.length c2, T, C, dead⟩).1.length = T.length := List.length_map _
  have hlen2 : (SW.pl ⟨q, .slice A1 T.length c1, .slice A2 C.length c2, T, C, dead⟩).2.length = C.length := List.length_map _
  generalize hy : addC ⟨d, SW.pl ⟨q, .slice A1 T.length c1, .slice A2 C.length c2, T, C, dead⟩, dead⟩ c = y
  unfold addC at hy
  dsimp only at hy
  rw [hlen, hlen2] at hy
  refine Spec.of 61 Try.func16 rfl rfl rfl ?_
  refine swp_seq ?_
  refine swp_region ?_
  refine s_ef (ef_box rfl rfl) ?_
  intro b3
  refine s_pu (pu_assign rfl) ?_
  refine s_pu (pu_assign rfl) ?_
  refine swl_sub _ (.cons (t := 0) rfl (.cons (t := 3) rfl .nil)) ?_
  refine swl_nil ?_
  refine then_n ?_
  refine swp_seq ?_
  refine swp_seq ?_
  refine swp_region ?_
  refine s_pu (pu_move rfl) ?_
  refine s_ef (ef_fn (live_spec p ⟨q, .slice A1 T.length c1, .slice A2 C.length c2, T, C, dead⟩) rfl rfl (by repeat (first | exact Split.nil | (apply Split.cons; (repeat (first | with_reducible exact Take.here | apply Take.there)))))) ?_
  rintro v10 L1 ⟨rfl, rfl⟩
  refine swl_app ?_
  refine s_pu (pu_assign rfl) ?_
  refine swl_sub _ (.cons (t := 0) rfl (.cons (t := 3) rfl (.cons (t := 6) rfl .nil))) ?_
  refine swl_nil ?_
  refine then_n ?_
  refine swp_seq ?_
  refine swp_region ?_
  refine s_pu (pu_move rfl) ?_
  refine s_pu (pu_neq rfl rfl) ?_
  refine swl_sub _ (.cons (t := 0) rfl (.cons (t := 3) rfl (.cons (t := 6) rfl (.cons (t := 12) rfl .nil)))) ?_
  refine swl_nil ?_
  refine then_n ?_
  refine swp_cond (b := _) rfl (fun h12 => ?_) (fun h12 => ?_)
  · skip   -- 12 T
    refine swp_seq ?_
    refine swp_region ?_
    refine s_pu (pu_move rfl) ?_
    refine s_pu (pu_assign rfl) ?_
    refine s_pu (pu_assign rfl) ?_
    refine swl_sub _ (.cons (t := 4) rfl (.cons (t := 5) rfl .nil)) ?_
    refine swl_nil ?_
    refine then_n ?_
    refine swp_ret ?_
    refine then_r ?_
    have hdd : dead = true := by
      cases dead with
      | true => rfl
      | false => simp at h12
    have ha : (⟨d, SW.pl ⟨q, .slice A1 T.length c1, .slice A2 C.length c2, T, C, dead⟩, dead⟩, 0, 8) = y := by rw [← hy]; exact (addR_dead (x := ⟨d, SW.pl ⟨q, .slice A1 T.length c1, .slice A2 C.length c2, T, C, dead⟩, dead⟩) hdd).symm
    subst ha
    exact done_ret [FSA q d, stH p ⟨q, .slice A1 T.length c1, .slice A2 C.length c2, T, C, dead⟩, ttA ⟨q, .slice A1 T.length c1, .slice A2 C.length c2, T, C, dead⟩, ccA ⟨q, .slice A1 T.length c1, .slice A2 C.length c2, T, C, dead⟩, ro μ] (.tmp rfl (.tmp rfl .nil)) ⟨⟨q, .slice A1 T.length c1, .slice A2 C.length c2, T, C, dead⟩, μ, ⟨Le.refl _, hW0, rfl, rfl, rfl, by rw [if_pos hdd]; rfl⟩, rfl⟩ (by repeat (first | exact Split.nil | (apply Split.cons; (repeat (first | with_reducible exact Take.here | apply Take.there)))))
  · skip   -- 12 F
    have hdd : dead = false := by
      cases dead with
      | true => simp at h12
      | false => rfl
    refine swp_skip ?_
    refine then_n ?_
    refine swp_seq ?_
    refine swp_region ?_
    first | refine s_rd (rd_loadW rfl rfl) ?_ | refine s_rd (rd_loadX rfl rfl rfl) ?_
    refine s_ef (ef_fn (cenc_spec μ (.slice A5 c.1.length c5) c hv) rfl rfl (by repeat (first | exact Split.nil | (apply Split.cons; (repeat (first | with_reducible exact Take.here | apply Take.there)))))) ?_
    rintro v16 L1 ⟨rfl, rfl⟩
    refine swl_app ?_
    refine s_pu (pu_move rfl) ?_
    first | refine s_pu (pu_extractL rfl) ?_ | refine s_pu (pu_extract rfl rfl) ?_
    first | refine s_pu (pu_extractL rfl) ?_ | refine s_pu (pu_extract rfl rfl) ?_
    refine s_pu (pu_assign rfl) ?_
    refine s_pu (pu_assign rfl) ?_
    refine swl_sub _ (.cons (t := 0) rfl (.cons (t := 3) rfl (.cons (t := 7) rfl (.cons (t := 8) rfl .nil)))) ?_
    refine swl_nil ?_
    refine then_n ?_
    refine swp_seq ?_
    refine swp_block ?_
    refine swp_seq ?_
    refine swp_region ?_
    refine s_pu (pu_move rfl) ?_
    refine s_pu (pu_neq rfl rfl) ?_
    refine s_pu (pu_assign rfl) ?_
    refine swl_sub _ (.cons (t := 0) rfl (.cons (t := 3) rfl (.cons (t := 7) rfl (.cons (t := 8) rfl (.cons (t := 22) rfl .nil))))) ?_
    refine swl_nil ?_
    refine then_n ?_
    refine swp_cond (b := _) rfl (fun h22 => ?_) (fun h22 => ?_)
    · skip   -- 22 T
      have h22' : checkC c ≠ 0 := by simpa using h22
      rw [if_pos h22'] at hy
      refine swp_skip ?_
      refine block_n ?_
      refine then_n ?_
      refine swp_seq ?_
      refine swp_seq ?_
      refine swp_region ?_
      refine s_pu (pu_move rfl) ?_
      refine s_pu (pu_neq rfl rfl) ?_
      refine swl_sub _ (.cons (t := 0) rfl (.cons (t := 3) rfl (.cons (t := 8) rfl (.cons (t := 38) rfl .nil)))) ?_
      refine swl_nil ?_
      refine then_n ?_
      refine swp_cond (b := _) rfl (fun h38 => ?_) (fun h38 => by rw [decide_eq_false h22'] at h38; cases h38)
      refine swp_seq ?_
      refine swp_region ?_
      refine s_pu (pu_move rfl) ?_
      refine s_pu (pu_assign rfl) ?_
      refine s_pu (pu_assign rfl) ?_
      refine swl_sub _ (.cons (t := 4) rfl (.cons (t := 5) rfl .nil)) ?_
      refine swl_nil ?_
      refine then_n ?_
      refine swp_ret ?_
      refine then_r ?_
      have ha : (⟨d, SW.pl ⟨q, .slice A1 T.length c1, .slice A2 C.length c2, T, C, dead⟩, dead⟩, 0, checkC c) = y := by rw [← hy]; exact (addR_err (x := ⟨d, SW.pl ⟨q, .slice A1 T.length c1, .slice A2 C.length c2, T, C, dead⟩, dead⟩) hdd h22').symm
      subst ha
      exact done_ret [FSA q d, stH p ⟨q, .slice A1 T.length c1, .slice A2 C.length c2, T, C, dead⟩, ttA ⟨q, .slice A1 T.length c1, .slice A2 C.length c2, T, C, dead⟩, ccA ⟨q, .slice A1 T.length c1, .slice A2 C.length c2, T, C, dead⟩, ro μ] (.tmp rfl (.tmp rfl .nil)) ⟨⟨q, .slice A1 T.length c1, .slice A2 C.length c2, T, C, dead⟩, μ, ⟨Le.refl _, hW0, rfl, rfl, rfl, rfl⟩, rfl⟩ (by repeat (first | exact Split.nil | (apply Split.cons; (repeat (first | with_reducible exact Take.here | apply Take.there)))))
    · skip   -- 22 F
      have h22' : checkC c = 0 := by simpa using h22
      rw [if_neg (not_not_intro h22')] at hy
      refine swp_seq ?_
      refine swp_region ?_
      refine s_pu (pu_move rfl) ?_
      first | refine s_rd (rd_loadW rfl rfl) ?_ | refine s_rd (rd_loadX rfl rfl rfl) ?_
      refine s_ef (ef_fn (known_spec μ p ⟨q, .slice A1 T.length c1, .slice A2 C.length c2, T, C, dead⟩ hW0 (.slice A5 c.1.length c5) c hv) rfl rfl (by repeat (first | exact Split.nil | (apply Split.cons; (repeat (first | with_reducible exact Take.here | apply Take.there)))))) ?_
      rintro v28 L1 ⟨rfl, rfl⟩
      refine swl_app ?_
      refine s_pu (pu_not rfl) ?_
      refine s_pu (pu_assign rfl) ?_
      refine swl_sub _ (.cons (t := 0) rfl (.cons (t := 3) rfl (.cons (t := 7) rfl (.cons (t := 25) rfl .nil)))) ?_
      refine swl_nil ?_
      refine then_n ?_
      refine swp_cond (b := _) rfl (fun h25 => ?_) (fun h25 => ?_)
      · skip   -- 25 T
        have h25' : knownS T.length C.length c = false := by simpa using h25
        rw [if_pos h25'] at hy
        refine swp_region ?_
        refine s_pu (pu_assign rfl) ?_
        refine swl_sub _ (.cons (t := 0) rfl (.cons (t := 3) rfl (.cons (t := 8) rfl .nil))) ?_
        refine swl_nil ?_
        refine block_n ?_
        refine then_n ?_
        refine swp_seq ?_
        refine swp_seq ?_
        refine swp_region ?_
        refine s_pu (pu_move rfl) ?_
        refine s_pu (pu_neq rfl rfl) ?_
        refine swl_sub _ (.cons (t := 0) rfl (.cons (t := 3) rfl (.cons (t := 8) rfl (.cons (t := 38) rfl .nil)))) ?_
        refine swl_nil ?_
        refine then_n ?_
        refine swp_cond (b := _) rfl (fun h38 => ?_) (fun h38 => by cases h38)
        refine swp_seq ?_
        refine swp_region ?_
        refine s_pu (pu_move rfl) ?_
        refine s_pu (pu_assign rfl) ?_
        refine s_pu (pu_assign rfl) ?_
        refine swl_sub _ (.cons (t := 4) rfl (.cons (t := 5) rfl .nil)) ?_
        refine swl_nil ?_
        refine then_n ?_
        refine swp_ret ?_
        refine then_r ?_
        have ha : (⟨d, SW.pl ⟨q, .slice A1 T.length c1, .slice A2 C.length c2, T, C, dead⟩, dead⟩, 0, 9) = y := by rw [← hy]; exact (addR_err (x := ⟨d, SW.pl ⟨q, .slice A1 T.length c1, .slice A2 C.length c2, T, C, dead⟩, dead⟩) hdd (by decide)).symm
        subst ha
        exact done_ret [FSA q d, stH p ⟨q, .slice A1 T.length c1, .slice A2 C.length c2, T, C, dead⟩, ttA ⟨q, .slice A1 T.length c1, .slice A2 C.length c2, T, C, dead⟩, ccA ⟨q, .slice A1 T.length c1, .slice A2 C.length c2, T, C, dead⟩, ro μ] (.tmp rfl (.tmp rfl .nil)) ⟨⟨q, .slice A1 T.length c1, .slice A2 C.length c2, T, C, dead⟩, μ, ⟨Le.refl _, hW0, rfl, rfl, rfl, rfl⟩, rfl⟩ (by repeat (first | exact Split.nil | (apply Split.cons; (repeat (first | with_reducible exact Take.here | apply Take.there)))))
      · skip   -- 25 F
        have h25' : knownS T.length C.length c = true := by simpa using h25
        rw [if_neg (by rw [h25']; decide)] at hy
        refine swp_seq ?_
        refine swp_region ?_
        refine s_pu (pu_move rfl) ?_
        first | refine s_pu (pu_nilCheck rfl) ?_ | refine s_pu (pu_nilCheck_fn rfl) ?_ | refine s_pu (pu_nilCheck_if rfl) ?_
        first | refine s_pu (pu_fieldAddr0 rfl) ?_ | refine s_pu (pu_fieldAddr rfl) ?_
        refine s_rd (rd_load rfl rfl) ?_
        refine s_pu (pu_len rfl) ?_
        refine s_pu (pu_geq rfl rfl) ?_
        refine s_pu (pu_assign rfl) ?_
        refine swl_sub _ (.cons (t := 0) rfl (.cons (t := 3) rfl (.cons (t := 7) rfl (.cons (t := 30) rfl .nil)))) ?_
        refine swl_nil ?_
        refine then_n ?_
        refine swp_cond (b := _) rfl (fun h30 => ?_) (fun h30 => ?_)
        · skip   -- 30 T
          have h30' : 65536 ≤ C.length := by have := of_decide_eq_true h30; omega
          refine swp_region ?_
          refine s_pu (pu_assign rfl) ?_
          refine swl_sub _ (.cons (t := 0) rfl (.cons (t := 3) rfl (.cons (t := 8) rfl .nil))) ?_
          refine swl_nil ?_
          refine block_n ?_
          refine then_n ?_
          refine swp_seq ?_
          refine swp_seq ?_
          refine swp_region ?_
          refine s_pu (pu_move rfl) ?_
          refine s_pu (pu_neq rfl rfl) ?_
          refine swl_sub _ (.cons (t := 0) rfl (.cons (t := 3) rfl (.cons (t := 8) rfl (.cons (t := 38) rfl .nil)))) ?_
          refine swl_nil ?_
          refine then_n ?_
          refine swp_cond (b := _) rfl (fun h38 => ?_) (fun h38 => by cases h38)
          refine swp_seq ?_
          refine swp_region ?_
          refine s_pu (pu_move rfl) ?_
          refine s_pu (pu_assign rfl) ?_
          refine s_pu (pu_assign rfl) ?_
          refine swl_sub _ (.cons (t := 4) rfl (.cons (t := 5) rfl .nil)) ?_
          refine swl_nil ?_
          refine then_n ?_
          refine swp_ret ?_
          refine then_r ?_
          have ha : (⟨d, SW.pl ⟨q, .slice A1 T.length c1, .slice A2 C.length c2, T, C, dead⟩, dead⟩, 0, 7) = y := by rw [← hy]; exact (addR_full (x := ⟨d, SW.pl ⟨q, .slice A1 T.length c1, .slice A2 C.length c2, T, C, dead⟩, dead⟩) hdd rfl h30').symm
          subst ha
          exact done_ret [FSA q d, stH p ⟨q, .slice A1 T.length c1, .slice A2 C.length c2, T, C, dead⟩, ttA ⟨q, .slice A1 T.length c1, .slice A2 C.length c2, T, C, dead⟩, ccA ⟨q, .slice A1 T.length c1, .slice A2 C.length c2, T, C, dead⟩, ro μ] (.tmp rfl (.tmp rfl .nil)) ⟨⟨q, .slice A1 T.length c1, .slice A2 C.length c2, T, C, dead⟩, μ, ⟨Le.refl _, hW0, rfl, rfl, rfl, rfl⟩, rfl⟩ (by repeat (first | exact Split.nil | (apply Split.cons; (repeat (first | with_reducible exact Take.here | apply Take.there)))))
        · skip   -- 30 F
          have h30' : C.length < 65536 := by have := of_decide_eq_false h30; omega
          have hbl := (checkC_ok h22').1
          refine swp_region ?_
          refine s_pu (pu_move rfl) ?_
          refine s_pu (pu_move rfl) ?_
          refine s_ef (ef_fn (write_spec p ⟨q, .slice A1 T.length c1, .slice A2 C.length c2, T, C, dead⟩ d hd (2, comV c) (by show 0 < 2; decide) (by show 2 < 256; decide) (by rw [comV_ok h22']; exact encC_len h22')) rfl rfl (by repeat (first | exact Split.nil | (apply Split.cons; (repeat (first | with_reducible exact Take.here | apply Take.there)))))) ?_
          rintro v21 L1 ⟨rfl, rfl⟩
          rw [comV_ok h22']
          refine swl_app ?_
          dsimp only
          refine s_pu (pu_assign rfl) ?_
          refine swl_sub _ (.cons (t := 0) rfl (.cons (t := 3) rfl (.cons (t := 8) rfl .nil))) ?_
          refine swl_nil ?_
          refine block_n ?_
          refine then_n ?_
          refine swp_seq ?_
          refine swp_seq ?_
          refine swp_region ?_
          refine s_pu (pu_move rfl) ?_
          refine s_pu (pu_neq rfl rfl) ?_
          refine swl_sub _ (.cons (t := 0) rfl (.cons (t := 3) rfl (.cons (t := 8) rfl (.cons (t := 38) rfl .nil)))) ?_
          refine swl_nil ?_
          refine then_n ?_
          refine swp_cond (b := _) rfl (fun h38 => ?_) (fun h38 => ?_)
          · skip   -- 38 T
            refine swp_seq ?_
            refine swp_region ?_
            refine s_pu (pu_move rfl) ?_
            refine s_pu (pu_assign rfl) ?_
            refine s_pu (pu_assign rfl) ?_
            refine swl_sub _ (.cons (t := 4) rfl (.cons (t := 5) rfl .nil)) ?_
            refine swl_nil ?_
            refine then_n ?_
            refine swp_ret ?_
            refine then_r ?_
            have h38' : (writeD d (2, encC' c)).2 ≠ 0 := by simpa using h38
            have ha : (⟨(writeD d (2, encC' c)).1, SW.pl ⟨q, .slice A1 T.length c1, .slice A2 C.length c2, T, C, dead⟩, decide ((writeD d (2, encC' c)).2 = 8)⟩, 0, (writeD d (2, encC' c)).2) = y := by rw [← hy]; exact (addR_wr (x := ⟨d, SW.pl ⟨q, .slice A1 T.length c1, .slice A2 C.length c2, T, C, dead⟩, dead⟩) hdd rfl h30' h38').symm
            subst ha
            exact done_ret [FSA q (writeD d (2, encC' c)).1, stH p ⟨q, .slice A1 T.length c1, .slice A2 C.length c2, T, C, decide ((writeD d (2, encC' c)).2 = 8)⟩, ttA ⟨q, .slice A1 T.length c1, .slice A2 C.length c2, T, C, dead⟩, ccA ⟨q, .slice A1 T.length c1, .slice A2 C.length c2, T, C, dead⟩, ro μ] (.tmp rfl (.tmp rfl .nil)) ⟨⟨q, .slice A1 T.length c1, .slice A2 C.length c2, T, C, decide ((writeD d (2, encC' c)).2 = 8)⟩, μ, ⟨Le.refl _, SW.Ok.dead hW0 _, rfl, rfl, rfl, rfl⟩, rfl⟩ (by repeat (first | exact Split.nil | (apply Split.cons; (repeat (first | with_reducible exact Take.here | apply Take.there)))))
          · skip   -- 38 F
            have h38' : (writeD d (2, encC' c)).2 = 0 := by simpa using h38
            have ha : (⟨(writeD d (2, encC' c)).1, ((SW.pl ⟨q, .slice A1 T.length c1, .slice A2 C.length c2, T, C, dead⟩).1, (SW.pl ⟨q, .slice A1 T.length c1, .slice A2 C.length c2, T, C, dead⟩).2 ++ [c]), false⟩, ((C.length : Nat) : Int), 0) = y := by rw [← hy]; exact (addR_ok (x := ⟨d, SW.pl ⟨q, .slice A1 T.length c1, .slice A2 C.length c2, T, C, dead⟩, dead⟩) hdd rfl h30' h38').symm
            have hd8 : decide ((writeD d (2, encC' c)).2 = 8) = false := by rw [h38']; rfl
            rw [hd8]
            subst ha
            refine swp_skip ?_
            refine then_n ?_
            refine swp_seq ?_
            refine swp_draw [4, 6, 9] ([stH p ⟨q, .slice A1 T.length c1, .slice A2 C.length c2, T, C, false⟩, blk b3 48 [.slice A5 c.1.length c5, .int .i64 c.2]]) ([FSA q (writeD d (2, encC' c)).1, ro μ, ttA ⟨q, .slice A1 T.length c1, .slice A2 C.length c2, T, C, dead⟩, ccA ⟨q, .slice A1 T.length c1, .slice A2 C.length c2, T, C, dead⟩]) (Split.ent (by repeat (first | exact Split.nil | (apply Split.cons; (repeat (first | with_reducible exact Take.here | apply Take.there)))))) (by kernel_rfl) ?_
            refine d_pu 0 rfl (pu_move rfl) (by kernel_rfl) (by kernel_rfl) (by kernel_rfl) ?_
            refine d_pu 1 rfl (pu_move rfl) (by kernel_rfl) (by kernel_rfl) (by kernel_rfl) ?_
            first | refine d_pu 2 rfl (pu_nilCheck rfl) (by kernel_rfl) (by kernel_rfl) (by kernel_rfl) ?_ | refine d_pu 2 rfl (pu_nilCheck_fn rfl) (by kernel_rfl) (by kernel_rfl) (by kernel_rfl) ?_ | refine d_pu 2 rfl (pu_nilCheck_if rfl) (by kernel_rfl) (by kernel_rfl) (by kernel_rfl) ?_
            first | refine d_pu 3 rfl (pu_fieldAddr0 rfl) (by kernel_rfl) (by kernel_rfl) (by kernel_rfl) ?_ | refine d_pu 3 rfl (pu_fieldAddr rfl) (by kernel_rfl) (by kernel_rfl) (by kernel_rfl) ?_
            refine d_rd 4 rfl (rd_load rfl rfl) rfl (by kernel_rfl) (by kernel_rfl) (by kernel_rfl) ?_
            first | refine d_pu 5 rfl (pu_fieldAddr0 rfl) (by kernel_rfl) (by kernel_rfl) (by kernel_rfl) ?_ | refine d_pu 5 rfl (pu_fieldAddr rfl) (by kernel_rfl) (by kernel_rfl) (by kernel_rfl) ?_
            refine d_rd 6 rfl (rd_load rfl rfl) rfl (by kernel_rfl) (by kernel_rfl) (by kernel_rfl) ?_
            first | refine d_pu 8 rfl (pu_fieldAddr0 rfl) (by kernel_rfl) (by kernel_rfl) (by kernel_rfl) ?_ | refine d_pu 8 rfl (pu_fieldAddr rfl) (by kernel_rfl) (by kernel_rfl) (by kernel_rfl) ?_
            refine d_rd 9 rfl (rd_load rfl rfl) rfl (by kernel_rfl) (by kernel_rfl) (by kernel_rfl) ?_
            refine d_eft 7 rfl (by kernel_rfl) (ef_fn (cloneI_spec μ (.slice A5 c.1.length c5) c.1 hv (by omega)) rfl rfl (by repeat (first | exact Split.nil | (apply Split.cons; (repeat (first | with_reducible exact Take.here | apply Take.there)))))) ?_
            rintro v47 L1 ⟨A3, c3, rfl, rfl⟩
            refine ⟨_, ent_appC (Split.ent (by repeat (first | exact Split.nil | (apply Split.cons; (repeat (first | with_reducible exact Take.here | apply Take.there)))))), ?_⟩
            refine d_pu 10 rfl (pu_bld (qs := [(0, _), (1, _)]) rfl) (by kernel_rfl) (by kernel_rfl) (by kernel_rfl) ?_
            refine d_eft 11 rfl (by kernel_rfl) (ef_bldS (qs := [(0, _)]) rfl rfl rfl) ?_
            intro b51
            refine ⟨_, Split.ent (by repeat (first | exact Split.nil | (apply Split.cons; (repeat (first | with_reducible exact Take.here | apply Take.there))))), ?_⟩
            first | refine d_fint 12 rfl (by kernel_rfl) (by kernel_rfl) (ef_append_lit (l := C.length) (m := 1) rfl rfl (by repeat (first | exact Split.nil | (apply Split.cons; (repeat (first | with_reducible exact Take.here | apply Take.there))))) (by simp only [maxLen]; omega) (by omega)) ?_ | refine d_finf 12 rfl (by kernel_rfl) (by kernel_rfl) (ef_append_lit (l := C.length) (m := 1) rfl rfl (by repeat (first | exact Split.nil | (apply Split.cons; (repeat (first | with_reducible exact Take.here | apply Take.there))))) (by simp only [maxLen]; omega) (by omega)) ?_
            rintro v52 -
            first | refine swd_factf (fun m h => own_form h) fun ⟨A45, c45, hv45⟩ => ?_ | refine swd_factt (fun m h => own_form h) fun ⟨A45, c45, hv45⟩ => ?_
            subst hv45
            first | refine d_pu 13 rfl (pu_nilCheck rfl) (by kernel_rfl) (by kernel_rfl) (by kernel_rfl) ?_ | refine d_pu 13 rfl (pu_nilCheck_fn rfl) (by kernel_rfl) (by kernel_rfl) (by kernel_rfl) ?_ | refine d_pu 13 rfl (pu_nilCheck_if rfl) (by kernel_rfl) (by kernel_rfl) (by kernel_rfl) ?_
            first | refine d_pu 14 rfl (pu_fieldAddr0 rfl) (by kernel_rfl) (by kernel_rfl) (by kernel_rfl) ?_ | refine d_pu 14 rfl (pu_fieldAddr rfl) (by kernel_rfl) (by kernel_rfl) (by kernel_rfl) ?_
            first | refine d_fin0t 15 rfl (by kernel_rfl) (by kernel_rfl) (ef_store rfl rfl rfl) ?_ | refine d_fin0f 15 rfl (by kernel_rfl) (by kernel_rfl) (ef_store rfl rfl rfl) ?_
            refine d_sub _ (.cons (t := 0) rfl .nil) ?_
            first | refine d_nilt (by kernel_rfl) ?_ | refine d_nilf (by kernel_rfl) ?_
            refine then_n ?_
            refine swp_seq ?_
            refine swp_share_own (μ := μ) (v := .slice A3 c.1.length c3) (e := 3) (n := 1) (by repeat (first | exact Split.nil | (apply Split.cons; (repeat (first | with_reducible exact Take.here | apply Take.there))))) fun μ' hle hrow => ?_
            refine swp_region ?_
            refine s_pu (pu_move rfl) ?_
            first | refine s_pu (pu_nilCheck rfl) ?_ | refine s_pu (pu_nilCheck_fn rfl) ?_ | refine s_pu (pu_nilCheck_if rfl) ?_
            first | refine s_pu (pu_fieldAddr0 rfl) ?_ | refine s_pu (pu_fieldAddr rfl) ?_
            refine s_rd (rd_load rfl rfl) ?_
            refine s_pu (pu_len rfl) ?_
            refine s_pu (pu_sub_as ((C.length : Nat) : Int) rfl rfl (by omega) (by omega) (by omega)) ?_
            refine s_pu (pu_assign rfl) ?_
            refine s_pu (pu_assign rfl) ?_
            refine swl_sub _ (.cons (t := 4) rfl (.cons (t := 5) rfl .nil)) ?_
            refine swl_nil ?_
            refine then_n ?_
            refine swp_ret ?_
            refine done_ret [FSA q (writeD d (2, encC' c)).1, stH p ⟨q, .slice A1 T.length c1, .slice A45 (C.length + 1) c45, T, C ++ [(.slice A3 c.1.length c3, c)], false⟩, ttA ⟨q, .slice A1 T.length c1, .slice A2 C.length c2, T, C, dead⟩, own 48 2 (.slice A45 (C.length + 1) c45) (C.length + 1) (C.flatMap ccs ++ [.slice A3 c.1.length c3, .int .i64 c.2]), ro μ'] (.tmp rfl (.tmp rfl .nil)) ⟨⟨q, .slice A1 T.length c1, .slice A45 (C.length + 1) c45, T, C ++ [(.slice A3 c.1.length c3, c)], false⟩, μ', ⟨hle, SW.Ok.dead (Ok.addC hW0 hle hrow h30') false, rfl, ?_, rfl, rfl⟩, ?_⟩ (by repeat (first | exact Split.nil | (apply Split.cons; (repeat (first | with_reducible exact Take.here | apply Take.there)))))
            · unfold SW.pl; rw [List.map_append]; rfl
            · simp only [ccA, List.length_append, List.length_singleton, List.flatMap_append]; rfl
end SX
namespace SX
open Go Go.Proofs
theorem trees_spec (p : Nat) (W : SW) (μ : PH) (hW : W.Ok μ) : Spec Try.prog 12 [pv p] [stH p W] (fun r L => r = .int .i64 (W.T.length : Nat) ∧ L = [stH p W]) := by
  obtain ⟨⟨A1, c1, e1⟩, ⟨A2, c2, e2⟩, _, _, hT, hC⟩ := hW
  obtain ⟨q, tv, cv, T, C, dead⟩ := W
  dsimp only at e1 e2 hT hC
  subst e1 e2
  refine Spec.of 10 Try.func12 rfl rfl rfl ?_
  refine swp_seq ?_
  refine swp_region ?_
  refine s_pu (pu_assign rfl) ?_
  refine swl_sub _ (.cons (t := 0) rfl .nil) ?_
  refine swl_nil ?_
  refine then_n ?_
  refine swp_seq ?_
  refine swp_seq ?_
  refine swp_region ?_
  refine s_pu (pu_move rfl) ?_
  refine s_pu (pu_ptr_eq_nil rfl rfl) ?_
  refine swl_sub _ (.cons (t := 0) rfl (.cons (t := 4) rfl .nil)) ?_
  refine swl_nil ?_
  refine then_n ?_
  refine swp_cond (b := _) rfl (fun h4 => by cases h4) (fun h4 => ?_)
  refine swp_skip ?_
  refine then_n ?_
  refine swp_seq ?_
  refine swp_region ?_
  refine s_pu (pu_move rfl) ?_
  first | refine s_pu (pu_nilCheck rfl) ?_ | refine s_pu (pu_nilCheck_fn rfl) ?_ | refine s_pu (pu_nilCheck_if rfl) ?_
  first | refine s_pu (pu_fieldAddr0 rfl) ?_ | refine s_pu (pu_fieldAddr rfl) ?_
  refine s_rd (rd_load rfl rfl) ?_
  refine s_pu (pu_len rfl) ?_
  refine s_pu (pu_assign rfl) ?_
  refine swl_sub _ (.cons (t := 2) rfl .nil) ?_
  refine swl_nil ?_
  refine then_n ?_
  refine swp_ret ?_
  exact done_ret [stH p ⟨q, .slice A1 T.length c1, .slice A2 C.length c2, T, C, dead⟩] (.tmp rfl .nil) ⟨rfl, rfl⟩ (by repeat (first | exact Split.nil | (apply Split.cons; (repeat (first | with_reducible exact Take.here | apply Take.there)))))
theorem coms_spec (p : Nat) (W : SW) (μ : PH) (hW : W.Ok μ) : Spec Try.prog 19 [pv p] [stH p W] (fun r L => r = .int .i64 (W.C.length : Nat) ∧ L = [stH p W]) := by
  obtain ⟨⟨A1, c1, e1⟩, ⟨A2, c2, e2⟩, _, _, hT, hC⟩ := hW
  obtain ⟨q, tv, cv, T, C, dead⟩ := W
  dsimp only at e1 e2 hT hC
  subst e1 e2
  refine Spec.of 10 Try.func19 rfl rfl rfl ?_
  refine swp_seq ?_
  refine swp_region ?_
  refine s_pu (pu_assign rfl) ?_
  refine swl_sub _ (.cons (t := 0) rfl .nil) ?_
  refine swl_nil ?_
  refine then_n ?_
  refine swp_seq ?_
  refine swp_seq ?_
  refine swp_region ?_
  refine s_pu (pu_move rfl) ?_
  refine s_pu (pu_ptr_eq_nil rfl rfl) ?_
  refine swl_sub _ (.cons (t := 0) rfl (.cons (t := 4) rfl .nil)) ?_
  refine swl_nil ?_
  refine then_n ?_
  refine swp_cond (b := _) rfl (fun h4 => by cases h4) (fun h4 => ?_)
  refine swp_skip ?_
  refine then_n ?_
  refine swp_seq ?_
  refine swp_region ?_
  refine s_pu (pu_move rfl) ?_
  first | refine s_pu (pu_nilCheck rfl) ?_ | refine s_pu (pu_nilCheck_fn rfl) ?_ | refine s_pu (pu_nilCheck_if rfl) ?_
  first | refine s_pu (pu_fieldAddr0 rfl) ?_ | refine s_pu (pu_fieldAddr rfl) ?_
  refine s_rd (rd_load rfl rfl) ?_
  refine s_pu (pu_len rfl) ?_
  refine s_pu (pu_assign rfl) ?_
  refine swl_sub _ (.cons (t := 2) rfl .nil) ?_
  refine swl_nil ?_
  refine then_n ?_
  refine swp_ret ?_
  exact done_ret [stH p ⟨q, .slice A1 T.length c1, .slice A2 C.length c2, T, C, dead⟩] (.tmp rfl .nil) ⟨rfl, rfl⟩ (by repeat (first | exact Split.nil | (apply Split.cons; (repeat (first | with_reducible exact Take.here | apply Take.there)))))
theorem dead_spec (p : Nat) (W : SW) : Spec Try.prog 13 [pv p] [stH p W] (fun r L => r = .bool W.dead ∧ L = [stH p W]) := by
  refine Spec.of 11 Try.func13 rfl rfl rfl ?_
  refine swp_seq ?_
  refine swp_region ?_
  refine s_pu (pu_assign rfl) ?_
  refine swl_sub _ (.cons (t := 0) rfl .nil) ?_
  refine swl_nil ?_
  refine then_n ?_
  refine swp_seq ?_
  refine swp_region ?_
  refine s_pu (pu_move rfl) ?_
  refine s_pu (pu_ptr_ne_nil rfl rfl) ?_
  refine s_pu (pu_move rfl) ?_
  refine s_split 5 rfl (fun h5 => ?_) (fun h5 => by cases h5)
  refine s_on rfl rfl ?_
  refine s_pu (pu_move rfl) ?_
  refine s_on rfl rfl ?_
  first | refine s_pu (pu_nilCheck rfl) ?_ | refine s_pu (pu_nilCheck_fn rfl) ?_ | refine s_pu (pu_nilCheck_if rfl) ?_
  refine s_on rfl rfl ?_
  first | refine s_pu (pu_fieldAddr0 rfl) ?_ | refine s_pu (pu_fieldAddr rfl) ?_
  refine s_on rfl rfl ?_
  refine s_rd (rd_load rfl rfl) ?_
  first | refine s_pu (pu_pick_t rfl rfl) ?_ | refine s_pu (pu_pick_f rfl rfl) ?_
  refine s_pu (pu_assign rfl) ?_
  refine swl_sub _ (.cons (t := 2) rfl .nil) ?_
  refine swl_nil ?_
  refine then_n ?_
  refine swp_ret ?_
  exact done_ret [stH p W] (.tmp rfl .nil) ⟨rfl, rfl⟩ (by repeat (first | exact Split.nil | (apply Split.cons; (repeat (first | with_reducible exact Take.here | apply Take.there)))))
end SX
namespace SX
open Go Go.Proofs
end SX
namespace SX
open Go Go.Proofs
end SX
namespace SX
open Go Go.Proofs
end SX
namespace SX
open Go Go.Proofs
end SX
namespace SX
open Go Go.Proofs
end SX
namespace SX
open Go Go.Proofs
/-! ## the document's first example -/
abbrev hel : List UInt8 := [104, 101, 108, 108, 111]
end SX
namespace SX
open Go Go.Proofs
/-! ## the document's disk -/
end SX
namespace SX
open Go Go.Proofs
/-- what the number of a name's file is, or the error -/
def FileR (d : Dk) (s : ByteArray) (k e : Int) : Prop := (e ≠ 0 ∧ readD d s = ([], e) ∧ ∀ f, onFile d s f = (d, e)) ∨ (e = 0 ∧ ∃ j : Nat, k = (j : Int) ∧ findN d.seen s = some j ∧ readD d s = ((d.fl j).bytes, 0) ∧ ∀ f, onFile d s f = f j)
end SX
namespace SX
open Go Go.Proofs
end SX
namespace SX
open Go Go.Proofs
end SX
namespace SX
open Go Go.Proofs
theorem FileR.ok {d : Dk} {s : ByteArray} {k e : Int} (h : FileR d s k e) (he : e = 0) : ∃ j : Nat, k = (j : Int) ∧ findN d.seen s = some j ∧ readD d s = ((d.fl j).bytes, 0) ∧ ∀ f, onFile d s f = f j := by
  rcases h with ⟨h, _⟩ | ⟨_, h⟩
  · exact absurd he h
  · exact h
end SX
namespace SX
open Go Go.Proofs
end SX
namespace SX
open Go Go.Proofs
end SX
namespace SX
open Go Go.Proofs
def settle2 (d : Dk) (n len : Nat) : Dk × Int := if (cutRest d n len).2 ≠ 0 then cutRest d n len else syncD (cutRest d n len).1 logN
theorem settle_two (d : Dk) (n len : Nat) : settleD d n len = if (settle2 d n len).2 ≠ 0 then settle2 d n len else syncNamesD (settle2 d n len).1 := by
  unfold settleD settle2
  by_cases h : (cutRest d n len).2 ≠ 0
  · rw [if_pos h, if_pos h, if_pos h]
  · rw [if_neg h, if_neg h]
theorem cutRest_ok {d : Dk} (hd : d.Ok) (n len : Nat) : (cutRest d n len).1.Ok := by
  unfold cutRest
  split
  · exact hd
  · exact cutD_ok hd _ _
theorem settle2_ok {d : Dk} (hd : d.Ok) (n len : Nat) : (settle2 d n len).1.Ok := by
  unfold settle2
  split
  · exact cutRest_ok hd n len
  · exact syncD_ok (cutRest_ok hd n len) _
end SX
namespace SX
open Go Go.Proofs
end SX
namespace SX
open Go Go.Proofs
end SX
namespace SX
open Go Go.Proofs
end SX
namespace SX
open Go Go.Proofs
end SX
namespace SX
open Go Go.Proofs
theorem pl_len1 (W : SW) : W.pl.1.length = W.T.length := List.length_map _
theorem pl_len2 (W : SW) : W.pl.2.length = W.C.length := List.length_map _
end SX
namespace SX
open Go Go.Proofs
/-- a disk with a log alone -/
abbrev lg (q : Int) (B : List UInt8) : Dk := one1 q logN ⟨B, B.length⟩ 0 false
theorem lg_write {q : Int} {B : List UInt8} {f : Fm} (h : (B.length : Int) + ((f.2.length + 9 : Nat) : Int) ≤ q) : writeD (lg q B) f = (lg q (B ++ encFm f), 0) := by
  have e : appendD (lg q B) logN (encFm f) = (one1 q logN ⟨B ++ encFm f, B.length⟩ 0 false, 0) := by
    rw [one_append (by show (B.length : Int) + (encFm f).length ≤ q; rw [encFm_len]; exact h)]; rfl
  unfold writeD
  rw [e, if_neg (fun k => k rfl)]
  rw [one_sync]
theorem lg_open (q : Int) : openD (newD q) = (lg q [], 0) := by
  have e1 : readD (newD q) logN = ([], 6) := rfl
  have e2 : createD (newD q) logN = (⟨q, [⟨[], 0⟩], [(logN, 0)], [], [⟨nos, logN, 0⟩], 0, false⟩, 0) := by kernel_rfl
  have e3 : freshD (newD q) = (lg q [], 0) := by
    unfold freshD
    rw [e2, if_neg (fun k => k rfl)]
    rfl
  unfold openD
  rw [e1, if_pos rfl]
  exact e3
theorem lg_openS (q : Int) : openS (newD q) = ([], []) := by
  have e1 : readD (newD q) logN = ([], 6) := rfl
  unfold openS
  rw [e1]
  rfl
theorem lg_addT {q : Int} {B : List UInt8} {s : St2} {t : List En} (h0 : encErr t = 0) (hn : s.1.length < 65536) (h : (B.length : Int) + (((encT t).length + 9 : Nat) : Int) ≤ q) :
    addT ⟨lg q B, s, false⟩ t = ((⟨lg q (B ++ encFm (1, encT t)), (s.1 ++ [t], s.2), false⟩ : PSt), ((s.1.length : Nat) : Int), (0 : Int)) := by
  have hw := lg_write (f := (1, encT t)) h
  unfold addT
  rw [addR_ok (x := ⟨lg q B, s, false⟩) rfl h0 hn (by rw [hw])]
  rw [hw]
theorem lg_addC {q : Int} {B : List UInt8} {s : St2} {c : Cm} (h0 : checkC c = 0) (h1 : knownS s.1.length s.2.length c = true) (hn : s.2.length < 65536) (h : (B.length : Int) + (((encC' c).length + 9 : Nat) : Int) ≤ q) :
    addC ⟨lg q B, s, false⟩ c = ((⟨lg q (B ++ encFm (2, encC' c)), (s.1, s.2 ++ [c]), false⟩ : PSt), ((s.2.length : Nat) : Int), (0 : Int)) := by
  have hw := lg_write (f := (2, encC' c)) h
  unfold addC
  rw [addR_ok (x := ⟨lg q B, s, false⟩) rfl (by rw [if_neg (not_not_intro h0), if_neg (by rw [h1]; decide)]) hn (by rw [hw])]
  rw [hw]
theorem settle_ok {d : Dk} (hd : d.Ok) (n len : Nat) : (settleD d n len).1.Ok := by
  rw [settle_two]
  split
  · exact settle2_ok hd n len
  · exact syncNamesD_ok (settle2_ok hd n len)
theorem fresh_ok {d : Dk} (hd : d.Ok) : (freshD d).1.Ok := by
  unfold freshD
  split
  · exact createD_ok hd _
  · exact syncNamesD_ok (createD_ok hd _)
theorem open_ok {d : Dk} (hd : d.Ok) : (openD d).1.Ok := by
  unfold openD
  split
  · exact fresh_ok hd
  · split
    · exact hd
    · exact settle_ok hd _ _
theorem addR_okD {x : PSt} {e0 : Int} {n : Nat} {f : Fm} {s' : St2} (h : x.d.Ok) : (addR x e0 n f s').1.d.Ok := by
  unfold addR
  repeat' split
  · exact h
  · exact h
  · exact h
  · exact writeD_ok h f
  · exact writeD_ok h f
theorem addT_ok {x : PSt} (h : x.d.Ok) (t : List En) : (addT x t).1.d.Ok := addR_okD h
theorem addC_ok {x : PSt} (h : x.d.Ok) (c : Cm) : (addC x c).1.d.Ok := addR_okD h
abbrev ta1 : List En := [(⟨#[97]⟩, 1)]
theorem ta1_err : encErr ta1 = 0 := by decide
theorem ta1_len : (encT ta1).length ≤ 300 := by
  have := encEs_len [] ta1 (fun e he => (check_paths (t := ta1) (by decide) e he).1)
  unfold encT
  rw [List.length_append, numB_len]
  have h1 : ta1.length = 1 := rfl
  omega
theorem encC_fit (c : Cm) (h : c.1.length ≤ 1) : (encC' c).length ≤ 9 := by
  unfold encC'
  simp only [List.length_append, numB_len, encPs_len]
  omega
theorem u32_ta1 : U32s ta1 := fun e he => by
  obtain rfl : e = (⟨#[97]⟩, 1) := by simpa using he
  exact ⟨by decide, by decide⟩
set_option maxHeartbeats 8000000 in
theorem opens_spec : Spec Try.prog 5 [] [] (fun r L => r = .bool true ∧ L = []) := by
  have hn0 : (newD 1000).Ok := newD_ok (by decide)
  have ho0 : (lg 1000 []).Ok := by have := open_ok hn0; rwa [lg_open] at this
  have hl1 := ta1_len
  have a1 := lg_addT (q := 1000) (B := []) (s := ([], [])) ta1_err (by decide) (by have := ta1_len; show (0 : Int) + _ ≤ 1000; omega)
  have b1 := encFm_len (1, encT ta1)
  generalize hB1 : ([] : List UInt8) ++ encFm (1, encT ta1) = B1 at a1
  have b1' : B1.length ≤ 309 := by rw [← hB1, List.nil_append, b1]; show (encT ta1).length + 9 ≤ 309; omega
  have ho1 : (lg 1000 B1).Ok := by have := addT_ok (x := ⟨lg 1000 [], ([], []), false⟩) ho0 ta1; rwa [a1] at this
  have a2 := lg_addC (q := 1000) (B := B1) (s := ([ta1], [])) (c := ([], 0)) (by decide) (by decide) (by decide) (by have := encC_fit ([], 0) (by decide); omega)
  generalize hB2 : B1 ++ encFm (2, encC' ([], 0)) = B2 at a2
  have b2' : B2.length ≤ 327 := by rw [← hB2, List.length_append, encFm_len]; have := encC_fit ([], 0) (by decide); show B1.length + ((encC' ([], 0)).length + 9) ≤ 327; omega
  have ho2 : (lg 1000 B2).Ok := by have := addC_ok (x := ⟨lg 1000 B1, ([ta1], []), false⟩) ho1 ([], 0); rwa [a2] at this
  have a3 := lg_addC (q := 1000) (B := B2) (s := ([ta1], [([], 0)])) (c := ([0], 0)) (by decide) (by decide) (by decide) (by have := encC_fit ([0], 0) (by decide); omega)
  generalize hB3 : B2 ++ encFm (2, encC' ([0], 0)) = B3 at a3
  have ho3 : (lg 1000 B3).Ok := by have := addC_ok (x := ⟨lg 1000 B2, ([ta1], [([], 0)]), false⟩) ho2 ([0], 0); rwa [a3] at this
  have a4 : addC ⟨lg 1000 B3, ([ta1], [([], 0), ([0], 0)]), false⟩ ([2], 0) = ((⟨lg 1000 B3, ([ta1], [([], 0), ([0], 0)]), false⟩ : PSt), (0 : Int), (9 : Int)) := by
    unfold addC
    exact addR_err rfl (by show (if checkC (([2], 0) : Cm) ≠ 0 then checkC (([2], 0) : Cm) else if knownS 1 2 (([2], 0) : Cm) = false then 9 else 0) ≠ 0; decide)
  refine Spec.of 90 Try.func5 rfl rfl rfl ?_
  refine swp_ent ent_roZ ?_
  generalize (fun _ => none : PH) = μ
  refine swp_seq ?_
  refine swp_region ?_
  refine s_pu (pu_assign rfl) ?_
  refine swl_sub _ .nil ?_
  refine swl_nil ?_
  refine then_n ?_
  refine swp_seq ?_
  refine swp_region ?_
  refine s_ef (ef_fn (new_spec 1000) rfl rfl (by repeat (first | exact Split.nil | (apply Split.cons; (repeat (first | with_reducible exact Take.here | apply Take.there)))))) ?_
  rintro v13 L1 hnw
  obtain ⟨q, rfl, rfl⟩ : ∃ q, v13 = .tuple #[pv q, .int .i64 0] ∧ L1 = [FSA q (newD 1000)] := by
    rcases hnw with ⟨h, _⟩ | ⟨_, q, h1, h2⟩
    · exact absurd (show newOk 1000 from ⟨by decide, by decide⟩) h
    · exact ⟨q, h1, h2⟩
  refine swl_app ?_
  refine s_pu (pu_move rfl) ?_
  first | refine s_pu (pu_extractL rfl) ?_ | refine s_pu (pu_extract rfl rfl) ?_
  first | refine s_pu (pu_extractL rfl) ?_ | refine s_pu (pu_extract rfl rfl) ?_
  refine s_pu (pu_assign rfl) ?_
  refine s_pu (pu_assign rfl) ?_
  refine swl_sub _ (.cons (t := 1) rfl .nil) ?_
  refine swl_nil ?_
  refine then_n ?_
  refine swp_seq ?_
  refine swp_region ?_
  refine s_pu (pu_move rfl) ?_
  refine s_ef (ef_fn (open_spec μ q (newD 1000) hn0 ⟨by decide, by decide⟩) rfl rfl (by repeat (first | exact Split.nil | (apply Split.cons; (repeat (first | with_reducible exact Take.here | apply Take.there)))))) ?_
  rintro v18 L1 ⟨p, W0, μ0, e, hq, rfl, rfl⟩
  obtain ⟨l0, hW0, hq0, hd0, he, hpl⟩ := hq
  rw [lg_open] at he
  have he' : e = 0 := he
  subst he'
  have hpl0 : W0.pl = ([], []) := by rw [hpl rfl, lg_openS]
  rw [if_pos rfl, lg_open, ← hq0]
  refine swl_app ?_
  refine s_pu (pu_move rfl) ?_
  first | refine s_pu (pu_extractL rfl) ?_ | refine s_pu (pu_extract rfl rfl) ?_
  first | refine s_pu (pu_extractL rfl) ?_ | refine s_pu (pu_extract rfl rfl) ?_
  refine s_pu (pu_assign rfl) ?_
  refine s_pu (pu_assign rfl) ?_
  refine swl_sub _ (.cons (t := 3) rfl (.cons (t := 4) rfl .nil)) ?_
  refine swl_nil ?_
  refine then_n ?_
  refine swp_seq ?_
  refine swp_seq ?_
  refine swp_region ?_
  refine s_pu (pu_move rfl) ?_
  refine s_pu (pu_ptr_eq_nil rfl rfl) ?_
  refine s_pu (pu_move rfl) ?_
  refine s_split 23 rfl (fun h23 => by cases h23) (fun h23 => ?_)
  refine s_on rfl rfl ?_
  refine s_pu (pu_move rfl) ?_
  refine s_on rfl rfl ?_
  refine s_pu (pu_neq rfl rfl) ?_
  first | refine s_pu (pu_pick_t rfl rfl) ?_ | refine s_pu (pu_pick_f rfl rfl) ?_
  refine swl_sub _ (.cons (t := 3) rfl (.cons (t := 26) rfl .nil)) ?_
  refine swl_nil ?_
  refine then_n ?_
  refine swp_cond (b := _) rfl (fun h26 => by cases h26) (fun h26 => ?_)
  refine swp_skip ?_
  refine then_n ?_
  refine swp_seq ?_
  refine swp_region ?_
  refine s_pu (pu_move rfl) ?_
  refine s_pu (pu_bld (qs := [(0, _), (1, _)]) rfl) ?_
  refine s_ef (ef_bldS (qs := [(0, _)]) rfl rfl rfl) ?_
  intro b30
  refine swl_share (b := b30) (μ := μ0) (by repeat (first | exact Split.nil | (apply Split.cons; (repeat (first | with_reducible exact Take.here | apply Take.there))))) fun μ1 l1 k1 => ?_
  have r1 := row_of_blk (n := 2) (l := 1) (cs := ens ta1) k1 (by rfl) (by decide)
  refine s_ef (ef_fn (addtree_spec μ1 p W0 (hW0.le l1) (lg 1000 []) ho0 (.slice (some ⟨b30, 0, none⟩) 1 1) ta1 r1 u32_ta1) rfl rfl (by repeat (first | exact Split.nil | (apply Split.cons; (repeat (first | with_reducible exact Take.here | apply Take.there)))))) ?_
  rintro v31 L1 ⟨W1, μ2, hq1, rfl⟩
  rw [hpl0, hd0, a1] at hq1
  rw [hpl0, hd0, a1]
  obtain ⟨l2, hW1, hqq1, hp1, hd1, rfl⟩ := hq1
  refine swl_app ?_
  replace hp1 : W1.pl = (([ta1], []) : St2) := hp1
  replace hd1 : W1.dead = false := hd1
  refine s_pu (pu_move rfl) ?_
  first | refine s_pu (pu_extractL rfl) ?_ | refine s_pu (pu_extract rfl rfl) ?_
  first | refine s_pu (pu_extractL rfl) ?_ | refine s_pu (pu_extract rfl rfl) ?_
  refine s_pu (pu_assign rfl) ?_
  refine s_pu (pu_assign rfl) ?_
  refine swl_sub _ (.cons (t := 3) rfl (.cons (t := 4) rfl (.cons (t := 5) rfl .nil))) ?_
  refine swl_nil ?_
  refine then_n ?_
  refine swp_seq ?_
  refine swp_region ?_
  refine s_pu (pu_move rfl) ?_
  refine s_pu (pu_bld (qs := []) rfl) ?_
  refine s_ef (ef_fn (addcommit_spec μ2 p W1 hW1 (lg 1000 B1) ho1 (.slice none 0 0) ([], 0) (Row.nil _ _)) rfl rfl (by repeat (first | exact Split.nil | (apply Split.cons; (repeat (first | with_reducible exact Take.here | apply Take.there)))))) ?_
  rintro v37 L1 ⟨W2, μ3, hq2, rfl⟩
  rw [hp1, hd1, a2] at hq2
  rw [hp1, hd1, a2]
  obtain ⟨l3, hW2, hqq2, hp2, hd2, rfl⟩ := hq2
  refine swl_app ?_
  replace hp2 : W2.pl = (([ta1], [([], 0)]) : St2) := hp2
  replace hd2 : W2.dead = false := hd2
  refine s_pu (pu_move rfl) ?_
  first | refine s_pu (pu_extractL rfl) ?_ | refine s_pu (pu_extract rfl rfl) ?_
  first | refine s_pu (pu_extractL rfl) ?_ | refine s_pu (pu_extract rfl rfl) ?_
  refine s_pu (pu_assign rfl) ?_
  refine s_pu (pu_assign rfl) ?_
  refine swl_sub _ (.cons (t := 3) rfl (.cons (t := 4) rfl (.cons (t := 5) rfl (.cons (t := 6) rfl (.cons (t := 7) rfl .nil))))) ?_
  refine swl_nil ?_
  refine then_n ?_
  refine swp_seq ?_
  refine swp_region ?_
  refine s_pu (pu_move rfl) ?_
  refine s_ef (ef_bldS (qs := [(0, _)]) rfl rfl rfl) ?_
  intro b42
  refine s_pu (pu_bld (qs := [(0, _)]) rfl) ?_
  refine swl_share (b := b42) (μ := μ3) (by repeat (first | exact Split.nil | (apply Split.cons; (repeat (first | with_reducible exact Take.here | apply Take.there))))) fun μ4 l4 k4 => ?_
  have r4 := row_of_blk (n := 1) (l := 1) (cs := ([0] : List Int).flatMap (icsk .i64)) k4 (by rfl) (by decide)
  refine s_ef (ef_fn (addcommit_spec μ4 p W2 (hW2.le l4) (lg 1000 B2) ho2 (.slice (some ⟨b42, 0, none⟩) 1 1) ([0], 0) r4) rfl rfl (by repeat (first | exact Split.nil | (apply Split.cons; (repeat (first | with_reducible exact Take.here | apply Take.there)))))) ?_
  rintro v44 L1 ⟨W3, μ5, hq3, rfl⟩
  rw [hp2, hd2, a3] at hq3
  rw [hp2, hd2, a3]
  obtain ⟨l5, hW3, hqq3, hp3, hd3, rfl⟩ := hq3
  refine swl_app ?_
  replace hp3 : W3.pl = (([ta1], [([], 0), ([0], 0)]) : St2) := hp3
  replace hd3 : W3.dead = false := hd3
  refine s_pu (pu_move rfl) ?_
  first | refine s_pu (pu_extractL rfl) ?_ | refine s_pu (pu_extract rfl rfl) ?_
  first | refine s_pu (pu_extractL rfl) ?_ | refine s_pu (pu_extract rfl rfl) ?_
  refine s_pu (pu_assign rfl) ?_
  refine s_pu (pu_assign rfl) ?_
  refine swl_sub _ (.cons (t := 3) rfl (.cons (t := 4) rfl (.cons (t := 5) rfl (.cons (t := 6) rfl (.cons (t := 7) rfl (.cons (t := 8) rfl (.cons (t := 9) rfl .nil))))))) ?_
  refine swl_nil ?_
  refine then_n ?_
  refine swp_seq ?_
  refine swp_region ?_
  refine s_pu (pu_move rfl) ?_
  refine s_ef (ef_bldS (qs := [(0, _)]) rfl rfl rfl) ?_
  intro b49
  refine s_pu (pu_bld (qs := [(0, _)]) rfl) ?_
  refine swl_share (b := b49) (μ := μ5) (by repeat (first | exact Split.nil | (apply Split.cons; (repeat (first | with_reducible exact Take.here | apply Take.there))))) fun μ6 l6 k6 => ?_
  have r6 := row_of_blk (n := 1) (l := 1) (cs := ([2] : List Int).flatMap (icsk .i64)) k6 (by rfl) (by decide)
  refine s_ef (ef_fn (addcommit_spec μ6 p W3 (hW3.le l6) (lg 1000 B3) ho3 (.slice (some ⟨b49, 0, none⟩) 1 1) ([2], 0) r6) rfl rfl (by repeat (first | exact Split.nil | (apply Split.cons; (repeat (first | with_reducible exact Take.here | apply Take.there)))))) ?_
  rintro v51 L1 ⟨W4, μ7, hq4, rfl⟩
  rw [hp3, hd3] at hq4
  rw [a4] at hq4
  obtain ⟨l7, hW4, hqq4, hp4, hd4, rfl⟩ := hq4
  refine swl_app ?_
  replace hp4 : W4.pl = (([ta1], [([], 0), ([0], 0)]) : St2) := hp4
  have hC4 : W4.C.length = 2 := by rw [← pl_len2, hp4]; rfl
  have hT4 : W4.T.length = 1 := by rw [← pl_len1, hp4]; rfl
  refine s_pu (pu_move rfl) ?_
  first | refine s_pu (pu_extractL rfl) ?_ | refine s_pu (pu_extract rfl rfl) ?_
  first | refine s_pu (pu_extractL rfl) ?_ | refine s_pu (pu_extract rfl rfl) ?_
  refine s_pu (pu_assign rfl) ?_
  refine s_pu (pu_assign rfl) ?_
  refine swl_sub _ (.cons (t := 3) rfl (.cons (t := 4) rfl (.cons (t := 5) rfl (.cons (t := 6) rfl (.cons (t := 7) rfl (.cons (t := 8) rfl (.cons (t := 9) rfl (.cons (t := 11) rfl .nil)))))))) ?_
  refine swl_nil ?_
  refine then_n ?_
  refine swp_seq ?_
  refine swp_region ?_
  refine s_pu (pu_move rfl) ?_
  refine s_pu (pu_eql rfl rfl) ?_
  refine s_pu (pu_move rfl) ?_
  refine s_split 56 rfl (fun h56 => ?_) (fun h56 => by cases h56)
  refine s_on rfl rfl ?_
  refine s_pu (pu_move rfl) ?_
  refine s_on rfl rfl ?_
  refine s_pu (pu_eql rfl rfl) ?_
  first | refine s_pu (pu_pick_t rfl rfl) ?_ | refine s_pu (pu_pick_f rfl rfl) ?_
  refine s_pu (pu_move rfl) ?_
  refine s_split 60 rfl (fun h60 => ?_) (fun h60 => by cases h60)
  refine s_on rfl rfl ?_
  refine s_pu (pu_move rfl) ?_
  refine s_on rfl rfl ?_
  refine s_pu (pu_eql rfl rfl) ?_
  first | refine s_pu (pu_pick_t rfl rfl) ?_ | refine s_pu (pu_pick_f rfl rfl) ?_
  refine s_pu (pu_move rfl) ?_
  refine s_split 64 rfl (fun h64 => ?_) (fun h64 => by cases h64)
  refine s_on rfl rfl ?_
  refine s_pu (pu_move rfl) ?_
  refine s_on rfl rfl ?_
  refine s_pu (pu_eql rfl rfl) ?_
  first | refine s_pu (pu_pick_t rfl rfl) ?_ | refine s_pu (pu_pick_f rfl rfl) ?_
  refine s_pu (pu_move rfl) ?_
  refine s_split 68 rfl (fun h68 => ?_) (fun h68 => by cases h68)
  refine s_on rfl rfl ?_
  refine s_pu (pu_move rfl) ?_
  refine s_on rfl rfl ?_
  refine s_pu (pu_eql rfl rfl) ?_
  first | refine s_pu (pu_pick_t rfl rfl) ?_ | refine s_pu (pu_pick_f rfl rfl) ?_
  refine s_pu (pu_move rfl) ?_
  refine s_split 72 rfl (fun h72 => ?_) (fun h72 => by cases h72)
  refine s_on rfl rfl ?_
  refine s_pu (pu_move rfl) ?_
  refine s_on rfl rfl ?_
  refine s_pu (pu_eql rfl rfl) ?_
  first | refine s_pu (pu_pick_t rfl rfl) ?_ | refine s_pu (pu_pick_f rfl rfl) ?_
  refine s_pu (pu_move rfl) ?_
  refine s_split 76 rfl (fun h76 => ?_) (fun h76 => by cases h76)
  refine s_on rfl rfl ?_
  refine s_pu (pu_move rfl) ?_
  refine s_on rfl rfl ?_
  refine s_pu (pu_eql rfl rfl) ?_
  first | refine s_pu (pu_pick_t rfl rfl) ?_ | refine s_pu (pu_pick_f rfl rfl) ?_
  refine s_pu (pu_move rfl) ?_
  refine s_split 80 rfl (fun h80 => ?_) (fun h80 => by cases h80)
  refine s_on rfl rfl ?_
  refine s_pu (pu_move rfl) ?_
  refine s_on rfl rfl ?_
  refine s_ef (ef_fn (coms_spec p W4 μ7 hW4) rfl rfl (by repeat (first | exact Split.nil | (apply Split.cons; (repeat (first | with_reducible exact Take.here | apply Take.there)))))) ?_
  rintro v82 L1 ⟨rfl, rfl⟩
  refine swl_app ?_
  refine s_on rfl rfl ?_
  refine s_pu (pu_eql rfl rfl) ?_
  first | refine s_pu (pu_pick_t rfl rfl) ?_ | refine s_pu (pu_pick_f rfl rfl) ?_
  refine s_pu (pu_move rfl) ?_
  refine s_split 85 rfl (fun h85 => ?_) (fun h85 => by rw [hC4] at h85; cases h85)
  refine s_on rfl rfl ?_
  refine s_pu (pu_move rfl) ?_
  refine s_on rfl rfl ?_
  refine s_ef (ef_fn (trees_spec p W4 μ7 hW4) rfl rfl (by repeat (first | exact Split.nil | (apply Split.cons; (repeat (first | with_reducible exact Take.here | apply Take.there)))))) ?_
  rintro v87 L1 ⟨rfl, rfl⟩
  refine swl_app ?_
  refine s_on rfl rfl ?_
  refine s_pu (pu_eql rfl rfl) ?_
  first | refine s_pu (pu_pick_t rfl rfl) ?_ | refine s_pu (pu_pick_f rfl rfl) ?_
  refine s_pu (pu_assign rfl) ?_
  refine swl_sub _ (.cons (t := 0) rfl .nil) ?_
  refine swl_nil ?_
  refine then_n ?_
  refine swp_ret ?_
  exact done_ret [] (.tmp rfl .nil) ⟨by rw [hT4]; rfl, rfl⟩ (by repeat (first | exact Split.nil | (apply Split.cons; (repeat (first | with_reducible exact Take.here | apply Take.there)))))
end SX
namespace SX
open Go Go.Proofs
def putsE (l : List En) : List En := l.foldl (fun t e => putE t e.1 e.2) []
theorem putsE_succ {l : List En} {i : Nat} {e : En} (h : l[i]? = some e) : putsE (l.take (i + 1)) = putE (putsE (l.take i)) e.1 e.2 := by
  unfold putsE
  rw [List.take_add_one, h, List.foldl_append]; rfl
end SX
namespace SX
open Go Go.Proofs
/-- paths that rise, behind the last one -/
def upE : Bool → List UInt8 → List En → Prop
  | _, _, [] => True
  | first, last, e :: t => (first = false → strLt (str last) (str (bts e)) = true) ∧ upE false (bts e) t
theorem decL_enc : ∀ (t : List En) (A B : List UInt8) (first : Bool) (last : List UInt8), (∀ e ∈ t, (bts e).length ≤ 255 ∧ e.2 ≠ 0 ∧ U32 e.2) → upE first last t → decL (A ++ (encEs last t ++ B)) t.length first last A.length = some (t, A.length + (encEs last t).length)
  | [], A, B, first, last, _, _ => rfl
  | e :: t, A, B, first, last, h, hu => by
    obtain ⟨h1, h2, h3⟩ := h e (List.mem_cons_self ..)
    unfold U32 at h3
    have es : A ++ (encEs last (e :: t) ++ B) = A ++ (encE1 last e ++ (encEs (bts e) t ++ B)) := by
      show A ++ ((encE1 last e ++ encEs (bts e) t) ++ B) = _; rw [List.append_assoc (encE1 last e)]
    have es2 : A ++ (encE1 last e ++ (encEs (bts e) t ++ B)) = (A ++ encE1 last e) ++ (encEs (bts e) t ++ B) := by rw [List.append_assoc]
    have he := entP_enc (A := A) (B := encEs (bts e) t ++ B) (last := last) (e := e) (first := first) h1 h2 h3.1 (by omega) hu.1
    have ih := decL_enc t (A ++ encE1 last e) B false (bts e) (fun x hx => h x (List.mem_cons_of_mem _ hx)) hu.2
    show decL _ (t.length + 1) _ _ _ = _
    rw [decL, es, he]
    dsimp only
    rw [es2, ← List.length_append, ih]
    dsimp only
    have e0 : enOf (bts e, e.2.toNat) = e := by
      show ((str (bts e), ((e.2.toNat : Nat) : Int)) : En) = e
      rw [show ((e.2.toNat : Nat) : Int) = e.2 by omega]
    rw [e0]
    show some (e :: t, _) = some (e :: t, A.length + (encE1 last e ++ encEs (bts e) t).length)
    rw [List.length_append, List.length_append]
    congr 2
    omega
theorem up_of {t : List En} (h : ∀ i, i < t.length → wrongE t i = 0) : ∀ k, k ≤ t.length → upE (decide (k = 0)) (lastT t k) (t.drop k) := by
  intro k
  generalize hn : t.length - k = n
  induction n generalizing k with
  | zero =>
    intro hk
    rw [List.drop_eq_nil_of_le (by omega)]
    trivial
  | succ n ih =>
    intro hk
    obtain ⟨e, he⟩ : ∃ e, t[k]? = some e := ⟨_, List.getElem?_eq_getElem (by omega)⟩
    have hd : t.drop k = e :: t.drop (k + 1) := by
      rw [List.drop_eq_getElem_cons (by omega)]
      congr 1
      exact (List.getElem?_eq_some_iff.1 he).2
    rw [hd]
    have ih' := ih (k + 1) (by omega) (by omega)
    rw [lastT_succ he, decide_eq_false (by omega)] at ih'
    refine ⟨fun hf => ?_, ih'⟩
    have hk0 : 0 < k := by have := of_decide_eq_false hf; omega
    obtain ⟨d, hdd⟩ : ∃ d, t[k - 1]? = some d := ⟨_, List.getElem?_eq_getElem (by omega)⟩
    have hl : lastT t k = bts d := by
      obtain ⟨j, rfl⟩ : ∃ j, k = j + 1 := ⟨k - 1, by omega⟩
      exact lastT_succ hdd
    have hz := h k (by omega)
    obtain ⟨w1, w2, _, w4⟩ := wrongE_at he
    have g1 : ¬ 255 < e.1.size := fun q => by rw [w1 q] at hz; cases hz
    have g2 : ¬ e.2 = 0 := fun q => by rw [w2 g1 q] at hz; cases hz
    rw [w4 d g1 g2 hk0 hdd] at hz
    split at hz
    · cases hz
    · split at hz
      · cases hz
      · rename_i q1 q2
        rw [hl]
        show strLt d.1 e.1 = true
        rcases strLt_total e.1 d.1 with k | k | k
        · exact absurd k q2
        · exact absurd (strEq_iff.2 k) q1
        · exact k
theorem decT_enc {t : List En} (h : encErr t = 0) (hu : U32s t) : decT (encT t) = some t := by
  obtain ⟨h1, h2⟩ := encErr_ok h
  have hp := check_paths h2
  have v2 : valB ((encT t).take 2) = t.length := by
    unfold encT
    rw [List.take_left' (numB_len _ _)]
    exact val_num (by decide) (by show t.length < 256 ^ 2; omega)
  have hl : (encT t).length = 2 + (encEs [] t).length := by unfold encT; rw [List.length_append, numB_len]
  have hd := decL_enc t (numB 2 t.length) [] true [] (fun e he => ⟨(hp e he).1, (hp e he).2, hu e he⟩) (by
    have := up_of (wrongE_all h2) 0 (Nat.zero_le _)
    rw [List.drop_zero] at this
    exact this)
  rw [List.append_nil, numB_len] at hd
  unfold decT
  rw [if_neg (by omega), v2, if_neg (by omega)]
  rw [show encT t = numB 2 t.length ++ encEs [] t from rfl, hd]
  dsimp only
  rw [if_pos (by rw [List.length_append, numB_len])]
theorem stand_tree {s : St2} {t : List En} (h : encErr t = 0) (hu : U32s t) (hn : s.1.length < 65536) : stand1 s (1, encT t) = some (s.1 ++ [t], s.2) := by
  unfold stand1
  rw [if_pos rfl, decT_enc h hu]
  dsimp only
  rw [if_neg (by omega)]
theorem good_tree {t : List En} (h : encErr t = 0) : GoodF (1, encT t) := ⟨show 0 < 1 by decide, show 1 < 256 by decide, by have := encT_len h; show (encT t).length ≤ _; omega⟩
theorem wrong_good {t : List En} (h : GoodT t) : checkE t = 0 := by
  unfold checkE
  cases hf : ((List.range t.length).map (wrongE t)).find? (· ≠ 0) with
  | none => rfl
  | some x =>
    exfalso
    obtain ⟨i, hi, hx⟩ := List.mem_map.1 (List.mem_of_find?_eq_some hf)
    have hx0 := List.find?_some hf
    have hl := List.mem_range.1 hi
    obtain ⟨e, he⟩ : ∃ e, t[i]? = some e := ⟨_, List.getElem?_eq_getElem hl⟩
    have hm := List.mem_of_getElem? he
    have g1 : ¬ 255 < e.1.size := by have := h.short e hm; omega
    have g2 : ¬ e.2 = 0 := h.full e hm
    obtain ⟨_, _, w3, w4⟩ := wrongE_at he
    have hz : wrongE t i = 0 := by
      by_cases hi0 : i = 0
      · exact w3 g1 g2 hi0
      · obtain ⟨d, hdd⟩ : ∃ d, t[i - 1]? = some d := ⟨_, List.getElem?_eq_getElem (by omega)⟩
        rw [w4 d g1 g2 (by omega) hdd]
        have hlt := rises_get h.rises (show i - 1 < i by omega) hdd he
        rw [if_neg (by rw [strEq_iff]; exact (strLt_ne hlt).symm), if_neg (by rw [strLt_asym hlt]; decide)]
    rw [← hx, hz] at hx0
    simp at hx0
theorem good_encErr {t : List En} (h : GoodT t) (hl : t.length ≤ 1024) : encErr t = 0 := by
  unfold encErr
  rw [if_neg (by omega)]
  exact wrong_good h
set_option maxHeartbeats 1000000 in
theorem make2_spec (μ : PH) (v : Value) (l : List En) (h : Row μ v 2 l.length (ens l)) (hsz : l.length ≤ 5864062014634) :
    Spec Try.prog 10 [v] [ro μ] (fun r L => ∃ tv e μ', r = .tuple #[tv, .int .i64 e] ∧ Le μ μ' ∧ (e = 0 → Row μ' tv 2 (makeE l).length (ens (makeE l))) ∧ (∃ A n c, tv = .slice A n c) ∧ L = [ro μ']) := by
  refine Spec.of 32 Try.func10 rfl rfl rfl ?_
  refine swp_seq ?_
  refine swp_region ?_
  refine s_pu (pu_assign rfl) ?_
  refine s_pu (pu_assign rfl) ?_
  refine swl_sub _ (.cons (t := 0) rfl .nil) ?_
  refine swl_nil ?_
  refine then_n ?_
  refine swp_seq ?_
  refine swp_region ?_
  refine s_pu (pu_assign rfl) ?_
  refine swl_sub _ (.cons (t := 0) rfl (.cons (t := 4) rfl .nil)) ?_
  refine swl_nil ?_
  refine then_n ?_
  refine swp_seq ?_
  refine swp_seq ?_
  refine swp_region ?_
  refine s_pu (pu_assign rfl) ?_
  refine swl_sub _ (.cons (t := 0) rfl (.cons (t := 4) rfl (.cons (t := 5) rfl .nil))) ?_
  refine swl_nil ?_
  refine then_n ?_
  refine swp_block ?_
  refine swp_loop (ι := Nat × PH × Value) (fun k env L => Sub env [(0, v), (4, k.2.2), (5, .int .i64 (k.1 : Nat))] ∧ L = [ro k.2.1] ∧ k.1 ≤ l.length ∧ Le μ k.2.1 ∧ Row k.2.1 k.2.2 2 (putsE (l.take k.1)).length (ens (putsE (l.take k.1)))) (fun k => l.length - k.1) (0, μ, .slice none 0 0) ⟨⟨rfl, rfl, rfl, trivial⟩, rfl, Nat.zero_le _, Le.refl _, Row.nil _ _⟩ ?_
  rintro ⟨i, μ1, tv⟩ env L ⟨hsub, rfl, hi, hle, hrow⟩
  simp only [] at hi hle hrow hsub
  refine swp_sub _ hsub ?_
  clear hsub env
  dsimp only
  have h1 := h.le hle
  refine swp_seq ?_
  refine swp_seq ?_
  refine swp_region ?_
  refine s_pu (pu_move rfl) ?_
  refine s_pu (pu_move rfl) ?_
  refine s_pu (pu_len_row h1 rfl) ?_
  refine s_pu (pu_lss rfl rfl) ?_
  refine swl_sub _ (.cons (t := 0) rfl (.cons (t := 4) rfl (.cons (t := 5) rfl (.cons (t := 9) rfl .nil)))) ?_
  refine swl_nil ?_
  refine then_n ?_
  refine swp_cond (b := _) rfl (fun h9 => ?_) (fun h9 => ?_)
  · skip   -- 9 T
    have h9' : i < l.length := by have := of_decide_eq_true h9; omega
    obtain ⟨e, he⟩ : ∃ e, l[i]? = some e := ⟨_, List.getElem?_eq_getElem h9'⟩
    obtain ⟨gb, off, cap, hv, hra, hc0, hc1⟩ := tree_at h1 he
    have htl : (putsE (l.take i)).length ≤ i := by have := makeE_len (l.take i); rw [List.length_take] at this; exact Nat.le_trans this (Nat.min_le_left _ _)
    refine swp_skip ?_
    refine then_n ?_
    refine swp_seq ?_
    refine swp_block ?_
    refine swp_seq ?_
    refine swp_seq ?_
    refine swp_region ?_
    refine s_pu (pu_move rfl) ?_
    refine s_pu (pu_move rfl) ?_
    refine s_pu (pu_indexAddr (off + i * 2) (congrArg some hv) rfl (by omega) (by omega) (by rw [Int.toNat_natCast])) ?_
    first | refine s_pu (pu_fieldAddr0 rfl) ?_ | refine s_pu (pu_fieldAddr rfl) ?_
    refine s_rd (rd_ro rfl hc0) ?_
    refine s_pu (pu_strlen rfl) ?_
    refine s_pu (pu_gtr rfl rfl) ?_
    refine swl_sub _ (.cons (t := 0) rfl (.cons (t := 4) rfl (.cons (t := 5) rfl (.cons (t := 18) rfl .nil)))) ?_
    refine swl_nil ?_
    refine then_n ?_
    refine swp_cond (b := _) rfl (fun h18 => ?_) (fun h18 => ?_)
    · skip   -- 18 T
      refine swp_seq ?_
      refine swp_region ?_
      refine s_pu (pu_assign rfl) ?_
      refine s_pu (pu_assign rfl) ?_
      refine swl_sub _ (.cons (t := 2) rfl (.cons (t := 3) rfl .nil)) ?_
      refine swl_nil ?_
      refine then_n ?_
      refine swp_ret ?_
      refine then_r ?_
      refine block_r ?_
      refine then_r ?_
      refine then_r ?_
      refine block_r ?_
      refine then_r ?_
      exact done_ret [ro μ1] (.tmp rfl (.tmp rfl .nil)) ⟨.slice none 0 0, 5, μ1, rfl, hle, fun h => (by cases h), ⟨_, _, _, rfl⟩, rfl⟩ (by repeat (first | exact Split.nil | (apply Split.cons; (repeat (first | with_reducible exact Take.here | apply Take.there)))))
    · skip   -- 18 F
      have hes : ¬ 255 < e.1.size := by have := of_decide_eq_false h18; omega
      refine swp_skip ?_
      refine then_n ?_
      refine swp_draw [5, 10] _ [] (by simp only [List.append_nil]; exact Ent.refl _) (by kernel_rfl) ?_
      refine d_pu 0 rfl (pu_move rfl) (by kernel_rfl) (by kernel_rfl) (by kernel_rfl) ?_
      refine d_pu 1 rfl (pu_move rfl) (by kernel_rfl) (by kernel_rfl) (by kernel_rfl) ?_
      refine d_pu 2 rfl (pu_move rfl) (by kernel_rfl) (by kernel_rfl) (by kernel_rfl) ?_
      refine d_pu 3 rfl (pu_indexAddr (off + i * 2) (congrArg some hv) rfl (by omega) (by omega) (by rw [Int.toNat_natCast])) (by kernel_rfl) (by kernel_rfl) (by kernel_rfl) ?_
      first | refine d_pu 4 rfl (pu_fieldAddr0 rfl) (by kernel_rfl) (by kernel_rfl) (by kernel_rfl) ?_ | refine d_pu 4 rfl (pu_fieldAddr rfl) (by kernel_rfl) (by kernel_rfl) (by kernel_rfl) ?_
      refine d_rd 5 rfl (rd_ro rfl hc0) rfl (by kernel_rfl) (by kernel_rfl) (by kernel_rfl) ?_
      refine d_pu 6 rfl (pu_move rfl) (by kernel_rfl) (by kernel_rfl) (by kernel_rfl) ?_
      refine d_pu 7 rfl (pu_move rfl) (by kernel_rfl) (by kernel_rfl) (by kernel_rfl) ?_
      refine d_pu 8 rfl (pu_indexAddr (off + i * 2) (congrArg some hv) rfl (by omega) (by omega) (by rw [Int.toNat_natCast])) (by kernel_rfl) (by kernel_rfl) (by kernel_rfl) ?_
      first | refine d_pu 9 rfl (pu_fieldAddr0 rfl) (by kernel_rfl) (by kernel_rfl) (by kernel_rfl) ?_ | refine d_pu 9 rfl (pu_fieldAddr rfl) (by kernel_rfl) (by kernel_rfl) (by kernel_rfl) ?_
      refine d_rd 10 rfl (rd_ro rfl hc1) rfl (by kernel_rfl) (by kernel_rfl) (by kernel_rfl) ?_
      first | refine d_fint 11 rfl (by kernel_rfl) (by kernel_rfl) (ef_fn (put_spec μ1 tv _ e.1 e.2 hrow (by omega) (by omega)) rfl rfl (by repeat (first | exact Split.nil | (apply Split.cons; (repeat (first | with_reducible exact Take.here | apply Take.there)))))) ?_ | refine d_finf 11 rfl (by kernel_rfl) (by kernel_rfl) (ef_fn (put_spec μ1 tv _ e.1 e.2 hrow (by omega) (by omega)) rfl rfl (by repeat (first | exact Split.nil | (apply Split.cons; (repeat (first | with_reducible exact Take.here | apply Take.there)))))) ?_
      rintro v30 L1 rfl
      refine swd_app ?_
      refine d_pu 12 rfl (pu_assign rfl) (by kernel_rfl) (by kernel_rfl) (by kernel_rfl) ?_
      refine d_sub _ (.cons (t := 0) rfl (.cons (t := 4) rfl (.cons (t := 5) rfl .nil))) ?_
      first | refine d_nilt (by kernel_rfl) ?_ | refine d_nilf (by kernel_rfl) ?_
      refine block_n ?_
      refine then_n ?_
      refine swp_share_own (v := v30) (μ := μ1) (by repeat (first | exact Split.nil | (apply Split.cons; (repeat (first | with_reducible exact Take.here | apply Take.there))))) fun μ2 h2 hrow2 => ?_
      rw [← putsE_succ he] at hrow2
      refine swp_region ?_
      refine s_pu (pu_move rfl) ?_
      refine s_pu (pu_add_as ((i + 1 : Nat) : Int) rfl rfl (by omega) (by omega) (by omega)) ?_
      refine s_pu (pu_assign rfl) ?_
      refine swl_sub _ (.cons (t := 0) rfl (.cons (t := 4) rfl (.cons (t := 5) rfl .nil))) ?_
      refine swl_nil ?_
      exact then_n ⟨(i + 1, μ2, v30), ⟨⟨rfl, rfl, rfl, trivial⟩, rfl, h9', hle.trans h2, hrow2⟩, by show l.length - (i + 1) < l.length - i; omega⟩
  · skip   -- 9 F
    have h9' := of_decide_eq_false h9
    obtain rfl : i = l.length := by omega
    rw [List.take_length] at hrow
    refine swp_exit ?_
    refine then_x ?_
    refine then_x ?_
    refine block_hit rfl ?_
    refine then_n ?_
    refine swp_seq ?_
    refine swp_region ?_
    refine s_pu (pu_move rfl) ?_
    refine s_pu (pu_assign rfl) ?_
    refine s_pu (pu_assign rfl) ?_
    refine swl_sub _ (.cons (t := 2) rfl (.cons (t := 3) rfl .nil)) ?_
    refine swl_nil ?_
    refine then_n ?_
    refine swp_ret ?_
    exact done_ret [ro μ1] (.tmp rfl (.tmp rfl .nil)) ⟨tv, 0, μ1, rfl, hle, fun _ => hrow, by obtain ⟨A, c, h⟩ := hrow.sl; exact ⟨A, _, c, h⟩, rfl⟩ (by repeat (first | exact Split.nil | (apply Split.cons; (repeat (first | with_reducible exact Take.here | apply Take.there)))))
end SX
namespace SX
open Go Go.Proofs
abbrev fullN : ByteArray := ⟨#[102, 117, 108, 108]⟩
def nm2 (two : Bool) : List Nm := if two = true then [(logN, 0), (fullN, 1)] else [(logN, 0)]
def pn2 (two : Bool) : List Cg := if two = true then [⟨nos, fullN, 1⟩] else [⟨nos, fullN, 1⟩, ⟨fullN, nos, 0⟩]
/-- a disk of a log and another file, whose name may be gone -/
def d2 (q : Int) (B : List UInt8) (k : Nat) (F : List UInt8) (two : Bool) : Dk := ⟨q, [⟨B, k⟩, ⟨F, 0⟩], nm2 two, [(logN, 0)], pn2 two, 0, false⟩
def ex2 (F : List UInt8) (two : Bool) : Nat := if two = true then F.length else 0
section
variable {q : Int} {B : List UInt8} {k : Nat} {F : List UInt8} {two : Bool}
theorem d2_find : findN (d2 q B k F two).seen logN = some 0 := by
  cases two <;> (show findN ((logN, 0) :: _) logN = some 0; unfold findN; rw [if_pos (strEq_refl _)])
theorem d2_used : (d2 q B k F two).used = B.length + ex2 F two := by
  cases two <;> rfl
theorem d2_off : ¬ (d2 q B k F two).off = true := by show ¬ false = true; decide
theorem d2_falls : (d2 q B k F two).falls ≠ 1 := by show (0 : Int) ≠ 1; decide
theorem d2_append {t : List UInt8} : appendD (d2 q B k F two) logN t = if 0 < t.length ∧ q < ((B.length + ex2 F two : Nat) : Int) + t.length then (d2 q B k F two, 7) else (d2 q (B ++ t) k F two, 0) := by
  unfold appendD onFile
  rw [if_neg d2_off, d2_find]
  dsimp only
  rw [d2_used, show (d2 q B k F two).quota = q from rfl]
  by_cases h : 0 < t.length ∧ q < ((B.length + ex2 F two : Nat) : Int) + t.length
  · rw [if_pos h, if_pos h]
  · rw [if_neg h, if_neg h, atStepN d2_falls]; rfl
theorem d2_sync : syncD (d2 q B k F two) logN = (d2 q B B.length F two, 0) := by
  unfold syncD onFile
  rw [if_neg d2_off, d2_find]
  dsimp only
  rw [atStepN d2_falls]; rfl
theorem d2_write {f : Fm} : writeD (d2 q B B.length F two) f = if q < ((B.length + ex2 F two : Nat) : Int) + ((f.2.length + 9 : Nat) : Int) then (d2 q B B.length F two, 7) else (d2 q (B ++ encFm f) (B ++ encFm f).length F two, 0) := by
  unfold writeD
  by_cases h : q < ((B.length + ex2 F two : Nat) : Int) + ((f.2.length + 9 : Nat) : Int)
  · have ha : appendD (d2 q B B.length F two) logN (encFm f) = (d2 q B B.length F two, 7) := by
      rw [d2_append, encFm_len, if_pos ⟨by omega, h⟩]
    rw [ha, if_pos (show (7 : Int) ≠ 0 by decide), if_pos h]
  · have ha : appendD (d2 q B B.length F two) logN (encFm f) = (d2 q (B ++ encFm f) B.length F two, 0) := by
      rw [d2_append, encFm_len, if_neg (fun k => h k.2)]
    rw [ha, if_neg (fun k => k rfl), if_neg h]
    exact d2_sync
theorem d2_addT {s : St2} {t : List En} (h0 : encErr t = 0) (hn : s.1.length < 65536) : addT ⟨d2 q B B.length F two, s, false⟩ t = if q < ((B.length + ex2 F two : Nat) : Int) + (((encT t).length + 9 : Nat) : Int) then ((⟨d2 q B B.length F two, s, false⟩ : PSt), (0 : Int), (7 : Int)) else ((⟨d2 q (B ++ encFm (1, encT t)) (B ++ encFm (1, encT t)).length F two, (s.1 ++ [t], s.2), false⟩ : PSt), ((s.1.length : Nat) : Int), (0 : Int)) := by
  have hw := d2_write (q := q) (B := B) (F := F) (two := two) (f := (1, encT t))
  unfold addT
  by_cases h : q < ((B.length + ex2 F two : Nat) : Int) + (((encT t).length + 9 : Nat) : Int)
  · rw [if_pos h] at hw
    rw [if_pos h, addR_wr (x := ⟨d2 q B B.length F two, s, false⟩) rfl h0 hn (by rw [hw]; show (7 : Int) ≠ 0; decide), hw]
    rfl
  · rw [if_neg h] at hw
    rw [if_neg h, addR_ok (x := ⟨d2 q B B.length F two, s, false⟩) rfl h0 hn (by rw [hw]), hw]
theorem d2_create : createD (lg q []) fullN = (d2 q [] 0 [] true, 0) := by kernel_rfl
theorem d2_fill {m : Nat} (h : (m : Int) ≤ q) : appendD (d2 q [] 0 [] true) fullN (List.replicate m 0) = (d2 q [] 0 (List.replicate m 0) true, 0) := by
  unfold appendD onFile
  have e : findN (d2 q [] 0 [] true).seen fullN = some 1 := by kernel_rfl
  rw [if_neg d2_off, e]
  dsimp only
  rw [d2_used, List.length_replicate, if_neg (by rintro ⟨_, h2⟩; have h2 : q < ((0 + 0 : Nat) : Int) + m := h2; omega), atStepN d2_falls]
  rfl
theorem d2_remove : removeD (d2 q B k F true) fullN = (d2 q B k F false, 0) := by
  unfold removeD onFile
  have e : findN (d2 q B k F true).seen fullN = some 1 := by
    show findN [(logN, 0), (fullN, 1)] fullN = some 1
    kernel_rfl
  rw [if_neg d2_off, e]
  dsimp only
  rw [atStepN d2_falls]
  have e2 : chgN [(logN, 0), (fullN, 1)] ⟨fullN, nos, 0⟩ = [(logN, 0)] := by kernel_rfl
  show ((⟨q, [⟨B, k⟩, ⟨F, 0⟩], chgN [(logN, 0), (fullN, 1)] ⟨fullN, nos, 0⟩, [(logN, 0)], [⟨nos, fullN, 1⟩, ⟨fullN, nos, 0⟩], 0, false⟩ : Dk), (0 : Int)) = _
  rw [e2]; rfl
theorem d2_read : readD (d2 q B k F two) logN = (B, 0) := by
  unfold readD
  rw [if_neg d2_off, d2_find]; rfl
theorem d2_names : (syncNamesD (d2 q B k F two)).2 = 0 := by
  unfold syncNamesD
  rw [if_neg d2_off, atStepN d2_falls]
theorem d2_few : Few (d2 q B k F two) := by
  cases two
  · exact ⟨by show 2 ≤ 1000000; decide, by show 2 ≤ 1000000; decide⟩
  · exact ⟨by show 2 ≤ 1000000; decide, by show 1 ≤ 1000000; decide⟩
end
/-- a log of one tree, again and again -/
abbrev reps (g : List En) (n : Nat) : List Fm := List.replicate n (1, encT g)
theorem d2_stands {g : List En} (h0 : encErr g = 0) (hu : U32s g) {n : Nat} (hn : n ≤ 60000) : stands ([], []) (reps g n) = some (List.replicate n g, []) := by
  induction n with
  | zero => rfl
  | succ n ih =>
    unfold reps
    rw [List.replicate_succ', List.replicate_succ']
    exact stands_snoc (ih (by omega)) (stand_tree (s := (List.replicate n g, [])) h0 hu (by show (List.replicate n g).length < 65536; rw [List.length_replicate]; omega))
theorem reps_good {g : List En} (h0 : encErr g = 0) (n : Nat) : ∀ f ∈ reps g n, GoodF f := fun f hf => by
  rw [(List.mem_replicate.1 hf).2]
  exact good_tree h0
theorem reps_size (g : List En) (n : Nat) : (encL (reps g n)).length = n * ((encT g).length + 9) := by
  rw [encL_len]
  unfold sizeF reps
  rw [List.map_replicate, List.sum_replicate_nat]
theorem d2_opened {q : Int} {F : List UInt8} {l : List Fm} {s : St2} (hg : ∀ f ∈ l, GoodF f) (hs : stands ([], []) l = some s) : openS (d2 q (encL l) (encL l).length F false) = s ∧ (openD (d2 q (encL l) (encL l).length F false)).2 = 0 := by
  constructor
  · unfold openS
    rw [d2_read]
    dsimp only
    rw [scan_encl hg, runS_all hs]
  · unfold openD
    rw [d2_read]
    dsimp only
    rw [if_neg (by decide), if_neg (fun k => k rfl), scan_encl hg, runS_all hs]
    dsimp only
    rw [← encL_len]
    unfold settleD cutRest
    rw [if_pos rfl, if_neg (fun k => k rfl)]
    dsimp only
    rw [d2_sync, if_neg (fun k => k rfl)]
    exact d2_names
abbrev lastE : List En := [(⟨#[108, 97, 115, 116]⟩, 1)]
theorem last_err : encErr lastE = 0 := by decide
theorem last_u32 : U32s lastE := fun e he => by
  obtain rfl : e = (⟨#[108, 97, 115, 116]⟩, 1) := by simpa using he
  exact ⟨by decide, by decide⟩
theorem last_len : (encT lastE).length = 12 := by
  unfold encT
  rw [List.length_append, numB_len]
  show 2 + (encE1 [] _ ++ []).length = 12
  rw [List.append_nil]
  unfold encE1
  simp only [List.length_append, numB_len, List.length_drop]
  have : lcp [] (bts ((⟨#[108, 97, 115, 116]⟩, 1) : En)) = 0 := by
    have := lcp_left [] (bts ((⟨#[108, 97, 115, 116]⟩, 1) : En)); simpa using this
  rw [this]
  rfl
/-- an AddTree on such a disk -/
theorem lim_add (μ : PH) (p : Nat) (W : SW) (hW : W.Ok μ) (q : Nat) (Q : Int) (B F : List UInt8) (two : Bool) (s : St2) (hq : W.q = q) (hp : W.pl = s) (hd : W.dead = false) (hok : (d2 Q B B.length F two).Ok) (v : Value) (t : List En) (hv : Row μ v 2 t.length (ens t)) (hu : U32s t) (h0 : encErr t = 0) (hn : s.1.length < 65536) :
    Spec Try.prog 11 [pv p, v] [FSA q (d2 Q B B.length F two), stH p W, ttA W, ccA W, ro μ] (fun r L => ∃ W' μ' B' k e, Le μ μ' ∧ W'.Ok μ' ∧ W'.q = q ∧ W'.dead = false ∧ (d2 Q B' B'.length F two).Ok ∧
      ((e = 7 ∧ k = 0 ∧ B' = B ∧ W'.pl = s ∧ Q < ((B.length + ex2 F two : Nat) : Int) + (((encT t).length + 9 : Nat) : Int)) ∨ (e = 0 ∧ k = ((s.1.length : Nat) : Int) ∧ B' = B ++ encFm (1, encT t) ∧ W'.pl = (s.1 ++ [t], s.2) ∧ ¬ Q < ((B.length + ex2 F two : Nat) : Int) + (((encT t).length + 9 : Nat) : Int))) ∧
      r = .tuple #[.int .i64 k, .int .i64 e] ∧ L = [FSA q (d2 Q B' B'.length F two), stH p W', ttA W', ccA W', ro μ']) := by
  subst hq hp
  refine Spec.mono (addtree_spec μ p W hW _ hok v t hv hu) ?_
  rintro r L ⟨W', μ', ⟨l1, h2, h3, h4, h5, rfl⟩, rfl⟩
  have ho := addT_ok (x := ⟨d2 Q B B.length F two, W.pl, false⟩) hok t
  rw [hd] at h4 h5 ⊢
  have ha := d2_addT (q := Q) (B := B) (F := F) (two := two) h0 hn
  rw [ha] at h4 h5 ho ⊢
  by_cases h : Q < ((B.length + ex2 F two : Nat) : Int) + (((encT t).length + 9 : Nat) : Int)
  · rw [if_pos h] at h4 h5 ho ⊢
    exact ⟨W', μ', B, 0, 7, l1, h2, h3, h5, ho, .inl ⟨rfl, rfl, rfl, h4, h⟩, rfl, by rw [h3]⟩
  · rw [if_neg h] at h4 h5 ho ⊢
    exact ⟨W', μ', _, _, 0, l1, h2, h3, h5, ho, .inr ⟨rfl, rfl, rfl, h4, h⟩, rfl, by rw [h3]⟩
end SX
namespace SX
open Go Go.Proofs
theorem min_step {i n N : Nat} (h : n = min i N) (hN : n < N) : i = n ∧ n + 1 = min (i + 1) N := by omega
theorem min_stay {i n N : Nat} (h : n = min i N) (hN : N ≤ n) : n = min (i + 1) N := by omega
theorem room_iff {R sz n : Nat} (h : 0 < sz) : R / sz ≤ n ↔ R < (n + 1) * sz := by
  rw [← Nat.lt_succ_iff, Nat.div_lt_iff_lt_mul h]
set_option maxHeartbeats 16000000 in
theorem storelimits_spec (μ : PH) (rm : Int) (v1 : Value) (xs : List En) (hr : 0 ≤ rm ∧ rm ≤ 65535) (hrow1 : Row μ v1 2 xs.length (ens xs)) (hu : U32s xs) (hsz : xs.length ≤ 5864062014634) :
    Spec Try.prog 3 [.int .u16 rm, v1] [ro μ] (fun r L => r = .bool true ∧ ∃ μ' R, Le μ μ' ∧ L = ro μ' :: R) := by
  obtain ⟨rn, rfl⟩ : ∃ n : Nat, rm = (n : Int) := ⟨rm.toNat, by omega⟩
  obtain ⟨RR, hRR⟩ : ∃ R, R = rn % 3000 := ⟨_, rfl⟩
  obtain ⟨m, hm⟩ : ∃ m, m = 3000 - RR := ⟨_, rfl⟩
  have hR3 : RR < 3000 := by rw [hRR]; exact Nat.mod_lt _ (by decide)
  have hn0 : (newD 3000).Ok := newD_ok (by decide)
  have ho0 : (lg 3000 []).Ok := by have := open_ok hn0; rw [lg_open] at this; exact this
  have ho1 : (d2 3000 [] 0 [] true).Ok := by have := createD_ok ho0 fullN; rw [d2_create] at this; exact this
  have hmz : (m : Int) ≤ 3000 := by omega
  have ho2 : (d2 3000 [] 0 (List.replicate m 0) true).Ok := by have := appendD_ok ho1 fullN (List.replicate m 0); rw [d2_fill hmz] at this; exact this
  refine Spec.of 163 Try.func3 rfl rfl rfl ?_
  refine swp_seq ?_
  refine swp_region ?_
  refine s_pu (pu_assign rfl) ?_
  refine swl_sub _ (.cons (t := 0) rfl (.cons (t := 1) rfl .nil)) ?_
  refine swl_nil ?_
  refine then_n ?_
  refine swp_seq ?_
  refine swp_seq ?_
  refine swp_region ?_
  refine s_ef (ef_fn opens_spec rfl rfl (by repeat (first | exact Split.nil | (apply Split.cons; (repeat (first | with_reducible exact Take.here | apply Take.there)))))) ?_
  rintro v18 L1 ⟨rfl, rfl⟩
  refine swl_app ?_
  refine s_pu (pu_not rfl) ?_
  refine swl_sub _ (.cons (t := 0) rfl (.cons (t := 1) rfl (.cons (t := 20) rfl .nil))) ?_
  refine swl_nil ?_
  refine then_n ?_
  refine swp_cond (b := _) rfl (fun h20 => by cases h20) (fun h20 => ?_)
  refine swp_skip ?_
  refine then_n ?_
  refine swp_seq ?_
  refine swp_region ?_
  refine s_ef (ef_fn (new_spec 3000) rfl rfl (by repeat (first | exact Split.nil | (apply Split.cons; (repeat (first | with_reducible exact Take.here | apply Take.there)))))) ?_
  rintro v22 L1 hnw
  obtain ⟨q, rfl, rfl⟩ : ∃ q, v22 = .tuple #[pv q, .int .i64 0] ∧ L1 = [FSA q (newD 3000)] := by
    rcases hnw with ⟨h, _⟩ | ⟨_, q, h1, h2⟩
    · exact absurd (show newOk 3000 from ⟨by decide, by decide⟩) h
    · exact ⟨q, h1, h2⟩
  clear hnw
  refine swl_app ?_
  refine s_pu (pu_move rfl) ?_
  first | refine s_pu (pu_extractL rfl) ?_ | refine s_pu (pu_extract rfl rfl) ?_
  first | refine s_pu (pu_extractL rfl) ?_ | refine s_pu (pu_extract rfl rfl) ?_
  refine s_pu (pu_assign rfl) ?_
  refine s_pu (pu_assign rfl) ?_
  refine swl_sub _ (.cons (t := 0) rfl (.cons (t := 1) rfl (.cons (t := 5) rfl .nil))) ?_
  refine swl_nil ?_
  refine then_n ?_
  refine swp_seq ?_
  refine swp_region ?_
  refine s_pu (pu_move rfl) ?_
  refine s_ef (ef_fn (open_spec μ q (newD 3000) hn0 ⟨by decide, by decide⟩) rfl rfl (by repeat (first | exact Split.nil | (apply Split.cons; (repeat (first | with_reducible exact Take.here | apply Take.there)))))) ?_
  rintro v27 L1 ⟨p, W0, μ0, e, hq, rfl, rfl⟩
  obtain ⟨l0, hW0, hq0, hd0, he, hpl⟩ := hq
  rw [lg_open] at he
  rw [lg_open]
  dsimp only at he ⊢
  subst he
  have hpl0 : W0.pl = ([], []) := by rw [hpl rfl, lg_openS]
  clear hpl
  refine swl_app ?_
  refine s_pu (pu_move rfl) ?_
  first | refine s_pu (pu_extractL rfl) ?_ | refine s_pu (pu_extract rfl rfl) ?_
  first | refine s_pu (pu_extractL rfl) ?_ | refine s_pu (pu_extract rfl rfl) ?_
  refine s_pu (pu_assign rfl) ?_
  refine s_pu (pu_assign rfl) ?_
  refine swl_sub _ (.cons (t := 0) rfl (.cons (t := 1) rfl (.cons (t := 5) rfl (.cons (t := 7) rfl (.cons (t := 8) rfl .nil))))) ?_
  refine swl_nil ?_
  refine then_n ?_
  refine swp_seq ?_
  refine swp_seq ?_
  refine swp_region ?_
  refine s_pu (pu_move rfl) ?_
  refine s_pu (pu_ptr_eq_nil rfl rfl) ?_
  refine s_pu (pu_move rfl) ?_
  refine s_on rfl rfl ?_
  refine s_pu (pu_move rfl) ?_
  refine s_on rfl rfl ?_
  refine s_pu (pu_neq rfl rfl) ?_
  first | refine s_pu (pu_pick_t rfl rfl) ?_ | refine s_pu (pu_pick_f rfl rfl) ?_
  refine s_pu (pu_move rfl) ?_
  refine s_on rfl rfl ?_
  refine s_pu (pu_move rfl) ?_
  refine s_on rfl rfl ?_
  refine s_ef (ef_fn (create_spec q (lg 3000 []) ho0 ⟨by show 1 ≤ 1000000; decide, by show 0 ≤ 1000000; decide⟩ fullN) rfl rfl (by repeat (first | exact Split.nil | (apply Split.cons; (repeat (first | with_reducible exact Take.here | apply Take.there)))))) ?_
  rintro v38 L1 ⟨rfl, rfl⟩
  rw [d2_create]
  dsimp only
  refine swl_app ?_
  refine s_on rfl rfl ?_
  refine s_pu (pu_neq rfl rfl) ?_
  first | refine s_pu (pu_pick_t rfl rfl) ?_ | refine s_pu (pu_pick_f rfl rfl) ?_
  refine s_pu (pu_move rfl) ?_
  refine s_on rfl rfl ?_
  refine s_pu (pu_move rfl) ?_
  refine s_on rfl rfl ?_
  refine s_pu (pu_move rfl) ?_
  refine s_on rfl rfl ?_
  refine s_pu (pu_conv_i64 rfl (by omega) (by omega)) ?_
  refine s_on rfl rfl ?_
  refine s_pu (pu_rem_nat (a := rn) (b := 3000) rfl rfl (by decide)) ?_
  refine s_on rfl rfl ?_
  refine s_pu (pu_sub_as ((m : Nat) : Int) rfl rfl (by omega) (by omega) (by omega)) ?_
  refine s_on rfl rfl ?_
  refine s_ef (ef_make1 m rfl rfl rfl (by omega) (by simp only [maxLen]; omega)) ?_
  rintro b47
  have hbz : List.replicate m (Value.int .u8 0) = bcs (List.replicate m 0) ++ [] := by
    rw [List.append_nil]
    clear hm hmz ho2
    induction m with
    | zero => rfl
    | succ k ih => rw [List.replicate_succ, List.replicate_succ, ih]; rfl
  rw [hbz]
  refine s_on rfl rfl ?_
  refine s_rd (rd_bytes (List.replicate m 0) (by rw [List.length_replicate]; rfl) (by repeat (first | with_reducible exact Take.here | apply Take.there))) ?_
  rw [show (⟨(List.replicate m (0 : UInt8)).toArray⟩ : ByteArray) = str (List.replicate m 0) from rfl]
  refine s_on rfl rfl ?_
  refine s_ef (ef_fn (append_l q (d2 3000 [] 0 [] true) ho1 fullN (List.replicate m 0) (by rw [List.length_replicate]; omega)) rfl rfl (by repeat (first | exact Split.nil | (apply Split.cons; (repeat (first | with_reducible exact Take.here | apply Take.there)))))) ?_
  rintro v49 L1 ⟨rfl, rfl⟩
  rw [d2_fill hmz]
  dsimp only
  refine swl_app ?_
  refine s_on rfl rfl ?_
  refine s_pu (pu_neq rfl rfl) ?_
  first | refine s_pu (pu_pick_t rfl rfl) ?_ | refine s_pu (pu_pick_f rfl rfl) ?_
  refine swl_sub _ (.cons (t := 0) rfl (.cons (t := 1) rfl (.cons (t := 5) rfl (.cons (t := 7) rfl (.cons (t := 51) rfl .nil))))) ?_
  refine swl_nil ?_
  refine then_n ?_
  refine swp_cond (b := _) rfl (fun h51 => by cases h51) (fun h51 => ?_)
  refine swp_skip ?_
  refine then_n ?_
  refine swp_seq ?_
  refine swp_region ?_
  refine s_pu (pu_move rfl) ?_
  refine s_ef (ef_fn (make2_spec μ0 v1 xs (hrow1.le l0) hsz) rfl rfl (by repeat (first | exact Split.nil | (apply Split.cons; (repeat (first | with_reducible exact Take.here | apply Take.there)))))) ?_
  rintro v54 L1 ⟨tv, me, μ1, rfl, l1, hrow2, ⟨gA, gn, gc, rfl⟩, rfl⟩
  refine swl_app ?_
  refine s_pu (pu_move rfl) ?_
  first | refine s_pu (pu_extractL rfl) ?_ | refine s_pu (pu_extract rfl rfl) ?_
  first | refine s_pu (pu_extractL rfl) ?_ | refine s_pu (pu_extract rfl rfl) ?_
  refine s_pu (pu_assign rfl) ?_
  refine s_pu (pu_assign rfl) ?_
  refine swl_sub _ (.cons (t := 0) rfl (.cons (t := 5) rfl (.cons (t := 7) rfl (.cons (t := 8) rfl (.cons (t := 9) rfl .nil))))) ?_
  refine swl_nil ?_
  refine then_n ?_
  refine swp_seq ?_
  refine swp_seq ?_
  refine swp_region ?_
  refine s_pu (pu_move rfl) ?_
  refine s_pu (pu_neq rfl rfl) ?_
  refine s_pu (pu_move rfl) ?_
  refine s_split 59 rfl (fun h59 => ?_) (fun h59 => ?_)
  · skip   -- 59 T
    refine s_off rfl rfl rfl ?_
    refine s_off rfl rfl rfl ?_
    refine s_off rfl rfl rfl ?_
    first | refine s_pu (pu_pick_t rfl rfl) ?_ | refine s_pu (pu_pick_f rfl rfl) ?_
    refine swl_sub _ (.cons (t := 0) rfl (.cons (t := 5) rfl (.cons (t := 7) rfl (.cons (t := 9) rfl (.cons (t := 63) rfl .nil))))) ?_
    refine swl_nil ?_
    refine then_n ?_
    refine swp_cond (b := _) rfl (fun h63 => ?_) (fun h63 => by cases h63)
    refine swp_seq ?_
    refine swp_region ?_
    refine s_pu (pu_assign rfl) ?_
    refine swl_sub _ (.cons (t := 4) rfl .nil) ?_
    refine swl_nil ?_
    refine then_n ?_
    refine swp_ret ?_
    refine then_r ?_
    exact done_retE [ro μ1] (.tmp rfl .nil) ⟨rfl, μ1, [], l0.trans l1, rfl⟩ (Split.ent' (by repeat (first | exact Split.nil | (apply Split.cons; (repeat (first | with_reducible exact Take.here | apply Take.there))))))
  · skip   -- 59 F
    have hme : me = 0 := by simpa using h59
    subst hme
    replace hrow2 := hrow2 rfl
    have hGT := good_make xs
    have hgu : U32s (makeE xs) := u32s_make xs [] (fun e he => by cases he) hu
    obtain rfl : gn = (makeE xs).length := by obtain ⟨A, c, h⟩ := hrow2.sl; cases h; rfl
    generalize makeE xs = g at *
    refine s_on rfl rfl ?_
    refine s_pu (pu_move rfl) ?_
    refine s_on rfl rfl ?_
    refine s_pu (pu_len rfl) ?_
    refine s_on rfl rfl ?_
    refine s_pu (pu_gtr rfl rfl) ?_
    first | refine s_pu (pu_pick_t rfl rfl) ?_ | refine s_pu (pu_pick_f rfl rfl) ?_
    refine swl_sub _ (.cons (t := 0) rfl (.cons (t := 5) rfl (.cons (t := 7) rfl (.cons (t := 9) rfl (.cons (t := 63) rfl .nil))))) ?_
    refine swl_nil ?_
    refine then_n ?_
    refine swp_cond (b := _) rfl (fun h63 => ?_) (fun h63 => ?_)
    · skip   -- 63 T
      refine swp_seq ?_
      refine swp_region ?_
      refine s_pu (pu_assign rfl) ?_
      refine swl_sub _ (.cons (t := 4) rfl .nil) ?_
      refine swl_nil ?_
      refine then_n ?_
      refine swp_ret ?_
      refine then_r ?_
      exact done_retE [ro μ1] (.tmp rfl .nil) ⟨rfl, μ1, [], l0.trans l1, rfl⟩ (Split.ent' (by repeat (first | exact Split.nil | (apply Split.cons; (repeat (first | with_reducible exact Take.here | apply Take.there))))))
    · skip   -- 63 F
      have h20g : g.length ≤ 20 := by have := of_decide_eq_false h63; omega
      have h0 := good_encErr hGT (by omega)
      obtain ⟨sz, hsz2⟩ : ∃ s, s = (encT g).length + 9 := ⟨_, rfl⟩
      have hszl := encT_len h0
      obtain ⟨NN, hNN⟩ : ∃ N, N = RR / sz := ⟨_, rfl⟩
      have hNl : NN ≤ 3000 := by rw [hNN]; exact Nat.le_trans (Nat.div_le_self _ _) (by omega)
      refine swp_skip ?_
      refine then_n ?_
      refine swp_seq ?_
      refine swp_region ?_
      refine s_pu (pu_assign rfl) ?_
      refine s_pu (pu_assign rfl) ?_
      refine swl_sub _ (.cons (t := 0) rfl (.cons (t := 5) rfl (.cons (t := 7) rfl (.cons (t := 9) rfl (.cons (t := 10) rfl (.cons (t := 11) rfl .nil)))))) ?_
      refine swl_nil ?_
      refine then_n ?_
      refine swp_seq ?_
      refine swp_seq ?_
      refine swp_region ?_
      refine s_pu (pu_move rfl) ?_
      refine swl_sub _ (.cons (t := 0) rfl (.cons (t := 5) rfl (.cons (t := 7) rfl (.cons (t := 9) rfl (.cons (t := 10) rfl (.cons (t := 11) rfl (.cons (t := 64) rfl .nil))))))) ?_
      refine swl_nil ?_
      refine then_n ?_
      refine swp_block ?_
      refine swp_loop (ι := Nat) (fun i env L => ∃ (n : Nat) (W : SW) (μ2 : PH), Sub env [(0, .int .u16 (rn : Nat)), (5, pv q), (7, pv p), (9, .slice gA g.length gc), (10, .int .i64 (n : Nat)), (11, .int .i64 ((i - n : Nat) : Int)), (64, .int .i64 (i : Nat))] ∧ Ent L [FSA q (d2 3000 (encL (reps g n)) (encL (reps g n)).length (List.replicate m 0) true), stH p W, ttA W, ccA W, ro μ2] ∧ i ≤ 12 ∧ n = min i NN ∧ Le μ1 μ2 ∧ (d2 3000 (encL (reps g n)) (encL (reps g n)).length (List.replicate m 0) true).Ok ∧ W.Ok μ2 ∧ W.q = q ∧ W.dead = false ∧ W.pl = (List.replicate n g, [])) (fun i => 12 - i) 0 ⟨0, W0, μ1, ⟨rfl, rfl, rfl, rfl, rfl, rfl, rfl, trivial⟩, by show Ent _ [FSA q (d2 3000 [] 0 (List.replicate m 0) true), stH p W0, ttA W0, ccA W0, ro μ1]; exact Split.ent' (by repeat (first | exact Split.nil | (apply Split.cons; (repeat (first | with_reducible exact Take.here | apply Take.there))))), Nat.zero_le _, by omega, Le.refl _, ho2, hW0.le l1, hq0, hd0, hpl0⟩ ?_
      clear hn0 ho0 ho1 ho2 hW0 hq0 hd0 hpl0
      rintro i env L ⟨n, W, μ2, hsub, hE, hi, hn, hle, hok, hWo, hWq, hWd, hWp⟩
      refine swp_sub _ hsub ?_
      refine swp_ent hE ?_
      clear hsub hE env L
      have hsl := reps_size g n
      refine swp_seq ?_
      refine swp_region ?_
      refine s_pu (pu_lss rfl rfl) ?_
      refine swl_sub _ (.cons (t := 0) rfl (.cons (t := 5) rfl (.cons (t := 7) rfl (.cons (t := 9) rfl (.cons (t := 10) rfl (.cons (t := 11) rfl (.cons (t := 64) rfl (.cons (t := 65) rfl .nil)))))))) ?_
      refine swl_nil ?_
      refine then_n ?_
      refine swp_seq ?_
      refine swp_cond (b := _) rfl (fun h65 => ?_) (fun h65 => ?_)
      · skip   -- 65 T
        have h65' : i < 12 := by have := of_decide_eq_true h65; omega
        have hln : ((List.replicate n g, []) : St2).1.length = n := List.length_replicate
        refine swp_skip ?_
        refine then_n ?_
        refine swp_seq ?_
        refine swp_block ?_
        refine swp_seq ?_
        refine swp_region ?_
        refine s_pu (pu_move rfl) ?_
        refine s_pu (pu_move rfl) ?_
        refine s_ef (ef_fn (lim_add μ2 p W hWo q 3000 (encL (reps g n)) (List.replicate m 0) true (List.replicate n g, []) hWq hWp hWd hok (.slice gA g.length gc) g (hrow2.le hle) hgu h0 (by rw [hln]; omega)) rfl rfl (by repeat (first | exact Split.nil | (apply Split.cons; (repeat (first | with_reducible exact Take.here | apply Take.there)))))) ?_
        rintro v69 L1 ⟨W', μ3, B', k, e, l3, hWo3, hWq3, hWd3, hok3, hcase, rfl, rfl⟩
        have hfits : (3000 : Int) < (((encL (reps g n)).length + ex2 (List.replicate m 0) true : Nat) : Int) + (((encT g).length + 9 : Nat) : Int) ↔ NN ≤ n := by
          rw [hNN, room_iff (by omega), hsl, ← hsz2, Nat.add_mul, Nat.one_mul]
          have : ex2 (List.replicate m 0) true = m := by show (List.replicate m (0 : UInt8)).length = m; rw [List.length_replicate]
          rw [this]
          generalize n * sz = z
          omega
        rw [hfits] at hcase
        clear hfits
        refine swl_app ?_
        refine s_pu (pu_move rfl) ?_
        first | refine s_pu (pu_extractL rfl) ?_ | refine s_pu (pu_extract rfl rfl) ?_
        first | refine s_pu (pu_extractL rfl) ?_ | refine s_pu (pu_extract rfl rfl) ?_
        refine s_pu (pu_assign rfl) ?_
        refine s_pu (pu_assign rfl) ?_
        refine swl_sub _ (.cons (t := 0) rfl (.cons (t := 5) rfl (.cons (t := 7) rfl (.cons (t := 9) rfl (.cons (t := 10) rfl (.cons (t := 11) rfl (.cons (t := 12) rfl (.cons (t := 13) rfl (.cons (t := 64) rfl .nil))))))))) ?_
        refine swl_nil ?_
        refine then_n ?_
        refine swp_cut (fun env L => ∃ n' : Nat, n' = min (i + 1) NN ∧ B' = encL (reps g n') ∧ W'.pl = (List.replicate n' g, []) ∧ Sub env [(0, .int .u16 (rn : Nat)), (5, pv q), (7, pv p), (9, .slice gA g.length gc), (10, .int .i64 (n' : Nat)), (11, .int .i64 ((i + 1 - n' : Nat) : Int)), (64, .int .i64 (i : Nat))] ∧ Ent L [FSA q (d2 3000 B' B'.length (List.replicate m 0) true), stH p W', ttA W', ccA W', ro μ3]) ?_ ?_
        · skip
          refine swp_block ?_
          refine swp_seq ?_
          refine swp_region ?_
          refine s_pu (pu_move rfl) ?_
          refine s_pu (pu_eql rfl rfl) ?_
          refine s_pu (pu_move rfl) ?_
          refine s_split 75 rfl (fun h75 => ?_) (fun h75 => ?_)
          · skip   -- 75 T
            have he0 : e = 0 := by simpa using h75
            obtain ⟨hk, hB, hp3, hfit⟩ : k = (n : Nat) ∧ B' = encL (reps g (n + 1)) ∧ W'.pl = (List.replicate (n + 1) g, []) ∧ n < NN := by
              rcases hcase with ⟨h, _⟩ | ⟨_, h1, h2, h3, h4⟩
              · rw [h] at he0; cases he0
              · refine ⟨by rw [h1, hln], ?_, ?_, by omega⟩
                · rw [h2]; unfold reps; rw [List.replicate_succ', encL_app, encL_one]
                · rw [h3, List.replicate_succ']
            obtain ⟨hin, hn'⟩ := min_step hn hfit
            refine s_on rfl rfl ?_
            refine s_pu (pu_move rfl) ?_
            refine s_on rfl rfl ?_
            refine s_pu (pu_move rfl) ?_
            refine s_on rfl rfl ?_
            refine s_pu (pu_eql rfl rfl) ?_
            first | refine s_pu (pu_pick_t rfl rfl) ?_ | refine s_pu (pu_pick_f rfl rfl) ?_
            refine s_pu (pu_move rfl) ?_
            refine s_split 80 rfl (fun h80 => ?_) (fun h80 => by rw [hk] at h80; simp at h80)
            refine s_on rfl rfl ?_
            refine s_pu (pu_move rfl) ?_
            refine s_on rfl rfl ?_
            refine s_pu (pu_eql rfl rfl) ?_
            first | refine s_pu (pu_pick_t rfl rfl) ?_ | refine s_pu (pu_pick_f rfl rfl) ?_
            refine s_pu (pu_assign rfl) ?_
            refine swl_sub _ (.cons (t := 0) rfl (.cons (t := 5) rfl (.cons (t := 7) rfl (.cons (t := 9) rfl (.cons (t := 10) rfl (.cons (t := 11) rfl (.cons (t := 12) rfl (.cons (t := 13) rfl (.cons (t := 64) rfl (.cons (t := 72) rfl .nil)))))))))) ?_
            refine swl_nil ?_
            refine then_n ?_
            refine swp_cond (b := _) rfl (fun h72 => ?_) (fun h72 => by rw [hin] at h72; simp at h72)
            refine swp_region ?_
            refine s_pu (pu_move rfl) ?_
            refine s_pu (pu_add_as ((n + 1 : Nat) : Int) rfl rfl (by omega) (by omega) (by omega)) ?_
            refine s_pu (pu_assign rfl) ?_
            refine swl_sub _ (.cons (t := 0) rfl (.cons (t := 5) rfl (.cons (t := 7) rfl (.cons (t := 9) rfl (.cons (t := 10) rfl (.cons (t := 11) rfl (.cons (t := 64) rfl .nil))))))) ?_
            refine swl_nil ?_
            refine block_n ?_
            exact then_n ⟨n + 1, hn', hB, hp3, ⟨rfl, rfl, rfl, rfl, rfl, by rw [show i + 1 - (n + 1) = i - n by omega]; rfl, rfl, trivial⟩, Split.ent' (by repeat (first | exact Split.nil | (apply Split.cons; (repeat (first | with_reducible exact Take.here | apply Take.there)))))⟩
          · skip   -- 75 F
            have he0 : ¬ e = 0 := by simpa using h75
            obtain ⟨he7, hk, hB, hp3, hfit⟩ : e = 7 ∧ k = 0 ∧ B' = encL (reps g n) ∧ W'.pl = (List.replicate n g, []) ∧ NN ≤ n := by
              rcases hcase with h | ⟨h, _⟩
              · exact h
              · exact absurd h he0
            subst he7 hk
            refine s_off rfl rfl rfl ?_
            refine s_off rfl rfl rfl ?_
            refine s_off rfl rfl rfl ?_
            first | refine s_pu (pu_pick_t rfl rfl) ?_ | refine s_pu (pu_pick_f rfl rfl) ?_
            refine s_pu (pu_move rfl) ?_
            refine s_split 80 rfl (fun h80 => by cases h80) (fun h80 => ?_)
            refine s_off rfl rfl rfl ?_
            refine s_off rfl rfl rfl ?_
            first | refine s_pu (pu_pick_t rfl rfl) ?_ | refine s_pu (pu_pick_f rfl rfl) ?_
            refine s_pu (pu_assign rfl) ?_
            refine swl_sub _ (.cons (t := 0) rfl (.cons (t := 5) rfl (.cons (t := 7) rfl (.cons (t := 9) rfl (.cons (t := 10) rfl (.cons (t := 11) rfl (.cons (t := 12) rfl (.cons (t := 13) rfl (.cons (t := 64) rfl (.cons (t := 72) rfl .nil)))))))))) ?_
            refine swl_nil ?_
            refine then_n ?_
            refine swp_cond (b := _) rfl (fun h72 => by cases h72) (fun h72 => ?_)
            refine swp_seq ?_
            refine swp_region ?_
            refine s_pu (pu_move rfl) ?_
            refine s_pu (pu_eql rfl rfl) ?_
            refine s_pu (pu_move rfl) ?_
            refine s_on rfl rfl ?_
            refine s_pu (pu_move rfl) ?_
            refine s_on rfl rfl ?_
            refine s_pu (pu_eql rfl rfl) ?_
            first | refine s_pu (pu_pick_t rfl rfl) ?_ | refine s_pu (pu_pick_f rfl rfl) ?_
            refine s_pu (pu_assign rfl) ?_
            refine swl_sub _ (.cons (t := 0) rfl (.cons (t := 5) rfl (.cons (t := 7) rfl (.cons (t := 9) rfl (.cons (t := 10) rfl (.cons (t := 11) rfl (.cons (t := 64) rfl (.cons (t := 86) rfl .nil)))))))) ?_
            refine swl_nil ?_
            refine then_n ?_
            refine swp_cond (b := _) rfl (fun h86 => ?_) (fun h86 => by cases h86)
            refine swp_region ?_
            refine s_pu (pu_move rfl) ?_
            refine s_pu (pu_add_as ((i + 1 - n : Nat) : Int) rfl rfl (by omega) (by omega) (by omega)) ?_
            refine s_pu (pu_assign rfl) ?_
            refine swl_sub _ (.cons (t := 0) rfl (.cons (t := 5) rfl (.cons (t := 7) rfl (.cons (t := 9) rfl (.cons (t := 10) rfl (.cons (t := 11) rfl (.cons (t := 64) rfl .nil))))))) ?_
            refine swl_nil ?_
            refine block_n ?_
            exact then_n ⟨n, min_stay hn hfit, hB, hp3, ⟨rfl, rfl, rfl, rfl, rfl, rfl, rfl, trivial⟩, Split.ent' (by repeat (first | exact Split.nil | (apply Split.cons; (repeat (first | with_reducible exact Take.here | apply Take.there)))))⟩
        clear hcase
        rintro env L ⟨n', hn', hB, hp3, hsub, hE⟩
        subst hB
        refine swp_sub _ hsub ?_
        refine swp_ent hE ?_
        clear hsub hE env L
        have hTl : W'.T.length = n' := by rw [← pl_len1, hp3]; exact List.length_replicate
        refine swp_seq ?_
        refine swp_region ?_
        refine s_pu (pu_move rfl) ?_
        refine s_ef (ef_fn (trees_spec p W' μ3 hWo3) rfl rfl (by repeat (first | exact Split.nil | (apply Split.cons; (repeat (first | with_reducible exact Take.here | apply Take.there)))))) ?_
        rintro v96 L1 ⟨rfl, rfl⟩
        refine swl_app ?_
        refine s_pu (pu_move rfl) ?_
        refine s_pu (pu_neq rfl rfl) ?_
        refine s_pu (pu_move rfl) ?_
        refine s_split 99 rfl (fun h99 => by rw [hTl] at h99; simp at h99) (fun h99 => ?_)
        refine s_on rfl rfl ?_
        refine s_pu (pu_move rfl) ?_
        refine s_on rfl rfl ?_
        refine s_ef (ef_fn (dead_spec p W') rfl rfl (by repeat (first | exact Split.nil | (apply Split.cons; (repeat (first | with_reducible exact Take.here | apply Take.there)))))) ?_
        rintro v101 L1 ⟨rfl, rfl⟩
        refine swl_app ?_
        first | refine s_pu (pu_pick_t rfl rfl) ?_ | refine s_pu (pu_pick_f rfl rfl) ?_
        refine swl_sub _ (.cons (t := 0) rfl (.cons (t := 5) rfl (.cons (t := 7) rfl (.cons (t := 9) rfl (.cons (t := 10) rfl (.cons (t := 11) rfl (.cons (t := 64) rfl (.cons (t := 102) rfl .nil)))))))) ?_
        refine swl_nil ?_
        refine then_n ?_
        refine swp_cond (b := _) rfl (fun h102 => by rw [hWd3] at h102; cases h102) (fun h102 => ?_)
        refine swp_skip ?_
        refine block_n ?_
        refine then_n ?_
        refine swp_region ?_
        refine s_pu (pu_add_as ((i + 1 : Nat) : Int) rfl rfl (by omega) (by omega) (by omega)) ?_
        refine s_pu (pu_move rfl) ?_
        refine swl_sub _ (.cons (t := 0) rfl (.cons (t := 5) rfl (.cons (t := 7) rfl (.cons (t := 9) rfl (.cons (t := 10) rfl (.cons (t := 11) rfl (.cons (t := 64) rfl .nil))))))) ?_
        refine swl_nil ?_
        exact then_n ⟨i + 1, ⟨n', W', μ3, ⟨rfl, rfl, rfl, rfl, rfl, rfl, rfl, trivial⟩, Split.ent' (by repeat (first | exact Split.nil | (apply Split.cons; (repeat (first | with_reducible exact Take.here | apply Take.there))))), h65', hn', hle.trans l3, hok3, hWo3, hWq3, hWd3, hp3⟩, by omega⟩
      · skip   -- 65 F
        have h65' : i = 12 := by have := of_decide_eq_false h65; omega
        subst h65'
        refine swp_exit ?_
        refine then_x ?_
        refine then_x ?_
        refine block_hit rfl ?_
        refine then_n ?_
        refine swp_seq ?_
        refine swp_region ?_
        refine s_pu (pu_move rfl) ?_
        refine s_ef (ef_fn (renc_spec μ2 (.slice gA g.length gc) g (hrow2.le hle) hgu) rfl rfl (by repeat (first | exact Split.nil | (apply Split.cons; (repeat (first | with_reducible exact Take.here | apply Take.there)))))) ?_
        rintro v106 L1 ⟨rfl, rfl⟩
        rw [show encV g = encT g by unfold encV; rw [if_pos h0]]
        refine swl_app ?_
        refine s_pu (pu_move rfl) ?_
        first | refine s_pu (pu_extractL rfl) ?_ | refine s_pu (pu_extract rfl rfl) ?_
        first | refine s_pu (pu_extractL rfl) ?_ | refine s_pu (pu_extract rfl rfl) ?_
        refine s_pu (pu_assign rfl) ?_
        refine s_pu (pu_assign rfl) ?_
        refine swl_sub _ (.cons (t := 0) rfl (.cons (t := 5) rfl (.cons (t := 7) rfl (.cons (t := 10) rfl (.cons (t := 14) rfl .nil))))) ?_
        refine swl_nil ?_
        refine then_n ?_
        refine swp_seq ?_
        refine swp_region ?_
        refine s_pu (pu_move rfl) ?_
        refine s_pu (pu_strln rfl) ?_
        refine s_pu (pu_add_as ((sz : Nat) : Int) rfl rfl (by omega) (by omega) (by omega)) ?_
        refine s_pu (pu_assign rfl) ?_
        refine swl_sub _ (.cons (t := 0) rfl (.cons (t := 5) rfl (.cons (t := 7) rfl (.cons (t := 10) rfl (.cons (t := 16) rfl .nil))))) ?_
        refine swl_nil ?_
        refine then_n ?_
        refine swp_seq ?_
        refine swp_seq ?_
        refine swp_region ?_
        refine s_pu (pu_move rfl) ?_
        refine s_pu (pu_move rfl) ?_
        refine s_pu (pu_conv_i64 rfl (by omega) (by omega)) ?_
        refine s_pu (pu_rem_nat (a := rn) (b := 3000) rfl rfl (by decide)) ?_
        refine s_pu (pu_move rfl) ?_
        refine s_pu (pu_quo_nat (a := rn % 3000) (b := sz) rfl rfl (by omega) (wrap_i64 (by rw [← hRR, ← hNN]; omega) (by rw [← hRR, ← hNN]; omega))) ?_
        refine s_pu (pu_min2 rfl rfl) ?_
        refine s_pu (pu_neq rfl rfl) ?_
        refine s_pu (pu_move rfl) ?_
        refine s_split 120 rfl (fun h120 => by rw [← hRR, ← hNN] at h120; have hn2 : ((n : Nat) : Int) = min 12 ((NN : Nat) : Int) := (by omega); rw [decide_eq_true hn2] at h120; cases h120) (fun h120 => ?_)
        refine s_on rfl rfl ?_
        refine s_pu (pu_move rfl) ?_
        refine s_on rfl rfl ?_
        refine s_ef (ef_fn (remove_spec q (d2 3000 (encL (reps g n)) (encL (reps g n)).length (List.replicate m 0) true) hok d2_few fullN) rfl rfl (by repeat (first | exact Split.nil | (apply Split.cons; (repeat (first | with_reducible exact Take.here | apply Take.there)))))) ?_
        rintro v122 L1 ⟨rfl, rfl⟩
        have hok4 := removeD_ok hok fullN
        rw [d2_remove] at hok4
        rw [d2_remove]
        dsimp only at hok4 ⊢
        refine swl_app ?_
        refine s_on rfl rfl ?_
        refine s_pu (pu_neq rfl rfl) ?_
        first | refine s_pu (pu_pick_t rfl rfl) ?_ | refine s_pu (pu_pick_f rfl rfl) ?_
        refine swl_sub _ (.cons (t := 5) rfl (.cons (t := 7) rfl (.cons (t := 10) rfl (.cons (t := 16) rfl (.cons (t := 124) rfl .nil))))) ?_
        refine swl_nil ?_
        refine then_n ?_
        refine swp_cond (b := _) rfl (fun h124 => by cases h124) (fun h124 => ?_)
        refine swp_skip ?_
        refine then_n ?_
        refine swp_seq ?_
        refine swp_region ?_
        refine s_pu (pu_assign rfl) ?_
        refine swl_sub _ (.cons (t := 5) rfl (.cons (t := 7) rfl (.cons (t := 10) rfl (.cons (t := 16) rfl (.cons (t := 17) rfl .nil))))) ?_
        refine swl_nil ?_
        refine then_n ?_
        refine swp_cut (fun env L => ∃ want : Int, ((want = 7 ∧ 3000 < n * sz + 21) ∨ (want = 0 ∧ ¬ 3000 < n * sz + 21)) ∧ Sub env [(5, pv q), (7, pv p), (10, .int .i64 (n : Nat)), (17, .int .i64 want)] ∧ Ent L [FSA q (d2 3000 (encL (reps g n)) (encL (reps g n)).length (List.replicate m 0) false), stH p W, ttA W, ccA W, ro μ2]) ?_ ?_
        · skip
          refine swp_seq ?_
          refine swp_region ?_
          refine s_pu (pu_move rfl) ?_
          refine s_pu (pu_move rfl) ?_
          refine s_pu (pu_mul_as ((n * sz : Nat) : Int) rfl rfl (by rw [Int.natCast_mul]) (by omega) (by rw [hsz2, ← hsl]; have := (hok.fl ⟨encL (reps g n), (encL (reps g n)).length⟩ (List.mem_cons_self ..)).1; unfold mostF at this; dsimp only at this; omega)) ?_
          refine s_pu (pu_add_as ((n * sz + 21 : Nat) : Int) rfl rfl (by omega) (by omega) (by rw [hsz2, ← hsl]; have := (hok.fl ⟨encL (reps g n), (encL (reps g n)).length⟩ (List.mem_cons_self ..)).1; unfold mostF at this; dsimp only at this; omega)) ?_
          refine s_pu (pu_gtr rfl rfl) ?_
          refine swl_sub _ (.cons (t := 5) rfl (.cons (t := 7) rfl (.cons (t := 10) rfl (.cons (t := 17) rfl (.cons (t := 129) rfl .nil))))) ?_
          refine swl_nil ?_
          refine then_n ?_
          refine swp_cond (b := _) rfl (fun h129 => ?_) (fun h129 => ?_)
          · skip   -- 129 T
            refine swp_region ?_
            refine s_pu (pu_assign rfl) ?_
            refine swl_sub _ (.cons (t := 5) rfl (.cons (t := 7) rfl (.cons (t := 10) rfl (.cons (t := 17) rfl .nil)))) ?_
            refine swl_nil ?_
            have h129' := of_decide_eq_true h129
            exact then_n ⟨7, .inl ⟨rfl, by omega⟩, ⟨rfl, rfl, rfl, rfl, trivial⟩, Split.ent' (by repeat (first | exact Split.nil | (apply Split.cons; (repeat (first | with_reducible exact Take.here | apply Take.there)))))⟩
          · skip   -- 129 F
            refine swp_skip ?_
            have h129' := of_decide_eq_false h129
            exact then_n ⟨0, .inr ⟨rfl, by omega⟩, ⟨rfl, rfl, rfl, rfl, trivial⟩, Split.ent' (by repeat (first | exact Split.nil | (apply Split.cons; (repeat (first | with_reducible exact Take.here | apply Take.there)))))⟩
        rintro env L ⟨want, hwant, hsub, hE⟩
        refine swp_sub _ hsub ?_
        refine swp_ent hE ?_
        clear hsub hE env L
        refine swp_seq ?_
        refine swp_seq ?_
        refine swp_region ?_
        refine s_pu (pu_move rfl) ?_
        refine s_pu (pu_bld (qs := [(0, _), (1, _)]) rfl) ?_
        refine s_ef (ef_bldS (qs := [(0, _)]) rfl rfl rfl) ?_
        intro b133
        refine swl_share (b := b133) (μ := μ2) (by repeat (first | exact Split.nil | (apply Split.cons; (repeat (first | with_reducible exact Take.here | apply Take.there))))) fun μ4 l4 k4 => ?_
        have r4 := row_of_blk (n := 2) (l := 1) (cs := ens lastE) k4 (by rfl) (by decide)
        have hln : ((List.replicate n g, []) : St2).1.length = n := List.length_replicate
        refine s_ef (ef_fn (lim_add μ4 p W (hWo.le l4) q 3000 (encL (reps g n)) (List.replicate m 0) false (List.replicate n g, []) hWq hWp hWd hok4 (.slice (some ⟨b133, 0, none⟩) 1 1) lastE r4 last_u32 last_err (by rw [hln]; omega)) rfl rfl (by repeat (first | exact Split.nil | (apply Split.cons; (repeat (first | with_reducible exact Take.here | apply Take.there)))))) ?_
        rintro v134 L1 ⟨W', μ3, B', k, e, l3, hWo3, hWq3, hWd3, hok3, hcase, rfl, rfl⟩
        have hfits : (3000 : Int) < (((encL (reps g n)).length + ex2 (List.replicate m 0) false : Nat) : Int) + (((encT lastE).length + 9 : Nat) : Int) ↔ 3000 < n * sz + 21 := by
          rw [hsl, ← hsz2, last_len]
          show (3000 : Int) < ((n * sz + 0 : Nat) : Int) + ((12 + 9 : Nat) : Int) ↔ _
          omega
        rw [hfits] at hcase
        clear hfits
        obtain rfl : e = want := by
          rcases hcase with ⟨h, _, _, _, h2⟩ | ⟨h, _, _, _, h2⟩ <;> rcases hwant with ⟨h3, h4⟩ | ⟨h3, h4⟩
          · rw [h, h3]
          · exact absurd h2 h4
          · exact absurd h4 h2
          · rw [h, h3]
        refine swl_app ?_
        refine s_pu (pu_move rfl) ?_
        first | refine s_pu (pu_extractL rfl) ?_ | refine s_pu (pu_extract rfl rfl) ?_
        first | refine s_pu (pu_extractL rfl) ?_ | refine s_pu (pu_extract rfl rfl) ?_
        refine s_pu (pu_assign rfl) ?_
        refine swl_sub _ (.cons (t := 5) rfl (.cons (t := 7) rfl (.cons (t := 8) rfl (.cons (t := 10) rfl (.cons (t := 17) rfl .nil))))) ?_
        refine swl_nil ?_
        refine then_n ?_
        refine swp_seq ?_
        refine swp_region ?_
        refine s_pu (pu_move rfl) ?_
        refine s_pu (pu_move rfl) ?_
        refine s_pu (pu_neq rfl rfl) ?_
        refine swl_sub _ (.cons (t := 5) rfl (.cons (t := 7) rfl (.cons (t := 10) rfl (.cons (t := 17) rfl (.cons (t := 139) rfl .nil))))) ?_
        refine swl_nil ?_
        refine then_n ?_
        refine swp_cond (b := _) rfl (fun h139 => by simp at h139) (fun h139 => ?_)
        refine swp_skip ?_
        refine then_n ?_
        refine swp_cut (fun env L => ∃ (n2 : Nat) (l : List Fm) (s2 : St2), (∀ f ∈ l, GoodF f) ∧ stands ([], []) l = some s2 ∧ W'.pl = s2 ∧ B' = encL l ∧ s2.1.length = n2 ∧ Sub env [(5, pv q), (7, pv p), (10, .int .i64 (n2 : Nat))] ∧ Ent L [FSA q (d2 3000 B' B'.length (List.replicate m 0) false), stH p W', ttA W', ccA W', ro μ3]) ?_ ?_
        · skip
          refine swp_seq ?_
          refine swp_region ?_
          refine s_pu (pu_move rfl) ?_
          refine s_pu (pu_eql rfl rfl) ?_
          refine swl_sub _ (.cons (t := 5) rfl (.cons (t := 7) rfl (.cons (t := 10) rfl (.cons (t := 141) rfl .nil)))) ?_
          refine swl_nil ?_
          refine then_n ?_
          refine swp_cond (b := _) rfl (fun h141 => ?_) (fun h141 => ?_)
          · skip   -- 141 T
            have he0 : e = 0 := by simpa using h141
            obtain ⟨hB, hp3⟩ : B' = encL (reps g n) ++ encFm (1, encT lastE) ∧ W'.pl = (List.replicate n g ++ [lastE], []) := by
              rcases hcase with ⟨h, _⟩ | ⟨_, _, h1, h2, _⟩
              · rw [h] at he0; cases he0
              · exact ⟨h1, h2⟩
            refine swp_region ?_
            refine s_pu (pu_move rfl) ?_
            refine s_pu (pu_add_as ((n + 1 : Nat) : Int) rfl rfl (by omega) (by omega) (by omega)) ?_
            refine s_pu (pu_assign rfl) ?_
            refine swl_sub _ (.cons (t := 5) rfl (.cons (t := 7) rfl (.cons (t := 10) rfl .nil))) ?_
            refine swl_nil ?_
            refine then_n ⟨n + 1, reps g n ++ [(1, encT lastE)], (List.replicate n g ++ [lastE], []), fun f hf => ?_, stands_snoc (d2_stands h0 hgu (by omega)) (stand_tree (s := (List.replicate n g, [])) last_err last_u32 (by rw [hln]; omega)), hp3, by rw [hB, encL_app, encL_one], by show (List.replicate n g ++ [lastE]).length = n + 1; rw [List.length_append, List.length_replicate]; rfl, ⟨rfl, rfl, rfl, trivial⟩, Split.ent' (by repeat (first | exact Split.nil | (apply Split.cons; (repeat (first | with_reducible exact Take.here | apply Take.there)))))⟩
            rcases List.mem_append.1 hf with hf | hf
            · exact reps_good h0 n f hf
            · obtain rfl : f = (1, encT lastE) := by simpa using hf
              exact good_tree last_err
          · skip   -- 141 F
            have he0 : ¬ e = 0 := by simpa using h141
            obtain ⟨hB, hp3⟩ : B' = encL (reps g n) ∧ W'.pl = (List.replicate n g, []) := by
              rcases hcase with ⟨_, _, h1, h2, _⟩ | ⟨h, _⟩
              · exact ⟨h1, h2⟩
              · exact absurd h he0
            refine swp_skip ?_
            exact then_n ⟨n, reps g n, (List.replicate n g, []), reps_good h0 n, d2_stands h0 hgu (by omega), hp3, hB, hln, ⟨rfl, rfl, rfl, trivial⟩, Split.ent' (by repeat (first | exact Split.nil | (apply Split.cons; (repeat (first | with_reducible exact Take.here | apply Take.there)))))⟩
        clear hcase hwant
        rintro env L ⟨n2, l, s2, hgl, hst, hp3, hB, hs2, hsub, hE⟩
        subst hB
        refine swp_sub _ hsub ?_
        refine swp_ent hE ?_
        clear hsub hE env L
        obtain ⟨hop, hoe⟩ := d2_opened (q := 3000) (F := List.replicate m 0) hgl hst
        refine swp_seq ?_
        refine swp_region ?_
        refine s_pu (pu_move rfl) ?_
        refine s_ef (ef_fn (open_spec μ3 q (d2 3000 (encL l) (encL l).length (List.replicate m 0) false) hok3 d2_few) rfl rfl (by repeat (first | exact Split.nil | (apply Split.cons; (repeat (first | with_reducible exact Take.here | apply Take.there)))))) ?_
        rintro v146 L1 ⟨p3, W3, μ5, e3, hq3, rfl, rfl⟩
        obtain ⟨l5, hWo5, _, _, he5, hp5⟩ := hq3
        rw [hoe] at he5
        subst he5
        rw [hop] at hp5
        replace hp5 := hp5 rfl
        have hT5 : W3.T.length = n2 := by rw [← pl_len1, hp5]; exact hs2
        have hT3 : W'.T.length = n2 := by rw [← pl_len1, hp3]; exact hs2
        refine swl_app ?_
        refine s_pu (pu_move rfl) ?_
        first | refine s_pu (pu_extractL rfl) ?_ | refine s_pu (pu_extract rfl rfl) ?_
        first | refine s_pu (pu_extractL rfl) ?_ | refine s_pu (pu_extract rfl rfl) ?_
        refine s_pu (pu_assign rfl) ?_
        refine s_pu (pu_assign rfl) ?_
        refine swl_sub _ (.cons (t := 7) rfl (.cons (t := 8) rfl (.cons (t := 10) rfl (.cons (t := 18) rfl .nil)))) ?_
        refine swl_nil ?_
        refine then_n ?_
        refine swp_seq ?_
        refine swp_region ?_
        refine s_pu (pu_move rfl) ?_
        refine s_pu (pu_eql rfl rfl) ?_
        refine s_pu (pu_move rfl) ?_
        refine s_on rfl rfl ?_
        refine s_pu (pu_move rfl) ?_
        refine s_on rfl rfl ?_
        refine s_ef (ef_fn (trees_spec p3 W3 μ5 hWo5) rfl rfl (by repeat (first | exact Split.nil | (apply Split.cons; (repeat (first | with_reducible exact Take.here | apply Take.there)))))) ?_
        rintro v153 L1 ⟨rfl, rfl⟩
        refine swl_app ?_
        refine s_on rfl rfl ?_
        refine s_pu (pu_move rfl) ?_
        refine s_on rfl rfl ?_
        refine s_pu (pu_eql rfl rfl) ?_
        first | refine s_pu (pu_pick_t rfl rfl) ?_ | refine s_pu (pu_pick_f rfl rfl) ?_
        refine s_pu (pu_move rfl) ?_
        refine s_split 157 rfl (fun h157 => ?_) (fun h157 => by rw [hT5] at h157; simp at h157)
        refine s_on rfl rfl ?_
        refine s_pu (pu_move rfl) ?_
        refine s_on rfl rfl ?_
        refine s_ef (ef_fn (trees_spec p W' μ5 (hWo3.le l5)) rfl rfl (by repeat (first | exact Split.nil | (apply Split.cons; (repeat (first | with_reducible exact Take.here | apply Take.there)))))) ?_
        rintro v159 L1 ⟨rfl, rfl⟩
        refine swl_app ?_
        refine s_on rfl rfl ?_
        refine s_pu (pu_move rfl) ?_
        refine s_on rfl rfl ?_
        refine s_pu (pu_eql rfl rfl) ?_
        first | refine s_pu (pu_pick_t rfl rfl) ?_ | refine s_pu (pu_pick_f rfl rfl) ?_
        refine s_pu (pu_assign rfl) ?_
        refine swl_sub _ (.cons (t := 4) rfl .nil) ?_
        refine swl_nil ?_
        refine then_n ?_
        refine swp_ret ?_
        exact done_retE [ro μ5] (.tmp rfl .nil) ⟨by rw [hT3]; exact congrArg Value.bool (decide_eq_true rfl), μ5, [], l0.trans (l1.trans (hle.trans (l4.trans (l3.trans l5)))), rfl⟩ (Split.ent' (by repeat (first | exact Split.nil | (apply Split.cons; (repeat (first | with_reducible exact Take.here | apply Take.there))))))
end SX
