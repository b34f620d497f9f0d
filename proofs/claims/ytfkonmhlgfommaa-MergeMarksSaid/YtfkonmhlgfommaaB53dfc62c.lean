/- A part of the proof: walks of the program's functions, and the rules by which they go. -/
import Derived.Test.YtfkonmhlgfommaaBa0d98096
namespace SX
open Go Go.Proofs
theorem u32s_k1 : U32s k1 ∧ U32s k2 ∧ U32s k3 := by
  refine ⟨?_, ?_, ?_⟩ <;> (intro e he; simp [k1, k2, k3] at he; rcases he with rfl | rfl | rfl <;> exact ⟨by decide, by decide⟩)
theorem u32s_k4 : U32s k4 ∧ U32s k5 ∧ U32s [] := by
  refine ⟨?_, ?_, ?_⟩
  · intro e he; simp [k4] at he; subst he; exact ⟨by decide, by decide⟩
  · intro e he; simp [k5] at he; subst he; exact ⟨by decide, by decide⟩
  · intro e he; cases he
theorem same_lit (μ : PH) (v : Value) (b : Nat) (la lb : List En) (ha : Row μ v 2 la.length (ens la)) (hm : lb.length ≤ maxLen) {cs : List Value} (hcs : cs = ens lb) : Spec Try.prog 33 [v, .slice (some ⟨b, 0, none⟩) lb.length lb.length] [blk b 51 cs, ro μ] (fun r L => r = .bool (decide (la = lb)) ∧ L = [ro μ]) := by
  subst hcs
  intro E w hh
  obtain ⟨μ', h1, h2, h3⟩ := hh.share
  have hr := row_of_blk (n := 2) (l := lb.length) h2 (by rw [flat_length enc1_len]) hm
  refine (same_spec μ' v _ la lb (ha.le h1) hr E w h3).mono ?_
  rintro x w' ⟨r, L', e1, ⟨e2, e3⟩, h4⟩
  subst e3
  exact ⟨r, _, e1, ⟨e2, rfl⟩, h4.ent (Ent.imp fun m hm k o hk => hm k o (h1 k o hk))⟩
set_option maxHeartbeats 4000000 in
theorem merges_spec : Spec Try.prog 25 [] [] (fun r L => r = .bool true ∧ L = []) := by
  refine Spec.of 63 Try.func25 rfl rfl rfl ?_
  refine swp_seq ?_
  refine swp_region ?_
  refine s_pu (pu_assign rfl) ?_
  refine swl_sub _ .nil ?_
  refine swl_nil ?_
  refine then_n ?_
  refine swp_seq ?_
  refine swp_region ?_
  refine s_pu (pu_bld (qs := [(0, _), (1, _)]) rfl) ?_
  refine s_pu (pu_bld (qs := [(0, _), (1, _)]) rfl) ?_
  refine s_pu (pu_bld (qs := [(0, _), (1, _)]) rfl) ?_
  refine s_ef (ef_bldS (qs := [(0, _), (1, _), (2, _)]) rfl rfl rfl) ?_
  intro b9
  refine s_pu (pu_bld (qs := [(0, _), (1, _)]) rfl) ?_
  refine s_pu (pu_bld (qs := [(0, _), (1, _)]) rfl) ?_
  refine s_pu (pu_bld (qs := [(0, _), (1, _)]) rfl) ?_
  refine s_ef (ef_bldS (qs := [(0, _), (1, _), (2, _)]) rfl rfl rfl) ?_
  intro b13
  refine s_pu (pu_bld (qs := [(0, _), (1, _)]) rfl) ?_
  refine s_pu (pu_bld (qs := [(0, _), (1, _)]) rfl) ?_
  refine s_ef (ef_bldS (qs := [(0, _), (1, _)]) rfl rfl rfl) ?_
  intro b16
  refine swl_ent ent_ro0 ?_
  refine swl_share (b := b9) (μ := fun _ => none) (by repeat (first | exact Split.nil | (apply Split.cons; (repeat (first | with_reducible exact Take.here | apply Take.there))))) fun μ1 _ g9 => ?_
  refine swl_share (b := b13) (μ := μ1) (by repeat (first | exact Split.nil | (apply Split.cons; (repeat (first | with_reducible exact Take.here | apply Take.there))))) fun μ2 l2 g13 => ?_
  refine swl_share (b := b16) (μ := μ2) (by repeat (first | exact Split.nil | (apply Split.cons; (repeat (first | with_reducible exact Take.here | apply Take.there))))) fun μ3 l3 g16 => ?_
  have r1 : Row μ3 (.slice (some ⟨b9, 0, none⟩) 3 3) 2 k1.length (ens k1) := row_of_blk (l3 _ _ (l2 _ _ g9)) rfl (by decide)
  have r2 : Row μ3 (.slice (some ⟨b13, 0, none⟩) 3 3) 2 k2.length (ens k2) := row_of_blk (l3 _ _ g13) rfl (by decide)
  have r3 : Row μ3 (.slice (some ⟨b16, 0, none⟩) 2 2) 2 k3.length (ens k3) := row_of_blk g16 rfl (by decide)
  refine s_ef (ef_fn (three_spec μ3 _ _ _ k1 k2 k3 r1 r2 r3 ⟨by decide, by decide, by decide⟩ u32s_k1) rfl rfl (by repeat (first | exact Split.nil | (apply Split.cons; (repeat (first | with_reducible exact Take.here | apply Take.there)))))) ?_
  rintro v17 L1 ⟨v1, v2, μ4, l4, rfl, rfl⟩
  refine swl_app ?_
  rw [out_k1, cf_k1]
  refine swl_share_own (v := v1) (μ := μ4) (by repeat (first | exact Split.nil | (apply Split.cons; (repeat (first | with_reducible exact Take.here | apply Take.there))))) fun μ5 l5 rt => ?_
  refine swl_share_own (v := v2) (μ := μ5) (by repeat (first | exact Split.nil | (apply Split.cons; (repeat (first | with_reducible exact Take.here | apply Take.there))))) fun μ6 l6 rl => ?_
  refine s_pu (pu_move rfl) ?_
  first | refine s_pu (pu_extractL rfl) ?_ | refine s_pu (pu_extract rfl rfl) ?_
  first | refine s_pu (pu_extractL rfl) ?_ | refine s_pu (pu_extract rfl rfl) ?_
  refine s_pu (pu_assign rfl) ?_
  refine s_pu (pu_assign rfl) ?_
  refine swl_sub _ (.cons (t := 1) rfl (.cons (t := 2) rfl .nil)) ?_
  refine swl_nil ?_
  refine then_n ?_
  refine swp_seq ?_
  refine swp_region ?_
  refine s_pu (pu_bld (qs := [(0, _), (1, _)]) rfl) ?_
  refine s_ef (ef_bldS (qs := [(0, _)]) rfl rfl rfl) ?_
  intro b22
  refine s_pu (pu_bld (qs := [(0, _), (1, _)]) rfl) ?_
  refine s_ef (ef_bldS (qs := [(0, _)]) rfl rfl rfl) ?_
  intro b24
  refine swl_share (b := b22) (μ := μ6) (by repeat (first | exact Split.nil | (apply Split.cons; (repeat (first | with_reducible exact Take.here | apply Take.there))))) fun μ7 l7 g22 => ?_
  refine swl_share (b := b24) (μ := μ7) (by repeat (first | exact Split.nil | (apply Split.cons; (repeat (first | with_reducible exact Take.here | apply Take.there))))) fun μ8 l8 g24 => ?_
  have r4 : Row μ8 (.slice (some ⟨b22, 0, none⟩) 1 1) 2 k4.length (ens k4) := row_of_blk (l8 _ _ g22) rfl (by decide)
  have r5 : Row μ8 (.slice (some ⟨b24, 0, none⟩) 1 1) 2 k5.length (ens k5) := row_of_blk g24 rfl (by decide)
  refine s_ef (ef_fn (three_spec μ8 _ _ _ k4 k5 [] r4 r5 (Row.nil _ _) ⟨by decide, by decide, by decide⟩ u32s_k4) rfl rfl (by repeat (first | exact Split.nil | (apply Split.cons; (repeat (first | with_reducible exact Take.here | apply Take.there)))))) ?_
  rintro v25 L1 ⟨v3, v4, μ9, l9, rfl, rfl⟩
  refine swl_app ?_
  rw [out_k4, cf_k4]
  refine swl_share_own (v := v3) (μ := μ9) (by repeat (first | exact Split.nil | (apply Split.cons; (repeat (first | with_reducible exact Take.here | apply Take.there))))) fun μ10 l10 ru => ?_
  refine swl_share_own (v := v4) (μ := μ10) (by repeat (first | exact Split.nil | (apply Split.cons; (repeat (first | with_reducible exact Take.here | apply Take.there))))) fun μ11 l11 rm => ?_
  refine s_pu (pu_move rfl) ?_
  first | refine s_pu (pu_extractL rfl) ?_ | refine s_pu (pu_extract rfl rfl) ?_
  first | refine s_pu (pu_extractL rfl) ?_ | refine s_pu (pu_extract rfl rfl) ?_
  refine s_pu (pu_assign rfl) ?_
  refine s_pu (pu_assign rfl) ?_
  refine swl_sub _ (.cons (t := 1) rfl (.cons (t := 2) rfl (.cons (t := 3) rfl (.cons (t := 4) rfl .nil)))) ?_
  refine swl_nil ?_
  refine then_n ?_
  refine swp_seq ?_
  have rt' := ((((((rt.le l6).le l7).le l8).le l9).le l10).le l11)
  have rl' := (((((rl.le l7).le l8).le l9).le l10).le l11)
  have ru' := ru.le l11
  obtain ⟨ub, uo, uc, huv, hura, hu0, hu1⟩ := tree_at ru' (i := 0) rfl
  obtain ⟨mb, mo, mc, hmv, _, _, hmr⟩ := rm.pos (by decide)
  have hm0 := hmr.elem (f := encC) (n := 4) (fun _ => rfl) (i := 0) (e := (⟨#[97]⟩, 1, 2, 0)) rfl
  refine swp_draw [19, 31] _ [] (by simp only [List.append_nil]; exact Ent.refl _) (by kernel_rfl) ?_
  refine d_pu 0 rfl (pu_move rfl) (by kernel_rfl) (by kernel_rfl) (by kernel_rfl) ?_
  refine d_pu 1 rfl (pu_bld (qs := [(0, _), (1, _)]) rfl) (by kernel_rfl) (by kernel_rfl) (by kernel_rfl) ?_
  refine d_pu 2 rfl (pu_bld (qs := [(0, _), (1, _)]) rfl) (by kernel_rfl) (by kernel_rfl) (by kernel_rfl) ?_
  refine d_eft 3 rfl (by kernel_rfl) (ef_bldS (qs := [(0, _), (1, _)]) rfl rfl rfl) ?_
  intro b31
  refine ⟨_, Split.ent (by repeat (first | exact Split.nil | (apply Split.cons; (repeat (first | with_reducible exact Take.here | apply Take.there))))), ?_⟩
  refine d_eft 4 rfl (by kernel_rfl) (ef_fn (same_lit μ11 v1 b31 [(⟨#[97]⟩, 4), (⟨#[98]⟩, 5)] [(⟨#[97]⟩, 4), (⟨#[98]⟩, 5)] rt' (by decide) (cs := [.string ⟨#[97]⟩, .int .u32 4, .string ⟨#[98]⟩, .int .u32 5]) rfl) rfl rfl (by repeat (first | exact Split.nil | (apply Split.cons; (repeat (first | with_reducible exact Take.here | apply Take.there)))))) ?_
  rintro v32 L1 ⟨rfl, rfl⟩
  refine ⟨_, ent_appC (Split.ent (by repeat (first | exact Split.nil | (apply Split.cons; (repeat (first | with_reducible exact Take.here | apply Take.there)))))), ?_⟩
  refine d_pu 5 rfl (pu_move rfl) (by kernel_rfl) (by kernel_rfl) (by kernel_rfl) ?_
  refine d_split 33 rfl (fun h33 => ?_) (fun h33 => by simp at h33)
  refine d_pu_on 6 rfl rfl rfl (pu_move rfl) (by kernel_rfl) (by kernel_rfl) (by kernel_rfl) ?_
  refine d_pu_on 7 rfl rfl rfl (pu_len_row rl' rfl) (by kernel_rfl) (by kernel_rfl) (by kernel_rfl) ?_
  refine d_pu_on 8 rfl rfl rfl (pu_eql rfl rfl) (by kernel_rfl) (by kernel_rfl) (by kernel_rfl) ?_
  first | refine d_pu 9 rfl (pu_pick_t rfl rfl) (by kernel_rfl) (by kernel_rfl) (by kernel_rfl) ?_ | refine d_pu 9 rfl (pu_pick_f rfl rfl) (by kernel_rfl) (by kernel_rfl) (by kernel_rfl) ?_
  refine d_pu 10 rfl (pu_move rfl) (by kernel_rfl) (by kernel_rfl) (by kernel_rfl) ?_
  refine d_split 38 rfl (fun h38 => ?_) (fun h38 => by simp at h38)
  refine d_pu_on 11 rfl rfl rfl (pu_move rfl) (by kernel_rfl) (by kernel_rfl) (by kernel_rfl) ?_
  refine d_pu_on 12 rfl rfl rfl (pu_len_row ru' rfl) (by kernel_rfl) (by kernel_rfl) (by kernel_rfl) ?_
  refine d_pu_on 13 rfl rfl rfl (pu_eql rfl rfl) (by kernel_rfl) (by kernel_rfl) (by kernel_rfl) ?_
  first | refine d_pu 14 rfl (pu_pick_t rfl rfl) (by kernel_rfl) (by kernel_rfl) (by kernel_rfl) ?_ | refine d_pu 14 rfl (pu_pick_f rfl rfl) (by kernel_rfl) (by kernel_rfl) (by kernel_rfl) ?_
  refine d_pu 15 rfl (pu_move rfl) (by kernel_rfl) (by kernel_rfl) (by kernel_rfl) ?_
  refine d_split 43 rfl (fun h43 => ?_) (fun h43 => by simp at h43)
  refine d_pu_on 16 rfl rfl rfl (pu_move rfl) (by kernel_rfl) (by kernel_rfl) (by kernel_rfl) ?_
  refine d_pu_on 17 rfl rfl rfl (pu_indexAddr (uo + 0 * 2) (congrArg some huv) rfl (by omega) (by decide) (by rfl)) (by kernel_rfl) (by kernel_rfl) (by kernel_rfl) ?_
  first | refine d_pu_on 18 rfl rfl rfl (pu_fieldAddr0 rfl) (by kernel_rfl) (by kernel_rfl) (by kernel_rfl) ?_ | refine d_pu_on 18 rfl rfl rfl (pu_fieldAddr rfl) (by kernel_rfl) (by kernel_rfl) (by kernel_rfl) ?_
  refine d_rd_on 19 rfl rfl rfl (rd_ro rfl hu1) rfl (by kernel_rfl) (by kernel_rfl) (by kernel_rfl) ?_
  refine d_amb [20] (by kernel_rfl) rfl ?_
  refine dA_ef 20 rfl (GOn.some rfl rfl) (ef_fn (rmark_specZ (b := 1) (o := 2) (t := 0) ⟨by decide, by decide⟩ ⟨by decide, by decide⟩ ⟨by decide, by decide⟩) rfl rfl (by repeat (first | exact Split.nil | (apply Split.cons; (repeat (first | with_reducible exact Take.here | apply Take.there)))))) ?_
  rintro v48 L1 ⟨rfl, rfl⟩
  refine ⟨_, ent_appC (Split.ent (by repeat (first | exact Split.nil | (apply Split.cons; (repeat (first | with_reducible exact Take.here | apply Take.there)))))), ?_⟩
  refine d_pu_on 21 rfl rfl rfl (pu_eql rfl rfl) (by kernel_rfl) (by kernel_rfl) (by kernel_rfl) ?_
  first | refine d_pu 22 rfl (pu_pick_t rfl rfl) (by kernel_rfl) (by kernel_rfl) (by kernel_rfl) ?_ | refine d_pu 22 rfl (pu_pick_f rfl rfl) (by kernel_rfl) (by kernel_rfl) (by kernel_rfl) ?_
  refine d_pu 23 rfl (pu_move rfl) (by kernel_rfl) (by kernel_rfl) (by kernel_rfl) ?_
  refine d_split 51 rfl (fun h51 => ?_) (fun h51 => by simp at h51)
  refine d_pu_on 24 rfl rfl rfl (pu_move rfl) (by kernel_rfl) (by kernel_rfl) (by kernel_rfl) ?_
  refine d_pu_on 25 rfl rfl rfl (pu_len_row rm rfl) (by kernel_rfl) (by kernel_rfl) (by kernel_rfl) ?_
  refine d_pu_on 26 rfl rfl rfl (pu_eql rfl rfl) (by kernel_rfl) (by kernel_rfl) (by kernel_rfl) ?_
  first | refine d_pu 27 rfl (pu_pick_t rfl rfl) (by kernel_rfl) (by kernel_rfl) (by kernel_rfl) ?_ | refine d_pu 27 rfl (pu_pick_f rfl rfl) (by kernel_rfl) (by kernel_rfl) (by kernel_rfl) ?_
  refine d_pu 28 rfl (pu_move rfl) (by kernel_rfl) (by kernel_rfl) (by kernel_rfl) ?_
  refine d_split 56 rfl (fun h56 => ?_) (fun h56 => by simp at h56)
  refine d_pu_on 29 rfl rfl rfl (pu_move rfl) (by kernel_rfl) (by kernel_rfl) (by kernel_rfl) ?_
  refine d_pu_on 30 rfl rfl rfl (pu_indexAddr (mo + 0 * 4) (congrArg some hmv) rfl (by omega) (by decide) (by rfl)) (by kernel_rfl) (by kernel_rfl) (by kernel_rfl) ?_
  refine d_rd_on 31 rfl rfl rfl (rd_roA rfl rfl hm0) rfl (by kernel_rfl) (by kernel_rfl) (by kernel_rfl) ?_
  refine d_pu_on 32 rfl rfl rfl (pu_bld (qs := [(0, _), (1, _), (2, _)]) rfl) (by kernel_rfl) (by kernel_rfl) (by kernel_rfl) ?_
  refine d_pu_on 33 rfl rfl rfl (pu_stN_eq (vs := encC (⟨#[97]⟩, 1, 2, 0)) (us := [.string ⟨#[97]⟩, .int .u32 1, .int .u32 2, .int .u32 0]) rfl rfl (.str (.int (.int (.int .nil))))) (by kernel_rfl) (by kernel_rfl) (by kernel_rfl) ?_
  first | refine d_pu 34 rfl (pu_pick_t rfl rfl) (by kernel_rfl) (by kernel_rfl) (by kernel_rfl) ?_ | refine d_pu 34 rfl (pu_pick_f rfl rfl) (by kernel_rfl) (by kernel_rfl) (by kernel_rfl) ?_
  refine d_pu 35 rfl (pu_assign rfl) (by kernel_rfl) (by kernel_rfl) (by kernel_rfl) ?_
  refine d_sub _ (.cons (t := 0) rfl .nil) ?_
  first | refine d_nilt (by kernel_rfl) ?_ | refine d_nilf (by kernel_rfl) ?_
  refine then_n ?_
  refine swp_ret ?_
  exact done_ret [] (.tmp rfl .nil) ⟨(by simp [strEq_refl]; rfl), rfl⟩ (by repeat (first | exact Split.nil | (apply Split.cons; (repeat (first | with_reducible exact Take.here | apply Take.there)))))
set_option maxHeartbeats 2000000 in
theorem mergemarks_spec {b o t : Int} (hb : U32 b) (ho : U32 o) (ht : U32 t) : Spec Try.prog 6 [.int .u32 b, .int .u32 o, .int .u32 t] [] (fun r L => r = .bool true ∧ L = []) := by
  refine Spec.of 27 Try.func6 rfl rfl rfl ?_
  refine swp_seq ?_
  refine swp_region ?_
  refine s_pu (pu_assign rfl) ?_
  refine swl_sub _ (.cons (t := 0) rfl (.cons (t := 1) rfl (.cons (t := 2) rfl .nil))) ?_
  refine swl_nil ?_
  refine then_n ?_
  refine swp_seq ?_
  refine swp_region ?_
  refine s_ef (ef_fn merges_spec rfl rfl (by repeat (first | exact Split.nil | (apply Split.cons; (repeat (first | with_reducible exact Take.here | apply Take.there)))))) ?_
  rintro v7 L1 ⟨rfl, rfl⟩
  refine swl_app ?_
  refine s_pu (pu_move rfl) ?_
  refine s_split 8 rfl (fun h8 => ?_) (fun h8 => by simp at h8)
  refine s_on rfl rfl ?_
  refine s_pu (pu_move rfl) ?_
  refine s_on rfl rfl ?_
  refine s_pu (pu_move rfl) ?_
  refine s_on rfl rfl ?_
  refine s_pu (pu_move rfl) ?_
  refine s_on rfl rfl ?_
  refine s_ef (ef_fn (mark_specZ hb ho ht) rfl rfl (by repeat (first | exact Split.nil | (apply Split.cons; (repeat (first | with_reducible exact Take.here | apply Take.there)))))) ?_
  rintro v12 L1 ⟨rfl, rfl⟩
  refine swl_app ?_
  refine s_on rfl rfl ?_
  refine s_pu (pu_move rfl) ?_
  refine s_on rfl rfl ?_
  refine s_pu (pu_move rfl) ?_
  refine s_on rfl rfl ?_
  refine s_pu (pu_move rfl) ?_
  refine s_on rfl rfl ?_
  refine s_ef (ef_fn (rmark_specZ hb ho ht) rfl rfl (by repeat (first | exact Split.nil | (apply Split.cons; (repeat (first | with_reducible exact Take.here | apply Take.there)))))) ?_
  rintro v16 L1 ⟨rfl, rfl⟩
  refine swl_app ?_
  refine s_on rfl rfl ?_
  refine s_pu (pu_eql rfl rfl) ?_
  first | refine s_pu (pu_pick_t rfl rfl) ?_ | refine s_pu (pu_pick_f rfl rfl) ?_
  refine s_pu (pu_move rfl) ?_
  refine s_split 19 rfl (fun h19 => ?_) (fun h19 => by simp at h19)
  refine s_on rfl rfl ?_
  refine s_pu (pu_move rfl) ?_
  refine s_on rfl rfl ?_
  refine s_pu (pu_move rfl) ?_
  refine s_on rfl rfl ?_
  refine s_pu (pu_move rfl) ?_
  refine s_on rfl rfl ?_
  refine s_ef (ef_fn (mark_specZ hb ho ht) rfl rfl (by repeat (first | exact Split.nil | (apply Split.cons; (repeat (first | with_reducible exact Take.here | apply Take.there)))))) ?_
  rintro v23 L1 ⟨rfl, rfl⟩
  refine swl_app ?_
  refine s_on rfl rfl ?_
  refine s_pu (pu_shr_w32 (a := markW (BitVec.ofInt 32 b) (BitVec.ofInt 32 o) (BitVec.ofInt 32 t)) 31 rfl rfl (by decide)) ?_
  refine s_on rfl rfl ?_
  refine s_pu (pu_eql rfl rfl) ?_
  first | refine s_pu (pu_pick_t rfl rfl) ?_ | refine s_pu (pu_pick_f rfl rfl) ?_
  refine s_pu (pu_assign rfl) ?_
  refine swl_sub _ (.cons (t := 6) rfl .nil) ?_
  refine swl_nil ?_
  refine then_n ?_
  refine swp_ret ?_
  refine done_ret [] (.tmp rfl .nil) ⟨?_, rfl⟩ (by repeat (first | exact Split.nil | (apply Split.cons; (repeat (first | with_reducible exact Take.here | apply Take.there)))))
  have := markW_top (BitVec.ofInt 32 b) (BitVec.ofInt 32 o) (BitVec.ofInt 32 t)
  rw [BitVec.toNat_ushiftRight, Nat.shiftRight_eq_div_pow]
  show Value.bool (decide (((markW (BitVec.ofInt 32 b) (BitVec.ofInt 32 o) (BitVec.ofInt 32 t)).toNat / 2147483648 : Nat) = (1 : Int))) = _
  rw [this]; rfl
theorem mergemarks_law (μ : PH) {b o t : Int} (hb : U32 b) (ho : U32 o) (ht : U32 t) : Spec Try.prog 6 [.int .u32 b, .int .u32 o, .int .u32 t] [ro μ] (fun v L => v = .bool true ∧ ∃ μ' R, Le μ μ' ∧ L = ro μ' :: R) := fun E w hw =>
  ((mergemarks_spec hb ho ht).frame (R := [ro μ]) hw).mono fun e w' ⟨v, L', e1, ⟨e2, e3⟩, h⟩ => ⟨v, _, e1, ⟨e2, μ, [], Le.refl _, by subst e3; rfl⟩, h⟩
end SX
