/- A part of the proof: walks of the seat's functions, by the rules of the texts that it imports. -/
import Derived.Test.YtplekpdckcidjaaQu15
namespace SX
open Go Go.Proofs

def ocs (o : Int × Int) : List Value := [.int .u8 o.1, .int .i64 o.2]
theorem ocs_len (o : Int × Int) : (ocs o).length = 2 := rfl

set_option maxHeartbeats 1000000 in
theorem plays_spec (μ : PH) (vo : Value) (ops : List (Int × Int)) (ho : Row μ vo 2 ops.length (ops.flatMap ocs)) :
    Spec Try.prog 6 [vo] [ro μ] (fun v L => v = .bool true ∧ ∃ μ' R, Le μ μ' ∧ L = ro μ' :: R) := by
  have hb : ops.length ≤ 9223372036854775807 := by
    obtain ⟨_, _, _, _, h1, h2, _⟩ := ho
    simp only [maxLen] at h2; omega
  refine Spec.of 108 Try.func6 rfl rfl rfl ?_
  refine swp_seq ?_
  refine swp_region ?_
  refine s_pu (pu_assign rfl) ?_
  refine swl_sub _ (.cons (t := 0) rfl .nil) ?_
  refine swl_nil ?_
  refine then_n ?_
  refine swp_seq ?_
  refine swp_seq ?_
  refine swp_region ?_
  refine s_ef (ef_fn (ranks_spec) rfl rfl (by repeat (first | exact Split.nil | (apply Split.cons; (repeat (first | with_reducible exact Take.here | apply Take.there)))))) ?_
  rintro v L1 ⟨rfl, rfl⟩
  refine swl_app ?_
  refine s_pu (pu_not rfl) ?_
  refine swl_sub _ (.cons (t := 0) rfl (.cons (t := 18) rfl .nil)) ?_
  refine swl_nil ?_
  refine then_n ?_
  refine swp_cond (b := _) rfl (fun h => absurd h (by simp)) (fun h => ?_)
  refine swp_skip ?_
  refine then_n ?_
  refine swp_seq ?_
  refine swp_region ?_
  refine s_ef (ef_fn (new_nil_t) rfl rfl (by repeat (first | exact Split.nil | (apply Split.cons; (repeat (first | with_reducible exact Take.here | apply Take.there)))))) ?_
  rintro v L1 ⟨q, rfl, rfl⟩
  refine swl_app ?_
  refine s_pu (pu_assign rfl) ?_
  refine swl_sub _ (.cons (t := 0) rfl (.cons (t := 3) rfl .nil)) ?_
  refine swl_nil ?_
  refine then_n ?_
  refine swp_seq ?_
  refine swp_region ?_
  refine s_ef (ef_alloc) ?_
  intro b4
  refine swl_sub _ (.cons (t := 0) rfl (.cons (t := 3) rfl (.cons (t := 4) rfl .nil))) ?_
  refine swl_ent ((qraw_new rfl).trans qt_close) ?_
  refine swl_nil ?_
  refine then_n ?_
  refine swp_seq ?_
  refine swp_seq ?_
  refine swp_region ?_
  refine s_pu (pu_move rfl) ?_
  refine s_pu (pu_ptr_eq_nil rfl rfl) ?_
  refine swl_sub _ (.cons (t := 0) rfl (.cons (t := 3) rfl (.cons (t := 4) rfl (.cons (t := 21) rfl .nil)))) ?_
  refine swl_nil ?_
  refine then_n ?_
  refine swp_cond (b := _) rfl (fun h => absurd h (by simp)) (fun h => ?_)
  refine swp_skip ?_
  refine then_n ?_
  refine swp_seq ?_
  refine swp_region ?_
  refine s_pu (pu_assign rfl) ?_
  refine s_pu (pu_assign rfl) ?_
  refine swl_sub _ (.cons (t := 0) rfl (.cons (t := 3) rfl (.cons (t := 4) rfl (.cons (t := 5) rfl (.cons (t := 6) rfl .nil))))) ?_
  refine swl_nil ?_
  refine then_n ?_
  refine swp_seq ?_
  refine swp_seq ?_
  refine swp_region ?_
  refine s_pu (pu_move rfl) ?_
  refine s_pu (pu_len_row ho rfl) ?_
  refine s_pu (pu_move rfl) ?_
  refine swl_sub _ (.cons (t := 3) rfl (.cons (t := 4) rfl (.cons (t := 5) rfl (.cons (t := 6) rfl (.cons (t := 22) rfl (.cons (t := 23) rfl (.cons (t := 24) rfl .nil))))))) ?_
  refine swl_nil ?_
  refine then_n ?_
  refine swp_block ?_
  -- LOOP, slots [3, 4, 5, 6, 22, 23, 24]
  refine swp_loop (ι := Nat) (fun k env L => k ≤ ops.length ∧ ∃ l m n1 n2 μ1 lv mv, l.length ≤ 2000 ∧ m.length = l.length ∧ n1 ≤ 2 * k ∧ n2 ≤ 2 * k ∧ Le μ μ1 ∧ Row μ1 lv 2 l.length (ths l) ∧ Row μ1 mv 2 m.length (ths m) ∧
    env = [(3, .pointer (some ⟨q, 0, none⟩)), (4, .pointer (some ⟨b4, 0, none⟩)), (5, lv), (6, mv), (22, vo), (23, .int .i64 ops.length), (24, .int .i64 (k : Nat))] ∧ L = [qt b4 m n2, qt q l n1, ro μ1]) (fun k => ops.length - k) 0
    ⟨Nat.zero_le _, [], [], 0, 0, μ, _, _, by simp, rfl, Nat.le_refl _, Nat.le_refl _, Le.refl _, Row.nil _ _, Row.nil _ _, rfl, rfl⟩ ?_
  rintro k env L ⟨hk, l, m, n1, n2, μ1, lv, mv, hlk, hmk, hn1, hn2, hle1, hl, hm, rfl, rfl⟩
  refine swp_seq ?_
  refine swp_region ?_
  refine s_pu (pu_lss rfl rfl) ?_
  refine swl_sub _ (.cons (t := 3) rfl (.cons (t := 4) rfl (.cons (t := 5) rfl (.cons (t := 6) rfl (.cons (t := 22) rfl (.cons (t := 23) rfl (.cons (t := 24) rfl (.cons (t := 25) rfl .nil)))))))) ?_
  refine swl_nil ?_
  refine then_n ?_
  refine swp_seq ?_
  refine swp_cond (b := _) rfl (fun h25 => ?_) (fun h25 => ?_)
  · simp at h25
    obtain ⟨op, hop⟩ : ∃ op, ops[k]? = some op := ⟨_, List.getElem?_eq_getElem h25⟩
    obtain ⟨gb, off, cap, rfl, c1, c2, hor⟩ := (ho.le hle1).pos (by omega)
    have hrk := hor.elem ocs_len hop
    refine swp_skip ?_
    refine then_n ?_
    refine swp_seq ?_
    refine swp_block ?_
    refine swp_seq ?_
    refine swp_region ?_
    refine s_pu (pu_move rfl) ?_
    refine s_pu (pu_indexAddr (off + k * 2) rfl rfl (by omega) (by omega) (by simp)) ?_
    refine s_rd (rd_roA (vs := [.int .u8 op.1, .int .i64 op.2]) rfl (by rfl) hrk) ?_
    refine s_ef (ef_alloc) ?_
    intro b8
    refine s_pu (pu_assign rfl) ?_
    refine s_ef0 (ef_storeA rfl rfl rfl rfl) ?_
    refine swl_sub _ (.cons (t := 3) rfl (.cons (t := 4) rfl (.cons (t := 5) rfl (.cons (t := 6) rfl (.cons (t := 7) rfl (.cons (t := 8) rfl (.cons (t := 22) rfl (.cons (t := 23) rfl (.cons (t := 24) rfl .nil))))))))) ?_
    refine swl_nil ?_
    refine then_n ?_
    refine swp_seq ?_
    refine swp_region ?_
    refine s_pu (pu_move rfl) ?_
    refine s_pu (pu_move rfl) ?_
    first | refine s_rd (rd_loadW rfl rfl) ?_ | refine s_rd (rd_loadX rfl rfl rfl) ?_
    refine s_pu (pu_move rfl) ?_
    refine s_pu (pu_add_as ((k : Int) + 1) rfl rfl rfl (by omega) (by omega)) ?_
    refine s_ef (ef_fn (step_spec μ1 q n1 lv l op.1 op.2 ((k : Int) + 1) hl (by omega) (by omega)) rfl rfl (by repeat (first | exact Split.nil | (apply Split.cons; (repeat (first | with_reducible exact Take.here | apply Take.there)))))) ?_
    rintro v L1 ⟨μ2, l2, n3, lv2, rfl, hle2, hl2, ⟨hb1, hs1⟩, hb2, rfl⟩
    refine swl_app ?_
    refine s_pu (pu_move rfl) ?_
    refine s_pu (pu_extract rfl rfl) ?_
    refine s_pu (pu_extract rfl rfl) ?_
    refine s_pu (pu_assign rfl) ?_
    refine s_pu (pu_assign rfl) ?_
    refine swl_sub _ (.cons (t := 3) rfl (.cons (t := 4) rfl (.cons (t := 6) rfl (.cons (t := 7) rfl (.cons (t := 8) rfl (.cons (t := 9) rfl (.cons (t := 10) rfl (.cons (t := 22) rfl (.cons (t := 23) rfl (.cons (t := 24) rfl .nil)))))))))) ?_
    refine swl_nil ?_
    refine then_n ?_
    refine swp_seq ?_
    refine swp_region ?_
    refine s_pu (pu_move rfl) ?_
    first | refine s_rd (rd_loadW rfl rfl) ?_ | refine s_rd (rd_loadX rfl rfl rfl) ?_
    refine s_pu (pu_move rfl) ?_
    refine s_pu (pu_add_as ((k : Int) + 1) rfl rfl rfl (by omega) (by omega)) ?_
    refine s_ef (ef_fn (step_spec μ2 b4 n2 mv m op.1 op.2 ((k : Int) + 1) (hm.le hle2) (by omega) (by omega)) rfl rfl (by repeat (first | exact Split.nil | (apply Split.cons; (repeat (first | with_reducible exact Take.here | apply Take.there)))))) ?_
    rintro v L1 ⟨μ3, m2, n4, mv2, rfl, hle3, hm2, ⟨hb3, hs3⟩, hb4, rfl⟩
    refine swl_app ?_
    refine s_pu (pu_move rfl) ?_
    refine s_pu (pu_extract rfl rfl) ?_
    refine s_pu (pu_extract rfl rfl) ?_
    refine s_pu (pu_assign rfl) ?_
    refine s_pu (pu_assign rfl) ?_
    refine swl_sub _ (.cons (t := 3) rfl (.cons (t := 4) rfl (.cons (t := 9) rfl (.cons (t := 10) rfl (.cons (t := 11) rfl (.cons (t := 12) rfl (.cons (t := 22) rfl (.cons (t := 23) rfl (.cons (t := 24) rfl .nil))))))))) ?_
    refine swl_nil ?_
    refine then_n ?_
    refine swp_seq ?_
    refine swp_seq ?_
    refine swp_region ?_
    obtain ⟨A1, cp1, rfl⟩ := hl2.form
    obtain ⟨A2, cp2, rfl⟩ := hm2.form
    refine s_pu (pu_move rfl) ?_
    refine s_pu (pu_not rfl) ?_
    refine s_pu (pu_move rfl) ?_
    refine s_on rfl rfl ?_
    refine s_pu (pu_move rfl) ?_
    refine s_on rfl rfl ?_
    refine s_pu (pu_not rfl) ?_
    first | refine s_pu (pu_pick_t rfl rfl) ?_ | refine s_pu (pu_pick_f rfl rfl) ?_
    refine s_pu (pu_move rfl) ?_
    refine s_on rfl rfl ?_
    refine s_pu (pu_move rfl) ?_
    refine s_on rfl rfl ?_
    refine s_ef (ef_fn (len_t q l2 n3) rfl rfl (by repeat (first | exact Split.nil | (apply Split.cons; (repeat (first | with_reducible exact Take.here | apply Take.there)))))) ?_
    rintro v L1 ⟨rfl, rfl⟩
    refine swl_app ?_
    refine s_on rfl rfl ?_
    refine s_pu (pu_move rfl) ?_
    refine s_on rfl rfl ?_
    refine s_pu (pu_len rfl) ?_
    refine s_on rfl rfl ?_
    refine s_pu (Pu.as (.bool false) (pu_neq rfl rfl) (by simp)) ?_
    first | refine s_pu (pu_pick_t rfl rfl) ?_ | refine s_pu (pu_pick_f rfl rfl) ?_
    refine s_pu (pu_move rfl) ?_
    refine s_on rfl rfl ?_
    refine s_ef (ef_fn (len_t b4 m2 n4) rfl rfl (by repeat (first | exact Split.nil | (apply Split.cons; (repeat (first | with_reducible exact Take.here | apply Take.there)))))) ?_
    rintro v L1 ⟨rfl, rfl⟩
    refine swl_app ?_
    refine s_on rfl rfl ?_
    refine s_pu (pu_move rfl) ?_
    refine s_on rfl rfl ?_
    refine s_pu (pu_len rfl) ?_
    refine s_on rfl rfl ?_
    refine s_pu (Pu.as (.bool false) (pu_neq rfl rfl) (by simp)) ?_
    first | refine s_pu (pu_pick_t rfl rfl) ?_ | refine s_pu (pu_pick_f rfl rfl) ?_
    refine swl_sub _ (.cons (t := 3) rfl (.cons (t := 4) rfl (.cons (t := 9) rfl (.cons (t := 11) rfl (.cons (t := 22) rfl (.cons (t := 23) rfl (.cons (t := 24) rfl (.cons (t := 64) rfl .nil)))))))) ?_
    refine swl_nil ?_
    refine then_n ?_
    refine swp_cond (b := _) rfl (fun h => absurd h (by simp)) (fun h => ?_)
    refine swp_skip ?_
    refine then_n ?_
    refine swp_seq ?_
    refine swp_region ?_
    refine s_pu (pu_move rfl) ?_
    refine s_pu (pu_move rfl) ?_
    refine s_pu (pu_assign rfl) ?_
    refine s_pu (pu_assign rfl) ?_
    refine swl_sub _ (.cons (t := 3) rfl (.cons (t := 4) rfl (.cons (t := 5) rfl (.cons (t := 6) rfl (.cons (t := 22) rfl (.cons (t := 23) rfl (.cons (t := 24) rfl .nil))))))) ?_
    refine swl_nil ?_
    refine then_n ?_
    refine swp_seq ?_
    refine swp_region ?_
    refine s_pu (pu_move rfl) ?_
    refine s_pu (pu_len rfl) ?_
    refine s_pu (pu_gtr rfl rfl) ?_
    refine swl_sub _ (.cons (t := 3) rfl (.cons (t := 4) rfl (.cons (t := 5) rfl (.cons (t := 6) rfl (.cons (t := 22) rfl (.cons (t := 23) rfl (.cons (t := 24) rfl (.cons (t := 69) rfl .nil)))))))) ?_
    refine swl_nil ?_
    refine then_n ?_
    refine swp_cond (b := _) rfl (fun h69 => ?_) (fun h69 => ?_)
    · skip
      refine swp_seq ?_
      refine swp_region ?_
      refine s_pu (pu_assign rfl) ?_
      refine swl_sub _ (.cons (t := 2) rfl .nil) ?_
      refine swl_nil ?_
      refine then_n ?_
      refine swp_ret ?_
      refine block_r ?_
      refine then_r ?_
      refine then_r ?_
      refine block_r ?_
      refine then_r ?_
      exact done_ret [ro μ3] (.tmp rfl .nil) ⟨rfl, μ3, [], hle1.trans (hle2.trans hle3), rfl⟩ (by repeat (first | exact Split.nil | (apply Split.cons; (repeat (first | with_reducible exact Take.here | apply Take.there)))))
    · skip
      refine swp_skip ?_
      refine block_n ?_
      refine then_n ?_
      refine swp_region ?_
      refine s_pu (pu_add_as ((k + 1 : Nat) : Int) rfl rfl (by omega) (by omega) (by omega)) ?_
      refine s_pu (pu_move rfl) ?_
      refine swl_sub _ (.cons (t := 3) rfl (.cons (t := 4) rfl (.cons (t := 5) rfl (.cons (t := 6) rfl (.cons (t := 22) rfl (.cons (t := 23) rfl (.cons (t := 24) rfl .nil))))))) ?_
      refine swl_ent (Split.ent' (K := [qt b4 m2 n4, qt q l2 n3, ro μ3]) (by repeat (first | exact Split.nil | (apply Split.cons; (repeat (first | with_reducible exact Take.here | apply Take.there)))))) ?_
      refine swl_nil ?_
      exact then_n ⟨k + 1, ⟨by omega, l2, m2, n3, n4, μ3, _, _, by simp at h69; omega, by rw [hs3, hs1, hmk], by omega, by omega, hle1.trans (hle2.trans hle3), hl2.le hle3, hm2, rfl, rfl⟩, by omega⟩
  · skip
    refine swp_sub _ (.cons (t := 3) rfl (.cons (t := 5) rfl .nil)) ?_
    refine swp_exit ?_
    refine then_x ?_
    refine then_x ?_
    refine block_hit rfl ?_
    refine then_n ?_
    refine swp_seq ?_
    refine swp_block ?_
    refine swp_ent (Split.ent' (K := [qt q l n1, ro μ1]) (by repeat (first | exact Split.nil | (apply Split.cons; (repeat (first | with_reducible exact Take.here | apply Take.there)))))) ?_
    refine swp_loop (ι := List Th) (fun r env L => ∃ lv, Row μ1 lv 2 r.length (ths r) ∧ r.length ≤ 2000 ∧ env = [(3, .pointer (some ⟨q, 0, none⟩)), (5, lv)] ∧ L = [qt q r n1, ro μ1]) (fun r => r.length) l ⟨lv, hl, hlk, rfl, rfl⟩ ?_
    rintro r env L ⟨lv, hl, hlk, rfl, rfl⟩
    refine swp_seq ?_
    refine swp_seq ?_
    refine swp_region ?_
    refine s_pu (pu_move rfl) ?_
    refine s_pu (pu_len_row hl rfl) ?_
    refine s_pu (pu_gtr rfl rfl) ?_
    refine swl_sub _ (.cons (t := 3) rfl (.cons (t := 5) rfl (.cons (t := 73) rfl .nil))) ?_
    refine swl_nil ?_
    refine then_n ?_
    cases r with
    | cons x r =>
      refine swp_cond (b := _) rfl (fun h73 => ?_) (fun h73 => absurd h73 (by simp))
      obtain ⟨gl, off, cap, rfl, c1, c2, hlr⟩ := hl.pos (by simp)
      have hrk := hlr.elem tcs_len (i := 0) (e := x) rfl
      refine swp_skip ?_
      refine then_n ?_
      refine swp_block ?_
      refine swp_seq ?_
      refine swp_region ?_
      refine s_pu (pu_move rfl) ?_
      refine s_ef (ef_fn (pop_t q n1 x r (by omega)) rfl rfl (by repeat (first | exact Split.nil | (apply Split.cons; (repeat (first | with_reducible exact Take.here | apply Take.there)))))) ?_
      rintro v L1 ⟨rfl, rfl⟩
      refine swl_app ?_
      refine s_pu (pu_move rfl) ?_
      refine s_pu (pu_extract rfl rfl) ?_
      refine s_pu (pu_extract rfl rfl) ?_
      refine s_ef (ef_alloc) ?_
      intro b13
      refine s_ef0 (ef_storeA rfl rfl rfl rfl) ?_
      refine s_pu (pu_assign rfl) ?_
      refine swl_sub _ (.cons (t := 3) rfl (.cons (t := 5) rfl (.cons (t := 13) rfl (.cons (t := 14) rfl .nil)))) ?_
      refine swl_nil ?_
      refine then_n ?_
      refine swp_seq ?_
      refine swp_seq ?_
      refine swp_draw [3, 7] _ [] (by simp only [List.append_nil]; exact Ent.refl _) (by kernel_rfl) ?_
      refine d_pu 0 rfl (pu_move rfl) (by kernel_rfl) (by kernel_rfl) (by kernel_rfl) ?_
      refine d_pu 1 rfl (pu_not rfl) (by kernel_rfl) (by kernel_rfl) (by kernel_rfl) ?_
      refine d_pu 2 rfl (pu_move rfl) (by kernel_rfl) (by kernel_rfl) (by kernel_rfl) ?_
      first | refine d_rd_on 3 rfl rfl rfl (rd_loadW rfl rfl) rfl (by kernel_rfl) (by kernel_rfl) (by kernel_rfl) ?_ | refine d_rd_on 3 rfl rfl rfl (rd_loadX rfl rfl rfl) rfl (by kernel_rfl) (by kernel_rfl) (by kernel_rfl) ?_
      refine d_pu_on 5 rfl rfl rfl (pu_move rfl) (by kernel_rfl) (by kernel_rfl) (by kernel_rfl) ?_
      refine d_pu_on 6 rfl rfl rfl (pu_indexAddr (off + 0 * 2) rfl rfl (by omega) (by simp) rfl) (by kernel_rfl) (by kernel_rfl) (by kernel_rfl) ?_
      refine d_rd_on 7 rfl rfl rfl (rd_roA (vs := [.int .i64 x.1, .int .i64 x.2]) rfl (by rfl) hrk) rfl (by kernel_rfl) (by kernel_rfl) (by kernel_rfl) ?_
      refine d_amb [4] (by kernel_rfl) rfl ?_
      refine dA_ef 4 rfl (GOn.some rfl rfl) (ef_fn (mine_spec x) rfl rfl (by repeat (first | exact Split.nil | (apply Split.cons; (repeat (first | with_reducible exact Take.here | apply Take.there)))))) ?_
      rintro v L1 ⟨rfl, rfl⟩
      refine ⟨_, ent_app (Split.ent (by repeat (first | exact Split.nil | (apply Split.cons; (repeat (first | with_reducible exact Take.here | apply Take.there)))))), ?_⟩
      refine d_pu_on 8 rfl rfl rfl (pu_st2_ne rfl rfl) (by kernel_rfl) (by kernel_rfl) (by kernel_rfl) ?_
      first | refine d_pu 9 rfl (pu_pick_t rfl rfl) (by kernel_rfl) (by kernel_rfl) (by kernel_rfl) ?_ | refine d_pu 9 rfl (pu_pick_f rfl rfl) (by kernel_rfl) (by kernel_rfl) (by kernel_rfl) ?_
      first | refine d_nilt (by kernel_rfl) ?_ | refine d_nilf (by kernel_rfl) ?_
      refine then_n ?_
      refine swp_cond (b := _) rfl (fun h => absurd h (by simp)) (fun h => ?_)
      refine swp_skip ?_
      refine then_n ?_
      refine swp_region ?_
      obtain ⟨v4, hr4, hp4⟩ := Row.lo (P := Try.prog) (t := 42) hl 1 (by rw [List.length_cons]; omega)
      rw [ths_drop] at hr4
      refine s_pu (pu_move rfl) ?_
      refine s_pu (hp4 _ _ _ _ _ rfl rfl rfl) ?_
      refine s_pu (pu_assign rfl) ?_
      refine swl_sub _ (.cons (t := 3) rfl (.cons (t := 5) rfl .nil)) ?_
      refine swl_ent (Split.ent' (K := [qt q r n1, ro μ1]) (by repeat (first | exact Split.nil | (apply Split.cons; (repeat (first | with_reducible exact Take.here | apply Take.there)))))) ?_
      refine swl_nil ?_
      refine block_n ?_
      exact then_n ⟨r, ⟨v4, hr4, by simp at hlk; omega, rfl, rfl⟩, by simp⟩
    | nil =>
      refine swp_cond (b := _) rfl (fun h73 => absurd h73 (by simp)) (fun h73 => ?_)
      refine swp_exit ?_
      refine then_x ?_
      refine then_x ?_
      refine block_hit rfl ?_
      refine then_n ?_
      refine swp_seq ?_
      refine swp_region ?_
      refine s_pu (pu_move rfl) ?_
      refine s_ef (ef_fn (pop_t0 q n1) rfl rfl (by repeat (first | exact Split.nil | (apply Split.cons; (repeat (first | with_reducible exact Take.here | apply Take.there)))))) ?_
      rintro v L1 ⟨rfl, rfl⟩
      refine swl_app ?_
      refine s_pu (pu_move rfl) ?_
      refine s_pu (pu_extract rfl rfl) ?_
      refine s_pu (pu_extract rfl rfl) ?_
      refine s_ef (ef_alloc) ?_
      intro b15
      refine s_ef0 (ef_storeA rfl rfl rfl rfl) ?_
      refine s_pu (pu_assign rfl) ?_
      refine swl_sub _ (.cons (t := 3) rfl (.cons (t := 15) rfl (.cons (t := 16) rfl .nil))) ?_
      refine swl_nil ?_
      refine then_n ?_
      refine swp_seq ?_
      refine swp_region ?_
      refine s_pu (pu_move rfl) ?_
      refine s_pu (pu_not rfl) ?_
      refine s_pu (pu_move rfl) ?_
      refine s_on rfl rfl ?_
      first | refine s_rd (rd_loadW rfl rfl) ?_ | refine s_rd (rd_loadX rfl rfl rfl) ?_
      refine s_on rfl rfl ?_
      refine s_pu (pu_bld (qs := []) rfl) ?_
      refine s_on rfl rfl ?_
      refine s_pu (pu_st2_eq rfl rfl) ?_
      first | refine s_pu (pu_pick_t rfl rfl) ?_ | refine s_pu (pu_pick_f rfl rfl) ?_
      refine s_pu (pu_move rfl) ?_
      refine s_on rfl rfl ?_
      refine s_pu (pu_move rfl) ?_
      refine s_on rfl rfl ?_
      refine s_ef (ef_fn (len_t q [] n1) rfl rfl (by repeat (first | exact Split.nil | (apply Split.cons; (repeat (first | with_reducible exact Take.here | apply Take.there)))))) ?_
      rintro v L1 ⟨rfl, rfl⟩
      refine swl_app ?_
      refine s_on rfl rfl ?_
      refine s_pu (pu_eql rfl rfl) ?_
      first | refine s_pu (pu_pick_t rfl rfl) ?_ | refine s_pu (pu_pick_f rfl rfl) ?_
      refine s_pu (pu_assign rfl) ?_
      refine swl_sub _ (.cons (t := 2) rfl .nil) ?_
      refine swl_nil ?_
      refine then_n ?_
      refine swp_ret ?_
      exact done_ret [ro μ1] (.tmp rfl .nil) ⟨rfl, μ1, [], hle1, rfl⟩ (by repeat (first | exact Split.nil | (apply Split.cons; (repeat (first | with_reducible exact Take.here | apply Take.there)))))
end SX
