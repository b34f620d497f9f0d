/- A part of the proof: walks of the seat's functions, by the rules of the texts that it imports. -/
import Derived.Test.YtplekpdckcidjaaQu12
namespace SX
open Go Go.Proofs

theorem given_spec (μ : PH) (q nxt : Nat) (lv : Value) (l : List Th) (most : Int) (hrow : Row μ lv 2 l.length (ths l)) (hb : l.length ≤ 1099511627776) :
    Spec Try.prog 40 [.pointer (some ⟨q, 0, none⟩), lv, .int .i64 most] [qt q l nxt, ro μ] (fun v L => v = .bool true ∧ L = [qt q l nxt, ro μ]) := by
  refine Spec.of 38 Try.func40 rfl rfl rfl ?_
  obtain ⟨A0, cap0, hlv⟩ := hrow.form
  refine swp_seq ?_
  refine swp_region ?_
  subst hlv
  refine s_ef (ef_box rfl rfl) ?_
  intro b4
  refine s_ef (ef_box rfl rfl) ?_
  intro b5
  refine s_ef (ef_alloc) ?_
  intro b6
  refine swl_sub _ (.cons (t := 0) rfl (.cons (t := 4) rfl (.cons (t := 5) rfl (.cons (t := 6) rfl .nil)))) ?_
  refine swl_nil ?_
  refine then_n ?_
  refine swp_seq ?_
  refine swp_region ?_
  refine s_pu (pu_move rfl) ?_
  refine s_ef (ef_fn (all_a (some ⟨q, 0, none⟩)) rfl rfl (by repeat (first | exact Split.nil | (apply Split.cons; (repeat (first | with_reducible exact Take.here | apply Take.there)))))) ?_
  rintro v L1 ⟨ab, rfl, rfl⟩
  refine swl_app ?_
  refine s_ef (ef_alloc) ?_
  intro b8
  refine s_pu (pu_assign rfl) ?_
  refine s_ef0 (ef_store rfl rfl rfl) ?_
  refine swl_sub _ (.cons (t := 4) rfl (.cons (t := 5) rfl (.cons (t := 6) rfl (.cons (t := 7) rfl (.cons (t := 8) rfl .nil))))) ?_
  refine swl_nil ?_
  refine then_n ?_
  refine swp_seq ?_
  refine swp_seq ?_
  refine swp_region ?_
  refine s_pu (pu_move rfl) ?_
  refine s_pu (pu_fn_eq_nil rfl rfl) ?_
  refine swl_sub _ (.cons (t := 4) rfl (.cons (t := 5) rfl (.cons (t := 6) rfl (.cons (t := 7) rfl (.cons (t := 8) rfl (.cons (t := 13) rfl .nil)))))) ?_
  refine swl_nil ?_
  refine then_n ?_
  refine swp_cond (b := _) rfl (fun h => by cases h) (fun h => ?_)
  refine swp_skip ?_
  refine then_n ?_
  refine swp_seq ?_
  refine swp_seq ?_
  refine swp_region ?_
  refine s_pu (pu_move rfl) ?_
  refine swl_sub _ (.cons (t := 4) rfl (.cons (t := 5) rfl (.cons (t := 6) rfl (.cons (t := 8) rfl (.cons (t := 14) rfl .nil))))) ?_
  refine swl_nil ?_
  refine then_n ?_
  refine swp_block ?_
  refine swp_range (all_iter_t ab q nxt l hb) (B := [blk b8 3 [.int .i64 0], blk b6 4 [.bool false], blk b5 3 [.int .i64 most], blk b4 42 [.slice A0 l.length cap0], ro μ]) (fun pre => star [blk ab 28 [.pointer (some ⟨q, 0, none⟩)], qt q l nxt, blk b8 3 [.int .i64 (pre.length : Nat)], blk b6 4 [.bool false], blk b5 3 [.int .i64 most], blk b4 42 [.slice A0 l.length cap0], ro μ])
    (star [blk b6 4 [.bool true], qt q l nxt, ro μ]) (fun _ _ => False) rfl rfl (fun _ => rfl) (Split.ent' (by repeat (first | exact Split.nil | (apply Split.cons; (repeat (first | with_reducible exact Take.here | apply Take.there)))))) star_close1 ?_ ?_ ?_ ?_
  · rintro ln pre x ⟨post, hpost⟩
    refine swp_ent (star_ent (L := [])) ?_
    refine swp_app ?_
    have hnl : pre.length < l.length := by rw [hpost]; simp
    have hxn : l[pre.length]? = some x := by rw [hpost]; simp
    obtain ⟨gl, off, cap, hv, c1, c2, hlr⟩ := hrow.pos (by omega)
    simp only [Value.slice.injEq, true_and] at hv
    obtain ⟨rfl, rfl⟩ := hv
    have hrk := hlr.elem tcs_len hxn
    refine swp_region ?_
    refine s_ef (ef_alloc) ?_
    intro b9
    refine s_ef0 (ef_storeA rfl rfl rfl rfl) ?_
    refine swl_sub _ (.cons (t := 4) rfl (.cons (t := 5) rfl (.cons (t := 6) rfl (.cons (t := 8) rfl (.cons (t := 9) rfl .nil))))) ?_
    refine swl_nil ?_
    refine then_n ?_
    refine swp_block ?_
    refine swp_seq ?_
    refine swp_seq ?_
    refine swp_draw [0, 1, 5, 7, 8, 10] _ [] (by simp only [List.append_nil]; exact Ent.refl _) (by kernel_rfl) ?_
    refine d_rd 0 rfl (rd_load rfl rfl) rfl (by kernel_rfl) (by kernel_rfl) (by kernel_rfl) ?_
    refine d_rd 1 rfl (rd_load rfl rfl) rfl (by kernel_rfl) (by kernel_rfl) (by kernel_rfl) ?_
    refine d_pu 2 rfl (pu_len rfl) (by kernel_rfl) (by kernel_rfl) (by kernel_rfl) ?_
    refine d_pu 3 rfl (pu_geq rfl rfl) (by kernel_rfl) (by kernel_rfl) (by kernel_rfl) ?_
    refine d_pu 4 rfl (pu_move rfl) (by kernel_rfl) (by kernel_rfl) (by kernel_rfl) ?_
    refine d_split 20 rfl (fun h90 => absurd h90 (by simp; omega)) (fun h90 => ?_)
    first | refine d_rd_on 5 rfl rfl rfl (rd_loadW rfl rfl) rfl (by kernel_rfl) (by kernel_rfl) (by kernel_rfl) ?_ | refine d_rd_on 5 rfl rfl rfl (rd_loadX rfl rfl rfl) rfl (by kernel_rfl) (by kernel_rfl) (by kernel_rfl) ?_
    refine d_rd_on 7 rfl rfl rfl (rd_load rfl rfl) rfl (by kernel_rfl) (by kernel_rfl) (by kernel_rfl) ?_
    refine d_rd_on 8 rfl rfl rfl (rd_load rfl rfl) rfl (by kernel_rfl) (by kernel_rfl) (by kernel_rfl) ?_
    refine d_pu_on 9 rfl rfl rfl (pu_indexAddr (off + pre.length * 2) rfl rfl (by omega) (by omega) (by simp)) (by kernel_rfl) (by kernel_rfl) (by kernel_rfl) ?_
    refine d_rd_on 10 rfl rfl rfl (rd_roA (vs := [.int .i64 x.1, .int .i64 x.2]) rfl (by rfl) hrk) rfl (by kernel_rfl) (by kernel_rfl) (by kernel_rfl) ?_
    refine d_amb [6] (by kernel_rfl) rfl ?_
    refine dA_ef 6 rfl (GOn.some rfl rfl) (ef_fn (mine_spec x) rfl rfl (by repeat (first | exact Split.nil | (apply Split.cons; (repeat (first | with_reducible exact Take.here | apply Take.there)))))) ?_
    rintro v L1 ⟨rfl, rfl⟩
    refine ⟨_, ent_app (Split.ent (by repeat (first | exact Split.nil | (apply Split.cons; (repeat (first | with_reducible exact Take.here | apply Take.there)))))), ?_⟩
    refine d_pu_on 11 rfl rfl rfl (pu_st2_ne rfl rfl) (by kernel_rfl) (by kernel_rfl) (by kernel_rfl) ?_
    first | refine d_pu 12 rfl (pu_pick_t rfl rfl) (by kernel_rfl) (by kernel_rfl) (by kernel_rfl) ?_ | refine d_pu 12 rfl (pu_pick_f rfl rfl) (by kernel_rfl) (by kernel_rfl) (by kernel_rfl) ?_
    first | refine d_nilt (by kernel_rfl) ?_ | refine d_nilf (by kernel_rfl) ?_
    refine then_n ?_
    refine swp_cond (b := _) rfl (fun h => absurd h (by simp)) (fun h => ?_)
    refine swp_skip ?_
    refine then_n ?_
    refine swp_seq ?_
    refine swp_region ?_
    refine s_rd (rd_load rfl rfl) ?_
    refine s_pu (pu_add_as ((pre.length + 1 : Nat) : Int) rfl rfl (by omega) (by omega) (by omega)) ?_
    refine s_ef0 (ef_store rfl rfl rfl) ?_
    refine swl_sub _ (.cons (t := 5) rfl (.cons (t := 6) rfl (.cons (t := 8) rfl .nil))) ?_
    refine swl_nil ?_
    refine then_n ?_
    refine swp_seq ?_
    refine swp_region ?_
    refine s_rd (rd_load rfl rfl) ?_
    refine s_rd (rd_load rfl rfl) ?_
    refine s_pu (pu_eql rfl rfl) ?_
    refine swl_sub _ (.cons (t := 6) rfl (.cons (t := 33) rfl .nil)) ?_
    refine swl_nil ?_
    refine then_n ?_
    refine swp_cond (b := _) rfl (fun h33 => ?_) (fun h33 => ?_)
    · refine swp_seq ?_
      refine swp_region ?_
      refine s_ef0 (ef_store rfl rfl rfl) ?_
      refine swl_sub _ .nil ?_
      refine swl_nil ?_
      refine then_n ?_
      refine swp_ret ?_
      refine block_r ?_
      refine rnd_r ?_
      exact (Split.ent' (by repeat (first | exact Split.nil | (apply Split.cons; (repeat (first | with_reducible exact Take.here | apply Take.there)))))).trans star_close1
    · refine swp_skip ?_
      refine block_n ?_
      refine rnd_n ?_
      rw [show (pre ++ [x]).length = pre.length + 1 by simp]
      exact (Split.ent' (by repeat (first | exact Split.nil | (apply Split.cons; (repeat (first | with_reducible exact Take.here | apply Take.there)))))).trans star_close1
  · rintro ys rfl
    refine block_n ?_
    refine then_n ?_
    refine swp_ent (star_ent (L := [])) ?_
    refine swp_app ?_
    refine swp_seq ?_
    refine swp_region ?_
    refine s_rd (rd_load rfl rfl) ?_
    refine s_rd (rd_load rfl rfl) ?_
    refine s_pu (pu_len rfl) ?_
    refine s_pu (pu_eql rfl rfl) ?_
    refine s_ef0 (ef_store rfl rfl rfl) ?_
    refine swl_sub _ (.cons (t := 6) rfl .nil) ?_
    refine swl_nil ?_
    refine then_n ?_
    refine swp_ret ?_
    exact done_ret [qt q ys nxt, ro μ] (.cell rfl (ld_one rfl) .nil) ⟨by simp [resV], rfl⟩ (by repeat (first | exact Split.nil | (apply Split.cons; (repeat (first | with_reducible exact Take.here | apply Take.there)))))
  · refine swp_ent (star_ent (L := [])) ?_
    refine swp_app ?_
    refine swp_ret ?_
    refine block_r ?_
    refine then_r ?_
    exact done_ret [qt q l nxt, ro μ] (.cell rfl (ld_one rfl) .nil) ⟨rfl, rfl⟩ (by repeat (first | exact Split.nil | (apply Split.cons; (repeat (first | with_reducible exact Take.here | apply Take.there)))))
  · exact fun i => swp_fact (p := False) (fun m h => by obtain ⟨_, _, h, _⟩ := h; exact h) False.elim
end SX
