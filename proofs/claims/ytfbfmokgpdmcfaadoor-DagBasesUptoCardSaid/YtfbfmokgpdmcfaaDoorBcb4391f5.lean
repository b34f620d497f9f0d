/- A part of the proof: walks of the program's functions, and the rules by which they go. -/
import Derived.Test.YtfbfmokgpdmcfaaDoorBc40ba6ed
import Derived.Test.YtfbfmokgpdmcfaaDoorRows
import Derived.Test.YtfbfmokgpdmcfaaDoorB9665a15f
import Derived.ProofKit
import Derived.LaidMore
import Derived.OpenShut
import Derived.Stop.Joined
import Derived.Test.YtfbfmokgpdmcfaaDoorB1ed06f0d
namespace SX
open Go Go.Proofs

theorem ite_len {c : Prop} [Decidable c] {l : List Int} {n : Nat} (h : l.length ≤ n) : (if c then l else []).length ≤ n := by split <;> simp_all
theorem ansL_len (g : List (List Int)) (a b : Int) : (ancL g a).length ≤ g.length ∧ (desL g a).length ≤ g.length ∧ (comL g a b).length ≤ g.length ∧ (basL g a b).length ≤ g.length ∧ (onlL g a b).length ≤ g.length ∧ (heaL g).length ≤ g.length :=
  ⟨ite_len (elsTo_len _ _), ite_len (elsTo_len _ _), ite_len (elsTo_len _ _), ite_len (elsTo_len _ _), ite_len (elsTo_len _ _), ite_len (elsTo_len _ _)⟩
set_option maxHeartbeats 4000000 in
theorem lawasked_spec (μ : PH) (v u : Value) (G W : List (Value × List Int)) (a b : Int) (hT : RowAt μ 0 0 tabV) (hG : Graph μ v G) (hW : Graph μ u W) (he : nums W = nums G) (hn : G.length ≤ 1048576) : Spec Tryd.prog 43 [v, u, .int .i64 a, .int .i64 b] [ro μ] (fun r L => r = .bool true ∧ L = [ro μ]) := by
  have hll : W.length = G.length := by have := congrArg List.length he; rwa [List.length_map, List.length_map] at this
  have hbig : W.length ≤ 1099511627776 := by omega
  have hln : (nums G).length = G.length := List.length_map _
  obtain ⟨n1, n2, n3, n4, n5, n6⟩ := ansL_len (nums G) a b
  refine Spec.of 142 Tryd.func43 rfl rfl rfl ?_
  refine swp_seq ?_
  refine swp_region ?_
  refine s_pu (pu_assign rfl) ?_
  refine swl_sub _ (.cons (t := 0) rfl (.cons (t := 1) rfl (.cons (t := 2) rfl (.cons (t := 3) rfl .nil)))) ?_
  refine swl_nil ?_
  refine then_n ?_
  refine swp_seq ?_
  refine swp_seq ?_
  refine swp_region ?_
  refine s_pu (pu_move rfl) ?_
  refine swl_sub _ (.cons (t := 0) rfl (.cons (t := 1) rfl (.cons (t := 2) rfl (.cons (t := 3) rfl (.cons (t := 18) rfl .nil))))) ?_
  refine swl_nil ?_
  refine then_n ?_
  refine swp_block ?_
  refine swp_loop (ι := Nat) (fun k env L => env = [(0, v), (1, u), (2, .int .i64 a), (3, .int .i64 b), (18, .int .i64 (k : Nat))] ∧ L = [ro μ] ∧ k ≤ 6) (fun k => 6 - k) 0 ⟨rfl, rfl, by omega⟩ ?_
  rintro k env L ⟨rfl, rfl, hk⟩
  refine swp_seq ?_
  refine swp_region ?_
  refine s_pu (pu_lss rfl rfl) ?_
  refine swl_sub _ (.cons (t := 0) rfl (.cons (t := 1) rfl (.cons (t := 2) rfl (.cons (t := 3) rfl (.cons (t := 18) rfl (.cons (t := 19) rfl .nil)))))) ?_
  refine swl_nil ?_
  refine then_n ?_
  refine swp_seq ?_
  refine swp_cond (b := _) rfl (fun h19 => ?_) (fun h19 => ?_)
  · skip   -- 19 T
    have h19' := of_decide_eq_true h19
    refine swp_skip ?_
    refine then_n ?_
    refine swp_seq ?_
    refine swp_block ?_
    refine swp_seq ?_
    refine swp_region ?_
    refine s_pu (pu_move rfl) ?_
    refine s_pu (pu_assign rfl) ?_
    refine swl_sub _ (.cons (t := 0) rfl (.cons (t := 1) rfl (.cons (t := 2) rfl (.cons (t := 3) rfl (.cons (t := 9) rfl (.cons (t := 18) rfl .nil)))))) ?_
    refine swl_nil ?_
    refine then_n ?_
    refine swp_seq ?_
    refine swp_region ?_
    refine s_pu (pu_assign rfl) ?_
    refine s_pu (pu_assign rfl) ?_
    refine swl_sub _ (.cons (t := 0) rfl (.cons (t := 1) rfl (.cons (t := 2) rfl (.cons (t := 3) rfl (.cons (t := 9) rfl (.cons (t := 18) rfl .nil)))))) ?_
    refine swl_nil ?_
    refine then_n ?_
    refine swp_seq ?_
    refine swp_region ?_
    refine s_pu (pu_assign rfl) ?_
    refine s_pu (pu_assign rfl) ?_
    refine swl_sub _ (.cons (t := 0) rfl (.cons (t := 1) rfl (.cons (t := 2) rfl (.cons (t := 3) rfl (.cons (t := 9) rfl (.cons (t := 18) rfl .nil)))))) ?_
    refine swl_nil ?_
    refine then_n ?_
    refine swp_cut (fun env L => ∃ (lv lm : Value) (E : Int) (l : List Int), env = [(0, v), (1, u), (2, .int .i64 a), (3, .int .i64 b), (10, lv), (11, lm), (12, .int .i64 E), (13, .int .i64 E), (18, .int .i64 (k : Nat))] ∧ Ent L [own 3 1 lv l.length (l.flatMap (icsk .i64)), own 3 1 lm l.length (l.flatMap (icsk .i64)), ro μ] ∧ l.length ≤ 1048576) ?_ ?_
    · skip
      refine swp_seq ?_
      refine swp_region ?_
      refine s_pu (pu_move rfl) ?_
      refine swl_sub _ (.cons (t := 0) rfl (.cons (t := 1) rfl (.cons (t := 2) rfl (.cons (t := 3) rfl (.cons (t := 18) rfl (.cons (t := 21) rfl .nil)))))) ?_
      refine swl_nil ?_
      refine then_n ?_
      refine swp_block ?_
      refine swp_seq ?_
      refine swp_region ?_
      refine s_pu (pu_eql rfl rfl) ?_
      refine s_pu (pu_assign rfl) ?_
      refine swl_sub _ (.cons (t := 0) rfl (.cons (t := 1) rfl (.cons (t := 2) rfl (.cons (t := 3) rfl (.cons (t := 18) rfl (.cons (t := 21) rfl (.cons (t := 32) rfl .nil))))))) ?_
      refine swl_nil ?_
      refine then_n ?_
      refine swp_cond (b := _) rfl (fun h32 => ?_) (fun h32 => ?_)
      · skip   -- 32 T
        refine swp_seq ?_
        refine swp_region ?_
        refine s_pu (pu_move rfl) ?_
        refine s_pu (pu_move rfl) ?_
        refine s_ef (ef_fn (anc_spec μ v G a hT hG hn) rfl rfl (by repeat (first | exact Split.nil | (apply Split.cons; (repeat (first | with_reducible exact Take.here | apply Take.there)))))) ?_
        rintro v1 L1 ⟨lv, rfl, rfl⟩
        refine swl_app ?_
        refine s_pu (pu_move rfl) ?_
        refine s_pu (pu_extract rfl rfl) ?_
        refine s_pu (pu_extract rfl rfl) ?_
        refine s_pu (pu_assign rfl) ?_
        refine s_pu (pu_assign rfl) ?_
        refine swl_sub _ (.cons (t := 0) rfl (.cons (t := 1) rfl (.cons (t := 2) rfl (.cons (t := 3) rfl (.cons (t := 10) rfl (.cons (t := 12) rfl (.cons (t := 18) rfl .nil))))))) ?_
        refine swl_nil ?_
        refine then_n ?_
        refine swp_region ?_
        refine s_pu (pu_move rfl) ?_
        refine s_pu (pu_move rfl) ?_
        refine s_ef (ef_fn (ranc_spec μ u W a hW hbig) rfl rfl (by repeat (first | exact Split.nil | (apply Split.cons; (repeat (first | with_reducible exact Take.here | apply Take.there)))))) ?_
        rintro v2 L1 ⟨lm, rfl, rfl⟩
        refine swl_app ?_
        refine s_pu (pu_move rfl) ?_
        refine s_pu (pu_extract rfl rfl) ?_
        refine s_pu (pu_extract rfl rfl) ?_
        refine s_pu (pu_assign rfl) ?_
        refine s_pu (pu_assign rfl) ?_
        refine swl_sub _ (.cons (t := 0) rfl (.cons (t := 1) rfl (.cons (t := 2) rfl (.cons (t := 3) rfl (.cons (t := 10) rfl (.cons (t := 11) rfl (.cons (t := 12) rfl (.cons (t := 13) rfl (.cons (t := 18) rfl .nil))))))))) ?_
        refine swl_nil ?_
        refine block_n ?_
        rw [he]
        exact then_n ⟨lv, lm, askE (nums G) a a, ancL (nums G) a, rfl, Split.ent' (by repeat (first | exact Split.nil | (apply Split.cons; (repeat (first | with_reducible exact Take.here | apply Take.there))))), by omega⟩
      · skip   -- 32 F
        refine swp_seq ?_
        refine swp_region ?_
        refine s_pu (pu_eql rfl rfl) ?_
        refine s_pu (pu_assign rfl) ?_
        refine swl_sub _ (.cons (t := 0) rfl (.cons (t := 1) rfl (.cons (t := 2) rfl (.cons (t := 3) rfl (.cons (t := 18) rfl (.cons (t := 21) rfl (.cons (t := 46) rfl .nil))))))) ?_
        refine swl_nil ?_
        refine then_n ?_
        refine swp_cond (b := _) rfl (fun h46 => ?_) (fun h46 => ?_)
        · skip   -- 46 T
          refine swp_seq ?_
          refine swp_region ?_
          refine s_pu (pu_move rfl) ?_
          refine s_pu (pu_move rfl) ?_
          refine s_ef (ef_fn (desc_spec μ v G a hT hG hn) rfl rfl (by repeat (first | exact Split.nil | (apply Split.cons; (repeat (first | with_reducible exact Take.here | apply Take.there)))))) ?_
          rintro v1 L1 ⟨lv, rfl, rfl⟩
          refine swl_app ?_
          refine s_pu (pu_move rfl) ?_
          refine s_pu (pu_extract rfl rfl) ?_
          refine s_pu (pu_extract rfl rfl) ?_
          refine s_pu (pu_assign rfl) ?_
          refine s_pu (pu_assign rfl) ?_
          refine swl_sub _ (.cons (t := 0) rfl (.cons (t := 1) rfl (.cons (t := 2) rfl (.cons (t := 3) rfl (.cons (t := 10) rfl (.cons (t := 12) rfl (.cons (t := 18) rfl .nil))))))) ?_
          refine swl_nil ?_
          refine then_n ?_
          refine swp_region ?_
          refine s_pu (pu_move rfl) ?_
          refine s_pu (pu_move rfl) ?_
          refine s_ef (ef_fn (rdesc_spec μ u W a hW hbig) rfl rfl (by repeat (first | exact Split.nil | (apply Split.cons; (repeat (first | with_reducible exact Take.here | apply Take.there)))))) ?_
          rintro v2 L1 ⟨lm, rfl, rfl⟩
          refine swl_app ?_
          refine s_pu (pu_move rfl) ?_
          refine s_pu (pu_extract rfl rfl) ?_
          refine s_pu (pu_extract rfl rfl) ?_
          refine s_pu (pu_assign rfl) ?_
          refine s_pu (pu_assign rfl) ?_
          refine swl_sub _ (.cons (t := 0) rfl (.cons (t := 1) rfl (.cons (t := 2) rfl (.cons (t := 3) rfl (.cons (t := 10) rfl (.cons (t := 11) rfl (.cons (t := 12) rfl (.cons (t := 13) rfl (.cons (t := 18) rfl .nil))))))))) ?_
          refine swl_nil ?_
          refine block_n ?_
          rw [he]
          exact then_n ⟨lv, lm, askE (nums G) a a, desL (nums G) a, rfl, Split.ent' (by repeat (first | exact Split.nil | (apply Split.cons; (repeat (first | with_reducible exact Take.here | apply Take.there))))), by omega⟩
        · skip   -- 46 F
          refine swp_seq ?_
          refine swp_region ?_
          refine s_pu (pu_eql rfl rfl) ?_
          refine s_pu (pu_assign rfl) ?_
          refine swl_sub _ (.cons (t := 0) rfl (.cons (t := 1) rfl (.cons (t := 2) rfl (.cons (t := 3) rfl (.cons (t := 18) rfl (.cons (t := 21) rfl (.cons (t := 60) rfl .nil))))))) ?_
          refine swl_nil ?_
          refine then_n ?_
          refine swp_cond (b := _) rfl (fun h60 => ?_) (fun h60 => ?_)
          · skip   -- 60 T
            refine swp_seq ?_
            refine swp_region ?_
            refine s_pu (pu_move rfl) ?_
            refine s_pu (pu_move rfl) ?_
            refine s_pu (pu_move rfl) ?_
            refine s_ef (ef_fn (com_spec μ v G a b hT hG hn) rfl rfl (by repeat (first | exact Split.nil | (apply Split.cons; (repeat (first | with_reducible exact Take.here | apply Take.there)))))) ?_
            rintro v1 L1 ⟨lv, rfl, rfl⟩
            refine swl_app ?_
            refine s_pu (pu_move rfl) ?_
            refine s_pu (pu_extract rfl rfl) ?_
            refine s_pu (pu_extract rfl rfl) ?_
            refine s_pu (pu_assign rfl) ?_
            refine s_pu (pu_assign rfl) ?_
            refine swl_sub _ (.cons (t := 0) rfl (.cons (t := 1) rfl (.cons (t := 2) rfl (.cons (t := 3) rfl (.cons (t := 10) rfl (.cons (t := 12) rfl (.cons (t := 18) rfl .nil))))))) ?_
            refine swl_nil ?_
            refine then_n ?_
            refine swp_region ?_
            refine s_pu (pu_move rfl) ?_
            refine s_pu (pu_move rfl) ?_
            refine s_pu (pu_move rfl) ?_
            refine s_ef (ef_fn (rcom_spec μ u W a b hW hbig) rfl rfl (by repeat (first | exact Split.nil | (apply Split.cons; (repeat (first | with_reducible exact Take.here | apply Take.there)))))) ?_
            rintro v2 L1 ⟨lm, rfl, rfl⟩
            refine swl_app ?_
            refine s_pu (pu_move rfl) ?_
            refine s_pu (pu_extract rfl rfl) ?_
            refine s_pu (pu_extract rfl rfl) ?_
            refine s_pu (pu_assign rfl) ?_
            refine s_pu (pu_assign rfl) ?_
            refine swl_sub _ (.cons (t := 0) rfl (.cons (t := 1) rfl (.cons (t := 2) rfl (.cons (t := 3) rfl (.cons (t := 10) rfl (.cons (t := 11) rfl (.cons (t := 12) rfl (.cons (t := 13) rfl (.cons (t := 18) rfl .nil))))))))) ?_
            refine swl_nil ?_
            refine block_n ?_
            rw [he]
            exact then_n ⟨lv, lm, askE (nums G) a b, comL (nums G) a b, rfl, Split.ent' (by repeat (first | exact Split.nil | (apply Split.cons; (repeat (first | with_reducible exact Take.here | apply Take.there))))), by omega⟩
          · skip   -- 60 F
            refine swp_seq ?_
            refine swp_region ?_
            refine s_pu (pu_eql rfl rfl) ?_
            refine s_pu (pu_assign rfl) ?_
            refine swl_sub _ (.cons (t := 0) rfl (.cons (t := 1) rfl (.cons (t := 2) rfl (.cons (t := 3) rfl (.cons (t := 18) rfl (.cons (t := 21) rfl (.cons (t := 76) rfl .nil))))))) ?_
            refine swl_nil ?_
            refine then_n ?_
            refine swp_cond (b := _) rfl (fun h76 => ?_) (fun h76 => ?_)
            · skip   -- 76 T
              refine swp_seq ?_
              refine swp_region ?_
              refine s_pu (pu_move rfl) ?_
              refine s_pu (pu_move rfl) ?_
              refine s_pu (pu_move rfl) ?_
              refine s_ef (ef_fn (bases_spec μ v G a b hT hG hn) rfl rfl (by repeat (first | exact Split.nil | (apply Split.cons; (repeat (first | with_reducible exact Take.here | apply Take.there)))))) ?_
              rintro v1 L1 ⟨lv, rfl, rfl⟩
              refine swl_app ?_
              refine s_pu (pu_move rfl) ?_
              refine s_pu (pu_extract rfl rfl) ?_
              refine s_pu (pu_extract rfl rfl) ?_
              refine s_pu (pu_assign rfl) ?_
              refine s_pu (pu_assign rfl) ?_
              refine swl_sub _ (.cons (t := 0) rfl (.cons (t := 1) rfl (.cons (t := 2) rfl (.cons (t := 3) rfl (.cons (t := 10) rfl (.cons (t := 12) rfl (.cons (t := 18) rfl .nil))))))) ?_
              refine swl_nil ?_
              refine then_n ?_
              refine swp_region ?_
              refine s_pu (pu_move rfl) ?_
              refine s_pu (pu_move rfl) ?_
              refine s_pu (pu_move rfl) ?_
              refine s_ef (ef_fn (rbases_spec μ u W a b hW hbig) rfl rfl (by repeat (first | exact Split.nil | (apply Split.cons; (repeat (first | with_reducible exact Take.here | apply Take.there)))))) ?_
              rintro v2 L1 ⟨lm, rfl, rfl⟩
              refine swl_app ?_
              refine s_pu (pu_move rfl) ?_
              refine s_pu (pu_extract rfl rfl) ?_
              refine s_pu (pu_extract rfl rfl) ?_
              refine s_pu (pu_assign rfl) ?_
              refine s_pu (pu_assign rfl) ?_
              refine swl_sub _ (.cons (t := 0) rfl (.cons (t := 1) rfl (.cons (t := 2) rfl (.cons (t := 3) rfl (.cons (t := 10) rfl (.cons (t := 11) rfl (.cons (t := 12) rfl (.cons (t := 13) rfl (.cons (t := 18) rfl .nil))))))))) ?_
              refine swl_nil ?_
              refine block_n ?_
              rw [he]
              exact then_n ⟨lv, lm, askE (nums G) a b, basL (nums G) a b, rfl, Split.ent' (by repeat (first | exact Split.nil | (apply Split.cons; (repeat (first | with_reducible exact Take.here | apply Take.there))))), by omega⟩
            · skip   -- 76 F
              refine swp_seq ?_
              refine swp_region ?_
              refine s_pu (pu_eql rfl rfl) ?_
              refine s_pu (pu_assign rfl) ?_
              refine swl_sub _ (.cons (t := 0) rfl (.cons (t := 1) rfl (.cons (t := 2) rfl (.cons (t := 3) rfl (.cons (t := 18) rfl (.cons (t := 92) rfl .nil)))))) ?_
              refine swl_nil ?_
              refine then_n ?_
              refine swp_cond (b := _) rfl (fun h92 => ?_) (fun h92 => ?_)
              · skip   -- 92 T
                refine swp_seq ?_
                refine swp_region ?_
                refine s_pu (pu_move rfl) ?_
                refine s_pu (pu_move rfl) ?_
                refine s_pu (pu_move rfl) ?_
                refine s_ef (ef_fn (only_spec μ v G a b hT hG hn) rfl rfl (by repeat (first | exact Split.nil | (apply Split.cons; (repeat (first | with_reducible exact Take.here | apply Take.there)))))) ?_
                rintro v1 L1 ⟨lv, rfl, rfl⟩
                refine swl_app ?_
                refine s_pu (pu_move rfl) ?_
                refine s_pu (pu_extract rfl rfl) ?_
                refine s_pu (pu_extract rfl rfl) ?_
                refine s_pu (pu_assign rfl) ?_
                refine s_pu (pu_assign rfl) ?_
                refine swl_sub _ (.cons (t := 0) rfl (.cons (t := 1) rfl (.cons (t := 2) rfl (.cons (t := 3) rfl (.cons (t := 10) rfl (.cons (t := 12) rfl (.cons (t := 18) rfl .nil))))))) ?_
                refine swl_nil ?_
                refine then_n ?_
                refine swp_region ?_
                refine s_pu (pu_move rfl) ?_
                refine s_pu (pu_move rfl) ?_
                refine s_pu (pu_move rfl) ?_
                refine s_ef (ef_fn (ronly_spec μ u W a b hW hbig) rfl rfl (by repeat (first | exact Split.nil | (apply Split.cons; (repeat (first | with_reducible exact Take.here | apply Take.there)))))) ?_
                rintro v2 L1 ⟨lm, rfl, rfl⟩
                refine swl_app ?_
                refine s_pu (pu_move rfl) ?_
                refine s_pu (pu_extract rfl rfl) ?_
                refine s_pu (pu_extract rfl rfl) ?_
                refine s_pu (pu_assign rfl) ?_
                refine s_pu (pu_assign rfl) ?_
                refine swl_sub _ (.cons (t := 0) rfl (.cons (t := 1) rfl (.cons (t := 2) rfl (.cons (t := 3) rfl (.cons (t := 10) rfl (.cons (t := 11) rfl (.cons (t := 12) rfl (.cons (t := 13) rfl (.cons (t := 18) rfl .nil))))))))) ?_
                refine swl_nil ?_
                refine block_n ?_
                rw [he]
                exact then_n ⟨lv, lm, askE (nums G) a b, onlL (nums G) a b, rfl, Split.ent' (by repeat (first | exact Split.nil | (apply Split.cons; (repeat (first | with_reducible exact Take.here | apply Take.there))))), by omega⟩
              · skip   -- 92 F
                refine swp_seq ?_
                refine swp_region ?_
                refine s_pu (pu_move rfl) ?_
                refine s_ef (ef_fn (heads_spec μ v G hT hG hn) rfl rfl (by repeat (first | exact Split.nil | (apply Split.cons; (repeat (first | with_reducible exact Take.here | apply Take.there)))))) ?_
                rintro v1 L1 ⟨lv, rfl, rfl⟩
                refine swl_app ?_
                refine s_pu (pu_move rfl) ?_
                refine s_pu (pu_extract rfl rfl) ?_
                refine s_pu (pu_extract rfl rfl) ?_
                refine s_pu (pu_assign rfl) ?_
                refine s_pu (pu_assign rfl) ?_
                refine swl_sub _ (.cons (t := 0) rfl (.cons (t := 1) rfl (.cons (t := 2) rfl (.cons (t := 3) rfl (.cons (t := 10) rfl (.cons (t := 12) rfl (.cons (t := 18) rfl .nil))))))) ?_
                refine swl_nil ?_
                refine then_n ?_
                refine swp_region ?_
                refine s_pu (pu_move rfl) ?_
                refine s_ef (ef_fn (rheads_spec μ u W hW hbig) rfl rfl (by repeat (first | exact Split.nil | (apply Split.cons; (repeat (first | with_reducible exact Take.here | apply Take.there)))))) ?_
                rintro v2 L1 ⟨lm, rfl, rfl⟩
                refine swl_app ?_
                refine s_pu (pu_move rfl) ?_
                refine s_pu (pu_extract rfl rfl) ?_
                refine s_pu (pu_extract rfl rfl) ?_
                refine s_pu (pu_assign rfl) ?_
                refine s_pu (pu_assign rfl) ?_
                refine swl_sub _ (.cons (t := 0) rfl (.cons (t := 1) rfl (.cons (t := 2) rfl (.cons (t := 3) rfl (.cons (t := 10) rfl (.cons (t := 11) rfl (.cons (t := 12) rfl (.cons (t := 13) rfl (.cons (t := 18) rfl .nil))))))))) ?_
                refine swl_nil ?_
                refine block_n ?_
                rw [he]
                exact then_n ⟨lv, lm, heaE (nums G), heaL (nums G), rfl, Split.ent' (by repeat (first | exact Split.nil | (apply Split.cons; (repeat (first | with_reducible exact Take.here | apply Take.there))))), by omega⟩
    rintro env L ⟨lv, lm, E, l, rfl, hE, hl⟩
    refine swp_ent hE ?_
    refine swp_fact (fun m h => own_shape .here h) fun hs1 => ?_
    refine swp_fact (fun m h => own_shape (.there .here) h) fun hs2 => ?_
    refine swp_seq ?_
    refine swp_seq ?_
    refine swp_region ?_
    refine s_pu (pu_move rfl) ?_
    refine s_pu (pu_move rfl) ?_
    refine s_pu (pu_neq rfl rfl) ?_
    refine s_pu (pu_move rfl) ?_
    refine s_split 111 rfl (fun h111 => by simp at h111) (fun h111 => ?_)
    refine s_on rfl rfl ?_
    refine s_pu (pu_move rfl) ?_
    refine s_on rfl rfl ?_
    refine s_pu (pu_move rfl) ?_
    refine s_on rfl rfl ?_
    refine s_ef (ef_fn (samelist_i lv lm l l [own 3 1 lv l.length (l.flatMap (icsk .i64)), own 3 1 lm l.length (l.flatMap (icsk .i64)), ro μ] (ints_own hs1 .here) (ints_own hs2 (.there .here))) rfl rfl (by repeat (first | exact Split.nil | (apply Split.cons; (repeat (first | with_reducible exact Take.here | apply Take.there)))))) ?_
    rintro v3 L1 ⟨rfl, rfl⟩
    refine swl_app ?_
    refine s_on rfl rfl ?_
    refine s_pu (pu_not rfl) ?_
    first | refine s_pu (pu_pick_t rfl rfl) ?_ | refine s_pu (pu_pick_f rfl rfl) ?_
    refine swl_sub _ (.cons (t := 0) rfl (.cons (t := 1) rfl (.cons (t := 2) rfl (.cons (t := 3) rfl (.cons (t := 10) rfl (.cons (t := 18) rfl (.cons (t := 116) rfl .nil))))))) ?_
    refine swl_nil ?_
    refine then_n ?_
    refine swp_cond (b := _) rfl (fun h116 => by simp at h116) (fun h116 => ?_)
    refine swp_skip ?_
    refine then_n ?_
    refine swp_region ?_
    refine s_pu (pu_move rfl) ?_
    refine s_ef (ef_fn (spoilt_spec lv l hl) rfl rfl (by repeat (first | exact Split.nil | (apply Split.cons; (repeat (first | with_reducible exact Take.here | apply Take.there)))))) ?_
    rintro v4 L1 rfl
    refine swl_app ?_
    refine swl_sub _ (.cons (t := 0) rfl (.cons (t := 1) rfl (.cons (t := 2) rfl (.cons (t := 3) rfl (.cons (t := 18) rfl .nil))))) ?_
    refine swl_ent (Split.ent' (K := [ro μ]) (by repeat (first | exact Split.nil | (apply Split.cons; (repeat (first | with_reducible exact Take.here | apply Take.there)))))) ?_
    refine swl_nil ?_
    refine block_n ?_
    refine then_n ?_
    refine swp_region ?_
    refine s_pu (pu_add_as ((k + 1 : Nat) : Int) rfl rfl (by omega) (by omega) (by omega)) ?_
    refine s_pu (pu_move rfl) ?_
    refine swl_sub _ (.cons (t := 0) rfl (.cons (t := 1) rfl (.cons (t := 2) rfl (.cons (t := 3) rfl (.cons (t := 18) rfl .nil))))) ?_
    refine swl_nil ?_
    exact then_n ⟨k + 1, ⟨rfl, rfl, by omega⟩, by omega⟩
  · skip   -- 19 F
    refine swp_exit ?_
    refine then_x ?_
    refine then_x ?_
    refine block_hit rfl ?_
    refine then_n ?_
    refine swp_seq ?_
    refine swp_region ?_
    refine s_pu (pu_move rfl) ?_
    refine s_pu (pu_move rfl) ?_
    refine s_pu (pu_move rfl) ?_
    refine s_ef (ef_fn (reach_spec μ v G a b hG hn) rfl rfl (by repeat (first | exact Split.nil | (apply Split.cons; (repeat (first | with_reducible exact Take.here | apply Take.there)))))) ?_
    rintro v5 L1 ⟨rfl, rfl⟩
    refine swl_app ?_
    refine s_pu (pu_move rfl) ?_
    refine s_pu (pu_extract rfl rfl) ?_
    refine s_pu (pu_extract rfl rfl) ?_
    refine s_pu (pu_assign rfl) ?_
    refine s_pu (pu_assign rfl) ?_
    refine swl_sub _ (.cons (t := 1) rfl (.cons (t := 2) rfl (.cons (t := 3) rfl (.cons (t := 14) rfl (.cons (t := 15) rfl .nil))))) ?_
    refine swl_nil ?_
    refine then_n ?_
    refine swp_seq ?_
    refine swp_region ?_
    refine s_pu (pu_move rfl) ?_
    refine s_pu (pu_move rfl) ?_
    refine s_pu (pu_move rfl) ?_
    refine s_ef (ef_fn (rreach_spec μ u W a b hW hbig) rfl rfl (by repeat (first | exact Split.nil | (apply Split.cons; (repeat (first | with_reducible exact Take.here | apply Take.there)))))) ?_
    rintro v6 L1 ⟨rfl, rfl⟩
    rw [he]
    refine swl_app ?_
    refine s_pu (pu_move rfl) ?_
    refine s_pu (pu_extract rfl rfl) ?_
    refine s_pu (pu_extract rfl rfl) ?_
    refine s_pu (pu_assign rfl) ?_
    refine s_pu (pu_assign rfl) ?_
    refine swl_sub _ (.cons (t := 14) rfl (.cons (t := 15) rfl (.cons (t := 16) rfl (.cons (t := 17) rfl .nil)))) ?_
    refine swl_nil ?_
    refine then_n ?_
    refine swp_seq ?_
    refine swp_region ?_
    refine s_pu (pu_move rfl) ?_
    refine s_pu (pu_move rfl) ?_
    refine s_pu (pu_bool_eq rfl rfl) ?_
    refine s_pu (pu_move rfl) ?_
    refine s_split 137 rfl (fun h137 => ?_) (fun h137 => by simp at h137)
    refine s_on rfl rfl ?_
    refine s_pu (pu_move rfl) ?_
    refine s_on rfl rfl ?_
    refine s_pu (pu_move rfl) ?_
    refine s_on rfl rfl ?_
    refine s_pu (pu_eql rfl rfl) ?_
    first | refine s_pu (pu_pick_t rfl rfl) ?_ | refine s_pu (pu_pick_f rfl rfl) ?_
    refine s_pu (pu_assign rfl) ?_
    refine swl_sub _ (.cons (t := 8) rfl .nil) ?_
    refine swl_nil ?_
    refine then_n ?_
    refine swp_ret ?_
    exact done_ret [ro μ] (.tmp rfl .nil) ⟨by rw [decide_eq_true rfl]; rfl, rfl⟩ (by repeat (first | exact Split.nil | (apply Split.cons; (repeat (first | with_reducible exact Take.here | apply Take.there)))))
abbrev LawOk (μ : PH) (r : Value) (L : List Assn) : Prop := r = .bool true ∧ ∃ μ' R, Le μ μ' ∧ L = ro μ' :: R
set_option maxHeartbeats 2000000 in
theorem answers_spec (μ : PH) (v : Value) (G : List (Value × List Int)) (a b : Int) (hT : RowAt μ 0 0 tabV) (hG : Graph μ v G) (hn : G.length ≤ 1048576) (hrows : ∀ x ∈ G, x.2.length ≤ 1048576) : Spec Tryd.prog 11 [v, .int .i64 a, .int .i64 b] [ro μ] (LawOk μ) := by
  have hln : (nums G).length = G.length := List.length_map _
  refine Spec.of 58 Tryd.func11 rfl rfl rfl ?_
  refine swp_seq ?_
  refine swp_region ?_
  refine s_pu (pu_assign rfl) ?_
  refine swl_sub _ (.cons (t := 0) rfl (.cons (t := 1) rfl (.cons (t := 2) rfl .nil))) ?_
  refine swl_nil ?_
  refine then_n ?_
  refine swp_seq ?_
  refine swp_seq ?_
  refine swp_region ?_
  refine s_ef (ef_fn (descends_spec μ hT) rfl rfl (by repeat (first | exact Split.nil | (apply Split.cons; (repeat (first | with_reducible exact Take.here | apply Take.there)))))) ?_
  rintro v9 L1 ⟨rfl, μ1, l1, rfl⟩
  refine swl_app ?_
  refine s_pu (pu_not rfl) ?_
  refine swl_sub _ (.cons (t := 0) rfl (.cons (t := 1) rfl (.cons (t := 2) rfl (.cons (t := 10) rfl .nil)))) ?_
  refine swl_nil ?_
  refine then_n ?_
  refine swp_cond (b := _) rfl (fun h10 => by cases h10) (fun h10 => ?_)
  refine swp_skip ?_
  refine then_n ?_
  refine swp_seq ?_
  refine swp_seq ?_
  have hG1 := hG.le l1
  have hT1 := hT.le l1
  refine swp_region ?_
  refine s_pu (pu_move rfl) ?_
  refine s_pu (pu_len_row hG1.1 rfl) ?_
  refine s_pu (pu_gtr rfl rfl) ?_
  refine swl_sub _ (.cons (t := 0) rfl (.cons (t := 1) rfl (.cons (t := 2) rfl (.cons (t := 13) rfl .nil)))) ?_
  refine swl_nil ?_
  refine then_n ?_
  refine swp_cond (b := _) rfl (fun h13 => ?_) (fun h13 => ?_)
  · skip   -- 13 T
    refine swp_seq ?_
    refine swp_region ?_
    refine s_pu (pu_move rfl) ?_
    refine s_ef (ef_fn (check_spec μ1 v G hG1) rfl rfl (by repeat (first | exact Split.nil | (apply Split.cons; (repeat (first | with_reducible exact Take.here | apply Take.there)))))) ?_
    rintro v15 L1 ⟨rfl, rfl⟩
    refine swl_app ?_
    refine s_pu (pu_move rfl) ?_
    refine s_ef (ef_fn (rcheck_spec μ1 v G hG1 (by omega)) rfl rfl (by repeat (first | exact Split.nil | (apply Split.cons; (repeat (first | with_reducible exact Take.here | apply Take.there)))))) ?_
    rintro v17 L1 ⟨rfl, rfl⟩
    refine swl_app ?_
    refine s_pu (pu_eql rfl rfl) ?_
    refine s_pu (pu_assign rfl) ?_
    refine swl_sub _ (.cons (t := 6) rfl .nil) ?_
    refine swl_nil ?_
    refine then_n ?_
    refine swp_ret ?_
    refine then_r ?_
    exact done_ret [ro μ1] (.tmp rfl .nil) ⟨by rw [decide_eq_true rfl]; rfl, μ1, [], l1, rfl⟩ (by repeat (first | exact Split.nil | (apply Split.cons; (repeat (first | with_reducible exact Take.here | apply Take.there)))))
  · skip   -- 13 F
    refine swp_skip ?_
    refine then_n ?_
    refine swp_seq ?_
    refine swp_region ?_
    refine s_pu (pu_move rfl) ?_
    refine s_pu (pu_move rfl) ?_
    refine s_pu (pu_len_row hG1.1 rfl) ?_
    refine s_ef (ef_fn (few_spec μ1 v G G.length hG1 hn hrows hn) rfl rfl (by repeat (first | exact Split.nil | (apply Split.cons; (repeat (first | with_reducible exact Take.here | apply Take.there)))))) ?_
    rintro v22 L1 ⟨μ2, G2, l2, g2, e2, rfl⟩
    refine swl_app ?_
    have hG2 := hG1.le l2
    refine s_pu (pu_move rfl) ?_
    refine s_pu (pu_move rfl) ?_
    refine s_pu (pu_len_row hG2.1 rfl) ?_
    refine s_ef (ef_fn (few_spec μ2 v G G.length hG2 hn hrows hn) rfl rfl (by repeat (first | exact Split.nil | (apply Split.cons; (repeat (first | with_reducible exact Take.here | apply Take.there)))))) ?_
    rintro v26 L1 ⟨μ3, G3, l3, g3, e3, rfl⟩
    refine swl_app ?_
    rw [← hln, List.take_length] at e2 e3
    have hG3 := hG2.le l3
    have hT3 := hT1.le (l2.trans l3)
    have g2' := g2.le l3
    have hl2 : G2.length = G.length := by have := congrArg List.length e2; rwa [List.length_map, List.length_map] at this
    have hl3 : G3.length = G.length := by have := congrArg List.length e3; rwa [List.length_map, List.length_map] at this
    have he : nums G3 = nums G2 := by rw [e2, e3]
    refine s_pu (pu_assign rfl) ?_
    refine s_pu (pu_assign rfl) ?_
    refine swl_sub _ (.cons (t := 0) rfl (.cons (t := 1) rfl (.cons (t := 2) rfl (.cons (t := 7) rfl (.cons (t := 8) rfl .nil))))) ?_
    refine swl_nil ?_
    refine then_n ?_
    refine swp_seq ?_
    refine swp_region ?_
    refine s_pu (pu_move rfl) ?_
    refine s_ef (ef_fn (check_spec μ3 v22 G2 g2') rfl rfl (by repeat (first | exact Split.nil | (apply Split.cons; (repeat (first | with_reducible exact Take.here | apply Take.there)))))) ?_
    rintro v28 L1 ⟨rfl, rfl⟩
    refine swl_app ?_
    refine s_pu (pu_move rfl) ?_
    refine s_ef (ef_fn (rcheck_spec μ3 v26 G3 g3 (by omega)) rfl rfl (by repeat (first | exact Split.nil | (apply Split.cons; (repeat (first | with_reducible exact Take.here | apply Take.there)))))) ?_
    rintro v30 L1 ⟨rfl, rfl⟩
    refine swl_app ?_
    rw [he]
    refine s_pu (pu_eql rfl rfl) ?_
    refine s_pu (pu_move rfl) ?_
    refine s_split 32 rfl (fun h32 => ?_) (fun h32 => by simp at h32)
    refine s_on rfl rfl ?_
    refine s_pu (pu_move rfl) ?_
    refine s_on rfl rfl ?_
    refine s_pu (pu_move rfl) ?_
    refine s_on rfl rfl ?_
    refine s_pu (pu_move rfl) ?_
    refine s_on rfl rfl ?_
    refine s_pu (pu_move rfl) ?_
    refine s_on rfl rfl ?_
    refine s_ef (ef_fn (lawasked_spec μ3 v22 v26 G2 G3 a b hT3 g2' g3 he (by omega)) rfl rfl (by repeat (first | exact Split.nil | (apply Split.cons; (repeat (first | with_reducible exact Take.here | apply Take.there)))))) ?_
    rintro v37 L1 ⟨rfl, rfl⟩
    refine swl_app ?_
    first | refine s_pu (pu_pick_t rfl rfl) ?_ | refine s_pu (pu_pick_f rfl rfl) ?_
    refine s_pu (pu_move rfl) ?_
    refine s_on rfl rfl ?_
    refine s_pu (pu_move rfl) ?_
    refine s_on rfl rfl ?_
    refine s_pu (pu_move rfl) ?_
    refine s_on rfl rfl ?_
    refine s_pu (pu_move rfl) ?_
    refine s_on rfl rfl ?_
    refine s_pu (pu_move rfl) ?_
    refine s_on rfl rfl ?_
    refine s_ef (ef_fn (lawasked_spec μ3 v22 v26 G2 G3 b a hT3 g2' g3 he (by omega)) rfl rfl (by repeat (first | exact Split.nil | (apply Split.cons; (repeat (first | with_reducible exact Take.here | apply Take.there)))))) ?_
    rintro v44 L1 ⟨rfl, rfl⟩
    refine swl_app ?_
    first | refine s_pu (pu_pick_t rfl rfl) ?_ | refine s_pu (pu_pick_f rfl rfl) ?_
    refine s_pu (pu_move rfl) ?_
    refine s_on rfl rfl ?_
    refine s_pu (pu_move rfl) ?_
    refine s_on rfl rfl ?_
    refine s_pu (pu_move rfl) ?_
    refine s_on rfl rfl ?_
    refine s_ef (ef_fn (samegraph_spec μ3 v22 v G2 G g2' hG3) rfl rfl (by repeat (first | exact Split.nil | (apply Split.cons; (repeat (first | with_reducible exact Take.here | apply Take.there)))))) ?_
    rintro v49 L1 ⟨rfl, rfl⟩
    refine swl_app ?_
    rw [decide_eq_true e2]
    first | refine s_pu (pu_pick_t rfl rfl) ?_ | refine s_pu (pu_pick_f rfl rfl) ?_
    refine s_pu (pu_move rfl) ?_
    refine s_on rfl rfl ?_
    refine s_pu (pu_move rfl) ?_
    refine s_on rfl rfl ?_
    refine s_pu (pu_move rfl) ?_
    refine s_on rfl rfl ?_
    refine s_pu (pu_move rfl) ?_
    refine s_on rfl rfl ?_
    refine s_pu (pu_move rfl) ?_
    refine s_on rfl rfl ?_
    refine s_ef (ef_fn (lawasked_spec μ3 v22 v26 G2 G3 a b hT3 g2' g3 he (by omega)) rfl rfl (by repeat (first | exact Split.nil | (apply Split.cons; (repeat (first | with_reducible exact Take.here | apply Take.there)))))) ?_
    rintro v56 L1 ⟨rfl, rfl⟩
    refine swl_app ?_
    first | refine s_pu (pu_pick_t rfl rfl) ?_ | refine s_pu (pu_pick_f rfl rfl) ?_
    refine s_pu (pu_assign rfl) ?_
    refine swl_sub _ (.cons (t := 6) rfl .nil) ?_
    refine swl_nil ?_
    refine then_n ?_
    refine swp_ret ?_
    exact done_ret [ro μ3] (.tmp rfl .nil) ⟨rfl, μ3, [], l1.trans (l2.trans l3), rfl⟩ (by repeat (first | exact Split.nil | (apply Split.cons; (repeat (first | with_reducible exact Take.here | apply Take.there)))))
set_option maxHeartbeats 2000000 in
theorem pairs_spec (μ : PH) (v : Value) (G : List (Value × List Int)) (hT : RowAt μ 0 0 tabV) (hG : Graph μ v G) (hn : G.length ≤ 1048576) (hrows : ∀ x ∈ G, x.2.length ≤ 1048576) : Spec Tryd.prog 12 [v] [ro μ] (LawOk μ) := by
  refine Spec.of 28 Tryd.func12 rfl rfl rfl ?_
  refine swp_seq ?_
  refine swp_region ?_
  refine s_pu (pu_assign rfl) ?_
  refine swl_sub _ (.cons (t := 0) rfl .nil) ?_
  refine swl_nil ?_
  refine then_n ?_
  refine swp_seq ?_
  refine swp_seq ?_
  refine swp_region ?_
  refine s_ef (ef_fn (descends_spec μ hT) rfl rfl (by repeat (first | exact Split.nil | (apply Split.cons; (repeat (first | with_reducible exact Take.here | apply Take.there)))))) ?_
  rintro v9 L1 ⟨rfl, μ1, l1, rfl⟩
  refine swl_app ?_
  refine s_pu (pu_not rfl) ?_
  refine swl_sub _ (.cons (t := 0) rfl (.cons (t := 7) rfl .nil)) ?_
  refine swl_nil ?_
  refine then_n ?_
  refine swp_cond (b := _) rfl (fun h7 => by cases h7) (fun h7 => ?_)
  refine swp_skip ?_
  refine then_n ?_
  refine swp_seq ?_
  have hG1 := hG.le l1
  have hT1 := hT.le l1
  refine swp_region ?_
  refine s_pu (pu_move rfl) ?_
  refine s_ef (ef_fn (few_spec μ1 v G 14 hG1 hn hrows (by omega)) rfl rfl (by repeat (first | exact Split.nil | (apply Split.cons; (repeat (first | with_reducible exact Take.here | apply Take.there)))))) ?_
  rintro v22 L1 ⟨μ2, G2, l2, g2, e2, rfl⟩
  refine swl_app ?_
  have hl2 : G2.length ≤ 14 := by have := congrArg List.length e2; rw [List.length_map, List.length_take] at this; omega
  have hT2 := hT1.le l2
  refine s_pu (pu_assign rfl) ?_
  refine swl_sub _ (.cons (t := 3) rfl .nil) ?_
  refine swl_nil ?_
  refine then_n ?_
  refine swp_seq ?_
  refine swp_seq ?_
  refine swp_region ?_
  refine s_pu (pu_move rfl) ?_
  refine s_pu (pu_len_row g2.1 rfl) ?_
  refine s_pu (pu_move rfl) ?_
  refine swl_sub _ (.cons (t := 3) rfl (.cons (t := 11) rfl (.cons (t := 12) rfl .nil))) ?_
  refine swl_nil ?_
  refine then_n ?_
  refine swp_block ?_
  refine swp_loop (ι := Nat) (fun i env L => env = [(3, v22), (11, .int .i64 (G2.length : Nat)), (12, .int .i64 (i : Nat))] ∧ L = [ro μ2] ∧ i ≤ G2.length) (fun i => G2.length - i) 0 ⟨rfl, rfl, by omega⟩ ?_
  rintro i env L ⟨rfl, rfl, hi⟩
  refine swp_seq ?_
  refine swp_region ?_
  refine s_pu (pu_lss rfl rfl) ?_
  refine swl_sub _ (.cons (t := 3) rfl (.cons (t := 11) rfl (.cons (t := 12) rfl (.cons (t := 13) rfl .nil)))) ?_
  refine swl_nil ?_
  refine then_n ?_
  refine swp_seq ?_
  refine swp_cond (b := _) rfl (fun h13 => ?_) (fun h13 => ?_)
  · skip   -- 13 T
    have h13' : i < G2.length := by have := of_decide_eq_true h13; omega
    refine swp_skip ?_
    refine then_n ?_
    refine swp_seq ?_
    refine swp_block ?_
    refine swp_seq ?_
    refine swp_region ?_
    refine s_pu (pu_move rfl) ?_
    refine s_pu (pu_assign rfl) ?_
    refine swl_sub _ (.cons (t := 3) rfl (.cons (t := 4) rfl (.cons (t := 11) rfl (.cons (t := 12) rfl .nil)))) ?_
    refine swl_nil ?_
    refine then_n ?_
    refine swp_seq ?_
    refine swp_region ?_
    refine s_pu (pu_move rfl) ?_
    refine s_pu (pu_len_row g2.1 rfl) ?_
    refine s_pu (pu_move rfl) ?_
    refine swl_sub _ (.cons (t := 3) rfl (.cons (t := 4) rfl (.cons (t := 11) rfl (.cons (t := 12) rfl (.cons (t := 16) rfl (.cons (t := 17) rfl .nil)))))) ?_
    refine swl_nil ?_
    refine then_n ?_
    refine swp_block ?_
    refine swp_loop (ι := Nat) (fun j env L => env = [(3, v22), (4, .int .i64 (i : Nat)), (11, .int .i64 (G2.length : Nat)), (12, .int .i64 (i : Nat)), (16, .int .i64 (G2.length : Nat)), (17, .int .i64 (j : Nat))] ∧ L = [ro μ2] ∧ j ≤ G2.length) (fun j => G2.length - j) 0 ⟨rfl, rfl, by omega⟩ ?_
    rintro j env L ⟨rfl, rfl, hj⟩
    refine swp_seq ?_
    refine swp_region ?_
    refine s_pu (pu_lss rfl rfl) ?_
    refine swl_sub _ (.cons (t := 3) rfl (.cons (t := 4) rfl (.cons (t := 11) rfl (.cons (t := 12) rfl (.cons (t := 16) rfl (.cons (t := 17) rfl (.cons (t := 18) rfl .nil))))))) ?_
    refine swl_nil ?_
    refine then_n ?_
    refine swp_seq ?_
    refine swp_cond (b := _) rfl (fun h18 => ?_) (fun h18 => ?_)
    · skip   -- 18 T
      have h18' : j < G2.length := by have := of_decide_eq_true h18; omega
      refine swp_skip ?_
      refine then_n ?_
      refine swp_seq ?_
      refine swp_block ?_
      refine swp_seq ?_
      refine swp_region ?_
      refine s_pu (pu_move rfl) ?_
      refine s_pu (pu_assign rfl) ?_
      refine swl_sub _ (.cons (t := 3) rfl (.cons (t := 4) rfl (.cons (t := 5) rfl (.cons (t := 11) rfl (.cons (t := 12) rfl (.cons (t := 16) rfl (.cons (t := 17) rfl .nil))))))) ?_
      refine swl_nil ?_
      refine then_n ?_
      refine swp_seq ?_
      refine swp_region ?_
      refine s_pu (pu_move rfl) ?_
      refine s_pu (pu_move rfl) ?_
      refine s_pu (pu_move rfl) ?_
      refine s_pu (pu_move rfl) ?_
      refine s_ef (ef_fn (lawasked_spec μ2 v22 v22 G2 G2 i j hT2 g2 g2 rfl (by omega)) rfl rfl (by repeat (first | exact Split.nil | (apply Split.cons; (repeat (first | with_reducible exact Take.here | apply Take.there)))))) ?_
      rintro v24 L1 ⟨rfl, rfl⟩
      refine swl_app ?_
      refine s_pu (pu_not rfl) ?_
      refine swl_sub _ (.cons (t := 3) rfl (.cons (t := 4) rfl (.cons (t := 11) rfl (.cons (t := 12) rfl (.cons (t := 16) rfl (.cons (t := 17) rfl (.cons (t := 25) rfl .nil))))))) ?_
      refine swl_nil ?_
      refine then_n ?_
      refine swp_cond (b := _) rfl (fun h25 => by cases h25) (fun h25 => ?_)
      refine swp_skip ?_
      refine block_n ?_
      refine then_n ?_
      refine swp_region ?_
      refine s_pu (pu_add_as ((j + 1 : Nat) : Int) rfl rfl (by omega) (by omega) (by omega)) ?_
      refine s_pu (pu_move rfl) ?_
      refine swl_sub _ (.cons (t := 3) rfl (.cons (t := 4) rfl (.cons (t := 11) rfl (.cons (t := 12) rfl (.cons (t := 16) rfl (.cons (t := 17) rfl .nil)))))) ?_
      refine swl_nil ?_
      exact then_n ⟨j + 1, ⟨rfl, rfl, h18'⟩, by omega⟩
    · skip   -- 18 F
      refine swp_exit ?_
      refine then_x ?_
      refine then_x ?_
      refine block_hit rfl ?_
      refine block_n ?_
      refine then_n ?_
      refine swp_region ?_
      refine s_pu (pu_add_as ((i + 1 : Nat) : Int) rfl rfl (by omega) (by omega) (by omega)) ?_
      refine s_pu (pu_move rfl) ?_
      refine swl_sub _ (.cons (t := 3) rfl (.cons (t := 11) rfl (.cons (t := 12) rfl .nil))) ?_
      refine swl_nil ?_
      exact then_n ⟨i + 1, ⟨rfl, rfl, h13'⟩, by omega⟩
  · skip   -- 13 F
    refine swp_exit ?_
    refine then_x ?_
    refine then_x ?_
    refine block_hit rfl ?_
    refine then_n ?_
    refine swp_seq ?_
    refine swp_region ?_
    refine s_pu (pu_assign rfl) ?_
    refine swl_sub _ (.cons (t := 2) rfl .nil) ?_
    refine swl_nil ?_
    refine then_n ?_
    refine swp_ret ?_
    exact done_ret [ro μ2] (.tmp rfl .nil) ⟨rfl, μ2, [], l1.trans l2, rfl⟩ (by repeat (first | exact Split.nil | (apply Split.cons; (repeat (first | with_reducible exact Take.here | apply Take.there)))))
end SX
namespace SX
open Go Go.Proofs

/-- by definition: itself, or by a parent -/
inductive Reach (g : List (List Int)) : Nat → Nat → Prop
  | refl (a : Nat) : Reach g a a
  | step {a p j : Nat} (h : (p : Int) ∈ rowOf g a) (k : Reach g p j) : Reach g a j
theorem row_good {g : List (List Int)} (hg : Good g) {a : Nat} {p : Int} (h : p ∈ rowOf g a) : 0 ≤ p ∧ p < a ∧ a < g.length := by
  unfold rowOf at h
  rw [List.getD_eq_getElem?_getD] at h
  cases hc : g[a]? with
  | none => rw [hc] at h; cases h
  | some l => rw [hc] at h; exact ⟨(hg a l hc p h).1, (hg a l hc p h).2, (List.getElem?_eq_some_iff.1 hc).1⟩
theorem Reach.le {g : List (List Int)} (hg : Good g) {a j : Nat} (h : Reach g a j) : j ≤ a := by
  induction h with
  | refl => exact Nat.le_refl _
  | step h _ ih => have := row_good hg h; omega
theorem Reach.trans {g : List (List Int)} {a b c : Nat} (h : Reach g a b) (k : Reach g b c) : Reach g a c := by
  induction h with
  | refl => exact k
  | step h _ ih => exact .step h (ih k)
theorem Reach.last {g : List (List Int)} {a j : Nat} (h : Reach g a j) : a = j ∨ ∃ z, Reach g a z ∧ (j : Int) ∈ rowOf g z := by
  induction h with
  | refl => exact .inl rfl
  | @step a p j h _ ih =>
    right
    rcases ih with rfl | ⟨z, h1, h2⟩
    · exact ⟨a, .refl _, h⟩
    · exact ⟨z, .step h h1, h2⟩
theorem Reach.lt {g : List (List Int)} (hg : Good g) {a j : Nat} (h : Reach g a j) (hne : a ≠ j) : j < a ∧ a < g.length := by
  cases h with
  | refl => exact absurd rfl hne
  | step h k => have := row_good hg h; have := k.le hg; omega
theorem upF_iff {g : List (List Int)} (hg : Good g) : ∀ (c : Nat) (S : Nat → Bool), (∀ i, c ≤ i → S i = true → ∀ p : Nat, (p : Int) ∈ rowOf g i → S p = true) → ∀ j, upF g c S j = true ↔ ∃ i, S i = true ∧ Reach g i j
  | 0, S, hS, j => by
    refine ⟨fun h => ⟨j, h, .refl _⟩, ?_⟩
    rintro ⟨i, hi, hr⟩
    show S j = true
    induction hr with
    | refl => exact hi
    | step h _ ih => exact ih (hS _ (Nat.zero_le _) hi _ h)
  | c + 1, S, hS, j => by
    have hst : ∀ i, stepUp g c S i = true ↔ S i = true ∨ (S c = true ∧ (i : Int) ∈ rowOf g c) := fun i => by unfold stepUp; simp
    have h1 : ∀ i, c ≤ i → stepUp g c S i = true → ∀ p : Nat, (p : Int) ∈ rowOf g i → stepUp g c S p = true := fun i hi hs p hp => by
      rw [hst] at hs ⊢
      by_cases e : i = c
      · subst e
        rcases hs with hs | ⟨hs, _⟩
        · exact .inr ⟨hs, hp⟩
        · exact .inr ⟨hs, hp⟩
      · rcases hs with hs | ⟨_, hs⟩
        · exact .inl (hS i (by omega) hs p hp)
        · have := row_good hg hs; omega
    show upF g c (stepUp g c S) j = true ↔ _
    rw [upF_iff hg c _ h1 j]
    constructor
    · rintro ⟨i, hi, hr⟩
      rcases (hst i).1 hi with h | ⟨h, hm⟩
      · exact ⟨i, h, hr⟩
      · exact ⟨c, h, .step hm hr⟩
    · rintro ⟨i, hi, hr⟩
      exact ⟨i, (hst i).2 (.inl hi), hr⟩
theorem up_iff {g : List (List Int)} (hg : Good g) (a j : Nat) : up g a j = true ↔ Reach g a j := by
  unfold up
  rw [upF_iff hg (a + 1) _ (fun i hi h => by have := of_decide_eq_true h; omega) j]
  exact ⟨fun ⟨i, hi, hr⟩ => by obtain rfl := of_decide_eq_true hi; exact hr, fun h => ⟨a, decide_eq_true rfl, h⟩⟩
theorem up_refl {g : List (List Int)} (hg : Good g) (a : Nat) : up g a a = true := (up_iff hg a a).2 (.refl _)
theorem up_row {g : List (List Int)} (hg : Good g) {a p : Nat} (h : (p : Int) ∈ rowOf g a) : up g a p = true := (up_iff hg a p).2 (.step h (.refl _))
theorem up_le {g : List (List Int)} (hg : Good g) {a j : Nat} (h : up g a j = true) : j ≤ a := ((up_iff hg a j).1 h).le hg
theorem up_trans {g : List (List Int)} (hg : Good g) {a b c : Nat} (h : up g a b = true) (k : up g b c = true) : up g a c = true := (up_iff hg a c).2 (((up_iff hg a b).1 h).trans ((up_iff hg b c).1 k))
theorem up_through {g : List (List Int)} (hg : Good g) (a b : Nat) : up g a b = (decide (a = b) || (rowOf g a).any fun p => up g p.toNat b) := by
  rw [Bool.eq_iff_iff, up_iff hg]
  simp only [Bool.or_eq_true, decide_eq_true_eq, List.any_eq_true]
  constructor
  · intro h
    cases h with
    | refl => exact .inl rfl
    | @step _ p _ h k => exact .inr ⟨p, h, by rw [Int.toNat_natCast]; exact (up_iff hg p b).2 k⟩
  · rintro (rfl | ⟨p, hp, h⟩)
    · exact .refl _
    · have := row_good hg hp
      obtain ⟨q, rfl⟩ : ∃ q : Nat, p = q := ⟨p.toNat, by omega⟩
      rw [Int.toNat_natCast] at h
      exact .step hp ((up_iff hg q b).1 h)
/-- descendants the other way about -/
theorem dnF_iff {g : List (List Int)} (hg : Good g) (a : Nat) : ∀ (d : Nat), a + 1 + d ≤ g.length → ∀ j, dnF g (fun j => decide (j = a)) (a + 1) d j = true ↔ j < a + 1 + d ∧ Reach g j a
  | 0, _, j => by
    show decide (j = a) = true ↔ _
    rw [decide_eq_true_eq]
    exact ⟨fun h => by subst h; exact ⟨by omega, .refl _⟩, fun ⟨h1, h2⟩ => by have := h2.le hg; omega⟩
  | d + 1, hd, j => by
    have ih := dnF_iff hg a d (by omega)
    show stepDn g (a + 1 + d) _ j = true ↔ _
    unfold stepDn
    simp only [Bool.or_eq_true, Bool.and_eq_true, decide_eq_true_eq, List.any_eq_true]
    rw [ih j]
    constructor
    · rintro (⟨h1, h2⟩ | ⟨rfl, p, hp, h⟩)
      · exact ⟨by omega, h2⟩
      · have := row_good hg hp
        obtain ⟨q, rfl⟩ : ∃ q : Nat, p = q := ⟨p.toNat, by omega⟩
        rw [Int.toNat_natCast] at h
        exact ⟨by omega, .step hp ((ih q).1 h).2⟩
    · rintro ⟨h1, h2⟩
      by_cases e : j = a + 1 + d
      · right
        refine ⟨e, ?_⟩
        cases h2 with
        | refl => omega
        | @step _ p _ h k =>
          have := row_good hg h
          exact ⟨p, e ▸ h, by rw [Int.toNat_natCast]; exact (ih p).2 ⟨by omega, k⟩⟩
      · exact .inl ⟨by omega, h2⟩
theorem dn_iff {g : List (List Int)} (hg : Good g) {a j : Nat} (ha : a < g.length) (hj : j < g.length) : dn g a j = up g j a := by
  rw [Bool.eq_iff_iff, up_iff hg]
  unfold dn
  rw [dnF_iff hg a _ (by omega)]
  exact ⟨fun h => h.2, fun h => ⟨by omega, h⟩⟩
/-- a set with all that its commits reach -/
def Down (g : List (List Int)) (S : Nat → Bool) : Prop := ∀ i j, S i = true → up g i j = true → S j = true
theorem best_iff {g : List (List Int)} {S : Nat → Bool} {n j : Nat} : bestT g S n j = true ↔ S j = true ∧ ∀ y, y < n → S y = true → ¬ (j : Int) ∈ rowOf g y := by
  unfold bestT
  simp only [Bool.and_eq_true, Bool.not_eq_true', List.any_eq_false, List.mem_range, decide_eq_true_eq]
  exact ⟨fun ⟨h1, h2⟩ => ⟨h1, fun y hy hs hm => h2 y hy ⟨hs, hm⟩⟩, fun ⟨h1, h2⟩ => ⟨h1, fun y hy h => h2 y hy h.1 h.2⟩⟩
/-- no best one reaches another -/
theorem best_apart {g : List (List Int)} (hg : Good g) {S : Nat → Bool} (hS : Down g S) {x y : Nat} (hx : bestT g S g.length x = true) (hy : bestT g S g.length y = true) (h : up g x y = true) : x = y := by
  rcases ((up_iff hg x y).1 h).last with e | ⟨z, h1, h2⟩
  · exact e
  · exact absurd h2 ((best_iff.1 hy).2 z (row_good hg h2).2.2 (hS x z (best_iff.1 hx).1 ((up_iff hg x z).2 h1)))
/-- each is reached by a best one -/
theorem best_reach {g : List (List Int)} (hg : Good g) {S : Nat → Bool} : ∀ (k x : Nat), g.length - x ≤ k → x < g.length → S x = true → ∃ y, y < g.length ∧ bestT g S g.length y = true ∧ up g y x = true
  | 0, x, hk, hx, _ => by omega
  | k + 1, x, hk, hx, hs => by
    by_cases h : bestT g S g.length x = true
    · exact ⟨x, hx, h, up_refl hg x⟩
    · rw [best_iff] at h
      obtain ⟨z, hz, hsz, hm⟩ : ∃ z, z < g.length ∧ S z = true ∧ (x : Int) ∈ rowOf g z := by
        apply Classical.byContradiction
        intro hno
        exact h ⟨hs, fun y hy hsy hm => hno ⟨y, hy, hsy, hm⟩⟩
      have := row_good hg hm
      obtain ⟨y, h1, h2, h3⟩ := best_reach hg k z (by omega) hz hsz
      exact ⟨y, h1, h2, up_trans hg h3 (up_row hg hm)⟩
theorem both_down {g : List (List Int)} (hg : Good g) (a b : Nat) : Down g (fun j => up g a j && up g b j) := fun i j hi h => by
  simp only [Bool.and_eq_true] at hi ⊢
  exact ⟨up_trans hg hi.1 h, up_trans hg hi.2 h⟩
end SX
namespace SX
open Go Go.Proofs

theorem idx {a b n : Nat} (hb : b < n) : (a * n + b) / n = a ∧ (a * n + b) % n = b := by
  have h0 : 0 < n := by omega
  constructor
  · rw [Nat.mul_comm, Nat.mul_add_div h0, Nat.div_eq_of_lt hb, Nat.add_zero]
  · rw [Nat.mul_comm, Nat.mul_add_mod, Nat.mod_eq_of_lt hb]
theorem idx_lt {a b n : Nat} (ha : a < n) (hb : b < n) : a * n + b < n * n := by
  have h1 : (a + 1) * n ≤ n * n := Nat.mul_le_mul_right n ha
  rw [Nat.succ_mul] at h1; omega
/-- the table of reaching, the first m of its places -/
def tabR (g : List (List Int)) (n m : Nat) : Nat → Bool := fun k => decide (k < m) && up g (k / n) (k % n)
theorem tabR_at {g : List (List Int)} {n a b : Nat} (ha : a < n) (hb : b < n) : (rbs (n * n) (tabR g n (n * n)))[a * n + b]? = some (.bool (up g a b)) := by
  rw [rbs_get _ (idx_lt ha hb)]
  unfold tabR
  rw [decide_eq_true (idx_lt ha hb), (idx hb).1, (idx hb).2, Bool.true_and]
theorem tabR_set {g : List (List Int)} {n a b : Nat} (hb : b < n) : (rbs (n * n) (tabR g n (a * n + b))).set (a * n + b) (.bool (up g a b)) = rbs (n * n) (tabR g n (a * n + (b + 1))) := rbs_set fun j _ => by
  unfold tabR
  by_cases e : j = a * n + b
  · subst e; rw [if_pos rfl, decide_eq_true (by omega), Bool.true_and, (idx hb).1, (idx hb).2]
  · rw [if_neg e]
    by_cases h : j < a * n + b
    · rw [decide_eq_true h, decide_eq_true (by omega)]
    · rw [decide_eq_false h, decide_eq_false (by omega)]
theorem rbs_false' (n : Nat) {S : Nat → Bool} (h : ∀ j, j < n → S j = false) : List.replicate n (Value.bool false) = rbs n S := by
  rw [rbs_false]; exact rbs_ext fun j hj => (h j hj).symm

set_option maxHeartbeats 4000000 in
theorem order_spec (μ : PH) (v : Value) (G : List (Value × List Int)) (hT : RowAt μ 0 0 tabV) (hG : Graph μ v G) (hn : G.length ≤ 1048576) (hrows : ∀ x ∈ G, x.2.length ≤ 1048576) : Spec Tryd.prog 8 [v] [ro μ] (LawOk μ) := by
  refine Spec.of 190 Tryd.func8 rfl rfl rfl ?_
  refine swp_seq ?_
  refine swp_region ?_
  refine s_pu (pu_assign rfl) ?_
  refine swl_sub _ (.cons (t := 0) rfl .nil) ?_
  refine swl_nil ?_
  refine then_n ?_
  refine swp_seq ?_
  refine swp_seq ?_
  refine swp_region ?_
  refine s_ef (ef_fn (descends_spec μ hT) rfl rfl (by repeat (first | exact Split.nil | (apply Split.cons; (repeat (first | with_reducible exact Take.here | apply Take.there)))))) ?_
  rintro v9 L1 ⟨rfl, μ1, l1, rfl⟩
  refine swl_app ?_
  refine s_pu (pu_not rfl) ?_
  refine swl_sub _ (.cons (t := 0) rfl (.cons (t := 19) rfl .nil)) ?_
  refine swl_nil ?_
  refine then_n ?_
  refine swp_cond (b := _) rfl (fun h19 => by cases h19) (fun h19 => ?_)
  refine swp_skip ?_
  refine then_n ?_
  refine swp_seq ?_
  have hG1 := hG.le l1
  have hT1 := hT.le l1
  refine swp_region ?_
  refine s_pu (pu_move rfl) ?_
  refine s_ef (ef_fn (few_spec μ1 v G 12 hG1 hn hrows (by omega)) rfl rfl (by repeat (first | exact Split.nil | (apply Split.cons; (repeat (first | with_reducible exact Take.here | apply Take.there)))))) ?_
  rintro v3 L1 ⟨μ2, G2, l2, g2, e2, rfl⟩
  refine swl_app ?_
  have hl2 : G2.length ≤ 12 := by have := congrArg List.length e2; rw [List.length_map, List.length_take] at this; omega
  refine s_pu (pu_assign rfl) ?_
  refine swl_sub _ (.cons (t := 3) rfl .nil) ?_
  refine swl_nil ?_
  refine then_n ?_
  refine swp_seq ?_
  refine swp_seq ?_
  refine swp_region ?_
  refine s_pu (pu_move rfl) ?_
  refine s_ef (ef_fn (check_spec μ2 v3 G2 g2) rfl rfl (by repeat (first | exact Split.nil | (apply Split.cons; (repeat (first | with_reducible exact Take.here | apply Take.there)))))) ?_
  rintro v4 L1 ⟨rfl, rfl⟩
  refine swl_app ?_
  refine s_pu (pu_neq rfl rfl) ?_
  refine swl_sub _ (.cons (t := 3) rfl (.cons (t := 24) rfl .nil)) ?_
  refine swl_nil ?_
  refine then_n ?_
  refine swp_cond (b := _) rfl (fun h24 => ?_) (fun h24 => ?_)
  · skip   -- 24 T
    refine swp_seq ?_
    refine swp_region ?_
    refine s_pu (pu_move rfl) ?_
    refine s_ef (ef_fn (rcheck_spec μ2 v3 G2 g2 (by omega)) rfl rfl (by repeat (first | exact Split.nil | (apply Split.cons; (repeat (first | with_reducible exact Take.here | apply Take.there)))))) ?_
    rintro v5 L1 ⟨rfl, rfl⟩
    refine swl_app ?_
    refine s_pu (pu_neq rfl rfl) ?_
    refine s_pu (pu_assign rfl) ?_
    refine swl_sub _ (.cons (t := 2) rfl .nil) ?_
    refine swl_nil ?_
    refine then_n ?_
    refine swp_ret ?_
    refine then_r ?_
    exact done_ret [ro μ2] (.tmp rfl .nil) ⟨by rw [h24]; rfl, μ2, [], l1.trans l2, rfl⟩ (by repeat (first | exact Split.nil | (apply Split.cons; (repeat (first | with_reducible exact Take.here | apply Take.there)))))
  · skip   -- 24 F
    have h0 : chkFrom 0 (nums G2) = 0 := by simpa using h24
    have hg := chk_good h0
    have hlen : (nums G2).length = G2.length := List.length_map _
    have hask : ∀ i j : Nat, i < G2.length → j < G2.length → askE (nums G2) i j = 0 := fun i j hi hj => by
      unfold askE
      rw [if_neg (not_not_intro h0), if_neg (by rw [hlen]; omega)]
    have hrow : ∀ gb off cap, v3 = .slice (some ⟨gb, off, none⟩) G2.length cap → RowAt μ2 gb off (G2.flatMap gcs) → ∀ c : Nat, c < G2.length → ∃ x, G2[c]? = some x ∧ CellAt μ2 gb (off + c * 1) x.1 ∧ Row μ2 x.1 1 x.2.length (x.2.flatMap (icsk .i64)) ∧ rowOf (nums G2) c = x.2 ∧ ∀ p ∈ x.2, 0 ≤ p ∧ p < c := fun gb off cap hv hr => by
      subst hv; exact graph_rows g2 hg hr
    have hpos : ∀ i, i < G2.length → ∃ gb off cap, v3 = .slice (some ⟨gb, off, none⟩) G2.length cap ∧ RowAt μ2 gb off (G2.flatMap gcs) := fun i hi => by
      obtain ⟨gb, off, cap, hv, _, _, hr⟩ := g2.1.pos (by omega)
      exact ⟨gb, off, cap, hv, hr⟩
    have hnn : G2.length * G2.length ≤ 144 := Nat.mul_le_mul hl2 hl2
    refine swp_skip ?_
    refine then_n ?_
    refine swp_seq ?_
    refine swp_region ?_
    refine s_pu (pu_move rfl) ?_
    refine s_pu (pu_len_row g2.1 rfl) ?_
    refine s_pu (pu_assign rfl) ?_
    refine swl_sub _ (.cons (t := 3) rfl (.cons (t := 4) rfl .nil)) ?_
    generalize hN : G2.length = n at *
    refine swl_nil ?_
    refine then_n ?_
    refine swp_seq ?_
    refine swp_region ?_
    refine s_pu (pu_move rfl) ?_
    refine s_pu (pu_move rfl) ?_
    refine s_pu (pu_mul_as ((n * n : Nat) : Int) rfl rfl (by push_cast; rfl) (by omega) (by omega)) ?_
    refine s_ef (ef_make1 (n * n) rfl rfl rfl (by omega) (by simp only [maxLen]; omega)) ?_
    rintro b5
    skip
    refine s_pu (pu_assign rfl) ?_
    refine swl_sub _ (.cons (t := 3) rfl (.cons (t := 4) rfl (.cons (t := 5) rfl .nil))) ?_
    refine swl_nil ?_
    refine then_n ?_
    refine swp_seq ?_
    refine swp_seq ?_
    refine swp_region ?_
    refine s_pu (pu_move rfl) ?_
    refine s_pu (pu_move rfl) ?_
    refine swl_sub _ (.cons (t := 3) rfl (.cons (t := 4) rfl (.cons (t := 5) rfl (.cons (t := 34) rfl (.cons (t := 35) rfl .nil))))) ?_
    refine swl_nil ?_
    refine then_n ?_
    refine swp_block ?_
    have e0 : List.replicate (n * n) (Value.bool false) = rbs (n * n) (tabR (nums G2) n (0 * n + 0)) := rbs_false' _ fun j _ => by unfold tabR; rw [decide_eq_false (by omega), Bool.false_and]
    rw [e0]
    refine swp_loop (ι := Nat) (fun i env L => env = [(3, v3), (4, .int .i64 (n : Nat)), (5, .slice (some ⟨b5, 0, none⟩) (n * n) (n * n)), (34, .int .i64 (n : Nat)), (35, .int .i64 (i : Nat))] ∧ L = [blk b5 4 (rbs (n * n) (tabR (nums G2) n (i * n + 0))), ro μ2] ∧ i ≤ n) (fun i => n - i) 0 ⟨rfl, rfl, by omega⟩ ?_
    rintro i env L ⟨rfl, rfl, hi⟩
    refine swp_seq ?_
    refine swp_region ?_
    refine s_pu (pu_lss rfl rfl) ?_
    refine swl_sub _ (.cons (t := 3) rfl (.cons (t := 4) rfl (.cons (t := 5) rfl (.cons (t := 34) rfl (.cons (t := 35) rfl (.cons (t := 36) rfl .nil)))))) ?_
    refine swl_nil ?_
    refine then_n ?_
    refine swp_seq ?_
    refine swp_cond (b := _) rfl (fun h36 => ?_) (fun h36 => ?_)
    · skip   -- 36 T
      have h36' : i < n := by have := of_decide_eq_true h36; omega
      refine swp_skip ?_
      refine then_n ?_
      refine swp_seq ?_
      refine swp_block ?_
      refine swp_seq ?_
      refine swp_region ?_
      refine s_pu (pu_move rfl) ?_
      refine s_pu (pu_assign rfl) ?_
      refine swl_sub _ (.cons (t := 3) rfl (.cons (t := 4) rfl (.cons (t := 5) rfl (.cons (t := 6) rfl (.cons (t := 34) rfl (.cons (t := 35) rfl .nil)))))) ?_
      refine swl_nil ?_
      refine then_n ?_
      refine swp_seq ?_
      refine swp_region ?_
      refine s_pu (pu_move rfl) ?_
      refine s_pu (pu_move rfl) ?_
      refine swl_sub _ (.cons (t := 3) rfl (.cons (t := 4) rfl (.cons (t := 5) rfl (.cons (t := 6) rfl (.cons (t := 34) rfl (.cons (t := 35) rfl (.cons (t := 38) rfl (.cons (t := 39) rfl .nil)))))))) ?_
      refine swl_nil ?_
      refine then_n ?_
      refine swp_block ?_
      refine swp_loop (ι := Nat) (fun j env L => env = [(3, v3), (4, .int .i64 (n : Nat)), (5, .slice (some ⟨b5, 0, none⟩) (n * n) (n * n)), (6, .int .i64 (i : Nat)), (34, .int .i64 (n : Nat)), (35, .int .i64 (i : Nat)), (38, .int .i64 (n : Nat)), (39, .int .i64 (j : Nat))] ∧ L = [blk b5 4 (rbs (n * n) (tabR (nums G2) n (i * n + j))), ro μ2] ∧ j ≤ n) (fun j => n - j) 0 ⟨rfl, rfl, by omega⟩ ?_
      rintro j env L ⟨rfl, rfl, hj⟩
      refine swp_seq ?_
      refine swp_region ?_
      refine s_pu (pu_lss rfl rfl) ?_
      refine swl_sub _ (.cons (t := 3) rfl (.cons (t := 4) rfl (.cons (t := 5) rfl (.cons (t := 6) rfl (.cons (t := 34) rfl (.cons (t := 35) rfl (.cons (t := 38) rfl (.cons (t := 39) rfl (.cons (t := 40) rfl .nil))))))))) ?_
      refine swl_nil ?_
      refine then_n ?_
      refine swp_seq ?_
      refine swp_cond (b := _) rfl (fun h40 => ?_) (fun h40 => ?_)
      · skip   -- 40 T
        have h40' : j < n := by have := of_decide_eq_true h40; omega
        have hij := idx_lt h36' h40'
        refine swp_skip ?_
        refine then_n ?_
        refine swp_seq ?_
        refine swp_block ?_
        refine swp_seq ?_
        refine swp_region ?_
        refine s_pu (pu_move rfl) ?_
        refine s_pu (pu_assign rfl) ?_
        refine swl_sub _ (.cons (t := 3) rfl (.cons (t := 4) rfl (.cons (t := 5) rfl (.cons (t := 6) rfl (.cons (t := 7) rfl (.cons (t := 34) rfl (.cons (t := 35) rfl (.cons (t := 38) rfl (.cons (t := 39) rfl .nil))))))))) ?_
        refine swl_nil ?_
        refine then_n ?_
        refine swp_seq ?_
        refine swp_region ?_
        refine s_pu (pu_move rfl) ?_
        refine s_pu (pu_move rfl) ?_
        refine s_pu (pu_move rfl) ?_
        refine s_ef (ef_fn (reach_spec μ2 v3 G2 i j g2 (by omega)) rfl rfl (by repeat (first | exact Split.nil | (apply Split.cons; (repeat (first | with_reducible exact Take.here | apply Take.there)))))) ?_
        rintro v6 L1 ⟨rfl, rfl⟩
        refine swl_app ?_
        rw [hask i j h36' h40', decide_eq_true rfl, Bool.true_and, Int.toNat_natCast, Int.toNat_natCast]
        refine s_pu (pu_move rfl) ?_
        refine s_pu (pu_extract rfl rfl) ?_
        refine s_pu (pu_extract rfl rfl) ?_
        refine s_pu (pu_assign rfl) ?_
        refine s_pu (pu_assign rfl) ?_
        refine swl_sub _ (.cons (t := 3) rfl (.cons (t := 4) rfl (.cons (t := 5) rfl (.cons (t := 6) rfl (.cons (t := 7) rfl (.cons (t := 8) rfl (.cons (t := 9) rfl (.cons (t := 34) rfl (.cons (t := 35) rfl (.cons (t := 38) rfl (.cons (t := 39) rfl .nil))))))))))) ?_
        refine swl_nil ?_
        refine then_n ?_
        refine swp_seq ?_
        refine swp_seq ?_
        refine swp_region ?_
        refine s_pu (pu_move rfl) ?_
        refine s_pu (pu_neq rfl rfl) ?_
        refine swl_sub _ (.cons (t := 3) rfl (.cons (t := 4) rfl (.cons (t := 5) rfl (.cons (t := 6) rfl (.cons (t := 7) rfl (.cons (t := 8) rfl (.cons (t := 34) rfl (.cons (t := 35) rfl (.cons (t := 38) rfl (.cons (t := 39) rfl (.cons (t := 50) rfl .nil))))))))))) ?_
        refine swl_nil ?_
        refine then_n ?_
        refine swp_cond (b := _) rfl (fun h50 => by cases h50) (fun h50 => ?_)
        refine swp_skip ?_
        refine then_n ?_
        refine swp_region ?_
        refine s_pu (pu_move rfl) ?_
        refine s_pu (pu_move rfl) ?_
        refine s_pu (pu_move rfl) ?_
        refine s_pu (pu_mul_as ((i * n : Nat) : Int) rfl rfl (by push_cast; rfl) (by omega) (by omega)) ?_
        refine s_pu (pu_move rfl) ?_
        refine s_pu (pu_add_as ((i * n + j : Nat) : Int) rfl rfl (by push_cast; rfl) (by omega) (by omega)) ?_
        refine s_pu (pu_move rfl) ?_
        refine s_pu (pu_indexAddr (i * n + j) rfl rfl (by omega) (by omega) (by omega)) ?_
        refine s_ef0 (ef_storeP rfl rfl rfl (by rw [rbs_len]; exact hij)) ?_
        refine swl_sub _ (.cons (t := 3) rfl (.cons (t := 4) rfl (.cons (t := 5) rfl (.cons (t := 6) rfl (.cons (t := 34) rfl (.cons (t := 35) rfl (.cons (t := 38) rfl (.cons (t := 39) rfl .nil)))))))) ?_
        have e1 := tabR_set (g := nums G2) (a := i) h40'
        refine swl_ent (L' := [ro μ2, blk b5 4 ((rbs (n * n) (tabR (nums G2) n (i * n + j))).set (i * n + j) (.bool (up (nums G2) i j)))]) (Ent.refl _) ?_
        rw [e1]
        refine swl_ent (Split.ent' (K := [blk b5 4 (rbs (n * n) (tabR (nums G2) n (i * n + (j + 1)))), ro μ2]) (by repeat (first | exact Split.nil | (apply Split.cons; (repeat (first | with_reducible exact Take.here | apply Take.there)))))) ?_
        refine swl_nil ?_
        refine block_n ?_
        refine then_n ?_
        refine swp_region ?_
        refine s_pu (pu_add_as ((j + 1 : Nat) : Int) rfl rfl (by omega) (by omega) (by omega)) ?_
        refine s_pu (pu_move rfl) ?_
        refine swl_sub _ (.cons (t := 3) rfl (.cons (t := 4) rfl (.cons (t := 5) rfl (.cons (t := 6) rfl (.cons (t := 34) rfl (.cons (t := 35) rfl (.cons (t := 38) rfl (.cons (t := 39) rfl .nil)))))))) ?_
        refine swl_nil ?_
        exact then_n ⟨j + 1, ⟨rfl, rfl, h40'⟩, by omega⟩
      · skip   -- 40 F
        have h40' := of_decide_eq_false h40
        obtain rfl : j = n := by omega
        refine swp_exit ?_
        refine then_x ?_
        refine then_x ?_
        refine block_hit rfl ?_
        refine block_n ?_
        refine then_n ?_
        refine swp_region ?_
        refine s_pu (pu_add_as ((i + 1 : Nat) : Int) rfl rfl (by omega) (by omega) (by omega)) ?_
        refine s_pu (pu_move rfl) ?_
        refine swl_sub _ (.cons (t := 3) rfl (.cons (t := 4) rfl (.cons (t := 5) rfl (.cons (t := 34) rfl (.cons (t := 35) rfl .nil))))) ?_
        refine swl_nil ?_
        exact then_n ⟨i + 1, ⟨rfl, by rw [Nat.succ_mul]; rfl, h36'⟩, by omega⟩
    · skip   -- 36 F
      have h36' := of_decide_eq_false h36
      obtain rfl : i = n := by omega
      rw [Nat.add_zero]
      refine swp_exit ?_
      refine then_x ?_
      refine then_x ?_
      refine block_hit rfl ?_
      refine then_n ?_
      refine swp_seq ?_
      refine swp_seq ?_
      refine swp_region ?_
      refine s_pu (pu_move rfl) ?_
      refine s_pu (pu_move rfl) ?_
      refine swl_sub _ (.cons (t := 3) rfl (.cons (t := 4) rfl (.cons (t := 5) rfl (.cons (t := 61) rfl (.cons (t := 62) rfl .nil))))) ?_
      refine swl_nil ?_
      refine then_n ?_
      refine swp_block ?_
      refine swp_loop (ι := Nat) (fun a env L => env = [(3, v3), (4, .int .i64 (i : Nat)), (5, .slice (some ⟨b5, 0, none⟩) (i * i) (i * i)), (61, .int .i64 (i : Nat)), (62, .int .i64 (a : Nat))] ∧ L = [blk b5 4 (rbs (i * i) (tabR (nums G2) i (i * i))), ro μ2] ∧ a ≤ i) (fun a => i - a) 0 ⟨rfl, rfl, by omega⟩ ?_
      rintro a env L ⟨rfl, rfl, ha⟩
      refine swp_seq ?_
      refine swp_region ?_
      refine s_pu (pu_lss rfl rfl) ?_
      refine swl_sub _ (.cons (t := 3) rfl (.cons (t := 4) rfl (.cons (t := 5) rfl (.cons (t := 61) rfl (.cons (t := 62) rfl (.cons (t := 63) rfl .nil)))))) ?_
      refine swl_nil ?_
      refine then_n ?_
      refine swp_seq ?_
      refine swp_cond (b := _) rfl (fun h63 => ?_) (fun h63 => ?_)
      · skip   -- 63 T
        have h63' : a < i := by have := of_decide_eq_true h63; omega
        obtain ⟨gb, off, cap, hv3, hr3⟩ := hpos a h63'
        obtain ⟨x, hx, hxc, hxr, hxo, hxg⟩ := hrow gb off cap hv3 hr3 a h63'
        have hxs := hxr.small
        have haa := idx_lt h63' h63'
        refine swp_skip ?_
        refine then_n ?_
        refine swp_seq ?_
        refine swp_block ?_
        refine swp_seq ?_
        refine swp_region ?_
        refine s_pu (pu_move rfl) ?_
        refine s_pu (pu_assign rfl) ?_
        refine swl_sub _ (.cons (t := 3) rfl (.cons (t := 4) rfl (.cons (t := 5) rfl (.cons (t := 10) rfl (.cons (t := 61) rfl (.cons (t := 62) rfl .nil)))))) ?_
        refine swl_nil ?_
        refine then_n ?_
        refine swp_seq ?_
        refine swp_seq ?_
        refine swp_region ?_
        refine s_pu (pu_move rfl) ?_
        refine s_pu (pu_move rfl) ?_
        refine s_pu (pu_move rfl) ?_
        refine s_pu (pu_mul_as ((a * i : Nat) : Int) rfl rfl (by push_cast; rfl) (by omega) (by omega)) ?_
        refine s_pu (pu_move rfl) ?_
        refine s_pu (pu_add_as ((a * i + a : Nat) : Int) rfl rfl (by push_cast; rfl) (by omega) (by omega)) ?_
        refine s_pu (pu_indexAddr (a * i + a) rfl rfl (by omega) (by omega) (by omega)) ?_
        refine s_rd (rd_load rfl (tabR_at h63' h63')) ?_
        refine s_pu (pu_not rfl) ?_
        refine swl_sub _ (.cons (t := 3) rfl (.cons (t := 4) rfl (.cons (t := 5) rfl (.cons (t := 10) rfl (.cons (t := 61) rfl (.cons (t := 62) rfl (.cons (t := 73) rfl .nil))))))) ?_
        refine swl_nil ?_
        refine then_n ?_
        refine swp_cond (b := _) rfl (fun h73 => by rw [up_refl hg] at h73; cases h73) (fun h73 => ?_)
        refine swp_skip ?_
        refine then_n ?_
        refine swp_seq ?_
        refine swp_seq ?_
        subst hv3
        refine swp_region ?_
        refine s_pu (pu_move rfl) ?_
        refine s_pu (pu_move rfl) ?_
        refine s_pu (pu_indexAddr (off + a * 1) rfl rfl (by omega) (by omega) (by rw [Int.toNat_natCast])) ?_
        refine s_rd (rd_ro rfl hxc) ?_
        refine s_pu (pu_len_row hxr rfl) ?_
        refine s_pu (pu_move rfl) ?_
        refine swl_sub _ (.cons (t := 3) rfl (.cons (t := 4) rfl (.cons (t := 5) rfl (.cons (t := 10) rfl (.cons (t := 61) rfl (.cons (t := 62) rfl (.cons (t := 77) rfl (.cons (t := 78) rfl (.cons (t := 79) rfl .nil))))))))) ?_
        refine swl_nil ?_
        refine then_n ?_
        refine swp_block ?_
        refine swp_loop (ι := Nat) (fun k env L => env = [(3, .slice (some ⟨gb, off, none⟩) i cap), (4, .int .i64 (i : Nat)), (5, .slice (some ⟨b5, 0, none⟩) (i * i) (i * i)), (10, .int .i64 (a : Nat)), (61, .int .i64 (i : Nat)), (62, .int .i64 (a : Nat)), (77, x.1), (78, .int .i64 (x.2.length : Nat)), (79, .int .i64 (k : Nat))] ∧ L = [blk b5 4 (rbs (i * i) (tabR (nums G2) i (i * i))), ro μ2] ∧ k ≤ x.2.length) (fun k => x.2.length - k) 0 ⟨rfl, rfl, by omega⟩ ?_
        rintro k env L ⟨rfl, rfl, hk⟩
        refine swp_seq ?_
        refine swp_region ?_
        refine s_pu (pu_lss rfl rfl) ?_
        refine swl_sub _ (.cons (t := 3) rfl (.cons (t := 4) rfl (.cons (t := 5) rfl (.cons (t := 10) rfl (.cons (t := 61) rfl (.cons (t := 62) rfl (.cons (t := 77) rfl (.cons (t := 78) rfl (.cons (t := 79) rfl (.cons (t := 80) rfl .nil)))))))))) ?_
        refine swl_nil ?_
        refine then_n ?_
        refine swp_seq ?_
        refine swp_cond (b := _) rfl (fun h80 => ?_) (fun h80 => ?_)
        · skip   -- 80 T
          have h80' : k < x.2.length := by have := of_decide_eq_true h80; omega
          obtain ⟨pb, poff, pcap, hpv, p1, p2, hpr⟩ := hxr.pos (by omega)
          obtain ⟨y, hp⟩ : ∃ q, x.2[k]? = some q := ⟨_, List.getElem?_eq_getElem h80'⟩
          have hpk := hpr.elem (icsk_len .i64) hp
          have hpg := hxg y (List.mem_of_getElem? hp)
          obtain ⟨m, rfl⟩ : ∃ i : Nat, y = i := ⟨y.toNat, by omega⟩
          have hmi : m < i := by omega
          have ham := idx_lt h63' hmi
          have hpm : up (nums G2) a m = true := up_row hg (by rw [hxo]; exact List.mem_of_getElem? hp)
          rw [hpv]
          refine swp_skip ?_
          refine then_n ?_
          refine swp_seq ?_
          refine swp_block ?_
          refine swp_seq ?_
          refine swp_region ?_
          refine s_pu (pu_indexAddr (poff + k * 1) rfl rfl (by omega) (by omega) (by rw [Int.toNat_natCast])) ?_
          refine s_rd (rd_ro rfl hpk.cell) ?_
          refine s_pu (pu_assign rfl) ?_
          refine swl_sub _ (.cons (t := 3) rfl (.cons (t := 4) rfl (.cons (t := 5) rfl (.cons (t := 10) rfl (.cons (t := 12) rfl (.cons (t := 61) rfl (.cons (t := 62) rfl (.cons (t := 77) rfl (.cons (t := 78) rfl (.cons (t := 79) rfl .nil)))))))))) ?_
          refine swl_nil ?_
          refine then_n ?_
          refine swp_seq ?_
          refine swp_region ?_
          refine s_pu (pu_move rfl) ?_
          refine s_pu (pu_move rfl) ?_
          refine s_pu (pu_move rfl) ?_
          refine s_pu (pu_mul_as ((a * i : Nat) : Int) rfl rfl (by push_cast; rfl) (by omega) (by omega)) ?_
          refine s_pu (pu_move rfl) ?_
          refine s_pu (pu_add_as ((a * i + m : Nat) : Int) rfl rfl (by push_cast; rfl) (by omega) (by omega)) ?_
          refine s_pu (pu_indexAddr (a * i + m) rfl rfl (by omega) (by omega) (by omega)) ?_
          refine s_rd (rd_load rfl (tabR_at h63' hmi)) ?_
          refine s_pu (pu_not rfl) ?_
          refine swl_sub _ (.cons (t := 3) rfl (.cons (t := 4) rfl (.cons (t := 5) rfl (.cons (t := 10) rfl (.cons (t := 61) rfl (.cons (t := 62) rfl (.cons (t := 77) rfl (.cons (t := 78) rfl (.cons (t := 79) rfl (.cons (t := 91) rfl .nil)))))))))) ?_
          refine swl_nil ?_
          refine then_n ?_
          refine swp_cond (b := _) rfl (fun h91 => by rw [hpm] at h91; cases h91) (fun h91 => ?_)
          refine swp_skip ?_
          refine block_n ?_
          refine then_n ?_
          refine swp_region ?_
          refine s_pu (pu_add_as ((k + 1 : Nat) : Int) rfl rfl (by omega) (by omega) (by omega)) ?_
          refine s_pu (pu_move rfl) ?_
          refine swl_sub _ (.cons (t := 3) rfl (.cons (t := 4) rfl (.cons (t := 5) rfl (.cons (t := 10) rfl (.cons (t := 61) rfl (.cons (t := 62) rfl (.cons (t := 77) rfl (.cons (t := 78) rfl (.cons (t := 79) rfl .nil))))))))) ?_
          refine swl_nil ?_
          exact then_n ⟨k + 1, ⟨rfl, rfl, h80'⟩, by omega⟩
        · skip   -- 80 F
          refine swp_exit ?_
          refine then_x ?_
          refine then_x ?_
          refine block_hit rfl ?_
          refine then_n ?_
          refine swp_seq ?_
          refine swp_region ?_
          refine s_pu (pu_move rfl) ?_
          refine s_pu (pu_move rfl) ?_
          refine swl_sub _ (.cons (t := 3) rfl (.cons (t := 4) rfl (.cons (t := 5) rfl (.cons (t := 10) rfl (.cons (t := 61) rfl (.cons (t := 62) rfl (.cons (t := 93) rfl (.cons (t := 94) rfl .nil)))))))) ?_
          refine swl_nil ?_
          refine then_n ?_
          refine swp_block ?_
          refine swp_sub _ (.cons (t := 3) rfl (.cons (t := 4) rfl (.cons (t := 5) rfl (.cons (t := 10) rfl (.cons (t := 61) rfl (.cons (t := 62) rfl (.cons (t := 93) rfl (.cons (t := 94) rfl .nil)))))))) ?_
          refine swp_loop (ι := Nat) (fun b env L => env = [(3, .slice (some ⟨gb, off, none⟩) i cap), (4, .int .i64 (i : Nat)), (5, .slice (some ⟨b5, 0, none⟩) (i * i) (i * i)), (10, .int .i64 (a : Nat)), (61, .int .i64 (i : Nat)), (62, .int .i64 (a : Nat)), (93, .int .i64 (i : Nat)), (94, .int .i64 (b : Nat))] ∧ L = [blk b5 4 (rbs (i * i) (tabR (nums G2) i (i * i))), ro μ2] ∧ b ≤ i) (fun b => i - b) 0 ⟨rfl, rfl, by omega⟩ ?_
          rintro b env L ⟨rfl, rfl, hb⟩
          refine swp_seq ?_
          refine swp_region ?_
          refine s_pu (pu_lss rfl rfl) ?_
          refine swl_sub _ (.cons (t := 3) rfl (.cons (t := 4) rfl (.cons (t := 5) rfl (.cons (t := 10) rfl (.cons (t := 61) rfl (.cons (t := 62) rfl (.cons (t := 93) rfl (.cons (t := 94) rfl (.cons (t := 95) rfl .nil))))))))) ?_
          refine swl_nil ?_
          refine then_n ?_
          refine swp_seq ?_
          refine swp_cond (b := _) rfl (fun h95 => ?_) (fun h95 => ?_)
          · skip   -- 95 T
            have h95' : b < i := by have := of_decide_eq_true h95; omega
            have hab := idx_lt h63' h95'
            have hba := idx_lt h95' h63'
            refine swp_skip ?_
            refine then_n ?_
            refine swp_seq ?_
            refine swp_block ?_
            refine swp_seq ?_
            refine swp_region ?_
            refine s_pu (pu_move rfl) ?_
            refine s_pu (pu_assign rfl) ?_
            refine swl_sub _ (.cons (t := 3) rfl (.cons (t := 4) rfl (.cons (t := 5) rfl (.cons (t := 10) rfl (.cons (t := 13) rfl (.cons (t := 61) rfl (.cons (t := 62) rfl (.cons (t := 93) rfl (.cons (t := 94) rfl .nil))))))))) ?_
            refine swl_nil ?_
            refine then_n ?_
            refine swp_cut (fun env L => env = [(3, .slice (some ⟨gb, off, none⟩) i cap), (4, .int .i64 (i : Nat)), (5, .slice (some ⟨b5, 0, none⟩) (i * i) (i * i)), (10, .int .i64 (a : Nat)), (13, .int .i64 (b : Nat)), (61, .int .i64 (i : Nat)), (62, .int .i64 (a : Nat)), (93, .int .i64 (i : Nat)), (94, .int .i64 (b : Nat))] ∧ L = [blk b5 4 (rbs (i * i) (tabR (nums G2) i (i * i))), ro μ2]) ?_ ?_
            · skip
              refine swp_seq ?_
              refine swp_region ?_
              refine s_pu (pu_move rfl) ?_
              refine s_pu (pu_move rfl) ?_
              refine s_pu (pu_neq rfl rfl) ?_
              refine s_pu (pu_move rfl) ?_
              refine s_split 100 rfl (fun h100 => ?_) (fun h100 => ?_)
              · skip   -- 100 T
                refine s_on rfl rfl ?_
                refine s_pu (pu_move rfl) ?_
                refine s_on rfl rfl ?_
                refine s_pu (pu_move rfl) ?_
                refine s_on rfl rfl ?_
                refine s_pu (pu_move rfl) ?_
                refine s_on rfl rfl ?_
                refine s_pu (pu_mul_as ((a * i : Nat) : Int) rfl rfl (by push_cast; rfl) (by omega) (by omega)) ?_
                refine s_on rfl rfl ?_
                refine s_pu (pu_move rfl) ?_
                refine s_on rfl rfl ?_
                refine s_pu (pu_add_as ((a * i + b : Nat) : Int) rfl rfl (by push_cast; rfl) (by omega) (by omega)) ?_
                refine s_on rfl rfl ?_
                refine s_pu (pu_indexAddr (a * i + b) rfl rfl (by omega) (by omega) (by omega)) ?_
                refine s_on rfl rfl ?_
                refine s_rd (rd_load rfl (tabR_at h63' h95')) ?_
                first | refine s_pu (pu_pick_t rfl rfl) ?_ | refine s_pu (pu_pick_f rfl rfl) ?_
                refine s_pu (pu_move rfl) ?_
                refine s_split 110 rfl (fun h110 => ?_) (fun h110 => ?_)
                · skip   -- 110 T
                  refine s_on rfl rfl ?_
                  refine s_pu (pu_move rfl) ?_
                  refine s_on rfl rfl ?_
                  refine s_pu (pu_move rfl) ?_
                  refine s_on rfl rfl ?_
                  refine s_pu (pu_move rfl) ?_
                  refine s_on rfl rfl ?_
                  refine s_pu (pu_mul_as ((b * i : Nat) : Int) rfl rfl (by push_cast; rfl) (by omega) (by omega)) ?_
                  refine s_on rfl rfl ?_
                  refine s_pu (pu_move rfl) ?_
                  refine s_on rfl rfl ?_
                  refine s_pu (pu_add_as ((b * i + a : Nat) : Int) rfl rfl (by push_cast; rfl) (by omega) (by omega)) ?_
                  refine s_on rfl rfl ?_
                  refine s_pu (pu_indexAddr (b * i + a) rfl rfl (by omega) (by omega) (by omega)) ?_
                  refine s_on rfl rfl ?_
                  refine s_rd (rd_load rfl (tabR_at h95' h63')) ?_
                  first | refine s_pu (pu_pick_t rfl rfl) ?_ | refine s_pu (pu_pick_f rfl rfl) ?_
                  refine swl_sub _ (.cons (t := 3) rfl (.cons (t := 4) rfl (.cons (t := 5) rfl (.cons (t := 10) rfl (.cons (t := 13) rfl (.cons (t := 61) rfl (.cons (t := 62) rfl (.cons (t := 93) rfl (.cons (t := 94) rfl (.cons (t := 119) rfl .nil)))))))))) ?_
                  refine swl_nil ?_
                  refine then_n ?_
                  refine swp_cond (b := _) rfl (fun h119 => (by have h1 := up_le hg h119; have h2 := up_le hg h110; simp at h100; omega)) (fun h119 => ?_)
                  refine swp_sub _ (.cons (t := 3) rfl (.cons (t := 4) rfl (.cons (t := 5) rfl (.cons (t := 10) rfl (.cons (t := 13) rfl (.cons (t := 61) rfl (.cons (t := 62) rfl (.cons (t := 93) rfl (.cons (t := 94) rfl .nil))))))))) ?_
                  refine swp_skip ?_
                  exact then_n ⟨rfl, rfl⟩
                · skip   -- 110 F
                  refine s_off rfl rfl rfl ?_
                  refine s_off rfl rfl rfl ?_
                  refine s_off rfl rfl rfl ?_
                  refine s_off rfl rfl rfl ?_
                  refine s_off rfl rfl rfl ?_
                  refine s_off rfl rfl rfl ?_
                  refine s_off rfl rfl rfl ?_
                  refine s_off rfl rfl rfl ?_
                  first | refine s_pu (pu_pick_t rfl rfl) ?_ | refine s_pu (pu_pick_f rfl rfl) ?_
                  refine swl_sub _ (.cons (t := 3) rfl (.cons (t := 4) rfl (.cons (t := 5) rfl (.cons (t := 10) rfl (.cons (t := 13) rfl (.cons (t := 61) rfl (.cons (t := 62) rfl (.cons (t := 93) rfl (.cons (t := 94) rfl (.cons (t := 119) rfl .nil)))))))))) ?_
                  refine swl_nil ?_
                  refine then_n ?_
                  refine swp_cond (b := _) rfl (fun h119 => by cases h119) (fun h119 => ?_)
                  refine swp_sub _ (.cons (t := 3) rfl (.cons (t := 4) rfl (.cons (t := 5) rfl (.cons (t := 10) rfl (.cons (t := 13) rfl (.cons (t := 61) rfl (.cons (t := 62) rfl (.cons (t := 93) rfl (.cons (t := 94) rfl .nil))))))))) ?_
                  refine swp_skip ?_
                  exact then_n ⟨rfl, rfl⟩
              · skip   -- 100 F
                refine s_off rfl rfl rfl ?_
                refine s_off rfl rfl rfl ?_
                refine s_off rfl rfl rfl ?_
                refine s_off rfl rfl rfl ?_
                refine s_off rfl rfl rfl ?_
                refine s_off rfl rfl rfl ?_
                refine s_off rfl rfl rfl ?_
                refine s_off rfl rfl rfl ?_
                first | refine s_pu (pu_pick_t rfl rfl) ?_ | refine s_pu (pu_pick_f rfl rfl) ?_
                refine s_pu (pu_move rfl) ?_
                refine s_split 110 rfl (fun h110 => by cases h110) (fun h110 => ?_)
                refine s_off rfl rfl rfl ?_
                refine s_off rfl rfl rfl ?_
                refine s_off rfl rfl rfl ?_
                refine s_off rfl rfl rfl ?_
                refine s_off rfl rfl rfl ?_
                refine s_off rfl rfl rfl ?_
                refine s_off rfl rfl rfl ?_
                refine s_off rfl rfl rfl ?_
                first | refine s_pu (pu_pick_t rfl rfl) ?_ | refine s_pu (pu_pick_f rfl rfl) ?_
                refine swl_sub _ (.cons (t := 3) rfl (.cons (t := 4) rfl (.cons (t := 5) rfl (.cons (t := 10) rfl (.cons (t := 13) rfl (.cons (t := 61) rfl (.cons (t := 62) rfl (.cons (t := 93) rfl (.cons (t := 94) rfl (.cons (t := 119) rfl .nil)))))))))) ?_
                refine swl_nil ?_
                refine then_n ?_
                refine swp_cond (b := _) rfl (fun h119 => by cases h119) (fun h119 => ?_)
                refine swp_sub _ (.cons (t := 3) rfl (.cons (t := 4) rfl (.cons (t := 5) rfl (.cons (t := 10) rfl (.cons (t := 13) rfl (.cons (t := 61) rfl (.cons (t := 62) rfl (.cons (t := 93) rfl (.cons (t := 94) rfl .nil))))))))) ?_
                refine swp_skip ?_
                exact then_n ⟨rfl, rfl⟩
            rintro env L ⟨rfl, rfl⟩
            refine swp_seq ?_
            refine swp_region ?_
            refine s_pu (pu_move rfl) ?_
            refine s_pu (pu_move rfl) ?_
            refine s_pu (pu_eql rfl rfl) ?_
            refine s_pu (pu_assign rfl) ?_
            refine swl_sub _ (.cons (t := 3) rfl (.cons (t := 4) rfl (.cons (t := 5) rfl (.cons (t := 10) rfl (.cons (t := 13) rfl (.cons (t := 14) rfl (.cons (t := 61) rfl (.cons (t := 62) rfl (.cons (t := 93) rfl (.cons (t := 94) rfl .nil)))))))))) ?_
            refine swl_nil ?_
            refine then_n ?_
            refine swp_seq ?_
            refine swp_seq ?_
            refine swp_region ?_
            refine s_pu (pu_move rfl) ?_
            refine s_pu (pu_move rfl) ?_
            refine swl_sub _ (.cons (t := 3) rfl (.cons (t := 4) rfl (.cons (t := 5) rfl (.cons (t := 10) rfl (.cons (t := 13) rfl (.cons (t := 14) rfl (.cons (t := 61) rfl (.cons (t := 62) rfl (.cons (t := 93) rfl (.cons (t := 94) rfl (.cons (t := 123) rfl (.cons (t := 124) rfl .nil)))))))))))) ?_
            refine swl_nil ?_
            refine then_n ?_
            refine swp_block ?_
            refine swp_loop (ι := Nat) (fun k env L => env = [(3, .slice (some ⟨gb, off, none⟩) i cap), (4, .int .i64 (i : Nat)), (5, .slice (some ⟨b5, 0, none⟩) (i * i) (i * i)), (10, .int .i64 (a : Nat)), (13, .int .i64 (b : Nat)), (14, .bool (decide ((a : Int) = (b : Int)))), (61, .int .i64 (i : Nat)), (62, .int .i64 (a : Nat)), (93, .int .i64 (i : Nat)), (94, .int .i64 (b : Nat)), (123, .int .i64 (i : Nat)), (124, .int .i64 (k : Nat))] ∧ L = [blk b5 4 (rbs (i * i) (tabR (nums G2) i (i * i))), ro μ2] ∧ k ≤ i) (fun k => i - k) 0 ⟨rfl, rfl, by omega⟩ ?_
            rintro k env L ⟨rfl, rfl, hk⟩
            refine swp_seq ?_
            refine swp_region ?_
            refine s_pu (pu_lss rfl rfl) ?_
            refine swl_sub _ (.cons (t := 3) rfl (.cons (t := 4) rfl (.cons (t := 5) rfl (.cons (t := 10) rfl (.cons (t := 13) rfl (.cons (t := 14) rfl (.cons (t := 61) rfl (.cons (t := 62) rfl (.cons (t := 93) rfl (.cons (t := 94) rfl (.cons (t := 123) rfl (.cons (t := 124) rfl (.cons (t := 125) rfl .nil))))))))))))) ?_
            refine swl_nil ?_
            refine then_n ?_
            refine swp_seq ?_
            refine swp_cond (b := _) rfl (fun h125 => ?_) (fun h125 => ?_)
            · skip   -- 125 T
              have h125' : k < i := by have := of_decide_eq_true h125; omega
              have hak := idx_lt h63' h125'
              have hkb := idx_lt h125' h95'
              refine swp_skip ?_
              refine then_n ?_
              refine swp_cut (fun env L => env = [(3, .slice (some ⟨gb, off, none⟩) i cap), (4, .int .i64 (i : Nat)), (5, .slice (some ⟨b5, 0, none⟩) (i * i) (i * i)), (10, .int .i64 (a : Nat)), (13, .int .i64 (b : Nat)), (14, .bool (decide ((a : Int) = (b : Int)))), (61, .int .i64 (i : Nat)), (62, .int .i64 (a : Nat)), (93, .int .i64 (i : Nat)), (94, .int .i64 (b : Nat)), (123, .int .i64 (i : Nat)), (124, .int .i64 (k : Nat))] ∧ L = [blk b5 4 (rbs (i * i) (tabR (nums G2) i (i * i))), ro μ2]) ?_ ?_
              · skip
                refine swp_block ?_
                refine swp_seq ?_
                refine swp_region ?_
                refine s_pu (pu_move rfl) ?_
                refine s_pu (pu_assign rfl) ?_
                refine swl_sub _ (.cons (t := 3) rfl (.cons (t := 4) rfl (.cons (t := 5) rfl (.cons (t := 10) rfl (.cons (t := 13) rfl (.cons (t := 14) rfl (.cons (t := 15) rfl (.cons (t := 61) rfl (.cons (t := 62) rfl (.cons (t := 93) rfl (.cons (t := 94) rfl (.cons (t := 123) rfl (.cons (t := 124) rfl .nil))))))))))))) ?_
                refine swl_nil ?_
                refine then_n ?_
                refine swp_seq ?_
                refine swp_region ?_
                refine s_pu (pu_move rfl) ?_
                refine s_pu (pu_move rfl) ?_
                refine s_pu (pu_move rfl) ?_
                refine s_pu (pu_mul_as ((a * i : Nat) : Int) rfl rfl (by push_cast; rfl) (by omega) (by omega)) ?_
                refine s_pu (pu_move rfl) ?_
                refine s_pu (pu_add_as ((a * i + k : Nat) : Int) rfl rfl (by push_cast; rfl) (by omega) (by omega)) ?_
                refine s_pu (pu_indexAddr (a * i + k) rfl rfl (by omega) (by omega) (by omega)) ?_
                refine s_rd (rd_load rfl (tabR_at h63' h125')) ?_
                refine s_pu (pu_move rfl) ?_
                refine s_split 135 rfl (fun h135 => ?_) (fun h135 => ?_)
                · skip   -- 135 T
                  refine s_on rfl rfl ?_
                  refine s_pu (pu_move rfl) ?_
                  refine s_on rfl rfl ?_
                  refine s_pu (pu_move rfl) ?_
                  refine s_on rfl rfl ?_
                  refine s_pu (pu_move rfl) ?_
                  refine s_on rfl rfl ?_
                  refine s_pu (pu_mul_as ((k * i : Nat) : Int) rfl rfl (by push_cast; rfl) (by omega) (by omega)) ?_
                  refine s_on rfl rfl ?_
                  refine s_pu (pu_move rfl) ?_
                  refine s_on rfl rfl ?_
                  refine s_pu (pu_add_as ((k * i + b : Nat) : Int) rfl rfl (by push_cast; rfl) (by omega) (by omega)) ?_
                  refine s_on rfl rfl ?_
                  refine s_pu (pu_indexAddr (k * i + b) rfl rfl (by omega) (by omega) (by omega)) ?_
                  refine s_on rfl rfl ?_
                  refine s_rd (rd_load rfl (tabR_at h125' h95')) ?_
                  first | refine s_pu (pu_pick_t rfl rfl) ?_ | refine s_pu (pu_pick_f rfl rfl) ?_
                  refine s_pu (pu_move rfl) ?_
                  refine s_split 145 rfl (fun h145 => ?_) (fun h145 => ?_)
                  · skip   -- 145 T
                    refine s_on rfl rfl ?_
                    refine s_pu (pu_move rfl) ?_
                    refine s_on rfl rfl ?_
                    refine s_pu (pu_move rfl) ?_
                    refine s_on rfl rfl ?_
                    refine s_pu (pu_move rfl) ?_
                    refine s_on rfl rfl ?_
                    refine s_pu (pu_mul_as ((a * i : Nat) : Int) rfl rfl (by push_cast; rfl) (by omega) (by omega)) ?_
                    refine s_on rfl rfl ?_
                    refine s_pu (pu_move rfl) ?_
                    refine s_on rfl rfl ?_
                    refine s_pu (pu_add_as ((a * i + b : Nat) : Int) rfl rfl (by push_cast; rfl) (by omega) (by omega)) ?_
                    refine s_on rfl rfl ?_
                    refine s_pu (pu_indexAddr (a * i + b) rfl rfl (by omega) (by omega) (by omega)) ?_
                    refine s_on rfl rfl ?_
                    refine s_rd (rd_load rfl (tabR_at h63' h95')) ?_
                    refine s_on rfl rfl ?_
                    refine s_pu (pu_not rfl) ?_
                    first | refine s_pu (pu_pick_t rfl rfl) ?_ | refine s_pu (pu_pick_f rfl rfl) ?_
                    refine swl_sub _ (.cons (t := 3) rfl (.cons (t := 4) rfl (.cons (t := 5) rfl (.cons (t := 10) rfl (.cons (t := 13) rfl (.cons (t := 14) rfl (.cons (t := 61) rfl (.cons (t := 62) rfl (.cons (t := 93) rfl (.cons (t := 94) rfl (.cons (t := 123) rfl (.cons (t := 124) rfl (.cons (t := 155) rfl .nil))))))))))))) ?_
                    refine swl_nil ?_
                    refine then_n ?_
                    refine swp_cond (b := _) rfl (fun h155 => by rw [up_trans hg h135 h145] at h155; cases h155) (fun h155 => ?_)
                    refine swp_sub _ (.cons (t := 3) rfl (.cons (t := 4) rfl (.cons (t := 5) rfl (.cons (t := 10) rfl (.cons (t := 13) rfl (.cons (t := 14) rfl (.cons (t := 61) rfl (.cons (t := 62) rfl (.cons (t := 93) rfl (.cons (t := 94) rfl (.cons (t := 123) rfl (.cons (t := 124) rfl .nil)))))))))))) ?_
                    refine swp_skip ?_
                    refine block_n ?_
                    exact then_n ⟨rfl, rfl⟩
                  · skip   -- 145 F
                    refine s_off rfl rfl rfl ?_
                    refine s_off rfl rfl rfl ?_
                    refine s_off rfl rfl rfl ?_
                    refine s_off rfl rfl rfl ?_
                    refine s_off rfl rfl rfl ?_
                    refine s_off rfl rfl rfl ?_
                    refine s_off rfl rfl rfl ?_
                    refine s_off rfl rfl rfl ?_
                    refine s_off rfl rfl rfl ?_
                    first | refine s_pu (pu_pick_t rfl rfl) ?_ | refine s_pu (pu_pick_f rfl rfl) ?_
                    refine swl_sub _ (.cons (t := 3) rfl (.cons (t := 4) rfl (.cons (t := 5) rfl (.cons (t := 10) rfl (.cons (t := 13) rfl (.cons (t := 14) rfl (.cons (t := 61) rfl (.cons (t := 62) rfl (.cons (t := 93) rfl (.cons (t := 94) rfl (.cons (t := 123) rfl (.cons (t := 124) rfl (.cons (t := 155) rfl .nil))))))))))))) ?_
                    refine swl_nil ?_
                    refine then_n ?_
                    refine swp_cond (b := _) rfl (fun h155 => by cases h155) (fun h155 => ?_)
                    refine swp_sub _ (.cons (t := 3) rfl (.cons (t := 4) rfl (.cons (t := 5) rfl (.cons (t := 10) rfl (.cons (t := 13) rfl (.cons (t := 14) rfl (.cons (t := 61) rfl (.cons (t := 62) rfl (.cons (t := 93) rfl (.cons (t := 94) rfl (.cons (t := 123) rfl (.cons (t := 124) rfl .nil)))))))))))) ?_
                    refine swp_skip ?_
                    refine block_n ?_
                    exact then_n ⟨rfl, rfl⟩
                · skip   -- 135 F
                  refine s_off rfl rfl rfl ?_
                  refine s_off rfl rfl rfl ?_
                  refine s_off rfl rfl rfl ?_
                  refine s_off rfl rfl rfl ?_
                  refine s_off rfl rfl rfl ?_
                  refine s_off rfl rfl rfl ?_
                  refine s_off rfl rfl rfl ?_
                  refine s_off rfl rfl rfl ?_
                  first | refine s_pu (pu_pick_t rfl rfl) ?_ | refine s_pu (pu_pick_f rfl rfl) ?_
                  refine s_pu (pu_move rfl) ?_
                  refine s_split 145 rfl (fun h145 => by cases h145) (fun h145 => ?_)
                  refine s_off rfl rfl rfl ?_
                  refine s_off rfl rfl rfl ?_
                  refine s_off rfl rfl rfl ?_
                  refine s_off rfl rfl rfl ?_
                  refine s_off rfl rfl rfl ?_
                  refine s_off rfl rfl rfl ?_
                  refine s_off rfl rfl rfl ?_
                  refine s_off rfl rfl rfl ?_
                  refine s_off rfl rfl rfl ?_
                  first | refine s_pu (pu_pick_t rfl rfl) ?_ | refine s_pu (pu_pick_f rfl rfl) ?_
                  refine swl_sub _ (.cons (t := 3) rfl (.cons (t := 4) rfl (.cons (t := 5) rfl (.cons (t := 10) rfl (.cons (t := 13) rfl (.cons (t := 14) rfl (.cons (t := 61) rfl (.cons (t := 62) rfl (.cons (t := 93) rfl (.cons (t := 94) rfl (.cons (t := 123) rfl (.cons (t := 124) rfl (.cons (t := 155) rfl .nil))))))))))))) ?_
                  refine swl_nil ?_
                  refine then_n ?_
                  refine swp_cond (b := _) rfl (fun h155 => by cases h155) (fun h155 => ?_)
                  refine swp_sub _ (.cons (t := 3) rfl (.cons (t := 4) rfl (.cons (t := 5) rfl (.cons (t := 10) rfl (.cons (t := 13) rfl (.cons (t := 14) rfl (.cons (t := 61) rfl (.cons (t := 62) rfl (.cons (t := 93) rfl (.cons (t := 94) rfl (.cons (t := 123) rfl (.cons (t := 124) rfl .nil)))))))))))) ?_
                  refine swp_skip ?_
                  refine block_n ?_
                  exact then_n ⟨rfl, rfl⟩
              rintro env L ⟨rfl, rfl⟩
              refine swp_region ?_
              refine s_pu (pu_add_as ((k + 1 : Nat) : Int) rfl rfl (by omega) (by omega) (by omega)) ?_
              refine s_pu (pu_move rfl) ?_
              refine swl_sub _ (.cons (t := 3) rfl (.cons (t := 4) rfl (.cons (t := 5) rfl (.cons (t := 10) rfl (.cons (t := 13) rfl (.cons (t := 14) rfl (.cons (t := 61) rfl (.cons (t := 62) rfl (.cons (t := 93) rfl (.cons (t := 94) rfl (.cons (t := 123) rfl (.cons (t := 124) rfl .nil)))))))))))) ?_
              refine swl_nil ?_
              exact then_n ⟨k + 1, ⟨rfl, rfl, h125'⟩, by omega⟩
            · skip   -- 125 F
              refine swp_exit ?_
              refine then_x ?_
              refine then_x ?_
              refine block_hit rfl ?_
              refine then_n ?_
              refine swp_seq ?_
              refine swp_seq ?_
              refine swp_region ?_
              refine s_pu (pu_move rfl) ?_
              refine s_pu (pu_move rfl) ?_
              refine s_pu (pu_indexAddr (off + a * 1) rfl rfl (by omega) (by omega) (by rw [Int.toNat_natCast])) ?_
              refine s_rd (rd_ro rfl hxc) ?_
              refine s_pu (pu_len_row hxr rfl) ?_
              refine s_pu (pu_move rfl) ?_
              refine swl_sub _ (.cons (t := 3) rfl (.cons (t := 4) rfl (.cons (t := 5) rfl (.cons (t := 10) rfl (.cons (t := 13) rfl (.cons (t := 14) rfl (.cons (t := 61) rfl (.cons (t := 62) rfl (.cons (t := 93) rfl (.cons (t := 94) rfl (.cons (t := 160) rfl (.cons (t := 161) rfl (.cons (t := 162) rfl .nil))))))))))))) ?_
              refine swl_nil ?_
              refine then_n ?_
              refine swp_block ?_
              refine swp_sub _ (.cons (t := 3) rfl (.cons (t := 4) rfl (.cons (t := 5) rfl (.cons (t := 10) rfl (.cons (t := 13) rfl (.cons (t := 14) rfl (.cons (t := 61) rfl (.cons (t := 62) rfl (.cons (t := 93) rfl (.cons (t := 94) rfl (.cons (t := 160) rfl (.cons (t := 161) rfl (.cons (t := 162) rfl .nil))))))))))))) ?_
              have e0 : decide ((a : Int) = (b : Int)) = (decide (a = b) || (x.2.take 0).any fun p => up (nums G2) p.toNat b) := by rw [List.take_zero, List.any_nil, Bool.or_false]; exact decide_eq_decide.2 (by omega)
              rw [e0]
              refine swp_loop (ι := Nat) (fun k env L => env = [(3, .slice (some ⟨gb, off, none⟩) i cap), (4, .int .i64 (i : Nat)), (5, .slice (some ⟨b5, 0, none⟩) (i * i) (i * i)), (10, .int .i64 (a : Nat)), (13, .int .i64 (b : Nat)), (14, .bool (decide (a = b) || (x.2.take k).any fun p => up (nums G2) p.toNat b)), (61, .int .i64 (i : Nat)), (62, .int .i64 (a : Nat)), (93, .int .i64 (i : Nat)), (94, .int .i64 (b : Nat)), (160, x.1), (161, .int .i64 (x.2.length : Nat)), (162, .int .i64 (k : Nat))] ∧ L = [blk b5 4 (rbs (i * i) (tabR (nums G2) i (i * i))), ro μ2] ∧ k ≤ x.2.length) (fun k => x.2.length - k) 0 ⟨rfl, rfl, by omega⟩ ?_
              rintro k env L ⟨rfl, rfl, hk⟩
              refine swp_seq ?_
              refine swp_region ?_
              refine s_pu (pu_lss rfl rfl) ?_
              refine swl_sub _ (.cons (t := 3) rfl (.cons (t := 4) rfl (.cons (t := 5) rfl (.cons (t := 10) rfl (.cons (t := 13) rfl (.cons (t := 14) rfl (.cons (t := 61) rfl (.cons (t := 62) rfl (.cons (t := 93) rfl (.cons (t := 94) rfl (.cons (t := 160) rfl (.cons (t := 161) rfl (.cons (t := 162) rfl (.cons (t := 163) rfl .nil)))))))))))))) ?_
              refine swl_nil ?_
              refine then_n ?_
              refine swp_seq ?_
              refine swp_cond (b := _) rfl (fun h163 => ?_) (fun h163 => ?_)
              · skip   -- 163 T
                have h163' : k < x.2.length := by have := of_decide_eq_true h163; omega
                obtain ⟨pb, poff, pcap, hpv, p1, p2, hpr⟩ := hxr.pos (by omega)
                obtain ⟨y, hp⟩ : ∃ q, x.2[k]? = some q := ⟨_, List.getElem?_eq_getElem h163'⟩
                have hpk := hpr.elem (icsk_len .i64) hp
                have hpg := hxg y (List.mem_of_getElem? hp)
                obtain ⟨m, rfl⟩ : ∃ i : Nat, y = i := ⟨y.toNat, by omega⟩
                have hmi : m < i := by omega
                have hmb := idx_lt hmi h95'
                have hnext : (decide (a = b) || (x.2.take (k + 1)).any fun p => up (nums G2) p.toNat b) = ((decide (a = b) || (x.2.take k).any fun p => up (nums G2) p.toNat b) || up (nums G2) m b) := by
                  rw [List.take_add_one, hp, List.any_append, Bool.or_assoc]; simp
                rw [hpv]
                refine swp_skip ?_
                refine then_n ?_
                refine swp_seq ?_
                refine swp_block ?_
                refine swp_seq ?_
                refine swp_region ?_
                refine s_pu (pu_indexAddr (poff + k * 1) rfl rfl (by omega) (by omega) (by rw [Int.toNat_natCast])) ?_
                refine s_rd (rd_ro rfl hpk.cell) ?_
                refine s_pu (pu_assign rfl) ?_
                refine swl_sub _ (.cons (t := 3) rfl (.cons (t := 4) rfl (.cons (t := 5) rfl (.cons (t := 10) rfl (.cons (t := 13) rfl (.cons (t := 14) rfl (.cons (t := 17) rfl (.cons (t := 61) rfl (.cons (t := 62) rfl (.cons (t := 93) rfl (.cons (t := 94) rfl (.cons (t := 160) rfl (.cons (t := 161) rfl (.cons (t := 162) rfl .nil)))))))))))))) ?_
                refine swl_nil ?_
                refine then_n ?_
                refine swp_region ?_
                refine s_pu (pu_move rfl) ?_
                refine s_pu (pu_move rfl) ?_
                refine s_split 167 rfl (fun h167 => ?_) (fun h167 => ?_)
                · skip   -- 167 T
                  refine s_off rfl rfl rfl ?_
                  refine s_off rfl rfl rfl ?_
                  refine s_off rfl rfl rfl ?_
                  refine s_off rfl rfl rfl ?_
                  refine s_off rfl rfl rfl ?_
                  refine s_off rfl rfl rfl ?_
                  refine s_off rfl rfl rfl ?_
                  refine s_off rfl rfl rfl ?_
                  first | refine s_pu (pu_pick_t rfl rfl) ?_ | refine s_pu (pu_pick_f rfl rfl) ?_
                  refine s_pu (pu_assign rfl) ?_
                  refine swl_sub _ (.cons (t := 3) rfl (.cons (t := 4) rfl (.cons (t := 5) rfl (.cons (t := 10) rfl (.cons (t := 13) rfl (.cons (t := 14) rfl (.cons (t := 61) rfl (.cons (t := 62) rfl (.cons (t := 93) rfl (.cons (t := 94) rfl (.cons (t := 160) rfl (.cons (t := 161) rfl (.cons (t := 162) rfl .nil))))))))))))) ?_
                  refine swl_nil ?_
                  refine block_n ?_
                  refine then_n ?_
                  refine swp_region ?_
                  refine s_pu (pu_add_as ((k + 1 : Nat) : Int) rfl rfl (by omega) (by omega) (by omega)) ?_
                  refine s_pu (pu_move rfl) ?_
                  refine swl_sub _ (.cons (t := 3) rfl (.cons (t := 4) rfl (.cons (t := 5) rfl (.cons (t := 10) rfl (.cons (t := 13) rfl (.cons (t := 14) rfl (.cons (t := 61) rfl (.cons (t := 62) rfl (.cons (t := 93) rfl (.cons (t := 94) rfl (.cons (t := 160) rfl (.cons (t := 161) rfl (.cons (t := 162) rfl .nil))))))))))))) ?_
                  refine swl_nil ?_
                  exact then_n ⟨k + 1, ⟨by rw [hnext, h167, Bool.true_or], rfl, h163'⟩, by omega⟩
                · skip   -- 167 F
                  refine s_on rfl rfl ?_
                  refine s_pu (pu_move rfl) ?_
                  refine s_on rfl rfl ?_
                  refine s_pu (pu_move rfl) ?_
                  refine s_on rfl rfl ?_
                  refine s_pu (pu_move rfl) ?_
                  refine s_on rfl rfl ?_
                  refine s_pu (pu_mul_as ((m * i : Nat) : Int) rfl rfl (by push_cast; rfl) (by omega) (by omega)) ?_
                  refine s_on rfl rfl ?_
                  refine s_pu (pu_move rfl) ?_
                  refine s_on rfl rfl ?_
                  refine s_pu (pu_add_as ((m * i + b : Nat) : Int) rfl rfl (by push_cast; rfl) (by omega) (by omega)) ?_
                  refine s_on rfl rfl ?_
                  refine s_pu (pu_indexAddr (m * i + b) rfl rfl (by omega) (by omega) (by omega)) ?_
                  refine s_on rfl rfl ?_
                  refine s_rd (rd_load rfl (tabR_at hmi h95')) ?_
                  first | refine s_pu (pu_pick_t rfl rfl) ?_ | refine s_pu (pu_pick_f rfl rfl) ?_
                  refine s_pu (pu_assign rfl) ?_
                  refine swl_sub _ (.cons (t := 3) rfl (.cons (t := 4) rfl (.cons (t := 5) rfl (.cons (t := 10) rfl (.cons (t := 13) rfl (.cons (t := 14) rfl (.cons (t := 61) rfl (.cons (t := 62) rfl (.cons (t := 93) rfl (.cons (t := 94) rfl (.cons (t := 160) rfl (.cons (t := 161) rfl (.cons (t := 162) rfl .nil))))))))))))) ?_
                  refine swl_nil ?_
                  refine block_n ?_
                  refine then_n ?_
                  refine swp_region ?_
                  refine s_pu (pu_add_as ((k + 1 : Nat) : Int) rfl rfl (by omega) (by omega) (by omega)) ?_
                  refine s_pu (pu_move rfl) ?_
                  refine swl_sub _ (.cons (t := 3) rfl (.cons (t := 4) rfl (.cons (t := 5) rfl (.cons (t := 10) rfl (.cons (t := 13) rfl (.cons (t := 14) rfl (.cons (t := 61) rfl (.cons (t := 62) rfl (.cons (t := 93) rfl (.cons (t := 94) rfl (.cons (t := 160) rfl (.cons (t := 161) rfl (.cons (t := 162) rfl .nil))))))))))))) ?_
                  refine swl_nil ?_
                  exact then_n ⟨k + 1, ⟨by rw [hnext, h167, Bool.false_or], rfl, h163'⟩, by omega⟩
              · skip   -- 163 F
                have h163' := of_decide_eq_false h163
                obtain rfl : k = x.2.length := by omega
                rw [List.take_length, ← hxo, ← up_through hg a b]
                refine swp_exit ?_
                refine then_x ?_
                refine then_x ?_
                refine block_hit rfl ?_
                refine then_n ?_
                refine swp_seq ?_
                refine swp_region ?_
                refine s_pu (pu_move rfl) ?_
                refine s_pu (pu_move rfl) ?_
                refine s_pu (pu_move rfl) ?_
                refine s_pu (pu_move rfl) ?_
                refine s_pu (pu_mul_as ((a * i : Nat) : Int) rfl rfl (by push_cast; rfl) (by omega) (by omega)) ?_
                refine s_pu (pu_move rfl) ?_
                refine s_pu (pu_add_as ((a * i + b : Nat) : Int) rfl rfl (by push_cast; rfl) (by omega) (by omega)) ?_
                refine s_pu (pu_indexAddr (a * i + b) rfl rfl (by omega) (by omega) (by omega)) ?_
                refine s_rd (rd_load rfl (tabR_at h63' h95')) ?_
                refine s_pu (pu_bool_ne rfl rfl) ?_
                refine swl_sub _ (.cons (t := 3) rfl (.cons (t := 4) rfl (.cons (t := 5) rfl (.cons (t := 10) rfl (.cons (t := 61) rfl (.cons (t := 62) rfl (.cons (t := 93) rfl (.cons (t := 94) rfl (.cons (t := 187) rfl .nil))))))))) ?_
                refine swl_nil ?_
                refine then_n ?_
                refine swp_cond (b := _) rfl (fun h187 => by simp at h187) (fun h187 => ?_)
                refine swp_skip ?_
                refine block_n ?_
                refine then_n ?_
                refine swp_region ?_
                refine s_pu (pu_add_as ((b + 1 : Nat) : Int) rfl rfl (by omega) (by omega) (by omega)) ?_
                refine s_pu (pu_move rfl) ?_
                refine swl_sub _ (.cons (t := 3) rfl (.cons (t := 4) rfl (.cons (t := 5) rfl (.cons (t := 10) rfl (.cons (t := 61) rfl (.cons (t := 62) rfl (.cons (t := 93) rfl (.cons (t := 94) rfl .nil)))))))) ?_
                refine swl_nil ?_
                exact then_n ⟨b + 1, ⟨rfl, rfl, h95'⟩, by omega⟩
          · skip   -- 95 F
            refine swp_exit ?_
            refine then_x ?_
            refine then_x ?_
            refine block_hit rfl ?_
            refine block_n ?_
            refine then_n ?_
            refine swp_region ?_
            refine s_pu (pu_add_as ((a + 1 : Nat) : Int) rfl rfl (by omega) (by omega) (by omega)) ?_
            refine s_pu (pu_move rfl) ?_
            refine swl_sub _ (.cons (t := 3) rfl (.cons (t := 4) rfl (.cons (t := 5) rfl (.cons (t := 61) rfl (.cons (t := 62) rfl .nil))))) ?_
            refine swl_nil ?_
            exact then_n ⟨a + 1, ⟨rfl, rfl, h63'⟩, by omega⟩
      · skip   -- 63 F
        refine swp_exit ?_
        refine then_x ?_
        refine then_x ?_
        refine block_hit rfl ?_
        refine then_n ?_
        refine swp_seq ?_
        refine swp_region ?_
        refine s_pu (pu_assign rfl) ?_
        refine swl_sub _ (.cons (t := 2) rfl .nil) ?_
        refine swl_nil ?_
        refine then_n ?_
        refine swp_ret ?_
        exact done_ret [ro μ2] (.tmp rfl .nil) ⟨rfl, μ2, [], l1.trans l2, rfl⟩ (by repeat (first | exact Split.nil | (apply Split.cons; (repeat (first | with_reducible exact Take.here | apply Take.there)))))
end SX
namespace SX
open Go Go.Proofs

theorem elsTo_nodup (n : Nat) (S : Nat → Bool) : (elsTo n S).Nodup := by
  unfold elsTo numsI
  have h : ((List.range n).filter S).Nodup := List.Pairwise.filter _ List.nodup_range
  exact List.Pairwise.map _ (fun a b hab he => hab (by omega)) h
theorem elsTo_inj {n : Nat} {S : Nat → Bool} {i k : Nat} {x : Int} (h : (elsTo n S)[i]? = some x) (h' : (elsTo n S)[k]? = some x) : i = k :=
  (List.getElem?_inj (List.getElem?_eq_some_iff.1 h).1 (elsTo_nodup n S)).1 (h.trans h'.symm)
theorem mem_elsTo {n k : Nat} {S : Nat → Bool} : (k : Int) ∈ elsTo n S ↔ k < n ∧ S k = true := by
  refine ⟨fun h => ?_, fun h => ?_⟩
  · obtain ⟨m, h1, h2, h3⟩ := elsTo_mem h
    obtain rfl : k = m := by omega
    exact ⟨h2, h3⟩
  · unfold elsTo numsI
    exact List.mem_map.2 ⟨k, List.mem_filter.2 ⟨List.mem_range.2 h.1, h.2⟩, rfl⟩
theorem askE_comm (g : List (List Int)) (a b : Int) : askE g b a = askE g a b := by
  unfold askE
  split
  · rfl
  · by_cases h : a < 0 ∨ (g.length : Int) ≤ a ∨ b < 0 ∨ (g.length : Int) ≤ b
    · rw [if_pos (by omega), if_pos h]
    · rw [if_neg (by omega), if_neg h]
theorem basL_comm (g : List (List Int)) (a b : Int) : basL g b a = basL g a b := by
  unfold basL
  rw [askE_comm, show (fun j => up g b.toNat j && up g a.toNat j) = fun j => up g a.toNat j && up g b.toNat j from funext fun j => Bool.and_comm _ _]
theorem Row.at_ {μ : PH} {v : Value} {xs : List Int} (h : Row μ v 1 xs.length (xs.flatMap (icsk .i64))) {i : Nat} {x : Int} (hi : xs[i]? = some x) : ∃ b off cap, v = .slice (some ⟨b, off, none⟩) xs.length cap ∧ CellAt μ b (off + i * 1) (.int .i64 x) := by
  have hl := (List.getElem?_eq_some_iff.1 hi).1
  obtain ⟨b, off, cap, hv, _, _, hr⟩ := h.pos (by omega)
  exact ⟨b, off, cap, hv, (hr.elem (icsk_len .i64) hi).cell⟩

set_option maxHeartbeats 4000000 in
theorem dbases_spec (μ : PH) (v : Value) (G : List (Value × List Int)) (a b : Int) (hT : RowAt μ 0 0 tabV) (hG : Graph μ v G) (hn : G.length ≤ 1048576) (hrows : ∀ x ∈ G, x.2.length ≤ 1048576) : Spec Tryd.prog 9 [v, .int .i64 a, .int .i64 b] [ro μ] (LawOk μ) := by
  refine Spec.of 172 Tryd.func9 rfl rfl rfl ?_
  refine swp_seq ?_
  refine swp_region ?_
  refine s_pu (pu_assign rfl) ?_
  refine swl_sub _ (.cons (t := 0) rfl (.cons (t := 1) rfl (.cons (t := 2) rfl .nil))) ?_
  refine swl_nil ?_
  refine then_n ?_
  refine swp_seq ?_
  refine swp_seq ?_
  refine swp_region ?_
  refine s_ef (ef_fn (descends_spec μ hT) rfl rfl (by repeat (first | exact Split.nil | (apply Split.cons; (repeat (first | with_reducible exact Take.here | apply Take.there)))))) ?_
  rintro v9 L1 ⟨rfl, μ1, l1, rfl⟩
  refine swl_app ?_
  refine s_pu (pu_not rfl) ?_
  refine swl_sub _ (.cons (t := 0) rfl (.cons (t := 1) rfl (.cons (t := 2) rfl (.cons (t := 32) rfl .nil)))) ?_
  refine swl_nil ?_
  refine then_n ?_
  refine swp_cond (b := _) rfl (fun h32 => by cases h32) (fun h32 => ?_)
  refine swp_skip ?_
  refine then_n ?_
  refine swp_seq ?_
  have hG1 := hG.le l1
  have hT1 := hT.le l1
  refine swp_region ?_
  refine s_pu (pu_move rfl) ?_
  refine s_ef (ef_fn (few_spec μ1 v G 60 hG1 hn hrows (by omega)) rfl rfl (by repeat (first | exact Split.nil | (apply Split.cons; (repeat (first | with_reducible exact Take.here | apply Take.there)))))) ?_
  rintro v7 L1 ⟨μ2, G2, l2, g2, e2, rfl⟩
  refine swl_app ?_
  have hl2 : G2.length ≤ 60 := by have := congrArg List.length e2; rw [List.length_map, List.length_take] at this; omega
  have hT2 := hT1.le l2
  have hlen : (nums G2).length = G2.length := List.length_map _
  refine s_pu (pu_assign rfl) ?_
  refine swl_sub _ (.cons (t := 1) rfl (.cons (t := 2) rfl (.cons (t := 7) rfl .nil))) ?_
  refine swl_nil ?_
  refine then_n ?_
  refine swp_seq ?_
  refine swp_region ?_
  refine s_pu (pu_move rfl) ?_
  refine s_pu (pu_move rfl) ?_
  refine s_pu (pu_move rfl) ?_
  refine s_ef (ef_fn (bases_spec μ2 v7 G2 a b hT2 g2 (by omega)) rfl rfl (by repeat (first | exact Split.nil | (apply Split.cons; (repeat (first | with_reducible exact Take.here | apply Take.there)))))) ?_
  rintro v8 L1 ⟨lv, rfl, rfl⟩
  refine swl_app ?_
  refine s_pu (pu_move rfl) ?_
  refine s_pu (pu_extract rfl rfl) ?_
  refine s_pu (pu_extract rfl rfl) ?_
  refine s_pu (pu_assign rfl) ?_
  refine s_pu (pu_assign rfl) ?_
  refine swl_sub _ (.cons (t := 1) rfl (.cons (t := 2) rfl (.cons (t := 7) rfl (.cons (t := 8) rfl (.cons (t := 9) rfl .nil))))) ?_
  refine swl_nil ?_
  refine then_n ?_
  refine swp_seq ?_
  refine swp_region ?_
  refine s_pu (pu_move rfl) ?_
  refine s_pu (pu_move rfl) ?_
  refine s_pu (pu_move rfl) ?_
  refine s_ef (ef_fn (bases_spec μ2 v7 G2 b a hT2 g2 (by omega)) rfl rfl (by repeat (first | exact Split.nil | (apply Split.cons; (repeat (first | with_reducible exact Take.here | apply Take.there)))))) ?_
  rintro v10 L1 ⟨lb, rfl, rfl⟩
  rw [askE_comm, basL_comm]
  refine swl_app ?_
  refine s_pu (pu_move rfl) ?_
  refine s_pu (pu_extract rfl rfl) ?_
  refine s_pu (pu_extract rfl rfl) ?_
  refine s_pu (pu_assign rfl) ?_
  refine s_pu (pu_assign rfl) ?_
  refine swl_sub _ (.cons (t := 1) rfl (.cons (t := 2) rfl (.cons (t := 7) rfl (.cons (t := 8) rfl (.cons (t := 9) rfl (.cons (t := 10) rfl (.cons (t := 11) rfl .nil))))))) ?_
  refine swl_nil ?_
  refine then_n ?_
  refine swp_seq ?_
  refine swp_region ?_
  refine s_pu (pu_move rfl) ?_
  refine s_pu (pu_move rfl) ?_
  refine s_pu (pu_move rfl) ?_
  refine s_ef (ef_fn (com_spec μ2 v7 G2 a b hT2 g2 (by omega)) rfl rfl (by repeat (first | exact Split.nil | (apply Split.cons; (repeat (first | with_reducible exact Take.here | apply Take.there)))))) ?_
  rintro v12 L1 ⟨la, rfl, rfl⟩
  refine swl_app ?_
  generalize hl : basL (nums G2) a b = l
  generalize hal : comL (nums G2) a b = al
  refine swl_share_own (v := lv) (μ := μ2) (by repeat (first | exact Split.nil | (apply Split.cons; (repeat (first | with_reducible exact Take.here | apply Take.there))))) fun μ3 l3 r3 => ?_
  refine swl_share_own (v := lb) (μ := μ3) (by repeat (first | exact Split.nil | (apply Split.cons; (repeat (first | with_reducible exact Take.here | apply Take.there))))) fun μ4 l4 r4 => ?_
  refine swl_share_own (v := la) (μ := μ4) (by repeat (first | exact Split.nil | (apply Split.cons; (repeat (first | with_reducible exact Take.here | apply Take.there))))) fun μ5 l5 r5 => ?_
  have r3 := r3.le (l4.trans l5)
  have r4 := r4.le l5
  have g5 := g2.le (l3.trans (l4.trans l5))
  have hle5 := l1.trans (l2.trans (l3.trans (l4.trans l5)))
  clear l1 l2 l3 l4 l5 hG1 hT1
  refine s_pu (pu_move rfl) ?_
  refine s_pu (pu_extract rfl rfl) ?_
  refine s_pu (pu_extract rfl rfl) ?_
  refine s_pu (pu_assign rfl) ?_
  refine s_pu (pu_assign rfl) ?_
  refine swl_sub _ (.cons (t := 1) rfl (.cons (t := 2) rfl (.cons (t := 7) rfl (.cons (t := 8) rfl (.cons (t := 9) rfl (.cons (t := 10) rfl (.cons (t := 11) rfl (.cons (t := 12) rfl (.cons (t := 13) rfl .nil))))))))) ?_
  refine swl_nil ?_
  refine then_n ?_
  refine swp_seq ?_
  refine swp_seq ?_
  refine swp_region ?_
  refine s_pu (pu_move rfl) ?_
  refine s_pu (pu_move rfl) ?_
  refine s_pu (pu_neq rfl rfl) ?_
  refine s_pu (pu_move rfl) ?_
  refine s_split 59 rfl (fun h59 => by simp at h59) (fun h59 => ?_)
  refine s_on rfl rfl ?_
  refine s_pu (pu_move rfl) ?_
  refine s_on rfl rfl ?_
  refine s_pu (pu_move rfl) ?_
  refine s_on rfl rfl ?_
  refine s_pu (pu_neq rfl rfl) ?_
  first | refine s_pu (pu_pick_t rfl rfl) ?_ | refine s_pu (pu_pick_f rfl rfl) ?_
  refine s_pu (pu_move rfl) ?_
  refine s_split 64 rfl (fun h64 => by simp at h64) (fun h64 => ?_)
  refine s_on rfl rfl ?_
  refine s_pu (pu_move rfl) ?_
  refine s_on rfl rfl ?_
  refine s_pu (pu_move rfl) ?_
  refine s_on rfl rfl ?_
  refine s_ef (ef_fn (samelist_i lv lb l l [ro μ5] (Ints.row r3) (Ints.row r4)) rfl rfl (by repeat (first | exact Split.nil | (apply Split.cons; (repeat (first | with_reducible exact Take.here | apply Take.there)))))) ?_
  rintro v67 L1 ⟨rfl, rfl⟩
  refine swl_app ?_
  refine s_on rfl rfl ?_
  refine s_pu (pu_not rfl) ?_
  first | refine s_pu (pu_pick_t rfl rfl) ?_ | refine s_pu (pu_pick_f rfl rfl) ?_
  refine swl_sub _ (.cons (t := 1) rfl (.cons (t := 2) rfl (.cons (t := 7) rfl (.cons (t := 8) rfl (.cons (t := 9) rfl (.cons (t := 12) rfl (.cons (t := 69) rfl .nil))))))) ?_
  refine swl_nil ?_
  refine then_n ?_
  refine swp_cond (b := _) rfl (fun h69 => by simp at h69) (fun h69 => ?_)
  refine swp_skip ?_
  refine then_n ?_
  refine swp_seq ?_
  refine swp_seq ?_
  refine swp_region ?_
  refine s_pu (pu_move rfl) ?_
  refine s_pu (pu_neq rfl rfl) ?_
  refine swl_sub _ (.cons (t := 1) rfl (.cons (t := 2) rfl (.cons (t := 7) rfl (.cons (t := 8) rfl (.cons (t := 9) rfl (.cons (t := 12) rfl (.cons (t := 71) rfl .nil))))))) ?_
  refine swl_nil ?_
  refine then_n ?_
  refine swp_cond (b := _) rfl (fun h71 => ?_) (fun h71 => ?_)
  · skip   -- 71 T
    have h0 : ¬ askE (nums G2) a b = 0 := by simpa using h71
    have hl0 : l = [] := by rw [← hl]; unfold basL; rw [if_neg h0]
    have hal0 : al = [] := by rw [← hal]; unfold comL; rw [if_neg h0]
    subst hl0 hal0
    refine swp_seq ?_
    refine swp_region ?_
    refine s_pu (pu_move rfl) ?_
    refine s_pu (pu_len_row r3 rfl) ?_
    refine s_pu (pu_eql rfl rfl) ?_
    refine s_pu (pu_move rfl) ?_
    refine s_on rfl rfl ?_
    refine s_pu (pu_move rfl) ?_
    refine s_on rfl rfl ?_
    refine s_pu (pu_len_row r5 rfl) ?_
    refine s_on rfl rfl ?_
    refine s_pu (pu_eql rfl rfl) ?_
    first | refine s_pu (pu_pick_t rfl rfl) ?_ | refine s_pu (pu_pick_f rfl rfl) ?_
    refine s_pu (pu_move rfl) ?_
    refine s_on rfl rfl ?_
    refine s_pu (pu_move rfl) ?_
    refine s_on rfl rfl ?_
    refine s_ef (ef_fn (check_spec μ5 v7 G2 g5) rfl rfl (by repeat (first | exact Split.nil | (apply Split.cons; (repeat (first | with_reducible exact Take.here | apply Take.there)))))) ?_
    rintro v82 L1 ⟨rfl, rfl⟩
    refine swl_app ?_
    refine s_on rfl rfl ?_
    refine s_pu (pu_neq rfl rfl) ?_
    refine s_on rfl rfl ?_
    refine s_pu (pu_move rfl) ?_
    refine s_on rfl rfl ?_
    refine s_pu (pu_eql rfl rfl) ?_
    refine s_on rfl rfl ?_
    refine s_pu (pu_bool_eq rfl rfl) ?_
    first | refine s_pu (pu_pick_t rfl rfl) ?_ | refine s_pu (pu_pick_f rfl rfl) ?_
    refine s_pu (pu_assign rfl) ?_
    refine swl_sub _ (.cons (t := 6) rfl .nil) ?_
    refine swl_nil ?_
    refine then_n ?_
    refine swp_ret ?_
    refine then_r ?_
    refine done_ret [ro μ5] (.tmp rfl .nil) ⟨congrArg Value.bool ?_, μ5, [], hle5, rfl⟩ (by repeat (first | exact Split.nil | (apply Split.cons; (repeat (first | with_reducible exact Take.here | apply Take.there)))))
    unfold askE at h0 ⊢
    by_cases hc : chkFrom 0 (nums G2) = 0
    · rw [if_neg (not_not_intro hc)] at h0 ⊢
      split at h0
      · rename_i hh; rw [hc, if_pos hh]; rfl
      · exact absurd rfl h0
    · rw [if_pos hc]; simp [hc]
  · skip   -- 71 F
    have h0 : askE (nums G2) a b = 0 := by simpa using h71
    obtain ⟨hg, ia, ib, rfl, rfl, hia, hib⟩ := askE_ok h0
    have hask : ∀ i j : Nat, i < G2.length → j < G2.length → askE (nums G2) i j = 0 := fun i j hi hj => by
      have h1 := h0
      unfold askE at h1 ⊢
      split at h1
      · cases h1
      · rename_i hc
        rw [if_neg hc, if_neg (by rw [hlen]; omega)]
    have hreach : ∀ i j : Nat, i < G2.length → j < G2.length → Spec Tryd.prog 37 [v7, .int .i64 (i : Nat), .int .i64 (j : Nat)] [ro μ5] (fun r L => r = .tuple #[.bool (up (nums G2) i j), .int .i64 0] ∧ L = [ro μ5]) := fun i j hi hj => by
      refine Spec.mono (reach_spec μ5 v7 G2 i j g5 (by omega)) ?_
      rintro r L ⟨rfl, rfl⟩
      rw [hask i j hi hj, decide_eq_true rfl, Bool.true_and, Int.toNat_natCast, Int.toNat_natCast]
      exact ⟨rfl, rfl⟩
    have hl' : l = elsTo G2.length (bestT (nums G2) (fun j => up (nums G2) ia j && up (nums G2) ib j) (nums G2).length) := by rw [← hl]; unfold basL; rw [if_pos h0, hlen, Int.toNat_natCast, Int.toNat_natCast]
    have hal' : al = elsTo G2.length (fun j => up (nums G2) ia j && up (nums G2) ib j) := by rw [← hal]; unfold comL; rw [if_pos h0, hlen, Int.toNat_natCast, Int.toNat_natCast]
    have hdown := both_down hg ia ib
    have hsl := r3.small
    have hsa := r5.small
    rw [hlen] at hia hib
    clear hl hal
    refine swp_skip ?_
    refine then_n ?_
    refine swp_seq ?_
    refine swp_seq ?_
    refine swp_region ?_
    refine s_pu (pu_move rfl) ?_
    refine s_pu (pu_len_row r3 rfl) ?_
    refine s_pu (pu_move rfl) ?_
    refine swl_sub _ (.cons (t := 1) rfl (.cons (t := 2) rfl (.cons (t := 7) rfl (.cons (t := 8) rfl (.cons (t := 12) rfl (.cons (t := 88) rfl (.cons (t := 89) rfl (.cons (t := 90) rfl .nil)))))))) ?_
    refine swl_nil ?_
    refine then_n ?_
    refine swp_block ?_
    refine swp_loop (ι := Nat) (fun i env L => env = [(1, .int .i64 (ia : Nat)), (2, .int .i64 (ib : Nat)), (7, v7), (8, lv), (12, la), (88, lv), (89, .int .i64 (l.length : Nat)), (90, .int .i64 (i : Nat))] ∧ L = [ro μ5] ∧ i ≤ l.length) (fun i => l.length - i) 0 ⟨rfl, rfl, by omega⟩ ?_
    rintro i env L ⟨rfl, rfl, hi⟩
    refine swp_seq ?_
    refine swp_region ?_
    refine s_pu (pu_lss rfl rfl) ?_
    refine swl_sub _ (.cons (t := 1) rfl (.cons (t := 2) rfl (.cons (t := 7) rfl (.cons (t := 8) rfl (.cons (t := 12) rfl (.cons (t := 88) rfl (.cons (t := 89) rfl (.cons (t := 90) rfl (.cons (t := 91) rfl .nil))))))))) ?_
    refine swl_nil ?_
    refine then_n ?_
    refine swp_seq ?_
    refine swp_cond (b := _) rfl (fun h91 => ?_) (fun h91 => ?_)
    · skip   -- 91 T
      have h91' : i < l.length := by have := of_decide_eq_true h91; omega
      obtain ⟨x, hx⟩ : ∃ q, l[i]? = some q := ⟨_, List.getElem?_eq_getElem h91'⟩
      obtain ⟨xb, xo, xc, hxv, hxc⟩ := r3.at_ hx
      obtain ⟨kx, rfl, hkx, hbx⟩ := elsTo_mem (hl' ▸ List.mem_of_getElem? hx)
      rw [hxv]
      refine swp_skip ?_
      refine then_n ?_
      refine swp_seq ?_
      refine swp_block ?_
      refine swp_seq ?_
      refine swp_region ?_
      refine s_pu (pu_move rfl) ?_
      refine s_pu (pu_indexAddr (xo + i * 1) rfl rfl (by omega) (by omega) (by rw [Int.toNat_natCast])) ?_
      refine s_rd (rd_ro rfl hxc) ?_
      refine s_pu (pu_assign rfl) ?_
      refine s_pu (pu_assign rfl) ?_
      refine swl_sub _ (.cons (t := 1) rfl (.cons (t := 2) rfl (.cons (t := 7) rfl (.cons (t := 8) rfl (.cons (t := 12) rfl (.cons (t := 14) rfl (.cons (t := 15) rfl (.cons (t := 88) rfl (.cons (t := 89) rfl (.cons (t := 90) rfl .nil)))))))))) ?_
      refine swl_nil ?_
      refine then_n ?_
      refine swp_seq ?_
      rw [← hxv]
      refine swp_region ?_
      refine s_pu (pu_move rfl) ?_
      refine s_pu (pu_len_row r3 rfl) ?_
      refine s_pu (pu_move rfl) ?_
      refine swl_sub _ (.cons (t := 1) rfl (.cons (t := 2) rfl (.cons (t := 7) rfl (.cons (t := 8) rfl (.cons (t := 12) rfl (.cons (t := 14) rfl (.cons (t := 15) rfl (.cons (t := 88) rfl (.cons (t := 89) rfl (.cons (t := 90) rfl (.cons (t := 95) rfl (.cons (t := 96) rfl (.cons (t := 97) rfl .nil))))))))))))) ?_
      refine swl_nil ?_
      refine then_n ?_
      refine swp_block ?_
      refine swp_loop (ι := Nat) (fun k env L => env = [(1, .int .i64 (ia : Nat)), (2, .int .i64 (ib : Nat)), (7, v7), (8, lv), (12, la), (14, .int .i64 (i : Nat)), (15, .int .i64 (kx : Nat)), (88, lv), (89, .int .i64 (l.length : Nat)), (90, .int .i64 (i : Nat)), (95, lv), (96, .int .i64 (l.length : Nat)), (97, .int .i64 (k : Nat))] ∧ L = [ro μ5] ∧ k ≤ l.length) (fun k => l.length - k) 0 ⟨rfl, rfl, by omega⟩ ?_
      rintro k env L ⟨rfl, rfl, hk⟩
      refine swp_seq ?_
      refine swp_region ?_
      refine s_pu (pu_lss rfl rfl) ?_
      refine swl_sub _ (.cons (t := 1) rfl (.cons (t := 2) rfl (.cons (t := 7) rfl (.cons (t := 8) rfl (.cons (t := 12) rfl (.cons (t := 14) rfl (.cons (t := 15) rfl (.cons (t := 88) rfl (.cons (t := 89) rfl (.cons (t := 90) rfl (.cons (t := 95) rfl (.cons (t := 96) rfl (.cons (t := 97) rfl (.cons (t := 98) rfl .nil)))))))))))))) ?_
      refine swl_nil ?_
      refine then_n ?_
      refine swp_seq ?_
      refine swp_cond (b := _) rfl (fun h98 => ?_) (fun h98 => ?_)
      · skip   -- 98 T
        have h98' : k < l.length := by have := of_decide_eq_true h98; omega
        obtain ⟨y, hy⟩ : ∃ q, l[k]? = some q := ⟨_, List.getElem?_eq_getElem h98'⟩
        obtain ⟨yb, yo, yc, hyv, hyc⟩ := r3.at_ hy
        obtain ⟨ky, rfl, hky, hby⟩ := elsTo_mem (hl' ▸ List.mem_of_getElem? hy)
        have hiff : up (nums G2) kx ky = decide (i = k) := by
          rw [Bool.eq_iff_iff, decide_eq_true_eq]
          refine ⟨fun h => ?_, fun h => ?_⟩
          · have he := best_apart hg hdown hbx hby h
            subst he
            subst hl'
            exact elsTo_inj hx hy
          · subst h
            obtain rfl : kx = ky := by
              have := hx.symm.trans hy
              injection this with this; omega
            exact up_refl hg kx
        rw [hyv]
        refine swp_skip ?_
        refine then_n ?_
        refine swp_seq ?_
        refine swp_block ?_
        refine swp_seq ?_
        refine swp_region ?_
        refine s_pu (pu_move rfl) ?_
        refine s_pu (pu_indexAddr (yo + k * 1) rfl rfl (by omega) (by omega) (by rw [Int.toNat_natCast])) ?_
        refine s_rd (rd_ro rfl hyc) ?_
        refine s_pu (pu_assign rfl) ?_
        refine s_pu (pu_assign rfl) ?_
        refine swl_sub _ (.cons (t := 1) rfl (.cons (t := 2) rfl (.cons (t := 7) rfl (.cons (t := 8) rfl (.cons (t := 12) rfl (.cons (t := 14) rfl (.cons (t := 15) rfl (.cons (t := 16) rfl (.cons (t := 17) rfl (.cons (t := 88) rfl (.cons (t := 89) rfl (.cons (t := 90) rfl (.cons (t := 95) rfl (.cons (t := 96) rfl (.cons (t := 97) rfl .nil))))))))))))))) ?_
        refine swl_nil ?_
        refine then_n ?_
        refine swp_seq ?_
        rw [← hyv]
        refine swp_region ?_
        refine s_pu (pu_move rfl) ?_
        refine s_pu (pu_move rfl) ?_
        refine s_pu (pu_move rfl) ?_
        refine s_ef (ef_fn (hreach kx ky hkx hky) rfl rfl (by repeat (first | exact Split.nil | (apply Split.cons; (repeat (first | with_reducible exact Take.here | apply Take.there)))))) ?_
        rintro v106 L1 ⟨rfl, rfl⟩
        refine swl_app ?_
        refine s_pu (pu_move rfl) ?_
        refine s_pu (pu_extract rfl rfl) ?_
        refine s_pu (pu_extract rfl rfl) ?_
        refine s_pu (pu_assign rfl) ?_
        refine s_pu (pu_assign rfl) ?_
        refine swl_sub _ (.cons (t := 1) rfl (.cons (t := 2) rfl (.cons (t := 7) rfl (.cons (t := 8) rfl (.cons (t := 12) rfl (.cons (t := 14) rfl (.cons (t := 15) rfl (.cons (t := 16) rfl (.cons (t := 18) rfl (.cons (t := 88) rfl (.cons (t := 89) rfl (.cons (t := 90) rfl (.cons (t := 95) rfl (.cons (t := 96) rfl (.cons (t := 97) rfl .nil))))))))))))))) ?_
        refine swl_nil ?_
        refine then_n ?_
        refine swp_seq ?_
        refine swp_region ?_
        refine s_pu (pu_move rfl) ?_
        refine s_pu (pu_move rfl) ?_
        refine s_pu (pu_move rfl) ?_
        refine s_pu (pu_eql rfl rfl) ?_
        refine s_pu (pu_bool_ne rfl rfl) ?_
        refine swl_sub _ (.cons (t := 1) rfl (.cons (t := 2) rfl (.cons (t := 7) rfl (.cons (t := 8) rfl (.cons (t := 12) rfl (.cons (t := 14) rfl (.cons (t := 15) rfl (.cons (t := 88) rfl (.cons (t := 89) rfl (.cons (t := 90) rfl (.cons (t := 95) rfl (.cons (t := 96) rfl (.cons (t := 97) rfl (.cons (t := 113) rfl .nil)))))))))))))) ?_
        refine swl_nil ?_
        refine then_n ?_
        refine swp_cond (b := _) rfl (fun h113 => (by exfalso; rw [hiff] at h113; simp only [Bool.not_eq_true', beq_eq_false_iff_ne, decide_eq_false_iff_not] at h113; exact h113 (decide_eq_decide.2 (by omega)))) (fun h113 => ?_)
        refine swp_skip ?_
        refine block_n ?_
        refine then_n ?_
        refine swp_region ?_
        refine s_pu (pu_add_as ((k + 1 : Nat) : Int) rfl rfl (by omega) (by omega) (by omega)) ?_
        refine s_pu (pu_move rfl) ?_
        refine swl_sub _ (.cons (t := 1) rfl (.cons (t := 2) rfl (.cons (t := 7) rfl (.cons (t := 8) rfl (.cons (t := 12) rfl (.cons (t := 14) rfl (.cons (t := 15) rfl (.cons (t := 88) rfl (.cons (t := 89) rfl (.cons (t := 90) rfl (.cons (t := 95) rfl (.cons (t := 96) rfl (.cons (t := 97) rfl .nil))))))))))))) ?_
        refine swl_nil ?_
        exact then_n ⟨k + 1, ⟨rfl, rfl, h98'⟩, by omega⟩
      · skip   -- 98 F
        refine swp_exit ?_
        refine then_x ?_
        refine then_x ?_
        refine block_hit rfl ?_
        refine block_n ?_
        refine then_n ?_
        refine swp_region ?_
        refine s_pu (pu_add_as ((i + 1 : Nat) : Int) rfl rfl (by omega) (by omega) (by omega)) ?_
        refine s_pu (pu_move rfl) ?_
        refine swl_sub _ (.cons (t := 1) rfl (.cons (t := 2) rfl (.cons (t := 7) rfl (.cons (t := 8) rfl (.cons (t := 12) rfl (.cons (t := 88) rfl (.cons (t := 89) rfl (.cons (t := 90) rfl .nil)))))))) ?_
        refine swl_nil ?_
        exact then_n ⟨i + 1, ⟨rfl, rfl, h91'⟩, by omega⟩
    · skip   -- 91 F
      refine swp_exit ?_
      refine then_x ?_
      refine then_x ?_
      refine block_hit rfl ?_
      refine then_n ?_
      refine swp_seq ?_
      refine swp_seq ?_
      refine swp_region ?_
      refine s_pu (pu_move rfl) ?_
      refine s_pu (pu_len_row r5 rfl) ?_
      refine s_pu (pu_move rfl) ?_
      refine swl_sub _ (.cons (t := 1) rfl (.cons (t := 2) rfl (.cons (t := 7) rfl (.cons (t := 8) rfl (.cons (t := 12) rfl (.cons (t := 116) rfl (.cons (t := 117) rfl (.cons (t := 118) rfl .nil)))))))) ?_
      refine swl_nil ?_
      refine then_n ?_
      refine swp_block ?_
      refine swp_sub _ (.cons (t := 1) rfl (.cons (t := 2) rfl (.cons (t := 7) rfl (.cons (t := 8) rfl (.cons (t := 12) rfl (.cons (t := 116) rfl (.cons (t := 117) rfl (.cons (t := 118) rfl .nil)))))))) ?_
      refine swp_loop (ι := Nat) (fun i env L => env = [(1, .int .i64 (ia : Nat)), (2, .int .i64 (ib : Nat)), (7, v7), (8, lv), (12, la), (116, la), (117, .int .i64 (al.length : Nat)), (118, .int .i64 (i : Nat))] ∧ L = [ro μ5] ∧ i ≤ al.length) (fun i => al.length - i) 0 ⟨rfl, rfl, by omega⟩ ?_
      rintro i env L ⟨rfl, rfl, hi⟩
      refine swp_seq ?_
      refine swp_region ?_
      refine s_pu (pu_lss rfl rfl) ?_
      refine swl_sub _ (.cons (t := 1) rfl (.cons (t := 2) rfl (.cons (t := 7) rfl (.cons (t := 8) rfl (.cons (t := 12) rfl (.cons (t := 116) rfl (.cons (t := 117) rfl (.cons (t := 118) rfl (.cons (t := 119) rfl .nil))))))))) ?_
      refine swl_nil ?_
      refine then_n ?_
      refine swp_seq ?_
      refine swp_cond (b := _) rfl (fun h119 => ?_) (fun h119 => ?_)
      · skip   -- 119 T
        have h119' : i < al.length := by have := of_decide_eq_true h119; omega
        obtain ⟨x, hx⟩ : ∃ q, al[i]? = some q := ⟨_, List.getElem?_eq_getElem h119'⟩
        obtain ⟨xb, xo, xc, hxv, hxc⟩ := r5.at_ hx
        obtain ⟨kx, rfl, hkx, hbx⟩ := elsTo_mem (hal' ▸ List.mem_of_getElem? hx)
        have hab := hbx
        simp only [Bool.and_eq_true] at hab
        rw [hxv]
        refine swp_skip ?_
        refine then_n ?_
        refine swp_seq ?_
        refine swp_block ?_
        refine swp_seq ?_
        refine swp_region ?_
        refine s_pu (pu_indexAddr (xo + i * 1) rfl rfl (by omega) (by omega) (by rw [Int.toNat_natCast])) ?_
        refine s_rd (rd_ro rfl hxc) ?_
        refine s_pu (pu_assign rfl) ?_
        refine swl_sub _ (.cons (t := 1) rfl (.cons (t := 2) rfl (.cons (t := 7) rfl (.cons (t := 8) rfl (.cons (t := 12) rfl (.cons (t := 21) rfl (.cons (t := 116) rfl (.cons (t := 117) rfl (.cons (t := 118) rfl .nil))))))))) ?_
        refine swl_nil ?_
        refine then_n ?_
        refine swp_seq ?_
        rw [← hxv]
        refine swp_region ?_
        refine s_pu (pu_move rfl) ?_
        refine s_pu (pu_move rfl) ?_
        refine s_pu (pu_move rfl) ?_
        refine s_ef (ef_fn (hreach ia kx hia hkx) rfl rfl (by repeat (first | exact Split.nil | (apply Split.cons; (repeat (first | with_reducible exact Take.here | apply Take.there)))))) ?_
        rintro v126 L1 ⟨rfl, rfl⟩
        refine swl_app ?_
        refine s_pu (pu_move rfl) ?_
        refine s_pu (pu_extract rfl rfl) ?_
        refine s_pu (pu_extract rfl rfl) ?_
        refine s_pu (pu_assign rfl) ?_
        refine s_pu (pu_assign rfl) ?_
        refine swl_sub _ (.cons (t := 1) rfl (.cons (t := 2) rfl (.cons (t := 7) rfl (.cons (t := 8) rfl (.cons (t := 12) rfl (.cons (t := 21) rfl (.cons (t := 22) rfl (.cons (t := 116) rfl (.cons (t := 117) rfl (.cons (t := 118) rfl .nil)))))))))) ?_
        refine swl_nil ?_
        refine then_n ?_
        refine swp_seq ?_
        refine swp_region ?_
        refine s_pu (pu_move rfl) ?_
        refine s_pu (pu_move rfl) ?_
        refine s_pu (pu_move rfl) ?_
        refine s_ef (ef_fn (hreach ib kx hib hkx) rfl rfl (by repeat (first | exact Split.nil | (apply Split.cons; (repeat (first | with_reducible exact Take.here | apply Take.there)))))) ?_
        rintro v133 L1 ⟨rfl, rfl⟩
        refine swl_app ?_
        rw [hab.1, hab.2]
        refine s_pu (pu_move rfl) ?_
        refine s_pu (pu_extract rfl rfl) ?_
        refine s_pu (pu_extract rfl rfl) ?_
        refine s_pu (pu_assign rfl) ?_
        refine s_pu (pu_assign rfl) ?_
        refine swl_sub _ (.cons (t := 1) rfl (.cons (t := 2) rfl (.cons (t := 7) rfl (.cons (t := 8) rfl (.cons (t := 12) rfl (.cons (t := 21) rfl (.cons (t := 22) rfl (.cons (t := 24) rfl (.cons (t := 116) rfl (.cons (t := 117) rfl (.cons (t := 118) rfl .nil))))))))))) ?_
        refine swl_nil ?_
        refine then_n ?_
        refine swp_seq ?_
        refine swp_region ?_
        refine s_pu (pu_assign rfl) ?_
        refine swl_sub _ (.cons (t := 1) rfl (.cons (t := 2) rfl (.cons (t := 7) rfl (.cons (t := 8) rfl (.cons (t := 12) rfl (.cons (t := 21) rfl (.cons (t := 22) rfl (.cons (t := 24) rfl (.cons (t := 26) rfl (.cons (t := 116) rfl (.cons (t := 117) rfl (.cons (t := 118) rfl .nil)))))))))))) ?_
        refine swl_nil ?_
        refine then_n ?_
        refine swp_seq ?_
        refine swp_seq ?_
        refine swp_region ?_
        refine s_pu (pu_move rfl) ?_
        refine s_pu (pu_len_row r3 rfl) ?_
        refine s_pu (pu_move rfl) ?_
        refine swl_sub _ (.cons (t := 1) rfl (.cons (t := 2) rfl (.cons (t := 7) rfl (.cons (t := 8) rfl (.cons (t := 12) rfl (.cons (t := 21) rfl (.cons (t := 22) rfl (.cons (t := 24) rfl (.cons (t := 26) rfl (.cons (t := 116) rfl (.cons (t := 117) rfl (.cons (t := 118) rfl (.cons (t := 136) rfl (.cons (t := 137) rfl (.cons (t := 138) rfl .nil))))))))))))))) ?_
        refine swl_nil ?_
        refine then_n ?_
        refine swp_block ?_
        refine swp_loop (ι := Nat) (fun k env L => env = [(1, .int .i64 (ia : Nat)), (2, .int .i64 (ib : Nat)), (7, v7), (8, lv), (12, la), (21, .int .i64 (kx : Nat)), (22, .bool true), (24, .bool true), (26, .bool ((l.take k).any fun y => up (nums G2) y.toNat kx)), (116, la), (117, .int .i64 (al.length : Nat)), (118, .int .i64 (i : Nat)), (136, lv), (137, .int .i64 (l.length : Nat)), (138, .int .i64 (k : Nat))] ∧ L = [ro μ5] ∧ k ≤ l.length) (fun k => l.length - k) 0 ⟨rfl, rfl, by omega⟩ ?_
        rintro k env L ⟨rfl, rfl, hk⟩
        refine swp_seq ?_
        refine swp_region ?_
        refine s_pu (pu_lss rfl rfl) ?_
        refine swl_sub _ (.cons (t := 1) rfl (.cons (t := 2) rfl (.cons (t := 7) rfl (.cons (t := 8) rfl (.cons (t := 12) rfl (.cons (t := 21) rfl (.cons (t := 22) rfl (.cons (t := 24) rfl (.cons (t := 26) rfl (.cons (t := 116) rfl (.cons (t := 117) rfl (.cons (t := 118) rfl (.cons (t := 136) rfl (.cons (t := 137) rfl (.cons (t := 138) rfl (.cons (t := 139) rfl .nil)))))))))))))))) ?_
        refine swl_nil ?_
        refine then_n ?_
        refine swp_seq ?_
        refine swp_cond (b := _) rfl (fun h139 => ?_) (fun h139 => ?_)
        · skip   -- 139 T
          have h139' : k < l.length := by have := of_decide_eq_true h139; omega
          obtain ⟨y, hy⟩ : ∃ q, l[k]? = some q := ⟨_, List.getElem?_eq_getElem h139'⟩
          obtain ⟨yb, yo, yc, hyv, hyc⟩ := r3.at_ hy
          obtain ⟨ky, rfl, hky, hby⟩ := elsTo_mem (hl' ▸ List.mem_of_getElem? hy)
          have hnext : ((l.take (k + 1)).any fun y => up (nums G2) y.toNat kx) = (((l.take k).any fun y => up (nums G2) y.toNat kx) || up (nums G2) ky kx) := by
            rw [List.take_add_one, hy, List.any_append]; simp
          rw [hyv]
          refine swp_skip ?_
          refine then_n ?_
          refine swp_seq ?_
          refine swp_block ?_
          refine swp_seq ?_
          refine swp_region ?_
          refine s_pu (pu_indexAddr (yo + k * 1) rfl rfl (by omega) (by omega) (by rw [Int.toNat_natCast])) ?_
          refine s_rd (rd_ro rfl hyc) ?_
          refine s_pu (pu_assign rfl) ?_
          refine swl_sub _ (.cons (t := 1) rfl (.cons (t := 2) rfl (.cons (t := 7) rfl (.cons (t := 8) rfl (.cons (t := 12) rfl (.cons (t := 21) rfl (.cons (t := 22) rfl (.cons (t := 24) rfl (.cons (t := 26) rfl (.cons (t := 28) rfl (.cons (t := 116) rfl (.cons (t := 117) rfl (.cons (t := 118) rfl (.cons (t := 136) rfl (.cons (t := 137) rfl (.cons (t := 138) rfl .nil)))))))))))))))) ?_
          refine swl_nil ?_
          refine then_n ?_
          refine swp_seq ?_
          rw [← hyv]
          refine swp_region ?_
          refine s_pu (pu_move rfl) ?_
          refine s_pu (pu_move rfl) ?_
          refine s_pu (pu_move rfl) ?_
          refine s_ef (ef_fn (hreach ky kx hky hkx) rfl rfl (by repeat (first | exact Split.nil | (apply Split.cons; (repeat (first | with_reducible exact Take.here | apply Take.there)))))) ?_
          rintro v146 L1 ⟨rfl, rfl⟩
          refine swl_app ?_
          refine s_pu (pu_move rfl) ?_
          refine s_pu (pu_extract rfl rfl) ?_
          refine s_pu (pu_extract rfl rfl) ?_
          refine s_pu (pu_assign rfl) ?_
          refine s_pu (pu_assign rfl) ?_
          refine swl_sub _ (.cons (t := 1) rfl (.cons (t := 2) rfl (.cons (t := 7) rfl (.cons (t := 8) rfl (.cons (t := 12) rfl (.cons (t := 21) rfl (.cons (t := 22) rfl (.cons (t := 24) rfl (.cons (t := 26) rfl (.cons (t := 29) rfl (.cons (t := 116) rfl (.cons (t := 117) rfl (.cons (t := 118) rfl (.cons (t := 136) rfl (.cons (t := 137) rfl (.cons (t := 138) rfl .nil)))))))))))))))) ?_
          refine swl_nil ?_
          refine then_n ?_
          refine swp_region ?_
          refine s_pu (pu_move rfl) ?_
          refine s_pu (pu_move rfl) ?_
          refine s_split 150 rfl (fun h150 => ?_) (fun h150 => ?_)
          · skip   -- 150 T
            refine s_off rfl rfl rfl ?_
            first | refine s_pu (pu_pick_t rfl rfl) ?_ | refine s_pu (pu_pick_f rfl rfl) ?_
            refine s_pu (pu_assign rfl) ?_
            refine swl_sub _ (.cons (t := 1) rfl (.cons (t := 2) rfl (.cons (t := 7) rfl (.cons (t := 8) rfl (.cons (t := 12) rfl (.cons (t := 21) rfl (.cons (t := 22) rfl (.cons (t := 24) rfl (.cons (t := 26) rfl (.cons (t := 116) rfl (.cons (t := 117) rfl (.cons (t := 118) rfl (.cons (t := 136) rfl (.cons (t := 137) rfl (.cons (t := 138) rfl .nil))))))))))))))) ?_
            refine swl_nil ?_
            refine block_n ?_
            refine then_n ?_
            refine swp_region ?_
            refine s_pu (pu_add_as ((k + 1 : Nat) : Int) rfl rfl (by omega) (by omega) (by omega)) ?_
            refine s_pu (pu_move rfl) ?_
            refine swl_sub _ (.cons (t := 1) rfl (.cons (t := 2) rfl (.cons (t := 7) rfl (.cons (t := 8) rfl (.cons (t := 12) rfl (.cons (t := 21) rfl (.cons (t := 22) rfl (.cons (t := 24) rfl (.cons (t := 26) rfl (.cons (t := 116) rfl (.cons (t := 117) rfl (.cons (t := 118) rfl (.cons (t := 136) rfl (.cons (t := 137) rfl (.cons (t := 138) rfl .nil))))))))))))))) ?_
            refine swl_nil ?_
            exact then_n ⟨k + 1, ⟨by rw [hnext, h150, Bool.true_or], rfl, h139'⟩, by omega⟩
          · skip   -- 150 F
            refine s_on rfl rfl ?_
            refine s_pu (pu_move rfl) ?_
            first | refine s_pu (pu_pick_t rfl rfl) ?_ | refine s_pu (pu_pick_f rfl rfl) ?_
            refine s_pu (pu_assign rfl) ?_
            refine swl_sub _ (.cons (t := 1) rfl (.cons (t := 2) rfl (.cons (t := 7) rfl (.cons (t := 8) rfl (.cons (t := 12) rfl (.cons (t := 21) rfl (.cons (t := 22) rfl (.cons (t := 24) rfl (.cons (t := 26) rfl (.cons (t := 116) rfl (.cons (t := 117) rfl (.cons (t := 118) rfl (.cons (t := 136) rfl (.cons (t := 137) rfl (.cons (t := 138) rfl .nil))))))))))))))) ?_
            refine swl_nil ?_
            refine block_n ?_
            refine then_n ?_
            refine swp_region ?_
            refine s_pu (pu_add_as ((k + 1 : Nat) : Int) rfl rfl (by omega) (by omega) (by omega)) ?_
            refine s_pu (pu_move rfl) ?_
            refine swl_sub _ (.cons (t := 1) rfl (.cons (t := 2) rfl (.cons (t := 7) rfl (.cons (t := 8) rfl (.cons (t := 12) rfl (.cons (t := 21) rfl (.cons (t := 22) rfl (.cons (t := 24) rfl (.cons (t := 26) rfl (.cons (t := 116) rfl (.cons (t := 117) rfl (.cons (t := 118) rfl (.cons (t := 136) rfl (.cons (t := 137) rfl (.cons (t := 138) rfl .nil))))))))))))))) ?_
            refine swl_nil ?_
            exact then_n ⟨k + 1, ⟨by rw [hnext, h150, Bool.false_or]; rfl, rfl, h139'⟩, by omega⟩
        · skip   -- 139 F
          have h139' := of_decide_eq_false h139
          obtain rfl : k = l.length := by omega
          have hex : ((l.take l.length).any fun y => up (nums G2) y.toNat kx) = true := by
            rw [List.take_length, List.any_eq_true]
            obtain ⟨y, h1, h2, h3⟩ := best_reach hg (S := fun j => up (nums G2) ia j && up (nums G2) ib j) _ kx (Nat.le_refl _) (by rw [hlen]; exact hkx) hbx
            exact ⟨(y : Nat), by rw [hl']; exact mem_elsTo.2 ⟨by rw [← hlen]; exact h1, h2⟩, by rw [Int.toNat_natCast]; exact h3⟩
          rw [hex]
          refine swp_exit ?_
          refine then_x ?_
          refine then_x ?_
          refine block_hit rfl ?_
          refine then_n ?_
          refine swp_seq ?_
          refine swp_region ?_
          refine s_pu (pu_move rfl) ?_
          refine s_pu (pu_not rfl) ?_
          refine s_pu (pu_move rfl) ?_
          refine s_on rfl rfl ?_
          refine s_pu (pu_move rfl) ?_
          refine s_on rfl rfl ?_
          refine s_pu (pu_not rfl) ?_
          first | refine s_pu (pu_pick_t rfl rfl) ?_ | refine s_pu (pu_pick_f rfl rfl) ?_
          refine s_pu (pu_move rfl) ?_
          refine s_on rfl rfl ?_
          refine s_pu (pu_move rfl) ?_
          refine s_on rfl rfl ?_
          refine s_pu (pu_not rfl) ?_
          first | refine s_pu (pu_pick_t rfl rfl) ?_ | refine s_pu (pu_pick_f rfl rfl) ?_
          refine swl_sub _ (.cons (t := 1) rfl (.cons (t := 2) rfl (.cons (t := 7) rfl (.cons (t := 8) rfl (.cons (t := 12) rfl (.cons (t := 116) rfl (.cons (t := 117) rfl (.cons (t := 118) rfl (.cons (t := 163) rfl .nil))))))))) ?_
          refine swl_nil ?_
          refine then_n ?_
          refine swp_cond (b := _) rfl (fun h163 => by cases h163) (fun h163 => ?_)
          refine swp_skip ?_
          refine block_n ?_
          refine then_n ?_
          refine swp_region ?_
          refine s_pu (pu_add_as ((i + 1 : Nat) : Int) rfl rfl (by omega) (by omega) (by omega)) ?_
          refine s_pu (pu_move rfl) ?_
          refine swl_sub _ (.cons (t := 1) rfl (.cons (t := 2) rfl (.cons (t := 7) rfl (.cons (t := 8) rfl (.cons (t := 12) rfl (.cons (t := 116) rfl (.cons (t := 117) rfl (.cons (t := 118) rfl .nil)))))))) ?_
          refine swl_nil ?_
          exact then_n ⟨i + 1, ⟨rfl, rfl, h119'⟩, by omega⟩
      · skip   -- 119 F
        refine swp_exit ?_
        refine then_x ?_
        refine then_x ?_
        refine block_hit rfl ?_
        refine then_n ?_
        refine swp_seq ?_
        refine swp_region ?_
        refine s_pu (pu_move rfl) ?_
        refine s_pu (pu_len_row r5 rfl) ?_
        refine s_pu (pu_eql rfl rfl) ?_
        refine s_pu (pu_move rfl) ?_
        refine s_pu (pu_len_row r3 rfl) ?_
        refine s_pu (pu_eql rfl rfl) ?_
        refine s_pu (pu_bool_eq rfl rfl) ?_
        refine s_pu (pu_assign rfl) ?_
        refine swl_sub _ (.cons (t := 6) rfl .nil) ?_
        refine swl_nil ?_
        refine then_n ?_
        refine swp_ret ?_
        refine done_ret [ro μ5] (.tmp rfl .nil) ⟨congrArg Value.bool ?_, μ5, [], hle5, rfl⟩ (by repeat (first | exact Split.nil | (apply Split.cons; (repeat (first | with_reducible exact Take.here | apply Take.there)))))
        have h1 : ((al.length : Int) = 0) ↔ ((l.length : Int) = 0) := by
          constructor
          · intro h
            have : l = [] := by
              apply List.eq_nil_iff_forall_not_mem.2
              intro x hx
              rw [hl'] at hx
              obtain ⟨k, rfl, hk, hb⟩ := elsTo_mem hx
              have : (k : Int) ∈ al := by rw [hal']; exact mem_elsTo.2 ⟨hk, (best_iff.1 hb).1⟩
              have hz : al = [] := List.eq_nil_of_length_eq_zero (by omega)
              rw [hz] at this; cases this
            rw [this]; rfl
          · intro h
            have : al = [] := by
              apply List.eq_nil_iff_forall_not_mem.2
              intro x hx
              rw [hal'] at hx
              obtain ⟨k, rfl, hk, hb⟩ := elsTo_mem hx
              obtain ⟨y, h1, h2, h3⟩ := best_reach hg (S := fun j => up (nums G2) ia j && up (nums G2) ib j) _ k (Nat.le_refl _) (by rw [hlen]; exact hk) hb
              have : (y : Int) ∈ l := by rw [hl']; exact mem_elsTo.2 ⟨by rw [← hlen]; exact h1, h2⟩
              have hz : l = [] := List.eq_nil_of_length_eq_zero (by omega)
              rw [hz] at this; cases this
            rw [this]; rfl
        show (decide ((al.length : Int) = 0) == decide ((l.length : Int) = 0)) = true
        by_cases hz : (l.length : Int) = 0
        · rw [decide_eq_true hz, decide_eq_true (h1.2 hz)]; rfl
        · rw [decide_eq_false hz, decide_eq_false (fun h => hz (h1.1 h))]; rfl
end SX
namespace Go.Proofs.YtfbfmokgpdmcfaaDoor
open Go.ChangeShapes Go.WideShapes Go.ChangeAt Go.RowKit
theorem ownKnobF : ownKnob Tryd.prog.godebug = none := by kernel_rfl
theorem gTab : Tryd.prog.globalNamed "math/bits.deBruijn64tab" = some 0 := by kernel_rfl
theorem tTab : (Tryd.prog.globals[0]?).map (·.type) = some 88 := by kernel_rfl
theorem datum {H : Type} : (Rows.laid_math_bits_deBruijn64tab : DataW H) = .agg (Lib.deBruijn64tab.map fun n => .lit (.int .u8 (n : Nat))) := rfl
theorem tab_of {W : World} (h : laidMetH Tryd.prog Rows.marksNoneRow.laid W) : SX.RowAt (fun b => W.heap[b]?) 0 0 SX.tabV := by
  rw [MakeChecks.laidMetH_plain _ _ _ (by kernel_rfl)] at h
  obtain ⟨ps, ⟨g0, t0, cs0, f0, p0, q0, hg0, ht0, hv0, hd0, _, _⟩, _, _⟩ := h
  obtain rfl := Option.some.inj (gTab.symm.trans hg0)
  obtain rfl := Option.some.inj (tTab.symm.trans ht0)
  obtain ⟨xs, m, rfl, hx, _, hn, hel⟩ := DataW.trod_array Tryd.underlying88 hd0
  simp only [Prod.mk.injEq] at hx
  have hx1 := hx.1
  rw [datum] at hx1
  simp only [DataW.agg.injEq] at hx1
  have c5 : Tryd.prog.cellsOf 5 = 1 := by kernel_rfl
  have hlen : Lib.deBruijn64tab.length = 64 := rfl
  intro j u hj
  have hj64 : j < 64 := by
    have := (List.getElem?_eq_some_iff.1 hj).1
    simpa [SX.tabV, hlen] using this
  obtain ⟨k, hk⟩ : ∃ k, Lib.deBruijn64tab[j]? = some k := ⟨_, List.getElem?_eq_getElem (by omega)⟩
  have hu : u = .int .u8 (k : Nat) := by
    unfold SX.tabV at hj
    rw [List.getElem?_map, hk] at hj
    exact (Option.some.inj hj).symm
  obtain ⟨y, hy⟩ : ∃ y, xs[j]? = some y := ⟨_, List.getElem?_eq_getElem (by omega)⟩
  have h1 := hel j hj64
  rw [hy, c5, Nat.mul_one] at h1
  obtain ⟨n, e1, e2, _⟩ := DataW.trod_int Tryd.underlying5 h1
  have e3 : (xs.map (·.1))[j]? = some (.lit (.int .u8 n)) := by rw [List.getElem?_map, hy, e2]; rfl
  rw [← hx1, List.getElem?_map, hk] at e3
  have hnk : n = (k : Int) := by
    have := Option.some.inj e3
    simpa using this.symm
  have hc := World.var?_cell hg0 hv0 j
  have hcs : cs0[j]? = some (.int .u8 n) := by
    have : (cs0.toList.drop j)[0]? = some (.int .u8 n) := by
      have := congrArg (·[0]?) e1
      simpa [List.getElem?_take] using this
    rw [List.getElem?_drop, Nat.add_zero] at this
    simpa using this
  rw [hcs] at hc
  rw [Nat.zero_add, hu, ← hnk]
  exact (SX.spot_of_cell hc).2
theorem door_met (os : Os) (args : Array Value) : laidMetH Tryd.prog Rows.marksNoneRow.laid ((World.doorLaid Tryd.prog 400 os).forCall (fun _ _ => 0) ⟨#[], args, []⟩).memory :=
  laidMetH_of_parts3 (fuel := 8) (laidMet_of_run' 8 (by kernel_rfl) (by kernel_rfl)) (by kernel_rfl) (by kernel_rfl)
end Go.Proofs.YtfbfmokgpdmcfaaDoor
namespace Go.Proofs.YtfbfmokgpdmcfaaDoor
open Go Go.ChangeShapes Go.WideShapes Go.ChangeAt Go.RowKit
theorem bulk_pos {H : Type} : ∀ d : DataW H, 1 ≤ Rows.uptoBulk d := fun d => by
  cases d with
  | lit l => cases l <;> simp only [Rows.uptoBulk] <;> omega
  | _ => simp only [Rows.uptoBulk] <;> omega
theorem bulk_len {H : Type} : ∀ ds : List (DataW H), ds.length ≤ Rows.uptoBulkAll ds
  | [] => by simp
  | d :: r => by
    have := bulk_pos d
    have := bulk_len r
    simp only [Rows.uptoBulkAll, List.length_cons]; omega
theorem bulk_at {H : Type} : ∀ {ds : List (DataW H)} {i : Nat} {d : DataW H}, ds[i]? = some d → Rows.uptoBulk d ≤ Rows.uptoBulkAll ds
  | [], _, _, h => by simp at h
  | x :: r, 0, d, h => by
    obtain rfl : x = d := by simpa using h
    simp only [Rows.uptoBulkAll]; omega
  | x :: r, i + 1, d, h => by
    have := bulk_at (ds := r) (i := i) (d := d) (by simpa using h)
    simp only [Rows.uptoBulkAll]; omega
/-- a graph is short, and so are its rows -/
theorem graph_short {H : Type} {xs : List (Value × List Int)} {d : DataW H} {rest : List (DataW H)} (hk : Rows.uptoSmall H (d :: rest) = true)
    (hd : (d = .nil ∧ xs = []) ∨ ∃ (Ds sp : List (DataW H)), d = .slice Ds sp ∧ Ds.length = xs.length ∧ ∀ (i : Nat) (a : Value × List Int) (D : DataW H), xs[i]? = some a → Ds[i]? = some D → (D = .nil ∧ a.2 = []) ∨ ∃ (Ds sp : List (DataW H)), D = .slice Ds sp ∧ Ds.length = a.2.length) :
    xs.length ≤ 1048576 ∧ ∀ x ∈ xs, x.2.length ≤ 1048576 := by
  have h : Rows.uptoBulkAll (d :: rest) ≤ 1048576 := of_decide_eq_true hk
  simp only [Rows.uptoBulkAll] at h
  rcases hd with ⟨_, rfl⟩ | ⟨Ds, sp, rfl, hl, hr⟩
  · exact ⟨by simp, fun x hx => by cases hx⟩
  · have hb := bulk_len Ds
    simp only [Rows.uptoBulk] at h
    refine ⟨by omega, fun x hx => ?_⟩
    obtain ⟨i, hi⟩ := List.getElem?_of_mem hx
    obtain ⟨D, hD⟩ : ∃ D, Ds[i]? = some D := ⟨_, List.getElem?_eq_getElem (by rw [hl]; exact (List.getElem?_eq_some_iff.1 hi).1)⟩
    have hba := bulk_at hD
    rcases hr i x D hi hD with ⟨_, h2⟩ | ⟨D2, s2, rfl, h3⟩
    · rw [h2]; simp
    · have := bulk_len D2
      simp only [Rows.uptoBulk] at hba
      omega
end Go.Proofs.YtfbfmokgpdmcfaaDoor
