/- A part of the proof: walks of the program's functions, and the rules by which they go. -/
import Derived.Test.YtfbfmokgpdmcfaaDoorBc40ba6ed
import Derived.Test.YtfbfmokgpdmcfaaDoorRows
import Derived.Test.YtfbfmokgpdmcfaaDoorB9665a15f
import Derived.ProofKit
import Derived.LaidMore
import Derived.OpenShut
import Derived.Stop.Joined
import Derived.Test.YtfbfmokgpdmcfaaDoorB1ed06f0d
namespace SX
open Go Go.Proofs

theorem ite_len {c : Prop} [Decidable c] {l : List Int} {n : Nat} (h : l.length ≤ n) : (if c then l else []).length ≤ n := by split <;> simp_all
theorem ansL_len (g : List (List Int)) (a b : Int) : (ancL g a).length ≤ g.length ∧ (desL g a).length ≤ g.length ∧ (comL g a b).length ≤ g.length ∧ (basL g a b).length ≤ g.length ∧ (onlL g a b).length ≤ g.length ∧ (heaL g).length ≤ g.length :=
  ⟨ite_len (elsTo_len _ _), ite_len (elsTo_len _ _), ite_len (elsTo_len _ _), ite_len (elsTo_len _ _), ite_len (elsTo_len _ _), ite_len (elsTo_len _ _)⟩
set_option maxHeartbeats 4000000 in
theorem lawasked_spec (μ : PH) (v u : Value) (G W : List (Value × List Int)) (a b : Int) (hT : RowAt μ 0 0 tabV) (hG : Graph μ v G) (hW : Graph μ u W) (he : nums W = nums G) (hn : G.length ≤ 1048576) : Spec Tryd.prog 43 [v, u, .int .i64 a, .int .i64 b] [ro μ] (fun r L => r = .bool true ∧ L = [ro μ]) := by
  have hll : W.length = G.length := by have := congrArg List.length he; rwa [List.length_map, List.length_map] at this
  have hbig : W.length ≤ 1099511627776 := by omega
  have hln : (nums G).length = G.length := List.length_map _
  obtain ⟨n1, n2, n3, n4, n5, n6⟩ := ansL_len (nums G) a b
  refine Spec.of 142 Tryd.func43 rfl rfl rfl ?_
  refine swp_seq ?_
  refine swp_region ?_
  refine s_pu (pu_assign rfl) ?_
  refine swl_sub _ (.cons (t := 0) rfl (.cons (t := 1) rfl (.cons (t := 2) rfl (.cons (t := 3) rfl .nil)))) ?_
  refine swl_nil ?_
  refine then_n ?_
  refine swp_seq ?_
  refine swp_seq ?_
  refine swp_region ?_
  refine s_pu (pu_move rfl) ?_
  refine swl_sub _ (.cons (t := 0) rfl (.cons (t := 1) rfl (.cons (t := 2) rfl (.cons (t := 3) rfl (.cons (t := 18) rfl .nil))))) ?_
  refine swl_nil ?_
  refine then_n ?_
  refine swp_block ?_
  refine swp_loop (ι := Nat) (fun k env L => env = [(0, v), (1, u), (2, .int .i64 a), (3, .int .i64 b), (18, .int .i64 (k : Nat))] ∧ L = [ro μ] ∧ k ≤ 6) (fun k => 6 - k) 0 ⟨rfl, rfl, by omega⟩ ?_
  rintro k env L ⟨rfl, rfl, hk⟩
  refine swp_seq ?_
  refine swp_region ?_
  refine s_pu (pu_lss rfl rfl) ?_
  refine swl_sub _ (.cons (t := 0) rfl (.cons (t := 1) rfl (.cons (t := 2) rfl (.cons (t := 3) rfl (.cons (t := 18) rfl (.cons (t := 19) rfl .nil)))))) ?_
  refine swl_nil ?_
  refine then_n ?_
  refine swp_seq ?_
  refine swp_cond (b := _) rfl (fun h19 => ?_) (fun h19 => ?_)
  · skip   -- 19 T
    have h19' := of_decide_eq_true h19
    refine swp_skip ?_
    refine then_n ?_
    refine swp_seq ?_
    refine swp_block ?_
    refine swp_seq ?_
    refine swp_region ?_
    refine s_pu (pu_move rfl) ?_
    refine s_pu (pu_assign rfl) ?_
    refine swl_sub _ (.cons (t := 0) rfl (.cons (t := 1) rfl (.cons (t := 2) rfl (.cons (t := 3) rfl (.cons (t := 9) rfl (.cons (t := 18) rfl .nil)))))) ?_
    refine swl_nil ?_
    refine then_n ?_
    refine swp_seq ?_
    refine swp_region ?_
    refine s_pu (pu_assign rfl) ?_
    refine s_pu (pu_assign rfl) ?_
    refine swl_sub _ (.cons (t := 0) rfl (.cons (t := 1) rfl (.cons (t := 2) rfl (.cons (t := 3) rfl (.cons (t := 9) rfl (.cons (t := 18) rfl .nil)))))) ?_
    refine swl_nil ?_
    refine then_n ?_
    refine swp_seq ?_
    refine swp_region ?_
    refine s_pu (pu_assign rfl) ?_
    refine s_pu (pu_assign rfl) ?_
    refine swl_sub _ (.cons (t := 0) rfl (.cons (t := 1) rfl (.cons (t := 2) rfl (.cons (t := 3) rfl (.cons (t := 9) rfl (.cons (t := 18) rfl .nil)))))) ?_
    refine swl_nil ?_
    refine then_n ?_
    refine swp_cut (fun env L => ∃ (lv lm : Value) (E : Int) (l : List Int), env = [(0, v), (1, u), (2, .int .i64 a), (3, .int .i64 b), (10, lv), (11, lm), (12, .int .i64 E), (13, .int .i64 E), (18, .int .i64 (k : Nat))] ∧ Ent L [own 3 1 lv l.length (l.flatMap (icsk .i64)), own 3 1 lm l.length (l.flatMap (icsk .i64)), ro μ] ∧ l.length ≤ 1048576) ?_ ?_
    · skip
      refine swp_seq ?_
      refine swp_region ?_
      refine s_pu (pu_move rfl) ?_
      refine swl_sub _ (.cons (t := 0) rfl (.cons (t := 1) rfl (.cons (t := 2) rfl (.cons (t := 3) rfl (.cons (t := 18) rfl (.cons (t := 21) rfl .nil)))))) ?_
      refine swl_nil ?_
      refine then_n ?_
      refine swp_block ?_
      refine swp_seq ?_
      refine swp_region ?_
      refine s_pu (pu_eql rfl rfl) ?_
      refine s_pu (pu_assign rfl) ?_
      refine swl_sub _ (.cons (t := 0) rfl (.cons (t := 1) rfl (.cons (t := 2) rfl (.cons (t := 3) rfl (.cons (t := 18) rfl (.cons (t := 21) rfl (.cons (t := 32) rfl .nil))))))) ?_
      refine swl_nil ?_
      refine then_n ?_
      refine swp_cond (b := _) rfl (fun h32 => ?_) (fun h32 => ?_)
      · skip   -- 32 T
        refine swp_seq ?_
        refine swp_region ?_
        refine s_pu (pu_move rfl) ?_
        refine s_pu (pu_move rfl) ?_
        refine s_ef (ef_fn (anc_spec μ v G a hT hG hn) rfl rfl (by repeat (first | exact Split.nil | (apply Split.cons; (repeat (first | with_reducible exact Take.here | apply Take.there)))))) ?_
        rintro v1 L1 ⟨lv, rfl, rfl⟩
        refine swl_app ?_
        refine s_pu (pu_move rfl) ?_
        refine s_pu (pu_extract rfl rfl) ?_
        refine s_pu (pu_extract rfl rfl) ?_
        refine s_pu (pu_assign rfl) ?_
        refine s_pu (pu_assign rfl) ?_
        refine swl_sub _ (.cons (t := 0) rfl (.cons (t := 1) rfl (.cons (t := 2) rfl (.cons (t := 3) rfl (.cons (t := 10) rfl (.cons (t := 12) rfl (.cons (t := 18) rfl .nil))))))) ?_
        refine swl_nil ?_
        refine then_n ?_
        refine swp_region ?_
        refine s_pu (pu_move rfl) ?_
        refine s_pu (pu_move rfl) ?_
        refine s_ef (ef_fn (ranc_spec μ u W a hW hbig) rfl rfl (by repeat (first | exact Split.nil | (apply Split.cons; (repeat (first | with_reducible exact Take.here | apply Take.there)))))) ?_
        rintro v2 L1 ⟨lm, rfl, rfl⟩
        refine swl_app ?_
        refine s_pu (pu_move rfl) ?_
        refine s_pu (pu_extract rfl rfl) ?_
        refine s_pu (pu_extract rfl rfl) ?_
        refine s_pu (pu_assign rfl) ?_
        refine s_pu (pu_assign rfl) ?_
        refine swl_sub _ (.cons (t := 0) rfl (.cons (t := 1) rfl (.cons (t := 2) rfl (.cons (t := 3) rfl (.cons (t := 10) rfl (.cons (t := 11) rfl (.cons (t := 12) rfl (.cons (t := 13) rfl (.cons (t := 18) rfl .nil))))))))) ?_
        refine swl_nil ?_
        refine block_n ?_
        rw [he]
        exact then_n ⟨lv, lm, askE (nums G) a a, ancL (nums G) a, rfl, Split.ent' (by repeat (first | exact Split.nil | (apply Split.cons; (repeat (first | with_reducible exact Take.here | apply Take.there))))), by omega⟩
      · skip   -- 32 F
        refine swp_seq ?_
        refine swp_region ?_
        refine s_pu (pu_eql rfl rfl) ?_
        refine s_pu (pu_assign rfl) ?_
        refine swl_sub _ (.cons (t := 0) rfl (.cons (t := 1) rfl (.cons (t := 2) rfl (.cons (t := 3) rfl (.cons (t := 18) rfl (.cons (t := 21) rfl (.cons (t := 46) rfl .nil))))))) ?_
        refine swl_nil ?_
        refine then_n ?_
        refine swp_cond (b := _) rfl (fun h46 => ?_) (fun h46 => ?_)
        · skip   -- 46 T
          refine swp_seq ?_
          refine swp_region ?_
          refine s_pu (pu_move rfl) ?_
          refine s_pu (pu_move rfl) ?_
          refine s_ef (ef_fn (desc_spec μ v G a hT hG hn) rfl rfl (by repeat (first | exact Split.nil | (apply Split.cons; (repeat (first | with_reducible exact Take.here | apply Take.there)))))) ?_
          rintro v1 L1 ⟨lv, rfl, rfl⟩
          refine swl_app ?_
          refine s_pu (pu_move rfl) ?_
          refine s_pu (pu_extract rfl rfl) ?_
          refine s_pu (pu_extract rfl rfl) ?_
          refine s_pu (pu_assign rfl) ?_
          refine s_pu (pu_assign rfl) ?_
          refine swl_sub _ (.cons (t := 0) rfl (.cons (t := 1) rfl (.cons (t := 2) rfl (.cons (t := 3) rfl (.cons (t := 10) rfl (.cons (t := 12) rfl (.cons (t := 18) rfl .nil))))))) ?_
          refine swl_nil ?_
          refine then_n ?_
          refine swp_region ?_
          refine s_pu (pu_move rfl) ?_
          refine s_pu (pu_move rfl) ?_
          refine s_ef (ef_fn (rdesc_spec μ u W a hW hbig) rfl rfl (by repeat (first | exact Split.nil | (apply Split.cons; (repeat (first | with_reducible exact Take.here | apply Take.there)))))) ?_
          rintro v2 L1 ⟨lm, rfl, rfl⟩
          refine swl_app ?_
          refine s_pu (pu_move rfl) ?_
          refine s_pu (pu_extract rfl rfl) ?_
          refine s_pu (pu_extract rfl rfl) ?_
          refine s_pu (pu_assign rfl) ?_
          refine s_pu (pu_assign rfl) ?_
          refine swl_sub _ (.cons (t := 0) rfl (.cons (t := 1) rfl (.cons (t := 2) rfl (.cons (t := 3) rfl (.cons (t := 10) rfl (.cons (t := 11) rfl (.cons (t := 12) rfl (.cons (t := 13) rfl (.cons (t := 18) rfl .nil))))))))) ?_
          refine swl_nil ?_
          refine block_n ?_
          rw [he]
          exact then_n ⟨lv, lm, askE (nums G) a a, desL (nums G) a, rfl, Split.ent' (by repeat (first | exact Split.nil | (apply Split.cons; (repeat (first | with_reducible exact Take.here | apply Take.there))))), by omega⟩
        · skip   -- 46 F
          refine swp_seq ?_
          refine swp_region ?_
          refine s_pu (pu_eql rfl rfl) ?_
          refine s_pu (pu_assign rfl) ?_
          refine swl_sub _ (.cons (t := 0) rfl (.cons (t := 1) rfl (.cons (t := 2) rfl (.cons (t := 3) rfl (.cons (t := 18) rfl (.cons (t := 21) rfl (.cons (t := 60) rfl .nil))))))) ?_
          refine swl_nil ?_
          refine then_n ?_
          refine swp_cond (b := _) rfl (fun h60 => ?_) (fun h60 => ?_)
          · skip   -- 60 T
            refine swp_seq ?_
            refine swp_region ?_
            refine s_pu (pu_move rfl) ?_
            refine s_pu (pu_move rfl) ?_
            refine s_pu (pu_move rfl) ?_
            refine s_ef (ef_fn (com_spec μ v G a b hT hG hn) rfl rfl (by repeat (first | exact Split.nil | (apply Split.cons; (repeat (first | with_reducible exact Take.here | apply Take.there)))))) ?_
            rintro v1 L1 ⟨lv, rfl, rfl⟩
            refine swl_app ?_
            refine s_pu (pu_move rfl) ?_
            refine s_pu (pu_extract rfl rfl) ?_
            refine s_pu (pu_extract rfl rfl) ?_
            refine s_pu (pu_assign rfl) ?_
            refine s_pu (pu_assign rfl) ?_
            refine swl_sub _ (.cons (t := 0) rfl (.cons (t := 1) rfl (.cons (t := 2) rfl (.cons (t := 3) rfl (.cons (t := 10) rfl (.cons (t := 12) rfl (.cons (t := 18) rfl .nil))))))) ?_
            refine swl_nil ?_
            refine then_n ?_
            refine swp_region ?_
            refine s_pu (pu_move rfl) ?_
            refine s_pu (pu_move rfl) ?_
            refine s_pu (pu_move rfl) ?_
            refine s_ef (ef_fn (rcom_spec μ u W a b hW hbig) rfl rfl (by repeat (first | exact Split.nil | (apply Split.cons; (repeat (first | with_reducible exact Take.here | apply Take.there)))))) ?_
            rintro v2 L1 ⟨lm, rfl, rfl⟩
            refine swl_app ?_
            refine s_pu (pu_move rfl) ?_
            refine s_pu (pu_extract rfl rfl) ?_
            refine s_pu (pu_extract rfl rfl) ?_
            refine s_pu (pu_assign rfl) ?_
            refine s_pu (pu_assign rfl) ?_
            refine swl_sub _ (.cons (t := 0) rfl (.cons (t := 1) rfl (.cons (t := 2) rfl (.cons (t := 3) rfl (.cons (t := 10) rfl (.cons (t := 11) rfl (.cons (t := 12) rfl (.cons (t := 13) rfl (.cons (t := 18) rfl .nil))))))))) ?_
            refine swl_nil ?_
            refine block_n ?_
            rw [he]
            exact then_n ⟨lv, lm, askE (nums G) a b, comL (nums G) a b, rfl, Split.ent' (by repeat (first | exact Split.nil | (apply Split.cons; (repeat (first | with_reducible exact Take.here | apply Take.there))))), by omega⟩
          · skip   -- 60 F
            refine swp_seq ?_
            refine swp_region ?_
            refine s_pu (pu_eql rfl rfl) ?_
            refine s_pu (pu_assign rfl) ?_
            refine swl_sub _ (.cons (t := 0) rfl (.cons (t := 1) rfl (.cons (t := 2) rfl (.cons (t := 3) rfl (.cons (t := 18) rfl (.cons (t := 21) rfl (.cons (t := 76) rfl .nil))))))) ?_
            refine swl_nil ?_
            refine then_n ?_
            refine swp_cond (b := _) rfl (fun h76 => ?_) (fun h76 => ?_)
            · skip   -- 76 T
              refine swp_seq ?_
              refine swp_region ?_
              refine s_pu (pu_move rfl) ?_
              refine s_pu (pu_move rfl) ?_
              refine s_pu (pu_move rfl) ?_
              refine s_ef (ef_fn (bases_spec μ v G a b hT hG hn) rfl rfl (by repeat (first | exact Split.nil | (apply Split.cons; (repeat (first | with_reducible exact Take.here | apply Take.there)))))) ?_
              rintro v1 L1 ⟨lv, rfl, rfl⟩
              refine swl_app ?_
              refine s_pu (pu_move rfl) ?_
              refine s_pu (pu_extract rfl rfl) ?_
              refine s_pu (pu_extract rfl rfl) ?_
              refine s_pu (pu_assign rfl) ?_
              refine s_pu (pu_assign rfl) ?_
              refine swl_sub _ (.cons (t := 0) rfl (.cons (t := 1) rfl (.cons (t := 2) rfl (.cons (t := 3) rfl (.cons (t := 10) rfl (.cons (t := 12) rfl (.cons (t := 18) rfl .nil))))))) ?_
              refine swl_nil ?_
              refine then_n ?_
              refine swp_region ?_
              refine s_pu (pu_move rfl) ?_
              refine s_pu (pu_move rfl) ?_
              refine s_pu (pu_move rfl) ?_
              refine s_ef (ef_fn (rbases_spec μ u W a b hW hbig) rfl rfl (by repeat (first | exact Split.nil | (apply Split.cons; (repeat (first | with_reducible exact Take.here | apply Take.there)))))) ?_
              rintro v2 L1 ⟨lm, rfl, rfl⟩
              refine swl_app ?_
              refine s_pu (pu_move rfl) ?_
              refine s_pu (pu_extract rfl rfl) ?_
              refine s_pu (pu_extract rfl rfl) ?_
              refine s_pu (pu_assign rfl) ?_
              refine s_pu (pu_assign rfl) ?_
              refine swl_sub _ (.cons (t := 0) rfl (.cons (t := 1) rfl (.cons (t := 2) rfl (.cons (t := 3) rfl (.cons (t := 10) rfl (.cons (t := 11) rfl (.cons (t := 12) rfl (.cons (t := 13) rfl (.cons (t := 18) rfl .nil))))))))) ?_
              refine swl_nil ?_
              refine block_n ?_
              rw [he]
              exact then_n ⟨lv, lm, askE (nums G) a b, basL (nums G) a b, rfl, Split.ent' (by repeat (first | exact Split.nil | (apply Split.cons; (repeat (first | with_reducible exact Take.here | apply Take.there))))), by omega⟩
            · skip   -- 76 F
              refine swp_seq ?_
              refine swp_region ?_
              refine s_pu (pu_eql rfl rfl) ?_
              refine s_pu (pu_assign rfl) ?_
              refine swl_sub _ (.cons (t := 0) rfl (.cons (t := 1) rfl (.cons (t := 2) rfl (.cons (t := 3) rfl (.cons (t := 18) rfl (.cons (t := 92) rfl .nil)))))) ?_
              refine swl_nil ?_
              refine then_n ?_
              refine swp_cond (b := _) rfl (fun h92 => ?_) (fun h92 => ?_)
              · skip   -- 92 T
                refine swp_seq ?_
                refine swp_region ?_
                refine s_pu (pu_move rfl) ?_
                refine s_pu (pu_move rfl) ?_
                refine s_pu (pu_move rfl) ?_
                refine s_ef (ef_fn (only_spec μ v G a b hT hG hn) rfl rfl (by repeat (first | exact Split.nil | (apply Split.cons; (repeat (first | with_reducible exact Take.here | apply Take.there)))))) ?_
                rintro v1 L1 ⟨lv, rfl, rfl⟩
                refine swl_app ?_
                refine s_pu (pu_move rfl) ?_
                refine s_pu (pu_extract rfl rfl) ?_
                refine s_pu (pu_extract rfl rfl) ?_
                refine s_pu (pu_assign rfl) ?_
                refine s_pu (pu_assign rfl) ?_
                refine swl_sub _ (.cons (t := 0) rfl (.cons (t := 1) rfl (.cons (t := 2) rfl (.cons (t := 3) rfl (.cons (t := 10) rfl (.cons (t := 12) rfl (.cons (t := 18) rfl .nil))))))) ?_
                refine swl_nil ?_
                refine then_n ?_
                refine swp_region ?_
                refine s_pu (pu_move rfl) ?_
                refine s_pu (pu_move rfl) ?_
                refine s_pu (pu_move rfl) ?_
                refine s_ef (ef_fn (ronly_spec μ u W a b hW hbig) rfl rfl (by repeat (first | exact Split.nil | (apply Split.cons; (repeat (first | with_reducible exact Take.here | apply Take.there)))))) ?_
                rintro v2 L1 ⟨lm, rfl, rfl⟩
                refine swl_app ?_
                refine s_pu (pu_move rfl) ?_
                refine s_pu (pu_extract rfl rfl) ?_
                refine s_pu (pu_extract rfl rfl) ?_
                refine s_pu (pu_assign rfl) ?_
                refine s_pu (pu_assign rfl) ?_
                refine swl_sub _ (.cons (t := 0) rfl (.cons (t := 1) rfl (.cons (t := 2) rfl (.cons (t := 3) rfl (.cons (t := 10) rfl (.cons (t := 11) rfl (.cons (t := 12) rfl (.cons (t := 13) rfl (.cons (t := 18) rfl .nil))))))))) ?_
                refine swl_nil ?_
                refine block_n ?_
                rw [he]
                exact then_n ⟨lv, lm, askE (nums G) a b, onlL (nums G) a b, rfl, Split.ent' (by repeat (first | exact Split.nil | (apply Split.cons; (repeat (first | with_reducible exact Take.here | apply Take.there))))), by omega⟩
              · skip   -- 92 F
                refine swp_seq ?_
                refine swp_region ?_
                refine s_pu (pu_move rfl) ?_
                refine s_ef (ef_fn (heads_spec μ v G hT hG hn) rfl rfl (by repeat (first | exact Split.nil | (apply Split.cons; (repeat (first | with_reducible exact Take.here | apply Take.there)))))) ?_
                rintro v1 L1 ⟨lv, rfl, rfl⟩
                refine swl_app ?_
                refine s_pu (pu_move rfl) ?_
                refine s_pu (pu_extract rfl rfl) ?_
                refine s_pu (pu_extract rfl rfl) ?_
                refine s_pu (pu_assign rfl) ?_
                refine s_pu (pu_assign rfl) ?_
                refine swl_sub _ (.cons (t := 0) rfl (.cons (t := 1) rfl (.cons (t := 2) rfl (.cons (t := 3) rfl (.cons (t := 10) rfl (.cons (t := 12) rfl (.cons (t := 18) rfl .nil))))))) ?_
                refine swl_nil ?_
                refine then_n ?_
                refine swp_region ?_
                refine s_pu (pu_move rfl) ?_
                refine s_ef (ef_fn (rheads_spec μ u W hW hbig) rfl rfl (by repeat (first | exact Split.nil | (apply Split.cons; (repeat (first | with_reducible exact Take.here | apply Take.there)))))) ?_
                rintro v2 L1 ⟨lm, rfl, rfl⟩
                refine swl_app ?_
                refine s_pu (pu_move rfl) ?_
                refine s_pu (pu_extract rfl rfl) ?_
                refine s_pu (pu_extract rfl rfl) ?_
                refine s_pu (pu_assign rfl) ?_
                refine s_pu (pu_assign rfl) ?_
                refine swl_sub _ (.cons (t := 0) rfl (.cons (t := 1) rfl (.cons (t := 2) rfl (.cons (t := 3) rfl (.cons (t := 10) rfl (.cons (t := 11) rfl (.cons (t := 12) rfl (.cons (t := 13) rfl (.cons (t := 18) rfl .nil))))))))) ?_
                refine swl_nil ?_
                refine block_n ?_
                rw [he]
                exact then_n ⟨lv, lm, heaE (nums G), heaL (nums G), rfl, Split.ent' (by repeat (first | exact Split.nil | (apply Split.cons; (repeat (first | with_reducible exact Take.here | apply Take.there))))), by omega⟩
    rintro env L ⟨lv, lm, E, l, rfl, hE, hl⟩
    refine swp_ent hE ?_
    refine swp_fact (fun m h => own_shape .here h) fun hs1 => ?_
    refine swp_fact (fun m h => own_shape (.there .here) h) fun hs2 => ?_
    refine swp_seq ?_
    refine swp_seq ?_
    refine swp_region ?_
    refine s_pu (pu_move rfl) ?_
    refine s_pu (pu_move rfl) ?_
    refine s_pu (pu_neq rfl rfl) ?_
    refine s_pu (pu_move rfl) ?_
    refine s_split 111 rfl (fun h111 => by simp at h111) (fun h111 => ?_)
    refine s_on rfl rfl ?_
    refine s_pu (pu_move rfl) ?_
    refine s_on rfl rfl ?_
    refine s_pu (pu_move rfl) ?_
    refine s_on rfl rfl ?_
    refine s_ef (ef_fn (samelist_i lv lm l l [own 3 1 lv l.length (l.flatMap (icsk .i64)), own 3 1 lm l.length (l.flatMap (icsk .i64)), ro μ] (ints_own hs1 .here) (ints_own hs2 (.there .here))) rfl rfl (by repeat (first | exact Split.nil | (apply Split.cons; (repeat (first | with_reducible exact Take.here | apply Take.there)))))) ?_
    rintro v3 L1 ⟨rfl, rfl⟩
    refine swl_app ?_
    refine s_on rfl rfl ?_
    refine s_pu (pu_not rfl) ?_
    first | refine s_pu (pu_pick_t rfl rfl) ?_ | refine s_pu (pu_pick_f rfl rfl) ?_
    refine swl_sub _ (.cons (t := 0) rfl (.cons (t := 1) rfl (.cons (t := 2) rfl (.cons (t := 3) rfl (.cons (t := 10) rfl (.cons (t := 18) rfl (.cons (t := 116) rfl .nil))))))) ?_
    refine swl_nil ?_
    refine then_n ?_
    refine swp_cond (b := _) rfl (fun h116 => by simp at h116) (fun h116 => ?_)
    refine swp_skip ?_
    refine then_n ?_
    refine swp_region ?_
    refine s_pu (pu_move rfl) ?_
    refine s_ef (ef_fn (spoilt_spec lv l hl) rfl rfl (by repeat (first | exact Split.nil | (apply Split.cons; (repeat (first | with_reducible exact Take.here | apply Take.there)))))) ?_
    rintro v4 L1 rfl
    refine swl_app ?_
    refine swl_sub _ (.cons (t := 0) rfl (.cons (t := 1) rfl (.cons (t := 2) rfl (.cons (t := 3) rfl (.cons (t := 18) rfl .nil))))) ?_
    refine swl_ent (Split.ent' (K := [ro μ]) (by repeat (first | exact Split.nil | (apply Split.cons; (repeat (first | with_reducible exact Take.here | apply Take.there)))))) ?_
    refine swl_nil ?_
    refine block_n ?_
    refine then_n ?_
    refine swp_region ?_
    refine s_pu (pu_add_as ((k + 1 : Nat) : Int) rfl rfl (by omega) (by omega) (by omega)) ?_
    refine s_pu (pu_move rfl) ?_
    refine swl_sub _ (.cons (t := 0) rfl (.cons (t := 1) rfl (.cons (t := 2) rfl (.cons (t := 3) rfl (.cons (t := 18) rfl .nil))))) ?_
    refine swl_nil ?_
    exact then_n ⟨k + 1, ⟨rfl, rfl, by omega⟩, by omega⟩
  · skip   -- 19 F
    refine swp_exit ?_
    refine then_x ?_
    refine then_x ?_
    refine block_hit rfl ?_
    refine then_n ?_
    refine swp_seq ?_
    refine swp_region ?_
    refine s_pu (pu_move rfl) ?_
    refine s_pu (pu_move rfl) ?_
    refine s_pu (pu_move rfl) ?_
    refine s_ef (ef_fn (reach_spec μ v G a b hG hn) rfl rfl (by repeat (first | exact Split.nil | (apply Split.cons; (repeat (first | with_reducible exact Take.here | apply Take.there)))))) ?_
    rintro v5 L1 ⟨rfl, rfl⟩
    refine swl_app ?_
    refine s_pu (pu_move rfl) ?_
    refine s_pu (pu_extract rfl rfl) ?_
    refine s_pu (pu_extract rfl rfl) ?_
    refine s_pu (pu_assign rfl) ?_
    refine s_pu (pu_assign rfl) ?_
    refine swl_sub _ (.cons (t := 1) rfl (.cons (t := 2) rfl (.cons (t := 3) rfl (.cons (t := 14) rfl (.cons (t := 15) rfl .nil))))) ?_
    refine swl_nil ?_
    refine then_n ?_
    refine swp_seq ?_
    refine swp_region ?_
    refine s_pu (pu_move rfl) ?_
    refine s_pu (pu_move rfl) ?_
    refine s_pu (pu_move rfl) ?_
    refine s_ef (ef_fn (rreach_spec μ u W a b hW hbig) rfl rfl (by repeat (first | exact Split.nil | (apply Split.cons; (repeat (first | with_reducible exact Take.here | apply Take.there)))))) ?_
    rintro v6 L1 ⟨rfl, rfl⟩
    rw [he]
    refine swl_app ?_
    refine s_pu (pu_move rfl) ?_
    refine s_pu (pu_extract rfl rfl) ?_
    refine s_pu (pu_extract rfl rfl) ?_
    refine s_pu (pu_assign rfl) ?_
    refine s_pu (pu_assign rfl) ?_
    refine swl_sub _ (.cons (t := 14) rfl (.cons (t := 15) rfl (.cons (t := 16) rfl (.cons (t := 17) rfl .nil)))) ?_
    refine swl_nil ?_
    refine then_n ?_
    refine swp_seq ?_
    refine swp_region ?_
    refine s_pu (pu_move rfl) ?_
    refine s_pu (pu_move rfl) ?_
    refine s_pu (pu_bool_eq rfl rfl) ?_
    refine s_pu (pu_move rfl) ?_
    refine s_split 137 rfl (fun h137 => ?_) (fun h137 => by simp at h137)
    refine s_on rfl rfl ?_
    refine s_pu (pu_move rfl) ?_
    refine s_on rfl rfl ?_
    refine s_pu (pu_move rfl) ?_
    refine s_on rfl rfl ?_
    refine s_pu (pu_eql rfl rfl) ?_
    first | refine s_pu (pu_pick_t rfl rfl) ?_ | refine s_pu (pu_pick_f rfl rfl) ?_
    refine s_pu (pu_assign rfl) ?_
    refine swl_sub _ (.cons (t := 8) rfl .nil) ?_
    refine swl_nil ?_
    refine then_n ?_
    refine swp_ret ?_
    exact done_ret [ro μ] (.tmp rfl .nil) ⟨by rw [decide_eq_true rfl]; rfl, rfl⟩ (by repeat (first | exact Split.nil | (apply Split.cons; (repeat (first | with_reducible exact Take.here | apply Take.there)))))
abbrev LawOk (μ : PH) (r : Value) (L : List Assn) : Prop := r = .bool true ∧ ∃ μ' R, Le μ μ' ∧ L = ro μ' :: R
set_option maxHeartbeats 2000000 in
theorem answers_spec (μ : PH) (v : Value) (G : List (Value × List Int)) (a b : Int) (hT : RowAt μ 0 0 tabV) (hG : Graph μ v G) (hn : G.length ≤ 1048576) (hrows : ∀ x ∈ G, x.2.length ≤ 1048576) : Spec Tryd.prog 11 [v, .int .i64 a, .int .i64 b] [ro μ] (LawOk μ) := by
  have hln : (nums G).length = G.length := List.length_map _
  refine Spec.of 58 Tryd.func11 rfl rfl rfl ?_
  refine swp_seq ?_
  refine swp_region ?_
  refine s_pu (pu_assign rfl) ?_
  refine swl_sub _ (.cons (t := 0) rfl (.cons (t := 1) rfl (.cons (t := 2) rfl .nil))) ?_
  refine swl_nil ?_
  refine then_n ?_
  refine swp_seq ?_
  refine swp_seq ?_
  refine swp_region ?_
  refine s_ef (ef_fn (descends_spec μ hT) rfl rfl (by repeat (first | exact Split.nil | (apply Split.cons; (repeat (first | with_reducible exact Take.here | apply Take.there)))))) ?_
  rintro v9 L1 ⟨rfl, μ1, l1, rfl⟩
  refine swl_app ?_
  refine s_pu (pu_not rfl) ?_
  refine swl_sub _ (.cons (t := 0) rfl (.cons (t := 1) rfl (.cons (t := 2) rfl (.cons (t := 10) rfl .nil)))) ?_
  refine swl_nil ?_
  refine then_n ?_
  refine swp_cond (b := _) rfl (fun h10 => by cases h10) (fun h10 => ?_)
  refine swp_skip ?_
  refine then_n ?_
  refine swp_seq ?_
  refine swp_seq ?_
  have hG1 := hG.le l1
  have hT1 := hT.le l1
  refine swp_region ?_
  refine s_pu (pu_move rfl) ?_
  refine s_pu (pu_len_row hG1.1 rfl) ?_
  refine s_pu (pu_gtr rfl rfl) ?_
  refine swl_sub _ (.cons (t := 0) rfl (.cons (t := 1) rfl (.cons (t := 2) rfl (.cons (t := 13) rfl .nil)))) ?_
  refine swl_nil ?_
  refine then_n ?_
  refine swp_cond (b := _) rfl (fun h13 => ?_) (fun h13 => ?_)
  · skip   -- 13 T
    refine swp_seq ?_
    refine swp_region ?_
    refine s_pu (pu_move rfl) ?_
    refine s_ef (ef_fn (check_spec μ1 v G hG1) rfl rfl (by repeat (first | exact Split.nil | (apply Split.cons; (repeat (first | with_reducible exact Take.here | apply Take.there)))))) ?_
    rintro v15 L1 ⟨rfl, rfl⟩
    refine swl_app ?_
    refine s_pu (pu_move rfl) ?_
    refine s_ef (ef_fn (rcheck_spec μ1 v G hG1 (by omega)) rfl rfl (by repeat (first | exact Split.nil | (apply Split.cons; (repeat (first | with_reducible exact Take.here | apply Take.there)))))) ?_
    rintro v17 L1 ⟨rfl, rfl⟩
    refine swl_app ?_
    refine s_pu (pu_eql rfl rfl) ?_
    refine s_pu (pu_assign rfl) ?_
    refine swl_sub _ (.cons (t := 6) rfl .nil) ?_
    refine swl_nil ?_
    refine then_n ?_
    refine swp_ret ?_
    refine then_r ?_
    exact done_ret [ro μ1] (.tmp rfl .nil) ⟨by rw [decide_eq_true rfl]; rfl, μ1, [], l1, rfl⟩ (by repeat (first | exact Split.nil | (apply Split.cons; (repeat (first | with_reducible exact Take.here | apply Take.there)))))
  · skip   -- 13 F
    refine swp_skip ?_
    refine then_n ?_
    refine swp_seq ?_
    refine swp_region ?_
    refine s_pu (pu_move rfl) ?_
    refine s_pu (pu_move rfl) ?_
    refine s_pu (pu_len_row hG1.1 rfl) ?_
    refine s_ef (ef_fn (few_spec μ1 v G G.length hG1 hn hrows hn) rfl rfl (by repeat (first | exact Split.nil | (apply Split.cons; (repeat (first | with_reducible exact Take.here | apply Take.there)))))) ?_
    rintro v22 L1 ⟨μ2, G2, l2, g2, e2, rfl⟩
    refine swl_app ?_
    have hG2 := hG1.le l2
    refine s_pu (pu_move rfl) ?_
    refine s_pu (pu_move rfl) ?_
    refine s_pu (pu_len_row hG2.1 rfl) ?_
    refine s_ef (ef_fn (few_spec μ2 v G G.length hG2 hn hrows hn) rfl rfl (by repeat (first | exact Split.nil | (apply Split.cons; (repeat (first | with_reducible exact Take.here | apply Take.there)))))) ?_
    rintro v26 L1 ⟨μ3, G3, l3, g3, e3, rfl⟩
    refine swl_app ?_
    rw [← hln, List.take_length] at e2 e3
    have hG3 := hG2.le l3
    have hT3 := hT1.le (l2.trans l3)
    have g2' := g2.le l3
    have hl2 : G2.length = G.length := by have := congrArg List.length e2; rwa [List.length_map, List.length_map] at this
    have hl3 : G3.length = G.length := by have := congrArg List.length e3; rwa [List.length_map, List.length_map] at this
    have he : nums G3 = nums G2 := by rw [e2, e3]
    refine s_pu (pu_assign rfl) ?_
    refine s_pu (pu_assign rfl) ?_
    refine swl_sub _ (.cons (t := 0) rfl (.cons (t := 1) rfl (.cons (t := 2) rfl (.cons (t := 7) rfl (.cons (t := 8) rfl .nil))))) ?_
    refine swl_nil ?_
    refine then_n ?_
    refine swp_seq ?_
    refine swp_region ?_
    refine s_pu (pu_move rfl) ?_
    refine s_ef (ef_fn (check_spec μ3 v22 G2 g2') rfl rfl (by repeat (first | exact Split.nil | (apply Split.cons; (repeat (first | with_reducible exact Take.here | apply Take.there)))))) ?_
    rintro v28 L1 ⟨rfl, rfl⟩
    refine swl_app ?_
    refine s_pu (pu_move rfl) ?_
    refine s_ef (ef_fn (rcheck_spec μ3 v26 G3 g3 (by omega)) rfl rfl (by repeat (first | exact Split.nil | (apply Split.cons; (repeat (first | with_reducible exact Take.here | apply Take.there)))))) ?_
    rintro v30 L1 ⟨rfl, rfl⟩
    refine swl_app ?_
    rw [he]
    refine s_pu (pu_eql rfl rfl) ?_
    refine s_pu (pu_move rfl) ?_
    refine s_split 32 rfl (fun h32 => ?_) (fun h32 => by simp at h32)
    refine s_on rfl rfl ?_
    refine s_pu (pu_move rfl) ?_
    refine s_on rfl rfl ?_
    refine s_pu (pu_move rfl) ?_
    refine s_on rfl rfl ?_
    refine s_pu (pu_move rfl) ?_
    refine s_on rfl rfl ?_
    refine s_pu (pu_move rfl) ?_
    refine s_on rfl rfl ?_
    refine s_ef (ef_fn (lawasked_spec μ3 v22 v26 G2 G3 a b hT3 g2' g3 he (by omega)) rfl rfl (by repeat (first | exact Split.nil | (apply Split.cons; (repeat (first | with_reducible exact Take.here | apply Take.there)))))) ?_
    rintro v37 L1 ⟨rfl, rfl⟩
    refine swl_app ?_
    first | refine s_pu (pu_pick_t rfl rfl) ?_ | refine s_pu (pu_pick_f rfl rfl) ?_
    refine s_pu (pu_move rfl) ?_
    refine s_on rfl rfl ?_
    refine s_pu (pu_move rfl) ?_
    refine s_on rfl rfl ?_
    refine s_pu (pu_move rfl) ?_
    refine s_on rfl rfl ?_
    refine s_pu (pu_move rfl) ?_
    refine s_on rfl rfl ?_
    refine s_pu (pu_move rfl) ?_
    refine s_on rfl rfl ?_
    refine s_ef (ef_fn (lawasked_spec μ3 v22 v26 G2 G3 b a hT3 g2' g3 he (by omega)) rfl rfl (by repeat (first | exact Split.nil | (apply Split.cons; (repeat (first | with_reducible exact Take.here | apply Take.there)))))) ?_
    rintro v44 L1 ⟨rfl, rfl⟩
    refine swl_app ?_
    first | refine s_pu (pu_pick_t rfl rfl) ?_ | refine s_pu (pu_pick_f rfl rfl) ?_
    refine s_pu (pu_move rfl) ?_
    refine s_on rfl rfl ?_
    refine s_pu (pu_move rfl) ?_
    refine s_on rfl rfl ?_
    refine s_pu (pu_move rfl) ?_
    refine s_on rfl rfl ?_
    refine s_ef (ef_fn (samegraph_spec μ3 v22 v G2 G g2' hG3) rfl rfl (by repeat (first | exact Split.nil | (apply Split.cons; (repeat (first | with_reducible exact Take.here | apply Take.there)))))) ?_
    rintro v49 L1 ⟨rfl, rfl⟩
    refine swl_app ?_
    rw [decide_eq_true e2]
    first | refine s_pu (pu_pick_t rfl rfl) ?_ | refine s_pu (pu_pick_f rfl rfl) ?_
    refine s_pu (pu_move rfl) ?_
    refine s_on rfl rfl ?_
    refine s_pu (pu_move rfl) ?_
    refine s_on rfl rfl ?_
    refine s_pu (pu_move rfl) ?_
    refine s_on rfl rfl ?_
    refine s_pu (pu_move rfl) ?_
    refine s_on rfl rfl ?_
    refine s_pu (pu_move rfl) ?_
    refine s_on rfl rfl ?_
    refine s_ef (ef_fn (lawasked_spec μ3 v22 v26 G2 G3 a b hT3 g2' g3 he (by omega)) rfl rfl (by repeat (first | exact Split.nil | (apply Split.cons; (repeat (first | with_reducible exact Take.here | apply Take.there)))))) ?_
    rintro v56 L1 ⟨rfl, rfl⟩
    refine swl_app ?_
    first | refine s_pu (pu_pick_t rfl rfl) ?_ | refine s_pu (pu_pick_f rfl rfl) ?_
    refine s_pu (pu_assign rfl) ?_
    refine swl_sub _ (.cons (t := 6) rfl .nil) ?_
    refine swl_nil ?_
    refine then_n ?_
    refine swp_ret ?_
    exact done_ret [ro μ3] (.tmp rfl .nil) ⟨rfl, μ3, [], l1.trans (l2.trans l3), rfl⟩ (by repeat (first | exact Split.nil | (apply Split.cons; (repeat (first | with_reducible exact Take.here | apply Take.there)))))
set_option maxHeartbeats 2000000 in
theorem pairs_spec (μ : PH) (v : Value) (G : List (Value × List Int)) (hT : RowAt μ 0 0 tabV) (hG : Graph μ v G) (hn : G.length ≤ 1048576) (hrows : ∀ x ∈ G, x.2.length ≤ 1048576) : Spec Tryd.prog 12 [v] [ro μ] (LawOk μ) := by
  refine Spec.of 28 Tryd.func12 rfl rfl rfl ?_
  refine swp_seq ?_
  refine swp_region ?_
  refine s_pu (pu_assign rfl) ?_
  refine swl_sub _ (.cons (t := 0) rfl .nil) ?_
  refine swl_nil ?_
  refine then_n ?_
  refine swp_seq ?_
  refine swp_seq ?_
  refine swp_region ?_
  refine s_ef (ef_fn (descends_spec μ hT) rfl rfl (by repeat (first | exact Split.nil | (apply Split.cons; (repeat (first | with_reducible exact Take.here | apply Take.there)))))) ?_
  rintro v9 L1 ⟨rfl, μ1, l1, rfl⟩
  refine swl_app ?_
  refine s_pu (pu_not rfl) ?_
  refine swl_sub _ (.cons (t := 0) rfl (.cons (t := 7) rfl .nil)) ?_
  refine swl_nil ?_
  refine then_n ?_
  refine swp_cond (b := _) rfl (fun h7 => by cases h7) (fun h7 => ?_)
  refine swp_skip ?_
  refine then_n ?_
  refine swp_seq ?_
  have hG1 := hG.le l1
  have hT1 := hT.le l1
  refine swp_region ?_
  refine s_pu (pu_move rfl) ?_
  refine s_ef (ef_fn (few_spec μ1 v G 14 hG1 hn hrows (by omega)) rfl rfl (by repeat (first | exact Split.nil | (apply Split.cons; (repeat (first | with_reducible exact Take.here | apply Take.there)))))) ?_
  rintro v22 L1 ⟨μ2, G2, l2, g2, e2, rfl⟩
  refine swl_app ?_
  have hl2 : G2.length ≤ 14 := by have := congrArg List.length e2; rw [List.length_map, List.length_take] at this; omega
  have hT2 := hT1.le l2
  refine s_pu (pu_assign rfl) ?_
  refine swl_sub _ (.cons (t := 3) rfl .nil) ?_
  refine swl_nil ?_
  refine then_n ?_
  refine swp_seq ?_
  refine swp_seq ?_
  refine swp_region ?_
  refine s_pu (pu_move rfl) ?_
  refine s_pu (pu_len_row g2.1 rfl) ?_
  refine s_pu (pu_move rfl) ?_
  refine swl_sub _ (.cons (t := 3) rfl (.cons (t := 11) rfl (.cons (t := 12) rfl .nil))) ?_
  refine swl_nil ?_
  refine then_n ?_
  refine swp_block ?_
  refine swp_loop (ι := Nat) (fun i env L => env = [(3, v22), (11, .int .i64 (G2.length : Nat)), (12, .int .i64 (i : Nat))] ∧ L = [ro μ2] ∧ i ≤ G2.length) (fun i => G2.length - i) 0 ⟨rfl, rfl, by omega⟩ ?_
  rintro i env L ⟨rfl, rfl, hi⟩
  refine swp_seq ?_
  refine swp_region ?_
  refine s_pu (pu_lss rfl rfl) ?_
  refine swl_sub _ (.cons (t := 3) rfl (.cons (t := 11) rfl (.cons (t := 12) rfl (.cons (t := 13) rfl .nil)))) ?_
  refine swl_nil ?_
  refine then_n ?_
  refine swp_seq ?_
  refine swp_cond (b := _) rfl (fun h13 => ?_) (fun h13 => ?_)
  · skip   -- 13 T
    have h13' : i < G2.length := by have := of_decide_eq_true h13; omega
    refine swp_skip ?_
    refine then_n ?_
    refine swp_seq ?_
    refine swp_block ?_
    refine swp_seq ?_
    refine swp_region ?_
    refine s_pu (pu_move rfl) ?_
    refine s_pu (pu_assign rfl) ?_
    refine swl_sub _ (.cons (t := 3) rfl (.cons (t := 4) rfl (.cons (t := 11) rfl (.cons (t := 12) rfl .nil)))) ?_
    refine swl_nil ?_
    refine then_n ?_
    refine swp_seq ?_
    refine swp_region ?_
    refine s_pu (pu_move rfl) ?_
    refine s_pu (pu_len_row g2.1 rfl) ?_
    refine s_pu (pu_move rfl) ?_
    refine swl_sub _ (.cons (t := 3) rfl (.cons (t := 4) rfl (.cons (t := 11) rfl (.cons (t := 12) rfl (.cons (t := 16) rfl (.cons (t := 17) rfl .nil)))))) ?_
    refine swl_nil ?_
    refine then_n ?_
    refine swp_block ?_
    refine swp_loop (ι := Nat) (fun j env L => env = [(3, v22), (4, .int .i64 (i : Nat)), (11, .int .i64 (G2.length : Nat)), (12, .int .i64 (i : Nat)), (16, .int .i64 (G2.length : Nat)), (17, .int .i64 (j : Nat))] ∧ L = [ro μ2] ∧ j ≤ G2.length) (fun j => G2.length - j) 0 ⟨rfl, rfl, by omega⟩ ?_
    rintro j env L ⟨rfl, rfl, hj⟩
    refine swp_seq ?_
    refine swp_region ?_
    refine s_pu (pu_lss rfl rfl) ?_
    refine swl_sub _ (.cons (t := 3) rfl (.cons (t := 4) rfl (.cons (t := 11) rfl (.cons (t := 12) rfl (.cons (t := 16) rfl (.cons (t := 17) rfl (.cons (t := 18) rfl .nil))))))) ?_
    refine swl_nil ?_
    refine then_n ?_
    refine swp_seq ?_
    refine swp_cond (b := _) rfl (fun h18 => ?_) (fun h18 => ?_)
    · skip   -- 18 T
      have h18' : j < G2.length := by have := of_decide_eq_true h18; omega
      refine swp_skip ?_
      refine then_n ?_
      refine swp_seq ?_
      refine swp_block ?_
      refine swp_seq ?_
      refine swp_region ?_
      refine s_pu (pu_move rfl) ?_
      refine s_pu (pu_assign rfl) ?_
      refine swl_sub _ (.cons (t := 3) rfl (.cons (t := 4) rfl (.cons (t := 5) rfl (.cons (t := 11) rfl (.cons (t := 12) rfl (.cons (t := 16) rfl (.cons (t := 17) rfl .nil))))))) ?_
      refine swl_nil ?_
      refine then_n ?_
      refine swp_seq ?_
      refine swp_region ?_
      refine s_pu (pu_move rfl) ?_
      refine s_pu (pu_move rfl) ?_
      refine s_pu (pu_move rfl) ?_
      refine s_pu (pu_move rfl) ?_
      refine s_ef (ef_fn (lawasked_spec μ2 v22 v22 G2 G2 i j hT2 g2 g2 rfl (by omega)) rfl rfl (by repeat (first | exact Split.nil | (apply Split.cons; (repeat (first | with_reducible exact Take.here | apply Take.there)))))) ?_
      rintro v24 L1 ⟨rfl, rfl⟩
      refine swl_app ?_
      refine s_pu (pu_not rfl) ?_
      refine swl_sub _ (.cons (t := 3) rfl (.cons (t := 4) rfl (.cons (t := 11) rfl (.cons (t := 12) rfl (.cons (t := 16) rfl (.cons (t := 17) rfl (.cons (t := 25) rfl .nil))))))) ?_
      refine swl_nil ?_
      refine then_n ?_
      refine swp_cond (b := _) rfl (fun h25 => by cases h25) (fun h25 => ?_)
      refine swp_skip ?_
      refine block_n ?_
      refine then_n ?_
      refine swp_region ?_
      refine s_pu (pu_add_as ((j + 1 : Nat) : Int) rfl rfl (by omega) (by omega) (by omega)) ?_
      refine s_pu (pu_move rfl) ?_
      refine swl_sub _ (.cons (t := 3) rfl (.cons (t := 4) rfl (.cons (t := 11) rfl (.cons (t := 12) rfl (.cons (t := 16) rfl (.cons (t := 17) rfl .nil)))))) ?_
      refine swl_nil ?_
      exact then_n ⟨j + 1, ⟨rfl, rfl, h18'⟩, by omega⟩
    · skip   -- 18 F
      refine swp_exit ?_
      refine then_x ?_
      refine then_x ?_
      refine block_hit rfl ?_
      refine block_n ?_
      refine then_n ?_
      refine swp_region ?_
      refine s_pu (pu_add_as ((i + 1 : Nat) : Int) rfl rfl (by omega) (by omega) (by omega)) ?_
      refine s_pu (pu_move rfl) ?_
      refine swl_sub _ (.cons (t := 3) rfl (.cons (t := 11) rfl (.cons (t := 12) rfl .nil))) ?_
      refine swl_nil ?_
      exact then_n ⟨i + 1, ⟨rfl, rfl, h13'⟩, by omega⟩
  · skip   -- 13 F
    refine swp_exit ?_
    refine then_x ?_
    refine then_x ?_
    refine block_hit rfl ?_
    refine then_n ?_
    refine swp_seq ?_
    refine swp_region ?_
    refine s_pu (pu_assign rfl) ?_
    refine swl_sub _ (.cons (t := 2) rfl .nil) ?_
    refine swl_nil ?_
    refine then_n ?_
    refine swp_ret ?_
    exact done_ret [ro μ2] (.tmp rfl .nil) ⟨rfl, μ2, [], l1.trans l2, rfl⟩ (by repeat (first | exact Split.nil | (apply Split.cons; (repeat (first | with_reducible exact Take.here | apply Take.there)))))
end SX
namespace Go.Proofs.YtfbfmokgpdmcfaaDoor
open Go.ChangeShapes Go.WideShapes Go.ChangeAt Go.RowKit
theorem ownKnobF : ownKnob Tryd.prog.godebug = none := by kernel_rfl
theorem gTab : Tryd.prog.globalNamed "math/bits.deBruijn64tab" = some 0 := by kernel_rfl
theorem tTab : (Tryd.prog.globals[0]?).map (·.type) = some 88 := by kernel_rfl
theorem datum {H : Type} : (Rows.laid_math_bits_deBruijn64tab : DataW H) = .agg (Lib.deBruijn64tab.map fun n => .lit (.int .u8 (n : Nat))) := rfl
theorem tab_of {W : World} (h : laidMetH Tryd.prog Rows.marksNoneRow.laid W) : SX.RowAt (fun b => W.heap[b]?) 0 0 SX.tabV := by
  rw [MakeChecks.laidMetH_plain _ _ _ (by kernel_rfl)] at h
  obtain ⟨ps, ⟨g0, t0, cs0, f0, p0, q0, hg0, ht0, hv0, hd0, _, _⟩, _, _⟩ := h
  obtain rfl := Option.some.inj (gTab.symm.trans hg0)
  obtain rfl := Option.some.inj (tTab.symm.trans ht0)
  obtain ⟨xs, m, rfl, hx, _, hn, hel⟩ := DataW.trod_array Tryd.underlying88 hd0
  simp only [Prod.mk.injEq] at hx
  have hx1 := hx.1
  rw [datum] at hx1
  simp only [DataW.agg.injEq] at hx1
  have c5 : Tryd.prog.cellsOf 5 = 1 := by kernel_rfl
  have hlen : Lib.deBruijn64tab.length = 64 := rfl
  intro j u hj
  have hj64 : j < 64 := by
    have := (List.getElem?_eq_some_iff.1 hj).1
    simpa [SX.tabV, hlen] using this
  obtain ⟨k, hk⟩ : ∃ k, Lib.deBruijn64tab[j]? = some k := ⟨_, List.getElem?_eq_getElem (by omega)⟩
  have hu : u = .int .u8 (k : Nat) := by
    unfold SX.tabV at hj
    rw [List.getElem?_map, hk] at hj
    exact (Option.some.inj hj).symm
  obtain ⟨y, hy⟩ : ∃ y, xs[j]? = some y := ⟨_, List.getElem?_eq_getElem (by omega)⟩
  have h1 := hel j hj64
  rw [hy, c5, Nat.mul_one] at h1
  obtain ⟨n, e1, e2, _⟩ := DataW.trod_int Tryd.underlying5 h1
  have e3 : (xs.map (·.1))[j]? = some (.lit (.int .u8 n)) := by rw [List.getElem?_map, hy, e2]; rfl
  rw [← hx1, List.getElem?_map, hk] at e3
  have hnk : n = (k : Int) := by
    have := Option.some.inj e3
    simpa using this.symm
  have hc := World.var?_cell hg0 hv0 j
  have hcs : cs0[j]? = some (.int .u8 n) := by
    have : (cs0.toList.drop j)[0]? = some (.int .u8 n) := by
      have := congrArg (·[0]?) e1
      simpa [List.getElem?_take] using this
    rw [List.getElem?_drop, Nat.add_zero] at this
    simpa using this
  rw [hcs] at hc
  rw [Nat.zero_add, hu, ← hnk]
  exact (SX.spot_of_cell hc).2
theorem door_met (os : Os) (args : Array Value) : laidMetH Tryd.prog Rows.marksNoneRow.laid ((World.doorLaid Tryd.prog 400 os).forCall (fun _ _ => 0) ⟨#[], args, []⟩).memory :=
  laidMetH_of_parts3 (fuel := 8) (laidMet_of_run' 8 (by kernel_rfl) (by kernel_rfl)) (by kernel_rfl) (by kernel_rfl)
end Go.Proofs.YtfbfmokgpdmcfaaDoor
namespace Go.Proofs.YtfbfmokgpdmcfaaDoor
open Go Go.ChangeShapes Go.WideShapes Go.ChangeAt Go.RowKit
theorem bulk_pos {H : Type} : ∀ d : DataW H, 1 ≤ Rows.uptoBulk d := fun d => by
  cases d with
  | lit l => cases l <;> simp only [Rows.uptoBulk] <;> omega
  | _ => simp only [Rows.uptoBulk] <;> omega
theorem bulk_len {H : Type} : ∀ ds : List (DataW H), ds.length ≤ Rows.uptoBulkAll ds
  | [] => by simp
  | d :: r => by
    have := bulk_pos d
    have := bulk_len r
    simp only [Rows.uptoBulkAll, List.length_cons]; omega
theorem bulk_at {H : Type} : ∀ {ds : List (DataW H)} {i : Nat} {d : DataW H}, ds[i]? = some d → Rows.uptoBulk d ≤ Rows.uptoBulkAll ds
  | [], _, _, h => by simp at h
  | x :: r, 0, d, h => by
    obtain rfl : x = d := by simpa using h
    simp only [Rows.uptoBulkAll]; omega
  | x :: r, i + 1, d, h => by
    have := bulk_at (ds := r) (i := i) (d := d) (by simpa using h)
    simp only [Rows.uptoBulkAll]; omega
/-- a graph is short, and so are its rows -/
theorem graph_short {H : Type} {xs : List (Value × List Int)} {d : DataW H} {rest : List (DataW H)} (hk : Rows.uptoSmall H (d :: rest) = true)
    (hd : (d = .nil ∧ xs = []) ∨ ∃ (Ds sp : List (DataW H)), d = .slice Ds sp ∧ Ds.length = xs.length ∧ ∀ (i : Nat) (a : Value × List Int) (D : DataW H), xs[i]? = some a → Ds[i]? = some D → (D = .nil ∧ a.2 = []) ∨ ∃ (Ds sp : List (DataW H)), D = .slice Ds sp ∧ Ds.length = a.2.length) :
    xs.length ≤ 1048576 ∧ ∀ x ∈ xs, x.2.length ≤ 1048576 := by
  have h : Rows.uptoBulkAll (d :: rest) ≤ 1048576 := of_decide_eq_true hk
  simp only [Rows.uptoBulkAll] at h
  rcases hd with ⟨_, rfl⟩ | ⟨Ds, sp, rfl, hl, hr⟩
  · exact ⟨by simp, fun x hx => by cases hx⟩
  · have hb := bulk_len Ds
    simp only [Rows.uptoBulk] at h
    refine ⟨by omega, fun x hx => ?_⟩
    obtain ⟨i, hi⟩ := List.getElem?_of_mem hx
    obtain ⟨D, hD⟩ : ∃ D, Ds[i]? = some D := ⟨_, List.getElem?_eq_getElem (by rw [hl]; exact (List.getElem?_eq_some_iff.1 hi).1)⟩
    have hba := bulk_at hD
    rcases hr i x D hi hD with ⟨_, h2⟩ | ⟨D2, s2, rfl, h3⟩
    · rw [h2]; simp
    · have := bulk_len D2
      simp only [Rows.uptoBulk] at hba
      omega
end Go.Proofs.YtfbfmokgpdmcfaaDoor
