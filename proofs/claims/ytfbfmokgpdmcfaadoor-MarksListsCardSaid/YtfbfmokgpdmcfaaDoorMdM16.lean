/- A part of the proof: walks of the seat's functions, by the rules of the texts that it imports. -/
import Derived.Test.YtfbfmokgpdmcfaaDoorMdM15
namespace SX
open Go Go.Proofs

/-- a set and the document's -/
abbrev both (p n : Nat) (S : Nat → Bool) (w b : Nat) : List Assn := [mset p n S, blk w 39 [.slice (some ⟨b, 0, none⟩) n n], blk b 4 (rbs n S)]
theorem same_spec (μ : PH) (p n w b : Nat) (S : Nat → Bool) (hT : RowAt μ 0 0 tabV) (hn : n ≤ 1048576) : Spec Tryd.prog 25 [.pointer (some ⟨p, 0, none⟩), .pointer (some ⟨w, 0, none⟩)]
    [mset p n S, blk w 39 [.slice (some ⟨b, 0, none⟩) n n], blk b 4 (rbs n S), ro μ] (fun r L => r = .bool true ∧ L = [mset p n S, blk w 39 [.slice (some ⟨b, 0, none⟩) n n], blk b 4 (rbs n S), ro μ]) := by
  have hle := elsTo_len n S
  refine Spec.of 19 Tryd.func25 rfl rfl rfl ?_
  refine swp_seq ?_
  refine swp_region ?_
  refine s_pu (pu_assign rfl) ?_
  refine swl_sub _ (.cons (t := 0) rfl (.cons (t := 1) rfl .nil)) ?_
  refine swl_nil ?_
  refine then_n ?_
  refine swp_seq ?_
  refine swp_region ?_
  refine s_pu (pu_move rfl) ?_
  refine s_ef (ef_fn (rlist w b n S hn) rfl rfl (by repeat (first | exact Split.nil | (apply Split.cons; (repeat (first | with_reducible exact Take.here | apply Take.there)))))) ?_
  rintro v1 L1 rfl
  refine swl_app ?_
  refine swl_fact (fun m h => own_form h) fun hform => ?_
  refine s_pu (pu_assign rfl) ?_
  refine swl_sub _ (.cons (t := 0) rfl (.cons (t := 5) rfl .nil)) ?_
  refine swl_nil ?_
  refine then_n ?_
  refine swp_seq ?_
  refine swp_region ?_
  refine s_pu (pu_move rfl) ?_
  refine s_ef (ef_fn (count_m p n S) rfl rfl (by repeat (first | exact Split.nil | (apply Split.cons; (repeat (first | with_reducible exact Take.here | apply Take.there)))))) ?_
  rintro v2 L1 ⟨rfl, rfl⟩
  refine swl_app ?_
  refine s_pu (pu_move rfl) ?_
  refine s_pu (pu_len_own hform rfl) ?_
  refine s_pu (pu_eql rfl rfl) ?_
  refine s_pu (pu_move rfl) ?_
  refine s_split 13 rfl (fun h13 => ?_) (fun h13 => by simp at h13)
  refine s_on rfl rfl ?_
  refine s_pu (pu_move rfl) ?_
  refine s_on rfl rfl ?_
  refine s_ef (ef_fn (list_m μ p n S hT) rfl rfl (by repeat (first | exact Split.nil | (apply Split.cons; (repeat (first | with_reducible exact Take.here | apply Take.there)))))) ?_
  rintro v3 L1 rfl
  refine swl_app ?_
  refine s_on rfl rfl ?_
  refine s_pu (pu_move rfl) ?_
  refine s_on rfl rfl ?_
  refine s_ef (ef_fn (samelist v3 v1 (elsTo n S) (elsTo n S) (by omega) (by omega)) rfl rfl (by repeat (first | exact Split.nil | (apply Split.cons; (repeat (first | with_reducible exact Take.here | apply Take.there)))))) ?_
  rintro v4 L1 ⟨rfl, rfl⟩
  refine swl_app ?_
  first | refine s_pu (pu_pick_t rfl rfl) ?_ | refine s_pu (pu_pick_f rfl rfl) ?_
  refine s_pu (pu_assign rfl) ?_
  refine swl_sub _ (.cons (t := 4) rfl .nil) ?_
  refine swl_nil ?_
  refine then_n ?_
  refine swp_ret ?_
  exact done_ret [mset p n S, blk w 39 [.slice (some ⟨b, 0, none⟩) n n], blk b 4 (rbs n S), ro μ] (.tmp rfl .nil) ⟨by rw [decide_eq_true rfl]; rfl, rfl⟩ (by repeat (first | exact Split.nil | (apply Split.cons; (repeat (first | with_reducible exact Take.here | apply Take.there)))))
set_option maxHeartbeats 2000000 in
theorem step_spec (μ : PH) (p n w b q m x c : Nat) (S T : Nat → Bool) (kd k : Int) (hT : RowAt μ 0 0 tabV) (hn : n ≤ 1048576) (hm : m ≤ 1048576) (hSz : ∀ j, n ≤ j → S j = false) (hTz : ∀ j, m ≤ j → T j = false) :
    Spec Tryd.prog 24 [.pointer (some ⟨p, 0, none⟩), .pointer (some ⟨q, 0, none⟩), .pointer (some ⟨w, 0, none⟩), .pointer (some ⟨x, 0, none⟩), .agg #[.int .u8 kd, .int .i64 k]]
    [mset p n S, mset q m T, blk w 39 [.slice (some ⟨b, 0, none⟩) n n], blk b 4 (rbs n S), blk x 39 [.slice (some ⟨c, 0, none⟩) m m], blk c 4 (rbs m T), ro μ]
    (fun r L => r = .bool true ∧ ∃ S' : Nat → Bool, (∀ j, n ≤ j → S' j = false) ∧ L = [mset p n S', mset q m T, blk w 39 [.slice (some ⟨b, 0, none⟩) n n], blk b 4 (rbs n S'), blk x 39 [.slice (some ⟨c, 0, none⟩) m m], blk c 4 (rbs m T), ro μ]) := by
  have hle := elsTo_len m T
  have hr0 : rr k = 0 → ∀ a b, mixb k a b = (a || b) := fun h a b => by unfold mixb; rw [if_pos h]
  have hr1 : ¬ rr k = 0 → rr k = 1 → ∀ a b, mixb k a b = (a && b) := fun h h1 a b => by unfold mixb; rw [if_neg h, if_pos h1]
  have hr2 : ¬ rr k = 0 → ¬ rr k = 1 → ∀ a b, mixb k a b = (a && !b) := fun h h1 a b => by unfold mixb; rw [if_neg h, if_neg h1]
  have hrw : (IntKind.u64.wrap k).tmod 3 = rr k := rfl
  obtain ⟨U, hU⟩ : ∃ U : Nat → Bool, ∀ j, (decide (j < n) && mixb k (S j) (T j)) = U j := ⟨_, fun j => rfl⟩
  have hUz : ∀ j, n ≤ j → U j = false := fun j hj => by rw [← hU, decide_eq_false (by omega)]; rfl
  have hUr : rbs n (fun j => mixb k (S j) (T j)) = rbs n U := rbs_ext fun j hj => by rw [← hU, decide_eq_true hj]; rfl
  refine Spec.of 96 Tryd.func24 rfl rfl rfl ?_
  refine swp_seq ?_
  refine swp_region ?_
  refine s_ef (ef_box rfl rfl) ?_
  intro b9
  refine s_pu (pu_assign rfl) ?_
  refine swl_sub _ (.cons (t := 0) rfl (.cons (t := 1) rfl (.cons (t := 2) rfl (.cons (t := 3) rfl (.cons (t := 9) rfl .nil))))) ?_
  refine swl_nil ?_
  refine then_n ?_
  refine swp_seq ?_
  refine swp_seq ?_
  refine swp_region ?_
  first | refine s_pu (pu_fieldAddr0 rfl) ?_ | refine s_pu (pu_fieldAddr rfl) ?_
  refine s_rd (rd_load rfl rfl) ?_
  refine s_pu (pu_rem rfl rfl (by omega)) ?_
  refine swl_sub _ (.cons (t := 0) rfl (.cons (t := 1) rfl (.cons (t := 2) rfl (.cons (t := 3) rfl (.cons (t := 9) rfl (.cons (t := 13) rfl .nil)))))) ?_
  refine swl_nil ?_
  refine then_n ?_
  refine swp_block ?_
  refine swp_seq ?_
  refine swp_region ?_
  refine s_pu (pu_eql rfl rfl) ?_
  refine s_pu (pu_assign rfl) ?_
  refine swl_sub _ (.cons (t := 0) rfl (.cons (t := 1) rfl (.cons (t := 2) rfl (.cons (t := 3) rfl (.cons (t := 9) rfl (.cons (t := 13) rfl (.cons (t := 14) rfl .nil))))))) ?_
  refine swl_nil ?_
  refine then_n ?_
  refine swp_cond (b := _) rfl (fun h14 => ?_) (fun h14 => ?_)
  · skip   -- 14 T
    refine swp_seq ?_
    refine swp_draw [2, 6] ([blk b9 41 [.int .u8 kd, .int .i64 k]]) ([mset p n S, mset q m T, blk w 39 [.slice (some ⟨b, 0, none⟩) n n], blk b 4 (rbs n S), blk x 39 [.slice (some ⟨c, 0, none⟩) m m], blk c 4 (rbs m T), ro μ]) (Split.ent (by repeat (first | exact Split.nil | (apply Split.cons; (repeat (first | with_reducible exact Take.here | apply Take.there)))))) (by kernel_rfl) ?_
    refine d_pu 0 rfl (pu_move rfl) (by kernel_rfl) (by kernel_rfl) (by kernel_rfl) ?_
    first | refine d_pu 1 rfl (pu_fieldAddr0 rfl) (by kernel_rfl) (by kernel_rfl) (by kernel_rfl) ?_ | refine d_pu 1 rfl (pu_fieldAddr rfl) (by kernel_rfl) (by kernel_rfl) (by kernel_rfl) ?_
    refine d_rd 2 rfl (rd_load rfl rfl) rfl (by kernel_rfl) (by kernel_rfl) (by kernel_rfl) ?_
    refine d_pu 4 rfl (pu_move rfl) (by kernel_rfl) (by kernel_rfl) (by kernel_rfl) ?_
    first | refine d_pu 5 rfl (pu_fieldAddr0 rfl) (by kernel_rfl) (by kernel_rfl) (by kernel_rfl) ?_ | refine d_pu 5 rfl (pu_fieldAddr rfl) (by kernel_rfl) (by kernel_rfl) (by kernel_rfl) ?_
    refine d_rd 6 rfl (rd_load rfl rfl) rfl (by kernel_rfl) (by kernel_rfl) (by kernel_rfl) ?_
    refine d_eft 3 rfl (by kernel_rfl) (ef_fn (put_m p n S k) rfl rfl (by repeat (first | exact Split.nil | (apply Split.cons; (repeat (first | with_reducible exact Take.here | apply Take.there)))))) ?_
    rintro v1 L1 ⟨rfl, rfl⟩
    refine ⟨_, ent_appC (Split.ent (by repeat (first | exact Split.nil | (apply Split.cons; (repeat (first | with_reducible exact Take.here | apply Take.there)))))), ?_⟩
    first | refine d_fint 7 rfl (by kernel_rfl) (by kernel_rfl) (ef_fn (rput w b n S k hn) rfl rfl (by repeat (first | exact Split.nil | (apply Split.cons; (repeat (first | with_reducible exact Take.here | apply Take.there)))))) ?_ | refine d_finf 7 rfl (by kernel_rfl) (by kernel_rfl) (ef_fn (rput w b n S k hn) rfl rfl (by repeat (first | exact Split.nil | (apply Split.cons; (repeat (first | with_reducible exact Take.here | apply Take.there)))))) ?_
    rintro v1 L1 ⟨rfl, rfl⟩
    refine swd_app ?_
    refine d_pu 8 rfl (pu_bool_eq rfl rfl) (by kernel_rfl) (by kernel_rfl) (by kernel_rfl) ?_
    refine d_pu 9 rfl (pu_assign rfl) (by kernel_rfl) (by kernel_rfl) (by kernel_rfl) ?_
    refine d_sub _ (.cons (t := 10) rfl .nil) ?_
    first | refine d_nilt (by kernel_rfl) ?_ | refine d_nilf (by kernel_rfl) ?_
    refine then_n ?_
    refine swp_ret ?_
    refine block_r ?_
    refine then_r ?_
    exact done_ret [mset p n (fun j => S j || (decide (0 ≤ k ∧ k < n) && decide (j = k.toNat))), mset q m T, blk w 39 [.slice (some ⟨b, 0, none⟩) n n], blk b 4 (rbs n (fun j => S j || (decide (0 ≤ k ∧ k < n) && decide (j = k.toNat)))), blk x 39 [.slice (some ⟨c, 0, none⟩) m m], blk c 4 (rbs m T), ro μ] (.tmp rfl .nil) ⟨by rw [beq_self_eq_true]; rfl, _, fun j hj => by
      rw [hSz j hj, Bool.false_or]
      by_cases h : 0 ≤ k ∧ k < n
      · rw [decide_eq_false (show ¬ j = k.toNat by omega), Bool.and_false]
      · rw [decide_eq_false h, Bool.false_and], rfl⟩ (by repeat (first | exact Split.nil | (apply Split.cons; (repeat (first | with_reducible exact Take.here | apply Take.there)))))
  · skip   -- 14 F
    refine swp_seq ?_
    refine swp_region ?_
    refine s_pu (pu_eql rfl rfl) ?_
    refine s_pu (pu_assign rfl) ?_
    refine swl_sub _ (.cons (t := 0) rfl (.cons (t := 1) rfl (.cons (t := 2) rfl (.cons (t := 3) rfl (.cons (t := 9) rfl (.cons (t := 13) rfl (.cons (t := 25) rfl .nil))))))) ?_
    refine swl_nil ?_
    refine then_n ?_
    refine swp_cond (b := _) rfl (fun h25 => ?_) (fun h25 => ?_)
    · skip   -- 25 T
      refine swp_seq ?_
      refine swp_draw [2, 6] ([blk b9 41 [.int .u8 kd, .int .i64 k]]) ([mset p n S, mset q m T, blk w 39 [.slice (some ⟨b, 0, none⟩) n n], blk b 4 (rbs n S), blk x 39 [.slice (some ⟨c, 0, none⟩) m m], blk c 4 (rbs m T), ro μ]) (Split.ent (by repeat (first | exact Split.nil | (apply Split.cons; (repeat (first | with_reducible exact Take.here | apply Take.there)))))) (by kernel_rfl) ?_
      refine d_pu 0 rfl (pu_move rfl) (by kernel_rfl) (by kernel_rfl) (by kernel_rfl) ?_
      first | refine d_pu 1 rfl (pu_fieldAddr0 rfl) (by kernel_rfl) (by kernel_rfl) (by kernel_rfl) ?_ | refine d_pu 1 rfl (pu_fieldAddr rfl) (by kernel_rfl) (by kernel_rfl) (by kernel_rfl) ?_
      refine d_rd 2 rfl (rd_load rfl rfl) rfl (by kernel_rfl) (by kernel_rfl) (by kernel_rfl) ?_
      refine d_pu 4 rfl (pu_move rfl) (by kernel_rfl) (by kernel_rfl) (by kernel_rfl) ?_
      first | refine d_pu 5 rfl (pu_fieldAddr0 rfl) (by kernel_rfl) (by kernel_rfl) (by kernel_rfl) ?_ | refine d_pu 5 rfl (pu_fieldAddr rfl) (by kernel_rfl) (by kernel_rfl) (by kernel_rfl) ?_
      refine d_rd 6 rfl (rd_load rfl rfl) rfl (by kernel_rfl) (by kernel_rfl) (by kernel_rfl) ?_
      refine d_eft 3 rfl (by kernel_rfl) (ef_fn (drop_m p n S k) rfl rfl (by repeat (first | exact Split.nil | (apply Split.cons; (repeat (first | with_reducible exact Take.here | apply Take.there)))))) ?_
      rintro v1 L1 ⟨rfl, rfl⟩
      refine ⟨_, ent_appC (Split.ent (by repeat (first | exact Split.nil | (apply Split.cons; (repeat (first | with_reducible exact Take.here | apply Take.there)))))), ?_⟩
      first | refine d_fint 7 rfl (by kernel_rfl) (by kernel_rfl) (ef_fn (rdrop w b n S k hn hSz) rfl rfl (by repeat (first | exact Split.nil | (apply Split.cons; (repeat (first | with_reducible exact Take.here | apply Take.there)))))) ?_ | refine d_finf 7 rfl (by kernel_rfl) (by kernel_rfl) (ef_fn (rdrop w b n S k hn hSz) rfl rfl (by repeat (first | exact Split.nil | (apply Split.cons; (repeat (first | with_reducible exact Take.here | apply Take.there)))))) ?_
      rintro v1 L1 ⟨rfl, rfl⟩
      refine swd_app ?_
      refine d_pu 8 rfl (pu_bool_eq rfl rfl) (by kernel_rfl) (by kernel_rfl) (by kernel_rfl) ?_
      refine d_pu 9 rfl (pu_assign rfl) (by kernel_rfl) (by kernel_rfl) (by kernel_rfl) ?_
      refine d_sub _ (.cons (t := 10) rfl .nil) ?_
      first | refine d_nilt (by kernel_rfl) ?_ | refine d_nilf (by kernel_rfl) ?_
      refine then_n ?_
      refine swp_ret ?_
      refine block_r ?_
      refine then_r ?_
      exact done_ret [mset p n (fun j => S j && !(decide (0 ≤ k) && decide (j = k.toNat))), mset q m T, blk w 39 [.slice (some ⟨b, 0, none⟩) n n], blk b 4 (rbs n (fun j => S j && !(decide (0 ≤ k) && decide (j = k.toNat)))), blk x 39 [.slice (some ⟨c, 0, none⟩) m m], blk c 4 (rbs m T), ro μ] (.tmp rfl .nil) ⟨by rw [beq_self_eq_true]; rfl, _, fun j hj => by rw [hSz j hj, Bool.false_and], rfl⟩ (by repeat (first | exact Split.nil | (apply Split.cons; (repeat (first | with_reducible exact Take.here | apply Take.there)))))
    · skip   -- 25 F
      refine swp_seq ?_
      refine swp_region ?_
      refine s_pu (pu_eql rfl rfl) ?_
      refine s_pu (pu_assign rfl) ?_
      refine swl_sub _ (.cons (t := 0) rfl (.cons (t := 1) rfl (.cons (t := 2) rfl (.cons (t := 3) rfl (.cons (t := 9) rfl (.cons (t := 13) rfl (.cons (t := 36) rfl .nil))))))) ?_
      refine swl_nil ?_
      refine then_n ?_
      refine swp_cond (b := _) rfl (fun h36 => ?_) (fun h36 => ?_)
      · skip   -- 36 T
        refine swp_seq ?_
        refine swp_draw [2, 6] _ [] (by simp only [List.append_nil]; exact Ent.refl _) (by kernel_rfl) ?_
        refine d_pu 0 rfl (pu_move rfl) (by kernel_rfl) (by kernel_rfl) (by kernel_rfl) ?_
        first | refine d_pu 1 rfl (pu_fieldAddr0 rfl) (by kernel_rfl) (by kernel_rfl) (by kernel_rfl) ?_ | refine d_pu 1 rfl (pu_fieldAddr rfl) (by kernel_rfl) (by kernel_rfl) (by kernel_rfl) ?_
        refine d_rd 2 rfl (rd_load rfl rfl) rfl (by kernel_rfl) (by kernel_rfl) (by kernel_rfl) ?_
        refine d_pu 4 rfl (pu_move rfl) (by kernel_rfl) (by kernel_rfl) (by kernel_rfl) ?_
        first | refine d_pu 5 rfl (pu_fieldAddr0 rfl) (by kernel_rfl) (by kernel_rfl) (by kernel_rfl) ?_ | refine d_pu 5 rfl (pu_fieldAddr rfl) (by kernel_rfl) (by kernel_rfl) (by kernel_rfl) ?_
        refine d_rd 6 rfl (rd_load rfl rfl) rfl (by kernel_rfl) (by kernel_rfl) (by kernel_rfl) ?_
        refine d_eft 3 rfl (by kernel_rfl) (ef_fn (has_m p n S k) rfl rfl (by repeat (first | exact Split.nil | (apply Split.cons; (repeat (first | with_reducible exact Take.here | apply Take.there)))))) ?_
        rintro v1 L1 ⟨rfl, rfl⟩
        refine ⟨_, ent_appC (Split.ent (by repeat (first | exact Split.nil | (apply Split.cons; (repeat (first | with_reducible exact Take.here | apply Take.there)))))), ?_⟩
        first | refine d_fint 7 rfl (by kernel_rfl) (by kernel_rfl) (ef_fn (rhas w b n S k hn) rfl rfl (by repeat (first | exact Split.nil | (apply Split.cons; (repeat (first | with_reducible exact Take.here | apply Take.there)))))) ?_ | refine d_finf 7 rfl (by kernel_rfl) (by kernel_rfl) (ef_fn (rhas w b n S k hn) rfl rfl (by repeat (first | exact Split.nil | (apply Split.cons; (repeat (first | with_reducible exact Take.here | apply Take.there)))))) ?_
        rintro v1 L1 ⟨rfl, rfl⟩
        refine swd_app ?_
        refine d_pu 8 rfl (pu_bool_eq rfl rfl) (by kernel_rfl) (by kernel_rfl) (by kernel_rfl) ?_
        refine d_pu 9 rfl (pu_assign rfl) (by kernel_rfl) (by kernel_rfl) (by kernel_rfl) ?_
        refine d_sub _ (.cons (t := 10) rfl .nil) ?_
        first | refine d_nilt (by kernel_rfl) ?_ | refine d_nilf (by kernel_rfl) ?_
        refine then_n ?_
        refine swp_ret ?_
        refine block_r ?_
        refine then_r ?_
        have hkk : (decide (0 ≤ k) && (decide (k < n) && S k.toNat)) = (decide (0 ≤ k) && S k.toNat) := by
          by_cases h : k < n
          · simp [h]
          · rw [hSz k.toNat (by omega)]; simp
        exact done_ret [mset p n S, mset q m T, blk w 39 [.slice (some ⟨b, 0, none⟩) n n], blk b 4 (rbs n S), blk x 39 [.slice (some ⟨c, 0, none⟩) m m], blk c 4 (rbs m T), ro μ] (.tmp rfl .nil) ⟨by rw [hkk, beq_self_eq_true]; rfl, _, hSz, rfl⟩ (by repeat (first | exact Split.nil | (apply Split.cons; (repeat (first | with_reducible exact Take.here | apply Take.there)))))
      · skip   -- 36 F
        refine swp_seq ?_
        refine swp_region ?_
        refine s_pu (pu_eql rfl rfl) ?_
        refine s_pu (pu_assign rfl) ?_
        refine swl_sub _ (.cons (t := 0) rfl (.cons (t := 1) rfl (.cons (t := 2) rfl (.cons (t := 3) rfl (.cons (t := 9) rfl (.cons (t := 13) rfl (.cons (t := 47) rfl .nil))))))) ?_
        refine swl_nil ?_
        refine then_n ?_
        refine swp_cond (b := _) rfl (fun h47 => ?_) (fun h47 => ?_)
        · skip   -- 47 T
          refine swp_seq ?_
          refine swp_draw [2, 6] _ [] (by simp only [List.append_nil]; exact Ent.refl _) (by kernel_rfl) ?_
          refine d_pu 0 rfl (pu_move rfl) (by kernel_rfl) (by kernel_rfl) (by kernel_rfl) ?_
          first | refine d_pu 1 rfl (pu_fieldAddr0 rfl) (by kernel_rfl) (by kernel_rfl) (by kernel_rfl) ?_ | refine d_pu 1 rfl (pu_fieldAddr rfl) (by kernel_rfl) (by kernel_rfl) (by kernel_rfl) ?_
          refine d_rd 2 rfl (rd_load rfl rfl) rfl (by kernel_rfl) (by kernel_rfl) (by kernel_rfl) ?_
          refine d_pu 4 rfl (pu_move rfl) (by kernel_rfl) (by kernel_rfl) (by kernel_rfl) ?_
          first | refine d_pu 5 rfl (pu_fieldAddr0 rfl) (by kernel_rfl) (by kernel_rfl) (by kernel_rfl) ?_ | refine d_pu 5 rfl (pu_fieldAddr rfl) (by kernel_rfl) (by kernel_rfl) (by kernel_rfl) ?_
          refine d_rd 6 rfl (rd_load rfl rfl) rfl (by kernel_rfl) (by kernel_rfl) (by kernel_rfl) ?_
          refine d_eft 3 rfl (by kernel_rfl) (ef_fn (next_m μ p n S k hT) rfl rfl (by repeat (first | exact Split.nil | (apply Split.cons; (repeat (first | with_reducible exact Take.here | apply Take.there)))))) ?_
          rintro v1 L1 ⟨y, rfl, hy, rfl⟩
          refine ⟨_, ent_appC (Split.ent (by repeat (first | exact Split.nil | (apply Split.cons; (repeat (first | with_reducible exact Take.here | apply Take.there)))))), ?_⟩
          first | refine d_fint 7 rfl (by kernel_rfl) (by kernel_rfl) (ef_fn (rnext w b n S k hn hSz) rfl rfl (by repeat (first | exact Split.nil | (apply Split.cons; (repeat (first | with_reducible exact Take.here | apply Take.there)))))) ?_ | refine d_finf 7 rfl (by kernel_rfl) (by kernel_rfl) (ef_fn (rnext w b n S k hn hSz) rfl rfl (by repeat (first | exact Split.nil | (apply Split.cons; (repeat (first | with_reducible exact Take.here | apply Take.there)))))) ?_
          rintro v1 L1 ⟨z, rfl, hz, rfl⟩
          refine swd_app ?_
          refine d_pu 8 rfl (pu_eql rfl rfl) (by kernel_rfl) (by kernel_rfl) (by kernel_rfl) ?_
          refine d_pu 9 rfl (pu_assign rfl) (by kernel_rfl) (by kernel_rfl) (by kernel_rfl) ?_
          refine d_sub _ (.cons (t := 10) rfl .nil) ?_
          first | refine d_nilt (by kernel_rfl) ?_ | refine d_nilf (by kernel_rfl) ?_
          refine then_n ?_
          refine swp_ret ?_
          refine block_r ?_
          refine then_r ?_
          obtain rfl : y = z := isNext_uniq hy hz
          exact done_ret [mset p n S, mset q m T, blk w 39 [.slice (some ⟨b, 0, none⟩) n n], blk b 4 (rbs n S), blk x 39 [.slice (some ⟨c, 0, none⟩) m m], blk c 4 (rbs m T), ro μ] (.tmp rfl .nil) ⟨by rw [decide_eq_true rfl]; rfl, _, hSz, rfl⟩ (by repeat (first | exact Split.nil | (apply Split.cons; (repeat (first | with_reducible exact Take.here | apply Take.there)))))
        · skip   -- 47 F
          refine swp_seq ?_
          refine swp_region ?_
          refine s_pu (pu_eql rfl rfl) ?_
          refine s_pu (pu_assign rfl) ?_
          refine swl_sub _ (.cons (t := 0) rfl (.cons (t := 1) rfl (.cons (t := 2) rfl (.cons (t := 3) rfl (.cons (t := 9) rfl (.cons (t := 58) rfl .nil)))))) ?_
          refine swl_nil ?_
          refine then_n ?_
          refine swp_cond (b := _) rfl (fun h58 => ?_) (fun h58 => ?_)
          · skip   -- 58 T
            refine swp_seq ?_
            refine swp_draw [2, 6] _ [] (by simp only [List.append_nil]; exact Ent.refl _) (by kernel_rfl) ?_
            refine d_pu 0 rfl (pu_move rfl) (by kernel_rfl) (by kernel_rfl) (by kernel_rfl) ?_
            first | refine d_pu 1 rfl (pu_fieldAddr0 rfl) (by kernel_rfl) (by kernel_rfl) (by kernel_rfl) ?_ | refine d_pu 1 rfl (pu_fieldAddr rfl) (by kernel_rfl) (by kernel_rfl) (by kernel_rfl) ?_
            refine d_rd 2 rfl (rd_load rfl rfl) rfl (by kernel_rfl) (by kernel_rfl) (by kernel_rfl) ?_
            refine d_pu 4 rfl (pu_move rfl) (by kernel_rfl) (by kernel_rfl) (by kernel_rfl) ?_
            first | refine d_pu 5 rfl (pu_fieldAddr0 rfl) (by kernel_rfl) (by kernel_rfl) (by kernel_rfl) ?_ | refine d_pu 5 rfl (pu_fieldAddr rfl) (by kernel_rfl) (by kernel_rfl) (by kernel_rfl) ?_
            refine d_rd 6 rfl (rd_load rfl rfl) rfl (by kernel_rfl) (by kernel_rfl) (by kernel_rfl) ?_
            refine d_eft 3 rfl (by kernel_rfl) (ef_fn (last_m p n S k) rfl rfl (by repeat (first | exact Split.nil | (apply Split.cons; (repeat (first | with_reducible exact Take.here | apply Take.there)))))) ?_
            rintro v1 L1 ⟨y, rfl, hy, rfl⟩
            refine ⟨_, ent_appC (Split.ent (by repeat (first | exact Split.nil | (apply Split.cons; (repeat (first | with_reducible exact Take.here | apply Take.there)))))), ?_⟩
            first | refine d_fint 7 rfl (by kernel_rfl) (by kernel_rfl) (ef_fn (rlast w b n S k hn hSz) rfl rfl (by repeat (first | exact Split.nil | (apply Split.cons; (repeat (first | with_reducible exact Take.here | apply Take.there)))))) ?_ | refine d_finf 7 rfl (by kernel_rfl) (by kernel_rfl) (ef_fn (rlast w b n S k hn hSz) rfl rfl (by repeat (first | exact Split.nil | (apply Split.cons; (repeat (first | with_reducible exact Take.here | apply Take.there)))))) ?_
            rintro v1 L1 ⟨z, rfl, hz, rfl⟩
            refine swd_app ?_
            refine d_pu 8 rfl (pu_eql rfl rfl) (by kernel_rfl) (by kernel_rfl) (by kernel_rfl) ?_
            refine d_pu 9 rfl (pu_assign rfl) (by kernel_rfl) (by kernel_rfl) (by kernel_rfl) ?_
            refine d_sub _ (.cons (t := 10) rfl .nil) ?_
            first | refine d_nilt (by kernel_rfl) ?_ | refine d_nilf (by kernel_rfl) ?_
            refine then_n ?_
            refine swp_ret ?_
            refine block_r ?_
            refine then_r ?_
            obtain rfl : y = z := isLast_uniq hy hz
            exact done_ret [mset p n S, mset q m T, blk w 39 [.slice (some ⟨b, 0, none⟩) n n], blk b 4 (rbs n S), blk x 39 [.slice (some ⟨c, 0, none⟩) m m], blk c 4 (rbs m T), ro μ] (.tmp rfl .nil) ⟨by rw [decide_eq_true rfl]; rfl, _, hSz, rfl⟩ (by repeat (first | exact Split.nil | (apply Split.cons; (repeat (first | with_reducible exact Take.here | apply Take.there)))))
          · skip   -- 58 F
            refine swp_skip ?_
            refine block_n ?_
            refine then_n ?_
            refine swp_seq ?_
            refine swp_seq ?_
            refine swp_region ?_
            first | refine s_pu (pu_fieldAddr0 rfl) ?_ | refine s_pu (pu_fieldAddr rfl) ?_
            refine s_rd (rd_load rfl rfl) ?_
            first | refine s_pu (pu_conv_u64 rfl (by omega) (by omega)) ?_ | refine s_pu (pu_conv rfl) ?_
            refine s_pu (pu_rem rfl rfl (by omega)) ?_
            refine swl_sub _ (.cons (t := 0) rfl (.cons (t := 1) rfl (.cons (t := 2) rfl (.cons (t := 3) rfl (.cons (t := 9) rfl (.cons (t := 72) rfl .nil)))))) ?_
            refine swl_nil ?_
            refine then_n ?_
            refine swp_block ?_
            refine swp_seq ?_
            refine swp_region ?_
            refine s_pu (pu_eql rfl rfl) ?_
            refine s_pu (pu_assign rfl) ?_
            refine swl_sub _ (.cons (t := 0) rfl (.cons (t := 1) rfl (.cons (t := 2) rfl (.cons (t := 3) rfl (.cons (t := 9) rfl (.cons (t := 72) rfl (.cons (t := 76) rfl .nil))))))) ?_
            refine swl_nil ?_
            refine then_n ?_
            refine swp_cond (b := _) rfl (fun h76 => ?_) (fun h76 => ?_)
            · skip   -- 76 T
              refine swp_region ?_
              refine s_pu (pu_move rfl) ?_
              refine s_pu (pu_move rfl) ?_
              refine s_ef (ef_fn (spec_same (or_m p n q m S T) (U := U) (fun _ j => by rw [← hU, hr0 (of_decide_eq_true h76)])) rfl rfl (by repeat (first | exact Split.nil | (apply Split.cons; (repeat (first | with_reducible exact Take.here | apply Take.there)))))) ?_
              rintro v1 L1 ⟨rfl, rfl⟩
              refine swl_app ?_
              refine swl_sub _ (.cons (t := 1) rfl (.cons (t := 2) rfl (.cons (t := 3) rfl (.cons (t := 9) rfl .nil)))) ?_
              refine swl_nil ?_
              refine block_n ?_
              refine then_n ?_
              refine swp_seq ?_
              refine swp_region ?_
              refine s_pu (pu_move rfl) ?_
              refine s_pu (pu_move rfl) ?_
              first | refine s_pu (pu_fieldAddr0 rfl) ?_ | refine s_pu (pu_fieldAddr rfl) ?_
              refine s_rd (rd_load rfl rfl) ?_
              refine s_ef (ef_fn (mixed_spec w b n x c m S T k hn hm hTz) rfl rfl (by repeat (first | exact Split.nil | (apply Split.cons; (repeat (first | with_reducible exact Take.here | apply Take.there)))))) ?_
              rintro v1 L1 ⟨rfl, rfl⟩
              refine swl_app ?_
              refine swl_sub _ (.cons (t := 1) rfl (.cons (t := 3) rfl .nil)) ?_
              rw [hUr]
              refine swl_nil ?_
              refine then_n ?_
              refine swp_seq ?_
              refine swp_region ?_
              refine s_pu (pu_move rfl) ?_
              refine s_ef (ef_fn (list_m μ q m T hT) rfl rfl (by repeat (first | exact Split.nil | (apply Split.cons; (repeat (first | with_reducible exact Take.here | apply Take.there)))))) ?_
              rintro v3 L1 rfl
              refine swl_app ?_
              refine s_pu (pu_move rfl) ?_
              refine s_ef (ef_fn (rlist x c m T hm) rfl rfl (by repeat (first | exact Split.nil | (apply Split.cons; (repeat (first | with_reducible exact Take.here | apply Take.there)))))) ?_
              rintro v4 L1 rfl
              refine swl_app ?_
              refine s_ef (ef_fn (samelist v3 v4 (elsTo m T) (elsTo m T) (by omega) (by omega)) rfl rfl (by repeat (first | exact Split.nil | (apply Split.cons; (repeat (first | with_reducible exact Take.here | apply Take.there)))))) ?_
              rintro v5 L1 ⟨rfl, rfl⟩
              refine swl_app ?_
              refine s_pu (pu_assign rfl) ?_
              refine swl_sub _ (.cons (t := 10) rfl .nil) ?_
              refine swl_nil ?_
              refine then_n ?_
              refine swp_ret ?_
              exact done_ret [mset p n U, mset q m T, blk w 39 [.slice (some ⟨b, 0, none⟩) n n], blk b 4 (rbs n U), blk x 39 [.slice (some ⟨c, 0, none⟩) m m], blk c 4 (rbs m T), ro μ] (.tmp rfl .nil) ⟨by rw [decide_eq_true rfl]; rfl, U, hUz, rfl⟩ (by repeat (first | exact Split.nil | (apply Split.cons; (repeat (first | with_reducible exact Take.here | apply Take.there)))))
            · skip   -- 76 F
              refine swp_seq ?_
              refine swp_region ?_
              refine s_pu (pu_eql rfl rfl) ?_
              refine s_pu (pu_assign rfl) ?_
              refine swl_sub _ (.cons (t := 0) rfl (.cons (t := 1) rfl (.cons (t := 2) rfl (.cons (t := 3) rfl (.cons (t := 9) rfl (.cons (t := 81) rfl .nil)))))) ?_
              refine swl_nil ?_
              refine then_n ?_
              refine swp_cond (b := _) rfl (fun h81 => ?_) (fun h81 => ?_)
              · skip   -- 81 T
                refine swp_region ?_
                refine s_pu (pu_move rfl) ?_
                refine s_pu (pu_move rfl) ?_
                refine s_ef (ef_fn (spec_same (and_m p n q m S T) (U := U) (fun _ j => by rw [← hU, hr1 (of_decide_eq_false h76) (of_decide_eq_true h81)])) rfl rfl (by repeat (first | exact Split.nil | (apply Split.cons; (repeat (first | with_reducible exact Take.here | apply Take.there)))))) ?_
                rintro v1 L1 ⟨rfl, rfl⟩
                refine swl_app ?_
                refine swl_sub _ (.cons (t := 1) rfl (.cons (t := 2) rfl (.cons (t := 3) rfl (.cons (t := 9) rfl .nil)))) ?_
                refine swl_nil ?_
                refine block_n ?_
                refine then_n ?_
                refine swp_seq ?_
                refine swp_region ?_
                refine s_pu (pu_move rfl) ?_
                refine s_pu (pu_move rfl) ?_
                first | refine s_pu (pu_fieldAddr0 rfl) ?_ | refine s_pu (pu_fieldAddr rfl) ?_
                refine s_rd (rd_load rfl rfl) ?_
                refine s_ef (ef_fn (mixed_spec w b n x c m S T k hn hm hTz) rfl rfl (by repeat (first | exact Split.nil | (apply Split.cons; (repeat (first | with_reducible exact Take.here | apply Take.there)))))) ?_
                rintro v1 L1 ⟨rfl, rfl⟩
                refine swl_app ?_
                refine swl_sub _ (.cons (t := 1) rfl (.cons (t := 3) rfl .nil)) ?_
                rw [hUr]
                refine swl_nil ?_
                refine then_n ?_
                refine swp_seq ?_
                refine swp_region ?_
                refine s_pu (pu_move rfl) ?_
                refine s_ef (ef_fn (list_m μ q m T hT) rfl rfl (by repeat (first | exact Split.nil | (apply Split.cons; (repeat (first | with_reducible exact Take.here | apply Take.there)))))) ?_
                rintro v3 L1 rfl
                refine swl_app ?_
                refine s_pu (pu_move rfl) ?_
                refine s_ef (ef_fn (rlist x c m T hm) rfl rfl (by repeat (first | exact Split.nil | (apply Split.cons; (repeat (first | with_reducible exact Take.here | apply Take.there)))))) ?_
                rintro v4 L1 rfl
                refine swl_app ?_
                refine s_ef (ef_fn (samelist v3 v4 (elsTo m T) (elsTo m T) (by omega) (by omega)) rfl rfl (by repeat (first | exact Split.nil | (apply Split.cons; (repeat (first | with_reducible exact Take.here | apply Take.there)))))) ?_
                rintro v5 L1 ⟨rfl, rfl⟩
                refine swl_app ?_
                refine s_pu (pu_assign rfl) ?_
                refine swl_sub _ (.cons (t := 10) rfl .nil) ?_
                refine swl_nil ?_
                refine then_n ?_
                refine swp_ret ?_
                exact done_ret [mset p n U, mset q m T, blk w 39 [.slice (some ⟨b, 0, none⟩) n n], blk b 4 (rbs n U), blk x 39 [.slice (some ⟨c, 0, none⟩) m m], blk c 4 (rbs m T), ro μ] (.tmp rfl .nil) ⟨by rw [decide_eq_true rfl]; rfl, U, hUz, rfl⟩ (by repeat (first | exact Split.nil | (apply Split.cons; (repeat (first | with_reducible exact Take.here | apply Take.there)))))
              · skip   -- 81 F
                refine swp_region ?_
                refine s_pu (pu_move rfl) ?_
                refine s_pu (pu_move rfl) ?_
                refine s_ef (ef_fn (spec_same (less_m p n q m S T) (U := U) (fun _ j => by rw [← hU, hr2 (of_decide_eq_false h76) (of_decide_eq_false h81)])) rfl rfl (by repeat (first | exact Split.nil | (apply Split.cons; (repeat (first | with_reducible exact Take.here | apply Take.there)))))) ?_
                rintro v1 L1 ⟨rfl, rfl⟩
                refine swl_app ?_
                refine swl_sub _ (.cons (t := 1) rfl (.cons (t := 2) rfl (.cons (t := 3) rfl (.cons (t := 9) rfl .nil)))) ?_
                refine swl_nil ?_
                refine block_n ?_
                refine then_n ?_
                refine swp_seq ?_
                refine swp_region ?_
                refine s_pu (pu_move rfl) ?_
                refine s_pu (pu_move rfl) ?_
                first | refine s_pu (pu_fieldAddr0 rfl) ?_ | refine s_pu (pu_fieldAddr rfl) ?_
                refine s_rd (rd_load rfl rfl) ?_
                refine s_ef (ef_fn (mixed_spec w b n x c m S T k hn hm hTz) rfl rfl (by repeat (first | exact Split.nil | (apply Split.cons; (repeat (first | with_reducible exact Take.here | apply Take.there)))))) ?_
                rintro v1 L1 ⟨rfl, rfl⟩
                refine swl_app ?_
                refine swl_sub _ (.cons (t := 1) rfl (.cons (t := 3) rfl .nil)) ?_
                rw [hUr]
                refine swl_nil ?_
                refine then_n ?_
                refine swp_seq ?_
                refine swp_region ?_
                refine s_pu (pu_move rfl) ?_
                refine s_ef (ef_fn (list_m μ q m T hT) rfl rfl (by repeat (first | exact Split.nil | (apply Split.cons; (repeat (first | with_reducible exact Take.here | apply Take.there)))))) ?_
                rintro v3 L1 rfl
                refine swl_app ?_
                refine s_pu (pu_move rfl) ?_
                refine s_ef (ef_fn (rlist x c m T hm) rfl rfl (by repeat (first | exact Split.nil | (apply Split.cons; (repeat (first | with_reducible exact Take.here | apply Take.there)))))) ?_
                rintro v4 L1 rfl
                refine swl_app ?_
                refine s_ef (ef_fn (samelist v3 v4 (elsTo m T) (elsTo m T) (by omega) (by omega)) rfl rfl (by repeat (first | exact Split.nil | (apply Split.cons; (repeat (first | with_reducible exact Take.here | apply Take.there)))))) ?_
                rintro v5 L1 ⟨rfl, rfl⟩
                refine swl_app ?_
                refine s_pu (pu_assign rfl) ?_
                refine swl_sub _ (.cons (t := 10) rfl .nil) ?_
                refine swl_nil ?_
                refine then_n ?_
                refine swp_ret ?_
                exact done_ret [mset p n U, mset q m T, blk w 39 [.slice (some ⟨b, 0, none⟩) n n], blk b 4 (rbs n U), blk x 39 [.slice (some ⟨c, 0, none⟩) m m], blk c 4 (rbs m T), ro μ] (.tmp rfl .nil) ⟨by rw [decide_eq_true rfl]; rfl, U, hUz, rfl⟩ (by repeat (first | exact Split.nil | (apply Split.cons; (repeat (first | with_reducible exact Take.here | apply Take.there)))))
end SX
