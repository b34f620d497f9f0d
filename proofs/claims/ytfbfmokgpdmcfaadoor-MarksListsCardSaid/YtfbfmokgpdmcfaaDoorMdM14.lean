/- A part of the proof: walks of the seat's functions, by the rules of the texts that it imports. -/
import Derived.Test.YtfbfmokgpdmcfaaDoorMdM11
namespace SX
open Go Go.Proofs

theorem rbs_ext {n : Nat} {S T : Nat → Bool} (h : ∀ j, j < n → S j = T j) : rbs n S = rbs n T := by
  unfold rbs
  apply List.map_congr_left
  intro k hk
  rw [h k (List.mem_range.1 hk)]
theorem rbs_set {n i : Nat} {S T : Nat → Bool} {c : Bool} (h : ∀ j, j < n → T j = if j = i then c else S j) : (rbs n S).set i (.bool c) = rbs n T := by
  apply List.ext_getElem?
  intro j
  rw [List.getElem?_set, rbs_len]
  rcases Nat.lt_or_ge j n with hj | hj
  · rw [rbs_get T hj, rbs_get S hj, h j hj]
    by_cases e : i = j
    · subst e; simp [hj]
    · simp [e, Ne.symm e]
  · rw [List.getElem?_eq_none (l := rbs n S) (by rw [rbs_len]; exact hj), List.getElem?_eq_none (l := rbs n T) (by rw [rbs_len]; exact hj)]
    split
    · rw [if_neg (by omega)]
    · rfl

theorem rop_ext {p b n : Nat} {S T : Nat → Bool} (h : ∀ j, j < n → S j = T j) : rop p b n S = rop p b n T := by
  show [_, blk b 4 (rbs n S)] = [_, blk b 4 (rbs n T)]
  rw [rbs_ext h]
theorem rhas (p b n : Nat) (S : Nat → Bool) (k : Int) (hn : n ≤ 1048576) : Spec Tryd.prog 50 [.pointer (some ⟨p, 0, none⟩), .int .i64 k] (rop p b n S) (fun r L => r = .bool (decide (0 ≤ k) && (decide (k < n) && S k.toNat)) ∧ L = rop p b n S) := by
  refine Spec.of 25 Tryd.func50 rfl rfl rfl ?_
  refine swp_seq ?_
  refine swp_region ?_
  refine s_pu (pu_assign rfl) ?_
  refine swl_sub _ (.cons (t := 0) rfl (.cons (t := 1) rfl .nil)) ?_
  refine swl_nil ?_
  refine then_n ?_
  refine swp_seq ?_
  refine swp_region ?_
  refine s_pu (pu_move rfl) ?_
  refine s_pu (pu_geq rfl rfl) ?_
  refine s_pu (pu_move rfl) ?_
  refine s_split 7 rfl (fun h7 => ?_) (fun h7 => ?_)
  · skip   -- 7 T
    refine s_on rfl rfl ?_
    refine s_pu (pu_move rfl) ?_
    refine s_on rfl rfl ?_
    refine s_pu (pu_move rfl) ?_
    refine s_on rfl rfl ?_
    first | refine s_pu (pu_nilCheck rfl) ?_ | refine s_pu (pu_nilCheck_fn rfl) ?_ | refine s_pu (pu_nilCheck_if rfl) ?_
    refine s_on rfl rfl ?_
    first | refine s_pu (pu_fieldAddr0 rfl) ?_ | refine s_pu (pu_fieldAddr rfl) ?_
    refine s_on rfl rfl ?_
    refine s_rd (rd_load rfl rfl) ?_
    refine s_on rfl rfl ?_
    refine s_pu (pu_len rfl) ?_
    refine s_on rfl rfl ?_
    refine s_pu (pu_lss rfl rfl) ?_
    first | refine s_pu (pu_pick_t rfl rfl) ?_ | refine s_pu (pu_pick_f rfl rfl) ?_
    refine s_pu (pu_move rfl) ?_
    refine s_split 16 rfl (fun h16 => ?_) (fun h16 => ?_)
    · skip   -- 16 T
      have h7' := of_decide_eq_true h7
      have h16' := of_decide_eq_true h16
      obtain ⟨i, rfl⟩ : ∃ i : Nat, k = i := ⟨k.toNat, by omega⟩
      refine s_on rfl rfl ?_
      refine s_pu (pu_move rfl) ?_
      refine s_on rfl rfl ?_
      first | refine s_pu (pu_nilCheck rfl) ?_ | refine s_pu (pu_nilCheck_fn rfl) ?_ | refine s_pu (pu_nilCheck_if rfl) ?_
      refine s_on rfl rfl ?_
      first | refine s_pu (pu_fieldAddr0 rfl) ?_ | refine s_pu (pu_fieldAddr rfl) ?_
      refine s_on rfl rfl ?_
      refine s_rd (rd_load rfl rfl) ?_
      refine s_on rfl rfl ?_
      refine s_pu (pu_move rfl) ?_
      refine s_on rfl rfl ?_
      refine s_pu (pu_indexAddr i rfl rfl (by omega) (by omega) (by omega)) ?_
      refine s_on rfl rfl ?_
      refine s_rd (rd_load rfl (rbs_get S (by omega))) ?_
      first | refine s_pu (pu_pick_t rfl rfl) ?_ | refine s_pu (pu_pick_f rfl rfl) ?_
      refine s_pu (pu_assign rfl) ?_
      refine swl_sub _ (.cons (t := 4) rfl .nil) ?_
      refine swl_nil ?_
      refine then_n ?_
      refine swp_ret ?_
      exact done_ret (rop p b n S) (.tmp rfl .nil) ⟨by first | (simp_all [resV]; done) | (simp_all [resV]; intros; omega), rfl⟩ (by repeat (first | exact Split.nil | (apply Split.cons; (repeat (first | with_reducible exact Take.here | apply Take.there)))))
    · skip   -- 16 F
      refine s_off rfl rfl rfl ?_
      refine s_off rfl rfl rfl ?_
      refine s_off rfl rfl rfl ?_
      refine s_off rfl rfl rfl ?_
      refine s_off rfl rfl rfl ?_
      refine s_off rfl rfl rfl ?_
      refine s_off rfl rfl rfl ?_
      first | refine s_pu (pu_pick_t rfl rfl) ?_ | refine s_pu (pu_pick_f rfl rfl) ?_
      refine s_pu (pu_assign rfl) ?_
      refine swl_sub _ (.cons (t := 4) rfl .nil) ?_
      refine swl_nil ?_
      refine then_n ?_
      refine swp_ret ?_
      exact done_ret (rop p b n S) (.tmp rfl .nil) ⟨by first | (simp_all [resV]; done) | (simp_all [resV]; intros; omega), rfl⟩ (by repeat (first | exact Split.nil | (apply Split.cons; (repeat (first | with_reducible exact Take.here | apply Take.there)))))
  · skip   -- 7 F
    refine s_off rfl rfl rfl ?_
    refine s_off rfl rfl rfl ?_
    refine s_off rfl rfl rfl ?_
    refine s_off rfl rfl rfl ?_
    refine s_off rfl rfl rfl ?_
    refine s_off rfl rfl rfl ?_
    refine s_off rfl rfl rfl ?_
    first | refine s_pu (pu_pick_t rfl rfl) ?_ | refine s_pu (pu_pick_f rfl rfl) ?_
    refine s_pu (pu_move rfl) ?_
    refine s_off rfl rfl rfl ?_
    refine s_off rfl rfl rfl ?_
    refine s_off rfl rfl rfl ?_
    refine s_off rfl rfl rfl ?_
    refine s_off rfl rfl rfl ?_
    refine s_off rfl rfl rfl ?_
    refine s_off rfl rfl rfl ?_
    first | refine s_pu (pu_pick_t rfl rfl) ?_ | refine s_pu (pu_pick_f rfl rfl) ?_
    refine s_pu (pu_assign rfl) ?_
    refine swl_sub _ (.cons (t := 4) rfl .nil) ?_
    refine swl_nil ?_
    refine then_n ?_
    refine swp_ret ?_
    exact done_ret (rop p b n S) (.tmp rfl .nil) ⟨by first | (simp_all [resV]; done) | (simp_all [resV]; intros; omega), rfl⟩ (by repeat (first | exact Split.nil | (apply Split.cons; (repeat (first | with_reducible exact Take.here | apply Take.there)))))
theorem rput (p b n : Nat) (S : Nat → Bool) (k : Int) (hn : n ≤ 1048576) : Spec Tryd.prog 48 [.pointer (some ⟨p, 0, none⟩), .int .i64 k] (rop p b n S) (fun r L => r = .bool (decide (0 ≤ k) && (decide (k < n) && !S k.toNat)) ∧ L = rop p b n (fun j => S j || (decide (0 ≤ k ∧ k < n) && decide (j = k.toNat)))) := by
  refine Spec.of 31 Tryd.func48 rfl rfl rfl ?_
  refine swp_seq ?_
  refine swp_region ?_
  refine s_pu (pu_assign rfl) ?_
  refine swl_sub _ (.cons (t := 0) rfl (.cons (t := 1) rfl .nil)) ?_
  refine swl_nil ?_
  refine then_n ?_
  refine swp_seq ?_
  refine swp_seq ?_
  refine swp_region ?_
  refine s_pu (pu_move rfl) ?_
  refine s_pu (pu_lss rfl rfl) ?_
  refine s_pu (pu_move rfl) ?_
  refine s_split 7 rfl (fun h7 => ?_) (fun h7 => ?_)
  · skip   -- 7 T
    refine s_off rfl rfl rfl ?_
    refine s_off rfl rfl rfl ?_
    refine s_off rfl rfl rfl ?_
    refine s_off rfl rfl rfl ?_
    refine s_off rfl rfl rfl ?_
    refine s_off rfl rfl rfl ?_
    refine s_off rfl rfl rfl ?_
    first | refine s_pu (pu_pick_t rfl rfl) ?_ | refine s_pu (pu_pick_f rfl rfl) ?_
    refine s_pu (pu_move rfl) ?_
    refine s_off rfl rfl rfl ?_
    refine s_off rfl rfl rfl ?_
    refine s_off rfl rfl rfl ?_
    refine s_off rfl rfl rfl ?_
    refine s_off rfl rfl rfl ?_
    refine s_off rfl rfl rfl ?_
    refine s_off rfl rfl rfl ?_
    first | refine s_pu (pu_pick_t rfl rfl) ?_ | refine s_pu (pu_pick_f rfl rfl) ?_
    refine swl_sub _ (.cons (t := 0) rfl (.cons (t := 1) rfl (.cons (t := 24) rfl .nil))) ?_
    refine swl_nil ?_
    refine then_n ?_
    refine swp_cond (b := _) rfl (fun h24 => ?_) (fun h24 => by cases h24)
    refine swp_seq ?_
    refine swp_region ?_
    refine s_pu (pu_assign rfl) ?_
    refine swl_sub _ (.cons (t := 4) rfl .nil) ?_
    refine swl_nil ?_
    refine then_n ?_
    refine swp_ret ?_
    refine then_r ?_
    have h7' := of_decide_eq_true h7
    have e : rop p b n S = rop p b n (fun j => S j || (decide (0 ≤ k ∧ k < n) && decide (j = k.toNat))) := rop_ext fun j hj => by simp; omega
    rw [e]
    exact done_ret (rop p b n _) (.tmp rfl .nil) ⟨by rw [decide_eq_false (show ¬ 0 ≤ k by omega)]; rfl, rfl⟩ (by repeat (first | exact Split.nil | (apply Split.cons; (repeat (first | with_reducible exact Take.here | apply Take.there)))))
  · skip   -- 7 F
    refine s_on rfl rfl ?_
    refine s_pu (pu_move rfl) ?_
    refine s_on rfl rfl ?_
    refine s_pu (pu_move rfl) ?_
    refine s_on rfl rfl ?_
    first | refine s_pu (pu_nilCheck rfl) ?_ | refine s_pu (pu_nilCheck_fn rfl) ?_ | refine s_pu (pu_nilCheck_if rfl) ?_
    refine s_on rfl rfl ?_
    first | refine s_pu (pu_fieldAddr0 rfl) ?_ | refine s_pu (pu_fieldAddr rfl) ?_
    refine s_on rfl rfl ?_
    refine s_rd (rd_load rfl rfl) ?_
    refine s_on rfl rfl ?_
    refine s_pu (pu_len rfl) ?_
    refine s_on rfl rfl ?_
    refine s_pu (pu_geq rfl rfl) ?_
    first | refine s_pu (pu_pick_t rfl rfl) ?_ | refine s_pu (pu_pick_f rfl rfl) ?_
    refine s_pu (pu_move rfl) ?_
    refine s_split 16 rfl (fun h16 => ?_) (fun h16 => ?_)
    · skip   -- 16 T
      refine s_off rfl rfl rfl ?_
      refine s_off rfl rfl rfl ?_
      refine s_off rfl rfl rfl ?_
      refine s_off rfl rfl rfl ?_
      refine s_off rfl rfl rfl ?_
      refine s_off rfl rfl rfl ?_
      refine s_off rfl rfl rfl ?_
      first | refine s_pu (pu_pick_t rfl rfl) ?_ | refine s_pu (pu_pick_f rfl rfl) ?_
      refine swl_sub _ (.cons (t := 0) rfl (.cons (t := 1) rfl (.cons (t := 24) rfl .nil))) ?_
      refine swl_nil ?_
      refine then_n ?_
      refine swp_cond (b := _) rfl (fun h24 => ?_) (fun h24 => by cases h24)
      refine swp_seq ?_
      refine swp_region ?_
      refine s_pu (pu_assign rfl) ?_
      refine swl_sub _ (.cons (t := 4) rfl .nil) ?_
      refine swl_nil ?_
      refine then_n ?_
      refine swp_ret ?_
      refine then_r ?_
      have h16' := of_decide_eq_true h16
      have e : rop p b n S = rop p b n (fun j => S j || (decide (0 ≤ k ∧ k < n) && decide (j = k.toNat))) := rop_ext fun j hj => by simp; omega
      rw [e]
      exact done_ret (rop p b n _) (.tmp rfl .nil) ⟨by rw [decide_eq_false (show ¬ k < n by omega), Bool.false_and, Bool.and_false]; rfl, rfl⟩ (by repeat (first | exact Split.nil | (apply Split.cons; (repeat (first | with_reducible exact Take.here | apply Take.there)))))
    · skip   -- 16 F
      have h7' := of_decide_eq_false h7
      have h16' := of_decide_eq_false h16
      obtain ⟨i, rfl⟩ : ∃ i : Nat, k = i := ⟨k.toNat, by omega⟩
      refine s_on rfl rfl ?_
      refine s_pu (pu_move rfl) ?_
      refine s_on rfl rfl ?_
      first | refine s_pu (pu_nilCheck rfl) ?_ | refine s_pu (pu_nilCheck_fn rfl) ?_ | refine s_pu (pu_nilCheck_if rfl) ?_
      refine s_on rfl rfl ?_
      first | refine s_pu (pu_fieldAddr0 rfl) ?_ | refine s_pu (pu_fieldAddr rfl) ?_
      refine s_on rfl rfl ?_
      refine s_rd (rd_load rfl rfl) ?_
      refine s_on rfl rfl ?_
      refine s_pu (pu_move rfl) ?_
      refine s_on rfl rfl ?_
      refine s_pu (pu_indexAddr i rfl rfl (by omega) (by omega) (by omega)) ?_
      refine s_on rfl rfl ?_
      refine s_rd (rd_load rfl (rbs_get S (by omega))) ?_
      first | refine s_pu (pu_pick_t rfl rfl) ?_ | refine s_pu (pu_pick_f rfl rfl) ?_
      refine swl_sub _ (.cons (t := 0) rfl (.cons (t := 1) rfl (.cons (t := 24) rfl .nil))) ?_
      refine swl_nil ?_
      refine then_n ?_
      refine swp_cond (b := _) rfl (fun h24 => ?_) (fun h24 => ?_)
      · skip   -- 24 T
        refine swp_seq ?_
        refine swp_region ?_
        refine s_pu (pu_assign rfl) ?_
        refine swl_sub _ (.cons (t := 4) rfl .nil) ?_
        refine swl_nil ?_
        refine then_n ?_
        refine swp_ret ?_
        refine then_r ?_
        have e : rop p b n S = rop p b n (fun j => S j || (decide (0 ≤ (i : Int) ∧ (i : Int) < n) && decide (j = (i : Int).toNat))) := rop_ext fun j hj => by
          by_cases e : j = i
          · subst e; simp [h24]
          · simp [e]
        rw [e]
        exact done_ret (rop p b n _) (.tmp rfl .nil) ⟨by simp [resV, h24], rfl⟩ (by repeat (first | exact Split.nil | (apply Split.cons; (repeat (first | with_reducible exact Take.here | apply Take.there)))))
      · skip   -- 24 F
        refine swp_skip ?_
        refine then_n ?_
        refine swp_seq ?_
        refine swp_region ?_
        refine s_pu (pu_move rfl) ?_
        first | refine s_pu (pu_nilCheck rfl) ?_ | refine s_pu (pu_nilCheck_fn rfl) ?_ | refine s_pu (pu_nilCheck_if rfl) ?_
        first | refine s_pu (pu_fieldAddr0 rfl) ?_ | refine s_pu (pu_fieldAddr rfl) ?_
        refine s_rd (rd_load rfl rfl) ?_
        refine s_pu (pu_move rfl) ?_
        refine s_pu (pu_indexAddr i rfl rfl (by omega) (by omega) (by omega)) ?_
        refine s_ef0 (ef_storeP rfl rfl rfl (by rw [rbs_len]; omega)) ?_
        refine swl_sub _ .nil ?_
        rw [rbs_set (T := fun j => S j || (decide (0 ≤ (i : Int) ∧ (i : Int) < n) && decide (j = (i : Int).toNat))) (fun j hj => by
          by_cases e : j = i
          · subst e; simp; omega
          · simp [e])]
        refine swl_nil ?_
        refine then_n ?_
        refine swp_seq ?_
        refine swp_region ?_
        refine s_pu (pu_assign rfl) ?_
        refine swl_sub _ (.cons (t := 4) rfl .nil) ?_
        refine swl_nil ?_
        refine then_n ?_
        refine swp_ret ?_
        exact done_ret (rop p b n _) (.tmp rfl .nil) ⟨by rw [decide_eq_true (show (0 : Int) ≤ i by omega), decide_eq_true (show (i : Int) < n by omega), Int.toNat_natCast, h24]; rfl, rfl⟩ (by repeat (first | exact Split.nil | (apply Split.cons; (repeat (first | with_reducible exact Take.here | apply Take.there)))))
theorem rdrop (p b n : Nat) (S : Nat → Bool) (k : Int) (hn : n ≤ 1048576) (hz : ∀ j, n ≤ j → S j = false) : Spec Tryd.prog 49 [.pointer (some ⟨p, 0, none⟩), .int .i64 k] (rop p b n S) (fun r L => r = .bool (decide (0 ≤ k) && S k.toNat) ∧ L = rop p b n (fun j => S j && !(decide (0 ≤ k) && decide (j = k.toNat)))) := by
  have hkk : (decide (0 ≤ k) && (decide (k < n) && S k.toNat)) = (decide (0 ≤ k) && S k.toNat) := by
    by_cases h : k < n
    · simp [h]
    · rw [hz k.toNat (by omega)]; simp
  refine Spec.of 15 Tryd.func49 rfl rfl rfl ?_
  refine swp_seq ?_
  refine swp_region ?_
  refine s_pu (pu_assign rfl) ?_
  refine swl_sub _ (.cons (t := 0) rfl (.cons (t := 1) rfl .nil)) ?_
  refine swl_nil ?_
  refine then_n ?_
  refine swp_seq ?_
  refine swp_seq ?_
  refine swp_region ?_
  refine s_pu (pu_move rfl) ?_
  refine s_pu (pu_move rfl) ?_
  refine s_ef (ef_fn (rhas p b n S k hn) rfl rfl (by repeat (first | exact Split.nil | (apply Split.cons; (repeat (first | with_reducible exact Take.here | apply Take.there)))))) ?_
  rintro v1 L1 ⟨rfl, rfl⟩
  refine swl_app ?_
  refine s_pu (pu_not rfl) ?_
  refine swl_sub _ (.cons (t := 0) rfl (.cons (t := 1) rfl (.cons (t := 8) rfl .nil))) ?_
  refine swl_nil ?_
  refine then_n ?_
  refine swp_cond (b := _) rfl (fun h8 => ?_) (fun h8 => ?_)
  · skip   -- 8 T
    refine swp_seq ?_
    refine swp_region ?_
    refine s_pu (pu_assign rfl) ?_
    refine swl_sub _ (.cons (t := 4) rfl .nil) ?_
    refine swl_nil ?_
    refine then_n ?_
    refine swp_ret ?_
    refine then_r ?_
    rw [hkk] at h8
    have e : rbs n S = rbs n (fun j => S j && !(decide (0 ≤ k) && decide (j = k.toNat))) := rbs_ext fun j hj => by
      by_cases e : j = k.toNat
      · subst e
        by_cases h0 : 0 ≤ k
        · simp [h0] at h8; rw [h8]; rfl
        · simp [h0]
      · simp [e]
    rw [e]
    exact done_ret (rop p b n _) (.tmp rfl .nil) ⟨by simp only [Bool.not_eq_true'] at h8; rw [h8]; rfl, rfl⟩ (by repeat (first | exact Split.nil | (apply Split.cons; (repeat (first | with_reducible exact Take.here | apply Take.there)))))
  · skip   -- 8 F
    rw [hkk] at h8
    simp only [Bool.not_eq_false', Bool.and_eq_true, decide_eq_true_eq] at h8
    obtain ⟨i, rfl⟩ : ∃ i : Nat, k = i := ⟨k.toNat, by omega⟩
    rw [Int.toNat_natCast] at h8
    have hin : i < n := by
      rcases Nat.lt_or_ge i n with h | h
      · exact h
      · rw [hz i h] at h8; cases h8.2
    refine swp_skip ?_
    refine then_n ?_
    refine swp_seq ?_
    refine swp_region ?_
    refine s_pu (pu_move rfl) ?_
    first | refine s_pu (pu_nilCheck rfl) ?_ | refine s_pu (pu_nilCheck_fn rfl) ?_ | refine s_pu (pu_nilCheck_if rfl) ?_
    first | refine s_pu (pu_fieldAddr0 rfl) ?_ | refine s_pu (pu_fieldAddr rfl) ?_
    refine s_rd (rd_load rfl rfl) ?_
    refine s_pu (pu_move rfl) ?_
    refine s_pu (pu_indexAddr i rfl rfl (by omega) (by omega) (by omega)) ?_
    refine s_ef0 (ef_storeP rfl rfl rfl (by rw [rbs_len]; omega)) ?_
    refine swl_sub _ .nil ?_
    rw [rbs_set (T := fun j => S j && !(decide (0 ≤ (i : Int)) && decide (j = (i : Int).toNat))) (fun j hj => by
      by_cases e : j = i
      · subst e; simp
      · simp [e])]
    refine swl_nil ?_
    refine then_n ?_
    refine swp_seq ?_
    refine swp_region ?_
    refine s_pu (pu_assign rfl) ?_
    refine swl_sub _ (.cons (t := 4) rfl .nil) ?_
    refine swl_nil ?_
    refine then_n ?_
    refine swp_ret ?_
    exact done_ret (rop p b n _) (.tmp rfl .nil) ⟨by simp [resV, h8.2], rfl⟩ (by repeat (first | exact Split.nil | (apply Split.cons; (repeat (first | with_reducible exact Take.here | apply Take.there)))))
theorem rnext (p b n : Nat) (S : Nat → Bool) (k : Int) (hn : n ≤ 1048576) (hz : ∀ j, n ≤ j → S j = false) : Spec Tryd.prog 51 [.pointer (some ⟨p, 0, none⟩), .int .i64 k] (rop p b n S) (fun r L => ∃ x, r = .int .i64 x ∧ IsNext S k x ∧ L = rop p b n S) := by
  obtain ⟨K, hK⟩ : ∃ K : Int, K = k := ⟨_, rfl⟩
  obtain ⟨m0, hm0⟩ : ∃ m0 : Nat, (m0 : Int) = max K 0 := ⟨(max K 0).toNat, by omega⟩
  refine Spec.of 24 Tryd.func51 rfl rfl rfl ?_
  refine swp_seq ?_
  refine swp_region ?_
  refine s_pu (pu_assign rfl) ?_
  refine swl_sub _ (.cons (t := 0) rfl (.cons (t := 1) rfl .nil)) ?_
  refine swl_nil ?_
  refine then_n ?_
  refine swp_seq ?_
  refine swp_seq ?_
  refine swp_region ?_
  refine s_pu (pu_move rfl) ?_
  refine s_pu (pu_lss rfl rfl) ?_
  refine swl_sub _ (.cons (t := 0) rfl (.cons (t := 1) rfl (.cons (t := 6) rfl .nil))) ?_
  refine swl_nil ?_
  refine then_n ?_
  refine swp_cond (b := _) rfl (fun h6 => ?_) (fun h6 => ?_)
  · skip   -- 6 T
    have h6' := of_decide_eq_true h6
    obtain rfl : m0 = 0 := by omega
    refine swp_region ?_
    refine s_pu (pu_assign rfl) ?_
    refine swl_sub _ (.cons (t := 0) rfl (.cons (t := 1) rfl .nil)) ?_
    refine swl_nil ?_
    refine then_n ?_
    refine swp_seq ?_
    refine swp_block ?_
    refine swp_loop (ι := Nat) (fun m env L => env = [(0, .pointer (some ⟨p, 0, none⟩)), (1, .int .i64 (m : Nat))] ∧ L = rop p b n S ∧ K ≤ m ∧ ∀ j : Nat, K ≤ j → j < m → S j = false) (fun m => n - m) 0 ⟨rfl, rfl, by omega, fun j h1 h2 => by omega⟩ ?_
    rintro m env L ⟨rfl, rfl, hKm, hlo⟩
    refine swp_seq ?_
    refine swp_seq ?_
    refine swp_region ?_
    refine s_pu (pu_move rfl) ?_
    refine s_pu (pu_move rfl) ?_
    first | refine s_pu (pu_nilCheck rfl) ?_ | refine s_pu (pu_nilCheck_fn rfl) ?_ | refine s_pu (pu_nilCheck_if rfl) ?_
    first | refine s_pu (pu_fieldAddr0 rfl) ?_ | refine s_pu (pu_fieldAddr rfl) ?_
    refine s_rd (rd_load rfl rfl) ?_
    refine s_pu (pu_len rfl) ?_
    refine s_pu (pu_lss rfl rfl) ?_
    refine swl_sub _ (.cons (t := 0) rfl (.cons (t := 1) rfl (.cons (t := 13) rfl .nil))) ?_
    refine swl_nil ?_
    refine then_n ?_
    refine swp_cond (b := _) rfl (fun h13 => ?_) (fun h13 => ?_)
    · skip   -- 13 T
      have h13' : m < n := by have := of_decide_eq_true h13; omega
      refine swp_skip ?_
      refine then_n ?_
      refine swp_block ?_
      refine swp_seq ?_
      refine swp_seq ?_
      refine swp_region ?_
      refine s_pu (pu_move rfl) ?_
      first | refine s_pu (pu_nilCheck rfl) ?_ | refine s_pu (pu_nilCheck_fn rfl) ?_ | refine s_pu (pu_nilCheck_if rfl) ?_
      first | refine s_pu (pu_fieldAddr0 rfl) ?_ | refine s_pu (pu_fieldAddr rfl) ?_
      refine s_rd (rd_load rfl rfl) ?_
      refine s_pu (pu_move rfl) ?_
      refine s_pu (pu_indexAddr m rfl rfl (by omega) (by omega) (by omega)) ?_
      refine s_rd (rd_load rfl (rbs_get S (by omega))) ?_
      refine swl_sub _ (.cons (t := 0) rfl (.cons (t := 1) rfl (.cons (t := 20) rfl .nil))) ?_
      refine swl_nil ?_
      refine then_n ?_
      refine swp_cond (b := _) rfl (fun h20 => ?_) (fun h20 => ?_)
      · skip   -- 20 T
        refine swp_seq ?_
        refine swp_region ?_
        refine s_pu (pu_move rfl) ?_
        refine s_pu (pu_assign rfl) ?_
        refine swl_sub _ (.cons (t := 4) rfl .nil) ?_
        refine swl_nil ?_
        refine then_n ?_
        refine swp_ret ?_
        refine then_r ?_
        refine block_r ?_
        refine then_r ?_
        refine block_r ?_
        refine then_r ?_
        exact done_ret (rop p b n S) (.tmp rfl .nil) ⟨_, rfl, hK ▸ .inr ⟨m, rfl, hKm, h20, fun i h1 h2 => hlo i h1 h2⟩, rfl⟩ (by repeat (first | exact Split.nil | (apply Split.cons; (repeat (first | with_reducible exact Take.here | apply Take.there)))))
      · skip   -- 20 F
        refine swp_skip ?_
        refine then_n ?_
        refine swp_region ?_
        refine s_pu (pu_move rfl) ?_
        refine s_pu (pu_add_as ((m + 1 : Nat) : Int) rfl rfl (by omega) (by omega) (by omega)) ?_
        refine s_pu (pu_assign rfl) ?_
        refine swl_sub _ (.cons (t := 0) rfl (.cons (t := 1) rfl .nil)) ?_
        refine swl_nil ?_
        refine block_n ?_
        exact then_n ⟨m + 1, ⟨rfl, rfl, by omega, fun j h1 h2 => by
          rcases Nat.lt_or_ge j m with h | h
          · exact hlo j h1 h
          · obtain rfl : j = m := by omega
            exact h20⟩, by omega⟩
    · skip   -- 13 F
      have h13' : n ≤ m := by have := of_decide_eq_false h13; omega
      refine swp_exit ?_
      refine then_x ?_
      refine then_x ?_
      refine block_hit rfl ?_
      refine then_n ?_
      refine swp_seq ?_
      refine swp_region ?_
      refine s_pu (pu_assign rfl) ?_
      refine swl_sub _ (.cons (t := 4) rfl .nil) ?_
      refine swl_nil ?_
      refine then_n ?_
      refine swp_ret ?_
      exact done_ret (rop p b n S) (.tmp rfl .nil) ⟨_, rfl, hK ▸ .inl ⟨rfl, fun j h1 => by
        rcases Nat.lt_or_ge j m with h | h
        · exact hlo j h1 h
        · exact hz j (by omega)⟩, rfl⟩ (by repeat (first | exact Split.nil | (apply Split.cons; (repeat (first | with_reducible exact Take.here | apply Take.there)))))
  · skip   -- 6 F
    have h6' := of_decide_eq_false h6
    obtain rfl : k = (m0 : Int) := by omega
    refine swp_skip ?_
    refine then_n ?_
    refine swp_seq ?_
    refine swp_block ?_
    refine swp_sub _ (.cons (t := 0) rfl (.cons (t := 1) rfl .nil)) ?_
    refine swp_loop (ι := Nat) (fun m env L => env = [(0, .pointer (some ⟨p, 0, none⟩)), (1, .int .i64 (m : Nat))] ∧ L = rop p b n S ∧ K ≤ m ∧ ∀ j : Nat, K ≤ j → j < m → S j = false) (fun m => n - m) m0 ⟨rfl, rfl, by omega, fun j h1 h2 => by omega⟩ ?_
    rintro m env L ⟨rfl, rfl, hKm, hlo⟩
    refine swp_seq ?_
    refine swp_seq ?_
    refine swp_region ?_
    refine s_pu (pu_move rfl) ?_
    refine s_pu (pu_move rfl) ?_
    first | refine s_pu (pu_nilCheck rfl) ?_ | refine s_pu (pu_nilCheck_fn rfl) ?_ | refine s_pu (pu_nilCheck_if rfl) ?_
    first | refine s_pu (pu_fieldAddr0 rfl) ?_ | refine s_pu (pu_fieldAddr rfl) ?_
    refine s_rd (rd_load rfl rfl) ?_
    refine s_pu (pu_len rfl) ?_
    refine s_pu (pu_lss rfl rfl) ?_
    refine swl_sub _ (.cons (t := 0) rfl (.cons (t := 1) rfl (.cons (t := 13) rfl .nil))) ?_
    refine swl_nil ?_
    refine then_n ?_
    refine swp_cond (b := _) rfl (fun h13 => ?_) (fun h13 => ?_)
    · skip   -- 13 T
      have h13' : m < n := by have := of_decide_eq_true h13; omega
      refine swp_skip ?_
      refine then_n ?_
      refine swp_block ?_
      refine swp_seq ?_
      refine swp_seq ?_
      refine swp_region ?_
      refine s_pu (pu_move rfl) ?_
      first | refine s_pu (pu_nilCheck rfl) ?_ | refine s_pu (pu_nilCheck_fn rfl) ?_ | refine s_pu (pu_nilCheck_if rfl) ?_
      first | refine s_pu (pu_fieldAddr0 rfl) ?_ | refine s_pu (pu_fieldAddr rfl) ?_
      refine s_rd (rd_load rfl rfl) ?_
      refine s_pu (pu_move rfl) ?_
      refine s_pu (pu_indexAddr m rfl rfl (by omega) (by omega) (by omega)) ?_
      refine s_rd (rd_load rfl (rbs_get S (by omega))) ?_
      refine swl_sub _ (.cons (t := 0) rfl (.cons (t := 1) rfl (.cons (t := 20) rfl .nil))) ?_
      refine swl_nil ?_
      refine then_n ?_
      refine swp_cond (b := _) rfl (fun h20 => ?_) (fun h20 => ?_)
      · skip   -- 20 T
        refine swp_seq ?_
        refine swp_region ?_
        refine s_pu (pu_move rfl) ?_
        refine s_pu (pu_assign rfl) ?_
        refine swl_sub _ (.cons (t := 4) rfl .nil) ?_
        refine swl_nil ?_
        refine then_n ?_
        refine swp_ret ?_
        refine then_r ?_
        refine block_r ?_
        refine then_r ?_
        refine block_r ?_
        refine then_r ?_
        exact done_ret (rop p b n S) (.tmp rfl .nil) ⟨_, rfl, hK ▸ .inr ⟨m, rfl, hKm, h20, fun i h1 h2 => hlo i h1 h2⟩, rfl⟩ (by repeat (first | exact Split.nil | (apply Split.cons; (repeat (first | with_reducible exact Take.here | apply Take.there)))))
      · skip   -- 20 F
        refine swp_skip ?_
        refine then_n ?_
        refine swp_region ?_
        refine s_pu (pu_move rfl) ?_
        refine s_pu (pu_add_as ((m + 1 : Nat) : Int) rfl rfl (by omega) (by omega) (by omega)) ?_
        refine s_pu (pu_assign rfl) ?_
        refine swl_sub _ (.cons (t := 0) rfl (.cons (t := 1) rfl .nil)) ?_
        refine swl_nil ?_
        refine block_n ?_
        exact then_n ⟨m + 1, ⟨rfl, rfl, by omega, fun j h1 h2 => by
          rcases Nat.lt_or_ge j m with h | h
          · exact hlo j h1 h
          · obtain rfl : j = m := by omega
            exact h20⟩, by omega⟩
    · skip   -- 13 F
      have h13' : n ≤ m := by have := of_decide_eq_false h13; omega
      refine swp_exit ?_
      refine then_x ?_
      refine then_x ?_
      refine block_hit rfl ?_
      refine then_n ?_
      refine swp_seq ?_
      refine swp_region ?_
      refine s_pu (pu_assign rfl) ?_
      refine swl_sub _ (.cons (t := 4) rfl .nil) ?_
      refine swl_nil ?_
      refine then_n ?_
      refine swp_ret ?_
      exact done_ret (rop p b n S) (.tmp rfl .nil) ⟨_, rfl, hK ▸ .inl ⟨rfl, fun j h1 => by
        rcases Nat.lt_or_ge j m with h | h
        · exact hlo j h1 h
        · exact hz j (by omega)⟩, rfl⟩ (by repeat (first | exact Split.nil | (apply Split.cons; (repeat (first | with_reducible exact Take.here | apply Take.there)))))
theorem rlast (p b n : Nat) (S : Nat → Bool) (k : Int) (hn : n ≤ 1048576) (hz : ∀ j, n ≤ j → S j = false) : Spec Tryd.prog 52 [.pointer (some ⟨p, 0, none⟩), .int .i64 k] (rop p b n S) (fun r L => ∃ x, r = .int .i64 x ∧ IsLast S k x ∧ L = rop p b n S) := by
  obtain ⟨K, hK⟩ : ∃ K : Int, K = k := ⟨_, rfl⟩
  obtain ⟨x0, hx0⟩ : ∃ x0 : Int, x0 = min K ((n : Int) - 1) := ⟨_, rfl⟩
  refine Spec.of 30 Tryd.func52 rfl rfl rfl ?_
  refine swp_seq ?_
  refine swp_region ?_
  refine s_pu (pu_assign rfl) ?_
  refine swl_sub _ (.cons (t := 0) rfl (.cons (t := 1) rfl .nil)) ?_
  refine swl_nil ?_
  refine then_n ?_
  refine swp_seq ?_
  refine swp_seq ?_
  refine swp_region ?_
  refine s_pu (pu_move rfl) ?_
  refine s_pu (pu_move rfl) ?_
  first | refine s_pu (pu_nilCheck rfl) ?_ | refine s_pu (pu_nilCheck_fn rfl) ?_ | refine s_pu (pu_nilCheck_if rfl) ?_
  first | refine s_pu (pu_fieldAddr0 rfl) ?_ | refine s_pu (pu_fieldAddr rfl) ?_
  refine s_rd (rd_load rfl rfl) ?_
  refine s_pu (pu_len rfl) ?_
  refine s_pu (pu_geq rfl rfl) ?_
  refine swl_sub _ (.cons (t := 0) rfl (.cons (t := 1) rfl (.cons (t := 11) rfl .nil))) ?_
  refine swl_nil ?_
  refine then_n ?_
  refine swp_cond (b := _) rfl (fun h11 => ?_) (fun h11 => ?_)
  · skip   -- 11 T
    have h11' := of_decide_eq_true h11
    obtain hx1 : x0 = (n : Int) - 1 := by omega
    refine swp_region ?_
    refine s_pu (pu_move rfl) ?_
    first | refine s_pu (pu_nilCheck rfl) ?_ | refine s_pu (pu_nilCheck_fn rfl) ?_ | refine s_pu (pu_nilCheck_if rfl) ?_
    first | refine s_pu (pu_fieldAddr0 rfl) ?_ | refine s_pu (pu_fieldAddr rfl) ?_
    refine s_rd (rd_load rfl rfl) ?_
    refine s_pu (pu_len rfl) ?_
    refine s_pu (pu_sub_as ((n : Int) - 1) rfl rfl (by omega) (by omega) (by omega)) ?_
    refine s_pu (pu_assign rfl) ?_
    refine swl_sub _ (.cons (t := 0) rfl (.cons (t := 1) rfl .nil)) ?_
    refine swl_nil ?_
    refine then_n ?_
    refine swp_seq ?_
    refine swp_block ?_
    refine swp_loop (ι := Int) (fun m env L => env = [(0, .pointer (some ⟨p, 0, none⟩)), (1, .int .i64 m)] ∧ L = rop p b n S ∧ m ≤ K ∧ m < n ∧ ∀ j : Nat, j ≤ K → m < j → S j = false) (fun m => (m + 1).toNat) ((n : Int) - 1) ⟨rfl, rfl, by omega, by omega, fun j h1 h2 => hz j (by omega)⟩ ?_
    rintro x env L ⟨rfl, rfl, hKm, hmn, hlo⟩
    refine swp_seq ?_
    refine swp_seq ?_
    refine swp_region ?_
    refine s_pu (pu_move rfl) ?_
    refine s_pu (pu_geq rfl rfl) ?_
    refine swl_sub _ (.cons (t := 0) rfl (.cons (t := 1) rfl (.cons (t := 19) rfl .nil))) ?_
    refine swl_nil ?_
    refine then_n ?_
    refine swp_cond (b := _) rfl (fun h19 => ?_) (fun h19 => ?_)
    · skip   -- 19 T
      have h19' := of_decide_eq_true h19
      obtain ⟨m, rfl⟩ : ∃ m : Nat, x = m := ⟨x.toNat, by omega⟩
      refine swp_skip ?_
      refine then_n ?_
      refine swp_block ?_
      refine swp_seq ?_
      refine swp_seq ?_
      refine swp_region ?_
      refine s_pu (pu_move rfl) ?_
      first | refine s_pu (pu_nilCheck rfl) ?_ | refine s_pu (pu_nilCheck_fn rfl) ?_ | refine s_pu (pu_nilCheck_if rfl) ?_
      first | refine s_pu (pu_fieldAddr0 rfl) ?_ | refine s_pu (pu_fieldAddr rfl) ?_
      refine s_rd (rd_load rfl rfl) ?_
      refine s_pu (pu_move rfl) ?_
      refine s_pu (pu_indexAddr m rfl rfl (by omega) (by omega) (by omega)) ?_
      refine s_rd (rd_load rfl (rbs_get S (by omega))) ?_
      refine swl_sub _ (.cons (t := 0) rfl (.cons (t := 1) rfl (.cons (t := 26) rfl .nil))) ?_
      refine swl_nil ?_
      refine then_n ?_
      refine swp_cond (b := _) rfl (fun h26 => ?_) (fun h26 => ?_)
      · skip   -- 26 T
        refine swp_seq ?_
        refine swp_region ?_
        refine s_pu (pu_move rfl) ?_
        refine s_pu (pu_assign rfl) ?_
        refine swl_sub _ (.cons (t := 4) rfl .nil) ?_
        refine swl_nil ?_
        refine then_n ?_
        refine swp_ret ?_
        refine then_r ?_
        refine block_r ?_
        refine then_r ?_
        refine block_r ?_
        refine then_r ?_
        exact done_ret (rop p b n S) (.tmp rfl .nil) ⟨_, rfl, hK ▸ .inr ⟨m, rfl, hKm, h26, fun i h1 h2 => hlo i h2 (by omega)⟩, rfl⟩ (by repeat (first | exact Split.nil | (apply Split.cons; (repeat (first | with_reducible exact Take.here | apply Take.there)))))
      · skip   -- 26 F
        refine swp_skip ?_
        refine then_n ?_
        refine swp_region ?_
        refine s_pu (pu_move rfl) ?_
        refine s_pu (pu_sub_as ((m : Int) - 1) rfl rfl (by omega) (by omega) (by omega)) ?_
        refine s_pu (pu_assign rfl) ?_
        refine swl_sub _ (.cons (t := 0) rfl (.cons (t := 1) rfl .nil)) ?_
        refine swl_nil ?_
        refine block_n ?_
        exact then_n ⟨(m : Int) - 1, ⟨rfl, rfl, by omega, by omega, fun j h1 h2 => by
          by_cases h : (m : Int) < j
          · exact hlo j h1 h
          · obtain rfl : j = m := by omega
            exact h26⟩, by omega⟩
    · skip   -- 19 F
      have h19' := of_decide_eq_false h19
      refine swp_exit ?_
      refine then_x ?_
      refine then_x ?_
      refine block_hit rfl ?_
      refine then_n ?_
      refine swp_seq ?_
      refine swp_region ?_
      refine s_pu (pu_assign rfl) ?_
      refine swl_sub _ (.cons (t := 4) rfl .nil) ?_
      refine swl_nil ?_
      refine then_n ?_
      refine swp_ret ?_
      exact done_ret (rop p b n S) (.tmp rfl .nil) ⟨_, rfl, hK ▸ .inl ⟨rfl, fun j h1 => hlo j h1 (by omega)⟩, rfl⟩ (by repeat (first | exact Split.nil | (apply Split.cons; (repeat (first | with_reducible exact Take.here | apply Take.there)))))
  · skip   -- 11 F
    have h11' := of_decide_eq_false h11
    obtain rfl : k = x0 := by omega
    refine swp_skip ?_
    refine then_n ?_
    refine swp_seq ?_
    refine swp_block ?_
    refine swp_sub _ (.cons (t := 0) rfl (.cons (t := 1) rfl .nil)) ?_
    refine swp_loop (ι := Int) (fun m env L => env = [(0, .pointer (some ⟨p, 0, none⟩)), (1, .int .i64 m)] ∧ L = rop p b n S ∧ m ≤ K ∧ m < n ∧ ∀ j : Nat, j ≤ K → m < j → S j = false) (fun m => (m + 1).toNat) k ⟨rfl, rfl, by omega, by omega, fun j h1 h2 => by omega⟩ ?_
    rintro x env L ⟨rfl, rfl, hKm, hmn, hlo⟩
    refine swp_seq ?_
    refine swp_seq ?_
    refine swp_region ?_
    refine s_pu (pu_move rfl) ?_
    refine s_pu (pu_geq rfl rfl) ?_
    refine swl_sub _ (.cons (t := 0) rfl (.cons (t := 1) rfl (.cons (t := 19) rfl .nil))) ?_
    refine swl_nil ?_
    refine then_n ?_
    refine swp_cond (b := _) rfl (fun h19 => ?_) (fun h19 => ?_)
    · skip   -- 19 T
      have h19' := of_decide_eq_true h19
      obtain ⟨m, rfl⟩ : ∃ m : Nat, x = m := ⟨x.toNat, by omega⟩
      refine swp_skip ?_
      refine then_n ?_
      refine swp_block ?_
      refine swp_seq ?_
      refine swp_seq ?_
      refine swp_region ?_
      refine s_pu (pu_move rfl) ?_
      first | refine s_pu (pu_nilCheck rfl) ?_ | refine s_pu (pu_nilCheck_fn rfl) ?_ | refine s_pu (pu_nilCheck_if rfl) ?_
      first | refine s_pu (pu_fieldAddr0 rfl) ?_ | refine s_pu (pu_fieldAddr rfl) ?_
      refine s_rd (rd_load rfl rfl) ?_
      refine s_pu (pu_move rfl) ?_
      refine s_pu (pu_indexAddr m rfl rfl (by omega) (by omega) (by omega)) ?_
      refine s_rd (rd_load rfl (rbs_get S (by omega))) ?_
      refine swl_sub _ (.cons (t := 0) rfl (.cons (t := 1) rfl (.cons (t := 26) rfl .nil))) ?_
      refine swl_nil ?_
      refine then_n ?_
      refine swp_cond (b := _) rfl (fun h26 => ?_) (fun h26 => ?_)
      · skip   -- 26 T
        refine swp_seq ?_
        refine swp_region ?_
        refine s_pu (pu_move rfl) ?_
        refine s_pu (pu_assign rfl) ?_
        refine swl_sub _ (.cons (t := 4) rfl .nil) ?_
        refine swl_nil ?_
        refine then_n ?_
        refine swp_ret ?_
        refine then_r ?_
        refine block_r ?_
        refine then_r ?_
        refine block_r ?_
        refine then_r ?_
        exact done_ret (rop p b n S) (.tmp rfl .nil) ⟨_, rfl, hK ▸ .inr ⟨m, rfl, hKm, h26, fun i h1 h2 => hlo i h2 (by omega)⟩, rfl⟩ (by repeat (first | exact Split.nil | (apply Split.cons; (repeat (first | with_reducible exact Take.here | apply Take.there)))))
      · skip   -- 26 F
        refine swp_skip ?_
        refine then_n ?_
        refine swp_region ?_
        refine s_pu (pu_move rfl) ?_
        refine s_pu (pu_sub_as ((m : Int) - 1) rfl rfl (by omega) (by omega) (by omega)) ?_
        refine s_pu (pu_assign rfl) ?_
        refine swl_sub _ (.cons (t := 0) rfl (.cons (t := 1) rfl .nil)) ?_
        refine swl_nil ?_
        refine block_n ?_
        exact then_n ⟨(m : Int) - 1, ⟨rfl, rfl, by omega, by omega, fun j h1 h2 => by
          by_cases h : (m : Int) < j
          · exact hlo j h1 h
          · obtain rfl : j = m := by omega
            exact h26⟩, by omega⟩
    · skip   -- 19 F
      have h19' := of_decide_eq_false h19
      refine swp_exit ?_
      refine then_x ?_
      refine then_x ?_
      refine block_hit rfl ?_
      refine then_n ?_
      refine swp_seq ?_
      refine swp_region ?_
      refine s_pu (pu_assign rfl) ?_
      refine swl_sub _ (.cons (t := 4) rfl .nil) ?_
      refine swl_nil ?_
      refine then_n ?_
      refine swp_ret ?_
      exact done_ret (rop p b n S) (.tmp rfl .nil) ⟨_, rfl, hK ▸ .inl ⟨rfl, fun j h1 => hlo j h1 (by omega)⟩, rfl⟩ (by repeat (first | exact Split.nil | (apply Split.cons; (repeat (first | with_reducible exact Take.here | apply Take.there)))))
theorem rlist (p b n : Nat) (S : Nat → Bool) (hn : n ≤ 1048576) : Spec Tryd.prog 54 [.pointer (some ⟨p, 0, none⟩)] (rop p b n S) (fun r L => L = own 3 1 r (elsTo n S).length ((elsTo n S).flatMap (icsk .i64)) :: rop p b n S) := by
  refine Spec.of 26 Tryd.func54 rfl rfl rfl ?_
  refine swp_seq ?_
  refine swp_region ?_
  refine s_pu (pu_assign rfl) ?_
  refine swl_sub _ (.cons (t := 0) rfl .nil) ?_
  refine swl_nil ?_
  refine then_n ?_
  refine swp_seq ?_
  refine swp_region ?_
  refine s_pu (pu_assign rfl) ?_
  refine swl_sub _ (.cons (t := 0) rfl (.cons (t := 3) rfl .nil)) ?_
  refine swl_ent (own_nil_ent (e := 3) (n := 1)) ?_
  refine swl_nil ?_
  refine then_n ?_
  refine swp_seq ?_
  refine swp_seq ?_
  refine swp_region ?_
  refine s_pu (pu_assign rfl) ?_
  refine swl_sub _ (.cons (t := 0) rfl (.cons (t := 3) rfl (.cons (t := 4) rfl .nil))) ?_
  refine swl_nil ?_
  refine then_n ?_
  refine swp_block ?_
  refine swp_loop (ι := Value × Nat) (fun k env L => env = [(0, .pointer (some ⟨p, 0, none⟩)), (3, k.1), (4, .int .i64 (k.2 : Nat))] ∧ L = own 3 1 k.1 (elsTo k.2 S).length ((elsTo k.2 S).flatMap (icsk .i64)) :: rop p b n S ∧ k.2 ≤ n) (fun k => n - k.2) (.slice none 0 0, 0) ⟨rfl, rfl, Nat.zero_le _⟩ ?_
  rintro ⟨v3, j⟩ env L ⟨rfl, rfl, hj⟩
  dsimp only at hj ⊢
  refine swp_seq ?_
  refine swp_seq ?_
  refine swp_region ?_
  refine s_pu (pu_move rfl) ?_
  refine s_pu (pu_move rfl) ?_
  first | refine s_pu (pu_nilCheck rfl) ?_ | refine s_pu (pu_nilCheck_fn rfl) ?_ | refine s_pu (pu_nilCheck_if rfl) ?_
  first | refine s_pu (pu_fieldAddr0 rfl) ?_ | refine s_pu (pu_fieldAddr rfl) ?_
  refine s_rd (rd_load rfl rfl) ?_
  refine s_pu (pu_len rfl) ?_
  refine s_pu (pu_lss rfl rfl) ?_
  refine swl_sub _ (.cons (t := 0) rfl (.cons (t := 3) rfl (.cons (t := 4) rfl (.cons (t := 11) rfl .nil)))) ?_
  refine swl_nil ?_
  refine then_n ?_
  refine swp_cond (b := _) rfl (fun h11 => ?_) (fun h11 => ?_)
  · skip   -- 11 T
    have h11' : j < n := by have := of_decide_eq_true h11; omega
    refine swp_skip ?_
    refine then_n ?_
    refine swp_seq ?_
    refine swp_block ?_
    refine swp_seq ?_
    refine swp_region ?_
    refine s_pu (pu_move rfl) ?_
    first | refine s_pu (pu_nilCheck rfl) ?_ | refine s_pu (pu_nilCheck_fn rfl) ?_ | refine s_pu (pu_nilCheck_if rfl) ?_
    first | refine s_pu (pu_fieldAddr0 rfl) ?_ | refine s_pu (pu_fieldAddr rfl) ?_
    refine s_rd (rd_load rfl rfl) ?_
    refine s_pu (pu_move rfl) ?_
    refine s_pu (pu_indexAddr j rfl rfl (by omega) (by omega) (by omega)) ?_
    refine s_rd (rd_load rfl (rbs_get S (by omega))) ?_
    refine swl_sub _ (.cons (t := 0) rfl (.cons (t := 3) rfl (.cons (t := 4) rfl (.cons (t := 20) rfl .nil)))) ?_
    refine swl_nil ?_
    refine then_n ?_
    refine swp_cond (b := _) rfl (fun h20 => ?_) (fun h20 => ?_)
    · skip   -- 20 T
      have hle := elsTo_len j S
      refine swp_region ?_
      refine s_pu (pu_move rfl) ?_
      refine s_pu (pu_move rfl) ?_
      refine s_ef (ef_bldS (qs := [(0, _)]) rfl rfl rfl) ?_
      intro b23
      refine s_ef (ef_append_lit (l := (elsTo j S).length) (m := 1) rfl rfl (by repeat (first | exact Split.nil | (apply Split.cons; (repeat (first | with_reducible exact Take.here | apply Take.there))))) (by simp only [maxLen]; omega) (by omega)) ?_
      rintro v' hv'
      skip
      refine s_pu (pu_assign rfl) ?_
      refine swl_sub _ (.cons (t := 0) rfl (.cons (t := 3) rfl (.cons (t := 4) rfl .nil))) ?_
      have e1 : (elsTo j S).length + 1 = (elsTo (j + 1) S).length := by rw [elsTo_succ h20, List.length_append]; rfl
      have e2 : (elsTo j S).flatMap (icsk .i64) ++ [.int .i64 (j : Nat)] = (elsTo (j + 1) S).flatMap (icsk .i64) := by rw [elsTo_succ h20, List.flatMap_append]; rfl
      rw [e1, e2]
      refine swl_nil ?_
      refine block_n ?_
      refine then_n ?_
      refine swp_region ?_
      refine s_pu (pu_move rfl) ?_
      refine s_pu (pu_add_as ((j + 1 : Nat) : Int) rfl rfl (by omega) (by omega) (by omega)) ?_
      refine s_pu (pu_assign rfl) ?_
      refine swl_sub _ (.cons (t := 0) rfl (.cons (t := 3) rfl (.cons (t := 4) rfl .nil))) ?_
      refine swl_nil ?_
      exact then_n ⟨(_, j + 1), ⟨rfl, rfl, by omega⟩, by show n - (j + 1) < n - j; omega⟩
    · skip   -- 20 F
      have e0 : elsTo (j + 1) S = elsTo j S := elsTo_skip (by omega) (fun i h1 h2 => by rw [show i = j by omega]; exact h20)
      rw [← e0]
      refine swp_skip ?_
      refine block_n ?_
      refine then_n ?_
      refine swp_region ?_
      refine s_pu (pu_move rfl) ?_
      refine s_pu (pu_add_as ((j + 1 : Nat) : Int) rfl rfl (by omega) (by omega) (by omega)) ?_
      refine s_pu (pu_assign rfl) ?_
      refine swl_sub _ (.cons (t := 0) rfl (.cons (t := 3) rfl (.cons (t := 4) rfl .nil))) ?_
      refine swl_nil ?_
      exact then_n ⟨(_, j + 1), ⟨rfl, rfl, by omega⟩, by show n - (j + 1) < n - j; omega⟩
  · skip   -- 11 F
    have h11' := of_decide_eq_false h11
    obtain rfl : j = n := by omega
    refine swp_exit ?_
    refine then_x ?_
    refine then_x ?_
    refine block_hit rfl ?_
    refine then_n ?_
    refine swp_seq ?_
    refine swp_region ?_
    refine s_pu (pu_move rfl) ?_
    refine s_pu (pu_assign rfl) ?_
    refine swl_sub _ (.cons (t := 2) rfl .nil) ?_
    refine swl_nil ?_
    refine then_n ?_
    refine swp_ret ?_
    exact done_ret (own 3 1 v3 (elsTo j S).length ((elsTo j S).flatMap (icsk .i64)) :: rop p b j S) (.tmp rfl .nil) rfl (by repeat (first | exact Split.nil | (apply Split.cons; (repeat (first | with_reducible exact Take.here | apply Take.there)))))
end SX
