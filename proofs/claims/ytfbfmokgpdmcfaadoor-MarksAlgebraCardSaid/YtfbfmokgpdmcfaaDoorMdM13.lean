/- A part of the proof: walks of the seat's functions, by the rules of the texts that it imports. -/
import Derived.Test.YtfbfmokgpdmcfaaDoorMdM12
namespace SX
open Go Go.Proofs

theorem cnt_union {n : Nat} {S T : Nat → Bool} (hz : ∀ k, n ≤ k → S k = false) (hy : ∀ k, n ≤ k → T k = false) : (elsTo n (fun k => S k || T k)).length + (elsTo n (fun k => S k && T k)).length = (elsTo n S).length + (elsTo n T).length := by
  have h := countP_union S T (List.range n)
  rw [cnt_eq hz (Nat.le_refl n), cnt_eq hy (Nat.le_refl n), cnt_eq (n := n) (fun k hk => by rw [hz k hk, hy k hk]; rfl) (Nat.le_refl n), cnt_eq (n := n) (fun k hk => by rw [hz k hk]; rfl) (Nat.le_refl n)]
  exact h
theorem cnt_rest {n : Nat} {S T : Nat → Bool} (hz : ∀ k, n ≤ k → S k = false) : (elsTo n S).length = (elsTo n (fun k => S k && T k)).length + (elsTo n (fun k => S k && !T k)).length := by
  have h := countP_split S T (List.range n)
  rw [cnt_eq hz (Nat.le_refl n), cnt_eq (n := n) (fun k hk => by rw [hz k hk]; rfl) (Nat.le_refl n), cnt_eq (n := n) (fun k hk => by rw [hz k hk]; rfl) (Nat.le_refl n)]
  exact h
theorem or_same_n (p n q : Nat) (S T : Nat → Bool) (hy : ∀ k, n ≤ k → T k = false) : Spec Tryd.prog 26 [.pointer (some ⟨p, 0, none⟩), .pointer (some ⟨q, 0, none⟩)] [mset p n S, mset q n T] (fun r L => r = .tuple #[] ∧ L = [mset p n (fun k => S k || T k), mset q n T]) :=
  spec_same (or_m p n q n S T) (fun hz k => by
    by_cases h : k < n
    · simp [h]
    · rw [hz k (by omega), hy k (by omega)]; simp)

set_option maxHeartbeats 4000000 in
theorem algebra_spec (μ : PH) (s : Int) (xv yv : Value) (xl yl : List Int) (hT : RowAt μ 0 0 tabV) (hs0 : 0 ≤ s) (hx : Row μ xv 1 xl.length (xl.flatMap (icsk .i64))) (hy : Row μ yv 1 yl.length (yl.flatMap (icsk .i64))) : Spec Tryd.prog 6 [.int .u16 s, xv, yv] [ro μ] (fun v L => v = .bool true ∧ ∃ μ' R, Le μ μ' ∧ L = ro μ' :: R) := by
  obtain ⟨n, hn⟩ : ∃ n : Nat, s % 2000 = (n : Int) := ⟨(s % 2000).toNat, by omega⟩
  have hn2 : n < 2000 := by omega
  have hw : IntKind.i64.wrap (s.tmod 2000) = n := by
    rw [Int.tmod_eq_emod_of_nonneg hs0, hn]
    exact IntWalk.i64_in _ ⟨by omega, by omega⟩
  have hcl : clampM ((n : Nat) : Int) = n := by unfold clampM; omega
  have hox := of_spec μ xv xl ((n : Nat) : Int) hx
  have hoy := of_spec μ yv yl ((n : Nat) : Int) hy
  rw [hcl] at hox hoy
  have hSz := inL_out xl n
  have hTz := inL_out yl n
  generalize inL xl n = S at *
  generalize inL yl n = T at *
  have hSn := elsTo_len n S
  have hTn := elsTo_len n T
  have hun := cnt_union hSz hTz
  have hre := cnt_rest (T := T) hSz
  have hc0 : clampM 0 = 0 := by decide
  have hnew := new_m 0
  rw [hc0] at hnew
  have hOA : (∀ k, (S k || T k) = (S k && T k)) ↔ (elsTo n (fun k => S k && T k)).length = (elsTo n (fun k => S k || T k)).length := by
    rw [← cnt_same (S := fun k => S k && T k) (T := fun k => S k || T k) (n := n) (m := n) (fun k h => by simp only [Bool.and_eq_true, Bool.or_eq_true] at *; exact .inl h.1) (fun k hk => by rw [hSz k hk]; rfl) (fun k hk => by rw [hSz k hk, hTz k hk]; rfl)]
    exact ⟨fun h k => (h k).symm, fun h k => (h k).symm⟩
  refine Spec.of 164 Tryd.func6 rfl rfl rfl ?_
  refine swp_seq ?_
  refine swp_region ?_
  refine s_pu (pu_assign rfl) ?_
  refine swl_sub _ (.cons (t := 0) rfl (.cons (t := 1) rfl (.cons (t := 2) rfl .nil))) ?_
  refine swl_nil ?_
  refine then_n ?_
  refine swp_seq ?_
  refine swp_seq ?_
  refine swp_region ?_
  refine s_ef (ef_fn (holds_spec μ hT) rfl rfl (by repeat (first | exact Split.nil | (apply Split.cons; (repeat (first | with_reducible exact Take.here | apply Take.there)))))) ?_
  rintro v1 L1 ⟨rfl, rfl⟩
  refine swl_app ?_
  refine s_pu (pu_not rfl) ?_
  refine swl_sub _ (.cons (t := 0) rfl (.cons (t := 1) rfl (.cons (t := 2) rfl (.cons (t := 18) rfl .nil)))) ?_
  refine swl_nil ?_
  refine then_n ?_
  refine swp_cond (b := _) rfl (fun h18 => absurd h18 (by decide)) (fun h18 => ?_)
  refine swp_skip ?_
  refine then_n ?_
  refine swp_seq ?_
  refine swp_region ?_
  refine s_pu (pu_move rfl) ?_
  refine s_pu (pu_rem rfl rfl (by omega)) ?_
  first | refine s_pu (pu_conv_i64 rfl (by omega) (by omega)) ?_ | refine s_pu (pu_conv rfl) ?_
  refine s_pu (pu_assign rfl) ?_
  refine swl_sub _ (.cons (t := 1) rfl (.cons (t := 2) rfl (.cons (t := 7) rfl .nil))) ?_
  rw [hw]
  refine swl_nil ?_
  refine then_n ?_
  refine swp_seq ?_
  refine swp_region ?_
  refine s_pu (pu_move rfl) ?_
  refine s_pu (pu_move rfl) ?_
  refine s_ef (ef_fn hox rfl rfl (by repeat (first | exact Split.nil | (apply Split.cons; (repeat (first | with_reducible exact Take.here | apply Take.there)))))) ?_
  rintro v1 L1 ⟨pa, rfl, rfl⟩
  refine swl_app ?_
  refine s_pu (pu_move rfl) ?_
  refine s_pu (pu_move rfl) ?_
  refine s_ef (ef_fn hoy rfl rfl (by repeat (first | exact Split.nil | (apply Split.cons; (repeat (first | with_reducible exact Take.here | apply Take.there)))))) ?_
  rintro v1 L1 ⟨pb, rfl, rfl⟩
  refine swl_app ?_
  refine s_pu (pu_assign rfl) ?_
  refine s_pu (pu_assign rfl) ?_
  refine swl_sub _ (.cons (t := 1) rfl (.cons (t := 7) rfl (.cons (t := 8) rfl (.cons (t := 9) rfl .nil)))) ?_
  refine swl_nil ?_
  refine then_n ?_
  refine swp_seq ?_
  refine swp_region ?_
  refine s_pu (pu_move rfl) ?_
  refine s_ef (ef_fn (copy_m pa n S) rfl rfl (by repeat (first | exact Split.nil | (apply Split.cons; (repeat (first | with_reducible exact Take.here | apply Take.there)))))) ?_
  rintro v1 L1 ⟨po, rfl, rfl⟩
  refine swl_app ?_
  refine s_pu (pu_move rfl) ?_
  refine s_ef (ef_fn (copy_m pa n S) rfl rfl (by repeat (first | exact Split.nil | (apply Split.cons; (repeat (first | with_reducible exact Take.here | apply Take.there)))))) ?_
  rintro v1 L1 ⟨pd, rfl, rfl⟩
  refine swl_app ?_
  refine s_pu (pu_move rfl) ?_
  refine s_ef (ef_fn (copy_m pa n S) rfl rfl (by repeat (first | exact Split.nil | (apply Split.cons; (repeat (first | with_reducible exact Take.here | apply Take.there)))))) ?_
  rintro v1 L1 ⟨pl, rfl, rfl⟩
  refine swl_app ?_
  refine s_pu (pu_assign rfl) ?_
  refine s_pu (pu_assign rfl) ?_
  refine s_pu (pu_assign rfl) ?_
  refine swl_sub _ (.cons (t := 1) rfl (.cons (t := 7) rfl (.cons (t := 8) rfl (.cons (t := 9) rfl (.cons (t := 10) rfl (.cons (t := 11) rfl (.cons (t := 12) rfl .nil))))))) ?_
  refine swl_nil ?_
  refine then_n ?_
  refine swp_seq ?_
  refine swp_seq ?_
  refine swp_region ?_
  refine s_pu (pu_move rfl) ?_
  refine s_pu (pu_ptr_eq_nil rfl rfl) ?_
  refine s_pu (pu_move rfl) ?_
  refine s_on rfl rfl ?_
  refine s_pu (pu_move rfl) ?_
  refine s_on rfl rfl ?_
  refine s_pu (pu_ptr_eq_nil rfl rfl) ?_
  first | refine s_pu (pu_pick_t rfl rfl) ?_ | refine s_pu (pu_pick_f rfl rfl) ?_
  refine s_pu (pu_move rfl) ?_
  refine s_on rfl rfl ?_
  refine s_pu (pu_move rfl) ?_
  refine s_on rfl rfl ?_
  refine s_pu (pu_ptr_eq_nil rfl rfl) ?_
  first | refine s_pu (pu_pick_t rfl rfl) ?_ | refine s_pu (pu_pick_f rfl rfl) ?_
  refine swl_sub _ (.cons (t := 1) rfl (.cons (t := 7) rfl (.cons (t := 8) rfl (.cons (t := 9) rfl (.cons (t := 10) rfl (.cons (t := 11) rfl (.cons (t := 12) rfl (.cons (t := 43) rfl .nil)))))))) ?_
  refine swl_nil ?_
  refine then_n ?_
  refine swp_cond (b := _) rfl (fun h43 => by simp at h43) (fun h43 => ?_)
  refine swp_skip ?_
  refine then_n ?_
  refine swp_seq ?_
  refine swp_region ?_
  refine s_pu (pu_move rfl) ?_
  refine s_pu (pu_move rfl) ?_
  refine s_ef (ef_fn (or_same_n po n pb S T hTz) rfl rfl (by repeat (first | exact Split.nil | (apply Split.cons; (repeat (first | with_reducible exact Take.here | apply Take.there)))))) ?_
  rintro v1 L1 ⟨rfl, rfl⟩
  refine swl_app ?_
  refine swl_sub _ (.cons (t := 1) rfl (.cons (t := 7) rfl (.cons (t := 8) rfl (.cons (t := 9) rfl (.cons (t := 10) rfl (.cons (t := 11) rfl (.cons (t := 12) rfl .nil))))))) ?_
  refine swl_nil ?_
  refine then_n ?_
  refine swp_seq ?_
  refine swp_region ?_
  refine s_pu (pu_move rfl) ?_
  refine s_pu (pu_move rfl) ?_
  refine s_ef (ef_fn (and_m' pd n pb n S T) rfl rfl (by repeat (first | exact Split.nil | (apply Split.cons; (repeat (first | with_reducible exact Take.here | apply Take.there)))))) ?_
  rintro v1 L1 ⟨rfl, rfl⟩
  refine swl_app ?_
  refine swl_sub _ (.cons (t := 1) rfl (.cons (t := 7) rfl (.cons (t := 8) rfl (.cons (t := 9) rfl (.cons (t := 10) rfl (.cons (t := 11) rfl (.cons (t := 12) rfl .nil))))))) ?_
  refine swl_nil ?_
  refine then_n ?_
  refine swp_seq ?_
  refine swp_region ?_
  refine s_pu (pu_move rfl) ?_
  refine s_pu (pu_move rfl) ?_
  refine s_ef (ef_fn (less_m' pl n pb n S T) rfl rfl (by repeat (first | exact Split.nil | (apply Split.cons; (repeat (first | with_reducible exact Take.here | apply Take.there)))))) ?_
  rintro v1 L1 ⟨rfl, rfl⟩
  refine swl_app ?_
  refine swl_sub _ (.cons (t := 1) rfl (.cons (t := 7) rfl (.cons (t := 8) rfl (.cons (t := 9) rfl (.cons (t := 10) rfl (.cons (t := 11) rfl (.cons (t := 12) rfl .nil))))))) ?_
  refine swl_nil ?_
  refine then_n ?_
  refine swp_seq ?_
  refine swp_seq ?_
  refine swp_region ?_
  refine s_pu (pu_move rfl) ?_
  refine s_pu (pu_move rfl) ?_
  refine swl_sub _ (.cons (t := 1) rfl (.cons (t := 7) rfl (.cons (t := 8) rfl (.cons (t := 9) rfl (.cons (t := 10) rfl (.cons (t := 11) rfl (.cons (t := 12) rfl (.cons (t := 53) rfl (.cons (t := 54) rfl .nil))))))))) ?_
  refine swl_ent (Split.ent' (K := [mset pa n S, mset pb n T, mset po n (fun k => S k || T k), mset pd n (fun k => S k && T k), mset pl n (fun k => S k && !T k), ro μ]) (by repeat (first | exact Split.nil | (apply Split.cons; (repeat (first | with_reducible exact Take.here | apply Take.there)))))) ?_
  refine swl_nil ?_
  refine then_n ?_
  refine swp_block ?_
  refine swp_loop (ι := Nat) (fun i env L => env = [(1, xv), (7, .int .i64 (n : Nat)), (8, .pointer (some ⟨pa, 0, none⟩)), (9, .pointer (some ⟨pb, 0, none⟩)), (10, .pointer (some ⟨po, 0, none⟩)), (11, .pointer (some ⟨pd, 0, none⟩)), (12, .pointer (some ⟨pl, 0, none⟩)), (53, .int .i64 (n : Nat)), (54, .int .i64 (i : Nat))] ∧ L = [mset pa n S, mset pb n T, mset po n (fun k => S k || T k), mset pd n (fun k => S k && T k), mset pl n (fun k => S k && !T k), ro μ] ∧ i ≤ n) (fun i => n - i) 0 ⟨rfl, rfl, Nat.zero_le _⟩ ?_
  rintro i env L ⟨rfl, rfl, hi⟩
  refine swp_seq ?_
  refine swp_region ?_
  refine s_pu (pu_lss rfl rfl) ?_
  refine swl_sub _ (.cons (t := 1) rfl (.cons (t := 7) rfl (.cons (t := 8) rfl (.cons (t := 9) rfl (.cons (t := 10) rfl (.cons (t := 11) rfl (.cons (t := 12) rfl (.cons (t := 53) rfl (.cons (t := 54) rfl (.cons (t := 55) rfl .nil)))))))))) ?_
  refine swl_nil ?_
  refine then_n ?_
  refine swp_seq ?_
  refine swp_cond (b := _) rfl (fun h55 => ?_) (fun h55 => ?_)
  · skip   -- 55 T
    have h55' : i < n := by have := of_decide_eq_true h55; omega
    refine swp_skip ?_
    refine then_n ?_
    refine swp_seq ?_
    refine swp_block ?_
    refine swp_seq ?_
    refine swp_region ?_
    refine s_pu (pu_move rfl) ?_
    refine s_pu (pu_assign rfl) ?_
    refine swl_sub _ (.cons (t := 1) rfl (.cons (t := 7) rfl (.cons (t := 8) rfl (.cons (t := 9) rfl (.cons (t := 10) rfl (.cons (t := 11) rfl (.cons (t := 12) rfl (.cons (t := 13) rfl (.cons (t := 53) rfl (.cons (t := 54) rfl .nil)))))))))) ?_
    refine swl_nil ?_
    refine then_n ?_
    refine swp_seq ?_
    refine swp_region ?_
    refine s_pu (pu_move rfl) ?_
    refine s_pu (pu_move rfl) ?_
    refine s_ef (ef_fn (has_c pa n S i _ rfl) rfl rfl (by repeat (first | exact Split.nil | (apply Split.cons; (repeat (first | with_reducible exact Take.here | apply Take.there)))))) ?_
    rintro v1 L1 ⟨rfl, rfl⟩
    refine swl_app ?_
    refine s_pu (pu_move rfl) ?_
    refine s_pu (pu_move rfl) ?_
    refine s_ef (ef_fn (has_c pb n T i _ rfl) rfl rfl (by repeat (first | exact Split.nil | (apply Split.cons; (repeat (first | with_reducible exact Take.here | apply Take.there)))))) ?_
    rintro v1 L1 ⟨rfl, rfl⟩
    refine swl_app ?_
    refine s_pu (pu_assign rfl) ?_
    refine s_pu (pu_assign rfl) ?_
    refine swl_sub _ (.cons (t := 1) rfl (.cons (t := 7) rfl (.cons (t := 8) rfl (.cons (t := 9) rfl (.cons (t := 10) rfl (.cons (t := 11) rfl (.cons (t := 12) rfl (.cons (t := 13) rfl (.cons (t := 14) rfl (.cons (t := 15) rfl (.cons (t := 53) rfl (.cons (t := 54) rfl .nil)))))))))))) ?_
    refine swl_nil ?_
    refine then_n ?_
    refine swp_seq ?_
    refine swp_region ?_
    refine s_pu (pu_move rfl) ?_
    refine s_pu (pu_move rfl) ?_
    refine s_ef (ef_fn (has_c po n _ i _ rfl) rfl rfl (by repeat (first | exact Split.nil | (apply Split.cons; (repeat (first | with_reducible exact Take.here | apply Take.there)))))) ?_
    rintro v1 L1 ⟨rfl, rfl⟩
    refine swl_app ?_
    refine s_pu (pu_move rfl) ?_
    refine s_pu (pu_move rfl) ?_
    refine s_split 67 rfl (fun h67 => ?_) (fun h67 => ?_)
    · skip   -- 67 T
      refine s_off rfl rfl rfl ?_
      first | refine s_pu (pu_pick_t rfl rfl) ?_ | refine s_pu (pu_pick_f rfl rfl) ?_
      refine s_pu (pu_bool_ne rfl rfl) ?_
      refine s_pu (pu_move rfl) ?_
      refine s_split 71 rfl (fun h71 => by simp [h67] at h71) (fun h71 => ?_)
      refine s_on rfl rfl ?_
      refine s_pu (pu_move rfl) ?_
      refine s_on rfl rfl ?_
      refine s_pu (pu_move rfl) ?_
      refine s_on rfl rfl ?_
      refine s_ef (ef_fn (has_c pd n _ i _ rfl) rfl rfl (by repeat (first | exact Split.nil | (apply Split.cons; (repeat (first | with_reducible exact Take.here | apply Take.there)))))) ?_
      rintro v1 L1 ⟨rfl, rfl⟩
      refine swl_app ?_
      refine s_on rfl rfl ?_
      refine s_pu (pu_move rfl) ?_
      refine s_on rfl rfl ?_
      refine s_pu (pu_move rfl) ?_
      refine s_split 76 rfl (fun h76 => ?_) (fun h76 => ?_)
      · skip   -- 76 T
        refine s_on rfl rfl ?_
        refine s_pu (pu_move rfl) ?_
        refine s_on rfl rfl ?_
        first | refine s_pu (pu_pick_t rfl rfl) ?_ | refine s_pu (pu_pick_f rfl rfl) ?_
        refine s_on rfl rfl ?_
        refine s_pu (pu_bool_ne rfl rfl) ?_
        first | refine s_pu (pu_pick_t rfl rfl) ?_ | refine s_pu (pu_pick_f rfl rfl) ?_
        refine s_pu (pu_move rfl) ?_
        refine s_split 81 rfl (fun h81 => by simp [h76] at h81) (fun h81 => ?_)
        refine s_on rfl rfl ?_
        refine s_pu (pu_move rfl) ?_
        refine s_on rfl rfl ?_
        refine s_pu (pu_move rfl) ?_
        refine s_on rfl rfl ?_
        refine s_ef (ef_fn (has_c pl n _ i _ rfl) rfl rfl (by repeat (first | exact Split.nil | (apply Split.cons; (repeat (first | with_reducible exact Take.here | apply Take.there)))))) ?_
        rintro v1 L1 ⟨rfl, rfl⟩
        refine swl_app ?_
        refine s_on rfl rfl ?_
        refine s_pu (pu_move rfl) ?_
        refine s_on rfl rfl ?_
        refine s_pu (pu_move rfl) ?_
        refine s_split 86 rfl (fun h86 => ?_) (fun h86 => ?_)
        · skip   -- 86 T
          refine s_on rfl rfl ?_
          refine s_pu (pu_move rfl) ?_
          refine s_on rfl rfl ?_
          refine s_pu (pu_not rfl) ?_
          refine s_on rfl rfl ?_
          first | refine s_pu (pu_pick_t rfl rfl) ?_ | refine s_pu (pu_pick_f rfl rfl) ?_
          refine s_on rfl rfl ?_
          refine s_pu (pu_bool_ne rfl rfl) ?_
          first | refine s_pu (pu_pick_t rfl rfl) ?_ | refine s_pu (pu_pick_f rfl rfl) ?_
          refine swl_sub _ (.cons (t := 1) rfl (.cons (t := 7) rfl (.cons (t := 8) rfl (.cons (t := 9) rfl (.cons (t := 10) rfl (.cons (t := 11) rfl (.cons (t := 12) rfl (.cons (t := 53) rfl (.cons (t := 54) rfl (.cons (t := 91) rfl .nil)))))))))) ?_
          refine swl_nil ?_
          refine then_n ?_
          refine swp_cond (b := _) rfl (fun h91 => by simp [h86] at h91) (fun h91 => ?_)
          refine swp_skip ?_
          refine block_n ?_
          refine then_n ?_
          refine swp_region ?_
          refine s_pu (pu_add_as ((i + 1 : Nat) : Int) rfl rfl (by omega) (by omega) (by omega)) ?_
          refine s_pu (pu_move rfl) ?_
          refine swl_sub _ (.cons (t := 1) rfl (.cons (t := 7) rfl (.cons (t := 8) rfl (.cons (t := 9) rfl (.cons (t := 10) rfl (.cons (t := 11) rfl (.cons (t := 12) rfl (.cons (t := 53) rfl (.cons (t := 54) rfl .nil))))))))) ?_
          refine swl_ent (Split.ent' (K := [mset pa n S, mset pb n T, mset po n (fun k => S k || T k), mset pd n (fun k => S k && T k), mset pl n (fun k => S k && !T k), ro μ]) (by repeat (first | exact Split.nil | (apply Split.cons; (repeat (first | with_reducible exact Take.here | apply Take.there)))))) ?_
          refine swl_nil ?_
          exact then_n ⟨i + 1, ⟨rfl, rfl, h55'⟩, by omega⟩
        · skip   -- 86 F
          refine s_off rfl rfl rfl ?_
          refine s_off rfl rfl rfl ?_
          refine s_on rfl rfl ?_
          first | refine s_pu (pu_pick_t rfl rfl) ?_ | refine s_pu (pu_pick_f rfl rfl) ?_
          refine s_on rfl rfl ?_
          refine s_pu (pu_bool_ne rfl rfl) ?_
          first | refine s_pu (pu_pick_t rfl rfl) ?_ | refine s_pu (pu_pick_f rfl rfl) ?_
          refine swl_sub _ (.cons (t := 1) rfl (.cons (t := 7) rfl (.cons (t := 8) rfl (.cons (t := 9) rfl (.cons (t := 10) rfl (.cons (t := 11) rfl (.cons (t := 12) rfl (.cons (t := 53) rfl (.cons (t := 54) rfl (.cons (t := 91) rfl .nil)))))))))) ?_
          refine swl_nil ?_
          refine then_n ?_
          refine swp_cond (b := _) rfl (fun h91 => by simp [h86] at h91) (fun h91 => ?_)
          refine swp_skip ?_
          refine block_n ?_
          refine then_n ?_
          refine swp_region ?_
          refine s_pu (pu_add_as ((i + 1 : Nat) : Int) rfl rfl (by omega) (by omega) (by omega)) ?_
          refine s_pu (pu_move rfl) ?_
          refine swl_sub _ (.cons (t := 1) rfl (.cons (t := 7) rfl (.cons (t := 8) rfl (.cons (t := 9) rfl (.cons (t := 10) rfl (.cons (t := 11) rfl (.cons (t := 12) rfl (.cons (t := 53) rfl (.cons (t := 54) rfl .nil))))))))) ?_
          refine swl_ent (Split.ent' (K := [mset pa n S, mset pb n T, mset po n (fun k => S k || T k), mset pd n (fun k => S k && T k), mset pl n (fun k => S k && !T k), ro μ]) (by repeat (first | exact Split.nil | (apply Split.cons; (repeat (first | with_reducible exact Take.here | apply Take.there)))))) ?_
          refine swl_nil ?_
          exact then_n ⟨i + 1, ⟨rfl, rfl, h55'⟩, by omega⟩
      · skip   -- 76 F
        refine s_off rfl rfl rfl ?_
        refine s_on rfl rfl ?_
        first | refine s_pu (pu_pick_t rfl rfl) ?_ | refine s_pu (pu_pick_f rfl rfl) ?_
        refine s_on rfl rfl ?_
        refine s_pu (pu_bool_ne rfl rfl) ?_
        first | refine s_pu (pu_pick_t rfl rfl) ?_ | refine s_pu (pu_pick_f rfl rfl) ?_
        refine s_pu (pu_move rfl) ?_
        refine s_split 81 rfl (fun h81 => by simp [h76] at h81) (fun h81 => ?_)
        refine s_on rfl rfl ?_
        refine s_pu (pu_move rfl) ?_
        refine s_on rfl rfl ?_
        refine s_pu (pu_move rfl) ?_
        refine s_on rfl rfl ?_
        refine s_ef (ef_fn (has_c pl n _ i _ rfl) rfl rfl (by repeat (first | exact Split.nil | (apply Split.cons; (repeat (first | with_reducible exact Take.here | apply Take.there)))))) ?_
        rintro v1 L1 ⟨rfl, rfl⟩
        refine swl_app ?_
        refine s_on rfl rfl ?_
        refine s_pu (pu_move rfl) ?_
        refine s_on rfl rfl ?_
        refine s_pu (pu_move rfl) ?_
        refine s_split 86 rfl (fun h86 => ?_) (fun h86 => ?_)
        · skip   -- 86 T
          refine s_on rfl rfl ?_
          refine s_pu (pu_move rfl) ?_
          refine s_on rfl rfl ?_
          refine s_pu (pu_not rfl) ?_
          refine s_on rfl rfl ?_
          first | refine s_pu (pu_pick_t rfl rfl) ?_ | refine s_pu (pu_pick_f rfl rfl) ?_
          refine s_on rfl rfl ?_
          refine s_pu (pu_bool_ne rfl rfl) ?_
          first | refine s_pu (pu_pick_t rfl rfl) ?_ | refine s_pu (pu_pick_f rfl rfl) ?_
          refine swl_sub _ (.cons (t := 1) rfl (.cons (t := 7) rfl (.cons (t := 8) rfl (.cons (t := 9) rfl (.cons (t := 10) rfl (.cons (t := 11) rfl (.cons (t := 12) rfl (.cons (t := 53) rfl (.cons (t := 54) rfl (.cons (t := 91) rfl .nil)))))))))) ?_
          refine swl_nil ?_
          refine then_n ?_
          refine swp_cond (b := _) rfl (fun h91 => by simp [h86] at h91) (fun h91 => ?_)
          refine swp_skip ?_
          refine block_n ?_
          refine then_n ?_
          refine swp_region ?_
          refine s_pu (pu_add_as ((i + 1 : Nat) : Int) rfl rfl (by omega) (by omega) (by omega)) ?_
          refine s_pu (pu_move rfl) ?_
          refine swl_sub _ (.cons (t := 1) rfl (.cons (t := 7) rfl (.cons (t := 8) rfl (.cons (t := 9) rfl (.cons (t := 10) rfl (.cons (t := 11) rfl (.cons (t := 12) rfl (.cons (t := 53) rfl (.cons (t := 54) rfl .nil))))))))) ?_
          refine swl_ent (Split.ent' (K := [mset pa n S, mset pb n T, mset po n (fun k => S k || T k), mset pd n (fun k => S k && T k), mset pl n (fun k => S k && !T k), ro μ]) (by repeat (first | exact Split.nil | (apply Split.cons; (repeat (first | with_reducible exact Take.here | apply Take.there)))))) ?_
          refine swl_nil ?_
          exact then_n ⟨i + 1, ⟨rfl, rfl, h55'⟩, by omega⟩
        · skip   -- 86 F
          refine s_off rfl rfl rfl ?_
          refine s_off rfl rfl rfl ?_
          refine s_on rfl rfl ?_
          first | refine s_pu (pu_pick_t rfl rfl) ?_ | refine s_pu (pu_pick_f rfl rfl) ?_
          refine s_on rfl rfl ?_
          refine s_pu (pu_bool_ne rfl rfl) ?_
          first | refine s_pu (pu_pick_t rfl rfl) ?_ | refine s_pu (pu_pick_f rfl rfl) ?_
          refine swl_sub _ (.cons (t := 1) rfl (.cons (t := 7) rfl (.cons (t := 8) rfl (.cons (t := 9) rfl (.cons (t := 10) rfl (.cons (t := 11) rfl (.cons (t := 12) rfl (.cons (t := 53) rfl (.cons (t := 54) rfl (.cons (t := 91) rfl .nil)))))))))) ?_
          refine swl_nil ?_
          refine then_n ?_
          refine swp_cond (b := _) rfl (fun h91 => by simp [h86] at h91) (fun h91 => ?_)
          refine swp_skip ?_
          refine block_n ?_
          refine then_n ?_
          refine swp_region ?_
          refine s_pu (pu_add_as ((i + 1 : Nat) : Int) rfl rfl (by omega) (by omega) (by omega)) ?_
          refine s_pu (pu_move rfl) ?_
          refine swl_sub _ (.cons (t := 1) rfl (.cons (t := 7) rfl (.cons (t := 8) rfl (.cons (t := 9) rfl (.cons (t := 10) rfl (.cons (t := 11) rfl (.cons (t := 12) rfl (.cons (t := 53) rfl (.cons (t := 54) rfl .nil))))))))) ?_
          refine swl_ent (Split.ent' (K := [mset pa n S, mset pb n T, mset po n (fun k => S k || T k), mset pd n (fun k => S k && T k), mset pl n (fun k => S k && !T k), ro μ]) (by repeat (first | exact Split.nil | (apply Split.cons; (repeat (first | with_reducible exact Take.here | apply Take.there)))))) ?_
          refine swl_nil ?_
          exact then_n ⟨i + 1, ⟨rfl, rfl, h55'⟩, by omega⟩
    · skip   -- 67 F
      refine s_on rfl rfl ?_
      refine s_pu (pu_move rfl) ?_
      first | refine s_pu (pu_pick_t rfl rfl) ?_ | refine s_pu (pu_pick_f rfl rfl) ?_
      refine s_pu (pu_bool_ne rfl rfl) ?_
      refine s_pu (pu_move rfl) ?_
      refine s_split 71 rfl (fun h71 => by simp [h67] at h71) (fun h71 => ?_)
      refine s_on rfl rfl ?_
      refine s_pu (pu_move rfl) ?_
      refine s_on rfl rfl ?_
      refine s_pu (pu_move rfl) ?_
      refine s_on rfl rfl ?_
      refine s_ef (ef_fn (has_c pd n _ i _ rfl) rfl rfl (by repeat (first | exact Split.nil | (apply Split.cons; (repeat (first | with_reducible exact Take.here | apply Take.there)))))) ?_
      rintro v1 L1 ⟨rfl, rfl⟩
      refine swl_app ?_
      refine s_on rfl rfl ?_
      refine s_pu (pu_move rfl) ?_
      refine s_on rfl rfl ?_
      refine s_pu (pu_move rfl) ?_
      refine s_split 76 rfl (fun h76 => ?_) (fun h76 => ?_)
      · skip   -- 76 T
        refine s_on rfl rfl ?_
        refine s_pu (pu_move rfl) ?_
        refine s_on rfl rfl ?_
        first | refine s_pu (pu_pick_t rfl rfl) ?_ | refine s_pu (pu_pick_f rfl rfl) ?_
        refine s_on rfl rfl ?_
        refine s_pu (pu_bool_ne rfl rfl) ?_
        first | refine s_pu (pu_pick_t rfl rfl) ?_ | refine s_pu (pu_pick_f rfl rfl) ?_
        refine s_pu (pu_move rfl) ?_
        refine s_split 81 rfl (fun h81 => by simp [h76] at h81) (fun h81 => ?_)
        refine s_on rfl rfl ?_
        refine s_pu (pu_move rfl) ?_
        refine s_on rfl rfl ?_
        refine s_pu (pu_move rfl) ?_
        refine s_on rfl rfl ?_
        refine s_ef (ef_fn (has_c pl n _ i _ rfl) rfl rfl (by repeat (first | exact Split.nil | (apply Split.cons; (repeat (first | with_reducible exact Take.here | apply Take.there)))))) ?_
        rintro v1 L1 ⟨rfl, rfl⟩
        refine swl_app ?_
        refine s_on rfl rfl ?_
        refine s_pu (pu_move rfl) ?_
        refine s_on rfl rfl ?_
        refine s_pu (pu_move rfl) ?_
        refine s_split 86 rfl (fun h86 => ?_) (fun h86 => ?_)
        · skip   -- 86 T
          refine s_on rfl rfl ?_
          refine s_pu (pu_move rfl) ?_
          refine s_on rfl rfl ?_
          refine s_pu (pu_not rfl) ?_
          refine s_on rfl rfl ?_
          first | refine s_pu (pu_pick_t rfl rfl) ?_ | refine s_pu (pu_pick_f rfl rfl) ?_
          refine s_on rfl rfl ?_
          refine s_pu (pu_bool_ne rfl rfl) ?_
          first | refine s_pu (pu_pick_t rfl rfl) ?_ | refine s_pu (pu_pick_f rfl rfl) ?_
          refine swl_sub _ (.cons (t := 1) rfl (.cons (t := 7) rfl (.cons (t := 8) rfl (.cons (t := 9) rfl (.cons (t := 10) rfl (.cons (t := 11) rfl (.cons (t := 12) rfl (.cons (t := 53) rfl (.cons (t := 54) rfl (.cons (t := 91) rfl .nil)))))))))) ?_
          refine swl_nil ?_
          refine then_n ?_
          refine swp_cond (b := _) rfl (fun h91 => by simp [h86] at h91) (fun h91 => ?_)
          refine swp_skip ?_
          refine block_n ?_
          refine then_n ?_
          refine swp_region ?_
          refine s_pu (pu_add_as ((i + 1 : Nat) : Int) rfl rfl (by omega) (by omega) (by omega)) ?_
          refine s_pu (pu_move rfl) ?_
          refine swl_sub _ (.cons (t := 1) rfl (.cons (t := 7) rfl (.cons (t := 8) rfl (.cons (t := 9) rfl (.cons (t := 10) rfl (.cons (t := 11) rfl (.cons (t := 12) rfl (.cons (t := 53) rfl (.cons (t := 54) rfl .nil))))))))) ?_
          refine swl_ent (Split.ent' (K := [mset pa n S, mset pb n T, mset po n (fun k => S k || T k), mset pd n (fun k => S k && T k), mset pl n (fun k => S k && !T k), ro μ]) (by repeat (first | exact Split.nil | (apply Split.cons; (repeat (first | with_reducible exact Take.here | apply Take.there)))))) ?_
          refine swl_nil ?_
          exact then_n ⟨i + 1, ⟨rfl, rfl, h55'⟩, by omega⟩
        · skip   -- 86 F
          refine s_off rfl rfl rfl ?_
          refine s_off rfl rfl rfl ?_
          refine s_on rfl rfl ?_
          first | refine s_pu (pu_pick_t rfl rfl) ?_ | refine s_pu (pu_pick_f rfl rfl) ?_
          refine s_on rfl rfl ?_
          refine s_pu (pu_bool_ne rfl rfl) ?_
          first | refine s_pu (pu_pick_t rfl rfl) ?_ | refine s_pu (pu_pick_f rfl rfl) ?_
          refine swl_sub _ (.cons (t := 1) rfl (.cons (t := 7) rfl (.cons (t := 8) rfl (.cons (t := 9) rfl (.cons (t := 10) rfl (.cons (t := 11) rfl (.cons (t := 12) rfl (.cons (t := 53) rfl (.cons (t := 54) rfl (.cons (t := 91) rfl .nil)))))))))) ?_
          refine swl_nil ?_
          refine then_n ?_
          refine swp_cond (b := _) rfl (fun h91 => by simp [h86] at h91) (fun h91 => ?_)
          refine swp_skip ?_
          refine block_n ?_
          refine then_n ?_
          refine swp_region ?_
          refine s_pu (pu_add_as ((i + 1 : Nat) : Int) rfl rfl (by omega) (by omega) (by omega)) ?_
          refine s_pu (pu_move rfl) ?_
          refine swl_sub _ (.cons (t := 1) rfl (.cons (t := 7) rfl (.cons (t := 8) rfl (.cons (t := 9) rfl (.cons (t := 10) rfl (.cons (t := 11) rfl (.cons (t := 12) rfl (.cons (t := 53) rfl (.cons (t := 54) rfl .nil))))))))) ?_
          refine swl_ent (Split.ent' (K := [mset pa n S, mset pb n T, mset po n (fun k => S k || T k), mset pd n (fun k => S k && T k), mset pl n (fun k => S k && !T k), ro μ]) (by repeat (first | exact Split.nil | (apply Split.cons; (repeat (first | with_reducible exact Take.here | apply Take.there)))))) ?_
          refine swl_nil ?_
          exact then_n ⟨i + 1, ⟨rfl, rfl, h55'⟩, by omega⟩
      · skip   -- 76 F
        refine s_off rfl rfl rfl ?_
        refine s_on rfl rfl ?_
        first | refine s_pu (pu_pick_t rfl rfl) ?_ | refine s_pu (pu_pick_f rfl rfl) ?_
        refine s_on rfl rfl ?_
        refine s_pu (pu_bool_ne rfl rfl) ?_
        first | refine s_pu (pu_pick_t rfl rfl) ?_ | refine s_pu (pu_pick_f rfl rfl) ?_
        refine s_pu (pu_move rfl) ?_
        refine s_split 81 rfl (fun h81 => by simp [h76] at h81) (fun h81 => ?_)
        refine s_on rfl rfl ?_
        refine s_pu (pu_move rfl) ?_
        refine s_on rfl rfl ?_
        refine s_pu (pu_move rfl) ?_
        refine s_on rfl rfl ?_
        refine s_ef (ef_fn (has_c pl n _ i _ rfl) rfl rfl (by repeat (first | exact Split.nil | (apply Split.cons; (repeat (first | with_reducible exact Take.here | apply Take.there)))))) ?_
        rintro v1 L1 ⟨rfl, rfl⟩
        refine swl_app ?_
        refine s_on rfl rfl ?_
        refine s_pu (pu_move rfl) ?_
        refine s_on rfl rfl ?_
        refine s_pu (pu_move rfl) ?_
        refine s_split 86 rfl (fun h86 => ?_) (fun h86 => ?_)
        · skip   -- 86 T
          refine s_on rfl rfl ?_
          refine s_pu (pu_move rfl) ?_
          refine s_on rfl rfl ?_
          refine s_pu (pu_not rfl) ?_
          refine s_on rfl rfl ?_
          first | refine s_pu (pu_pick_t rfl rfl) ?_ | refine s_pu (pu_pick_f rfl rfl) ?_
          refine s_on rfl rfl ?_
          refine s_pu (pu_bool_ne rfl rfl) ?_
          first | refine s_pu (pu_pick_t rfl rfl) ?_ | refine s_pu (pu_pick_f rfl rfl) ?_
          refine swl_sub _ (.cons (t := 1) rfl (.cons (t := 7) rfl (.cons (t := 8) rfl (.cons (t := 9) rfl (.cons (t := 10) rfl (.cons (t := 11) rfl (.cons (t := 12) rfl (.cons (t := 53) rfl (.cons (t := 54) rfl (.cons (t := 91) rfl .nil)))))))))) ?_
          refine swl_nil ?_
          refine then_n ?_
          refine swp_cond (b := _) rfl (fun h91 => by simp [h86] at h91) (fun h91 => ?_)
          refine swp_skip ?_
          refine block_n ?_
          refine then_n ?_
          refine swp_region ?_
          refine s_pu (pu_add_as ((i + 1 : Nat) : Int) rfl rfl (by omega) (by omega) (by omega)) ?_
          refine s_pu (pu_move rfl) ?_
          refine swl_sub _ (.cons (t := 1) rfl (.cons (t := 7) rfl (.cons (t := 8) rfl (.cons (t := 9) rfl (.cons (t := 10) rfl (.cons (t := 11) rfl (.cons (t := 12) rfl (.cons (t := 53) rfl (.cons (t := 54) rfl .nil))))))))) ?_
          refine swl_ent (Split.ent' (K := [mset pa n S, mset pb n T, mset po n (fun k => S k || T k), mset pd n (fun k => S k && T k), mset pl n (fun k => S k && !T k), ro μ]) (by repeat (first | exact Split.nil | (apply Split.cons; (repeat (first | with_reducible exact Take.here | apply Take.there)))))) ?_
          refine swl_nil ?_
          exact then_n ⟨i + 1, ⟨rfl, rfl, h55'⟩, by omega⟩
        · skip   -- 86 F
          refine s_off rfl rfl rfl ?_
          refine s_off rfl rfl rfl ?_
          refine s_on rfl rfl ?_
          first | refine s_pu (pu_pick_t rfl rfl) ?_ | refine s_pu (pu_pick_f rfl rfl) ?_
          refine s_on rfl rfl ?_
          refine s_pu (pu_bool_ne rfl rfl) ?_
          first | refine s_pu (pu_pick_t rfl rfl) ?_ | refine s_pu (pu_pick_f rfl rfl) ?_
          refine swl_sub _ (.cons (t := 1) rfl (.cons (t := 7) rfl (.cons (t := 8) rfl (.cons (t := 9) rfl (.cons (t := 10) rfl (.cons (t := 11) rfl (.cons (t := 12) rfl (.cons (t := 53) rfl (.cons (t := 54) rfl (.cons (t := 91) rfl .nil)))))))))) ?_
          refine swl_nil ?_
          refine then_n ?_
          refine swp_cond (b := _) rfl (fun h91 => by simp [h86] at h91) (fun h91 => ?_)
          refine swp_skip ?_
          refine block_n ?_
          refine then_n ?_
          refine swp_region ?_
          refine s_pu (pu_add_as ((i + 1 : Nat) : Int) rfl rfl (by omega) (by omega) (by omega)) ?_
          refine s_pu (pu_move rfl) ?_
          refine swl_sub _ (.cons (t := 1) rfl (.cons (t := 7) rfl (.cons (t := 8) rfl (.cons (t := 9) rfl (.cons (t := 10) rfl (.cons (t := 11) rfl (.cons (t := 12) rfl (.cons (t := 53) rfl (.cons (t := 54) rfl .nil))))))))) ?_
          refine swl_ent (Split.ent' (K := [mset pa n S, mset pb n T, mset po n (fun k => S k || T k), mset pd n (fun k => S k && T k), mset pl n (fun k => S k && !T k), ro μ]) (by repeat (first | exact Split.nil | (apply Split.cons; (repeat (first | with_reducible exact Take.here | apply Take.there)))))) ?_
          refine swl_nil ?_
          exact then_n ⟨i + 1, ⟨rfl, rfl, h55'⟩, by omega⟩
  · skip   -- 55 F
    refine swp_exit ?_
    refine then_x ?_
    refine then_x ?_
    refine block_hit rfl ?_
    refine then_n ?_
    refine swp_seq ?_
    refine swp_seq ?_
    refine swp_region ?_
    refine s_pu (pu_move rfl) ?_
    refine s_ef (ef_fn (count_m po n _) rfl rfl (by repeat (first | exact Split.nil | (apply Split.cons; (repeat (first | with_reducible exact Take.here | apply Take.there)))))) ?_
    rintro v1 L1 ⟨rfl, rfl⟩
    refine swl_app ?_
    refine s_pu (pu_move rfl) ?_
    refine s_ef (ef_fn (count_m pa n _) rfl rfl (by repeat (first | exact Split.nil | (apply Split.cons; (repeat (first | with_reducible exact Take.here | apply Take.there)))))) ?_
    rintro v1 L1 ⟨rfl, rfl⟩
    refine swl_app ?_
    refine s_pu (pu_move rfl) ?_
    refine s_ef (ef_fn (count_m pb n _) rfl rfl (by repeat (first | exact Split.nil | (apply Split.cons; (repeat (first | with_reducible exact Take.here | apply Take.there)))))) ?_
    rintro v1 L1 ⟨rfl, rfl⟩
    refine swl_app ?_
    refine s_pu (pu_add_as (((elsTo n S).length + (elsTo n T).length : Nat) : Int) rfl rfl (by omega) (by omega) (by omega)) ?_
    refine s_pu (pu_move rfl) ?_
    refine s_ef (ef_fn (count_m pd n _) rfl rfl (by repeat (first | exact Split.nil | (apply Split.cons; (repeat (first | with_reducible exact Take.here | apply Take.there)))))) ?_
    rintro v1 L1 ⟨rfl, rfl⟩
    refine swl_app ?_
    refine s_pu (pu_sub_as ((elsTo n fun k => S k || T k).length : Int) rfl rfl (by omega) (by omega) (by omega)) ?_
    refine s_pu (pu_neq rfl rfl) ?_
    refine s_pu (pu_move rfl) ?_
    refine s_split 104 rfl (fun h104 => by simp at h104) (fun h104 => ?_)
    refine s_on rfl rfl ?_
    refine s_pu (pu_move rfl) ?_
    refine s_on rfl rfl ?_
    refine s_ef (ef_fn (count_m pl n _) rfl rfl (by repeat (first | exact Split.nil | (apply Split.cons; (repeat (first | with_reducible exact Take.here | apply Take.there)))))) ?_
    rintro v1 L1 ⟨rfl, rfl⟩
    refine swl_app ?_
    refine s_on rfl rfl ?_
    refine s_pu (pu_move rfl) ?_
    refine s_on rfl rfl ?_
    refine s_ef (ef_fn (count_m pa n _) rfl rfl (by repeat (first | exact Split.nil | (apply Split.cons; (repeat (first | with_reducible exact Take.here | apply Take.there)))))) ?_
    rintro v1 L1 ⟨rfl, rfl⟩
    refine swl_app ?_
    refine s_on rfl rfl ?_
    refine s_pu (pu_move rfl) ?_
    refine s_on rfl rfl ?_
    refine s_ef (ef_fn (count_m pd n _) rfl rfl (by repeat (first | exact Split.nil | (apply Split.cons; (repeat (first | with_reducible exact Take.here | apply Take.there)))))) ?_
    rintro v1 L1 ⟨rfl, rfl⟩
    refine swl_app ?_
    refine s_on rfl rfl ?_
    refine s_pu (pu_sub_as ((elsTo n fun k => S k && !T k).length : Int) rfl rfl (by omega) (by omega) (by omega)) ?_
    refine s_on rfl rfl ?_
    refine s_pu (pu_neq rfl rfl) ?_
    first | refine s_pu (pu_pick_t rfl rfl) ?_ | refine s_pu (pu_pick_f rfl rfl) ?_
    refine swl_sub _ (.cons (t := 1) rfl (.cons (t := 7) rfl (.cons (t := 8) rfl (.cons (t := 10) rfl (.cons (t := 11) rfl (.cons (t := 113) rfl .nil)))))) ?_
    refine swl_nil ?_
    refine then_n ?_
    refine swp_cond (b := _) rfl (fun h113 => by simp at h113) (fun h113 => ?_)
    refine swp_skip ?_
    refine then_n ?_
    refine swp_seq ?_
    refine swp_region ?_
    refine s_pu (pu_move rfl) ?_
    refine s_ef (ef_fn (copy_m pa n S) rfl rfl (by repeat (first | exact Split.nil | (apply Split.cons; (repeat (first | with_reducible exact Take.here | apply Take.there)))))) ?_
    rintro v1 L1 ⟨pz, rfl, rfl⟩
    refine swl_app ?_
    refine s_pu (pu_assign rfl) ?_
    refine swl_sub _ (.cons (t := 1) rfl (.cons (t := 7) rfl (.cons (t := 8) rfl (.cons (t := 10) rfl (.cons (t := 11) rfl (.cons (t := 16) rfl .nil)))))) ?_
    refine swl_nil ?_
    refine then_n ?_
    refine swp_seq ?_
    refine swp_region ?_
    refine s_pu (pu_move rfl) ?_
    refine s_pu (pu_move rfl) ?_
    refine s_ef (ef_fn (or_self' pz n S) rfl rfl (by repeat (first | exact Split.nil | (apply Split.cons; (repeat (first | with_reducible exact Take.here | apply Take.there)))))) ?_
    rintro v1 L1 ⟨rfl, rfl⟩
    refine swl_app ?_
    refine swl_sub _ (.cons (t := 1) rfl (.cons (t := 7) rfl (.cons (t := 8) rfl (.cons (t := 10) rfl (.cons (t := 11) rfl (.cons (t := 16) rfl .nil)))))) ?_
    refine swl_nil ?_
    refine then_n ?_
    refine swp_seq ?_
    refine swp_region ?_
    refine s_pu (pu_move rfl) ?_
    refine s_pu (pu_move rfl) ?_
    refine s_ef (ef_fn (and_self' pz n S) rfl rfl (by repeat (first | exact Split.nil | (apply Split.cons; (repeat (first | with_reducible exact Take.here | apply Take.there)))))) ?_
    rintro v1 L1 ⟨rfl, rfl⟩
    refine swl_app ?_
    refine swl_sub _ (.cons (t := 1) rfl (.cons (t := 7) rfl (.cons (t := 8) rfl (.cons (t := 10) rfl (.cons (t := 11) rfl (.cons (t := 16) rfl .nil)))))) ?_
    refine swl_nil ?_
    refine then_n ?_
    refine swp_seq ?_
    refine swp_seq ?_
    refine swp_region ?_
    refine s_pu (pu_move rfl) ?_
    refine s_pu (pu_move rfl) ?_
    refine s_ef (ef_fn (same_m pz n pa n S S) rfl rfl (by repeat (first | exact Split.nil | (apply Split.cons; (repeat (first | with_reducible exact Take.here | apply Take.there)))))) ?_
    rintro v1 L1 ⟨b1, rfl, hb1, rfl⟩
    refine swl_app ?_
    obtain rfl : b1 = true := hb1.2 (fun _ => rfl)
    refine s_pu (pu_not rfl) ?_
    refine s_pu (pu_move rfl) ?_
    refine s_on rfl rfl ?_
    refine s_pu (pu_move rfl) ?_
    refine s_on rfl rfl ?_
    refine s_pu (pu_move rfl) ?_
    refine s_on rfl rfl ?_
    refine s_pu (pu_move rfl) ?_
    refine s_on rfl rfl ?_
    refine s_ef (ef_fn hox rfl rfl (by repeat (first | exact Split.nil | (apply Split.cons; (repeat (first | with_reducible exact Take.here | apply Take.there)))))) ?_
    rintro v1 L1 ⟨pq, rfl, rfl⟩
    refine swl_app ?_
    refine s_on rfl rfl ?_
    refine s_ef (ef_fn (same_m pa n pq n S S) rfl rfl (by repeat (first | exact Split.nil | (apply Split.cons; (repeat (first | with_reducible exact Take.here | apply Take.there)))))) ?_
    rintro v1 L1 ⟨b2, rfl, hb2, rfl⟩
    refine swl_app ?_
    obtain rfl : b2 = true := hb2.2 (fun _ => rfl)
    refine s_on rfl rfl ?_
    refine s_pu (pu_not rfl) ?_
    first | refine s_pu (pu_pick_t rfl rfl) ?_ | refine s_pu (pu_pick_f rfl rfl) ?_
    refine s_pu (pu_move rfl) ?_
    refine s_on rfl rfl ?_
    refine s_pu (pu_move rfl) ?_
    refine s_on rfl rfl ?_
    refine s_pu (pu_move rfl) ?_
    refine s_on rfl rfl ?_
    refine s_ef (ef_fn (same_m po n pd n _ _) rfl rfl (by repeat (first | exact Split.nil | (apply Split.cons; (repeat (first | with_reducible exact Take.here | apply Take.there)))))) ?_
    rintro v1 L1 ⟨b3, rfl, hb3, rfl⟩
    refine swl_app ?_
    refine s_on rfl rfl ?_
    refine s_pu (pu_move rfl) ?_
    refine s_on rfl rfl ?_
    refine s_ef (ef_fn (count_m po n _) rfl rfl (by repeat (first | exact Split.nil | (apply Split.cons; (repeat (first | with_reducible exact Take.here | apply Take.there)))))) ?_
    rintro v1 L1 ⟨rfl, rfl⟩
    refine swl_app ?_
    refine s_on rfl rfl ?_
    refine s_pu (pu_move rfl) ?_
    refine s_on rfl rfl ?_
    refine s_ef (ef_fn (count_m pd n _) rfl rfl (by repeat (first | exact Split.nil | (apply Split.cons; (repeat (first | with_reducible exact Take.here | apply Take.there)))))) ?_
    rintro v1 L1 ⟨rfl, rfl⟩
    refine swl_app ?_
    refine s_on rfl rfl ?_
    refine s_pu (pu_eql rfl rfl) ?_
    refine s_on rfl rfl ?_
    refine s_pu (pu_bool_ne rfl rfl) ?_
    first | refine s_pu (pu_pick_t rfl rfl) ?_ | refine s_pu (pu_pick_f rfl rfl) ?_
    refine swl_sub _ (.cons (t := 8) rfl (.cons (t := 16) rfl (.cons (t := 144) rfl .nil))) ?_
    refine swl_nil ?_
    refine then_n ?_
    refine swp_cond (b := _) rfl (fun h144 => by rw [show b3 = decide (((elsTo n fun k => S k || T k).length : Int) = ((elsTo n fun k => S k && T k).length : Int)) from bool_iff hb3 (by rw [decide_eq_true_eq, hOA]; omega), beq_self_eq_true] at h144; cases h144) (fun h144 => ?_)
    refine swp_skip ?_
    refine then_n ?_
    refine swp_seq ?_
    refine swp_region ?_
    refine s_pu (pu_move rfl) ?_
    refine s_pu (pu_move rfl) ?_
    refine s_ef (ef_fn (less_self' pz n S) rfl rfl (by repeat (first | exact Split.nil | (apply Split.cons; (repeat (first | with_reducible exact Take.here | apply Take.there)))))) ?_
    rintro v1 L1 ⟨rfl, rfl⟩
    refine swl_app ?_
    refine swl_sub _ (.cons (t := 8) rfl (.cons (t := 16) rfl .nil)) ?_
    refine swl_nil ?_
    refine then_n ?_
    refine swp_seq ?_
    refine swp_region ?_
    refine s_pu (pu_move rfl) ?_
    refine s_ef (ef_fn (count_m pz n _) rfl rfl (by repeat (first | exact Split.nil | (apply Split.cons; (repeat (first | with_reducible exact Take.here | apply Take.there)))))) ?_
    rintro v1 L1 ⟨rfl, rfl⟩
    refine swl_app ?_
    rw [show (elsTo n (fun _ => false)).length = 0 by rw [elsTo_false]; rfl]
    refine s_pu (pu_eql rfl rfl) ?_
    refine s_pu (pu_move rfl) ?_
    refine s_on rfl rfl ?_
    refine s_pu (pu_move rfl) ?_
    refine s_on rfl rfl ?_
    refine s_ef (ef_fn (count_m pa n S) rfl rfl (by repeat (first | exact Split.nil | (apply Split.cons; (repeat (first | with_reducible exact Take.here | apply Take.there)))))) ?_
    rintro v1 L1 ⟨rfl, rfl⟩
    refine swl_app ?_
    refine s_on rfl rfl ?_
    refine s_pu (pu_move rfl) ?_
    refine s_on rfl rfl ?_
    refine s_ef (ef_fn (list_m μ pa n S hT) rfl rfl (by repeat (first | exact Split.nil | (apply Split.cons; (repeat (first | with_reducible exact Take.here | apply Take.there)))))) ?_
    rintro v1 L1 rfl
    refine swl_app ?_
    refine swl_fact (fun m h => own_form h) fun hform => ?_
    refine s_on rfl rfl ?_
    refine s_pu (pu_len_own hform rfl) ?_
    refine s_on rfl rfl ?_
    refine s_pu (pu_eql rfl rfl) ?_
    first | refine s_pu (pu_pick_t rfl rfl) ?_ | refine s_pu (pu_pick_f rfl rfl) ?_
    refine s_pu (pu_move rfl) ?_
    refine s_split 159 rfl (fun h159 => ?_) (fun h159 => by simp at h159)
    refine s_on rfl rfl ?_
    refine s_pu (pu_move rfl) ?_
    refine s_on rfl rfl ?_
    refine s_ef (ef_fn hnew rfl rfl (by repeat (first | exact Split.nil | (apply Split.cons; (repeat (first | with_reducible exact Take.here | apply Take.there)))))) ?_
    rintro v1 L1 ⟨pn, rfl, rfl⟩
    refine swl_app ?_
    refine s_on rfl rfl ?_
    refine s_ef (ef_fn (same_m pz n pn 0 _ _) rfl rfl (by repeat (first | exact Split.nil | (apply Split.cons; (repeat (first | with_reducible exact Take.here | apply Take.there)))))) ?_
    rintro v1 L1 ⟨b4, rfl, hb4, rfl⟩
    refine swl_app ?_
    first | refine s_pu (pu_pick_t rfl rfl) ?_ | refine s_pu (pu_pick_f rfl rfl) ?_
    refine s_pu (pu_assign rfl) ?_
    refine swl_sub _ (.cons (t := 6) rfl .nil) ?_
    refine swl_nil ?_
    refine then_n ?_
    refine swp_ret ?_
    obtain rfl : b4 = true := hb4.2 (fun _ => rfl)
    exact done_ret [ro μ] (.tmp rfl .nil) ⟨rfl, μ, [], Le.refl _, rfl⟩ (by repeat (first | exact Split.nil | (apply Split.cons; (repeat (first | with_reducible exact Take.here | apply Take.there)))))
end SX
