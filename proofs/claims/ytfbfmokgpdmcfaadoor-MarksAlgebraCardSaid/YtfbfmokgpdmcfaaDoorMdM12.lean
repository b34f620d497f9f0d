/- A part of the proof: walks of the seat's functions, by the rules of the texts that it imports. -/
import Derived.Test.YtfbfmokgpdmcfaaDoorMdM11
namespace SX
open Go Go.Proofs

theorem or_into (p n q m : Nat) (T : Nat → Bool) : Spec Tryd.prog 26 [.pointer (some ⟨p, 0, none⟩), .pointer (some ⟨q, 0, none⟩)] [mset p n (fun _ => false), mset q m T] (fun r L => r = .tuple #[] ∧ L = [mset p n (fun k => decide (k < n) && T k), mset q m T]) := spec_same (or_m p n q m (fun _ => false) T) (fun _ k => by simp)

set_option maxHeartbeats 2000000 in
theorem sizes_spec (μ : PH) (a b : Int) (lv : Value) (l : List Int) (hT : RowAt μ 0 0 tabV) (hl : Row μ lv 1 l.length (l.flatMap (icsk .i64))) : Spec Tryd.prog 5 [.int .i64 a, .int .i64 b, lv] [ro μ] (fun v L => v = .bool true ∧ ∃ μ' R, Le μ μ' ∧ L = ro μ' :: R) := by
  have hof := of_spec μ lv l b hl
  have hN : clampM a ≤ 1048576 := by unfold clampM; omega
  have hM : clampM b ≤ 1048576 := by unfold clampM; omega
  have hlast : (clampM a : Int) ≤ a ∨ a ≤ 0 ∨ a > 1048576 := by unfold clampM; omega
  have hnew := new_m a
  have hrn := rnew a
  generalize clampM a = N at *
  generalize clampM b = M at *
  have hTz := inL_out l M
  generalize inL l M = T at *
  obtain ⟨S1, hS1⟩ : ∃ S1 : Nat → Bool, S1 = fun k => decide (k < N) && T k := ⟨_, rfl⟩
  have hor := or_into (p := 0) (n := N) (q := 0) (m := M) T
  have hSz : ∀ k, N ≤ k → S1 k = false := fun k hk => by rw [hS1]; simp [Nat.not_lt.2 hk]
  have hST : ∀ k, S1 k = true → T k = true := fun k hk => by rw [hS1] at hk; exact (Bool.and_eq_true_iff.1 hk).2
  have hb : l.length ≤ maxLen := by obtain ⟨_, _, _, _, h1, h2, _⟩ := hl; omega
  simp only [maxLen] at hb
  obtain ⟨A, cap, hlv⟩ := hl.form'
  subst hlv
  have e0 : (elsTo N (fun _ => false)).length = 0 := by rw [elsTo_false]; rfl
  have hS1n : (elsTo N S1).length ≤ N := elsTo_len N S1
  have hTn : (elsTo M T).length ≤ M := elsTo_len M T
  have hless := cnt_less hST hSz hTz
  have hsame := cnt_same hST hSz hTz
  have hkey : ∀ x : Int, (decide (0 ≤ x) && T x.toNat) = true → (decide (0 ≤ x) && S1 x.toNat) = decide (x < N) := fun x h => by
    obtain ⟨h1, h2⟩ := Bool.and_eq_true_iff.1 h
    have h3 := of_decide_eq_true h1
    rw [h1, hS1]
    show (true && (decide (x.toNat < N) && T x.toNat)) = _
    rw [h2, Bool.and_true, Bool.true_and, decide_eq_decide]
    omega
  have hkey0 : ∀ x : Int, (decide (0 ≤ x) && T x.toNat) = false → (decide (0 ≤ x) && S1 x.toNat) = false := fun x h => by
    cases e : S1 x.toNat with
    | false => rw [Bool.and_false]
    | true => rw [hST _ e] at h; exact h
  refine Spec.of 108 Tryd.func5 rfl rfl rfl ?_
  refine swp_seq ?_
  refine swp_region ?_
  refine s_pu (pu_assign rfl) ?_
  refine swl_sub _ (.cons (t := 0) rfl (.cons (t := 1) rfl (.cons (t := 2) rfl .nil))) ?_
  refine swl_nil ?_
  refine then_n ?_
  refine swp_seq ?_
  refine swp_seq ?_
  refine swp_region ?_
  refine s_ef (ef_fn (holds_spec μ hT) rfl rfl (by repeat (first | exact Split.nil | (apply Split.cons; (repeat (first | with_reducible exact Take.here | apply Take.there)))))) ?_
  rintro v1 L1 ⟨rfl, rfl⟩
  refine swl_app ?_
  refine s_pu (pu_not rfl) ?_
  refine swl_sub _ (.cons (t := 0) rfl (.cons (t := 1) rfl (.cons (t := 2) rfl (.cons (t := 15) rfl .nil)))) ?_
  refine swl_nil ?_
  refine then_n ?_
  refine swp_cond (b := _) rfl (fun h15 => absurd h15 (by decide)) (fun h15 => ?_)
  refine swp_skip ?_
  refine then_n ?_
  refine swp_seq ?_
  refine swp_region ?_
  refine s_pu (pu_move rfl) ?_
  refine s_ef (ef_fn hnew rfl rfl (by repeat (first | exact Split.nil | (apply Split.cons; (repeat (first | with_reducible exact Take.here | apply Take.there)))))) ?_
  rintro v1 L1 ⟨ps, rfl, rfl⟩
  refine swl_app ?_
  refine s_pu (pu_move rfl) ?_
  refine s_pu (pu_move rfl) ?_
  refine s_ef (ef_fn hof rfl rfl (by repeat (first | exact Split.nil | (apply Split.cons; (repeat (first | with_reducible exact Take.here | apply Take.there)))))) ?_
  rintro v1 L1 ⟨po, rfl, rfl⟩
  refine swl_app ?_
  refine s_pu (pu_assign rfl) ?_
  refine s_pu (pu_assign rfl) ?_
  refine swl_sub _ (.cons (t := 0) rfl (.cons (t := 2) rfl (.cons (t := 7) rfl (.cons (t := 8) rfl .nil)))) ?_
  refine swl_nil ?_
  refine then_n ?_
  refine swp_seq ?_
  refine swp_region ?_
  refine s_pu (pu_move rfl) ?_
  refine s_ef (ef_fn hrn rfl rfl (by repeat (first | exact Split.nil | (apply Split.cons; (repeat (first | with_reducible exact Take.here | apply Take.there)))))) ?_
  rintro v1 L1 ⟨pw, bw, rfl, rfl⟩
  refine swl_app ?_
  refine s_pu (pu_assign rfl) ?_
  refine swl_sub _ (.cons (t := 0) rfl (.cons (t := 2) rfl (.cons (t := 7) rfl (.cons (t := 8) rfl (.cons (t := 9) rfl .nil))))) ?_
  refine swl_nil ?_
  refine then_n ?_
  refine swp_seq ?_
  refine swp_seq ?_
  refine swp_draw [8] _ [] (by simp only [List.append_nil]; exact Ent.refl _) (by kernel_rfl) ?_
  refine d_pu 0 rfl (pu_move rfl) (by kernel_rfl) (by kernel_rfl) (by kernel_rfl) ?_
  refine d_pu 1 rfl (pu_ptr_eq_nil rfl rfl) (by kernel_rfl) (by kernel_rfl) (by kernel_rfl) ?_
  refine d_pu 2 rfl (pu_move rfl) (by kernel_rfl) (by kernel_rfl) (by kernel_rfl) ?_
  refine d_pu_on 3 rfl rfl rfl (pu_move rfl) (by kernel_rfl) (by kernel_rfl) (by kernel_rfl) ?_
  refine d_pu_on 5 rfl rfl rfl (pu_move rfl) (by kernel_rfl) (by kernel_rfl) (by kernel_rfl) ?_
  first | refine d_pu_on 6 rfl rfl rfl (pu_nilCheck rfl) (by kernel_rfl) (by kernel_rfl) (by kernel_rfl) ?_ | refine d_pu_on 6 rfl rfl rfl (pu_nilCheck_fn rfl) (by kernel_rfl) (by kernel_rfl) (by kernel_rfl) ?_ | refine d_pu_on 6 rfl rfl rfl (pu_nilCheck_if rfl) (by kernel_rfl) (by kernel_rfl) (by kernel_rfl) ?_
  first | refine d_pu_on 7 rfl rfl rfl (pu_fieldAddr0 rfl) (by kernel_rfl) (by kernel_rfl) (by kernel_rfl) ?_ | refine d_pu_on 7 rfl rfl rfl (pu_fieldAddr rfl) (by kernel_rfl) (by kernel_rfl) (by kernel_rfl) ?_
  refine d_rd_on 8 rfl rfl rfl (rd_load rfl rfl) rfl (by kernel_rfl) (by kernel_rfl) (by kernel_rfl) ?_
  refine d_pu_on 9 rfl rfl rfl (pu_len rfl) (by kernel_rfl) (by kernel_rfl) (by kernel_rfl) ?_
  refine d_amb [4] (by kernel_rfl) rfl ?_
  refine dA_ef 4 rfl (GOn.some rfl rfl) (ef_fn (size_m ps N (fun _ => false)) rfl rfl (by repeat (first | exact Split.nil | (apply Split.cons; (repeat (first | with_reducible exact Take.here | apply Take.there)))))) ?_
  rintro v1 L1 ⟨rfl, rfl⟩
  refine ⟨_, ent_appC (Split.ent (by repeat (first | exact Split.nil | (apply Split.cons; (repeat (first | with_reducible exact Take.here | apply Take.there)))))), ?_⟩
  refine d_pu_on 10 rfl rfl rfl (pu_neq rfl rfl) (by kernel_rfl) (by kernel_rfl) (by kernel_rfl) ?_
  first | refine d_pu 11 rfl (pu_pick_t rfl rfl) (by kernel_rfl) (by kernel_rfl) (by kernel_rfl) ?_ | refine d_pu 11 rfl (pu_pick_f rfl rfl) (by kernel_rfl) (by kernel_rfl) (by kernel_rfl) ?_
  refine d_pu 12 rfl (pu_move rfl) (by kernel_rfl) (by kernel_rfl) (by kernel_rfl) ?_
  refine d_split 35 rfl (fun h35 => by simp at h35) (fun h35 => ?_)
  refine d_pu_on 13 rfl rfl rfl (pu_move rfl) (by kernel_rfl) (by kernel_rfl) (by kernel_rfl) ?_
  refine d_amb [14] (by kernel_rfl) rfl ?_
  first | refine dA_fint 14 rfl (GOn.some rfl rfl) (by kernel_rfl) (ef_fn (count_m ps N (fun _ => false)) rfl rfl (by repeat (first | exact Split.nil | (apply Split.cons; (repeat (first | with_reducible exact Take.here | apply Take.there)))))) ?_ | refine dA_finf 14 rfl (GOn.some rfl rfl) (by kernel_rfl) (ef_fn (count_m ps N (fun _ => false)) rfl rfl (by repeat (first | exact Split.nil | (apply Split.cons; (repeat (first | with_reducible exact Take.here | apply Take.there)))))) ?_
  rintro v1 L1 ⟨rfl, rfl⟩
  refine swd_app ?_
  rw [e0]
  refine d_pu_on 15 rfl rfl rfl (pu_neq rfl rfl) (by kernel_rfl) (by kernel_rfl) (by kernel_rfl) ?_
  first | refine d_pu 16 rfl (pu_pick_t rfl rfl) (by kernel_rfl) (by kernel_rfl) (by kernel_rfl) ?_ | refine d_pu 16 rfl (pu_pick_f rfl rfl) (by kernel_rfl) (by kernel_rfl) (by kernel_rfl) ?_
  refine d_pu 17 rfl (pu_move rfl) (by kernel_rfl) (by kernel_rfl) (by kernel_rfl) ?_
  refine d_pu_on 18 rfl rfl rfl (pu_move rfl) (by kernel_rfl) (by kernel_rfl) (by kernel_rfl) ?_
  refine d_amb [19] (by kernel_rfl) rfl ?_
  first | refine dA_fint 19 rfl (GOn.some rfl rfl) (by kernel_rfl) (ef_fn (next_m μ ps N (fun _ => false) 0 hT) rfl rfl (by repeat (first | exact Split.nil | (apply Split.cons; (repeat (first | with_reducible exact Take.here | apply Take.there)))))) ?_ | refine dA_finf 19 rfl (GOn.some rfl rfl) (by kernel_rfl) (ef_fn (next_m μ ps N (fun _ => false) 0 hT) rfl rfl (by repeat (first | exact Split.nil | (apply Split.cons; (repeat (first | with_reducible exact Take.here | apply Take.there)))))) ?_
  rintro v1 L1 ⟨x, rfl, hx, rfl⟩
  refine swd_app ?_
  obtain rfl : x = -1 := isNext_uniq hx (.inl ⟨rfl, fun _ _ => rfl⟩)
  refine d_pu_on 20 rfl rfl rfl (pu_neq rfl rfl) (by kernel_rfl) (by kernel_rfl) (by kernel_rfl) ?_
  first | refine d_pu 21 rfl (pu_pick_t rfl rfl) (by kernel_rfl) (by kernel_rfl) (by kernel_rfl) ?_ | refine d_pu 21 rfl (pu_pick_f rfl rfl) (by kernel_rfl) (by kernel_rfl) (by kernel_rfl) ?_
  refine d_pu 22 rfl (pu_move rfl) (by kernel_rfl) (by kernel_rfl) (by kernel_rfl) ?_
  refine d_pu_on 23 rfl rfl rfl (pu_move rfl) (by kernel_rfl) (by kernel_rfl) (by kernel_rfl) ?_
  refine d_pu_on 24 rfl rfl rfl (pu_move rfl) (by kernel_rfl) (by kernel_rfl) (by kernel_rfl) ?_
  refine d_amb [25] (by kernel_rfl) rfl ?_
  first | refine dA_fint 25 rfl (GOn.some rfl rfl) (by kernel_rfl) (ef_fn (last_m ps N (fun _ => false) a) rfl rfl (by repeat (first | exact Split.nil | (apply Split.cons; (repeat (first | with_reducible exact Take.here | apply Take.there)))))) ?_ | refine dA_finf 25 rfl (GOn.some rfl rfl) (by kernel_rfl) (ef_fn (last_m ps N (fun _ => false) a) rfl rfl (by repeat (first | exact Split.nil | (apply Split.cons; (repeat (first | with_reducible exact Take.here | apply Take.there)))))) ?_
  rintro v1 L1 ⟨x, rfl, hx, rfl⟩
  refine swd_app ?_
  obtain rfl : x = -1 := isLast_uniq hx (.inl ⟨rfl, fun _ _ => rfl⟩)
  refine d_pu_on 26 rfl rfl rfl (pu_neq rfl rfl) (by kernel_rfl) (by kernel_rfl) (by kernel_rfl) ?_
  first | refine d_pu 27 rfl (pu_pick_t rfl rfl) (by kernel_rfl) (by kernel_rfl) (by kernel_rfl) ?_ | refine d_pu 27 rfl (pu_pick_f rfl rfl) (by kernel_rfl) (by kernel_rfl) (by kernel_rfl) ?_
  refine d_sub _ (.cons (t := 2) rfl (.cons (t := 7) rfl (.cons (t := 8) rfl (.cons (t := 50) rfl .nil)))) ?_
  first | refine d_nilt (by kernel_rfl) ?_ | refine d_nilf (by kernel_rfl) ?_
  refine then_n ?_
  refine swp_cond (b := _) rfl (fun h50 => absurd h50 (by decide)) (fun h50 => ?_)
  refine swp_skip ?_
  refine then_n ?_
  refine swp_seq ?_
  refine swp_region ?_
  refine s_pu (pu_move rfl) ?_
  refine s_pu (pu_move rfl) ?_
  refine s_ef (ef_fn (hS1 ▸ or_into ps N po M T) rfl rfl (by repeat (first | exact Split.nil | (apply Split.cons; (repeat (first | with_reducible exact Take.here | apply Take.there)))))) ?_
  rintro v1 L1 ⟨rfl, rfl⟩
  refine swl_app ?_
  refine swl_sub _ (.cons (t := 2) rfl (.cons (t := 7) rfl (.cons (t := 8) rfl .nil))) ?_
  refine swl_nil ?_
  refine then_n ?_
  refine swp_seq ?_
  refine swp_seq ?_
  refine swp_region ?_
  refine s_pu (pu_move rfl) ?_
  refine s_pu (pu_len rfl) ?_
  refine s_pu (pu_move rfl) ?_
  refine swl_sub _ (.cons (t := 7) rfl (.cons (t := 8) rfl (.cons (t := 54) rfl (.cons (t := 55) rfl (.cons (t := 56) rfl .nil))))) ?_
  refine swl_nil ?_
  refine then_n ?_
  refine swp_block ?_
  refine swp_loop (ι := Nat) (fun i env L => env = [(7, .pointer (some ⟨ps, 0, none⟩)), (8, .pointer (some ⟨po, 0, none⟩)), (54, .slice A l.length cap), (55, .int .i64 (l.length : Nat)), (56, .int .i64 (i : Nat))] ∧ L = [mset ps N S1, mset po M T, ro μ, blk pw 39 [.slice (some ⟨bw, 0, none⟩) N N], blk bw 4 (rbs N (fun _ => false))] ∧ i ≤ l.length) (fun i => l.length - i) 0 ⟨rfl, rfl, Nat.zero_le _⟩ ?_
  rintro i env L ⟨rfl, rfl, hi⟩
  refine swp_seq ?_
  refine swp_region ?_
  refine s_pu (pu_lss rfl rfl) ?_
  refine swl_sub _ (.cons (t := 7) rfl (.cons (t := 8) rfl (.cons (t := 54) rfl (.cons (t := 55) rfl (.cons (t := 56) rfl (.cons (t := 57) rfl .nil)))))) ?_
  refine swl_nil ?_
  refine then_n ?_
  refine swp_seq ?_
  refine swp_cond (b := _) rfl (fun h57 => ?_) (fun h57 => ?_)
  · skip   -- 57 T
    have h57' : i < l.length := by have := of_decide_eq_true h57; omega
    obtain ⟨gb, off, cap', hv, c1, c2, hr⟩ := hl.pos (by omega)
    simp only [Value.slice.injEq, true_and] at hv
    obtain ⟨rfl, rfl⟩ := hv
    obtain ⟨x, hx⟩ : ∃ x, l[i]? = some x := ⟨_, List.getElem?_eq_getElem h57'⟩
    have hrk := hr.elem (icsk_len .i64) hx
    refine swp_skip ?_
    refine then_n ?_
    refine swp_seq ?_
    refine swp_block ?_
    refine swp_seq ?_
    refine swp_region ?_
    refine s_pu (pu_indexAddr (off + i * 1) rfl rfl (by omega) (by omega) (by rw [Int.toNat_natCast])) ?_
    refine s_rd (rd_ro rfl hrk.cell) ?_
    refine s_pu (pu_assign rfl) ?_
    refine swl_sub _ (.cons (t := 7) rfl (.cons (t := 8) rfl (.cons (t := 11) rfl (.cons (t := 54) rfl (.cons (t := 55) rfl (.cons (t := 56) rfl .nil)))))) ?_
    refine swl_nil ?_
    refine then_n ?_
    refine swp_seq ?_
    refine swp_region ?_
    refine s_pu (pu_move rfl) ?_
    refine s_pu (pu_move rfl) ?_
    refine s_ef (ef_fn (has_m ps N S1 x) rfl rfl (by repeat (first | exact Split.nil | (apply Split.cons; (repeat (first | with_reducible exact Take.here | apply Take.there)))))) ?_
    rintro v1 L1 ⟨rfl, rfl⟩
    refine swl_app ?_
    refine s_pu (pu_move rfl) ?_
    refine s_pu (pu_move rfl) ?_
    refine s_ef (ef_fn (has_m po M T x) rfl rfl (by repeat (first | exact Split.nil | (apply Split.cons; (repeat (first | with_reducible exact Take.here | apply Take.there)))))) ?_
    rintro v1 L1 ⟨rfl, rfl⟩
    refine swl_app ?_
    refine s_pu (pu_move rfl) ?_
    refine s_split 66 rfl (fun h66 => ?_) (fun h66 => ?_)
    · skip   -- 66 T
      refine s_on rfl rfl ?_
      refine s_pu (pu_move rfl) ?_
      refine s_on rfl rfl ?_
      refine s_pu (pu_move rfl) ?_
      refine s_on rfl rfl ?_
      refine s_ef (ef_fn (size_m ps N S1) rfl rfl (by repeat (first | exact Split.nil | (apply Split.cons; (repeat (first | with_reducible exact Take.here | apply Take.there)))))) ?_
      rintro v1 L1 ⟨rfl, rfl⟩
      refine swl_app ?_
      refine s_on rfl rfl ?_
      refine s_pu (pu_lss rfl rfl) ?_
      first | refine s_pu (pu_pick_t rfl rfl) ?_ | refine s_pu (pu_pick_f rfl rfl) ?_
      refine s_pu (pu_bool_ne rfl rfl) ?_
      refine swl_sub _ (.cons (t := 7) rfl (.cons (t := 8) rfl (.cons (t := 54) rfl (.cons (t := 55) rfl (.cons (t := 56) rfl (.cons (t := 72) rfl .nil)))))) ?_
      refine swl_nil ?_
      refine then_n ?_
      refine swp_cond (b := _) rfl (fun h72 => by first | (rw [hkey x h66, beq_self_eq_true] at h72; cases h72) | (rw [hkey0 x h66, h66, beq_self_eq_true] at h72; cases h72) | (rw [hkey0 x h66, beq_self_eq_true] at h72; cases h72)) (fun h72 => ?_)
      refine swp_skip ?_
      refine block_n ?_
      refine then_n ?_
      refine swp_region ?_
      refine s_pu (pu_add_as ((i + 1 : Nat) : Int) rfl rfl (by omega) (by omega) (by omega)) ?_
      refine s_pu (pu_move rfl) ?_
      refine swl_sub _ (.cons (t := 7) rfl (.cons (t := 8) rfl (.cons (t := 54) rfl (.cons (t := 55) rfl (.cons (t := 56) rfl .nil))))) ?_
      refine swl_ent (Split.ent' (K := [mset ps N S1, mset po M T, ro μ, blk pw 39 [.slice (some ⟨bw, 0, none⟩) N N], blk bw 4 (rbs N (fun _ => false))]) (by repeat (first | exact Split.nil | (apply Split.cons; (repeat (first | with_reducible exact Take.here | apply Take.there)))))) ?_
      refine swl_nil ?_
      exact then_n ⟨i + 1, ⟨rfl, rfl, h57'⟩, by omega⟩
    · skip   -- 66 F
      refine s_off rfl rfl rfl ?_
      refine s_off rfl rfl rfl ?_
      refine s_off rfl rfl rfl ?_
      refine s_off rfl rfl rfl ?_
      first | refine s_pu (pu_pick_t rfl rfl) ?_ | refine s_pu (pu_pick_f rfl rfl) ?_
      refine s_pu (pu_bool_ne rfl rfl) ?_
      refine swl_sub _ (.cons (t := 7) rfl (.cons (t := 8) rfl (.cons (t := 54) rfl (.cons (t := 55) rfl (.cons (t := 56) rfl (.cons (t := 72) rfl .nil)))))) ?_
      refine swl_nil ?_
      refine then_n ?_
      refine swp_cond (b := _) rfl (fun h72 => by first | (rw [hkey x h66, beq_self_eq_true] at h72; cases h72) | (rw [hkey0 x h66, h66, beq_self_eq_true] at h72; cases h72) | (rw [hkey0 x h66, beq_self_eq_true] at h72; cases h72)) (fun h72 => ?_)
      refine swp_skip ?_
      refine block_n ?_
      refine then_n ?_
      refine swp_region ?_
      refine s_pu (pu_add_as ((i + 1 : Nat) : Int) rfl rfl (by omega) (by omega) (by omega)) ?_
      refine s_pu (pu_move rfl) ?_
      refine swl_sub _ (.cons (t := 7) rfl (.cons (t := 8) rfl (.cons (t := 54) rfl (.cons (t := 55) rfl (.cons (t := 56) rfl .nil))))) ?_
      refine swl_ent (Split.ent' (K := [mset ps N S1, mset po M T, ro μ, blk pw 39 [.slice (some ⟨bw, 0, none⟩) N N], blk bw 4 (rbs N (fun _ => false))]) (by repeat (first | exact Split.nil | (apply Split.cons; (repeat (first | with_reducible exact Take.here | apply Take.there)))))) ?_
      refine swl_nil ?_
      exact then_n ⟨i + 1, ⟨rfl, rfl, h57'⟩, by omega⟩
  · skip   -- 57 F
    refine swp_exit ?_
    refine then_x ?_
    refine then_x ?_
    refine block_hit rfl ?_
    refine then_n ?_
    refine swp_seq ?_
    refine swp_region ?_
    refine s_pu (pu_move rfl) ?_
    refine s_ef (ef_fn (copy_m ps N S1) rfl rfl (by repeat (first | exact Split.nil | (apply Split.cons; (repeat (first | with_reducible exact Take.here | apply Take.there)))))) ?_
    rintro v1 L1 ⟨pt, rfl, rfl⟩
    refine swl_app ?_
    refine s_pu (pu_assign rfl) ?_
    refine swl_sub _ (.cons (t := 7) rfl (.cons (t := 8) rfl (.cons (t := 12) rfl .nil))) ?_
    refine swl_nil ?_
    refine then_n ?_
    refine swp_seq ?_
    refine swp_region ?_
    refine s_pu (pu_move rfl) ?_
    refine s_pu (pu_move rfl) ?_
    refine s_ef (ef_fn (spec_same (and_m' pt N po M S1 T) (U := S1) (fun _ k => by cases e : S1 k with | false => rfl | true => rw [hST k e]; rfl)) rfl rfl (by repeat (first | exact Split.nil | (apply Split.cons; (repeat (first | with_reducible exact Take.here | apply Take.there)))))) ?_
    rintro v1 L1 ⟨rfl, rfl⟩
    refine swl_app ?_
    refine swl_sub _ (.cons (t := 7) rfl (.cons (t := 8) rfl (.cons (t := 12) rfl .nil))) ?_
    refine swl_nil ?_
    refine then_n ?_
    refine swp_seq ?_
    refine swp_region ?_
    refine s_pu (pu_move rfl) ?_
    refine s_ef (ef_fn (copy_m po M T) rfl rfl (by repeat (first | exact Split.nil | (apply Split.cons; (repeat (first | with_reducible exact Take.here | apply Take.there)))))) ?_
    rintro v1 L1 ⟨pc, rfl, rfl⟩
    refine swl_app ?_
    refine s_pu (pu_assign rfl) ?_
    refine swl_sub _ (.cons (t := 7) rfl (.cons (t := 8) rfl (.cons (t := 12) rfl (.cons (t := 13) rfl .nil)))) ?_
    refine swl_nil ?_
    refine then_n ?_
    refine swp_seq ?_
    refine swp_region ?_
    refine s_pu (pu_move rfl) ?_
    refine s_pu (pu_move rfl) ?_
    refine s_ef (ef_fn (less_m' pc M pt N T S1) rfl rfl (by repeat (first | exact Split.nil | (apply Split.cons; (repeat (first | with_reducible exact Take.here | apply Take.there)))))) ?_
    rintro v1 L1 ⟨rfl, rfl⟩
    refine swl_app ?_
    refine swl_sub _ (.cons (t := 7) rfl (.cons (t := 8) rfl (.cons (t := 12) rfl (.cons (t := 13) rfl .nil)))) ?_
    refine swl_nil ?_
    refine then_n ?_
    refine swp_seq ?_
    refine swp_region ?_
    refine s_pu (pu_move rfl) ?_
    refine s_pu (pu_move rfl) ?_
    refine s_ef (ef_fn (same_m pt N ps N S1 S1) rfl rfl (by repeat (first | exact Split.nil | (apply Split.cons; (repeat (first | with_reducible exact Take.here | apply Take.there)))))) ?_
    rintro v1 L1 ⟨b1, rfl, hb1, rfl⟩
    refine swl_app ?_
    obtain rfl : b1 = true := hb1.2 (fun _ => rfl)
    refine s_pu (pu_move rfl) ?_
    refine s_on rfl rfl ?_
    refine s_pu (pu_move rfl) ?_
    refine s_on rfl rfl ?_
    refine s_ef (ef_fn (count_m pc M _) rfl rfl (by repeat (first | exact Split.nil | (apply Split.cons; (repeat (first | with_reducible exact Take.here | apply Take.there)))))) ?_
    rintro v1 L1 ⟨rfl, rfl⟩
    refine swl_app ?_
    refine s_on rfl rfl ?_
    refine s_pu (pu_move rfl) ?_
    refine s_on rfl rfl ?_
    refine s_ef (ef_fn (count_m po M T) rfl rfl (by repeat (first | exact Split.nil | (apply Split.cons; (repeat (first | with_reducible exact Take.here | apply Take.there)))))) ?_
    rintro v1 L1 ⟨rfl, rfl⟩
    refine swl_app ?_
    refine s_on rfl rfl ?_
    refine s_pu (pu_move rfl) ?_
    refine s_on rfl rfl ?_
    refine s_ef (ef_fn (count_m ps N S1) rfl rfl (by repeat (first | exact Split.nil | (apply Split.cons; (repeat (first | with_reducible exact Take.here | apply Take.there)))))) ?_
    rintro v1 L1 ⟨rfl, rfl⟩
    refine swl_app ?_
    refine s_on rfl rfl ?_
    refine s_pu (pu_sub_as ((elsTo M fun k => T k && !S1 k).length : Int) rfl rfl (by omega) (by omega) (by omega)) ?_
    refine s_on rfl rfl ?_
    refine s_pu (pu_eql rfl rfl) ?_
    first | refine s_pu (pu_pick_t rfl rfl) ?_ | refine s_pu (pu_pick_f rfl rfl) ?_
    refine s_pu (pu_move rfl) ?_
    refine s_split 97 rfl (fun h97 => ?_) (fun h97 => by simp at h97)
    refine s_on rfl rfl ?_
    refine s_pu (pu_move rfl) ?_
    refine s_on rfl rfl ?_
    refine s_pu (pu_move rfl) ?_
    refine s_on rfl rfl ?_
    refine s_ef (ef_fn (same_m ps N po M S1 T) rfl rfl (by repeat (first | exact Split.nil | (apply Split.cons; (repeat (first | with_reducible exact Take.here | apply Take.there)))))) ?_
    rintro v1 L1 ⟨b2, rfl, hb2, rfl⟩
    refine swl_app ?_
    refine s_on rfl rfl ?_
    refine s_pu (pu_move rfl) ?_
    refine s_on rfl rfl ?_
    refine s_ef (ef_fn (count_m ps N S1) rfl rfl (by repeat (first | exact Split.nil | (apply Split.cons; (repeat (first | with_reducible exact Take.here | apply Take.there)))))) ?_
    rintro v1 L1 ⟨rfl, rfl⟩
    refine swl_app ?_
    refine s_on rfl rfl ?_
    refine s_pu (pu_move rfl) ?_
    refine s_on rfl rfl ?_
    refine s_ef (ef_fn (count_m po M T) rfl rfl (by repeat (first | exact Split.nil | (apply Split.cons; (repeat (first | with_reducible exact Take.here | apply Take.there)))))) ?_
    rintro v1 L1 ⟨rfl, rfl⟩
    refine swl_app ?_
    refine s_on rfl rfl ?_
    refine s_pu (pu_eql rfl rfl) ?_
    refine s_on rfl rfl ?_
    refine s_pu (pu_bool_eq rfl rfl) ?_
    first | refine s_pu (pu_pick_t rfl rfl) ?_ | refine s_pu (pu_pick_f rfl rfl) ?_
    refine s_pu (pu_assign rfl) ?_
    refine swl_sub _ (.cons (t := 6) rfl .nil) ?_
    refine swl_nil ?_
    refine then_n ?_
    refine swp_ret ?_
    exact done_ret [ro μ] (.tmp rfl .nil) ⟨by rw [show b2 = decide (((elsTo N S1).length : Int) = ((elsTo M T).length : Int)) from bool_iff hb2 (by rw [decide_eq_true_eq, hsame]; omega), beq_self_eq_true]; rfl, μ, [], Le.refl _, rfl⟩ (by repeat (first | exact Split.nil | (apply Split.cons; (repeat (first | with_reducible exact Take.here | apply Take.there)))))
end SX
