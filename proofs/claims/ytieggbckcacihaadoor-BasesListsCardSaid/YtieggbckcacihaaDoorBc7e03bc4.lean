/- A part of the proof: walks of the program's functions, and the rules by which they go. -/
import Derived.Test.YtieggbckcacihaaDoorBc5211fd1
import Derived.Test.YtieggbckcacihaaDoorRows
import Derived.Test.YtieggbckcacihaaDoorBacd125b5
import Derived.ProofKit
import Derived.LaidMore
import Derived.OpenShut
import Derived.Stop.Joined
namespace SX
open Go Go.Proofs

set_option maxHeartbeats 2000000 in
theorem rmany_spec (μ : PH) (v lv : Value) (G : List (Value × List Int)) (xs : List Int) (hG : Graph μ v G) (hbig : G.length ≤ 1048576) (hg : Good (nums G)) (hv : Row μ lv 1 xs.length (xs.flatMap (icsk .i64))) :
    Spec Tryd.prog 36 [v, lv] [ro μ] (fun r L => ∃ rv, r = .tuple #[rv, .int .i64 (manyE (nums G) xs)] ∧ L = [own 3 1 rv (manyA (nums G) xs).length ((manyA (nums G) xs).flatMap (icsk .i64)), ro μ]) := by
  have hln : (nums G).length = G.length := List.length_map _
  have hvs := hv.small
  obtain ⟨Ag, cg, rfl⟩ := hG.1.sl
  refine Spec.of 55 Tryd.func36 rfl rfl rfl ?_
  refine swp_seq ?_
  refine swp_region ?_
  refine s_pu (pu_assign rfl) ?_
  refine s_pu (pu_assign rfl) ?_
  refine swl_sub _ (.cons (t := 0) rfl (.cons (t := 1) rfl .nil)) ?_
  refine swl_nil ?_
  refine then_n ?_
  refine swp_seq ?_
  refine swp_seq ?_
  refine swp_region ?_
  refine s_pu (pu_move rfl) ?_
  refine s_pu (pu_len_row hv rfl) ?_
  refine s_pu (pu_eql rfl rfl) ?_
  refine swl_sub _ (.cons (t := 0) rfl (.cons (t := 1) rfl (.cons (t := 12) rfl .nil))) ?_
  refine swl_nil ?_
  refine then_n ?_
  refine swp_cond (b := _) rfl (fun h12 => ?_) (fun h12 => ?_)
  · skip   -- 12 T
    have hl0 : xs.length = 0 := by have := of_decide_eq_true h12; omega
    have he : manyE (nums G) xs = 1 := if_pos hl0
    refine swp_seq ?_
    refine swp_region ?_
    refine s_pu (pu_assign rfl) ?_
    refine s_pu (pu_assign rfl) ?_
    refine swl_sub _ (.cons (t := 4) rfl (.cons (t := 5) rfl .nil)) ?_
    refine swl_nil ?_
    refine then_n ?_
    refine swp_ret ?_
    refine then_r ?_
    refine done_retE [own 3 1 (.slice none 0 0) (manyA (nums G) xs).length ((manyA (nums G) xs).flatMap (icsk .i64)), ro μ] (.tmp rfl (.tmp rfl .nil)) ⟨_, by rw [he]; rfl, rfl⟩ ?_
    rw [manyA, if_neg (by rw [he]; decide)]
    exact own_nil_ent
  · skip   -- 12 F
    have hl0 : xs.length ≠ 0 := by have := of_decide_eq_false h12; omega
    have hE : manyE (nums G) xs = if unkB G.length xs = true then 9 else 0 := by rw [show manyE (nums G) xs = askedE (nums G).length [xs] from if_neg hl0, askedE_one, hln]
    refine swp_skip ?_
    refine then_n ?_
    refine swp_seq ?_
    refine swp_seq ?_
    refine swp_region ?_
    refine s_pu (pu_move rfl) ?_
    refine s_pu (pu_move rfl) ?_
    refine s_ef (ef_fn (unknown_spec _ lv G.length xs [ro μ] hG.1.sl (Ints.row hv)) rfl rfl (by repeat (first | exact Split.nil | (apply Split.cons; (repeat (first | with_reducible exact Take.here | apply Take.there)))))) ?_
    rintro v15 L1 ⟨rfl, rfl⟩
    refine swl_app ?_
    refine swl_sub _ (.cons (t := 0) rfl (.cons (t := 1) rfl (.cons (t := 15) rfl .nil))) ?_
    refine swl_nil ?_
    refine then_n ?_
    refine swp_cond (b := _) rfl (fun h15 => ?_) (fun h15 => ?_)
    · skip   -- 15 T
      have he : manyE (nums G) xs = 9 := by rw [hE, if_pos h15]
      refine swp_seq ?_
      refine swp_region ?_
      refine s_pu (pu_assign rfl) ?_
      refine s_pu (pu_assign rfl) ?_
      refine swl_sub _ (.cons (t := 4) rfl (.cons (t := 5) rfl .nil)) ?_
      refine swl_nil ?_
      refine then_n ?_
      refine swp_ret ?_
      refine then_r ?_
      refine done_retE [own 3 1 (.slice none 0 0) (manyA (nums G) xs).length ((manyA (nums G) xs).flatMap (icsk .i64)), ro μ] (.tmp rfl (.tmp rfl .nil)) ⟨_, by rw [he]; rfl, rfl⟩ ?_
      rw [manyA, if_neg (by rw [he]; decide)]
      exact own_nil_ent
    · skip   -- 15 F
      have he : manyE (nums G) xs = 0 := by rw [hE, if_neg (by rw [h15]; exact Bool.false_ne_true)]
      have hx : ∀ p ∈ xs, 0 ≤ p ∧ p < (nums G).length := askedE_in (by rw [← show manyE (nums G) xs = askedE (nums G).length [xs] from if_neg hl0]; exact he) (by simp)
      rw [hln] at hx
      obtain ⟨c0, hc0⟩ : ∃ c, xs[0]? = some c := ⟨_, List.getElem?_eq_getElem (by omega)⟩
      obtain ⟨pb0, po0, pc0, hpv0, hpc0⟩ := hv.at_ hc0
      have hcr0 := hx c0 (List.mem_of_getElem? hc0)
      obtain ⟨c0, rfl⟩ : ∃ k : Nat, c0 = k := ⟨c0.toNat, by omega⟩
      refine swp_skip ?_
      refine then_n ?_
      refine swp_seq ?_
      refine swp_region ?_
      refine s_pu (pu_move rfl) ?_
      refine s_pu (pu_move rfl) ?_
      refine s_pu (pu_indexAddr (po0 + 0 * 1) (congrArg some hpv0) rfl (by omega) (by omega) rfl) ?_
      refine s_rd (rd_ro rfl hpc0) ?_
      refine s_ef (ef_fn (rup_spec μ _ G c0 hG (by omega) hg (by omega)) rfl rfl (by repeat (first | exact Split.nil | (apply Split.cons; (repeat (first | with_reducible exact Take.here | apply Take.there)))))) ?_
      rintro v20 L1 ⟨b, rfl, rfl⟩
      refine swl_app ?_
      refine s_pu (pu_assign rfl) ?_
      refine swl_sub _ (.cons (t := 0) rfl (.cons (t := 1) rfl (.cons (t := 6) rfl .nil))) ?_
      refine swl_nil ?_
      refine then_n ?_
      refine swp_seq ?_
      refine swp_seq ?_
      refine swp_region ?_
      refine s_pu (pu_assign rfl) ?_
      refine swl_sub _ (.cons (t := 0) rfl (.cons (t := 1) rfl (.cons (t := 6) rfl (.cons (t := 7) rfl .nil)))) ?_
      refine swl_nil ?_
      refine then_n ?_
      refine swp_block ?_
      have hS1 : up (nums G) c0 = manyS (nums G) (xs.take (0 + 1)) := funext fun j => by
        rw [List.take_add_one, hc0]
        unfold manyS; simp
      rw [hS1]
      refine swp_sub _ (.cons (t := 0) rfl (.cons (t := 1) rfl (.cons (t := 6) rfl (.cons (t := 7) rfl .nil)))) ?_
      refine swp_loop (ι := Nat) (fun k env L => env = [(0, .slice Ag G.length cg), (1, lv), (6, .slice (some ⟨b, 0, none⟩) G.length G.length), (7, .int .i64 ((k + 1 : Nat) : Int))]
        ∧ Ent L [blk b 4 (rbs G.length (manyS (nums G) (xs.take (k + 1)))), ro μ] ∧ k + 1 ≤ xs.length) (fun k => xs.length - k) 0 ⟨rfl, Split.ent' (by repeat (first | exact Split.nil | (apply Split.cons; (repeat (first | with_reducible exact Take.here | apply Take.there))))), by omega⟩ ?_
      rintro k env L ⟨rfl, hLk, hk⟩
      refine swp_ent hLk ?_
      refine swp_seq ?_
      refine swp_seq ?_
      refine swp_region ?_
      refine s_pu (pu_move rfl) ?_
      refine s_pu (pu_move rfl) ?_
      refine s_pu (pu_len_row hv rfl) ?_
      refine s_pu (pu_lss rfl rfl) ?_
      refine swl_sub _ (.cons (t := 0) rfl (.cons (t := 1) rfl (.cons (t := 6) rfl (.cons (t := 7) rfl (.cons (t := 24) rfl .nil))))) ?_
      refine swl_nil ?_
      refine then_n ?_
      refine swp_cond (b := _) rfl (fun h24 => ?_) (fun h24 => ?_)
      · skip   -- 24 T
        have h24' : k + 1 < xs.length := by have := of_decide_eq_true h24; omega
        obtain ⟨c, hc⟩ : ∃ c, xs[k + 1]? = some c := ⟨_, List.getElem?_eq_getElem h24'⟩
        obtain ⟨pb, po, pc, hpv, hpc⟩ := hv.at_ hc
        have hcr := hx c (List.mem_of_getElem? hc)
        obtain ⟨c, rfl⟩ : ∃ k : Nat, c = k := ⟨c.toNat, by omega⟩
        refine swp_skip ?_
        refine then_n ?_
        refine swp_seq ?_
        refine swp_block ?_
        refine swp_seq ?_
        refine swp_region ?_
        refine s_pu (pu_move rfl) ?_
        refine s_pu (pu_move rfl) ?_
        refine s_pu (pu_move rfl) ?_
        refine s_pu (pu_indexAddr (po + (k + 1) * 1) (congrArg some hpv) rfl (by omega) (by omega) (by rw [Int.toNat_natCast])) ?_
        refine s_rd (rd_ro rfl hpc) ?_
        refine s_ef (ef_fn (rup_spec μ _ G c hG (by omega) hg (by omega)) rfl rfl (by repeat (first | exact Split.nil | (apply Split.cons; (repeat (first | with_reducible exact Take.here | apply Take.there)))))) ?_
        rintro v32 L1 ⟨d, rfl, rfl⟩
        refine swl_app ?_
        refine s_pu (pu_assign rfl) ?_
        refine swl_sub _ (.cons (t := 0) rfl (.cons (t := 1) rfl (.cons (t := 6) rfl (.cons (t := 7) rfl (.cons (t := 8) rfl .nil))))) ?_
        refine swl_nil ?_
        refine then_n ?_
        refine swp_seq ?_
        refine swp_region ?_
        refine s_pu (pu_assign rfl) ?_
        refine swl_sub _ (.cons (t := 0) rfl (.cons (t := 1) rfl (.cons (t := 6) rfl (.cons (t := 7) rfl (.cons (t := 8) rfl (.cons (t := 9) rfl .nil)))))) ?_
        refine swl_nil ?_
        refine then_n ?_
        refine swp_block ?_
        generalize hAe : manyS (nums G) (xs.take (k + 1)) = A at *
        generalize hBe : up (nums G) c = B at *
        rw [show rbs G.length A = rbs G.length (andS A B 0) from rbs_ext fun j _ => by simp [andS]]
        refine swp_sub _ (.cons (t := 0) rfl (.cons (t := 1) rfl (.cons (t := 6) rfl (.cons (t := 7) rfl (.cons (t := 8) rfl (.cons (t := 9) rfl .nil)))))) ?_
        refine swp_loop (ι := Nat) (fun i env L => env = [(0, .slice Ag G.length cg), (1, lv), (6, .slice (some ⟨b, 0, none⟩) G.length G.length), (7, .int .i64 ((k + 1 : Nat) : Int)), (8, .slice (some ⟨d, 0, none⟩) G.length G.length), (9, .int .i64 (i : Nat))]
          ∧ Ent L [blk b 4 (rbs G.length (andS A B i)), blk d 4 (rbs G.length B), ro μ] ∧ i ≤ G.length) (fun i => G.length - i) 0 ⟨rfl, Split.ent' (by repeat (first | exact Split.nil | (apply Split.cons; (repeat (first | with_reducible exact Take.here | apply Take.there))))), Nat.zero_le _⟩ ?_
        rintro i env L ⟨rfl, hLi, hi⟩
        refine swp_ent hLi ?_
        refine swp_seq ?_
        refine swp_seq ?_
        refine swp_region ?_
        refine s_pu (pu_move rfl) ?_
        refine s_pu (pu_move rfl) ?_
        refine s_pu (pu_len rfl) ?_
        refine s_pu (pu_lss rfl rfl) ?_
        refine swl_sub _ (.cons (t := 0) rfl (.cons (t := 1) rfl (.cons (t := 6) rfl (.cons (t := 7) rfl (.cons (t := 8) rfl (.cons (t := 9) rfl (.cons (t := 36) rfl .nil))))))) ?_
        refine swl_nil ?_
        refine then_n ?_
        refine swp_cond (b := _) rfl (fun h36 => ?_) (fun h36 => ?_)
        · skip   -- 36 T
          have h36' : i < G.length := by have := of_decide_eq_true h36; omega
          have hst : ∀ z : Bool, z = (A i && B i) → (rbs G.length (andS A B i)).set i (.bool z) = rbs G.length (andS A B (i + 1)) := fun z hz => rbs_set (fun j _ => by
            by_cases e : j = i
            · subst e; rw [if_pos rfl, hz]; unfold andS; rw [decide_eq_false (show ¬ j + 1 ≤ j by omega), Bool.false_or]
            · rw [if_neg e]
              unfold andS
              rw [show decide (i + 1 ≤ j) = decide (i ≤ j) by rw [Bool.eq_iff_iff, decide_eq_true_eq, decide_eq_true_eq]; omega])
          have hci : andS A B i i = A i := by unfold andS; rw [decide_eq_true (Nat.le_refl i)]; simp
          refine swp_skip ?_
          refine then_n ?_
          refine swp_seq ?_
          refine swp_block ?_
          refine swp_region ?_
          refine s_pu (pu_move rfl) ?_
          refine s_pu (pu_move rfl) ?_
          refine s_pu (pu_move rfl) ?_
          refine s_pu (pu_move rfl) ?_
          refine s_pu (pu_indexAddr i rfl rfl (by omega) (by omega) (by omega)) ?_
          refine s_rd (rd_load rfl (rbs_get _ h36')) ?_
          refine s_pu (pu_move rfl) ?_
          refine s_split 45 rfl (fun h45 => ?_) (fun h45 => ?_)
          · skip   -- 45 T
            refine s_on rfl rfl ?_
            refine s_pu (pu_move rfl) ?_
            refine s_on rfl rfl ?_
            refine s_pu (pu_move rfl) ?_
            refine s_on rfl rfl ?_
            refine s_pu (pu_indexAddr i rfl rfl (by omega) (by omega) (by omega)) ?_
            refine s_on rfl rfl ?_
            refine s_rd (rd_load rfl (rbs_get _ h36')) ?_
            first | refine s_pu (pu_pick_t rfl rfl) ?_ | refine s_pu (pu_pick_f rfl rfl) ?_
            refine s_pu (pu_indexAddr i rfl rfl (by omega) (by omega) (by omega)) ?_
            refine s_ef0 (ef_storeP rfl rfl rfl (by rw [rbs_len]; omega)) ?_
            refine swl_sub _ (.cons (t := 0) rfl (.cons (t := 1) rfl (.cons (t := 6) rfl (.cons (t := 7) rfl (.cons (t := 8) rfl (.cons (t := 9) rfl .nil)))))) ?_
            rw [hst _ (by rw [← hci, h45, Bool.true_and])]
            refine swl_nil ?_
            refine block_n ?_
            refine then_n ?_
            refine swp_region ?_
            refine s_pu (pu_move rfl) ?_
            refine s_pu (pu_add_as ((i + 1 : Nat) : Int) rfl rfl (by omega) (by omega) (by omega)) ?_
            refine s_pu (pu_assign rfl) ?_
            refine swl_sub _ (.cons (t := 0) rfl (.cons (t := 1) rfl (.cons (t := 6) rfl (.cons (t := 7) rfl (.cons (t := 8) rfl (.cons (t := 9) rfl .nil)))))) ?_
            refine swl_nil ?_
            exact then_n ⟨i + 1, ⟨rfl, Split.ent' (by repeat (first | exact Split.nil | (apply Split.cons; (repeat (first | with_reducible exact Take.here | apply Take.there))))), h36'⟩, by omega⟩
          · skip   -- 45 F
            refine s_off rfl rfl rfl ?_
            refine s_off rfl rfl rfl ?_
            refine s_off rfl rfl rfl ?_
            refine s_off rfl rfl rfl ?_
            first | refine s_pu (pu_pick_t rfl rfl) ?_ | refine s_pu (pu_pick_f rfl rfl) ?_
            refine s_pu (pu_indexAddr i rfl rfl (by omega) (by omega) (by omega)) ?_
            refine s_ef0 (ef_storeP rfl rfl rfl (by rw [rbs_len]; omega)) ?_
            refine swl_sub _ (.cons (t := 0) rfl (.cons (t := 1) rfl (.cons (t := 6) rfl (.cons (t := 7) rfl (.cons (t := 8) rfl (.cons (t := 9) rfl .nil)))))) ?_
            rw [hst _ (by rw [← hci, h45]; rfl)]
            refine swl_nil ?_
            refine block_n ?_
            refine then_n ?_
            refine swp_region ?_
            refine s_pu (pu_move rfl) ?_
            refine s_pu (pu_add_as ((i + 1 : Nat) : Int) rfl rfl (by omega) (by omega) (by omega)) ?_
            refine s_pu (pu_assign rfl) ?_
            refine swl_sub _ (.cons (t := 0) rfl (.cons (t := 1) rfl (.cons (t := 6) rfl (.cons (t := 7) rfl (.cons (t := 8) rfl (.cons (t := 9) rfl .nil)))))) ?_
            refine swl_nil ?_
            exact then_n ⟨i + 1, ⟨rfl, Split.ent' (by repeat (first | exact Split.nil | (apply Split.cons; (repeat (first | with_reducible exact Take.here | apply Take.there))))), h36'⟩, by omega⟩
        · skip   -- 36 F
          have h36' := of_decide_eq_false h36
          obtain rfl : i = G.length := by omega
          have hS2 : rbs G.length (andS A B G.length) = rbs G.length (manyS (nums G) (xs.take (k + 1 + 1))) := rbs_ext fun j hj => by
            rw [← hAe, ← hBe, List.take_add_one (i := k + 1), hc]
            unfold andS manyS
            rw [List.all_append, decide_eq_false (show ¬ G.length ≤ j by omega)]; simp
          rw [hS2]
          refine swp_exit ?_
          refine then_x ?_
          refine then_x ?_
          refine block_hit rfl ?_
          refine block_n ?_
          refine then_n ?_
          refine swp_region ?_
          refine s_pu (pu_move rfl) ?_
          refine s_pu (pu_add_as ((k + 1 + 1 : Nat) : Int) rfl rfl (by omega) (by omega) (by omega)) ?_
          refine s_pu (pu_assign rfl) ?_
          refine swl_sub _ (.cons (t := 0) rfl (.cons (t := 1) rfl (.cons (t := 6) rfl (.cons (t := 7) rfl .nil)))) ?_
          refine swl_nil ?_
          exact then_n ⟨k + 1, ⟨rfl, Split.ent' (by repeat (first | exact Split.nil | (apply Split.cons; (repeat (first | with_reducible exact Take.here | apply Take.there))))), h24'⟩, by omega⟩
      · skip   -- 24 F
        have h24' := of_decide_eq_false h24
        rw [show k + 1 = xs.length by omega, List.take_length]
        refine swp_exit ?_
        refine then_x ?_
        refine then_x ?_
        refine block_hit rfl ?_
        refine then_n ?_
        refine swp_seq ?_
        refine swp_region ?_
        refine s_pu (pu_move rfl) ?_
        refine s_pu (pu_move rfl) ?_
        refine s_ef (ef_fn (rbest_spec μ Ag cg b G (manyS (nums G) xs) hG (by omega) hg) rfl rfl (by repeat (first | exact Split.nil | (apply Split.cons; (repeat (first | with_reducible exact Take.here | apply Take.there)))))) ?_
        rintro v54 L1 rfl
        refine swl_app ?_
        rw [show elsTo G.length (bestT (nums G) (manyS (nums G) xs) G.length) = manyA (nums G) xs by rw [manyA, if_pos he, hln]]
        refine s_pu (pu_assign rfl) ?_
        refine s_pu (pu_assign rfl) ?_
        refine swl_sub _ (.cons (t := 4) rfl (.cons (t := 5) rfl .nil)) ?_
        refine swl_nil ?_
        refine then_n ?_
        refine swp_ret ?_
        exact done_ret [own 3 1 v54 (manyA (nums G) xs).length ((manyA (nums G) xs).flatMap (icsk .i64)), ro μ] (.tmp rfl (.tmp rfl .nil)) ⟨_, by rw [he]; rfl, rfl⟩ (by repeat (first | exact Split.nil | (apply Split.cons; (repeat (first | with_reducible exact Take.here | apply Take.there)))))
def cutB (S T : Nat → Bool) (c i : Nat) : Nat → Bool := fun j => S j && !(decide (j < i) && (T j && !decide (j = c)))
set_option maxHeartbeats 2000000 in
theorem rindep_spec (μ : PH) (v lv : Value) (G : List (Value × List Int)) (xs : List Int) (hG : Graph μ v G) (hbig : G.length ≤ 1048576) (hg : Good (nums G)) (hv : Row μ lv 1 xs.length (xs.flatMap (icsk .i64))) :
    Spec Tryd.prog 40 [v, lv] [ro μ] (fun r L => ∃ rv, r = .tuple #[rv, .int .i64 (askedE (nums G).length [xs])] ∧ L = [own 3 1 rv (indA (nums G) xs).length ((indA (nums G) xs).flatMap (icsk .i64)), ro μ]) := by
  have hln : (nums G).length = G.length := List.length_map _
  have hvs := hv.small
  refine Spec.of 64 Tryd.func40 rfl rfl rfl ?_
  refine swp_seq ?_
  refine swp_region ?_
  refine s_pu (pu_assign rfl) ?_
  refine s_pu (pu_assign rfl) ?_
  refine swl_sub _ (.cons (t := 0) rfl (.cons (t := 1) rfl .nil)) ?_
  refine swl_nil ?_
  refine then_n ?_
  refine swp_seq ?_
  refine swp_seq ?_
  refine swp_region ?_
  refine s_pu (pu_move rfl) ?_
  refine s_pu (pu_move rfl) ?_
  refine s_ef (ef_fn (unknown_spec _ lv G.length xs [ro μ] hG.1.sl (Ints.row hv)) rfl rfl (by repeat (first | exact Split.nil | (apply Split.cons; (repeat (first | with_reducible exact Take.here | apply Take.there)))))) ?_
  rintro v13 L1 ⟨rfl, rfl⟩
  refine swl_app ?_
  refine swl_sub _ (.cons (t := 0) rfl (.cons (t := 1) rfl (.cons (t := 13) rfl .nil))) ?_
  refine swl_nil ?_
  refine then_n ?_
  refine swp_cond (b := _) rfl (fun h13 => ?_) (fun h13 => ?_)
  · skip   -- 13 T
    have he : askedE (nums G).length [xs] = 9 := by rw [askedE_one, hln, if_pos h13]
    refine swp_seq ?_
    refine swp_region ?_
    refine s_pu (pu_assign rfl) ?_
    refine s_pu (pu_assign rfl) ?_
    refine swl_sub _ (.cons (t := 4) rfl (.cons (t := 5) rfl .nil)) ?_
    refine swl_nil ?_
    refine then_n ?_
    refine swp_ret ?_
    refine then_r ?_
    refine done_retE [own 3 1 (.slice none 0 0) (indA (nums G) xs).length ((indA (nums G) xs).flatMap (icsk .i64)), ro μ] (.tmp rfl (.tmp rfl .nil)) ⟨_, by rw [he]; rfl, rfl⟩ ?_
    rw [indA, if_neg (by rw [he]; decide)]
    exact own_nil_ent
  · skip   -- 13 F
    have he : askedE (nums G).length [xs] = 0 := by rw [askedE_one, hln, if_neg (by rw [h13]; exact Bool.false_ne_true)]
    have hx := askedE_in (l := xs) he (by simp)
    rw [hln] at hx
    refine swp_skip ?_
    refine then_n ?_
    refine swp_seq ?_
    refine swp_region ?_
    refine s_pu (pu_move rfl) ?_
    refine s_pu (pu_len_row hG.1 rfl) ?_
    refine s_ef (ef_make1 G.length rfl rfl rfl (by omega) (by simp only [maxLen]; omega)) ?_
    rintro b16
    skip
    refine s_pu (pu_assign rfl) ?_
    refine swl_sub _ (.cons (t := 0) rfl (.cons (t := 1) rfl (.cons (t := 6) rfl .nil))) ?_
    refine swl_nil ?_
    refine then_n ?_
    refine swp_seq ?_
    refine swp_seq ?_
    refine swp_region ?_
    refine s_pu (pu_assign rfl) ?_
    refine swl_sub _ (.cons (t := 0) rfl (.cons (t := 1) rfl (.cons (t := 6) rfl (.cons (t := 7) rfl .nil)))) ?_
    refine swl_nil ?_
    refine then_n ?_
    refine swp_block ?_
    rw [show List.replicate G.length (Value.bool false) = rbs G.length (seedS (xs.take 0)) by rw [rbs_false]; exact rbs_ext fun j _ => by simp [seedS]]
    refine swp_sub _ (.cons (t := 0) rfl (.cons (t := 1) rfl (.cons (t := 6) rfl (.cons (t := 7) rfl .nil)))) ?_
    refine swp_loop (ι := Nat) (fun i env L => env = [(0, v), (1, lv), (6, .slice (some ⟨b16, 0, none⟩) G.length G.length), (7, .int .i64 (i : Nat))] ∧ L = [blk b16 4 (rbs G.length (seedS (xs.take i))), ro μ] ∧ i ≤ xs.length) (fun i => xs.length - i) 0 ⟨rfl, rfl, Nat.zero_le _⟩ ?_
    rintro i env L ⟨rfl, rfl, hi⟩
    refine swp_seq ?_
    refine swp_seq ?_
    refine swp_region ?_
    refine s_pu (pu_move rfl) ?_
    refine s_pu (pu_move rfl) ?_
    refine s_pu (pu_len_row hv rfl) ?_
    refine s_pu (pu_lss rfl rfl) ?_
    refine swl_sub _ (.cons (t := 0) rfl (.cons (t := 1) rfl (.cons (t := 6) rfl (.cons (t := 7) rfl (.cons (t := 20) rfl .nil))))) ?_
    refine swl_nil ?_
    refine then_n ?_
    refine swp_cond (b := _) rfl (fun h20 => ?_) (fun h20 => ?_)
    · skip   -- 20 T
      have h20' : i < xs.length := by have := of_decide_eq_true h20; omega
      obtain ⟨x, hxx⟩ : ∃ x, xs[i]? = some x := ⟨_, List.getElem?_eq_getElem h20'⟩
      obtain ⟨pb, po, pc, hpv, hpc⟩ := hv.at_ hxx
      have hxr := hx x (List.mem_of_getElem? hxx)
      obtain ⟨k, rfl⟩ : ∃ k : Nat, x = k := ⟨x.toNat, by omega⟩
      refine swp_skip ?_
      refine then_n ?_
      refine swp_seq ?_
      refine swp_block ?_
      refine swp_region ?_
      refine s_pu (pu_move rfl) ?_
      refine s_pu (pu_move rfl) ?_
      refine s_pu (pu_move rfl) ?_
      refine s_pu (pu_indexAddr (po + i * 1) (congrArg some hpv) rfl (by omega) (by omega) (by rw [Int.toNat_natCast])) ?_
      refine s_rd (rd_ro rfl hpc) ?_
      refine s_pu (pu_indexAddr k rfl rfl (by omega) (by omega) (by omega)) ?_
      refine s_ef0 (ef_storeP rfl rfl rfl (by rw [rbs_len]; omega)) ?_
      refine swl_sub _ (.cons (t := 0) rfl (.cons (t := 1) rfl (.cons (t := 6) rfl (.cons (t := 7) rfl .nil)))) ?_
      rw [rbs_set (T := seedS (xs.take (i + 1))) (fun y _ => by
        rw [List.take_add_one, hxx]
        unfold seedS
        by_cases e : y = k
        · subst e; simp
        · have : (y : Int) ≠ k := by omega
          simp [e, this])]
      refine swl_nil ?_
      refine block_n ?_
      refine then_n ?_
      refine swp_region ?_
      refine s_pu (pu_move rfl) ?_
      refine s_pu (pu_add_as ((i + 1 : Nat) : Int) rfl rfl (by omega) (by omega) (by omega)) ?_
      refine s_pu (pu_assign rfl) ?_
      refine swl_sub _ (.cons (t := 0) rfl (.cons (t := 1) rfl (.cons (t := 6) rfl (.cons (t := 7) rfl .nil)))) ?_
      refine swl_nil ?_
      exact then_n ⟨i + 1, ⟨rfl, rfl, h20'⟩, by omega⟩
    · skip   -- 20 F
      have h20' := of_decide_eq_false h20
      obtain rfl : i = xs.length := by omega
      rw [List.take_length]
      refine swp_exit ?_
      refine then_x ?_
      refine then_x ?_
      refine block_hit rfl ?_
      refine then_n ?_
      refine swp_seq ?_
      refine swp_seq ?_
      refine swp_region ?_
      refine s_pu (pu_assign rfl) ?_
      refine swl_sub _ (.cons (t := 0) rfl (.cons (t := 1) rfl (.cons (t := 6) rfl (.cons (t := 8) rfl .nil)))) ?_
      refine swl_nil ?_
      refine then_n ?_
      refine swp_block ?_
      rw [show rbs G.length (seedS xs) = rbs G.length (fun j => seedS xs j && !belowS (nums G) (xs.take 0) j) from rbs_ext fun j _ => by simp [belowS]]
      refine swp_sub _ (.cons (t := 0) rfl (.cons (t := 1) rfl (.cons (t := 6) rfl (.cons (t := 8) rfl .nil)))) ?_
      refine swp_loop (ι := Nat) (fun k env L => env = [(0, v), (1, lv), (6, .slice (some ⟨b16, 0, none⟩) G.length G.length), (8, .int .i64 (k : Nat))]
        ∧ Ent L [blk b16 4 (rbs G.length (fun j => seedS xs j && !belowS (nums G) (xs.take k) j)), ro μ] ∧ k ≤ xs.length) (fun k => xs.length - k) 0 ⟨rfl, Split.ent' (by repeat (first | exact Split.nil | (apply Split.cons; (repeat (first | with_reducible exact Take.here | apply Take.there))))), Nat.zero_le _⟩ ?_
      rintro k env L ⟨rfl, hLk, hk⟩
      refine swp_ent hLk ?_
      refine swp_seq ?_
      refine swp_seq ?_
      refine swp_region ?_
      refine s_pu (pu_move rfl) ?_
      refine s_pu (pu_move rfl) ?_
      refine s_pu (pu_len_row hv rfl) ?_
      refine s_pu (pu_lss rfl rfl) ?_
      refine swl_sub _ (.cons (t := 0) rfl (.cons (t := 1) rfl (.cons (t := 6) rfl (.cons (t := 8) rfl (.cons (t := 32) rfl .nil))))) ?_
      refine swl_nil ?_
      refine then_n ?_
      refine swp_cond (b := _) rfl (fun h32 => ?_) (fun h32 => ?_)
      · skip   -- 32 T
        have h32' : k < xs.length := by have := of_decide_eq_true h32; omega
        obtain ⟨c, hc⟩ : ∃ c, xs[k]? = some c := ⟨_, List.getElem?_eq_getElem h32'⟩
        obtain ⟨pb, po, pc, hpv, hpc⟩ := hv.at_ hc
        have hcr := hx c (List.mem_of_getElem? hc)
        obtain ⟨c, rfl⟩ : ∃ k : Nat, c = k := ⟨c.toNat, by omega⟩
        refine swp_skip ?_
        refine then_n ?_
        refine swp_seq ?_
        refine swp_block ?_
        refine swp_seq ?_
        refine swp_region ?_
        refine s_pu (pu_move rfl) ?_
        refine s_pu (pu_move rfl) ?_
        refine s_pu (pu_move rfl) ?_
        refine s_pu (pu_indexAddr (po + k * 1) (congrArg some hpv) rfl (by omega) (by omega) (by rw [Int.toNat_natCast])) ?_
        refine s_rd (rd_ro rfl hpc) ?_
        refine s_ef (ef_fn (rup_spec μ _ G c hG (by omega) hg (by omega)) rfl rfl (by repeat (first | exact Split.nil | (apply Split.cons; (repeat (first | with_reducible exact Take.here | apply Take.there)))))) ?_
        rintro v40 L1 ⟨d, rfl, rfl⟩
        refine swl_app ?_
        refine s_pu (pu_assign rfl) ?_
        refine swl_sub _ (.cons (t := 0) rfl (.cons (t := 1) rfl (.cons (t := 6) rfl (.cons (t := 8) rfl (.cons (t := 9) rfl .nil))))) ?_
        refine swl_nil ?_
        refine then_n ?_
        refine swp_seq ?_
        refine swp_region ?_
        refine s_pu (pu_assign rfl) ?_
        refine swl_sub _ (.cons (t := 0) rfl (.cons (t := 1) rfl (.cons (t := 6) rfl (.cons (t := 8) rfl (.cons (t := 9) rfl (.cons (t := 10) rfl .nil)))))) ?_
        refine swl_nil ?_
        refine then_n ?_
        refine swp_block ?_
        generalize hAe : (fun j => seedS xs j && !belowS (nums G) (xs.take k) j) = A at *
        generalize hBe : up (nums G) c = B at *
        rw [show rbs G.length A = rbs G.length (cutB A B c 0) from rbs_ext fun j _ => by simp [cutB]]
        refine swp_sub _ (.cons (t := 0) rfl (.cons (t := 1) rfl (.cons (t := 6) rfl (.cons (t := 8) rfl (.cons (t := 9) rfl (.cons (t := 10) rfl .nil)))))) ?_
        refine swp_loop (ι := Nat) (fun i env L => env = [(0, v), (1, lv), (6, .slice (some ⟨b16, 0, none⟩) G.length G.length), (8, .int .i64 (k : Nat)), (9, .slice (some ⟨d, 0, none⟩) G.length G.length), (10, .int .i64 (i : Nat))]
          ∧ Ent L [blk b16 4 (rbs G.length (cutB A B c i)), blk d 4 (rbs G.length B), ro μ] ∧ i ≤ G.length) (fun i => G.length - i) 0 ⟨rfl, Split.ent' (by repeat (first | exact Split.nil | (apply Split.cons; (repeat (first | with_reducible exact Take.here | apply Take.there))))), Nat.zero_le _⟩ ?_
        rintro i env L ⟨rfl, hLi, hi⟩
        refine swp_ent hLi ?_
        refine swp_seq ?_
        refine swp_seq ?_
        refine swp_region ?_
        refine s_pu (pu_move rfl) ?_
        refine s_pu (pu_move rfl) ?_
        refine s_pu (pu_len rfl) ?_
        refine s_pu (pu_lss rfl rfl) ?_
        refine swl_sub _ (.cons (t := 0) rfl (.cons (t := 1) rfl (.cons (t := 6) rfl (.cons (t := 8) rfl (.cons (t := 9) rfl (.cons (t := 10) rfl (.cons (t := 44) rfl .nil))))))) ?_
        refine swl_nil ?_
        refine then_n ?_
        refine swp_cond (b := _) rfl (fun h44 => ?_) (fun h44 => ?_)
        · skip   -- 44 T
          have h44' : i < G.length := by have := of_decide_eq_true h44; omega
          have hlt : ∀ j, ¬ j = i → decide (j < i + 1) = decide (j < i) := fun j e => by rw [Bool.eq_iff_iff, decide_eq_true_eq, decide_eq_true_eq]; omega
          have hno : (B i && !decide (i = c)) = false → rbs G.length (cutB A B c i) = rbs G.length (cutB A B c (i + 1)) := fun h => rbs_ext fun j _ => by
            unfold cutB
            by_cases e : j = i
            · subst e; rw [h]; simp
            · rw [hlt j e]
          have hye : (B i && !decide (i = c)) = true → (rbs G.length (cutB A B c i)).set i (.bool false) = rbs G.length (cutB A B c (i + 1)) := fun h => rbs_set fun j _ => by
            unfold cutB
            by_cases e : j = i
            · subst e; rw [if_pos rfl, h]; simp
            · rw [if_neg e, hlt j e]
          refine swp_skip ?_
          refine then_n ?_
          refine swp_seq ?_
          refine swp_block ?_
          refine swp_seq ?_
          refine swp_region ?_
          refine s_pu (pu_move rfl) ?_
          refine s_pu (pu_move rfl) ?_
          refine s_pu (pu_indexAddr i rfl rfl (by omega) (by omega) (by omega)) ?_
          refine s_rd (rd_load rfl (rbs_get _ h44')) ?_
          refine s_pu (pu_move rfl) ?_
          refine s_split 51 rfl (fun h51 => ?_) (fun h51 => ?_)
          · skip   -- 51 T
            refine s_on rfl rfl ?_
            refine s_pu (pu_move rfl) ?_
            refine s_on rfl rfl ?_
            refine s_pu (pu_move rfl) ?_
            refine s_on rfl rfl ?_
            refine s_pu (pu_move rfl) ?_
            refine s_on rfl rfl ?_
            refine s_pu (pu_indexAddr (po + k * 1) (congrArg some hpv) rfl (by omega) (by omega) (by rw [Int.toNat_natCast])) ?_
            refine s_on rfl rfl ?_
            refine s_rd (rd_ro rfl hpc) ?_
            refine s_on rfl rfl ?_
            refine s_pu (pu_neq rfl rfl) ?_
            first | refine s_pu (pu_pick_t rfl rfl) ?_ | refine s_pu (pu_pick_f rfl rfl) ?_
            refine swl_sub _ (.cons (t := 0) rfl (.cons (t := 1) rfl (.cons (t := 6) rfl (.cons (t := 8) rfl (.cons (t := 9) rfl (.cons (t := 10) rfl (.cons (t := 58) rfl .nil))))))) ?_
            refine swl_nil ?_
            refine then_n ?_
            refine swp_cond (b := _) rfl (fun h58 => ?_) (fun h58 => ?_)
            · skip   -- 58 T
              refine swp_region ?_
              refine s_pu (pu_move rfl) ?_
              refine s_pu (pu_move rfl) ?_
              refine s_pu (pu_indexAddr i rfl rfl (by omega) (by omega) (by omega)) ?_
              refine s_ef0 (ef_storeP rfl rfl rfl (by rw [rbs_len]; omega)) ?_
              refine swl_sub _ (.cons (t := 0) rfl (.cons (t := 1) rfl (.cons (t := 6) rfl (.cons (t := 8) rfl (.cons (t := 9) rfl (.cons (t := 10) rfl .nil)))))) ?_
              rw [hye (by
                simp only [Bool.not_eq_true', decide_eq_false_iff_not] at h58
                rw [h51, decide_eq_false (fun e => h58 (by rw [e]))]; rfl)]
              refine swl_nil ?_
              refine block_n ?_
              refine then_n ?_
              refine swp_region ?_
              refine s_pu (pu_move rfl) ?_
              refine s_pu (pu_add_as ((i + 1 : Nat) : Int) rfl rfl (by omega) (by omega) (by omega)) ?_
              refine s_pu (pu_assign rfl) ?_
              refine swl_sub _ (.cons (t := 0) rfl (.cons (t := 1) rfl (.cons (t := 6) rfl (.cons (t := 8) rfl (.cons (t := 9) rfl (.cons (t := 10) rfl .nil)))))) ?_
              refine swl_nil ?_
              exact then_n ⟨i + 1, ⟨rfl, Split.ent' (by repeat (first | exact Split.nil | (apply Split.cons; (repeat (first | with_reducible exact Take.here | apply Take.there))))), h44'⟩, by omega⟩
            · skip   -- 58 F
              rw [hno (by
                simp only [Bool.not_eq_false', decide_eq_true_eq] at h58
                rw [show i = c by omega]; simp)]
              refine swp_skip ?_
              refine block_n ?_
              refine then_n ?_
              refine swp_region ?_
              refine s_pu (pu_move rfl) ?_
              refine s_pu (pu_add_as ((i + 1 : Nat) : Int) rfl rfl (by omega) (by omega) (by omega)) ?_
              refine s_pu (pu_assign rfl) ?_
              refine swl_sub _ (.cons (t := 0) rfl (.cons (t := 1) rfl (.cons (t := 6) rfl (.cons (t := 8) rfl (.cons (t := 9) rfl (.cons (t := 10) rfl .nil)))))) ?_
              refine swl_nil ?_
              exact then_n ⟨i + 1, ⟨rfl, Split.ent' (by repeat (first | exact Split.nil | (apply Split.cons; (repeat (first | with_reducible exact Take.here | apply Take.there))))), h44'⟩, by omega⟩
          · skip   -- 51 F
            refine s_off rfl rfl rfl ?_
            refine s_off rfl rfl rfl ?_
            refine s_off rfl rfl rfl ?_
            refine s_off rfl rfl rfl ?_
            refine s_off rfl rfl rfl ?_
            refine s_off rfl rfl rfl ?_
            first | refine s_pu (pu_pick_t rfl rfl) ?_ | refine s_pu (pu_pick_f rfl rfl) ?_
            refine swl_sub _ (.cons (t := 0) rfl (.cons (t := 1) rfl (.cons (t := 6) rfl (.cons (t := 8) rfl (.cons (t := 9) rfl (.cons (t := 10) rfl (.cons (t := 58) rfl .nil))))))) ?_
            refine swl_nil ?_
            refine then_n ?_
            refine swp_cond (b := _) rfl (fun h58 => by cases h58) (fun h58 => ?_)
            rw [hno (by rw [h51]; rfl)]
            refine swp_skip ?_
            refine block_n ?_
            refine then_n ?_
            refine swp_region ?_
            refine s_pu (pu_move rfl) ?_
            refine s_pu (pu_add_as ((i + 1 : Nat) : Int) rfl rfl (by omega) (by omega) (by omega)) ?_
            refine s_pu (pu_assign rfl) ?_
            refine swl_sub _ (.cons (t := 0) rfl (.cons (t := 1) rfl (.cons (t := 6) rfl (.cons (t := 8) rfl (.cons (t := 9) rfl (.cons (t := 10) rfl .nil)))))) ?_
            refine swl_nil ?_
            exact then_n ⟨i + 1, ⟨rfl, Split.ent' (by repeat (first | exact Split.nil | (apply Split.cons; (repeat (first | with_reducible exact Take.here | apply Take.there))))), h44'⟩, by omega⟩
        · skip   -- 44 F
          have h44' := of_decide_eq_false h44
          obtain rfl : i = G.length := by omega
          have hS2 : rbs G.length (cutB A B c G.length) = rbs G.length (fun j => seedS xs j && !belowS (nums G) (xs.take (k + 1)) j) := rbs_ext fun j hj => by
            rw [← hAe, ← hBe, List.take_add_one, hc]
            unfold cutB belowS
            rw [List.any_append, decide_eq_true hj, Bool.and_assoc]; simp
          rw [hS2]
          refine swp_exit ?_
          refine then_x ?_
          refine then_x ?_
          refine block_hit rfl ?_
          refine block_n ?_
          refine then_n ?_
          refine swp_region ?_
          refine s_pu (pu_move rfl) ?_
          refine s_pu (pu_add_as ((k + 1 : Nat) : Int) rfl rfl (by omega) (by omega) (by omega)) ?_
          refine s_pu (pu_assign rfl) ?_
          refine swl_sub _ (.cons (t := 0) rfl (.cons (t := 1) rfl (.cons (t := 6) rfl (.cons (t := 8) rfl .nil)))) ?_
          refine swl_nil ?_
          exact then_n ⟨k + 1, ⟨rfl, Split.ent' (by repeat (first | exact Split.nil | (apply Split.cons; (repeat (first | with_reducible exact Take.here | apply Take.there))))), h32'⟩, by omega⟩
      · skip   -- 32 F
        have h32' := of_decide_eq_false h32
        obtain rfl : k = xs.length := by omega
        rw [List.take_length, show (fun j => seedS xs j && !belowS (nums G) xs j) = indS (nums G) xs from rfl]
        refine swp_exit ?_
        refine then_x ?_
        refine then_x ?_
        refine block_hit rfl ?_
        refine then_n ?_
        refine swp_seq ?_
        refine swp_region ?_
        refine s_pu (pu_move rfl) ?_
        refine s_ef (ef_fn (rlist_spec b16 G.length (indS (nums G) xs) hbig) rfl rfl (by repeat (first | exact Split.nil | (apply Split.cons; (repeat (first | with_reducible exact Take.here | apply Take.there)))))) ?_
        rintro v63 L1 rfl
        refine swl_app ?_
        rw [show elsTo G.length (indS (nums G) xs) = indA (nums G) xs by rw [indA, if_pos he, hln]]
        refine s_pu (pu_assign rfl) ?_
        refine s_pu (pu_assign rfl) ?_
        refine swl_sub _ (.cons (t := 4) rfl (.cons (t := 5) rfl .nil)) ?_
        refine swl_nil ?_
        refine then_n ?_
        refine swp_ret ?_
        exact done_ret [own 3 1 v63 (indA (nums G) xs).length ((indA (nums G) xs).flatMap (icsk .i64)), ro μ] (.tmp rfl (.tmp rfl .nil)) ⟨_, by rw [he]; rfl, rfl⟩ (by repeat (first | exact Split.nil | (apply Split.cons; (repeat (first | with_reducible exact Take.here | apply Take.there)))))
end SX
namespace SX
open Go Go.Proofs

section
variable {μ : PH} {vg vn : Value} {G : List (Value × List Int)} {gs : List Int} {k : Nat}
theorem g_merge (h : GS μ vg vn G gs k) (p : Nat) (a0 : Nat → Nat) (h0 : ∀ c, a0 c ≤ 4611686018427387904) (a b : Int) (hT : RowAt μ 0 0 tabV) :
    Spec Tryd.prog 31 [gV p, .int .i64 a, .int .i64 b] [gA p vg vn G.length a0, ro μ] (fun r L => ∃ lv zs μ', askedIn (nums G).length zs ∧ Le μ μ' ∧ r = .tuple #[lv, .int .i64 (onlyE (nums G) [a] [b])] ∧ L = [own 3 1 lv (sidesA (nums G) [a] [b]).length ((sidesA (nums G) [a] [b]).flatMap (icsk .i64)), gA p vg vn G.length (zs.foldl ask1 a0), ro μ']) :=
  merge_spec (h.src p) a0 μ a b hT (Le.refl _) (gSrc_fine h0)
theorem g_sides (h : GS μ vg vn G gs k) (p : Nat) (a0 : Nat → Nat) (h0 : ∀ c, a0 c ≤ 4611686018427387904) (v u : Value) (xs ys : List Int) (hT : RowAt μ 0 0 tabV) (hv : Row μ v 1 xs.length (xs.flatMap (icsk .i64))) (hu : Row μ u 1 ys.length (ys.flatMap (icsk .i64))) :
    Spec Tryd.prog 37 [gV p, v, u] [gA p vg vn G.length a0, ro μ] (fun r L => ∃ lv zs μ', askedIn (nums G).length zs ∧ Le μ μ' ∧ r = .tuple #[lv, .int .i64 (onlyE (nums G) xs ys)] ∧ L = [own 3 1 lv (sidesA (nums G) xs ys).length ((sidesA (nums G) xs ys).flatMap (icsk .i64)), gA p vg vn G.length (zs.foldl ask1 a0), ro μ']) :=
  sides_spec (h.src p) a0 μ v u xs ys hT hv hu (Le.refl _) (gSrc_fine h0)
theorem g_many (h : GS μ vg vn G gs k) (p : Nat) (a0 : Nat → Nat) (h0 : ∀ c, a0 c ≤ 4611686018427387904) (v : Value) (xs : List Int) (hT : RowAt μ 0 0 tabV) (hv : Row μ v 1 xs.length (xs.flatMap (icsk .i64))) :
    Spec Tryd.prog 35 [gV p, v] [gA p vg vn G.length a0, ro μ] (fun r L => ∃ lv zs μ', askedIn (nums G).length zs ∧ Le μ μ' ∧ r = .tuple #[lv, .int .i64 (manyE (nums G) xs)] ∧ L = [own 3 1 lv (manyA (nums G) xs).length ((manyA (nums G) xs).flatMap (icsk .i64)), gA p vg vn G.length (zs.foldl ask1 a0), ro μ']) :=
  many_spec (h.src p) a0 μ v xs (Nat.zero_le _) hT hv (Le.refl _) (gSrc_fine h0)
theorem g_indep (h : GS μ vg vn G gs k) (p : Nat) (a0 : Nat → Nat) (h0 : ∀ c, a0 c ≤ 4611686018427387904) (v : Value) (xs : List Int) (hT : RowAt μ 0 0 tabV) (hv : Row μ v 1 xs.length (xs.flatMap (icsk .i64))) :
    Spec Tryd.prog 39 [gV p, v] [gA p vg vn G.length a0, ro μ] (fun r L => ∃ lv zs μ', askedIn (nums G).length zs ∧ Le μ μ' ∧ r = .tuple #[lv, .int .i64 (askedE (nums G).length [xs])] ∧ L = [own 3 1 lv (indA (nums G) xs).length ((indA (nums G) xs).flatMap (icsk .i64)), gA p vg vn G.length (zs.foldl ask1 a0), ro μ']) :=
  indep_spec (h.src p) a0 μ v xs (Nat.zero_le _) hT hv (Le.refl _) (gSrc_fine h0)
end
abbrev g0X : List (List Int) := [[], [0], [0], [1, 2], [2, 1]]
theorem crossed_spec (μ : PH) : Spec Tryd.prog 60 [] [ro μ] (fun r L => ∃ p μ' v' vn gs G0, Le μ μ' ∧ r = .pointer (some ⟨p, 0, none⟩) ∧ GS μ' v' vn G0 gs 9 ∧ nums G0 = g0X ∧ L = [gA p v' vn G0.length noAsk, ro μ']) := by
  refine Spec.of 7 Tryd.func60 rfl rfl rfl ?_
  refine swp_seq ?_
  refine swp_region ?_
  refine s_pu (pu_assign rfl) ?_
  refine swl_sub _ .nil ?_
  refine swl_nil ?_
  refine then_n ?_
  refine swp_seq ?_
  refine swp_region ?_
  refine s_ef (ef_bldS (qs := [(0, _)]) rfl rfl rfl) ?_
  intro b1
  refine s_ef (ef_bldS (qs := [(0, _)]) rfl rfl rfl) ?_
  intro b2
  refine s_ef (ef_bldS (qs := [(0, _), (1, _)]) rfl rfl rfl) ?_
  intro b3
  refine s_ef (ef_bldS (qs := [(0, _), (1, _)]) rfl rfl rfl) ?_
  intro b4
  refine s_ef (ef_bldS (qs := [(0, _), (1, _), (2, _), (3, _), (4, _)]) rfl rfl rfl) ?_
  intro b5
  refine swl_share (b := b1) (μ := μ) (by repeat (first | exact Split.nil | (apply Split.cons; (repeat (first | with_reducible exact Take.here | apply Take.there))))) fun μ1 h1 k1 => ?_
  refine swl_share (b := b2) (μ := μ1) (by repeat (first | exact Split.nil | (apply Split.cons; (repeat (first | with_reducible exact Take.here | apply Take.there))))) fun μ2 h2 k2 => ?_
  refine swl_share (b := b3) (μ := μ2) (by repeat (first | exact Split.nil | (apply Split.cons; (repeat (first | with_reducible exact Take.here | apply Take.there))))) fun μ3 h3 k3 => ?_
  refine swl_share (b := b4) (μ := μ3) (by repeat (first | exact Split.nil | (apply Split.cons; (repeat (first | with_reducible exact Take.here | apply Take.there))))) fun μ4 h4 k4 => ?_
  refine swl_share (b := b5) (μ := μ4) (by repeat (first | exact Split.nil | (apply Split.cons; (repeat (first | with_reducible exact Take.here | apply Take.there))))) fun μ5 h5 k5 => ?_
  have r1 := (row_of_blk (n := 1) (l := 1) (cs := [0].flatMap (icsk .i64)) k1 (by rfl) (by decide)).le (h2.trans (h3.trans (h4.trans h5)))
  have r2 := (row_of_blk (n := 1) (l := 1) (cs := [0].flatMap (icsk .i64)) k2 (by rfl) (by decide)).le (h3.trans (h4.trans h5))
  have r3 := (row_of_blk (n := 1) (l := 2) (cs := [1, 2].flatMap (icsk .i64)) k3 (by rfl) (by decide)).le (h4.trans h5)
  have r4 := (row_of_blk (n := 1) (l := 2) (cs := [2, 1].flatMap (icsk .i64)) k4 (by rfl) (by decide)).le h5
  have hG : Graph μ5 (.slice (some ⟨b5, 0, none⟩) 5 5) [(.slice none 0 0, []), (.slice (some ⟨b1, 0, none⟩) 1 1, [0]), (.slice (some ⟨b2, 0, none⟩) 1 1, [0]), (.slice (some ⟨b3, 0, none⟩) 2 2, [1, 2]), (.slice (some ⟨b4, 0, none⟩) 2 2, [2, 1])] := by
    refine ⟨row_of_blk k5 (by rfl) (by decide), fun x hx => ?_⟩
    rcases List.mem_cons.1 hx with rfl | hx
    · exact Row.nil _ _
    rcases List.mem_cons.1 hx with rfl | hx
    · exact r1
    rcases List.mem_cons.1 hx with rfl | hx
    · exact r2
    rcases List.mem_cons.1 hx with rfl | hx
    · exact r3
    obtain rfl := List.mem_singleton.1 hx
    exact r4
  have hrs : ∀ x ∈ [((.slice none 0 0 : Value), ([] : List Int)), (.slice (some ⟨b1, 0, none⟩) 1 1, [0]), (.slice (some ⟨b2, 0, none⟩) 1 1, [0]), (.slice (some ⟨b3, 0, none⟩) 2 2, [1, 2]), (.slice (some ⟨b4, 0, none⟩) 2 2, [2, 1])], x.2.length ≤ 17592186043904 := fun x hx => by simp at hx; rcases hx with rfl | rfl | rfl | rfl | rfl <;> simp
  have hle := h1.trans (h2.trans (h3.trans (h4.trans h5)))
  obtain ⟨G0, hG0, hnum, hr0, hlen⟩ : ∃ G0, Graph μ5 (.slice (some ⟨b5, 0, none⟩) 5 5) G0 ∧ nums G0 = [[], [0], [0], [1, 2], [2, 1]] ∧ (∀ x ∈ G0, x.2.length ≤ 17592186043904) ∧ G0.length = 5 := ⟨_, hG, rfl, hrs, rfl⟩
  clear hG hrs
  refine s_ef (ef_fn (good_spec μ5 _ G0 9 9 hG0 (by omega) (by decide) hr0) rfl rfl (by repeat (first | exact Split.nil | (apply Split.cons; (repeat (first | with_reducible exact Take.here | apply Take.there)))))) ?_
  rintro v6 L1 ⟨μ6, h6, hgd⟩
  rw [show min G0.length 9 = G0.length by omega, List.take_length] at hgd
  obtain ⟨p, v', vn, gs, rfl, hG', ha, hv, rfl⟩ : ∃ p v' vn gs, v6 = .pointer (some ⟨p, 0, none⟩) ∧ Graph μ6 v' G0 ∧ moreG [] (nums G0) = some gs ∧ Row μ6 vn 1 (cutG 9 gs).length ((cutG 9 gs).flatMap (icsk .i64)) ∧ L1 = [gA p v' vn G0.length noAsk, ro μ6] := by
    rcases hgd with ⟨h, _⟩ | h
    · rw [hnum] at h; exact absurd walks_all.1 h
    · exact h
  refine swl_app ?_
  refine s_pu (pu_assign rfl) ?_
  refine swl_sub _ (.cons (t := 0) rfl .nil) ?_
  refine swl_nil ?_
  refine then_n ?_
  refine swp_ret ?_
  exact done_ret [gA p v' vn G0.length noAsk, ro μ6] (.tmp rfl .nil) ⟨p, μ6, v', vn, gs, G0, hle.trans h6, rfl, ⟨hG', ha, hv, by omega, hr0⟩, hnum, rfl⟩ (by repeat (first | exact Split.nil | (apply Split.cons; (repeat (first | with_reducible exact Take.here | apply Take.there)))))
theorem meets_all : onlyE g0X [3] [4] = 0 ∧ sidesA g0X [3] [4] = [1, 2] ∧ manyE g0X [3, 4, 1] = 0 ∧ manyA g0X [3, 4, 1] = [1] ∧ askedE g0X.length [[0, 3, 1, 4, 3]] = 0 ∧ indA g0X [0, 3, 1, 4, 3] = [3, 4] := by decide +kernel
set_option maxHeartbeats 2000000 in
theorem meets_spec (μ : PH) (hT : RowAt μ 0 0 tabV) : Spec Tryd.prog 30 [] [ro μ] (fun r L => r = .bool true ∧ ∃ μ', Le μ μ' ∧ L = [ro μ']) := by
  obtain ⟨w1, w2, w3, w4, w5, w6⟩ := meets_all
  refine Spec.of 52 Tryd.func30 rfl rfl rfl ?_
  refine swp_seq ?_
  refine swp_region ?_
  refine s_pu (pu_assign rfl) ?_
  refine swl_sub _ .nil ?_
  refine swl_nil ?_
  refine then_n ?_
  refine swp_seq ?_
  refine swp_region ?_
  refine s_ef (ef_fn (crossed_spec μ) rfl rfl (by repeat (first | exact Split.nil | (apply Split.cons; (repeat (first | with_reducible exact Take.here | apply Take.there)))))) ?_
  rintro v8 L1 ⟨p1, μ1, vg1, vn1, gs1, G1, h1, rfl, hS1, hn1, rfl⟩
  refine swl_app ?_
  refine s_pu (pu_iface rfl) ?_
  refine s_ef (ef_fn (g_merge hS1 p1 noAsk (fun _ => Nat.zero_le _) 3 4 (hT.le h1)) rfl rfl (by repeat (first | exact Split.nil | (apply Split.cons; (repeat (first | with_reducible exact Take.here | apply Take.there)))))) ?_
  rintro v10 L1 ⟨lv1, zs1, μ2, hz1, h2, rfl, rfl⟩
  refine swl_app ?_
  rw [hn1, w1, w2]
  refine swl_ent (Split.ent' (K := [own 3 1 lv1 ([1, 2] : List Int).length (([1, 2] : List Int).flatMap (icsk .i64)), ro μ2]) (by repeat (first | exact Split.nil | (apply Split.cons; (repeat (first | with_reducible exact Take.here | apply Take.there)))))) ?_
  refine swl_share_own (v := lv1) (μ := μ2) (by repeat (first | exact Split.nil | (apply Split.cons; (repeat (first | with_reducible exact Take.here | apply Take.there))))) fun μ3 h3 r1 => ?_
  have l3 := h1.trans (h2.trans h3)
  refine s_pu (pu_move rfl) ?_
  first | refine s_pu (pu_extractL rfl) ?_ | refine s_pu (pu_extract rfl rfl) ?_
  first | refine s_pu (pu_extractL rfl) ?_ | refine s_pu (pu_extract rfl rfl) ?_
  refine s_pu (pu_assign rfl) ?_
  refine s_pu (pu_assign rfl) ?_
  refine swl_sub _ (.cons (t := 1) rfl (.cons (t := 2) rfl .nil)) ?_
  refine swl_nil ?_
  refine then_n ?_
  refine swp_seq ?_
  refine swp_region ?_
  refine s_ef (ef_fn (crossed_spec μ3) rfl rfl (by repeat (first | exact Split.nil | (apply Split.cons; (repeat (first | with_reducible exact Take.here | apply Take.there)))))) ?_
  rintro v14 L1 ⟨p2, μ4, vg2, vn2, gs2, G2, h4, rfl, hS2, hn2, rfl⟩
  refine swl_app ?_
  refine s_pu (pu_iface rfl) ?_
  refine s_ef (ef_bldS (qs := [(0, _), (1, _), (2, _)]) rfl rfl rfl) ?_
  intro b16
  refine swl_share (b := b16) (μ := μ4) (by repeat (first | exact Split.nil | (apply Split.cons; (repeat (first | with_reducible exact Take.here | apply Take.there))))) fun μ5 h5 k5 => ?_
  have r5 := row_of_blk (n := 1) (l := 3) (cs := ([3, 4, 1] : List Int).flatMap (icsk .i64)) k5 (by rfl) (by decide)
  have l5 := l3.trans (h4.trans h5)
  refine s_ef (ef_fn (g_many (hS2.le h5) p2 noAsk (fun _ => Nat.zero_le _) _ [3, 4, 1] (hT.le l5) r5) rfl rfl (by repeat (first | exact Split.nil | (apply Split.cons; (repeat (first | with_reducible exact Take.here | apply Take.there)))))) ?_
  rintro v17 L1 ⟨lv2, zs2, μ6, hz2, h6, rfl, rfl⟩
  refine swl_app ?_
  rw [hn2, w3, w4]
  refine swl_ent (Split.ent' (K := [own 3 1 lv2 ([1] : List Int).length (([1] : List Int).flatMap (icsk .i64)), ro μ6]) (by repeat (first | exact Split.nil | (apply Split.cons; (repeat (first | with_reducible exact Take.here | apply Take.there)))))) ?_
  refine swl_share_own (v := lv2) (μ := μ6) (by repeat (first | exact Split.nil | (apply Split.cons; (repeat (first | with_reducible exact Take.here | apply Take.there))))) fun μ7 h7 r2 => ?_
  have l7 := l5.trans (h6.trans h7)
  refine s_pu (pu_move rfl) ?_
  first | refine s_pu (pu_extractL rfl) ?_ | refine s_pu (pu_extract rfl rfl) ?_
  first | refine s_pu (pu_extractL rfl) ?_ | refine s_pu (pu_extract rfl rfl) ?_
  refine s_pu (pu_assign rfl) ?_
  refine s_pu (pu_assign rfl) ?_
  refine swl_sub _ (.cons (t := 1) rfl (.cons (t := 2) rfl (.cons (t := 3) rfl (.cons (t := 4) rfl .nil)))) ?_
  refine swl_nil ?_
  refine then_n ?_
  refine swp_seq ?_
  refine swp_region ?_
  refine s_ef (ef_fn (crossed_spec μ7) rfl rfl (by repeat (first | exact Split.nil | (apply Split.cons; (repeat (first | with_reducible exact Take.here | apply Take.there)))))) ?_
  rintro v21 L1 ⟨p3, μ8, vg3, vn3, gs3, G3, h8, rfl, hS3, hn3, rfl⟩
  refine swl_app ?_
  refine s_pu (pu_iface rfl) ?_
  refine s_ef (ef_bldS (qs := [(0, _), (1, _), (2, _), (3, _), (4, _)]) rfl rfl rfl) ?_
  intro b23
  refine swl_share (b := b23) (μ := μ8) (by repeat (first | exact Split.nil | (apply Split.cons; (repeat (first | with_reducible exact Take.here | apply Take.there))))) fun μ9 h9 k9 => ?_
  have r9 := row_of_blk (n := 1) (l := 5) (cs := ([0, 3, 1, 4, 3] : List Int).flatMap (icsk .i64)) k9 (by rfl) (by decide)
  have l9 := l7.trans (h8.trans h9)
  refine s_ef (ef_fn (g_indep (hS3.le h9) p3 noAsk (fun _ => Nat.zero_le _) _ [0, 3, 1, 4, 3] (hT.le l9) r9) rfl rfl (by repeat (first | exact Split.nil | (apply Split.cons; (repeat (first | with_reducible exact Take.here | apply Take.there)))))) ?_
  rintro v24 L1 ⟨lv3, zs3, μ10, hz3, h10, rfl, rfl⟩
  refine swl_app ?_
  rw [hn3, w5, w6]
  refine swl_ent (Split.ent' (K := [own 3 1 lv3 ([3, 4] : List Int).length (([3, 4] : List Int).flatMap (icsk .i64)), ro μ10]) (by repeat (first | exact Split.nil | (apply Split.cons; (repeat (first | with_reducible exact Take.here | apply Take.there)))))) ?_
  refine swl_share_own (v := lv3) (μ := μ10) (by repeat (first | exact Split.nil | (apply Split.cons; (repeat (first | with_reducible exact Take.here | apply Take.there))))) fun μ11 h11 r3 => ?_
  have q1 := r1.le (h4.trans (h5.trans (h6.trans (h7.trans (h8.trans (h9.trans (h10.trans h11)))))))
  have q2 := r2.le (h8.trans (h9.trans (h10.trans h11)))
  refine s_pu (pu_move rfl) ?_
  first | refine s_pu (pu_extractL rfl) ?_ | refine s_pu (pu_extract rfl rfl) ?_
  first | refine s_pu (pu_extractL rfl) ?_ | refine s_pu (pu_extract rfl rfl) ?_
  refine s_pu (pu_assign rfl) ?_
  refine s_pu (pu_assign rfl) ?_
  refine swl_sub _ (.cons (t := 1) rfl (.cons (t := 2) rfl (.cons (t := 3) rfl (.cons (t := 4) rfl (.cons (t := 5) rfl (.cons (t := 6) rfl .nil)))))) ?_
  refine swl_nil ?_
  refine then_n ?_
  refine swp_seq ?_
  refine swp_region ?_
  refine s_pu (pu_move rfl) ?_
  refine s_pu (pu_eql rfl rfl) ?_
  refine s_pu (pu_move rfl) ?_
  refine s_on rfl rfl ?_
  refine s_pu (pu_move rfl) ?_
  refine s_on rfl rfl ?_
  refine s_pu (pu_eql rfl rfl) ?_
  first | refine s_pu (pu_pick_t rfl rfl) ?_ | refine s_pu (pu_pick_f rfl rfl) ?_
  refine s_pu (pu_move rfl) ?_
  refine s_on rfl rfl ?_
  refine s_pu (pu_move rfl) ?_
  refine s_on rfl rfl ?_
  refine s_pu (pu_eql rfl rfl) ?_
  first | refine s_pu (pu_pick_t rfl rfl) ?_ | refine s_pu (pu_pick_f rfl rfl) ?_
  refine s_pu (pu_move rfl) ?_
  refine s_on rfl rfl ?_
  refine s_pu (pu_move rfl) ?_
  refine s_on rfl rfl ?_
  refine s_ef (ef_bldS (qs := [(0, _), (1, _)]) rfl rfl rfl) ?_
  intro b39
  refine s_on rfl rfl ?_
  refine s_ef (ef_fn (samelist_i lv1 _ ([1, 2] : List Int) ([1, 2] : List Int) _ (Ints.row q1) (ints_blk (cs := [1, 2]) rfl (by show 2 ≤ _; decide))) rfl rfl Split.all) ?_
  rintro v40 L1 ⟨rfl, rfl⟩
  refine swl_app ?_
  first | refine s_pu (pu_pick_t rfl rfl) ?_ | refine s_pu (pu_pick_f rfl rfl) ?_
  refine s_pu (pu_move rfl) ?_
  refine s_on rfl rfl ?_
  refine s_pu (pu_move rfl) ?_
  refine s_on rfl rfl ?_
  refine s_ef (ef_bldS (qs := [(0, _)]) rfl rfl rfl) ?_
  intro b44
  refine s_on rfl rfl ?_
  refine s_ef (ef_fn (samelist_i lv2 _ ([1] : List Int) ([1] : List Int) _ (Ints.row q2) (ints_blk (cs := [1]) rfl (by show 1 ≤ _; decide))) rfl rfl Split.all) ?_
  rintro v45 L1 ⟨rfl, rfl⟩
  refine swl_app ?_
  first | refine s_pu (pu_pick_t rfl rfl) ?_ | refine s_pu (pu_pick_f rfl rfl) ?_
  refine s_pu (pu_move rfl) ?_
  refine s_on rfl rfl ?_
  refine s_pu (pu_move rfl) ?_
  refine s_on rfl rfl ?_
  refine s_ef (ef_bldS (qs := [(0, _), (1, _)]) rfl rfl rfl) ?_
  intro b49
  refine s_on rfl rfl ?_
  refine s_ef (ef_fn (samelist_i lv3 _ ([3, 4] : List Int) ([3, 4] : List Int) _ (Ints.row r3) (ints_blk (cs := [3, 4]) rfl (by show 2 ≤ _; decide))) rfl rfl Split.all) ?_
  rintro v50 L1 ⟨rfl, rfl⟩
  refine swl_app ?_
  first | refine s_pu (pu_pick_t rfl rfl) ?_ | refine s_pu (pu_pick_f rfl rfl) ?_
  refine s_pu (pu_assign rfl) ?_
  refine swl_sub _ (.cons (t := 0) rfl .nil) ?_
  refine swl_nil ?_
  refine then_n ?_
  refine swp_ret ?_
  exact done_ret [ro μ11] (.tmp rfl .nil) ⟨rfl, μ11, l9.trans (h10.trans h11), rfl⟩ (by repeat (first | exact Split.nil | (apply Split.cons; (repeat (first | with_reducible exact Take.here | apply Take.there)))))
end SX
namespace SX
open Go Go.Proofs

theorem sidesA_len (g : List (List Int)) (xs ys : List Int) : (sidesA g xs ys).length ≤ g.length := by
  unfold sidesA
  split
  · exact elsTo_len _ _
  · exact Nat.zero_le _
theorem manyA_len (g : List (List Int)) (xs : List Int) : (manyA g xs).length ≤ g.length := by
  unfold manyA
  split
  · exact elsTo_len _ _
  · exact Nat.zero_le _
theorem indA_len (g : List (List Int)) (xs : List Int) : (indA g xs).length ≤ g.length := by
  unfold indA
  split
  · exact elsTo_len _ _
  · exact Nat.zero_le _
end SX
namespace SX
open Go Go.Proofs

set_option maxHeartbeats 8000000 in
theorem baseslists_spec (μ : PH) (v v1 v2 : Value) (G : List (Value × List Int)) (kn : Int) (xs0 ys0 : List Int) (hT : RowAt μ 0 0 tabV) (hG : Graph μ v G) (hn : G.length ≤ 17592186043904) (hrows : ∀ x ∈ G, x.2.length ≤ 17592186043904) (hkn : 0 ≤ kn ∧ kn ≤ 255)
    (hx : Row μ v1 1 xs0.length (xs0.flatMap (icsk .i64))) (hy : Row μ v2 1 ys0.length (ys0.flatMap (icsk .i64))) :
    Spec Tryd.prog 9 [v, .int .u8 kn, .agg #[v1, v2]] [ro μ] (LawOk μ) := by
  obtain ⟨A1, c1, hv1⟩ := hx.sl
  obtain ⟨A2, c2, hv2⟩ := hy.sl
  subst hv1 hv2
  refine Spec.of 153 Tryd.func9 rfl rfl rfl ?_
  refine swp_seq ?_
  refine swp_region ?_
  refine s_ef (ef_box rfl rfl) ?_
  intro b5
  refine s_pu (pu_assign rfl) ?_
  refine swl_sub _ (.cons (t := 0) rfl (.cons (t := 1) rfl (.cons (t := 5) rfl .nil))) ?_
  refine swl_nil ?_
  refine then_n ?_
  refine swp_seq ?_
  refine swp_seq ?_
  refine swp_region ?_
  refine s_ef (ef_fn (meets_spec μ hT) rfl rfl (by repeat (first | exact Split.nil | (apply Split.cons; (repeat (first | with_reducible exact Take.here | apply Take.there)))))) ?_
  rintro v16 L1 ⟨rfl, μ1, h1, rfl⟩
  refine swl_app ?_
  refine s_pu (pu_not rfl) ?_
  refine swl_sub _ (.cons (t := 0) rfl (.cons (t := 1) rfl (.cons (t := 5) rfl (.cons (t := 17) rfl .nil)))) ?_
  refine swl_nil ?_
  refine then_n ?_
  refine swp_cond (b := _) rfl (fun h17 => by cases h17) (fun h17 => ?_)
  refine swp_skip ?_
  refine then_n ?_
  refine swp_seq ?_
  refine swp_region ?_
  refine s_pu (pu_move rfl) ?_
  refine s_pu (pu_move rfl) ?_
  refine s_pu (pu_conv_i64 rfl (by omega) (by omega)) ?_
  refine s_ef (ef_fn (good2_spec μ1 v G 500 kn (hG.le h1) hn (by decide) hrows) rfl rfl (by repeat (first | exact Split.nil | (apply Split.cons; (repeat (first | with_reducible exact Take.here | apply Take.there)))))) ?_
  rintro v21 L1 ⟨μ2, o, A0, h2, rfl, rfl, hgd⟩
  refine swl_app ?_
  refine s_pu (pu_assign rfl) ?_
  refine swl_sub _ (.cons (t := 5) rfl (.cons (t := 7) rfl .nil)) ?_
  refine swl_nil ?_
  refine then_n ?_
  refine swp_seq ?_
  refine swp_seq ?_
  refine swp_region ?_
  refine s_pu (pu_move rfl) ?_
  refine s_pu (pu_ptr_eq_nil rfl rfl) ?_
  refine swl_sub _ (.cons (t := 5) rfl (.cons (t := 7) rfl (.cons (t := 23) rfl .nil))) ?_
  refine swl_nil ?_
  refine then_n ?_
  refine swp_cond (b := _) rfl (fun h23 => ?_) (fun h23 => ?_)
  · skip   -- 23 T
    refine swp_seq ?_
    refine swp_region ?_
    refine s_pu (pu_assign rfl) ?_
    refine swl_sub _ (.cons (t := 6) rfl .nil) ?_
    refine swl_nil ?_
    refine then_n ?_
    refine swp_ret ?_
    refine then_r ?_
    exact done_ret [ro μ2] (.tmp rfl .nil) ⟨rfl, μ2, [], h1.trans h2, rfl⟩ (by repeat (first | exact Split.nil | (apply Split.cons; (repeat (first | with_reducible exact Take.here | apply Take.there)))))
  · skip   -- 23 F
    obtain ⟨p, v', vn, gs, rfl, hS, rfl⟩ : ∃ p v' vn gs, o = some ⟨p, 0, none⟩ ∧ GS μ2 v' vn (G.take (min G.length 500)) gs kn.toNat ∧ A0 = gA p v' vn (G.take (min G.length 500)).length noAsk := by
      rcases hgd with ⟨rfl, _⟩ | h
      · cases h23
      · exact h
    generalize G.take (min G.length 500) = Gm at *
    have hml := hS.hn
    have hT2 := (hT.le h1).le h2
    have hln : (nums Gm).length = Gm.length := List.length_map _
    obtain ⟨vx, xs, _, hxl, rx, sx⟩ := cutK 30 ((hx.le h1).le h2)
    obtain ⟨vy, ys, _, hyl, ry, sy⟩ := cutK 30 ((hy.le h1).le h2)
    refine swp_skip ?_
    refine then_n ?_
    refine swp_seq ?_
    refine swp_draw [1, 3, 8, 10] _ [] (by simp only [List.append_nil]; exact Ent.refl _) (by kernel_rfl) ?_
    refine d_pu 0 rfl (pu_indexAddr_arr _ rfl rfl (by omega) (by omega) rfl) (by kernel_rfl) (by kernel_rfl) (by kernel_rfl) ?_
    refine d_rd 1 rfl (rd_load rfl rfl) rfl (by kernel_rfl) (by kernel_rfl) (by kernel_rfl) ?_
    refine d_pu 2 rfl (pu_indexAddr_arr _ rfl rfl (by omega) (by omega) rfl) (by kernel_rfl) (by kernel_rfl) (by kernel_rfl) ?_
    refine d_rd 3 rfl (rd_load rfl rfl) rfl (by kernel_rfl) (by kernel_rfl) (by kernel_rfl) ?_
    refine d_pu 4 rfl (pu_len_row hx rfl) (by kernel_rfl) (by kernel_rfl) (by kernel_rfl) ?_
    refine d_pu 5 rfl (pu_min2 rfl rfl) (by kernel_rfl) (by kernel_rfl) (by kernel_rfl) ?_
    refine d_pu 6 rfl (sx _ _ _ .i64 _ rfl rfl rfl) (by kernel_rfl) (by kernel_rfl) (by kernel_rfl) ?_
    refine d_pu 7 rfl (pu_indexAddr_arr _ rfl rfl (by omega) (by omega) rfl) (by kernel_rfl) (by kernel_rfl) (by kernel_rfl) ?_
    refine d_rd 8 rfl (rd_load rfl rfl) rfl (by kernel_rfl) (by kernel_rfl) (by kernel_rfl) ?_
    refine d_pu 9 rfl (pu_indexAddr_arr _ rfl rfl (by omega) (by omega) rfl) (by kernel_rfl) (by kernel_rfl) (by kernel_rfl) ?_
    refine d_rd 10 rfl (rd_load rfl rfl) rfl (by kernel_rfl) (by kernel_rfl) (by kernel_rfl) ?_
    refine d_pu 11 rfl (pu_len_row hy rfl) (by kernel_rfl) (by kernel_rfl) (by kernel_rfl) ?_
    refine d_pu 12 rfl (pu_min2 rfl rfl) (by kernel_rfl) (by kernel_rfl) (by kernel_rfl) ?_
    refine d_pu 13 rfl (sy _ _ _ .i64 _ rfl rfl rfl) (by kernel_rfl) (by kernel_rfl) (by kernel_rfl) ?_
    refine d_pu 14 rfl (pu_assign rfl) (by kernel_rfl) (by kernel_rfl) (by kernel_rfl) ?_
    refine d_pu 15 rfl (pu_assign rfl) (by kernel_rfl) (by kernel_rfl) (by kernel_rfl) ?_
    refine d_sub _ (.cons (t := 7) rfl (.cons (t := 8) rfl (.cons (t := 9) rfl .nil))) ?_
    first | refine d_nilt (by kernel_rfl) ?_ | refine d_nilf (by kernel_rfl) ?_
    refine then_n ?_
    refine swp_cut (fun env L => ∃ va vb, Sub env [(7, .pointer (some ⟨p, 0, none⟩)), (8, vx), (9, vy), (10, va), (11, vb)] ∧ Ent L [own 3 1 va xs.length (xs.flatMap (icsk .i64)), own 3 1 vb ys.length (ys.flatMap (icsk .i64)), gA p v' vn Gm.length noAsk, ro μ2]) ?_ ?_
    · skip
      refine swp_draw [] _ [] (by simp only [List.append_nil]; exact Ent.refl _) (by kernel_rfl) ?_
      refine d_pu 0 rfl (pu_move rfl) (by kernel_rfl) (by kernel_rfl) (by kernel_rfl) ?_
      refine d_pu 1 rfl (pu_len_row rx rfl) (by kernel_rfl) (by kernel_rfl) (by kernel_rfl) ?_
      first | refine d_pu 2 rfl (pu_add_in rfl rfl (by omega) (by omega)) (by kernel_rfl) (by kernel_rfl) (by kernel_rfl) ?_ | refine d_pu 2 rfl (pu_add rfl rfl) (by kernel_rfl) (by kernel_rfl) (by kernel_rfl) ?_
      refine d_pu 4 rfl (pu_move rfl) (by kernel_rfl) (by kernel_rfl) (by kernel_rfl) ?_
      refine d_pu 6 rfl (pu_move rfl) (by kernel_rfl) (by kernel_rfl) (by kernel_rfl) ?_
      refine d_pu 7 rfl (pu_len_row ry rfl) (by kernel_rfl) (by kernel_rfl) (by kernel_rfl) ?_
      first | refine d_pu 8 rfl (pu_add_in rfl rfl (by omega) (by omega)) (by kernel_rfl) (by kernel_rfl) (by kernel_rfl) ?_ | refine d_pu 8 rfl (pu_add rfl rfl) (by kernel_rfl) (by kernel_rfl) (by kernel_rfl) ?_
      refine d_pu 10 rfl (pu_move rfl) (by kernel_rfl) (by kernel_rfl) (by kernel_rfl) ?_
      refine d_amb [3, 9] (by kernel_rfl) rfl ⟨?_, ?_⟩
      · skip   -- 3 comes first
        first | refine dA_fint 3 rfl GOn.none (by kernel_rfl) (ef_make0 (e := 3) (n := 1) rfl rfl (by omega) (by omega) (by simp only [maxLen]; omega)) ?_ | refine dA_finf 3 rfl GOn.none (by kernel_rfl) (ef_make0 (e := 3) (n := 1) rfl rfl (by omega) (by omega) (by simp only [maxLen]; omega)) ?_
        rintro v41
        skip
        refine d_amb [5, 9] (by kernel_rfl) rfl ⟨?_, ?_⟩
        · skip   -- 5 comes first
          first | refine dA_fint 5 rfl GOn.none (by kernel_rfl) (ef_append_ro rx rfl rfl (by repeat (first | exact Split.nil | (apply Split.cons; (repeat (first | with_reducible exact Take.here | apply Take.there))))) (icsk_one _) (by simp only [maxLen]; omega) (by omega)) ?_ | refine dA_finf 5 rfl GOn.none (by kernel_rfl) (ef_append_ro rx rfl rfl (by repeat (first | exact Split.nil | (apply Split.cons; (repeat (first | with_reducible exact Take.here | apply Take.there))))) (icsk_one _) (by simp only [maxLen]; omega) (by omega)) ?_
          rintro v43 -
          rw [Nat.zero_add, List.nil_append]
          first | refine d_fint 9 rfl (by kernel_rfl) (by kernel_rfl) (ef_make0 (e := 3) (n := 1) rfl rfl (by omega) (by omega) (by simp only [maxLen]; omega)) ?_ | refine d_finf 9 rfl (by kernel_rfl) (by kernel_rfl) (ef_make0 (e := 3) (n := 1) rfl rfl (by omega) (by omega) (by simp only [maxLen]; omega)) ?_
          rintro v47
          skip
          first | refine d_fint 11 rfl (by kernel_rfl) (by kernel_rfl) (ef_append_ro ry rfl rfl (by repeat (first | exact Split.nil | (apply Split.cons; (repeat (first | with_reducible exact Take.here | apply Take.there))))) (icsk_one _) (by simp only [maxLen]; omega) (by omega)) ?_ | refine d_finf 11 rfl (by kernel_rfl) (by kernel_rfl) (ef_append_ro ry rfl rfl (by repeat (first | exact Split.nil | (apply Split.cons; (repeat (first | with_reducible exact Take.here | apply Take.there))))) (icsk_one _) (by simp only [maxLen]; omega) (by omega)) ?_
          rintro v49 -
          rw [Nat.zero_add, List.nil_append]
          refine d_pu 12 rfl (pu_assign rfl) (by kernel_rfl) (by kernel_rfl) (by kernel_rfl) ?_
          refine d_pu 13 rfl (pu_assign rfl) (by kernel_rfl) (by kernel_rfl) (by kernel_rfl) ?_
          refine d_sub _ (.cons (t := 7) rfl (.cons (t := 8) rfl (.cons (t := 9) rfl (.cons (t := 10) rfl (.cons (t := 11) rfl .nil))))) ?_
          first | refine d_nilt (by kernel_rfl) ?_ | refine d_nilf (by kernel_rfl) ?_
          exact then_n ⟨v43, v49, ⟨rfl, rfl, rfl, rfl, rfl, trivial⟩, Split.ent' (by repeat (first | exact Split.nil | (apply Split.cons; (repeat (first | with_reducible exact Take.here | apply Take.there)))))⟩
        · skip   -- 9 comes first
          first | refine dA_fint 9 rfl GOn.none (by kernel_rfl) (ef_make0 (e := 3) (n := 1) rfl rfl (by omega) (by omega) (by simp only [maxLen]; omega)) ?_ | refine dA_finf 9 rfl GOn.none (by kernel_rfl) (ef_make0 (e := 3) (n := 1) rfl rfl (by omega) (by omega) (by simp only [maxLen]; omega)) ?_
          rintro v47
          skip
          first | refine d_fint 5 rfl (by kernel_rfl) (by kernel_rfl) (ef_append_ro rx rfl rfl (by repeat (first | exact Split.nil | (apply Split.cons; (repeat (first | with_reducible exact Take.here | apply Take.there))))) (icsk_one _) (by simp only [maxLen]; omega) (by omega)) ?_ | refine d_finf 5 rfl (by kernel_rfl) (by kernel_rfl) (ef_append_ro rx rfl rfl (by repeat (first | exact Split.nil | (apply Split.cons; (repeat (first | with_reducible exact Take.here | apply Take.there))))) (icsk_one _) (by simp only [maxLen]; omega) (by omega)) ?_
          rintro v43 -
          rw [Nat.zero_add, List.nil_append]
          first | refine d_fint 11 rfl (by kernel_rfl) (by kernel_rfl) (ef_append_ro ry rfl rfl (by repeat (first | exact Split.nil | (apply Split.cons; (repeat (first | with_reducible exact Take.here | apply Take.there))))) (icsk_one _) (by simp only [maxLen]; omega) (by omega)) ?_ | refine d_finf 11 rfl (by kernel_rfl) (by kernel_rfl) (ef_append_ro ry rfl rfl (by repeat (first | exact Split.nil | (apply Split.cons; (repeat (first | with_reducible exact Take.here | apply Take.there))))) (icsk_one _) (by simp only [maxLen]; omega) (by omega)) ?_
          rintro v49 -
          rw [Nat.zero_add, List.nil_append]
          refine d_pu 12 rfl (pu_assign rfl) (by kernel_rfl) (by kernel_rfl) (by kernel_rfl) ?_
          refine d_pu 13 rfl (pu_assign rfl) (by kernel_rfl) (by kernel_rfl) (by kernel_rfl) ?_
          refine d_sub _ (.cons (t := 7) rfl (.cons (t := 8) rfl (.cons (t := 9) rfl (.cons (t := 10) rfl (.cons (t := 11) rfl .nil))))) ?_
          first | refine d_nilt (by kernel_rfl) ?_ | refine d_nilf (by kernel_rfl) ?_
          exact then_n ⟨v43, v49, ⟨rfl, rfl, rfl, rfl, rfl, trivial⟩, Split.ent' (by repeat (first | exact Split.nil | (apply Split.cons; (repeat (first | with_reducible exact Take.here | apply Take.there)))))⟩
      · skip   -- 9 comes first
        first | refine dA_fint 9 rfl GOn.none (by kernel_rfl) (ef_make0 (e := 3) (n := 1) rfl rfl (by omega) (by omega) (by simp only [maxLen]; omega)) ?_ | refine dA_finf 9 rfl GOn.none (by kernel_rfl) (ef_make0 (e := 3) (n := 1) rfl rfl (by omega) (by omega) (by simp only [maxLen]; omega)) ?_
        rintro v47
        skip
        first | refine d_fint 3 rfl (by kernel_rfl) (by kernel_rfl) (ef_make0 (e := 3) (n := 1) rfl rfl (by omega) (by omega) (by simp only [maxLen]; omega)) ?_ | refine d_finf 3 rfl (by kernel_rfl) (by kernel_rfl) (ef_make0 (e := 3) (n := 1) rfl rfl (by omega) (by omega) (by simp only [maxLen]; omega)) ?_
        rintro v41
        skip
        first | refine d_fint 5 rfl (by kernel_rfl) (by kernel_rfl) (ef_append_ro rx rfl rfl (by repeat (first | exact Split.nil | (apply Split.cons; (repeat (first | with_reducible exact Take.here | apply Take.there))))) (icsk_one _) (by simp only [maxLen]; omega) (by omega)) ?_ | refine d_finf 5 rfl (by kernel_rfl) (by kernel_rfl) (ef_append_ro rx rfl rfl (by repeat (first | exact Split.nil | (apply Split.cons; (repeat (first | with_reducible exact Take.here | apply Take.there))))) (icsk_one _) (by simp only [maxLen]; omega) (by omega)) ?_
        rintro v43 -
        rw [Nat.zero_add, List.nil_append]
        first | refine d_fint 11 rfl (by kernel_rfl) (by kernel_rfl) (ef_append_ro ry rfl rfl (by repeat (first | exact Split.nil | (apply Split.cons; (repeat (first | with_reducible exact Take.here | apply Take.there))))) (icsk_one _) (by simp only [maxLen]; omega) (by omega)) ?_ | refine d_finf 11 rfl (by kernel_rfl) (by kernel_rfl) (ef_append_ro ry rfl rfl (by repeat (first | exact Split.nil | (apply Split.cons; (repeat (first | with_reducible exact Take.here | apply Take.there))))) (icsk_one _) (by simp only [maxLen]; omega) (by omega)) ?_
        rintro v49 -
        rw [Nat.zero_add, List.nil_append]
        refine d_pu 12 rfl (pu_assign rfl) (by kernel_rfl) (by kernel_rfl) (by kernel_rfl) ?_
        refine d_pu 13 rfl (pu_assign rfl) (by kernel_rfl) (by kernel_rfl) (by kernel_rfl) ?_
        refine d_sub _ (.cons (t := 7) rfl (.cons (t := 8) rfl (.cons (t := 9) rfl (.cons (t := 10) rfl (.cons (t := 11) rfl .nil))))) ?_
        first | refine d_nilt (by kernel_rfl) ?_ | refine d_nilf (by kernel_rfl) ?_
        exact then_n ⟨v43, v49, ⟨rfl, rfl, rfl, rfl, rfl, trivial⟩, Split.ent' (by repeat (first | exact Split.nil | (apply Split.cons; (repeat (first | with_reducible exact Take.here | apply Take.there)))))⟩
    rintro env L ⟨va, vb, hsub, hL7⟩
    refine swp_sub _ hsub ?_
    refine swp_ent hL7 ?_
    refine swp_share_own (v := va) (μ := μ2) (by repeat (first | exact Split.nil | (apply Split.cons; (repeat (first | with_reducible exact Take.here | apply Take.there))))) fun μ3 h3 ra => ?_
    refine swp_share_own (v := vb) (μ := μ3) (by repeat (first | exact Split.nil | (apply Split.cons; (repeat (first | with_reducible exact Take.here | apply Take.there))))) fun μ4 h4 rb => ?_
    have l24 := h3.trans h4
    refine swp_seq ?_
    refine swp_region ?_
    refine s_pu (pu_move rfl) ?_
    refine s_pu (pu_iface rfl) ?_
    refine s_pu (pu_move rfl) ?_
    refine s_ef (ef_fn (g_many (hS.le l24) p noAsk (fun _ => Nat.zero_le _) va xs (hT2.le l24) (ra.le h4)) rfl rfl (by repeat (first | exact Split.nil | (apply Split.cons; (repeat (first | with_reducible exact Take.here | apply Take.there)))))) ?_
    rintro vq1 L1 ⟨lv1, zs1, μa1, hz1, ha1, rfl, rfl⟩
    refine swl_app ?_
    refine s_pu (pu_move rfl) ?_
    first | refine s_pu (pu_extractL rfl) ?_ | refine s_pu (pu_extract rfl rfl) ?_
    first | refine s_pu (pu_extractL rfl) ?_ | refine s_pu (pu_extract rfl rfl) ?_
    refine s_pu (pu_assign rfl) ?_
    refine s_pu (pu_assign rfl) ?_
    refine swl_sub _ (.cons (t := 7) rfl (.cons (t := 8) rfl (.cons (t := 9) rfl (.cons (t := 10) rfl (.cons (t := 11) rfl (.cons (t := 12) rfl (.cons (t := 13) rfl .nil))))))) ?_
    refine swl_nil ?_
    refine then_n ?_
    refine swp_seq ?_
    have hA1 := manyA_len (nums Gm) xs
    rw [hln] at hA1
    refine swp_ent (Split.ent' (K := [gA p v' vn Gm.length (zs1.foldl ask1 noAsk), own 3 1 lv1 (manyA (nums Gm) xs).length ((manyA (nums Gm) xs).flatMap (icsk .i64)), ro μa1]) (by repeat (first | exact Split.nil | (apply Split.cons; (repeat (first | with_reducible exact Take.here | apply Take.there)))))) ?_
    refine swp_ex fun vq => ?_
    simp only [List.cons_append, List.nil_append]
    have la1 := l24.trans ha1
    refine swp_region ?_
    refine s_pu (pu_move rfl) ?_
    first | refine s_pu (pu_nilCheck rfl) ?_ | refine s_pu (pu_nilCheck_fn rfl) ?_ | refine s_pu (pu_nilCheck_if rfl) ?_
    first | refine s_pu (pu_fieldAddr0 rfl) ?_ | refine s_pu (pu_fieldAddr rfl) ?_
    refine s_rd (rd_load rfl rfl) ?_
    refine s_pu (pu_move rfl) ?_
    refine s_ef (ef_fn (rmany_spec μa1 v' vx Gm xs (hS.le la1).hG (by omega) hS.good (rx.le la1)) rfl rfl (by repeat (first | exact Split.nil | (apply Split.cons; (repeat (first | with_reducible exact Take.here | apply Take.there)))))) ?_
    rintro vr1 L1 ⟨rv1, rfl, rfl⟩
    refine swl_app ?_
    refine s_pu (pu_move rfl) ?_
    first | refine s_pu (pu_extractL rfl) ?_ | refine s_pu (pu_extract rfl rfl) ?_
    first | refine s_pu (pu_extractL rfl) ?_ | refine s_pu (pu_extract rfl rfl) ?_
    refine s_pu (pu_assign rfl) ?_
    refine s_pu (pu_assign rfl) ?_
    refine swl_sub _ (.cons (t := 7) rfl (.cons (t := 8) rfl (.cons (t := 9) rfl (.cons (t := 10) rfl (.cons (t := 11) rfl (.cons (t := 12) rfl (.cons (t := 13) rfl (.cons (t := 14) rfl (.cons (t := 15) rfl .nil))))))))) ?_
    refine swl_nil ?_
    refine then_n ?_
    refine swp_seq ?_
    refine swp_seq ?_
    generalize hR1 : manyA (nums Gm) xs = R1 at *
    refine swp_share_own (v := rv1) (μ := μa1) (by repeat (first | exact Split.nil | (apply Split.cons; (repeat (first | with_reducible exact Take.here | apply Take.there))))) fun μb1 hb1 rr1 => ?_
    have lb1 := la1.trans hb1
    refine swp_ent (Split.ent' (K := [blk p 33 [v', vn, vq], own 3 1 vq Gm.length (askV Gm.length (zs1.foldl ask1 noAsk)), own 3 1 lv1 R1.length (R1.flatMap (icsk .i64)), ro μb1]) (by repeat (first | exact Split.nil | (apply Split.cons; (repeat (first | with_reducible exact Take.here | apply Take.there)))))) ?_
    refine swp_ent gA_close ?_
    refine swp_fact (fun m h => own_shape (by repeat (first | with_reducible exact Take.here | apply Take.there)) h) fun hs1 => ?_
    refine swp_region ?_
    refine s_pu (pu_move rfl) ?_
    refine s_pu (pu_move rfl) ?_
    refine s_pu (pu_neq rfl rfl) ?_
    refine s_pu (pu_move rfl) ?_
    refine s_split 69 rfl (fun h69 => by exfalso; simp at h69) (fun h69 => ?_)
    refine s_on rfl rfl ?_
    refine s_pu (pu_move rfl) ?_
    refine s_on rfl rfl ?_
    refine s_pu (pu_move rfl) ?_
    refine s_on rfl rfl ?_
    refine s_ef (ef_fn (samelist_i lv1 rv1 R1 R1 [own 3 1 lv1 R1.length (R1.flatMap (icsk .i64)), ro μb1] (ints_own hs1 .here) (Ints.row rr1)) rfl rfl (by repeat (first | exact Split.nil | (apply Split.cons; (repeat (first | with_reducible exact Take.here | apply Take.there)))))) ?_
    rintro v1 L1 ⟨rfl, rfl⟩
    refine swl_app ?_
    refine s_on rfl rfl ?_
    refine s_pu (pu_not rfl) ?_
    first | refine s_pu (pu_pick_t rfl rfl) ?_ | refine s_pu (pu_pick_f rfl rfl) ?_
    refine s_pu (pu_move rfl) ?_
    refine s_split 75 rfl (fun h75 => by exfalso; simp at h75) (fun h75 => ?_)
    refine s_on rfl rfl ?_
    refine s_pu (pu_move rfl) ?_
    refine s_on rfl rfl ?_
    refine s_ef (ef_fn (often_spec p Gm.length v' vn zs1 hz1.1 (by omega) hS.hG.1.sl) rfl rfl (by repeat (first | exact Split.nil | (apply Split.cons; (repeat (first | with_reducible exact Take.here | apply Take.there)))))) ?_
    rintro v1 L1 ⟨rfl, rfl⟩
    refine swl_app ?_
    first | refine s_pu (pu_pick_t rfl rfl) ?_ | refine s_pu (pu_pick_f rfl rfl) ?_
    refine swl_sub _ (.cons (t := 7) rfl (.cons (t := 8) rfl (.cons (t := 9) rfl (.cons (t := 10) rfl (.cons (t := 11) rfl (.cons (t := 12) rfl (.cons (t := 78) rfl .nil))))))) ?_
    refine swl_nil ?_
    refine then_n ?_
    refine swp_cond (b := _) rfl (fun h78 => by cases h78) (fun h78 => ?_)
    refine swp_skip ?_
    refine then_n ?_
    refine swp_seq ?_
    refine swp_region ?_
    refine s_pu (pu_move rfl) ?_
    refine s_ef (ef_fn (bspoilt_spec lv1 R1 (by omega)) rfl rfl (by repeat (first | exact Split.nil | (apply Split.cons; (repeat (first | with_reducible exact Take.here | apply Take.there)))))) ?_
    rintro v1 L1 rfl
    refine swl_app ?_
    refine swl_sub _ (.cons (t := 7) rfl (.cons (t := 8) rfl (.cons (t := 9) rfl (.cons (t := 10) rfl (.cons (t := 11) rfl .nil))))) ?_
    refine swl_nil ?_
    refine then_n ?_
    refine swp_seq ?_
    refine swp_region ?_
    refine s_pu (pu_move rfl) ?_
    refine s_pu (pu_iface rfl) ?_
    refine s_pu (pu_move rfl) ?_
    refine s_pu (pu_move rfl) ?_
    refine s_ef (ef_fn (g_sides (hS.le lb1) p noAsk (fun _ => Nat.zero_le _) va vb xs ys (hT2.le lb1) ((ra.le h4).le (ha1.trans hb1)) (rb.le (ha1.trans hb1))) rfl rfl (by repeat (first | exact Split.nil | (apply Split.cons; (repeat (first | with_reducible exact Take.here | apply Take.there)))))) ?_
    rintro vq2 L1 ⟨lv2, zs2, μa2, hz2, ha2, rfl, rfl⟩
    refine swl_app ?_
    refine s_pu (pu_move rfl) ?_
    first | refine s_pu (pu_extractL rfl) ?_ | refine s_pu (pu_extract rfl rfl) ?_
    first | refine s_pu (pu_extractL rfl) ?_ | refine s_pu (pu_extract rfl rfl) ?_
    refine s_pu (pu_assign rfl) ?_
    refine s_pu (pu_assign rfl) ?_
    refine swl_sub _ (.cons (t := 7) rfl (.cons (t := 8) rfl (.cons (t := 9) rfl (.cons (t := 10) rfl (.cons (t := 11) rfl (.cons (t := 12) rfl (.cons (t := 13) rfl .nil))))))) ?_
    refine swl_nil ?_
    refine then_n ?_
    refine swp_seq ?_
    have hA2 := sidesA_len (nums Gm) xs ys
    rw [hln] at hA2
    refine swp_ent (Split.ent' (K := [gA p v' vn Gm.length (zs2.foldl ask1 noAsk), own 3 1 lv2 (sidesA (nums Gm) xs ys).length ((sidesA (nums Gm) xs ys).flatMap (icsk .i64)), ro μa2]) (by repeat (first | exact Split.nil | (apply Split.cons; (repeat (first | with_reducible exact Take.here | apply Take.there)))))) ?_
    refine swp_ex fun vq => ?_
    simp only [List.cons_append, List.nil_append]
    have la2 := lb1.trans ha2
    refine swp_region ?_
    refine s_pu (pu_move rfl) ?_
    first | refine s_pu (pu_nilCheck rfl) ?_ | refine s_pu (pu_nilCheck_fn rfl) ?_ | refine s_pu (pu_nilCheck_if rfl) ?_
    first | refine s_pu (pu_fieldAddr0 rfl) ?_ | refine s_pu (pu_fieldAddr rfl) ?_
    refine s_rd (rd_load rfl rfl) ?_
    refine s_pu (pu_move rfl) ?_
    refine s_pu (pu_move rfl) ?_
    refine s_ef (ef_fn (rsides_spec μa2 v' vx vy Gm xs ys (hS.le la2).hG (by omega) hS.good (rx.le la2) (ry.le la2)) rfl rfl (by repeat (first | exact Split.nil | (apply Split.cons; (repeat (first | with_reducible exact Take.here | apply Take.there)))))) ?_
    rintro vr2 L1 ⟨rv2, rfl, rfl⟩
    refine swl_app ?_
    refine s_pu (pu_move rfl) ?_
    first | refine s_pu (pu_extractL rfl) ?_ | refine s_pu (pu_extract rfl rfl) ?_
    first | refine s_pu (pu_extractL rfl) ?_ | refine s_pu (pu_extract rfl rfl) ?_
    refine s_pu (pu_assign rfl) ?_
    refine s_pu (pu_assign rfl) ?_
    refine swl_sub _ (.cons (t := 7) rfl (.cons (t := 8) rfl (.cons (t := 9) rfl (.cons (t := 10) rfl (.cons (t := 11) rfl (.cons (t := 12) rfl (.cons (t := 13) rfl (.cons (t := 14) rfl (.cons (t := 15) rfl .nil))))))))) ?_
    refine swl_nil ?_
    refine then_n ?_
    refine swp_seq ?_
    refine swp_seq ?_
    generalize hR2 : sidesA (nums Gm) xs ys = R2 at *
    refine swp_share_own (v := rv2) (μ := μa2) (by repeat (first | exact Split.nil | (apply Split.cons; (repeat (first | with_reducible exact Take.here | apply Take.there))))) fun μb2 hb2 rr2 => ?_
    have lb2 := la2.trans hb2
    refine swp_ent (Split.ent' (K := [blk p 33 [v', vn, vq], own 3 1 vq Gm.length (askV Gm.length (zs2.foldl ask1 noAsk)), own 3 1 lv2 R2.length (R2.flatMap (icsk .i64)), ro μb2]) (by repeat (first | exact Split.nil | (apply Split.cons; (repeat (first | with_reducible exact Take.here | apply Take.there)))))) ?_
    refine swp_ent gA_close ?_
    refine swp_fact (fun m h => own_shape (by repeat (first | with_reducible exact Take.here | apply Take.there)) h) fun hs2 => ?_
    refine swp_region ?_
    refine s_pu (pu_move rfl) ?_
    refine s_pu (pu_move rfl) ?_
    refine s_pu (pu_neq rfl rfl) ?_
    refine s_pu (pu_move rfl) ?_
    refine s_split 102 rfl (fun h102 => by exfalso; simp at h102) (fun h102 => ?_)
    refine s_on rfl rfl ?_
    refine s_pu (pu_move rfl) ?_
    refine s_on rfl rfl ?_
    refine s_pu (pu_move rfl) ?_
    refine s_on rfl rfl ?_
    refine s_ef (ef_fn (samelist_i lv2 rv2 R2 R2 [own 3 1 lv2 R2.length (R2.flatMap (icsk .i64)), ro μb2] (ints_own hs2 .here) (Ints.row rr2)) rfl rfl (by repeat (first | exact Split.nil | (apply Split.cons; (repeat (first | with_reducible exact Take.here | apply Take.there)))))) ?_
    rintro v1 L1 ⟨rfl, rfl⟩
    refine swl_app ?_
    refine s_on rfl rfl ?_
    refine s_pu (pu_not rfl) ?_
    first | refine s_pu (pu_pick_t rfl rfl) ?_ | refine s_pu (pu_pick_f rfl rfl) ?_
    refine s_pu (pu_move rfl) ?_
    refine s_split 108 rfl (fun h108 => by exfalso; simp at h108) (fun h108 => ?_)
    refine s_on rfl rfl ?_
    refine s_pu (pu_move rfl) ?_
    refine s_on rfl rfl ?_
    refine s_ef (ef_fn (often_spec p Gm.length v' vn zs2 hz2.1 (by omega) hS.hG.1.sl) rfl rfl (by repeat (first | exact Split.nil | (apply Split.cons; (repeat (first | with_reducible exact Take.here | apply Take.there)))))) ?_
    rintro v1 L1 ⟨rfl, rfl⟩
    refine swl_app ?_
    first | refine s_pu (pu_pick_t rfl rfl) ?_ | refine s_pu (pu_pick_f rfl rfl) ?_
    refine swl_sub _ (.cons (t := 7) rfl (.cons (t := 8) rfl (.cons (t := 9) rfl (.cons (t := 10) rfl (.cons (t := 11) rfl (.cons (t := 12) rfl (.cons (t := 111) rfl .nil))))))) ?_
    refine swl_nil ?_
    refine then_n ?_
    refine swp_cond (b := _) rfl (fun h111 => by cases h111) (fun h111 => ?_)
    refine swp_skip ?_
    refine then_n ?_
    refine swp_seq ?_
    refine swp_region ?_
    refine s_pu (pu_move rfl) ?_
    refine s_ef (ef_fn (bspoilt_spec lv2 R2 (by omega)) rfl rfl (by repeat (first | exact Split.nil | (apply Split.cons; (repeat (first | with_reducible exact Take.here | apply Take.there)))))) ?_
    rintro v1 L1 rfl
    refine swl_app ?_
    refine swl_sub _ (.cons (t := 7) rfl (.cons (t := 8) rfl (.cons (t := 9) rfl (.cons (t := 10) rfl (.cons (t := 11) rfl .nil))))) ?_
    refine swl_nil ?_
    refine then_n ?_
    refine swp_seq ?_
    refine swp_region ?_
    refine s_pu (pu_move rfl) ?_
    refine s_pu (pu_iface rfl) ?_
    refine s_pu (pu_move rfl) ?_
    refine s_ef (ef_fn (g_indep (hS.le lb2) p noAsk (fun _ => Nat.zero_le _) va xs (hT2.le lb2) ((ra.le h4).le (ha1.trans (hb1.trans (ha2.trans hb2))))) rfl rfl (by repeat (first | exact Split.nil | (apply Split.cons; (repeat (first | with_reducible exact Take.here | apply Take.there)))))) ?_
    rintro vq3 L1 ⟨lv3, zs3, μa3, hz3, ha3, rfl, rfl⟩
    refine swl_app ?_
    refine s_pu (pu_move rfl) ?_
    first | refine s_pu (pu_extractL rfl) ?_ | refine s_pu (pu_extract rfl rfl) ?_
    first | refine s_pu (pu_extractL rfl) ?_ | refine s_pu (pu_extract rfl rfl) ?_
    refine s_pu (pu_assign rfl) ?_
    refine s_pu (pu_assign rfl) ?_
    refine swl_sub _ (.cons (t := 7) rfl (.cons (t := 8) rfl (.cons (t := 9) rfl (.cons (t := 10) rfl (.cons (t := 11) rfl (.cons (t := 12) rfl (.cons (t := 13) rfl .nil))))))) ?_
    refine swl_nil ?_
    refine then_n ?_
    refine swp_seq ?_
    have hA3 := indA_len (nums Gm) xs
    rw [hln] at hA3
    refine swp_ent (Split.ent' (K := [gA p v' vn Gm.length (zs3.foldl ask1 noAsk), own 3 1 lv3 (indA (nums Gm) xs).length ((indA (nums Gm) xs).flatMap (icsk .i64)), ro μa3]) (by repeat (first | exact Split.nil | (apply Split.cons; (repeat (first | with_reducible exact Take.here | apply Take.there)))))) ?_
    refine swp_ex fun vq => ?_
    simp only [List.cons_append, List.nil_append]
    have la3 := lb2.trans ha3
    refine swp_region ?_
    refine s_pu (pu_move rfl) ?_
    first | refine s_pu (pu_nilCheck rfl) ?_ | refine s_pu (pu_nilCheck_fn rfl) ?_ | refine s_pu (pu_nilCheck_if rfl) ?_
    first | refine s_pu (pu_fieldAddr0 rfl) ?_ | refine s_pu (pu_fieldAddr rfl) ?_
    refine s_rd (rd_load rfl rfl) ?_
    refine s_pu (pu_move rfl) ?_
    refine s_ef (ef_fn (rindep_spec μa3 v' vx Gm xs (hS.le la3).hG (by omega) hS.good (rx.le la3)) rfl rfl (by repeat (first | exact Split.nil | (apply Split.cons; (repeat (first | with_reducible exact Take.here | apply Take.there)))))) ?_
    rintro vr3 L1 ⟨rv3, rfl, rfl⟩
    refine swl_app ?_
    refine s_pu (pu_move rfl) ?_
    first | refine s_pu (pu_extractL rfl) ?_ | refine s_pu (pu_extract rfl rfl) ?_
    first | refine s_pu (pu_extractL rfl) ?_ | refine s_pu (pu_extract rfl rfl) ?_
    refine s_pu (pu_assign rfl) ?_
    refine s_pu (pu_assign rfl) ?_
    refine swl_sub _ (.cons (t := 7) rfl (.cons (t := 8) rfl (.cons (t := 9) rfl (.cons (t := 10) rfl (.cons (t := 11) rfl (.cons (t := 12) rfl (.cons (t := 13) rfl (.cons (t := 14) rfl (.cons (t := 15) rfl .nil))))))))) ?_
    refine swl_nil ?_
    refine then_n ?_
    refine swp_seq ?_
    refine swp_seq ?_
    generalize hR3 : indA (nums Gm) xs = R3 at *
    refine swp_share_own (v := rv3) (μ := μa3) (by repeat (first | exact Split.nil | (apply Split.cons; (repeat (first | with_reducible exact Take.here | apply Take.there))))) fun μb3 hb3 rr3 => ?_
    have lb3 := la3.trans hb3
    refine swp_ent (Split.ent' (K := [blk p 33 [v', vn, vq], own 3 1 vq Gm.length (askV Gm.length (zs3.foldl ask1 noAsk)), own 3 1 lv3 R3.length (R3.flatMap (icsk .i64)), ro μb3]) (by repeat (first | exact Split.nil | (apply Split.cons; (repeat (first | with_reducible exact Take.here | apply Take.there)))))) ?_
    refine swp_ent gA_close ?_
    refine swp_fact (fun m h => own_shape (by repeat (first | with_reducible exact Take.here | apply Take.there)) h) fun hs3 => ?_
    refine swp_region ?_
    refine s_pu (pu_move rfl) ?_
    refine s_pu (pu_move rfl) ?_
    refine s_pu (pu_neq rfl rfl) ?_
    refine s_pu (pu_move rfl) ?_
    refine s_split 133 rfl (fun h133 => by exfalso; simp at h133) (fun h133 => ?_)
    refine s_on rfl rfl ?_
    refine s_pu (pu_move rfl) ?_
    refine s_on rfl rfl ?_
    refine s_pu (pu_move rfl) ?_
    refine s_on rfl rfl ?_
    refine s_ef (ef_fn (samelist_i lv3 rv3 R3 R3 [own 3 1 lv3 R3.length (R3.flatMap (icsk .i64)), ro μb3] (ints_own hs3 .here) (Ints.row rr3)) rfl rfl (by repeat (first | exact Split.nil | (apply Split.cons; (repeat (first | with_reducible exact Take.here | apply Take.there)))))) ?_
    rintro v1 L1 ⟨rfl, rfl⟩
    refine swl_app ?_
    refine s_on rfl rfl ?_
    refine s_pu (pu_not rfl) ?_
    first | refine s_pu (pu_pick_t rfl rfl) ?_ | refine s_pu (pu_pick_f rfl rfl) ?_
    refine s_pu (pu_move rfl) ?_
    refine s_split 139 rfl (fun h139 => by exfalso; simp at h139) (fun h139 => ?_)
    refine s_on rfl rfl ?_
    refine s_pu (pu_move rfl) ?_
    refine s_on rfl rfl ?_
    refine s_ef (ef_fn (often_spec p Gm.length v' vn zs3 hz3.1 (by omega) hS.hG.1.sl) rfl rfl (by repeat (first | exact Split.nil | (apply Split.cons; (repeat (first | with_reducible exact Take.here | apply Take.there)))))) ?_
    rintro v1 L1 ⟨rfl, rfl⟩
    refine swl_app ?_
    first | refine s_pu (pu_pick_t rfl rfl) ?_ | refine s_pu (pu_pick_f rfl rfl) ?_
    refine swl_sub _ (.cons (t := 8) rfl (.cons (t := 9) rfl (.cons (t := 10) rfl (.cons (t := 11) rfl (.cons (t := 12) rfl (.cons (t := 142) rfl .nil)))))) ?_
    refine swl_nil ?_
    refine then_n ?_
    refine swp_cond (b := _) rfl (fun h142 => by cases h142) (fun h142 => ?_)
    refine swp_skip ?_
    refine then_n ?_
    refine swp_seq ?_
    refine swp_region ?_
    refine s_pu (pu_move rfl) ?_
    refine s_ef (ef_fn (bspoilt_spec lv3 R3 (by omega)) rfl rfl (by repeat (first | exact Split.nil | (apply Split.cons; (repeat (first | with_reducible exact Take.here | apply Take.there)))))) ?_
    rintro v1 L1 rfl
    refine swl_app ?_
    refine swl_sub _ (.cons (t := 8) rfl (.cons (t := 9) rfl (.cons (t := 10) rfl (.cons (t := 11) rfl .nil)))) ?_
    refine swl_nil ?_
    refine then_n ?_
    refine swp_seq ?_
    have l4e := ha1.trans (hb1.trans (ha2.trans (hb2.trans (ha3.trans hb3))))
    refine swp_ent (Split.ent' (K := [ro μb3]) (by repeat (first | exact Split.nil | (apply Split.cons; (repeat (first | with_reducible exact Take.here | apply Take.there)))))) ?_
    refine swp_region ?_
    refine s_pu (pu_move rfl) ?_
    refine s_pu (pu_move rfl) ?_
    refine s_ef (ef_fn (samelist_i va vx xs xs [ro μb3] (Ints.row ((ra.le h4).le l4e)) (Ints.row (rx.le lb3))) rfl rfl (by repeat (first | exact Split.nil | (apply Split.cons; (repeat (first | with_reducible exact Take.here | apply Take.there)))))) ?_
    rintro v1 L1 ⟨rfl, rfl⟩
    refine swl_app ?_
    refine s_pu (pu_move rfl) ?_
    refine s_split 148 rfl (fun h148 => ?_) (fun h148 => by exfalso; simp at h148)
    refine s_on rfl rfl ?_
    refine s_pu (pu_move rfl) ?_
    refine s_on rfl rfl ?_
    refine s_pu (pu_move rfl) ?_
    refine s_on rfl rfl ?_
    refine s_ef (ef_fn (samelist_i vb vy ys ys [ro μb3] (Ints.row (rb.le l4e)) (Ints.row (ry.le lb3))) rfl rfl (by repeat (first | exact Split.nil | (apply Split.cons; (repeat (first | with_reducible exact Take.here | apply Take.there)))))) ?_
    rintro v1 L1 ⟨rfl, rfl⟩
    refine swl_app ?_
    first | refine s_pu (pu_pick_t rfl rfl) ?_ | refine s_pu (pu_pick_f rfl rfl) ?_
    refine s_pu (pu_assign rfl) ?_
    refine swl_sub _ (.cons (t := 6) rfl .nil) ?_
    refine swl_nil ?_
    refine then_n ?_
    refine swp_ret ?_
    exact done_ret [ro μb3] (.tmp rfl .nil) ⟨congrArg Value.bool (decide_eq_true rfl), μb3, [], h1.trans (h2.trans lb3), rfl⟩ (by repeat (first | exact Split.nil | (apply Split.cons; (repeat (first | with_reducible exact Take.here | apply Take.there)))))
end SX
namespace Go.Proofs.YtieggbckcacihaaDoor
open Go.ChangeShapes Go.WideShapes Go.ChangeAt Go.RowKit
theorem ownKnobF : ownKnob Tryd.prog.godebug = none := by kernel_rfl
theorem gTab : Tryd.prog.globalNamed "math/bits.deBruijn64tab" = some 0 := by kernel_rfl
theorem tTab : (Tryd.prog.globals[0]?).map (·.type) = some 136 := by kernel_rfl
theorem datum {H : Type} : (Rows.laid_math_bits_deBruijn64tab : DataW H) = .agg (Lib.deBruijn64tab.map fun n => .lit (.int .u8 (n : Nat))) := rfl
theorem tab_of {W : World} (h : laidMetH Tryd.prog Rows.walkAncestorRow.laid W) : SX.RowAt (fun b => W.heap[b]?) 0 0 SX.tabV := by
  rw [MakeChecks.laidMetH_plain _ _ _ (by kernel_rfl)] at h
  obtain ⟨ps, ⟨g0, t0, cs0, f0, p0, q0, hg0, ht0, hv0, hd0, _, _⟩, _, _⟩ := h
  obtain rfl := Option.some.inj (gTab.symm.trans hg0)
  obtain rfl := Option.some.inj (tTab.symm.trans ht0)
  obtain ⟨xs, m, rfl, hx, _, hn, hel⟩ := DataW.trod_array Tryd.underlying136 hd0
  simp only [Prod.mk.injEq] at hx
  have hx1 := hx.1
  rw [datum] at hx1
  simp only [DataW.agg.injEq] at hx1
  have c5 : Tryd.prog.cellsOf 5 = 1 := by kernel_rfl
  have hlen : Lib.deBruijn64tab.length = 64 := rfl
  intro j u hj
  have hj64 : j < 64 := by
    have := (List.getElem?_eq_some_iff.1 hj).1
    simpa [SX.tabV, hlen] using this
  obtain ⟨k, hk⟩ : ∃ k, Lib.deBruijn64tab[j]? = some k := ⟨_, List.getElem?_eq_getElem (by omega)⟩
  have hu : u = .int .u8 (k : Nat) := by
    unfold SX.tabV at hj
    rw [List.getElem?_map, hk] at hj
    exact (Option.some.inj hj).symm
  obtain ⟨y, hy⟩ : ∃ y, xs[j]? = some y := ⟨_, List.getElem?_eq_getElem (by omega)⟩
  have h1 := hel j hj64
  rw [hy, c5, Nat.mul_one] at h1
  obtain ⟨n, e1, e2, _⟩ := DataW.trod_int Tryd.underlying5 h1
  have e3 : (xs.map (·.1))[j]? = some (.lit (.int .u8 n)) := by rw [List.getElem?_map, hy, e2]; rfl
  rw [← hx1, List.getElem?_map, hk] at e3
  have hnk : n = (k : Int) := by
    have := Option.some.inj e3
    simpa using this.symm
  have hc := World.var?_cell hg0 hv0 j
  have hcs : cs0[j]? = some (.int .u8 n) := by
    have : (cs0.toList.drop j)[0]? = some (.int .u8 n) := by
      have := congrArg (·[0]?) e1
      simpa [List.getElem?_take] using this
    rw [List.getElem?_drop, Nat.add_zero] at this
    simpa using this
  rw [hcs] at hc
  rw [Nat.zero_add, hu, ← hnk]
  exact (SX.spot_of_cell hc).2
theorem door_met (os : Os) (args : Array Value) : laidMetH Tryd.prog Rows.walkAncestorRow.laid ((World.doorLaid Tryd.prog 400 os).forCall (fun _ _ => 0) ⟨#[], args, []⟩).memory :=
  laidMetH_of_parts3 (fuel := 8) (laidMet_of_run' 8 (by kernel_rfl) (by kernel_rfl)) (by kernel_rfl) (by kernel_rfl)
end Go.Proofs.YtieggbckcacihaaDoor
