/- A part of the proof: walks of the program's functions, and the rules by which they go. -/
import Derived.Test.YtfbfmokgpdmcfaaDoorB9665a15f
import Derived.Test.YtfbfmokgpdmcfaaDoorB1ed06f0d
namespace SX
open Go Go.Proofs

theorem icells_get {xs : List Int} {ex : List Value} {i : Nat} {x : Int} (h : xs[i]? = some x) : (xs.flatMap (icsk .i64) ++ ex)[i]? = some (.int .i64 x) := by
  have := flat_get (icsk_len .i64) xs ex i x h 0 (.int .i64 x) rfl
  rwa [Nat.mul_one, Nat.add_zero] at this
theorem icells_len (xs : List Int) : (xs.flatMap (icsk .i64)).length = xs.length * 1 := flat_length (icsk_len .i64) xs
theorem iown_close {b cap : Nat} {xs : List Int} {ex : List Value} {L : List Assn} (h1 : xs.length ≤ cap) (h2 : cap ≤ maxLen) (h4 : ex.length = (cap - xs.length) * 1) :
    Ent (blk b 3 (xs.flatMap (icsk .i64) ++ ex) :: L) (own 3 1 (.slice (some ⟨b, 0, none⟩) xs.length cap) xs.length (xs.flatMap (icsk .i64)) :: L) := own_close (icells_len xs) h4 h1 h2

theorem samelist (u v : Value) (xs ys : List Int) (hn : xs.length ≤ 1048576) (hm : ys.length ≤ 1048576) :
    Spec Tryd.prog 21 [u, v] [own 3 1 u xs.length (xs.flatMap (icsk .i64)), own 3 1 v ys.length (ys.flatMap (icsk .i64))] (fun r L => r = .bool (decide (xs = ys)) ∧ L = []) := by
  refine Spec.of 26 Tryd.func21 rfl rfl rfl ?_
  refine swp_fact (fun m h => own_form h) fun hu => ?_
  refine swp_front (A := own 3 1 v ys.length (ys.flatMap (icsk .i64))) (by repeat (first | with_reducible exact Take.here | apply Take.there)) ?_
  refine swp_fact (fun m h => own_form h) fun hv => ?_
  refine swp_seq ?_
  refine swp_region ?_
  refine s_pu (pu_assign rfl) ?_
  refine swl_sub _ (.cons (t := 0) rfl (.cons (t := 1) rfl .nil)) ?_
  refine swl_nil ?_
  refine then_n ?_
  refine swp_seq ?_
  refine swp_seq ?_
  refine swp_region ?_
  refine s_pu (pu_move rfl) ?_
  refine s_pu (pu_len_own hu rfl) ?_
  refine s_pu (pu_move rfl) ?_
  refine s_pu (pu_len_own hv rfl) ?_
  refine s_pu (pu_neq rfl rfl) ?_
  refine swl_sub _ (.cons (t := 0) rfl (.cons (t := 1) rfl (.cons (t := 10) rfl .nil))) ?_
  refine swl_nil ?_
  refine then_n ?_
  refine swp_cond (b := _) rfl (fun h10 => ?_) (fun h10 => ?_)
  · skip   -- 10 T
    refine swp_seq ?_
    refine swp_region ?_
    refine s_pu (pu_assign rfl) ?_
    refine swl_sub _ (.cons (t := 4) rfl .nil) ?_
    refine swl_nil ?_
    refine then_n ?_
    refine swp_ret ?_
    refine then_r ?_
    simp only [Bool.not_eq_true', decide_eq_false_iff_not] at h10
    exact done_ret [] (.tmp rfl .nil) ⟨by rw [decide_eq_false (fun e => h10 (by rw [e]))]; rfl, rfl⟩ (by repeat (first | exact Split.nil | (apply Split.cons; (repeat (first | with_reducible exact Take.here | apply Take.there)))))
  · skip   -- 10 F
    refine swp_skip ?_
    refine then_n ?_
    refine swp_seq ?_
    refine swp_seq ?_
    refine swp_region ?_
    refine s_pu (pu_assign rfl) ?_
    refine swl_sub _ (.cons (t := 0) rfl (.cons (t := 1) rfl (.cons (t := 5) rfl .nil))) ?_
    refine swl_nil ?_
    refine then_n ?_
    refine swp_block ?_
    have hlen : xs.length = ys.length := by
      simp only [Bool.not_eq_false', decide_eq_true_eq] at h10; omega
    refine swp_sub _ (.cons (t := 0) rfl (.cons (t := 1) rfl (.cons (t := 5) rfl .nil))) ?_
    refine swp_loop (ι := Nat) (fun i env L => env = [(0, u), (1, v), (5, .int .i64 (i : Nat))] ∧ L = [own 3 1 v ys.length (ys.flatMap (icsk .i64)), own 3 1 u xs.length (xs.flatMap (icsk .i64))] ∧ i ≤ xs.length ∧ ∀ j, j < i → xs[j]? = ys[j]?) (fun i => xs.length - i) 0 ⟨rfl, rfl, Nat.zero_le _, fun j h => by omega⟩ ?_
    rintro i env L ⟨rfl, rfl, hi, hlo⟩
    refine swp_seq ?_
    refine swp_seq ?_
    refine swp_region ?_
    refine s_pu (pu_move rfl) ?_
    refine s_pu (pu_move rfl) ?_
    refine s_pu (pu_len_own hu rfl) ?_
    refine s_pu (pu_lss rfl rfl) ?_
    refine swl_sub _ (.cons (t := 0) rfl (.cons (t := 1) rfl (.cons (t := 5) rfl (.cons (t := 14) rfl .nil)))) ?_
    refine swl_nil ?_
    refine then_n ?_
    refine swp_cond (b := _) rfl (fun h14 => ?_) (fun h14 => ?_)
    · skip   -- 14 T
      have h14' : i < xs.length := by have := of_decide_eq_true h14; omega
      obtain ⟨x, hx⟩ : ∃ x, xs[i]? = some x := ⟨_, List.getElem?_eq_getElem h14'⟩
      obtain ⟨y, hy⟩ : ∃ y, ys[i]? = some y := ⟨_, List.getElem?_eq_getElem (by omega)⟩
      refine swp_front (A := own 3 1 v ys.length (ys.flatMap (icsk .i64))) (by repeat (first | with_reducible exact Take.here | apply Take.there)) ?_
      refine swp_own (fun h0 l0 _ => by omega) (fun b2 c2 ex2 hv2 k1 k2 k3 k4 => ?_)
      refine swp_front (A := own 3 1 u xs.length (xs.flatMap (icsk .i64))) (by repeat (first | with_reducible exact Take.here | apply Take.there)) ?_
      refine swp_own (fun h0 l0 _ => by omega) (fun b1 c1 ex1 hv1 h1 h2 h3 h4 => ?_)
      subst hv1 hv2
      refine swp_skip ?_
      refine then_n ?_
      refine swp_seq ?_
      refine swp_block ?_
      refine swp_seq ?_
      refine swp_draw [3, 7] _ [] (by simp only [List.append_nil]; exact Ent.refl _) (by kernel_rfl) ?_
      refine d_pu 0 rfl (pu_move rfl) (by kernel_rfl) (by kernel_rfl) (by kernel_rfl) ?_
      refine d_pu 1 rfl (pu_move rfl) (by kernel_rfl) (by kernel_rfl) (by kernel_rfl) ?_
      refine d_pu 2 rfl (pu_indexAddr i rfl rfl (by omega) (by omega) (by omega)) (by kernel_rfl) (by kernel_rfl) (by kernel_rfl) ?_
      refine d_rd 3 rfl (rd_load rfl (icells_get hx)) rfl (by kernel_rfl) (by kernel_rfl) (by kernel_rfl) ?_
      refine d_pu 4 rfl (pu_move rfl) (by kernel_rfl) (by kernel_rfl) (by kernel_rfl) ?_
      refine d_pu 5 rfl (pu_move rfl) (by kernel_rfl) (by kernel_rfl) (by kernel_rfl) ?_
      refine d_pu 6 rfl (pu_indexAddr i rfl rfl (by omega) (by omega) (by omega)) (by kernel_rfl) (by kernel_rfl) (by kernel_rfl) ?_
      refine d_rd 7 rfl (rd_load rfl (icells_get hy)) rfl (by kernel_rfl) (by kernel_rfl) (by kernel_rfl) ?_
      refine d_pu 8 rfl (pu_neq rfl rfl) (by kernel_rfl) (by kernel_rfl) (by kernel_rfl) ?_
      refine d_sub _ (.cons (t := 0) rfl (.cons (t := 1) rfl (.cons (t := 5) rfl (.cons (t := 25) rfl .nil)))) ?_
      first | refine d_nilt (by kernel_rfl) ?_ | refine d_nilf (by kernel_rfl) ?_
      refine then_n ?_
      refine swp_cond (b := _) rfl (fun h25 => ?_) (fun h25 => ?_)
      · skip   -- 25 T
        refine swp_seq ?_
        refine swp_region ?_
        refine s_pu (pu_assign rfl) ?_
        refine swl_sub _ (.cons (t := 4) rfl .nil) ?_
        refine swl_nil ?_
        refine then_n ?_
        refine swp_ret ?_
        refine block_r ?_
        refine then_r ?_
        refine then_r ?_
        refine block_r ?_
        refine then_r ?_
        simp only [Bool.not_eq_true', decide_eq_false_iff_not] at h25
        exact done_ret [] (.tmp rfl .nil) ⟨by rw [decide_eq_false (fun e => h25 (by subst e; rw [hx] at hy; exact Option.some.inj hy))]; rfl, rfl⟩ (by repeat (first | exact Split.nil | (apply Split.cons; (repeat (first | with_reducible exact Take.here | apply Take.there)))))
      · skip   -- 25 F
        refine swp_skip ?_
        refine block_n ?_
        refine then_n ?_
        refine swp_region ?_
        refine s_pu (pu_move rfl) ?_
        refine s_pu (pu_add_as ((i + 1 : Nat) : Int) rfl rfl (by omega) (by omega) (by omega)) ?_
        refine s_pu (pu_assign rfl) ?_
        refine swl_sub _ (.cons (t := 0) rfl (.cons (t := 1) rfl (.cons (t := 5) rfl .nil))) ?_
        refine swl_ent ((Split.ent' (K := [blk b1 3 (xs.flatMap (icsk .i64) ++ ex1), blk b2 3 (ys.flatMap (icsk .i64) ++ ex2)]) (by repeat (first | exact Split.nil | (apply Split.cons; (repeat (first | with_reducible exact Take.here | apply Take.there)))))).trans ((iown_close h1 h2 h4).trans (Ent.swap.trans (iown_close k1 k2 k4)))) ?_
        refine swl_nil ?_
        simp only [Bool.not_eq_false', decide_eq_true_eq] at h25
        exact then_n ⟨i + 1, ⟨rfl, rfl, by omega, fun j hj => by
          rcases Nat.lt_or_ge j i with h | h
          · exact hlo j h
          · obtain rfl : j = i := by omega
            rw [hx, hy, h25]⟩, by omega⟩
    · skip   -- 14 F
      refine swp_exit ?_
      refine then_x ?_
      refine then_x ?_
      refine block_hit rfl ?_
      refine then_n ?_
      refine swp_seq ?_
      refine swp_region ?_
      refine s_pu (pu_assign rfl) ?_
      refine swl_sub _ (.cons (t := 4) rfl .nil) ?_
      refine swl_nil ?_
      refine then_n ?_
      refine swp_ret ?_
      have h14' := of_decide_eq_false h14
      obtain rfl : i = xs.length := by omega
      exact done_ret [] (.tmp rfl .nil) ⟨by
        rw [decide_eq_true (List.ext_getElem? fun j => ?_)]
        · rfl
        · rcases Nat.lt_or_ge j xs.length with h | h
          · exact hlo j h
          · rw [List.getElem?_eq_none h, List.getElem?_eq_none (by omega)], rfl⟩ (by repeat (first | exact Split.nil | (apply Split.cons; (repeat (first | with_reducible exact Take.here | apply Take.there)))))

/-- what the calls' third number says -/
def rr (k : Int) : Int := (IntKind.u64.wrap k).tmod 3
def mixb (k : Int) (a b : Bool) : Bool := if rr k = 0 then a || b else if rr k = 1 then a && b else a && !b
def mixS (k : Int) (S T : Nat → Bool) (i j : Nat) : Bool := if j < i then mixb k (S j) (T j) else S j
theorem mixS_step {k : Int} {n i : Nat} {S T : Nat → Bool} {c : Bool} (h : c = mixb k (S i) (T i)) : (rbs n (mixS k S T i)).set i (.bool c) = rbs n (mixS k S T (i + 1)) := rbs_set fun j _ => by
  unfold mixS
  by_cases e : j = i
  · subst e; rw [if_pos (by omega), if_pos rfl, h]
  · rw [if_neg e]
    by_cases h1 : j < i
    · rw [if_pos (by omega), if_pos h1]
    · rw [if_neg (by omega), if_neg h1]
theorem mixS_at {k : Int} {i : Nat} {S T : Nat → Bool} : mixS k S T i i = S i := by unfold mixS; rw [if_neg (by omega)]
set_option maxHeartbeats 1000000 in
theorem mixed_spec (p b n q c m : Nat) (S T : Nat → Bool) (k : Int) (hn : n ≤ 1048576) (hm : m ≤ 1048576) (hz : ∀ j, m ≤ j → T j = false) : Spec Tryd.prog 53 [.pointer (some ⟨p, 0, none⟩), .pointer (some ⟨q, 0, none⟩), .int .i64 k] [blk p 39 [.slice (some ⟨b, 0, none⟩) n n], blk b 4 (rbs n S), blk q 39 [.slice (some ⟨c, 0, none⟩) m m], blk c 4 (rbs m T)]
    (fun r L => r = .tuple #[] ∧ L = [blk p 39 [.slice (some ⟨b, 0, none⟩) n n], blk b 4 (rbs n (fun j => mixb k (S j) (T j))), blk q 39 [.slice (some ⟨c, 0, none⟩) m m], blk c 4 (rbs m T)]) := by
  have hh : ∀ i : Nat, (decide ((0 : Int) ≤ i) && (decide ((i : Int) < m) && T (i : Int).toNat)) = T i := fun i => by
    rw [decide_eq_true (show (0 : Int) ≤ i by omega), Bool.true_and, Int.toNat_natCast]
    by_cases h : i < m
    · rw [decide_eq_true (show (i : Int) < m by omega), Bool.true_and]
    · rw [hz i (by omega), Bool.and_false]
  have hT : ∀ i : Nat, Spec Tryd.prog 50 [.pointer (some ⟨q, 0, none⟩), .int .i64 (i : Nat)] (rop q c m T) (fun r L => r = .bool (T i) ∧ L = rop q c m T) := fun i => by
    have := rhas q c m T (i : Nat) hm
    rwa [hh] at this
  have h0 : rbs n S = rbs n (mixS k S T 0) := rbs_ext fun j _ => by unfold mixS; rw [if_neg (by omega)]
  have hr0 : rr k = 0 → ∀ a b, mixb k a b = (a || b) := fun h a b => by unfold mixb; rw [if_pos h]
  have hr1 : ¬ rr k = 0 → rr k = 1 → ∀ a b, mixb k a b = (a && b) := fun h h1 a b => by unfold mixb; rw [if_neg h, if_pos h1]
  have hr2 : ¬ rr k = 0 → ¬ rr k = 1 → ∀ a b, mixb k a b = (a && !b) := fun h h1 a b => by unfold mixb; rw [if_neg h, if_neg h1]
  refine Spec.of 78 Tryd.func53 rfl rfl rfl ?_
  refine swp_seq ?_
  refine swp_region ?_
  refine s_pu (pu_move rfl) ?_
  first | refine s_pu (pu_nilCheck rfl) ?_ | refine s_pu (pu_nilCheck_fn rfl) ?_ | refine s_pu (pu_nilCheck_if rfl) ?_
  first | refine s_pu (pu_fieldAddr0 rfl) ?_ | refine s_pu (pu_fieldAddr rfl) ?_
  refine s_rd (rd_load rfl rfl) ?_
  refine s_pu (pu_len rfl) ?_
  refine s_pu (pu_move rfl) ?_
  refine swl_sub _ (.cons (t := 0) rfl (.cons (t := 1) rfl (.cons (t := 2) rfl (.cons (t := 11) rfl (.cons (t := 12) rfl .nil))))) ?_
  refine swl_nil ?_
  refine then_n ?_
  refine swp_block ?_
  rw [h0]
  refine swp_loop (ι := Nat) (fun i env L => env = [(0, .pointer (some ⟨p, 0, none⟩)), (1, .pointer (some ⟨q, 0, none⟩)), (2, .int .i64 k), (11, .int .i64 (n : Nat)), (12, .int .i64 (i : Nat))] ∧ L = [blk p 39 [.slice (some ⟨b, 0, none⟩) n n], blk b 4 (rbs n (mixS k S T i)), blk q 39 [.slice (some ⟨c, 0, none⟩) m m], blk c 4 (rbs m T)] ∧ i ≤ n) (fun i => n - i) 0 ⟨rfl, rfl, Nat.zero_le _⟩ ?_
  rintro i env L ⟨rfl, rfl, hi⟩
  refine swp_seq ?_
  refine swp_region ?_
  refine s_pu (pu_lss rfl rfl) ?_
  refine swl_sub _ (.cons (t := 0) rfl (.cons (t := 1) rfl (.cons (t := 2) rfl (.cons (t := 11) rfl (.cons (t := 12) rfl (.cons (t := 13) rfl .nil)))))) ?_
  refine swl_nil ?_
  refine then_n ?_
  refine swp_seq ?_
  refine swp_cond (b := _) rfl (fun h13 => ?_) (fun h13 => ?_)
  · skip   -- 13 T
    have h13' : i < n := by have := of_decide_eq_true h13; omega
    have hget : (rbs n (mixS k S T i))[i]? = some (.bool (S i)) := by rw [rbs_get _ h13', mixS_at]
    refine swp_skip ?_
    refine then_n ?_
    refine swp_seq ?_
    refine swp_block ?_
    refine swp_seq ?_
    refine swp_region ?_
    refine s_pu (pu_move rfl) ?_
    refine s_pu (pu_assign rfl) ?_
    refine swl_sub _ (.cons (t := 0) rfl (.cons (t := 1) rfl (.cons (t := 2) rfl (.cons (t := 6) rfl (.cons (t := 11) rfl (.cons (t := 12) rfl .nil)))))) ?_
    refine swl_nil ?_
    refine then_n ?_
    refine swp_seq ?_
    refine swp_region ?_
    refine s_pu (pu_move rfl) ?_
    first | refine s_pu (pu_conv_u64 rfl (by omega) (by omega)) ?_ | refine s_pu (pu_conv rfl) ?_
    refine s_pu (pu_rem rfl rfl (by omega)) ?_
    refine swl_sub _ (.cons (t := 0) rfl (.cons (t := 1) rfl (.cons (t := 2) rfl (.cons (t := 6) rfl (.cons (t := 11) rfl (.cons (t := 12) rfl (.cons (t := 17) rfl .nil))))))) ?_
    refine swl_nil ?_
    refine then_n ?_
    refine swp_block ?_
    refine swp_seq ?_
    refine swp_region ?_
    refine s_pu (pu_eql rfl rfl) ?_
    refine s_pu (pu_assign rfl) ?_
    refine swl_sub _ (.cons (t := 0) rfl (.cons (t := 1) rfl (.cons (t := 2) rfl (.cons (t := 6) rfl (.cons (t := 11) rfl (.cons (t := 12) rfl (.cons (t := 17) rfl (.cons (t := 37) rfl .nil)))))))) ?_
    refine swl_nil ?_
    refine then_n ?_
    refine swp_cond (b := _) rfl (fun h37 => ?_) (fun h37 => ?_)
    · skip   -- 37 T
      refine swp_draw [3, 8, 11] _ [] (by simp only [List.append_nil]; exact Ent.refl _) (by kernel_rfl) ?_
      refine d_pu 0 rfl (pu_move rfl) (by kernel_rfl) (by kernel_rfl) (by kernel_rfl) ?_
      first | refine d_pu 1 rfl (pu_nilCheck rfl) (by kernel_rfl) (by kernel_rfl) (by kernel_rfl) ?_ | refine d_pu 1 rfl (pu_nilCheck_fn rfl) (by kernel_rfl) (by kernel_rfl) (by kernel_rfl) ?_ | refine d_pu 1 rfl (pu_nilCheck_if rfl) (by kernel_rfl) (by kernel_rfl) (by kernel_rfl) ?_
      first | refine d_pu 2 rfl (pu_fieldAddr0 rfl) (by kernel_rfl) (by kernel_rfl) (by kernel_rfl) ?_ | refine d_pu 2 rfl (pu_fieldAddr rfl) (by kernel_rfl) (by kernel_rfl) (by kernel_rfl) ?_
      refine d_rd 3 rfl (rd_load rfl rfl) rfl (by kernel_rfl) (by kernel_rfl) (by kernel_rfl) ?_
      refine d_pu 4 rfl (pu_move rfl) (by kernel_rfl) (by kernel_rfl) (by kernel_rfl) ?_
      refine d_pu 5 rfl (pu_move rfl) (by kernel_rfl) (by kernel_rfl) (by kernel_rfl) ?_
      first | refine d_pu 6 rfl (pu_nilCheck rfl) (by kernel_rfl) (by kernel_rfl) (by kernel_rfl) ?_ | refine d_pu 6 rfl (pu_nilCheck_fn rfl) (by kernel_rfl) (by kernel_rfl) (by kernel_rfl) ?_ | refine d_pu 6 rfl (pu_nilCheck_if rfl) (by kernel_rfl) (by kernel_rfl) (by kernel_rfl) ?_
      first | refine d_pu 7 rfl (pu_fieldAddr0 rfl) (by kernel_rfl) (by kernel_rfl) (by kernel_rfl) ?_ | refine d_pu 7 rfl (pu_fieldAddr rfl) (by kernel_rfl) (by kernel_rfl) (by kernel_rfl) ?_
      refine d_rd 8 rfl (rd_load rfl rfl) rfl (by kernel_rfl) (by kernel_rfl) (by kernel_rfl) ?_
      refine d_pu 9 rfl (pu_move rfl) (by kernel_rfl) (by kernel_rfl) (by kernel_rfl) ?_
      refine d_pu 10 rfl (pu_indexAddr i rfl rfl (by omega) (by omega) (by omega)) (by kernel_rfl) (by kernel_rfl) (by kernel_rfl) ?_
      refine d_rd 11 rfl (rd_load rfl hget) rfl (by kernel_rfl) (by kernel_rfl) (by kernel_rfl) ?_
      refine d_pu 12 rfl (pu_move rfl) (by kernel_rfl) (by kernel_rfl) (by kernel_rfl) ?_
      refine d_split 51 rfl (fun h51 => ?_) (fun h51 => ?_)
      · skip   -- 51 T
        refine d_off 13 rfl rfl rfl rfl (by kernel_rfl) (by kernel_rfl) (by kernel_rfl) ?_
        refine d_off 14 rfl rfl rfl rfl (by kernel_rfl) (by kernel_rfl) (by kernel_rfl) ?_
        refine d_off 15 rfl rfl rfl rfl (by kernel_rfl) (by kernel_rfl) (by kernel_rfl) ?_
        first | refine d_pu 16 rfl (pu_pick_t rfl rfl) (by kernel_rfl) (by kernel_rfl) (by kernel_rfl) ?_ | refine d_pu 16 rfl (pu_pick_f rfl rfl) (by kernel_rfl) (by kernel_rfl) (by kernel_rfl) ?_
        refine d_pu 17 rfl (pu_indexAddr i rfl rfl (by omega) (by omega) (by omega)) (by kernel_rfl) (by kernel_rfl) (by kernel_rfl) ?_
        first | refine d_fin0t 18 rfl (by kernel_rfl) (by kernel_rfl) (ef_storeP rfl rfl rfl (by rw [rbs_len]; omega)) ?_ | refine d_fin0f 18 rfl (by kernel_rfl) (by kernel_rfl) (ef_storeP rfl rfl rfl (by rw [rbs_len]; omega)) ?_
        refine d_sub _ (.cons (t := 0) rfl (.cons (t := 1) rfl (.cons (t := 2) rfl (.cons (t := 11) rfl (.cons (t := 12) rfl .nil))))) ?_
        first | refine d_nilt (by kernel_rfl) ?_ | refine d_nilf (by kernel_rfl) ?_
        refine block_n ?_
        refine block_n ?_
        refine then_n ?_
        refine swp_region ?_
        refine s_pu (pu_add_as ((i + 1 : Nat) : Int) rfl rfl (by omega) (by omega) (by omega)) ?_
        refine s_pu (pu_move rfl) ?_
        refine swl_sub _ (.cons (t := 0) rfl (.cons (t := 1) rfl (.cons (t := 2) rfl (.cons (t := 11) rfl (.cons (t := 12) rfl .nil))))) ?_
        refine swl_nil ?_
        exact then_n ⟨i + 1, ⟨rfl, by
          rw [mixS_step (T := T) (k := k) (by first
            | (rw [hr0 (of_decide_eq_true h37), h51]; simp; done)
            | (rw [hr1 (of_decide_eq_false h37) (of_decide_eq_true h57), h71]; simp; done)
            | (rw [hr2 (of_decide_eq_false h37) (of_decide_eq_false h57), h30]; simp; done))], h13'⟩, by omega⟩
      · skip   -- 51 F
        refine d_pu_on 13 rfl rfl rfl (pu_move rfl) (by kernel_rfl) (by kernel_rfl) (by kernel_rfl) ?_
        refine d_pu_on 14 rfl rfl rfl (pu_move rfl) (by kernel_rfl) (by kernel_rfl) (by kernel_rfl) ?_
        refine d_amb [15] (by kernel_rfl) rfl ?_
        refine dA_ef 15 rfl (GOn.some rfl rfl) (ef_fn (hT i) rfl rfl (by repeat (first | exact Split.nil | (apply Split.cons; (repeat (first | with_reducible exact Take.here | apply Take.there)))))) ?_
        rintro v1 L1 ⟨rfl, rfl⟩
        refine ⟨_, ent_appC (Split.ent (by repeat (first | exact Split.nil | (apply Split.cons; (repeat (first | with_reducible exact Take.here | apply Take.there)))))), ?_⟩
        first | refine d_pu 16 rfl (pu_pick_t rfl rfl) (by kernel_rfl) (by kernel_rfl) (by kernel_rfl) ?_ | refine d_pu 16 rfl (pu_pick_f rfl rfl) (by kernel_rfl) (by kernel_rfl) (by kernel_rfl) ?_
        refine d_pu 17 rfl (pu_indexAddr i rfl rfl (by omega) (by omega) (by omega)) (by kernel_rfl) (by kernel_rfl) (by kernel_rfl) ?_
        first | refine d_fin0t 18 rfl (by kernel_rfl) (by kernel_rfl) (ef_storeP rfl rfl rfl (by rw [rbs_len]; omega)) ?_ | refine d_fin0f 18 rfl (by kernel_rfl) (by kernel_rfl) (ef_storeP rfl rfl rfl (by rw [rbs_len]; omega)) ?_
        refine d_sub _ (.cons (t := 0) rfl (.cons (t := 1) rfl (.cons (t := 2) rfl (.cons (t := 11) rfl (.cons (t := 12) rfl .nil))))) ?_
        first | refine d_nilt (by kernel_rfl) ?_ | refine d_nilf (by kernel_rfl) ?_
        refine block_n ?_
        refine block_n ?_
        refine then_n ?_
        refine swp_region ?_
        refine s_pu (pu_add_as ((i + 1 : Nat) : Int) rfl rfl (by omega) (by omega) (by omega)) ?_
        refine s_pu (pu_move rfl) ?_
        refine swl_sub _ (.cons (t := 0) rfl (.cons (t := 1) rfl (.cons (t := 2) rfl (.cons (t := 11) rfl (.cons (t := 12) rfl .nil))))) ?_
        refine swl_nil ?_
        exact then_n ⟨i + 1, ⟨rfl, by
          rw [mixS_step (T := T) (k := k) (by first
            | (rw [hr0 (of_decide_eq_true h37), h51]; simp; done)
            | (rw [hr1 (of_decide_eq_false h37) (of_decide_eq_true h57), h71]; simp; done)
            | (rw [hr2 (of_decide_eq_false h37) (of_decide_eq_false h57), h30]; simp; done))], h13'⟩, by omega⟩
    · skip   -- 37 F
      refine swp_seq ?_
      refine swp_region ?_
      refine s_pu (pu_eql rfl rfl) ?_
      refine s_pu (pu_assign rfl) ?_
      refine swl_sub _ (.cons (t := 0) rfl (.cons (t := 1) rfl (.cons (t := 2) rfl (.cons (t := 6) rfl (.cons (t := 11) rfl (.cons (t := 12) rfl (.cons (t := 57) rfl .nil))))))) ?_
      refine swl_nil ?_
      refine then_n ?_
      refine swp_cond (b := _) rfl (fun h57 => ?_) (fun h57 => ?_)
      · skip   -- 57 T
        refine swp_draw [3, 8, 11] _ [] (by simp only [List.append_nil]; exact Ent.refl _) (by kernel_rfl) ?_
        refine d_pu 0 rfl (pu_move rfl) (by kernel_rfl) (by kernel_rfl) (by kernel_rfl) ?_
        first | refine d_pu 1 rfl (pu_nilCheck rfl) (by kernel_rfl) (by kernel_rfl) (by kernel_rfl) ?_ | refine d_pu 1 rfl (pu_nilCheck_fn rfl) (by kernel_rfl) (by kernel_rfl) (by kernel_rfl) ?_ | refine d_pu 1 rfl (pu_nilCheck_if rfl) (by kernel_rfl) (by kernel_rfl) (by kernel_rfl) ?_
        first | refine d_pu 2 rfl (pu_fieldAddr0 rfl) (by kernel_rfl) (by kernel_rfl) (by kernel_rfl) ?_ | refine d_pu 2 rfl (pu_fieldAddr rfl) (by kernel_rfl) (by kernel_rfl) (by kernel_rfl) ?_
        refine d_rd 3 rfl (rd_load rfl rfl) rfl (by kernel_rfl) (by kernel_rfl) (by kernel_rfl) ?_
        refine d_pu 4 rfl (pu_move rfl) (by kernel_rfl) (by kernel_rfl) (by kernel_rfl) ?_
        refine d_pu 5 rfl (pu_move rfl) (by kernel_rfl) (by kernel_rfl) (by kernel_rfl) ?_
        first | refine d_pu 6 rfl (pu_nilCheck rfl) (by kernel_rfl) (by kernel_rfl) (by kernel_rfl) ?_ | refine d_pu 6 rfl (pu_nilCheck_fn rfl) (by kernel_rfl) (by kernel_rfl) (by kernel_rfl) ?_ | refine d_pu 6 rfl (pu_nilCheck_if rfl) (by kernel_rfl) (by kernel_rfl) (by kernel_rfl) ?_
        first | refine d_pu 7 rfl (pu_fieldAddr0 rfl) (by kernel_rfl) (by kernel_rfl) (by kernel_rfl) ?_ | refine d_pu 7 rfl (pu_fieldAddr rfl) (by kernel_rfl) (by kernel_rfl) (by kernel_rfl) ?_
        refine d_rd 8 rfl (rd_load rfl rfl) rfl (by kernel_rfl) (by kernel_rfl) (by kernel_rfl) ?_
        refine d_pu 9 rfl (pu_move rfl) (by kernel_rfl) (by kernel_rfl) (by kernel_rfl) ?_
        refine d_pu 10 rfl (pu_indexAddr i rfl rfl (by omega) (by omega) (by omega)) (by kernel_rfl) (by kernel_rfl) (by kernel_rfl) ?_
        refine d_rd 11 rfl (rd_load rfl hget) rfl (by kernel_rfl) (by kernel_rfl) (by kernel_rfl) ?_
        refine d_pu 12 rfl (pu_move rfl) (by kernel_rfl) (by kernel_rfl) (by kernel_rfl) ?_
        refine d_split 71 rfl (fun h71 => ?_) (fun h71 => ?_)
        · skip   -- 71 T
          refine d_pu_on 13 rfl rfl rfl (pu_move rfl) (by kernel_rfl) (by kernel_rfl) (by kernel_rfl) ?_
          refine d_pu_on 14 rfl rfl rfl (pu_move rfl) (by kernel_rfl) (by kernel_rfl) (by kernel_rfl) ?_
          refine d_amb [15] (by kernel_rfl) rfl ?_
          refine dA_ef 15 rfl (GOn.some rfl rfl) (ef_fn (hT i) rfl rfl (by repeat (first | exact Split.nil | (apply Split.cons; (repeat (first | with_reducible exact Take.here | apply Take.there)))))) ?_
          rintro v1 L1 ⟨rfl, rfl⟩
          refine ⟨_, ent_appC (Split.ent (by repeat (first | exact Split.nil | (apply Split.cons; (repeat (first | with_reducible exact Take.here | apply Take.there)))))), ?_⟩
          first | refine d_pu 16 rfl (pu_pick_t rfl rfl) (by kernel_rfl) (by kernel_rfl) (by kernel_rfl) ?_ | refine d_pu 16 rfl (pu_pick_f rfl rfl) (by kernel_rfl) (by kernel_rfl) (by kernel_rfl) ?_
          refine d_pu 17 rfl (pu_indexAddr i rfl rfl (by omega) (by omega) (by omega)) (by kernel_rfl) (by kernel_rfl) (by kernel_rfl) ?_
          first | refine d_fin0t 18 rfl (by kernel_rfl) (by kernel_rfl) (ef_storeP rfl rfl rfl (by rw [rbs_len]; omega)) ?_ | refine d_fin0f 18 rfl (by kernel_rfl) (by kernel_rfl) (ef_storeP rfl rfl rfl (by rw [rbs_len]; omega)) ?_
          refine d_sub _ (.cons (t := 0) rfl (.cons (t := 1) rfl (.cons (t := 2) rfl (.cons (t := 11) rfl (.cons (t := 12) rfl .nil))))) ?_
          first | refine d_nilt (by kernel_rfl) ?_ | refine d_nilf (by kernel_rfl) ?_
          refine block_n ?_
          refine block_n ?_
          refine then_n ?_
          refine swp_region ?_
          refine s_pu (pu_add_as ((i + 1 : Nat) : Int) rfl rfl (by omega) (by omega) (by omega)) ?_
          refine s_pu (pu_move rfl) ?_
          refine swl_sub _ (.cons (t := 0) rfl (.cons (t := 1) rfl (.cons (t := 2) rfl (.cons (t := 11) rfl (.cons (t := 12) rfl .nil))))) ?_
          refine swl_nil ?_
          exact then_n ⟨i + 1, ⟨rfl, by
            rw [mixS_step (T := T) (k := k) (by first
              | (rw [hr0 (of_decide_eq_true h37), h51]; simp; done)
              | (rw [hr1 (of_decide_eq_false h37) (of_decide_eq_true h57), h71]; simp; done)
              | (rw [hr2 (of_decide_eq_false h37) (of_decide_eq_false h57), h30]; simp; done))], h13'⟩, by omega⟩
        · skip   -- 71 F
          refine d_off 13 rfl rfl rfl rfl (by kernel_rfl) (by kernel_rfl) (by kernel_rfl) ?_
          refine d_off 14 rfl rfl rfl rfl (by kernel_rfl) (by kernel_rfl) (by kernel_rfl) ?_
          refine d_off 15 rfl rfl rfl rfl (by kernel_rfl) (by kernel_rfl) (by kernel_rfl) ?_
          first | refine d_pu 16 rfl (pu_pick_t rfl rfl) (by kernel_rfl) (by kernel_rfl) (by kernel_rfl) ?_ | refine d_pu 16 rfl (pu_pick_f rfl rfl) (by kernel_rfl) (by kernel_rfl) (by kernel_rfl) ?_
          refine d_pu 17 rfl (pu_indexAddr i rfl rfl (by omega) (by omega) (by omega)) (by kernel_rfl) (by kernel_rfl) (by kernel_rfl) ?_
          first | refine d_fin0t 18 rfl (by kernel_rfl) (by kernel_rfl) (ef_storeP rfl rfl rfl (by rw [rbs_len]; omega)) ?_ | refine d_fin0f 18 rfl (by kernel_rfl) (by kernel_rfl) (ef_storeP rfl rfl rfl (by rw [rbs_len]; omega)) ?_
          refine d_sub _ (.cons (t := 0) rfl (.cons (t := 1) rfl (.cons (t := 2) rfl (.cons (t := 11) rfl (.cons (t := 12) rfl .nil))))) ?_
          first | refine d_nilt (by kernel_rfl) ?_ | refine d_nilf (by kernel_rfl) ?_
          refine block_n ?_
          refine block_n ?_
          refine then_n ?_
          refine swp_region ?_
          refine s_pu (pu_add_as ((i + 1 : Nat) : Int) rfl rfl (by omega) (by omega) (by omega)) ?_
          refine s_pu (pu_move rfl) ?_
          refine swl_sub _ (.cons (t := 0) rfl (.cons (t := 1) rfl (.cons (t := 2) rfl (.cons (t := 11) rfl (.cons (t := 12) rfl .nil))))) ?_
          refine swl_nil ?_
          exact then_n ⟨i + 1, ⟨rfl, by
            rw [mixS_step (T := T) (k := k) (by first
              | (rw [hr0 (of_decide_eq_true h37), h51]; simp; done)
              | (rw [hr1 (of_decide_eq_false h37) (of_decide_eq_true h57), h71]; simp; done)
              | (rw [hr2 (of_decide_eq_false h37) (of_decide_eq_false h57), h30]; simp; done))], h13'⟩, by omega⟩
      · skip   -- 57 F
        refine swp_draw [3, 8, 11] _ [] (by simp only [List.append_nil]; exact Ent.refl _) (by kernel_rfl) ?_
        refine d_pu 0 rfl (pu_move rfl) (by kernel_rfl) (by kernel_rfl) (by kernel_rfl) ?_
        first | refine d_pu 1 rfl (pu_nilCheck rfl) (by kernel_rfl) (by kernel_rfl) (by kernel_rfl) ?_ | refine d_pu 1 rfl (pu_nilCheck_fn rfl) (by kernel_rfl) (by kernel_rfl) (by kernel_rfl) ?_ | refine d_pu 1 rfl (pu_nilCheck_if rfl) (by kernel_rfl) (by kernel_rfl) (by kernel_rfl) ?_
        first | refine d_pu 2 rfl (pu_fieldAddr0 rfl) (by kernel_rfl) (by kernel_rfl) (by kernel_rfl) ?_ | refine d_pu 2 rfl (pu_fieldAddr rfl) (by kernel_rfl) (by kernel_rfl) (by kernel_rfl) ?_
        refine d_rd 3 rfl (rd_load rfl rfl) rfl (by kernel_rfl) (by kernel_rfl) (by kernel_rfl) ?_
        refine d_pu 4 rfl (pu_move rfl) (by kernel_rfl) (by kernel_rfl) (by kernel_rfl) ?_
        refine d_pu 5 rfl (pu_move rfl) (by kernel_rfl) (by kernel_rfl) (by kernel_rfl) ?_
        first | refine d_pu 6 rfl (pu_nilCheck rfl) (by kernel_rfl) (by kernel_rfl) (by kernel_rfl) ?_ | refine d_pu 6 rfl (pu_nilCheck_fn rfl) (by kernel_rfl) (by kernel_rfl) (by kernel_rfl) ?_ | refine d_pu 6 rfl (pu_nilCheck_if rfl) (by kernel_rfl) (by kernel_rfl) (by kernel_rfl) ?_
        first | refine d_pu 7 rfl (pu_fieldAddr0 rfl) (by kernel_rfl) (by kernel_rfl) (by kernel_rfl) ?_ | refine d_pu 7 rfl (pu_fieldAddr rfl) (by kernel_rfl) (by kernel_rfl) (by kernel_rfl) ?_
        refine d_rd 8 rfl (rd_load rfl rfl) rfl (by kernel_rfl) (by kernel_rfl) (by kernel_rfl) ?_
        refine d_pu 9 rfl (pu_move rfl) (by kernel_rfl) (by kernel_rfl) (by kernel_rfl) ?_
        refine d_pu 10 rfl (pu_indexAddr i rfl rfl (by omega) (by omega) (by omega)) (by kernel_rfl) (by kernel_rfl) (by kernel_rfl) ?_
        refine d_rd 11 rfl (rd_load rfl hget) rfl (by kernel_rfl) (by kernel_rfl) (by kernel_rfl) ?_
        refine d_pu 12 rfl (pu_move rfl) (by kernel_rfl) (by kernel_rfl) (by kernel_rfl) ?_
        refine d_split 30 rfl (fun h30 => ?_) (fun h30 => ?_)
        · skip   -- 30 T
          refine d_pu_on 13 rfl rfl rfl (pu_move rfl) (by kernel_rfl) (by kernel_rfl) (by kernel_rfl) ?_
          refine d_pu_on 14 rfl rfl rfl (pu_move rfl) (by kernel_rfl) (by kernel_rfl) (by kernel_rfl) ?_
          refine d_amb [15] (by kernel_rfl) rfl ?_
          refine dA_ef 15 rfl (GOn.some rfl rfl) (ef_fn (hT i) rfl rfl (by repeat (first | exact Split.nil | (apply Split.cons; (repeat (first | with_reducible exact Take.here | apply Take.there)))))) ?_
          rintro v1 L1 ⟨rfl, rfl⟩
          refine ⟨_, ent_appC (Split.ent (by repeat (first | exact Split.nil | (apply Split.cons; (repeat (first | with_reducible exact Take.here | apply Take.there)))))), ?_⟩
          refine d_pu_on 16 rfl rfl rfl (pu_not rfl) (by kernel_rfl) (by kernel_rfl) (by kernel_rfl) ?_
          first | refine d_pu 17 rfl (pu_pick_t rfl rfl) (by kernel_rfl) (by kernel_rfl) (by kernel_rfl) ?_ | refine d_pu 17 rfl (pu_pick_f rfl rfl) (by kernel_rfl) (by kernel_rfl) (by kernel_rfl) ?_
          refine d_pu 18 rfl (pu_indexAddr i rfl rfl (by omega) (by omega) (by omega)) (by kernel_rfl) (by kernel_rfl) (by kernel_rfl) ?_
          first | refine d_fin0t 19 rfl (by kernel_rfl) (by kernel_rfl) (ef_storeP rfl rfl rfl (by rw [rbs_len]; omega)) ?_ | refine d_fin0f 19 rfl (by kernel_rfl) (by kernel_rfl) (ef_storeP rfl rfl rfl (by rw [rbs_len]; omega)) ?_
          refine d_sub _ (.cons (t := 0) rfl (.cons (t := 1) rfl (.cons (t := 2) rfl (.cons (t := 11) rfl (.cons (t := 12) rfl .nil))))) ?_
          first | refine d_nilt (by kernel_rfl) ?_ | refine d_nilf (by kernel_rfl) ?_
          refine block_n ?_
          refine block_n ?_
          refine then_n ?_
          refine swp_region ?_
          refine s_pu (pu_add_as ((i + 1 : Nat) : Int) rfl rfl (by omega) (by omega) (by omega)) ?_
          refine s_pu (pu_move rfl) ?_
          refine swl_sub _ (.cons (t := 0) rfl (.cons (t := 1) rfl (.cons (t := 2) rfl (.cons (t := 11) rfl (.cons (t := 12) rfl .nil))))) ?_
          refine swl_nil ?_
          exact then_n ⟨i + 1, ⟨rfl, by
            rw [mixS_step (T := T) (k := k) (by first
              | (rw [hr0 (of_decide_eq_true h37), h51]; simp; done)
              | (rw [hr1 (of_decide_eq_false h37) (of_decide_eq_true h57), h71]; simp; done)
              | (rw [hr2 (of_decide_eq_false h37) (of_decide_eq_false h57), h30]; simp; done))], h13'⟩, by omega⟩
        · skip   -- 30 F
          refine d_off 13 rfl rfl rfl rfl (by kernel_rfl) (by kernel_rfl) (by kernel_rfl) ?_
          refine d_off 14 rfl rfl rfl rfl (by kernel_rfl) (by kernel_rfl) (by kernel_rfl) ?_
          refine d_off 15 rfl rfl rfl rfl (by kernel_rfl) (by kernel_rfl) (by kernel_rfl) ?_
          refine d_off 16 rfl rfl rfl rfl (by kernel_rfl) (by kernel_rfl) (by kernel_rfl) ?_
          first | refine d_pu 17 rfl (pu_pick_t rfl rfl) (by kernel_rfl) (by kernel_rfl) (by kernel_rfl) ?_ | refine d_pu 17 rfl (pu_pick_f rfl rfl) (by kernel_rfl) (by kernel_rfl) (by kernel_rfl) ?_
          refine d_pu 18 rfl (pu_indexAddr i rfl rfl (by omega) (by omega) (by omega)) (by kernel_rfl) (by kernel_rfl) (by kernel_rfl) ?_
          first | refine d_fin0t 19 rfl (by kernel_rfl) (by kernel_rfl) (ef_storeP rfl rfl rfl (by rw [rbs_len]; omega)) ?_ | refine d_fin0f 19 rfl (by kernel_rfl) (by kernel_rfl) (ef_storeP rfl rfl rfl (by rw [rbs_len]; omega)) ?_
          refine d_sub _ (.cons (t := 0) rfl (.cons (t := 1) rfl (.cons (t := 2) rfl (.cons (t := 11) rfl (.cons (t := 12) rfl .nil))))) ?_
          first | refine d_nilt (by kernel_rfl) ?_ | refine d_nilf (by kernel_rfl) ?_
          refine block_n ?_
          refine block_n ?_
          refine then_n ?_
          refine swp_region ?_
          refine s_pu (pu_add_as ((i + 1 : Nat) : Int) rfl rfl (by omega) (by omega) (by omega)) ?_
          refine s_pu (pu_move rfl) ?_
          refine swl_sub _ (.cons (t := 0) rfl (.cons (t := 1) rfl (.cons (t := 2) rfl (.cons (t := 11) rfl (.cons (t := 12) rfl .nil))))) ?_
          refine swl_nil ?_
          exact then_n ⟨i + 1, ⟨rfl, by
            rw [mixS_step (T := T) (k := k) (by first
              | (rw [hr0 (of_decide_eq_true h37), h51]; simp; done)
              | (rw [hr1 (of_decide_eq_false h37) (of_decide_eq_true h57), h71]; simp; done)
              | (rw [hr2 (of_decide_eq_false h37) (of_decide_eq_false h57), h30]; simp; done))], h13'⟩, by omega⟩
  · skip   -- 13 F
    refine swp_exit ?_
    refine then_x ?_
    refine then_x ?_
    refine block_hit rfl ?_
    have h13' := of_decide_eq_false h13
    obtain rfl : i = n := by omega
    rw [rbs_ext (S := mixS k S T i) (T := fun j => mixb k (S j) (T j)) (fun j hj => by unfold mixS; rw [if_pos hj])]
    exact done_end _ .nil ⟨rfl, rfl⟩ (by repeat (first | exact Split.nil | (apply Split.cons; (repeat (first | with_reducible exact Take.here | apply Take.there)))))
end SX
namespace SX
open Go Go.Proofs

/-- a set and the document's -/
abbrev both (p n : Nat) (S : Nat → Bool) (w b : Nat) : List Assn := [mset p n S, blk w 39 [.slice (some ⟨b, 0, none⟩) n n], blk b 4 (rbs n S)]
theorem same_spec (μ : PH) (p n w b : Nat) (S : Nat → Bool) (hT : RowAt μ 0 0 tabV) (hn : n ≤ 1048576) : Spec Tryd.prog 25 [.pointer (some ⟨p, 0, none⟩), .pointer (some ⟨w, 0, none⟩)]
    [mset p n S, blk w 39 [.slice (some ⟨b, 0, none⟩) n n], blk b 4 (rbs n S), ro μ] (fun r L => r = .bool true ∧ L = [mset p n S, blk w 39 [.slice (some ⟨b, 0, none⟩) n n], blk b 4 (rbs n S), ro μ]) := by
  have hle := elsTo_len n S
  refine Spec.of 19 Tryd.func25 rfl rfl rfl ?_
  refine swp_seq ?_
  refine swp_region ?_
  refine s_pu (pu_assign rfl) ?_
  refine swl_sub _ (.cons (t := 0) rfl (.cons (t := 1) rfl .nil)) ?_
  refine swl_nil ?_
  refine then_n ?_
  refine swp_seq ?_
  refine swp_region ?_
  refine s_pu (pu_move rfl) ?_
  refine s_ef (ef_fn (rlist w b n S hn) rfl rfl (by repeat (first | exact Split.nil | (apply Split.cons; (repeat (first | with_reducible exact Take.here | apply Take.there)))))) ?_
  rintro v1 L1 rfl
  refine swl_app ?_
  refine swl_fact (fun m h => own_form h) fun hform => ?_
  refine s_pu (pu_assign rfl) ?_
  refine swl_sub _ (.cons (t := 0) rfl (.cons (t := 5) rfl .nil)) ?_
  refine swl_nil ?_
  refine then_n ?_
  refine swp_seq ?_
  refine swp_region ?_
  refine s_pu (pu_move rfl) ?_
  refine s_ef (ef_fn (count_m p n S) rfl rfl (by repeat (first | exact Split.nil | (apply Split.cons; (repeat (first | with_reducible exact Take.here | apply Take.there)))))) ?_
  rintro v2 L1 ⟨rfl, rfl⟩
  refine swl_app ?_
  refine s_pu (pu_move rfl) ?_
  refine s_pu (pu_len_own hform rfl) ?_
  refine s_pu (pu_eql rfl rfl) ?_
  refine s_pu (pu_move rfl) ?_
  refine s_split 13 rfl (fun h13 => ?_) (fun h13 => by simp at h13)
  refine s_on rfl rfl ?_
  refine s_pu (pu_move rfl) ?_
  refine s_on rfl rfl ?_
  refine s_ef (ef_fn (list_m μ p n S hT) rfl rfl (by repeat (first | exact Split.nil | (apply Split.cons; (repeat (first | with_reducible exact Take.here | apply Take.there)))))) ?_
  rintro v3 L1 rfl
  refine swl_app ?_
  refine s_on rfl rfl ?_
  refine s_pu (pu_move rfl) ?_
  refine s_on rfl rfl ?_
  refine s_ef (ef_fn (samelist v3 v1 (elsTo n S) (elsTo n S) (by omega) (by omega)) rfl rfl (by repeat (first | exact Split.nil | (apply Split.cons; (repeat (first | with_reducible exact Take.here | apply Take.there)))))) ?_
  rintro v4 L1 ⟨rfl, rfl⟩
  refine swl_app ?_
  first | refine s_pu (pu_pick_t rfl rfl) ?_ | refine s_pu (pu_pick_f rfl rfl) ?_
  refine s_pu (pu_assign rfl) ?_
  refine swl_sub _ (.cons (t := 4) rfl .nil) ?_
  refine swl_nil ?_
  refine then_n ?_
  refine swp_ret ?_
  exact done_ret [mset p n S, blk w 39 [.slice (some ⟨b, 0, none⟩) n n], blk b 4 (rbs n S), ro μ] (.tmp rfl .nil) ⟨by rw [decide_eq_true rfl]; rfl, rfl⟩ (by repeat (first | exact Split.nil | (apply Split.cons; (repeat (first | with_reducible exact Take.here | apply Take.there)))))
set_option maxHeartbeats 2000000 in
theorem step_spec (μ : PH) (p n w b q m x c : Nat) (S T : Nat → Bool) (kd k : Int) (hT : RowAt μ 0 0 tabV) (hn : n ≤ 1048576) (hm : m ≤ 1048576) (hSz : ∀ j, n ≤ j → S j = false) (hTz : ∀ j, m ≤ j → T j = false) :
    Spec Tryd.prog 24 [.pointer (some ⟨p, 0, none⟩), .pointer (some ⟨q, 0, none⟩), .pointer (some ⟨w, 0, none⟩), .pointer (some ⟨x, 0, none⟩), .agg #[.int .u8 kd, .int .i64 k]]
    [mset p n S, mset q m T, blk w 39 [.slice (some ⟨b, 0, none⟩) n n], blk b 4 (rbs n S), blk x 39 [.slice (some ⟨c, 0, none⟩) m m], blk c 4 (rbs m T), ro μ]
    (fun r L => r = .bool true ∧ ∃ S' : Nat → Bool, (∀ j, n ≤ j → S' j = false) ∧ L = [mset p n S', mset q m T, blk w 39 [.slice (some ⟨b, 0, none⟩) n n], blk b 4 (rbs n S'), blk x 39 [.slice (some ⟨c, 0, none⟩) m m], blk c 4 (rbs m T), ro μ]) := by
  have hle := elsTo_len m T
  have hr0 : rr k = 0 → ∀ a b, mixb k a b = (a || b) := fun h a b => by unfold mixb; rw [if_pos h]
  have hr1 : ¬ rr k = 0 → rr k = 1 → ∀ a b, mixb k a b = (a && b) := fun h h1 a b => by unfold mixb; rw [if_neg h, if_pos h1]
  have hr2 : ¬ rr k = 0 → ¬ rr k = 1 → ∀ a b, mixb k a b = (a && !b) := fun h h1 a b => by unfold mixb; rw [if_neg h, if_neg h1]
  have hrw : (IntKind.u64.wrap k).tmod 3 = rr k := rfl
  obtain ⟨U, hU⟩ : ∃ U : Nat → Bool, ∀ j, (decide (j < n) && mixb k (S j) (T j)) = U j := ⟨_, fun j => rfl⟩
  have hUz : ∀ j, n ≤ j → U j = false := fun j hj => by rw [← hU, decide_eq_false (by omega)]; rfl
  have hUr : rbs n (fun j => mixb k (S j) (T j)) = rbs n U := rbs_ext fun j hj => by rw [← hU, decide_eq_true hj]; rfl
  refine Spec.of 96 Tryd.func24 rfl rfl rfl ?_
  refine swp_seq ?_
  refine swp_region ?_
  refine s_ef (ef_box rfl rfl) ?_
  intro b9
  refine s_pu (pu_assign rfl) ?_
  refine swl_sub _ (.cons (t := 0) rfl (.cons (t := 1) rfl (.cons (t := 2) rfl (.cons (t := 3) rfl (.cons (t := 9) rfl .nil))))) ?_
  refine swl_nil ?_
  refine then_n ?_
  refine swp_seq ?_
  refine swp_seq ?_
  refine swp_region ?_
  first | refine s_pu (pu_fieldAddr0 rfl) ?_ | refine s_pu (pu_fieldAddr rfl) ?_
  refine s_rd (rd_load rfl rfl) ?_
  refine s_pu (pu_rem rfl rfl (by omega)) ?_
  refine swl_sub _ (.cons (t := 0) rfl (.cons (t := 1) rfl (.cons (t := 2) rfl (.cons (t := 3) rfl (.cons (t := 9) rfl (.cons (t := 13) rfl .nil)))))) ?_
  refine swl_nil ?_
  refine then_n ?_
  refine swp_block ?_
  refine swp_seq ?_
  refine swp_region ?_
  refine s_pu (pu_eql rfl rfl) ?_
  refine s_pu (pu_assign rfl) ?_
  refine swl_sub _ (.cons (t := 0) rfl (.cons (t := 1) rfl (.cons (t := 2) rfl (.cons (t := 3) rfl (.cons (t := 9) rfl (.cons (t := 13) rfl (.cons (t := 14) rfl .nil))))))) ?_
  refine swl_nil ?_
  refine then_n ?_
  refine swp_cond (b := _) rfl (fun h14 => ?_) (fun h14 => ?_)
  · skip   -- 14 T
    refine swp_seq ?_
    refine swp_draw [2, 6] ([blk b9 41 [.int .u8 kd, .int .i64 k]]) ([mset p n S, mset q m T, blk w 39 [.slice (some ⟨b, 0, none⟩) n n], blk b 4 (rbs n S), blk x 39 [.slice (some ⟨c, 0, none⟩) m m], blk c 4 (rbs m T), ro μ]) (Split.ent (by repeat (first | exact Split.nil | (apply Split.cons; (repeat (first | with_reducible exact Take.here | apply Take.there)))))) (by kernel_rfl) ?_
    refine d_pu 0 rfl (pu_move rfl) (by kernel_rfl) (by kernel_rfl) (by kernel_rfl) ?_
    first | refine d_pu 1 rfl (pu_fieldAddr0 rfl) (by kernel_rfl) (by kernel_rfl) (by kernel_rfl) ?_ | refine d_pu 1 rfl (pu_fieldAddr rfl) (by kernel_rfl) (by kernel_rfl) (by kernel_rfl) ?_
    refine d_rd 2 rfl (rd_load rfl rfl) rfl (by kernel_rfl) (by kernel_rfl) (by kernel_rfl) ?_
    refine d_pu 4 rfl (pu_move rfl) (by kernel_rfl) (by kernel_rfl) (by kernel_rfl) ?_
    first | refine d_pu 5 rfl (pu_fieldAddr0 rfl) (by kernel_rfl) (by kernel_rfl) (by kernel_rfl) ?_ | refine d_pu 5 rfl (pu_fieldAddr rfl) (by kernel_rfl) (by kernel_rfl) (by kernel_rfl) ?_
    refine d_rd 6 rfl (rd_load rfl rfl) rfl (by kernel_rfl) (by kernel_rfl) (by kernel_rfl) ?_
    refine d_eft 3 rfl (by kernel_rfl) (ef_fn (put_m p n S k) rfl rfl (by repeat (first | exact Split.nil | (apply Split.cons; (repeat (first | with_reducible exact Take.here | apply Take.there)))))) ?_
    rintro v1 L1 ⟨rfl, rfl⟩
    refine ⟨_, ent_appC (Split.ent (by repeat (first | exact Split.nil | (apply Split.cons; (repeat (first | with_reducible exact Take.here | apply Take.there)))))), ?_⟩
    first | refine d_fint 7 rfl (by kernel_rfl) (by kernel_rfl) (ef_fn (rput w b n S k hn) rfl rfl (by repeat (first | exact Split.nil | (apply Split.cons; (repeat (first | with_reducible exact Take.here | apply Take.there)))))) ?_ | refine d_finf 7 rfl (by kernel_rfl) (by kernel_rfl) (ef_fn (rput w b n S k hn) rfl rfl (by repeat (first | exact Split.nil | (apply Split.cons; (repeat (first | with_reducible exact Take.here | apply Take.there)))))) ?_
    rintro v1 L1 ⟨rfl, rfl⟩
    refine swd_app ?_
    refine d_pu 8 rfl (pu_bool_eq rfl rfl) (by kernel_rfl) (by kernel_rfl) (by kernel_rfl) ?_
    refine d_pu 9 rfl (pu_assign rfl) (by kernel_rfl) (by kernel_rfl) (by kernel_rfl) ?_
    refine d_sub _ (.cons (t := 10) rfl .nil) ?_
    first | refine d_nilt (by kernel_rfl) ?_ | refine d_nilf (by kernel_rfl) ?_
    refine then_n ?_
    refine swp_ret ?_
    refine block_r ?_
    refine then_r ?_
    exact done_ret [mset p n (fun j => S j || (decide (0 ≤ k ∧ k < n) && decide (j = k.toNat))), mset q m T, blk w 39 [.slice (some ⟨b, 0, none⟩) n n], blk b 4 (rbs n (fun j => S j || (decide (0 ≤ k ∧ k < n) && decide (j = k.toNat)))), blk x 39 [.slice (some ⟨c, 0, none⟩) m m], blk c 4 (rbs m T), ro μ] (.tmp rfl .nil) ⟨by rw [beq_self_eq_true]; rfl, _, fun j hj => by
      rw [hSz j hj, Bool.false_or]
      by_cases h : 0 ≤ k ∧ k < n
      · rw [decide_eq_false (show ¬ j = k.toNat by omega), Bool.and_false]
      · rw [decide_eq_false h, Bool.false_and], rfl⟩ (by repeat (first | exact Split.nil | (apply Split.cons; (repeat (first | with_reducible exact Take.here | apply Take.there)))))
  · skip   -- 14 F
    refine swp_seq ?_
    refine swp_region ?_
    refine s_pu (pu_eql rfl rfl) ?_
    refine s_pu (pu_assign rfl) ?_
    refine swl_sub _ (.cons (t := 0) rfl (.cons (t := 1) rfl (.cons (t := 2) rfl (.cons (t := 3) rfl (.cons (t := 9) rfl (.cons (t := 13) rfl (.cons (t := 25) rfl .nil))))))) ?_
    refine swl_nil ?_
    refine then_n ?_
    refine swp_cond (b := _) rfl (fun h25 => ?_) (fun h25 => ?_)
    · skip   -- 25 T
      refine swp_seq ?_
      refine swp_draw [2, 6] ([blk b9 41 [.int .u8 kd, .int .i64 k]]) ([mset p n S, mset q m T, blk w 39 [.slice (some ⟨b, 0, none⟩) n n], blk b 4 (rbs n S), blk x 39 [.slice (some ⟨c, 0, none⟩) m m], blk c 4 (rbs m T), ro μ]) (Split.ent (by repeat (first | exact Split.nil | (apply Split.cons; (repeat (first | with_reducible exact Take.here | apply Take.there)))))) (by kernel_rfl) ?_
      refine d_pu 0 rfl (pu_move rfl) (by kernel_rfl) (by kernel_rfl) (by kernel_rfl) ?_
      first | refine d_pu 1 rfl (pu_fieldAddr0 rfl) (by kernel_rfl) (by kernel_rfl) (by kernel_rfl) ?_ | refine d_pu 1 rfl (pu_fieldAddr rfl) (by kernel_rfl) (by kernel_rfl) (by kernel_rfl) ?_
      refine d_rd 2 rfl (rd_load rfl rfl) rfl (by kernel_rfl) (by kernel_rfl) (by kernel_rfl) ?_
      refine d_pu 4 rfl (pu_move rfl) (by kernel_rfl) (by kernel_rfl) (by kernel_rfl) ?_
      first | refine d_pu 5 rfl (pu_fieldAddr0 rfl) (by kernel_rfl) (by kernel_rfl) (by kernel_rfl) ?_ | refine d_pu 5 rfl (pu_fieldAddr rfl) (by kernel_rfl) (by kernel_rfl) (by kernel_rfl) ?_
      refine d_rd 6 rfl (rd_load rfl rfl) rfl (by kernel_rfl) (by kernel_rfl) (by kernel_rfl) ?_
      refine d_eft 3 rfl (by kernel_rfl) (ef_fn (drop_m p n S k) rfl rfl (by repeat (first | exact Split.nil | (apply Split.cons; (repeat (first | with_reducible exact Take.here | apply Take.there)))))) ?_
      rintro v1 L1 ⟨rfl, rfl⟩
      refine ⟨_, ent_appC (Split.ent (by repeat (first | exact Split.nil | (apply Split.cons; (repeat (first | with_reducible exact Take.here | apply Take.there)))))), ?_⟩
      first | refine d_fint 7 rfl (by kernel_rfl) (by kernel_rfl) (ef_fn (rdrop w b n S k hn hSz) rfl rfl (by repeat (first | exact Split.nil | (apply Split.cons; (repeat (first | with_reducible exact Take.here | apply Take.there)))))) ?_ | refine d_finf 7 rfl (by kernel_rfl) (by kernel_rfl) (ef_fn (rdrop w b n S k hn hSz) rfl rfl (by repeat (first | exact Split.nil | (apply Split.cons; (repeat (first | with_reducible exact Take.here | apply Take.there)))))) ?_
      rintro v1 L1 ⟨rfl, rfl⟩
      refine swd_app ?_
      refine d_pu 8 rfl (pu_bool_eq rfl rfl) (by kernel_rfl) (by kernel_rfl) (by kernel_rfl) ?_
      refine d_pu 9 rfl (pu_assign rfl) (by kernel_rfl) (by kernel_rfl) (by kernel_rfl) ?_
      refine d_sub _ (.cons (t := 10) rfl .nil) ?_
      first | refine d_nilt (by kernel_rfl) ?_ | refine d_nilf (by kernel_rfl) ?_
      refine then_n ?_
      refine swp_ret ?_
      refine block_r ?_
      refine then_r ?_
      exact done_ret [mset p n (fun j => S j && !(decide (0 ≤ k) && decide (j = k.toNat))), mset q m T, blk w 39 [.slice (some ⟨b, 0, none⟩) n n], blk b 4 (rbs n (fun j => S j && !(decide (0 ≤ k) && decide (j = k.toNat)))), blk x 39 [.slice (some ⟨c, 0, none⟩) m m], blk c 4 (rbs m T), ro μ] (.tmp rfl .nil) ⟨by rw [beq_self_eq_true]; rfl, _, fun j hj => by rw [hSz j hj, Bool.false_and], rfl⟩ (by repeat (first | exact Split.nil | (apply Split.cons; (repeat (first | with_reducible exact Take.here | apply Take.there)))))
    · skip   -- 25 F
      refine swp_seq ?_
      refine swp_region ?_
      refine s_pu (pu_eql rfl rfl) ?_
      refine s_pu (pu_assign rfl) ?_
      refine swl_sub _ (.cons (t := 0) rfl (.cons (t := 1) rfl (.cons (t := 2) rfl (.cons (t := 3) rfl (.cons (t := 9) rfl (.cons (t := 13) rfl (.cons (t := 36) rfl .nil))))))) ?_
      refine swl_nil ?_
      refine then_n ?_
      refine swp_cond (b := _) rfl (fun h36 => ?_) (fun h36 => ?_)
      · skip   -- 36 T
        refine swp_seq ?_
        refine swp_draw [2, 6] _ [] (by simp only [List.append_nil]; exact Ent.refl _) (by kernel_rfl) ?_
        refine d_pu 0 rfl (pu_move rfl) (by kernel_rfl) (by kernel_rfl) (by kernel_rfl) ?_
        first | refine d_pu 1 rfl (pu_fieldAddr0 rfl) (by kernel_rfl) (by kernel_rfl) (by kernel_rfl) ?_ | refine d_pu 1 rfl (pu_fieldAddr rfl) (by kernel_rfl) (by kernel_rfl) (by kernel_rfl) ?_
        refine d_rd 2 rfl (rd_load rfl rfl) rfl (by kernel_rfl) (by kernel_rfl) (by kernel_rfl) ?_
        refine d_pu 4 rfl (pu_move rfl) (by kernel_rfl) (by kernel_rfl) (by kernel_rfl) ?_
        first | refine d_pu 5 rfl (pu_fieldAddr0 rfl) (by kernel_rfl) (by kernel_rfl) (by kernel_rfl) ?_ | refine d_pu 5 rfl (pu_fieldAddr rfl) (by kernel_rfl) (by kernel_rfl) (by kernel_rfl) ?_
        refine d_rd 6 rfl (rd_load rfl rfl) rfl (by kernel_rfl) (by kernel_rfl) (by kernel_rfl) ?_
        refine d_eft 3 rfl (by kernel_rfl) (ef_fn (has_m p n S k) rfl rfl (by repeat (first | exact Split.nil | (apply Split.cons; (repeat (first | with_reducible exact Take.here | apply Take.there)))))) ?_
        rintro v1 L1 ⟨rfl, rfl⟩
        refine ⟨_, ent_appC (Split.ent (by repeat (first | exact Split.nil | (apply Split.cons; (repeat (first | with_reducible exact Take.here | apply Take.there)))))), ?_⟩
        first | refine d_fint 7 rfl (by kernel_rfl) (by kernel_rfl) (ef_fn (rhas w b n S k hn) rfl rfl (by repeat (first | exact Split.nil | (apply Split.cons; (repeat (first | with_reducible exact Take.here | apply Take.there)))))) ?_ | refine d_finf 7 rfl (by kernel_rfl) (by kernel_rfl) (ef_fn (rhas w b n S k hn) rfl rfl (by repeat (first | exact Split.nil | (apply Split.cons; (repeat (first | with_reducible exact Take.here | apply Take.there)))))) ?_
        rintro v1 L1 ⟨rfl, rfl⟩
        refine swd_app ?_
        refine d_pu 8 rfl (pu_bool_eq rfl rfl) (by kernel_rfl) (by kernel_rfl) (by kernel_rfl) ?_
        refine d_pu 9 rfl (pu_assign rfl) (by kernel_rfl) (by kernel_rfl) (by kernel_rfl) ?_
        refine d_sub _ (.cons (t := 10) rfl .nil) ?_
        first | refine d_nilt (by kernel_rfl) ?_ | refine d_nilf (by kernel_rfl) ?_
        refine then_n ?_
        refine swp_ret ?_
        refine block_r ?_
        refine then_r ?_
        have hkk : (decide (0 ≤ k) && (decide (k < n) && S k.toNat)) = (decide (0 ≤ k) && S k.toNat) := by
          by_cases h : k < n
          · simp [h]
          · rw [hSz k.toNat (by omega)]; simp
        exact done_ret [mset p n S, mset q m T, blk w 39 [.slice (some ⟨b, 0, none⟩) n n], blk b 4 (rbs n S), blk x 39 [.slice (some ⟨c, 0, none⟩) m m], blk c 4 (rbs m T), ro μ] (.tmp rfl .nil) ⟨by rw [hkk, beq_self_eq_true]; rfl, _, hSz, rfl⟩ (by repeat (first | exact Split.nil | (apply Split.cons; (repeat (first | with_reducible exact Take.here | apply Take.there)))))
      · skip   -- 36 F
        refine swp_seq ?_
        refine swp_region ?_
        refine s_pu (pu_eql rfl rfl) ?_
        refine s_pu (pu_assign rfl) ?_
        refine swl_sub _ (.cons (t := 0) rfl (.cons (t := 1) rfl (.cons (t := 2) rfl (.cons (t := 3) rfl (.cons (t := 9) rfl (.cons (t := 13) rfl (.cons (t := 47) rfl .nil))))))) ?_
        refine swl_nil ?_
        refine then_n ?_
        refine swp_cond (b := _) rfl (fun h47 => ?_) (fun h47 => ?_)
        · skip   -- 47 T
          refine swp_seq ?_
          refine swp_draw [2, 6] _ [] (by simp only [List.append_nil]; exact Ent.refl _) (by kernel_rfl) ?_
          refine d_pu 0 rfl (pu_move rfl) (by kernel_rfl) (by kernel_rfl) (by kernel_rfl) ?_
          first | refine d_pu 1 rfl (pu_fieldAddr0 rfl) (by kernel_rfl) (by kernel_rfl) (by kernel_rfl) ?_ | refine d_pu 1 rfl (pu_fieldAddr rfl) (by kernel_rfl) (by kernel_rfl) (by kernel_rfl) ?_
          refine d_rd 2 rfl (rd_load rfl rfl) rfl (by kernel_rfl) (by kernel_rfl) (by kernel_rfl) ?_
          refine d_pu 4 rfl (pu_move rfl) (by kernel_rfl) (by kernel_rfl) (by kernel_rfl) ?_
          first | refine d_pu 5 rfl (pu_fieldAddr0 rfl) (by kernel_rfl) (by kernel_rfl) (by kernel_rfl) ?_ | refine d_pu 5 rfl (pu_fieldAddr rfl) (by kernel_rfl) (by kernel_rfl) (by kernel_rfl) ?_
          refine d_rd 6 rfl (rd_load rfl rfl) rfl (by kernel_rfl) (by kernel_rfl) (by kernel_rfl) ?_
          refine d_eft 3 rfl (by kernel_rfl) (ef_fn (next_m μ p n S k hT) rfl rfl (by repeat (first | exact Split.nil | (apply Split.cons; (repeat (first | with_reducible exact Take.here | apply Take.there)))))) ?_
          rintro v1 L1 ⟨y, rfl, hy, rfl⟩
          refine ⟨_, ent_appC (Split.ent (by repeat (first | exact Split.nil | (apply Split.cons; (repeat (first | with_reducible exact Take.here | apply Take.there)))))), ?_⟩
          first | refine d_fint 7 rfl (by kernel_rfl) (by kernel_rfl) (ef_fn (rnext w b n S k hn hSz) rfl rfl (by repeat (first | exact Split.nil | (apply Split.cons; (repeat (first | with_reducible exact Take.here | apply Take.there)))))) ?_ | refine d_finf 7 rfl (by kernel_rfl) (by kernel_rfl) (ef_fn (rnext w b n S k hn hSz) rfl rfl (by repeat (first | exact Split.nil | (apply Split.cons; (repeat (first | with_reducible exact Take.here | apply Take.there)))))) ?_
          rintro v1 L1 ⟨z, rfl, hz, rfl⟩
          refine swd_app ?_
          refine d_pu 8 rfl (pu_eql rfl rfl) (by kernel_rfl) (by kernel_rfl) (by kernel_rfl) ?_
          refine d_pu 9 rfl (pu_assign rfl) (by kernel_rfl) (by kernel_rfl) (by kernel_rfl) ?_
          refine d_sub _ (.cons (t := 10) rfl .nil) ?_
          first | refine d_nilt (by kernel_rfl) ?_ | refine d_nilf (by kernel_rfl) ?_
          refine then_n ?_
          refine swp_ret ?_
          refine block_r ?_
          refine then_r ?_
          obtain rfl : y = z := isNext_uniq hy hz
          exact done_ret [mset p n S, mset q m T, blk w 39 [.slice (some ⟨b, 0, none⟩) n n], blk b 4 (rbs n S), blk x 39 [.slice (some ⟨c, 0, none⟩) m m], blk c 4 (rbs m T), ro μ] (.tmp rfl .nil) ⟨by rw [decide_eq_true rfl]; rfl, _, hSz, rfl⟩ (by repeat (first | exact Split.nil | (apply Split.cons; (repeat (first | with_reducible exact Take.here | apply Take.there)))))
        · skip   -- 47 F
          refine swp_seq ?_
          refine swp_region ?_
          refine s_pu (pu_eql rfl rfl) ?_
          refine s_pu (pu_assign rfl) ?_
          refine swl_sub _ (.cons (t := 0) rfl (.cons (t := 1) rfl (.cons (t := 2) rfl (.cons (t := 3) rfl (.cons (t := 9) rfl (.cons (t := 58) rfl .nil)))))) ?_
          refine swl_nil ?_
          refine then_n ?_
          refine swp_cond (b := _) rfl (fun h58 => ?_) (fun h58 => ?_)
          · skip   -- 58 T
            refine swp_seq ?_
            refine swp_draw [2, 6] _ [] (by simp only [List.append_nil]; exact Ent.refl _) (by kernel_rfl) ?_
            refine d_pu 0 rfl (pu_move rfl) (by kernel_rfl) (by kernel_rfl) (by kernel_rfl) ?_
            first | refine d_pu 1 rfl (pu_fieldAddr0 rfl) (by kernel_rfl) (by kernel_rfl) (by kernel_rfl) ?_ | refine d_pu 1 rfl (pu_fieldAddr rfl) (by kernel_rfl) (by kernel_rfl) (by kernel_rfl) ?_
            refine d_rd 2 rfl (rd_load rfl rfl) rfl (by kernel_rfl) (by kernel_rfl) (by kernel_rfl) ?_
            refine d_pu 4 rfl (pu_move rfl) (by kernel_rfl) (by kernel_rfl) (by kernel_rfl) ?_
            first | refine d_pu 5 rfl (pu_fieldAddr0 rfl) (by kernel_rfl) (by kernel_rfl) (by kernel_rfl) ?_ | refine d_pu 5 rfl (pu_fieldAddr rfl) (by kernel_rfl) (by kernel_rfl) (by kernel_rfl) ?_
            refine d_rd 6 rfl (rd_load rfl rfl) rfl (by kernel_rfl) (by kernel_rfl) (by kernel_rfl) ?_
            refine d_eft 3 rfl (by kernel_rfl) (ef_fn (last_m p n S k) rfl rfl (by repeat (first | exact Split.nil | (apply Split.cons; (repeat (first | with_reducible exact Take.here | apply Take.there)))))) ?_
            rintro v1 L1 ⟨y, rfl, hy, rfl⟩
            refine ⟨_, ent_appC (Split.ent (by repeat (first | exact Split.nil | (apply Split.cons; (repeat (first | with_reducible exact Take.here | apply Take.there)))))), ?_⟩
            first | refine d_fint 7 rfl (by kernel_rfl) (by kernel_rfl) (ef_fn (rlast w b n S k hn hSz) rfl rfl (by repeat (first | exact Split.nil | (apply Split.cons; (repeat (first | with_reducible exact Take.here | apply Take.there)))))) ?_ | refine d_finf 7 rfl (by kernel_rfl) (by kernel_rfl) (ef_fn (rlast w b n S k hn hSz) rfl rfl (by repeat (first | exact Split.nil | (apply Split.cons; (repeat (first | with_reducible exact Take.here | apply Take.there)))))) ?_
            rintro v1 L1 ⟨z, rfl, hz, rfl⟩
            refine swd_app ?_
            refine d_pu 8 rfl (pu_eql rfl rfl) (by kernel_rfl) (by kernel_rfl) (by kernel_rfl) ?_
            refine d_pu 9 rfl (pu_assign rfl) (by kernel_rfl) (by kernel_rfl) (by kernel_rfl) ?_
            refine d_sub _ (.cons (t := 10) rfl .nil) ?_
            first | refine d_nilt (by kernel_rfl) ?_ | refine d_nilf (by kernel_rfl) ?_
            refine then_n ?_
            refine swp_ret ?_
            refine block_r ?_
            refine then_r ?_
            obtain rfl : y = z := isLast_uniq hy hz
            exact done_ret [mset p n S, mset q m T, blk w 39 [.slice (some ⟨b, 0, none⟩) n n], blk b 4 (rbs n S), blk x 39 [.slice (some ⟨c, 0, none⟩) m m], blk c 4 (rbs m T), ro μ] (.tmp rfl .nil) ⟨by rw [decide_eq_true rfl]; rfl, _, hSz, rfl⟩ (by repeat (first | exact Split.nil | (apply Split.cons; (repeat (first | with_reducible exact Take.here | apply Take.there)))))
          · skip   -- 58 F
            refine swp_skip ?_
            refine block_n ?_
            refine then_n ?_
            refine swp_seq ?_
            refine swp_seq ?_
            refine swp_region ?_
            first | refine s_pu (pu_fieldAddr0 rfl) ?_ | refine s_pu (pu_fieldAddr rfl) ?_
            refine s_rd (rd_load rfl rfl) ?_
            first | refine s_pu (pu_conv_u64 rfl (by omega) (by omega)) ?_ | refine s_pu (pu_conv rfl) ?_
            refine s_pu (pu_rem rfl rfl (by omega)) ?_
            refine swl_sub _ (.cons (t := 0) rfl (.cons (t := 1) rfl (.cons (t := 2) rfl (.cons (t := 3) rfl (.cons (t := 9) rfl (.cons (t := 72) rfl .nil)))))) ?_
            refine swl_nil ?_
            refine then_n ?_
            refine swp_block ?_
            refine swp_seq ?_
            refine swp_region ?_
            refine s_pu (pu_eql rfl rfl) ?_
            refine s_pu (pu_assign rfl) ?_
            refine swl_sub _ (.cons (t := 0) rfl (.cons (t := 1) rfl (.cons (t := 2) rfl (.cons (t := 3) rfl (.cons (t := 9) rfl (.cons (t := 72) rfl (.cons (t := 76) rfl .nil))))))) ?_
            refine swl_nil ?_
            refine then_n ?_
            refine swp_cond (b := _) rfl (fun h76 => ?_) (fun h76 => ?_)
            · skip   -- 76 T
              refine swp_region ?_
              refine s_pu (pu_move rfl) ?_
              refine s_pu (pu_move rfl) ?_
              refine s_ef (ef_fn (spec_same (or_m p n q m S T) (U := U) (fun _ j => by rw [← hU, hr0 (of_decide_eq_true h76)])) rfl rfl (by repeat (first | exact Split.nil | (apply Split.cons; (repeat (first | with_reducible exact Take.here | apply Take.there)))))) ?_
              rintro v1 L1 ⟨rfl, rfl⟩
              refine swl_app ?_
              refine swl_sub _ (.cons (t := 1) rfl (.cons (t := 2) rfl (.cons (t := 3) rfl (.cons (t := 9) rfl .nil)))) ?_
              refine swl_nil ?_
              refine block_n ?_
              refine then_n ?_
              refine swp_seq ?_
              refine swp_region ?_
              refine s_pu (pu_move rfl) ?_
              refine s_pu (pu_move rfl) ?_
              first | refine s_pu (pu_fieldAddr0 rfl) ?_ | refine s_pu (pu_fieldAddr rfl) ?_
              refine s_rd (rd_load rfl rfl) ?_
              refine s_ef (ef_fn (mixed_spec w b n x c m S T k hn hm hTz) rfl rfl (by repeat (first | exact Split.nil | (apply Split.cons; (repeat (first | with_reducible exact Take.here | apply Take.there)))))) ?_
              rintro v1 L1 ⟨rfl, rfl⟩
              refine swl_app ?_
              refine swl_sub _ (.cons (t := 1) rfl (.cons (t := 3) rfl .nil)) ?_
              rw [hUr]
              refine swl_nil ?_
              refine then_n ?_
              refine swp_seq ?_
              refine swp_region ?_
              refine s_pu (pu_move rfl) ?_
              refine s_ef (ef_fn (list_m μ q m T hT) rfl rfl (by repeat (first | exact Split.nil | (apply Split.cons; (repeat (first | with_reducible exact Take.here | apply Take.there)))))) ?_
              rintro v3 L1 rfl
              refine swl_app ?_
              refine s_pu (pu_move rfl) ?_
              refine s_ef (ef_fn (rlist x c m T hm) rfl rfl (by repeat (first | exact Split.nil | (apply Split.cons; (repeat (first | with_reducible exact Take.here | apply Take.there)))))) ?_
              rintro v4 L1 rfl
              refine swl_app ?_
              refine s_ef (ef_fn (samelist v3 v4 (elsTo m T) (elsTo m T) (by omega) (by omega)) rfl rfl (by repeat (first | exact Split.nil | (apply Split.cons; (repeat (first | with_reducible exact Take.here | apply Take.there)))))) ?_
              rintro v5 L1 ⟨rfl, rfl⟩
              refine swl_app ?_
              refine s_pu (pu_assign rfl) ?_
              refine swl_sub _ (.cons (t := 10) rfl .nil) ?_
              refine swl_nil ?_
              refine then_n ?_
              refine swp_ret ?_
              exact done_ret [mset p n U, mset q m T, blk w 39 [.slice (some ⟨b, 0, none⟩) n n], blk b 4 (rbs n U), blk x 39 [.slice (some ⟨c, 0, none⟩) m m], blk c 4 (rbs m T), ro μ] (.tmp rfl .nil) ⟨by rw [decide_eq_true rfl]; rfl, U, hUz, rfl⟩ (by repeat (first | exact Split.nil | (apply Split.cons; (repeat (first | with_reducible exact Take.here | apply Take.there)))))
            · skip   -- 76 F
              refine swp_seq ?_
              refine swp_region ?_
              refine s_pu (pu_eql rfl rfl) ?_
              refine s_pu (pu_assign rfl) ?_
              refine swl_sub _ (.cons (t := 0) rfl (.cons (t := 1) rfl (.cons (t := 2) rfl (.cons (t := 3) rfl (.cons (t := 9) rfl (.cons (t := 81) rfl .nil)))))) ?_
              refine swl_nil ?_
              refine then_n ?_
              refine swp_cond (b := _) rfl (fun h81 => ?_) (fun h81 => ?_)
              · skip   -- 81 T
                refine swp_region ?_
                refine s_pu (pu_move rfl) ?_
                refine s_pu (pu_move rfl) ?_
                refine s_ef (ef_fn (spec_same (and_m p n q m S T) (U := U) (fun _ j => by rw [← hU, hr1 (of_decide_eq_false h76) (of_decide_eq_true h81)])) rfl rfl (by repeat (first | exact Split.nil | (apply Split.cons; (repeat (first | with_reducible exact Take.here | apply Take.there)))))) ?_
                rintro v1 L1 ⟨rfl, rfl⟩
                refine swl_app ?_
                refine swl_sub _ (.cons (t := 1) rfl (.cons (t := 2) rfl (.cons (t := 3) rfl (.cons (t := 9) rfl .nil)))) ?_
                refine swl_nil ?_
                refine block_n ?_
                refine then_n ?_
                refine swp_seq ?_
                refine swp_region ?_
                refine s_pu (pu_move rfl) ?_
                refine s_pu (pu_move rfl) ?_
                first | refine s_pu (pu_fieldAddr0 rfl) ?_ | refine s_pu (pu_fieldAddr rfl) ?_
                refine s_rd (rd_load rfl rfl) ?_
                refine s_ef (ef_fn (mixed_spec w b n x c m S T k hn hm hTz) rfl rfl (by repeat (first | exact Split.nil | (apply Split.cons; (repeat (first | with_reducible exact Take.here | apply Take.there)))))) ?_
                rintro v1 L1 ⟨rfl, rfl⟩
                refine swl_app ?_
                refine swl_sub _ (.cons (t := 1) rfl (.cons (t := 3) rfl .nil)) ?_
                rw [hUr]
                refine swl_nil ?_
                refine then_n ?_
                refine swp_seq ?_
                refine swp_region ?_
                refine s_pu (pu_move rfl) ?_
                refine s_ef (ef_fn (list_m μ q m T hT) rfl rfl (by repeat (first | exact Split.nil | (apply Split.cons; (repeat (first | with_reducible exact Take.here | apply Take.there)))))) ?_
                rintro v3 L1 rfl
                refine swl_app ?_
                refine s_pu (pu_move rfl) ?_
                refine s_ef (ef_fn (rlist x c m T hm) rfl rfl (by repeat (first | exact Split.nil | (apply Split.cons; (repeat (first | with_reducible exact Take.here | apply Take.there)))))) ?_
                rintro v4 L1 rfl
                refine swl_app ?_
                refine s_ef (ef_fn (samelist v3 v4 (elsTo m T) (elsTo m T) (by omega) (by omega)) rfl rfl (by repeat (first | exact Split.nil | (apply Split.cons; (repeat (first | with_reducible exact Take.here | apply Take.there)))))) ?_
                rintro v5 L1 ⟨rfl, rfl⟩
                refine swl_app ?_
                refine s_pu (pu_assign rfl) ?_
                refine swl_sub _ (.cons (t := 10) rfl .nil) ?_
                refine swl_nil ?_
                refine then_n ?_
                refine swp_ret ?_
                exact done_ret [mset p n U, mset q m T, blk w 39 [.slice (some ⟨b, 0, none⟩) n n], blk b 4 (rbs n U), blk x 39 [.slice (some ⟨c, 0, none⟩) m m], blk c 4 (rbs m T), ro μ] (.tmp rfl .nil) ⟨by rw [decide_eq_true rfl]; rfl, U, hUz, rfl⟩ (by repeat (first | exact Split.nil | (apply Split.cons; (repeat (first | with_reducible exact Take.here | apply Take.there)))))
              · skip   -- 81 F
                refine swp_region ?_
                refine s_pu (pu_move rfl) ?_
                refine s_pu (pu_move rfl) ?_
                refine s_ef (ef_fn (spec_same (less_m p n q m S T) (U := U) (fun _ j => by rw [← hU, hr2 (of_decide_eq_false h76) (of_decide_eq_false h81)])) rfl rfl (by repeat (first | exact Split.nil | (apply Split.cons; (repeat (first | with_reducible exact Take.here | apply Take.there)))))) ?_
                rintro v1 L1 ⟨rfl, rfl⟩
                refine swl_app ?_
                refine swl_sub _ (.cons (t := 1) rfl (.cons (t := 2) rfl (.cons (t := 3) rfl (.cons (t := 9) rfl .nil)))) ?_
                refine swl_nil ?_
                refine block_n ?_
                refine then_n ?_
                refine swp_seq ?_
                refine swp_region ?_
                refine s_pu (pu_move rfl) ?_
                refine s_pu (pu_move rfl) ?_
                first | refine s_pu (pu_fieldAddr0 rfl) ?_ | refine s_pu (pu_fieldAddr rfl) ?_
                refine s_rd (rd_load rfl rfl) ?_
                refine s_ef (ef_fn (mixed_spec w b n x c m S T k hn hm hTz) rfl rfl (by repeat (first | exact Split.nil | (apply Split.cons; (repeat (first | with_reducible exact Take.here | apply Take.there)))))) ?_
                rintro v1 L1 ⟨rfl, rfl⟩
                refine swl_app ?_
                refine swl_sub _ (.cons (t := 1) rfl (.cons (t := 3) rfl .nil)) ?_
                rw [hUr]
                refine swl_nil ?_
                refine then_n ?_
                refine swp_seq ?_
                refine swp_region ?_
                refine s_pu (pu_move rfl) ?_
                refine s_ef (ef_fn (list_m μ q m T hT) rfl rfl (by repeat (first | exact Split.nil | (apply Split.cons; (repeat (first | with_reducible exact Take.here | apply Take.there)))))) ?_
                rintro v3 L1 rfl
                refine swl_app ?_
                refine s_pu (pu_move rfl) ?_
                refine s_ef (ef_fn (rlist x c m T hm) rfl rfl (by repeat (first | exact Split.nil | (apply Split.cons; (repeat (first | with_reducible exact Take.here | apply Take.there)))))) ?_
                rintro v4 L1 rfl
                refine swl_app ?_
                refine s_ef (ef_fn (samelist v3 v4 (elsTo m T) (elsTo m T) (by omega) (by omega)) rfl rfl (by repeat (first | exact Split.nil | (apply Split.cons; (repeat (first | with_reducible exact Take.here | apply Take.there)))))) ?_
                rintro v5 L1 ⟨rfl, rfl⟩
                refine swl_app ?_
                refine s_pu (pu_assign rfl) ?_
                refine swl_sub _ (.cons (t := 10) rfl .nil) ?_
                refine swl_nil ?_
                refine then_n ?_
                refine swp_ret ?_
                exact done_ret [mset p n U, mset q m T, blk w 39 [.slice (some ⟨b, 0, none⟩) n n], blk b 4 (rbs n U), blk x 39 [.slice (some ⟨c, 0, none⟩) m m], blk c 4 (rbs m T), ro μ] (.tmp rfl .nil) ⟨by rw [decide_eq_true rfl]; rfl, U, hUz, rfl⟩ (by repeat (first | exact Split.nil | (apply Split.cons; (repeat (first | with_reducible exact Take.here | apply Take.there)))))
end SX
namespace SX
open Go Go.Proofs
instance : TMap Tryd.prog 76 3 3 := ⟨by kernel_rfl⟩
instance : TZv Tryd.prog 3 (.int .i64 0) := ⟨by kernel_rfl⟩

/-- a graph: its rows, and what each row reads as -/
def Graph (μ : PH) (v : Value) (G : List (Value × List Int)) : Prop := Row μ v 1 G.length (G.flatMap gcs) ∧ ∀ x ∈ G, Row μ x.1 1 x.2.length (x.2.flatMap (icsk .i64))
theorem Graph.le {μ μ' : PH} {v : Value} {G : List (Value × List Int)} (h : Graph μ v G) (k : Le μ μ') : Graph μ' v G := ⟨h.1.le k, fun x hx => (h.2 x hx).le k⟩
theorem Row.small {μ : PH} {v : Value} {n l : Nat} {xs : List Value} (h : Row μ v n l xs) : l ≤ 9223372036854775807 := by
  obtain ⟨_, _, _, _, h1, h2, _⟩ := h; simp only [maxLen] at h2; omega

/-- what is wrong with one commit's parents -/
def rowErr (c : Nat) (s : List Int) : List Int → Int
  | [] => 0
  | p :: l => if p < 0 then 1 else if (c : Int) ≤ p then 10 else if p ∈ s then 11 else rowErr c (s ++ [p]) l
def chkFrom : Nat → List (List Int) → Int
  | _, [] => 0
  | c, l :: g => if rowErr c [] l = 0 then chkFrom (c + 1) g else rowErr c [] l
theorem rowErr_at {c : Nat} {l : List Int} {j : Nat} {p : Int} (h : l[j]? = some p) : rowErr c (l.take j) (l.drop j) = if p < 0 then 1 else if (c : Int) ≤ p then 10 else if p ∈ l.take j then 11 else rowErr c (l.take (j + 1)) (l.drop (j + 1)) := by
  have hlt := (List.getElem?_eq_some_iff.1 h).1
  rw [List.drop_eq_getElem_cons hlt, List.take_add_one, h]
  have e : l[j] = p := by rw [List.getElem?_eq_getElem hlt] at h; exact Option.some.inj h
  rw [e]; rfl
theorem chkFrom_at {g : List (List Int)} {i : Nat} {l : List Int} (h : g[i]? = some l) : chkFrom i (g.drop i) = if rowErr i [] l = 0 then chkFrom (i + 1) (g.drop (i + 1)) else rowErr i [] l := by
  have hlt := (List.getElem?_eq_some_iff.1 h).1
  rw [List.drop_eq_getElem_cons hlt]
  have e : g[i] = l := by rw [List.getElem?_eq_getElem hlt] at h; exact Option.some.inj h
  rw [e]; rfl
/-- the graph's numbers -/
abbrev nums (G : List (Value × List Int)) : List (List Int) := G.map (·.2)
theorem rd_mlookE {κ : Type} [DecidableEq κ] {P : Program} {env : Env} {L : List Assn} {t kt et b c : Nat} {kv : κ → Value} {l : Ents κ} {z v : Value} [hm : TMap P t kt et] [hk : TKey P kt kv] [hz : TZv P et z] {m x : Operand} [hb : InM b L kv l c] (a : κ) (hx : evalE env m = some (.map (some b))) (hy : evalE env x = some (kv a)) (h : (mlook l a).getD z = v) : Rd P env L (.lookup t m x false) v :=
  h ▸ rd_mlook a hx hy

set_option maxHeartbeats 1000000 in
theorem check_spec (μ : PH) (v : Value) (G : List (Value × List Int)) (hG : Graph μ v G) : Spec Tryd.prog 35 [v] [ro μ] (fun r L => r = .int .i64 (chkFrom 0 (nums G)) ∧ L = [ro μ]) := by
  obtain ⟨A, cap, hv⟩ := hG.1.form'
  subst hv
  have hsm := hG.1.small
  refine Spec.of 40 Tryd.func35 rfl rfl rfl ?_
  refine swp_seq ?_
  refine swp_region ?_
  refine s_pu (pu_assign rfl) ?_
  refine swl_sub _ (.cons (t := 0) rfl .nil) ?_
  refine swl_nil ?_
  refine then_n ?_
  refine swp_seq ?_
  refine swp_seq ?_
  refine swp_region ?_
  refine s_pu (pu_move rfl) ?_
  refine s_pu (pu_len rfl) ?_
  refine s_pu (pu_move rfl) ?_
  refine swl_sub _ (.cons (t := 8) rfl (.cons (t := 9) rfl (.cons (t := 10) rfl .nil))) ?_
  refine swl_nil ?_
  refine then_n ?_
  refine swp_block ?_
  refine swp_loop (ι := Nat) (fun i env L => env = [(8, .slice A G.length cap), (9, .int .i64 (G.length : Nat)), (10, .int .i64 (i : Nat))] ∧ L = [ro μ] ∧ i ≤ G.length ∧ chkFrom i ((nums G).drop i) = chkFrom 0 (nums G)) (fun i => G.length - i) 0 ⟨rfl, rfl, Nat.zero_le _, rfl⟩ ?_
  rintro i env L ⟨rfl, rfl, hi, hch⟩
  refine swp_seq ?_
  refine swp_region ?_
  refine s_pu (pu_lss rfl rfl) ?_
  refine swl_sub _ (.cons (t := 8) rfl (.cons (t := 9) rfl (.cons (t := 10) rfl (.cons (t := 11) rfl .nil)))) ?_
  refine swl_nil ?_
  refine then_n ?_
  refine swp_seq ?_
  refine swp_cond (b := _) rfl (fun h11 => ?_) (fun h11 => ?_)
  · skip   -- 11 T
    have h11' : i < G.length := by have := of_decide_eq_true h11; omega
    obtain ⟨gb, off, cap', hv, c1, c2, hr⟩ := hG.1.pos (by omega)
    simp only [Value.slice.injEq, true_and] at hv
    obtain ⟨rfl, rfl⟩ := hv
    obtain ⟨x, hx⟩ : ∃ x, G[i]? = some x := ⟨_, List.getElem?_eq_getElem h11'⟩
    have hrk := hr.elem gcs_len hx
    have hxr := hG.2 x (List.mem_of_getElem? hx)
    have hxs := hxr.small
    obtain ⟨B, bcap, hxv⟩ := hxr.form'
    have hci := chkFrom_at (g := nums G) (i := i) (l := x.2) (by rw [List.getElem?_map, hx]; rfl)
    rw [hch] at hci
    refine swp_skip ?_
    refine then_n ?_
    refine swp_seq ?_
    refine swp_block ?_
    refine swp_seq ?_
    refine swp_region ?_
    refine s_pu (pu_move rfl) ?_
    refine s_pu (pu_indexAddr (off + i * 1) rfl rfl (by omega) (by omega) (by rw [Int.toNat_natCast])) ?_
    refine s_rd (rd_ro rfl hrk.cell) ?_
    refine s_pu (pu_assign rfl) ?_
    refine s_pu (pu_assign rfl) ?_
    refine swl_sub _ (.cons (t := 3) rfl (.cons (t := 4) rfl (.cons (t := 8) rfl (.cons (t := 9) rfl (.cons (t := 10) rfl .nil))))) ?_
    refine swl_nil ?_
    refine then_n ?_
    refine swp_seq ?_
    refine swp_region ?_
    refine s_ef (ef_makeMap (kv := ikv)) ?_
    intro b15
    refine s_pu (pu_assign rfl) ?_
    refine swl_sub _ (.cons (t := 3) rfl (.cons (t := 4) rfl (.cons (t := 5) rfl (.cons (t := 8) rfl (.cons (t := 9) rfl (.cons (t := 10) rfl .nil)))))) ?_
    refine swl_nil ?_
    refine then_n ?_
    refine swp_seq ?_
    refine swp_region ?_
    refine s_pu (pu_move rfl) ?_
    refine s_pu (pu_len_row hxr rfl) ?_
    refine s_pu (pu_move rfl) ?_
    refine swl_sub _ (.cons (t := 3) rfl (.cons (t := 5) rfl (.cons (t := 8) rfl (.cons (t := 9) rfl (.cons (t := 10) rfl (.cons (t := 16) rfl (.cons (t := 17) rfl (.cons (t := 18) rfl .nil)))))))) ?_
    refine swl_nil ?_
    refine then_n ?_
    refine swp_block ?_
    refine swp_loop (ι := Nat × Ents Int × Nat) (fun k env L => env = [(3, .int .i64 (i : Nat)), (5, .map (some b15)), (8, .slice (some ⟨gb, off, none⟩) G.length cap), (9, .int .i64 (G.length : Nat)), (10, .int .i64 (i : Nat)), (16, x.1), (17, .int .i64 (x.2.length : Nat)), (18, .int .i64 (k.1 : Nat))] ∧ L = [mpe b15 ikv k.2.1 k.2.2, ro μ] ∧ k.1 ≤ x.2.length ∧ rowErr i (x.2.take k.1) (x.2.drop k.1) = rowErr i [] x.2 ∧ ∀ a, mlook k.2.1 a = if a ∈ x.2.take k.1 then some (.int .i64 1) else none) (fun k => x.2.length - k.1) (0, [], 0) ⟨rfl, rfl, Nat.zero_le _, rfl, fun a => rfl⟩ ?_
    rintro ⟨j, ents, ck⟩ env L ⟨rfl, rfl, hj, hre, hml⟩
    dsimp only at hj hre hml ⊢
    refine swp_seq ?_
    refine swp_region ?_
    refine s_pu (pu_lss rfl rfl) ?_
    refine swl_sub _ (.cons (t := 3) rfl (.cons (t := 5) rfl (.cons (t := 8) rfl (.cons (t := 9) rfl (.cons (t := 10) rfl (.cons (t := 16) rfl (.cons (t := 17) rfl (.cons (t := 18) rfl (.cons (t := 19) rfl .nil))))))))) ?_
    refine swl_nil ?_
    refine then_n ?_
    refine swp_seq ?_
    refine swp_cond (b := _) rfl (fun h19 => ?_) (fun h19 => ?_)
    · skip   -- 19 T
      have h19' : j < x.2.length := by have := of_decide_eq_true h19; omega
      obtain ⟨pb, poff, pcap, hpv, p1, p2, hpr⟩ := hxr.pos (by omega)
      obtain ⟨p, hp⟩ : ∃ p, x.2[j]? = some p := ⟨_, List.getElem?_eq_getElem h19'⟩
      have hpk := hpr.elem (icsk_len .i64) hp
      rw [rowErr_at hp] at hre
      rw [hpv]
      refine swp_skip ?_
      refine then_n ?_
      refine swp_seq ?_
      refine swp_block ?_
      refine swp_seq ?_
      refine swp_region ?_
      refine s_pu (pu_indexAddr (poff + j * 1) rfl rfl (by omega) (by omega) (by rw [Int.toNat_natCast])) ?_
      refine s_rd (rd_ro rfl hpk.cell) ?_
      refine s_pu (pu_assign rfl) ?_
      refine swl_sub _ (.cons (t := 3) rfl (.cons (t := 5) rfl (.cons (t := 7) rfl (.cons (t := 8) rfl (.cons (t := 9) rfl (.cons (t := 10) rfl (.cons (t := 16) rfl (.cons (t := 17) rfl (.cons (t := 18) rfl .nil))))))))) ?_
      refine swl_nil ?_
      refine then_n ?_
      refine swp_seq ?_
      refine swp_block ?_
      refine swp_seq ?_
      refine swp_region ?_
      refine s_pu (pu_move rfl) ?_
      refine s_pu (pu_lss rfl rfl) ?_
      refine s_pu (pu_assign rfl) ?_
      refine swl_sub _ (.cons (t := 3) rfl (.cons (t := 5) rfl (.cons (t := 7) rfl (.cons (t := 8) rfl (.cons (t := 9) rfl (.cons (t := 10) rfl (.cons (t := 16) rfl (.cons (t := 17) rfl (.cons (t := 18) rfl (.cons (t := 22) rfl .nil)))))))))) ?_
      refine swl_nil ?_
      refine then_n ?_
      refine swp_cond (b := _) rfl (fun h22 => ?_) (fun h22 => ?_)
      · skip   -- 22 T
        rw [if_pos (of_decide_eq_true h22)] at hre
        refine swp_seq ?_
        refine swp_region ?_
        refine s_pu (pu_assign rfl) ?_
        refine swl_sub _ (.cons (t := 2) rfl .nil) ?_
        refine swl_nil ?_
        refine then_n ?_
        refine swp_ret ?_
        refine block_r ?_
        refine then_r ?_
        refine block_r ?_
        refine then_r ?_
        refine then_r ?_
        refine block_r ?_
        refine block_r ?_
        refine then_r ?_
        refine then_r ?_
        refine block_r ?_
        refine then_r ?_
        exact done_ret [ro μ] (.tmp rfl .nil) ⟨by rw [hci, ← hre, if_neg (by decide)]; rfl, rfl⟩ (by repeat (first | exact Split.nil | (apply Split.cons; (repeat (first | with_reducible exact Take.here | apply Take.there)))))
      · skip   -- 22 F
        rw [if_neg (of_decide_eq_false h22)] at hre
        refine swp_seq ?_
        refine swp_region ?_
        refine s_pu (pu_move rfl) ?_
        refine s_pu (pu_move rfl) ?_
        refine s_pu (pu_geq rfl rfl) ?_
        refine s_pu (pu_assign rfl) ?_
        refine swl_sub _ (.cons (t := 3) rfl (.cons (t := 5) rfl (.cons (t := 7) rfl (.cons (t := 8) rfl (.cons (t := 9) rfl (.cons (t := 10) rfl (.cons (t := 16) rfl (.cons (t := 17) rfl (.cons (t := 18) rfl (.cons (t := 25) rfl .nil)))))))))) ?_
        refine swl_nil ?_
        refine then_n ?_
        refine swp_cond (b := _) rfl (fun h25 => ?_) (fun h25 => ?_)
        · skip   -- 25 T
          rw [if_pos (of_decide_eq_true h25)] at hre
          refine swp_seq ?_
          refine swp_region ?_
          refine s_pu (pu_assign rfl) ?_
          refine swl_sub _ (.cons (t := 2) rfl .nil) ?_
          refine swl_nil ?_
          refine then_n ?_
          refine swp_ret ?_
          refine block_r ?_
          refine then_r ?_
          refine block_r ?_
          refine then_r ?_
          refine then_r ?_
          refine block_r ?_
          refine block_r ?_
          refine then_r ?_
          refine then_r ?_
          refine block_r ?_
          refine then_r ?_
          exact done_ret [ro μ] (.tmp rfl .nil) ⟨by rw [hci, ← hre, if_neg (by decide)]; rfl, rfl⟩ (by repeat (first | exact Split.nil | (apply Split.cons; (repeat (first | with_reducible exact Take.here | apply Take.there)))))
        · skip   -- 25 F
          rw [if_neg (of_decide_eq_false h25)] at hre
          have hlk : (mlook ents p).getD (.int .i64 0) = .int .i64 (if p ∈ x.2.take j then 1 else 0) := by rw [hml]; split <;> rfl
          refine swp_seq ?_
          refine swp_region ?_
          refine s_pu (pu_move rfl) ?_
          refine s_pu (pu_move rfl) ?_
          refine s_rd (rd_mlookE (kv := ikv) p rfl rfl hlk) ?_
          refine s_pu (pu_gtr rfl rfl) ?_
          refine s_pu (pu_assign rfl) ?_
          refine swl_sub _ (.cons (t := 3) rfl (.cons (t := 5) rfl (.cons (t := 7) rfl (.cons (t := 8) rfl (.cons (t := 9) rfl (.cons (t := 10) rfl (.cons (t := 16) rfl (.cons (t := 17) rfl (.cons (t := 18) rfl (.cons (t := 29) rfl .nil)))))))))) ?_
          refine swl_nil ?_
          refine then_n ?_
          refine swp_cond (b := _) rfl (fun h29 => ?_) (fun h29 => ?_)
          · skip   -- 29 T
            have h29' : p ∈ x.2.take j := by
              have := of_decide_eq_true h29
              by_cases h : p ∈ x.2.take j
              · exact h
              · rw [if_neg h] at this; omega
            rw [if_pos h29'] at hre
            refine swp_seq ?_
            refine swp_region ?_
            refine s_pu (pu_assign rfl) ?_
            refine swl_sub _ (.cons (t := 2) rfl .nil) ?_
            refine swl_nil ?_
            refine then_n ?_
            refine swp_ret ?_
            refine block_r ?_
            refine then_r ?_
            refine block_r ?_
            refine then_r ?_
            refine then_r ?_
            refine block_r ?_
            refine block_r ?_
            refine then_r ?_
            refine then_r ?_
            refine block_r ?_
            refine then_r ?_
            exact done_ret [ro μ] (.tmp rfl .nil) ⟨by rw [hci, ← hre, if_neg (by decide)]; rfl, rfl⟩ (by repeat (first | exact Split.nil | (apply Split.cons; (repeat (first | with_reducible exact Take.here | apply Take.there)))))
          · skip   -- 29 F
            have h29' : ¬ p ∈ x.2.take j := fun h => by
              have := of_decide_eq_false h29
              rw [if_pos h] at this; omega
            rw [if_neg h29'] at hre hlk
            refine swp_skip ?_
            refine block_n ?_
            refine then_n ?_
            refine swp_region ?_
            refine s_pu (pu_move rfl) ?_
            refine s_pu (pu_move rfl) ?_
            refine s_rd (rd_mlookE (kv := ikv) p rfl rfl hlk) ?_
            refine s_pu (pu_add_as 1 rfl rfl (by omega) (by omega) (by omega)) ?_
            refine s_ef0 (ef_upd (kv := ikv) p rfl rfl rfl (by repeat (first | exact Split.nil | (apply Split.cons; (repeat (first | with_reducible exact Take.here | apply Take.there)))))) ?_
            refine swl_sub _ (.cons (t := 3) rfl (.cons (t := 5) rfl (.cons (t := 8) rfl (.cons (t := 9) rfl (.cons (t := 10) rfl (.cons (t := 16) rfl (.cons (t := 17) rfl (.cons (t := 18) rfl .nil)))))))) ?_
            refine swl_nil ?_
            refine block_n ?_
            refine then_n ?_
            refine swp_region ?_
            refine s_pu (pu_add_as ((j + 1 : Nat) : Int) rfl rfl (by omega) (by omega) (by omega)) ?_
            refine s_pu (pu_move rfl) ?_
            refine swl_sub _ (.cons (t := 3) rfl (.cons (t := 5) rfl (.cons (t := 8) rfl (.cons (t := 9) rfl (.cons (t := 10) rfl (.cons (t := 16) rfl (.cons (t := 17) rfl (.cons (t := 18) rfl .nil)))))))) ?_
            refine swl_nil ?_
            exact then_n ⟨(j + 1, _, _), ⟨rfl, rfl, h19', hre, fun a => by
              rw [mlook_upd, hml, List.take_add_one, hp]
              by_cases e : p = a
              · subst e; simp
              · by_cases e2 : a ∈ x.2.take j
                · simp [e, e2]
                · simp [e, e2, Ne.symm e]⟩, by show x.2.length - (j + 1) < x.2.length - j; omega⟩
    · skip   -- 19 F
      have h19' := of_decide_eq_false h19
      obtain rfl : j = x.2.length := by omega
      rw [List.drop_length] at hre
      have hz : rowErr i [] x.2 = 0 := hre.symm
      rw [if_pos hz] at hci
      refine swp_exit ?_
      refine then_x ?_
      refine then_x ?_
      refine block_hit rfl ?_
      refine block_n ?_
      refine then_n ?_
      refine swp_region ?_
      refine s_pu (pu_add_as ((i + 1 : Nat) : Int) rfl rfl (by omega) (by omega) (by omega)) ?_
      refine s_pu (pu_move rfl) ?_
      refine swl_sub _ (.cons (t := 8) rfl (.cons (t := 9) rfl (.cons (t := 10) rfl .nil))) ?_
      refine swl_ent (Split.ent' (K := [ro μ]) (by repeat (first | exact Split.nil | (apply Split.cons; (repeat (first | with_reducible exact Take.here | apply Take.there)))))) ?_
      refine swl_nil ?_
      exact then_n ⟨i + 1, ⟨rfl, rfl, h11', hci.symm⟩, by omega⟩
  · skip   -- 11 F
    refine swp_exit ?_
    refine then_x ?_
    refine then_x ?_
    refine block_hit rfl ?_
    refine then_n ?_
    refine swp_seq ?_
    refine swp_region ?_
    refine s_pu (pu_assign rfl) ?_
    refine swl_sub _ (.cons (t := 2) rfl .nil) ?_
    refine swl_nil ?_
    refine then_n ?_
    refine swp_ret ?_
    have h11' := of_decide_eq_false h11
    have hd : (nums G).drop i = [] := List.drop_eq_nil_of_le (by rw [List.length_map]; omega)
    rw [hd] at hch
    exact done_ret [ro μ] (.tmp rfl .nil) ⟨by rw [← hch]; rfl, rfl⟩ (by repeat (first | exact Split.nil | (apply Split.cons; (repeat (first | with_reducible exact Take.here | apply Take.there)))))
end SX
namespace SX
open Go Go.Proofs

set_option maxHeartbeats 1000000 in
theorem rcheck_spec (μ : PH) (v : Value) (G : List (Value × List Int)) (hG : Graph μ v G) (hbig : G.length ≤ 1099511627776) : Spec Tryd.prog 36 [v] [ro μ] (fun r L => r = .int .i64 (chkFrom 0 (nums G)) ∧ L = [ro μ]) := by
  obtain ⟨A, cap, hv⟩ := hG.1.form'
  subst hv
  refine Spec.of 49 Tryd.func36 rfl rfl rfl ?_
  refine swp_seq ?_
  refine swp_region ?_
  refine s_pu (pu_assign rfl) ?_
  refine swl_sub _ (.cons (t := 0) rfl .nil) ?_
  refine swl_nil ?_
  refine then_n ?_
  refine swp_seq ?_
  refine swp_seq ?_
  refine swp_region ?_
  refine s_pu (pu_assign rfl) ?_
  refine swl_sub _ (.cons (t := 0) rfl (.cons (t := 3) rfl .nil)) ?_
  refine swl_nil ?_
  refine then_n ?_
  refine swp_block ?_
  refine swp_loop (ι := Nat) (fun i env L => env = [(0, .slice A G.length cap), (3, .int .i64 (i : Nat))] ∧ L = [ro μ] ∧ i ≤ G.length ∧ chkFrom i ((nums G).drop i) = chkFrom 0 (nums G)) (fun i => G.length - i) 0 ⟨rfl, rfl, Nat.zero_le _, rfl⟩ ?_
  rintro i env L ⟨rfl, rfl, hi, hch⟩
  refine swp_seq ?_
  refine swp_seq ?_
  refine swp_region ?_
  refine s_pu (pu_move rfl) ?_
  refine s_pu (pu_move rfl) ?_
  refine s_pu (pu_len rfl) ?_
  refine s_pu (pu_lss rfl rfl) ?_
  refine swl_sub _ (.cons (t := 0) rfl (.cons (t := 3) rfl (.cons (t := 10) rfl .nil))) ?_
  refine swl_nil ?_
  refine then_n ?_
  refine swp_cond (b := _) rfl (fun h10 => ?_) (fun h10 => ?_)
  · skip   -- 10 T
    have h10' : i < G.length := by have := of_decide_eq_true h10; omega
    obtain ⟨gb, off, cap', hv, c1, c2, hr⟩ := hG.1.pos (by omega)
    simp only [Value.slice.injEq, true_and] at hv
    obtain ⟨rfl, rfl⟩ := hv
    obtain ⟨x, hx⟩ : ∃ x, G[i]? = some x := ⟨_, List.getElem?_eq_getElem h10'⟩
    have hrk := hr.elem gcs_len hx
    have hxr := hG.2 x (List.mem_of_getElem? hx)
    have hxs := hxr.small
    have hci := chkFrom_at (g := nums G) (i := i) (l := x.2) (by rw [List.getElem?_map, hx]; rfl)
    rw [hch] at hci
    refine swp_skip ?_
    refine then_n ?_
    refine swp_seq ?_
    refine swp_block ?_
    refine swp_seq ?_
    refine swp_region ?_
    refine s_pu (pu_assign rfl) ?_
    refine swl_sub _ (.cons (t := 0) rfl (.cons (t := 3) rfl (.cons (t := 4) rfl .nil))) ?_
    refine swl_nil ?_
    refine then_n ?_
    refine swp_seq ?_
    refine swp_seq ?_
    refine swp_region ?_
    refine s_pu (pu_move rfl) ?_
    refine s_pu (pu_move rfl) ?_
    refine s_pu (pu_indexAddr (off + i * 1) rfl rfl (by omega) (by omega) (by rw [Int.toNat_natCast])) ?_
    refine s_rd (rd_ro rfl hrk.cell) ?_
    refine s_pu (pu_len_row hxr rfl) ?_
    refine s_pu (pu_gtr rfl rfl) ?_
    refine swl_sub _ (.cons (t := 0) rfl (.cons (t := 3) rfl (.cons (t := 4) rfl (.cons (t := 18) rfl .nil)))) ?_
    refine swl_nil ?_
    refine then_n ?_
    refine swp_cond (b := _) rfl (fun h18 => ?_) (fun h18 => ?_)
    · skip   -- 18 T
      refine swp_region ?_
      refine s_pu (pu_move rfl) ?_
      refine s_ef (ef_make1 i rfl rfl rfl (by omega) (by simp only [maxLen]; omega)) ?_
      rintro b20
      skip
      refine s_pu (pu_assign rfl) ?_
      refine swl_sub _ (.cons (t := 0) rfl (.cons (t := 3) rfl (.cons (t := 4) rfl .nil))) ?_
      refine swl_nil ?_
      refine then_n ?_
      refine swp_seq ?_
      refine swp_region ?_
      refine s_pu (pu_assign rfl) ?_
      refine swl_sub _ (.cons (t := 0) rfl (.cons (t := 3) rfl (.cons (t := 4) rfl (.cons (t := 5) rfl .nil)))) ?_
      refine swl_nil ?_
      refine then_n ?_
      refine swp_block ?_
      refine swp_loop (ι := Nat) (fun j env L => env = [(0, .slice (some ⟨gb, off, none⟩) G.length cap), (3, .int .i64 (i : Nat)), (4, .slice (some ⟨b20, 0, none⟩) i i), (5, .int .i64 (j : Nat))] ∧ L = [blk b20 4 (rbs i fun k => decide ((k : Int) ∈ x.2.take j)), ro μ] ∧ j ≤ x.2.length ∧ rowErr i (x.2.take j) (x.2.drop j) = rowErr i [] x.2) (fun j => x.2.length - j) 0 ⟨rfl, ?_, Nat.zero_le _, rfl⟩ ?_
      · have e : rbs i (fun k => decide ((k : Int) ∈ x.2.take 0)) = List.replicate i (.bool false) := by
          apply List.ext_getElem?
          intro j
          simp [rbs, List.getElem?_replicate]
          split <;> simp_all
        rw [e]
      rintro j env L ⟨rfl, rfl, hj, hre⟩
      refine swp_seq ?_
      refine swp_seq ?_
      refine swp_region ?_
      refine s_pu (pu_move rfl) ?_
      refine s_pu (pu_move rfl) ?_
      refine s_pu (pu_move rfl) ?_
      refine s_pu (pu_indexAddr (off + i * 1) rfl rfl (by omega) (by omega) (by rw [Int.toNat_natCast])) ?_
      refine s_rd (rd_ro rfl hrk.cell) ?_
      refine s_pu (pu_len_row hxr rfl) ?_
      refine s_pu (pu_lss rfl rfl) ?_
      refine swl_sub _ (.cons (t := 0) rfl (.cons (t := 3) rfl (.cons (t := 4) rfl (.cons (t := 5) rfl (.cons (t := 27) rfl .nil))))) ?_
      refine swl_nil ?_
      refine then_n ?_
      refine swp_cond (b := _) rfl (fun h27 => ?_) (fun h27 => ?_)
      · skip   -- 27 T
        have h27' : j < x.2.length := by have := of_decide_eq_true h27; omega
        obtain ⟨pb, poff, pcap, hpv, p1, p2, hpr⟩ := hxr.pos (by omega)
        obtain ⟨p, hp⟩ : ∃ p, x.2[j]? = some p := ⟨_, List.getElem?_eq_getElem h27'⟩
        have hpk := hpr.elem (icsk_len .i64) hp
        rw [rowErr_at hp] at hre
        refine swp_skip ?_
        refine then_n ?_
        refine swp_seq ?_
        refine swp_block ?_
        refine swp_seq ?_
        refine swp_region ?_
        refine s_pu (pu_move rfl) ?_
        refine s_pu (pu_move rfl) ?_
        refine s_pu (pu_indexAddr (off + i * 1) rfl rfl (by omega) (by omega) (by rw [Int.toNat_natCast])) ?_
        refine s_rd (rd_ro rfl (hpv ▸ hrk.cell)) ?_
        refine s_pu (pu_move rfl) ?_
        refine s_pu (pu_indexAddr (poff + j * 1) rfl rfl (by omega) (by omega) (by rw [Int.toNat_natCast])) ?_
        refine s_rd (rd_ro rfl hpk.cell) ?_
        refine s_pu (pu_assign rfl) ?_
        refine swl_sub _ (.cons (t := 0) rfl (.cons (t := 3) rfl (.cons (t := 4) rfl (.cons (t := 5) rfl (.cons (t := 6) rfl .nil))))) ?_
        refine swl_nil ?_
        refine then_n ?_
        refine swp_seq ?_
        refine swp_seq ?_
        refine swp_region ?_
        refine s_pu (pu_move rfl) ?_
        refine s_pu (pu_lss rfl rfl) ?_
        refine swl_sub _ (.cons (t := 0) rfl (.cons (t := 3) rfl (.cons (t := 4) rfl (.cons (t := 5) rfl (.cons (t := 6) rfl (.cons (t := 38) rfl .nil)))))) ?_
        refine swl_nil ?_
        refine then_n ?_
        refine swp_cond (b := _) rfl (fun h38 => ?_) (fun h38 => ?_)
        · skip   -- 38 T
          rw [if_pos (of_decide_eq_true h38)] at hre
          refine swp_seq ?_
          refine swp_region ?_
          refine s_pu (pu_assign rfl) ?_
          refine swl_sub _ (.cons (t := 2) rfl .nil) ?_
          refine swl_nil ?_
          refine then_n ?_
          refine swp_ret ?_
          refine then_r ?_
          refine block_r ?_
          refine then_r ?_
          refine then_r ?_
          refine block_r ?_
          refine block_r ?_
          refine then_r ?_
          refine then_r ?_
          refine block_r ?_
          refine then_r ?_
          exact done_ret [ro μ] (.tmp rfl .nil) ⟨by rw [hci, ← hre, if_neg (by decide)]; rfl, rfl⟩ (by repeat (first | exact Split.nil | (apply Split.cons; (repeat (first | with_reducible exact Take.here | apply Take.there)))))
        · skip   -- 38 F
          rw [if_neg (of_decide_eq_false h38)] at hre
          have h38' := of_decide_eq_false h38
          refine swp_skip ?_
          refine then_n ?_
          refine swp_seq ?_
          refine swp_seq ?_
          refine swp_region ?_
          refine s_pu (pu_move rfl) ?_
          refine s_pu (pu_move rfl) ?_
          refine s_pu (pu_geq rfl rfl) ?_
          refine swl_sub _ (.cons (t := 0) rfl (.cons (t := 3) rfl (.cons (t := 4) rfl (.cons (t := 5) rfl (.cons (t := 6) rfl (.cons (t := 41) rfl .nil)))))) ?_
          refine swl_nil ?_
          refine then_n ?_
          refine swp_cond (b := _) rfl (fun h41 => ?_) (fun h41 => ?_)
          · skip   -- 41 T
            rw [if_pos (of_decide_eq_true h41)] at hre
            refine swp_seq ?_
            refine swp_region ?_
            refine s_pu (pu_assign rfl) ?_
            refine swl_sub _ (.cons (t := 2) rfl .nil) ?_
            refine swl_nil ?_
            refine then_n ?_
            refine swp_ret ?_
            refine then_r ?_
            refine block_r ?_
            refine then_r ?_
            refine then_r ?_
            refine block_r ?_
            refine block_r ?_
            refine then_r ?_
            refine then_r ?_
            refine block_r ?_
            refine then_r ?_
            exact done_ret [ro μ] (.tmp rfl .nil) ⟨by rw [hci, ← hre, if_neg (by decide)]; rfl, rfl⟩ (by repeat (first | exact Split.nil | (apply Split.cons; (repeat (first | with_reducible exact Take.here | apply Take.there)))))
          · skip   -- 41 F
            rw [if_neg (of_decide_eq_false h41)] at hre
            have h41' := of_decide_eq_false h41
            obtain ⟨k, rfl⟩ : ∃ k : Nat, p = k := ⟨p.toNat, by omega⟩
            refine swp_skip ?_
            refine then_n ?_
            refine swp_seq ?_
            refine swp_seq ?_
            refine swp_region ?_
            refine s_pu (pu_move rfl) ?_
            refine s_pu (pu_move rfl) ?_
            refine s_pu (pu_indexAddr k rfl rfl (by omega) (by omega) (by omega)) ?_
            refine s_rd (rd_load rfl (rbs_get _ (by omega))) ?_
            refine swl_sub _ (.cons (t := 0) rfl (.cons (t := 3) rfl (.cons (t := 4) rfl (.cons (t := 5) rfl (.cons (t := 6) rfl (.cons (t := 45) rfl .nil)))))) ?_
            refine swl_nil ?_
            refine then_n ?_
            refine swp_cond (b := _) rfl (fun h45 => ?_) (fun h45 => ?_)
            · skip   -- 45 T
              rw [if_pos (of_decide_eq_true h45)] at hre
              refine swp_seq ?_
              refine swp_region ?_
              refine s_pu (pu_assign rfl) ?_
              refine swl_sub _ (.cons (t := 2) rfl .nil) ?_
              refine swl_nil ?_
              refine then_n ?_
              refine swp_ret ?_
              refine then_r ?_
              refine block_r ?_
              refine then_r ?_
              refine then_r ?_
              refine block_r ?_
              refine block_r ?_
              refine then_r ?_
              refine then_r ?_
              refine block_r ?_
              refine then_r ?_
              exact done_ret [ro μ] (.tmp rfl .nil) ⟨by rw [hci, ← hre, if_neg (by decide)]; rfl, rfl⟩ (by repeat (first | exact Split.nil | (apply Split.cons; (repeat (first | with_reducible exact Take.here | apply Take.there)))))
            · skip   -- 45 F
              rw [if_neg (of_decide_eq_false h45)] at hre
              refine swp_skip ?_
              refine then_n ?_
              refine swp_region ?_
              refine s_pu (pu_move rfl) ?_
              refine s_pu (pu_move rfl) ?_
              refine s_pu (pu_indexAddr k rfl rfl (by omega) (by omega) (by omega)) ?_
              refine s_ef0 (ef_storeP rfl rfl rfl (by rw [rbs_len]; omega)) ?_
              refine swl_sub _ (.cons (t := 0) rfl (.cons (t := 3) rfl (.cons (t := 4) rfl (.cons (t := 5) rfl .nil)))) ?_
              rw [rbs_set (T := fun y => decide ((y : Int) ∈ x.2.take (j + 1))) (fun y hy => by
                rw [List.take_add_one, hp]
                by_cases e : y = k
                · subst e; simp
                · have : (y : Int) ≠ k := by omega
                  simp [e, this])]
              refine swl_nil ?_
              refine block_n ?_
              refine then_n ?_
              refine swp_region ?_
              refine s_pu (pu_move rfl) ?_
              refine s_pu (pu_add_as ((j + 1 : Nat) : Int) rfl rfl (by omega) (by omega) (by omega)) ?_
              refine s_pu (pu_assign rfl) ?_
              refine swl_sub _ (.cons (t := 0) rfl (.cons (t := 3) rfl (.cons (t := 4) rfl (.cons (t := 5) rfl .nil)))) ?_
              refine swl_nil ?_
              exact then_n ⟨j + 1, ⟨rfl, rfl, h27', hre⟩, by omega⟩
      · skip   -- 27 F
        have hz : chkFrom 0 (nums G) = chkFrom (i + 1) ((nums G).drop (i + 1)) := by
          first
          | (have h27' := of_decide_eq_false h27
             obtain rfl : j = x.2.length := by omega
             rw [List.drop_length] at hre
             have hz : rowErr i [] x.2 = 0 := hre.symm
             rw [if_pos hz] at hci
             exact hci)
          | (have hz : rowErr i [] x.2 = 0 := by rw [List.eq_nil_of_length_eq_zero hx0]; rfl
             rw [if_pos hz] at hci
             exact hci)
        refine swp_exit ?_
        refine then_x ?_
        refine then_x ?_
        refine block_hit rfl ?_
        refine block_n ?_
        refine then_n ?_
        refine swp_region ?_
        refine s_pu (pu_move rfl) ?_
        refine s_pu (pu_add_as ((i + 1 : Nat) : Int) rfl rfl (by omega) (by omega) (by omega)) ?_
        refine s_pu (pu_assign rfl) ?_
        refine swl_sub _ (.cons (t := 0) rfl (.cons (t := 3) rfl .nil)) ?_
        refine swl_ent (Split.ent' (K := [ro μ]) (by repeat (first | exact Split.nil | (apply Split.cons; (repeat (first | with_reducible exact Take.here | apply Take.there)))))) ?_
        refine swl_nil ?_
        exact then_n ⟨i + 1, ⟨rfl, rfl, h10', hz.symm⟩, by omega⟩
    · skip   -- 18 F
      have h18' := of_decide_eq_false h18
      have hx0 : x.2.length = 0 := by omega
      refine swp_skip ?_
      refine then_n ?_
      refine swp_seq ?_
      refine swp_region ?_
      refine s_pu (pu_assign rfl) ?_
      refine swl_sub _ (.cons (t := 0) rfl (.cons (t := 3) rfl (.cons (t := 4) rfl (.cons (t := 5) rfl .nil)))) ?_
      refine swl_nil ?_
      refine then_n ?_
      refine swp_block ?_
      refine swp_sub _ (.cons (t := 0) rfl (.cons (t := 3) rfl (.cons (t := 4) rfl (.cons (t := 5) rfl .nil)))) ?_
      refine swp_loop (ι := Nat) (fun j env L => env = [(0, .slice (some ⟨gb, off, none⟩) G.length cap), (3, .int .i64 (i : Nat)), (4, .slice none 0 0), (5, .int .i64 0)] ∧ L = [ro μ]) (fun j => j) 0 ⟨rfl, rfl⟩ ?_
      rintro j env L ⟨rfl, rfl⟩
      refine swp_seq ?_
      refine swp_seq ?_
      refine swp_region ?_
      refine s_pu (pu_move rfl) ?_
      refine s_pu (pu_move rfl) ?_
      refine s_pu (pu_move rfl) ?_
      refine s_pu (pu_indexAddr (off + i * 1) rfl rfl (by omega) (by omega) (by rw [Int.toNat_natCast])) ?_
      refine s_rd (rd_ro rfl hrk.cell) ?_
      refine s_pu (pu_len_row hxr rfl) ?_
      refine s_pu (pu_lss rfl rfl) ?_
      refine swl_sub _ (.cons (t := 0) rfl (.cons (t := 3) rfl (.cons (t := 4) rfl (.cons (t := 5) rfl (.cons (t := 27) rfl .nil))))) ?_
      refine swl_nil ?_
      refine then_n ?_
      refine swp_cond (b := _) rfl (fun h27 => by have := of_decide_eq_true h27; omega) (fun h27 => ?_)
      have hz : chkFrom 0 (nums G) = chkFrom (i + 1) ((nums G).drop (i + 1)) := by
        first
        | (have h27' := of_decide_eq_false h27
           obtain rfl : j = x.2.length := by omega
           rw [List.drop_length] at hre
           have hz : rowErr i [] x.2 = 0 := hre.symm
           rw [if_pos hz] at hci
           exact hci)
        | (have hz : rowErr i [] x.2 = 0 := by rw [List.eq_nil_of_length_eq_zero hx0]; rfl
           rw [if_pos hz] at hci
           exact hci)
      refine swp_exit ?_
      refine then_x ?_
      refine then_x ?_
      refine block_hit rfl ?_
      refine block_n ?_
      refine then_n ?_
      refine swp_region ?_
      refine s_pu (pu_move rfl) ?_
      refine s_pu (pu_add_as ((i + 1 : Nat) : Int) rfl rfl (by omega) (by omega) (by omega)) ?_
      refine s_pu (pu_assign rfl) ?_
      refine swl_sub _ (.cons (t := 0) rfl (.cons (t := 3) rfl .nil)) ?_
      refine swl_ent (Split.ent' (K := [ro μ]) (by repeat (first | exact Split.nil | (apply Split.cons; (repeat (first | with_reducible exact Take.here | apply Take.there)))))) ?_
      refine swl_nil ?_
      exact then_n ⟨i + 1, ⟨rfl, rfl, h10', hz.symm⟩, by omega⟩
  · skip   -- 10 F
    refine swp_exit ?_
    refine then_x ?_
    refine then_x ?_
    refine block_hit rfl ?_
    refine then_n ?_
    refine swp_seq ?_
    refine swp_region ?_
    refine s_pu (pu_assign rfl) ?_
    refine swl_sub _ (.cons (t := 2) rfl .nil) ?_
    refine swl_nil ?_
    refine then_n ?_
    refine swp_ret ?_
    have h10' := of_decide_eq_false h10
    have hd : (nums G).drop i = [] := List.drop_eq_nil_of_le (by rw [List.length_map]; omega)
    rw [hd] at hch
    exact done_ret [ro μ] (.tmp rfl .nil) ⟨by rw [← hch]; rfl, rfl⟩ (by repeat (first | exact Split.nil | (apply Split.cons; (repeat (first | with_reducible exact Take.here | apply Take.there)))))
end SX
namespace SX
open Go Go.Proofs

def rowOf (g : List (List Int)) (c : Nat) : List Int := g.getD c []
def stepUp (g : List (List Int)) (c : Nat) (S : Nat → Bool) : Nat → Bool := fun j => S j || (S c && decide ((j : Int) ∈ rowOf g c))
def upF (g : List (List Int)) : Nat → (Nat → Bool) → (Nat → Bool)
  | 0, S => S
  | c + 1, S => upF g c (stepUp g c S)
/-- a commit's ancestors -/
def up (g : List (List Int)) (a : Nat) : Nat → Bool := upF g (a + 1) (fun j => decide (j = a))
/-- parents come first -/
def Good (g : List (List Int)) : Prop := ∀ (c : Nat) (l : List Int), g[c]? = some l → ∀ p ∈ l, 0 ≤ p ∧ p < c
theorem rowErr_good {c : Nat} : ∀ {l s : List Int}, rowErr c s l = 0 → ∀ p ∈ l, 0 ≤ p ∧ p < c
  | [], _, _, p, hp => by cases hp
  | q :: l, s, h, p, hp => by
    unfold rowErr at h
    split at h
    · cases h
    · split at h
      · cases h
      · split at h
        · cases h
        · rcases List.mem_cons.1 hp with rfl | hp
          · omega
          · exact rowErr_good h p hp
theorem chkFrom_good : ∀ {g : List (List Int)} {c : Nat}, chkFrom c g = 0 → ∀ (i : Nat) (l : List Int), g[i]? = some l → ∀ p ∈ l, 0 ≤ p ∧ p < ((c + i : Nat) : Int)
  | [], _, _, i, l, hl => by cases hl
  | r :: g, c, h, i, l, hl => by
    unfold chkFrom at h
    split at h
    · rename_i h0
      cases i with
      | zero => obtain rfl : r = l := by simpa using hl
                exact rowErr_good h0
      | succ i =>
        intro p hp
        have := chkFrom_good h i l (by simpa using hl) p hp
        rwa [show c + (i + 1) = c + 1 + i by omega]
    · rename_i h0; exact absurd h h0
theorem chk_good {g : List (List Int)} (h : chkFrom 0 g = 0) : Good g := fun c l hl p hp => by
  have := chkFrom_good h c l hl p hp
  rwa [Nat.zero_add] at this
theorem rowOf_at {g : List (List Int)} {c : Nat} {l : List Int} (h : g[c]? = some l) : rowOf g c = l := by unfold rowOf; rw [List.getD_eq_getElem?_getD, h]; rfl

set_option maxHeartbeats 1000000 in
theorem rup_spec (μ : PH) (v : Value) (G : List (Value × List Int)) (a : Nat) (hG : Graph μ v G) (hbig : G.length ≤ 1099511627776) (hg : Good (nums G)) (ha : a < G.length) : Spec Tryd.prog 86 [v, .int .i64 (a : Nat)] [ro μ]
    (fun r L => ∃ b, r = .slice (some ⟨b, 0, none⟩) G.length G.length ∧ L = [blk b 4 (rbs G.length (up (nums G) a)), ro μ]) := by
  obtain ⟨gb, off, cap, hv, c1, c2, hr⟩ := hG.1.pos (by omega)
  subst hv
  have hrow : ∀ c : Nat, c < G.length → ∃ x, G[c]? = some x ∧ CellAt μ gb (off + c * 1) x.1 ∧ Row μ x.1 1 x.2.length (x.2.flatMap (icsk .i64)) ∧ rowOf (nums G) c = x.2 ∧ ∀ p ∈ x.2, 0 ≤ p ∧ p < c := fun c hc => by
    have hx : G[c]? = some G[c] := List.getElem?_eq_getElem hc
    have hn : (nums G)[c]? = some G[c].2 := by rw [List.getElem?_map, hx]; rfl
    exact ⟨G[c], hx, (hr.elem gcs_len hx).cell, hG.2 _ (List.mem_of_getElem? hx), rowOf_at hn, hg c _ hn⟩
  refine Spec.of 42 Tryd.func86 rfl rfl rfl ?_
  refine swp_seq ?_
  refine swp_region ?_
  refine s_pu (pu_assign rfl) ?_
  refine swl_sub _ (.cons (t := 0) rfl (.cons (t := 1) rfl .nil)) ?_
  refine swl_nil ?_
  refine then_n ?_
  refine swp_seq ?_
  refine swp_region ?_
  refine s_pu (pu_move rfl) ?_
  refine s_pu (pu_len_row hG.1 rfl) ?_
  refine s_ef (ef_make1 G.length rfl rfl rfl (by omega) (by simp only [maxLen]; omega)) ?_
  rintro b10
  skip
  refine s_pu (pu_assign rfl) ?_
  refine swl_sub _ (.cons (t := 0) rfl (.cons (t := 1) rfl (.cons (t := 5) rfl .nil))) ?_
  refine swl_nil ?_
  refine then_n ?_
  refine swp_seq ?_
  refine swp_region ?_
  refine s_pu (pu_move rfl) ?_
  refine s_pu (pu_move rfl) ?_
  refine s_pu (pu_indexAddr a rfl rfl (by omega) (by omega) (by omega)) ?_
  refine s_ef0 (ef_storeP rfl rfl rfl (by rw [List.length_replicate]; omega)) ?_
  refine swl_sub _ (.cons (t := 0) rfl (.cons (t := 1) rfl (.cons (t := 5) rfl .nil))) ?_
  have e : (List.replicate G.length (Value.bool false)).set a (.bool true) = rbs G.length (fun j => decide (j = a)) := by
    have e0 : List.replicate G.length (Value.bool false) = rbs G.length (fun _ => false) := by
      apply List.ext_getElem?
      intro j
      simp [rbs, List.getElem?_replicate]
      split <;> simp_all
    rw [e0]
    exact rbs_set (fun j hj => by by_cases h : j = a <;> simp [h])
  rw [e]
  refine swl_nil ?_
  refine then_n ?_
  refine swp_seq ?_
  refine swp_seq ?_
  refine swp_region ?_
  refine s_pu (pu_move rfl) ?_
  refine s_pu (pu_assign rfl) ?_
  refine swl_sub _ (.cons (t := 0) rfl (.cons (t := 5) rfl (.cons (t := 6) rfl .nil))) ?_
  refine swl_nil ?_
  refine then_n ?_
  refine swp_block ?_
  refine swp_loop (ι := Nat × (Nat → Bool)) (fun k env L => env = [(0, .slice (some ⟨gb, off, none⟩) G.length cap), (5, .slice (some ⟨b10, 0, none⟩) G.length G.length), (6, .int .i64 ((k.1 : Nat) - 1 : Int))] ∧ L = [blk b10 4 (rbs G.length k.2), ro μ] ∧ k.1 ≤ a + 1 ∧ upF (nums G) k.1 k.2 = up (nums G) a) (fun k => k.1) (a + 1, fun j => decide (j = a)) ⟨?_, rfl, Nat.le_refl _, rfl⟩ ?_
  · rw [show (((a + 1 : Nat) : Int) - 1) = a by omega]
  rintro ⟨k, S⟩ env L ⟨rfl, rfl, hk, hup⟩
  dsimp only at hk hup ⊢
  refine swp_seq ?_
  refine swp_seq ?_
  refine swp_region ?_
  refine s_pu (pu_move rfl) ?_
  refine s_pu (pu_geq rfl rfl) ?_
  refine swl_sub _ (.cons (t := 0) rfl (.cons (t := 5) rfl (.cons (t := 6) rfl (.cons (t := 16) rfl .nil)))) ?_
  refine swl_nil ?_
  refine then_n ?_
  refine swp_cond (b := _) rfl (fun h16 => ?_) (fun h16 => ?_)
  · skip   -- 16 T
    have h16' := of_decide_eq_true h16
    obtain ⟨c, rfl⟩ : ∃ c, k = c + 1 := ⟨k - 1, by omega⟩
    rw [show (((c + 1 : Nat) : Int) - 1) = c by omega]
    obtain ⟨x, hx, hxc, hxr, hxo, hxg⟩ := hrow c (by omega)
    have hxs := hxr.small
    replace hup : upF (nums G) c (stepUp (nums G) c S) = up (nums G) a := hup
    refine swp_skip ?_
    refine then_n ?_
    refine swp_seq ?_
    refine swp_block ?_
    refine swp_seq ?_
    refine swp_region ?_
    refine s_pu (pu_move rfl) ?_
    refine s_pu (pu_move rfl) ?_
    refine s_pu (pu_indexAddr c rfl rfl (by omega) (by omega) (by omega)) ?_
    refine s_rd (rd_load rfl (rbs_get S (by omega))) ?_
    refine swl_sub _ (.cons (t := 0) rfl (.cons (t := 5) rfl (.cons (t := 6) rfl (.cons (t := 22) rfl .nil)))) ?_
    refine swl_nil ?_
    refine then_n ?_
    refine swp_cond (b := _) rfl (fun h22 => ?_) (fun h22 => ?_)
    · skip   -- 22 T
      refine swp_seq ?_
      refine swp_region ?_
      refine s_pu (pu_assign rfl) ?_
      refine swl_sub _ (.cons (t := 0) rfl (.cons (t := 5) rfl (.cons (t := 6) rfl (.cons (t := 7) rfl .nil)))) ?_
      refine swl_nil ?_
      refine then_n ?_
      refine swp_block ?_
      refine swp_sub _ (.cons (t := 0) rfl (.cons (t := 5) rfl (.cons (t := 6) rfl (.cons (t := 7) rfl .nil)))) ?_
      have e0 : rbs G.length S = rbs G.length (fun y => S y || decide ((y : Int) ∈ x.2.take 0)) := rbs_ext fun j _ => by simp
      rw [e0]
      refine swp_loop (ι := Nat) (fun j env L => env = [(0, .slice (some ⟨gb, off, none⟩) G.length cap), (5, .slice (some ⟨b10, 0, none⟩) G.length G.length), (6, .int .i64 (c : Nat)), (7, .int .i64 (j : Nat))] ∧ L = [blk b10 4 (rbs G.length (fun y => S y || decide ((y : Int) ∈ x.2.take j))), ro μ] ∧ j ≤ x.2.length) (fun j => x.2.length - j) 0 ⟨rfl, rfl, Nat.zero_le _⟩ ?_
      rintro j env L ⟨rfl, rfl, hj⟩
      refine swp_seq ?_
      refine swp_seq ?_
      refine swp_region ?_
      refine s_pu (pu_move rfl) ?_
      refine s_pu (pu_move rfl) ?_
      refine s_pu (pu_move rfl) ?_
      refine s_pu (pu_indexAddr (off + c * 1) rfl rfl (by omega) (by omega) (by rw [Int.toNat_natCast])) ?_
      refine s_rd (rd_ro rfl hxc) ?_
      refine s_pu (pu_len_row hxr rfl) ?_
      refine s_pu (pu_lss rfl rfl) ?_
      refine swl_sub _ (.cons (t := 0) rfl (.cons (t := 5) rfl (.cons (t := 6) rfl (.cons (t := 7) rfl (.cons (t := 29) rfl .nil))))) ?_
      refine swl_nil ?_
      refine then_n ?_
      refine swp_cond (b := _) rfl (fun h29 => ?_) (fun h29 => ?_)
      · skip   -- 29 T
        have h29' : j < x.2.length := by have := of_decide_eq_true h29; omega
        obtain ⟨pb, poff, pcap, hpv, p1, p2, hpr⟩ := hxr.pos (by omega)
        obtain ⟨p, hp⟩ : ∃ p, x.2[j]? = some p := ⟨_, List.getElem?_eq_getElem h29'⟩
        have hpk := hpr.elem (icsk_len .i64) hp
        have hpg := hxg p (List.mem_of_getElem? hp)
        obtain ⟨i, rfl⟩ : ∃ i : Nat, p = i := ⟨p.toNat, by omega⟩
        refine swp_skip ?_
        refine then_n ?_
        refine swp_seq ?_
        refine swp_block ?_
        refine swp_region ?_
        refine s_pu (pu_move rfl) ?_
        refine s_pu (pu_move rfl) ?_
        refine s_pu (pu_move rfl) ?_
        refine s_pu (pu_indexAddr (off + c * 1) rfl rfl (by omega) (by omega) (by rw [Int.toNat_natCast])) ?_
        refine s_rd (rd_ro rfl (hpv ▸ hxc)) ?_
        refine s_pu (pu_move rfl) ?_
        refine s_pu (pu_indexAddr (poff + j * 1) rfl rfl (by omega) (by omega) (by rw [Int.toNat_natCast])) ?_
        refine s_rd (rd_ro rfl hpk.cell) ?_
        refine s_pu (pu_indexAddr i rfl rfl (by omega) (by omega) (by omega)) ?_
        refine s_ef0 (ef_storeP rfl rfl rfl (by rw [rbs_len]; omega)) ?_
        refine swl_sub _ (.cons (t := 0) rfl (.cons (t := 5) rfl (.cons (t := 6) rfl (.cons (t := 7) rfl .nil)))) ?_
        rw [rbs_set (T := fun y => S y || decide ((y : Int) ∈ x.2.take (j + 1))) (fun y hy => by
          rw [List.take_add_one, hp]
          by_cases e : y = i
          · subst e; simp
          · have : (y : Int) ≠ i := by omega
            simp [e, this])]
        refine swl_nil ?_
        refine block_n ?_
        refine then_n ?_
        refine swp_region ?_
        refine s_pu (pu_move rfl) ?_
        refine s_pu (pu_add_as ((j + 1 : Nat) : Int) rfl rfl (by omega) (by omega) (by omega)) ?_
        refine s_pu (pu_assign rfl) ?_
        refine swl_sub _ (.cons (t := 0) rfl (.cons (t := 5) rfl (.cons (t := 6) rfl (.cons (t := 7) rfl .nil)))) ?_
        refine swl_nil ?_
        exact then_n ⟨j + 1, ⟨rfl, rfl, h29'⟩, by omega⟩
      · skip   -- 29 F
        have h29' := of_decide_eq_false h29
        obtain rfl : j = x.2.length := by omega
        have e1 : rbs G.length (fun y => S y || decide ((y : Int) ∈ x.2.take x.2.length)) = rbs G.length (stepUp (nums G) c S) := rbs_ext fun j _ => by
          unfold stepUp; rw [h22, hxo, List.take_length, Bool.true_and]
        rw [e1]
        refine swp_exit ?_
        refine then_x ?_
        refine then_x ?_
        refine block_hit rfl ?_
        refine block_n ?_
        refine then_n ?_
        refine swp_region ?_
        refine s_pu (pu_move rfl) ?_
        refine s_pu (pu_sub_as ((c : Nat) - 1 : Int) rfl rfl (by omega) (by omega) (by omega)) ?_
        refine s_pu (pu_assign rfl) ?_
        refine swl_sub _ (.cons (t := 0) rfl (.cons (t := 5) rfl (.cons (t := 6) rfl .nil))) ?_
        refine swl_nil ?_
        exact then_n ⟨(c, stepUp (nums G) c S), ⟨rfl, rfl, by omega, hup⟩, by show c < c + 1; omega⟩
    · skip   -- 22 F
      have e1 : rbs G.length S = rbs G.length (stepUp (nums G) c S) := rbs_ext fun j _ => by unfold stepUp; rw [h22, Bool.false_and, Bool.or_false]
      rw [e1]
      refine swp_skip ?_
      refine block_n ?_
      refine then_n ?_
      refine swp_region ?_
      refine s_pu (pu_move rfl) ?_
      refine s_pu (pu_sub_as ((c : Nat) - 1 : Int) rfl rfl (by omega) (by omega) (by omega)) ?_
      refine s_pu (pu_assign rfl) ?_
      refine swl_sub _ (.cons (t := 0) rfl (.cons (t := 5) rfl (.cons (t := 6) rfl .nil))) ?_
      refine swl_nil ?_
      exact then_n ⟨(c, stepUp (nums G) c S), ⟨rfl, rfl, by omega, hup⟩, by show c < c + 1; omega⟩
  · skip   -- 16 F
    refine swp_exit ?_
    refine then_x ?_
    refine then_x ?_
    refine block_hit rfl ?_
    refine then_n ?_
    refine swp_seq ?_
    refine swp_region ?_
    refine s_pu (pu_move rfl) ?_
    refine s_pu (pu_assign rfl) ?_
    refine swl_sub _ (.cons (t := 4) rfl .nil) ?_
    refine swl_nil ?_
    refine then_n ?_
    refine swp_ret ?_
    have h16' := of_decide_eq_false h16
    obtain rfl : k = 0 := by omega
    replace hup : S = up (nums G) a := hup
    subst hup
    exact done_ret [blk b10 4 (rbs G.length (up (nums G) a)), ro μ] (.tmp rfl .nil) ⟨b10, rfl, rfl⟩ (by repeat (first | exact Split.nil | (apply Split.cons; (repeat (first | with_reducible exact Take.here | apply Take.there)))))
theorem rlistb_spec (b n : Nat) (S : Nat → Bool) (hn : n ≤ 1099511627776) : Spec Tryd.prog 85 [.slice (some ⟨b, 0, none⟩) n n] [blk b 4 (rbs n S)] (fun r L => L = [own 3 1 r (elsTo n S).length ((elsTo n S).flatMap (icsk .i64)), blk b 4 (rbs n S)]) := by
  refine Spec.of 20 Tryd.func85 rfl rfl rfl ?_
  refine swp_seq ?_
  refine swp_region ?_
  refine s_pu (pu_assign rfl) ?_
  refine swl_sub _ (.cons (t := 0) rfl .nil) ?_
  refine swl_nil ?_
  refine then_n ?_
  refine swp_seq ?_
  refine swp_region ?_
  refine s_pu (pu_assign rfl) ?_
  refine swl_sub _ (.cons (t := 0) rfl (.cons (t := 3) rfl .nil)) ?_
  refine swl_ent (own_nil_ent (e := 3) (n := 1)) ?_
  refine swl_nil ?_
  refine then_n ?_
  refine swp_seq ?_
  refine swp_seq ?_
  refine swp_region ?_
  refine s_pu (pu_assign rfl) ?_
  refine swl_sub _ (.cons (t := 0) rfl (.cons (t := 3) rfl (.cons (t := 4) rfl .nil))) ?_
  refine swl_nil ?_
  refine then_n ?_
  refine swp_block ?_
  refine swp_loop (ι := Value × Nat) (fun k env L => env = [(0, .slice (some ⟨b, 0, none⟩) n n), (3, k.1), (4, .int .i64 (k.2 : Nat))] ∧ L = [own 3 1 k.1 (elsTo k.2 S).length ((elsTo k.2 S).flatMap (icsk .i64)), blk b 4 (rbs n S)] ∧ k.2 ≤ n) (fun k => n - k.2) (.slice none 0 0, 0) ⟨rfl, rfl, Nat.zero_le _⟩ ?_
  rintro ⟨v3, j⟩ env L ⟨rfl, rfl, hj⟩
  dsimp only at hj ⊢
  refine swp_seq ?_
  refine swp_seq ?_
  refine swp_region ?_
  refine s_pu (pu_move rfl) ?_
  refine s_pu (pu_move rfl) ?_
  refine s_pu (pu_len rfl) ?_
  refine s_pu (pu_lss rfl rfl) ?_
  refine swl_sub _ (.cons (t := 0) rfl (.cons (t := 3) rfl (.cons (t := 4) rfl (.cons (t := 8) rfl .nil)))) ?_
  refine swl_nil ?_
  refine then_n ?_
  refine swp_cond (b := _) rfl (fun h8 => ?_) (fun h8 => ?_)
  · skip   -- 8 T
    have h8' : j < n := by have := of_decide_eq_true h8; omega
    refine swp_skip ?_
    refine then_n ?_
    refine swp_seq ?_
    refine swp_block ?_
    refine swp_seq ?_
    refine swp_region ?_
    refine s_pu (pu_move rfl) ?_
    refine s_pu (pu_move rfl) ?_
    refine s_pu (pu_indexAddr j rfl rfl (by omega) (by omega) (by omega)) ?_
    refine s_rd (rd_load rfl (rbs_get S (by omega))) ?_
    refine swl_sub _ (.cons (t := 0) rfl (.cons (t := 3) rfl (.cons (t := 4) rfl (.cons (t := 14) rfl .nil)))) ?_
    refine swl_nil ?_
    refine then_n ?_
    refine swp_cond (b := _) rfl (fun h14 => ?_) (fun h14 => ?_)
    · skip   -- 14 T
      have hle := elsTo_len j S
      refine swp_region ?_
      refine s_pu (pu_move rfl) ?_
      refine s_pu (pu_move rfl) ?_
      refine s_ef (ef_bldS (qs := [(0, _)]) rfl rfl rfl) ?_
      intro b17
      refine s_ef (ef_append_lit (l := (elsTo j S).length) (m := 1) rfl rfl (by repeat (first | exact Split.nil | (apply Split.cons; (repeat (first | with_reducible exact Take.here | apply Take.there))))) (by simp only [maxLen]; omega) (by omega)) ?_
      rintro v' hv'
      skip
      refine s_pu (pu_assign rfl) ?_
      refine swl_sub _ (.cons (t := 0) rfl (.cons (t := 3) rfl (.cons (t := 4) rfl .nil))) ?_
      have e1 : (elsTo j S).length + 1 = (elsTo (j + 1) S).length := by rw [elsTo_succ h14, List.length_append]; rfl
      have e2 : (elsTo j S).flatMap (icsk .i64) ++ [.int .i64 (j : Nat)] = (elsTo (j + 1) S).flatMap (icsk .i64) := by rw [elsTo_succ h14, List.flatMap_append]; rfl
      rw [e1, e2]
      refine swl_nil ?_
      refine block_n ?_
      refine then_n ?_
      refine swp_region ?_
      refine s_pu (pu_move rfl) ?_
      refine s_pu (pu_add_as ((j + 1 : Nat) : Int) rfl rfl (by omega) (by omega) (by omega)) ?_
      refine s_pu (pu_assign rfl) ?_
      refine swl_sub _ (.cons (t := 0) rfl (.cons (t := 3) rfl (.cons (t := 4) rfl .nil))) ?_
      refine swl_nil ?_
      exact then_n ⟨(_, j + 1), ⟨rfl, rfl, by omega⟩, by show n - (j + 1) < n - j; omega⟩
    · skip   -- 14 F
      have e0 : elsTo (j + 1) S = elsTo j S := elsTo_skip (by omega) (fun i h1 h2 => by rw [show i = j by omega]; exact h14)
      rw [← e0]
      refine swp_skip ?_
      refine block_n ?_
      refine then_n ?_
      refine swp_region ?_
      refine s_pu (pu_move rfl) ?_
      refine s_pu (pu_add_as ((j + 1 : Nat) : Int) rfl rfl (by omega) (by omega) (by omega)) ?_
      refine s_pu (pu_assign rfl) ?_
      refine swl_sub _ (.cons (t := 0) rfl (.cons (t := 3) rfl (.cons (t := 4) rfl .nil))) ?_
      refine swl_nil ?_
      exact then_n ⟨(_, j + 1), ⟨rfl, rfl, by omega⟩, by show n - (j + 1) < n - j; omega⟩
  · skip   -- 8 F
    have h8' := of_decide_eq_false h8
    obtain rfl : j = n := by omega
    refine swp_exit ?_
    refine then_x ?_
    refine then_x ?_
    refine block_hit rfl ?_
    refine then_n ?_
    refine swp_seq ?_
    refine swp_region ?_
    refine s_pu (pu_move rfl) ?_
    refine s_pu (pu_assign rfl) ?_
    refine swl_sub _ (.cons (t := 2) rfl .nil) ?_
    refine swl_nil ?_
    refine then_n ?_
    refine swp_ret ?_
    exact done_ret [own 3 1 v3 (elsTo j S).length ((elsTo j S).flatMap (icsk .i64)), blk b 4 (rbs j S)] (.tmp rfl .nil) rfl (by repeat (first | exact Split.nil | (apply Split.cons; (repeat (first | with_reducible exact Take.here | apply Take.there)))))
/-- the errors that come first -/
def askE (g : List (List Int)) (a b : Int) : Int := if chkFrom 0 g ≠ 0 then 1 else if a < 0 ∨ (g.length : Int) ≤ a ∨ b < 0 ∨ (g.length : Int) ≤ b then 9 else 0
theorem rask_spec (μ : PH) (v : Value) (G : List (Value × List Int)) (a b : Int) (hG : Graph μ v G) (hbig : G.length ≤ 1099511627776) : Spec Tryd.prog 84 [v, .int .i64 a, .int .i64 b] [ro μ] (fun r L => r = .int .i64 (askE (nums G) a b) ∧ L = [ro μ]) := by
  have hln : (nums G).length = G.length := List.length_map _
  refine Spec.of 28 Tryd.func84 rfl rfl rfl ?_
  refine swp_seq ?_
  refine swp_region ?_
  refine s_pu (pu_assign rfl) ?_
  refine swl_sub _ (.cons (t := 0) rfl (.cons (t := 1) rfl (.cons (t := 2) rfl .nil))) ?_
  refine swl_nil ?_
  refine then_n ?_
  refine swp_seq ?_
  refine swp_seq ?_
  refine swp_region ?_
  refine s_pu (pu_move rfl) ?_
  refine s_ef (ef_fn (rcheck_spec μ v G hG hbig) rfl rfl (by repeat (first | exact Split.nil | (apply Split.cons; (repeat (first | with_reducible exact Take.here | apply Take.there)))))) ?_
  rintro v1 L1 ⟨rfl, rfl⟩
  refine swl_app ?_
  refine s_pu (pu_neq rfl rfl) ?_
  refine swl_sub _ (.cons (t := 0) rfl (.cons (t := 1) rfl (.cons (t := 2) rfl (.cons (t := 9) rfl .nil)))) ?_
  refine swl_nil ?_
  refine then_n ?_
  refine swp_cond (b := _) rfl (fun h9 => ?_) (fun h9 => ?_)
  · skip   -- 9 T
    refine swp_seq ?_
    refine swp_region ?_
    refine s_pu (pu_assign rfl) ?_
    refine swl_sub _ (.cons (t := 6) rfl .nil) ?_
    refine swl_nil ?_
    refine then_n ?_
    refine swp_ret ?_
    refine then_r ?_
    refine done_ret [ro μ] (.tmp rfl .nil) ⟨congrArg (Value.int .i64) ?_, rfl⟩ (by repeat (first | exact Split.nil | (apply Split.cons; (repeat (first | with_reducible exact Take.here | apply Take.there)))))
    unfold askE
    rw [hln]
    simp only [Bool.not_eq_true', Bool.not_eq_false', decide_eq_true_eq, decide_eq_false_iff_not, reduceCtorEq] at * <;> (split <;> (try split) <;> omega)
  · skip   -- 9 F
    refine swp_skip ?_
    refine then_n ?_
    refine swp_seq ?_
    refine swp_seq ?_
    refine swp_region ?_
    refine s_pu (pu_move rfl) ?_
    refine s_pu (pu_lss rfl rfl) ?_
    refine s_pu (pu_move rfl) ?_
    refine s_split 12 rfl (fun h12 => ?_) (fun h12 => ?_)
    · skip   -- 12 T
      refine s_off rfl rfl rfl ?_
      refine s_off rfl rfl rfl ?_
      refine s_off rfl rfl rfl ?_
      refine s_off rfl rfl rfl ?_
      first | refine s_pu (pu_pick_t rfl rfl) ?_ | refine s_pu (pu_pick_f rfl rfl) ?_
      refine s_pu (pu_move rfl) ?_
      refine s_split 18 rfl (fun h18 => ?_) (fun h18 => ?_)
      · skip   -- 18 T
        refine s_off rfl rfl rfl ?_
        refine s_off rfl rfl rfl ?_
        first | refine s_pu (pu_pick_t rfl rfl) ?_ | refine s_pu (pu_pick_f rfl rfl) ?_
        refine s_pu (pu_move rfl) ?_
        refine s_split 22 rfl (fun h22 => ?_) (fun h22 => ?_)
        · skip   -- 22 T
          refine s_off rfl rfl rfl ?_
          refine s_off rfl rfl rfl ?_
          refine s_off rfl rfl rfl ?_
          refine s_off rfl rfl rfl ?_
          first | refine s_pu (pu_pick_t rfl rfl) ?_ | refine s_pu (pu_pick_f rfl rfl) ?_
          refine swl_sub _ (.cons (t := 27) rfl .nil) ?_
          refine swl_nil ?_
          refine then_n ?_
          refine swp_cond (b := _) rfl (fun h27 => ?_) (fun h27 => ?_)
          · skip   -- 27 T
            refine swp_seq ?_
            refine swp_region ?_
            refine s_pu (pu_assign rfl) ?_
            refine swl_sub _ (.cons (t := 6) rfl .nil) ?_
            refine swl_nil ?_
            refine then_n ?_
            refine swp_ret ?_
            refine then_r ?_
            refine done_ret [ro μ] (.tmp rfl .nil) ⟨congrArg (Value.int .i64) ?_, rfl⟩ (by repeat (first | exact Split.nil | (apply Split.cons; (repeat (first | with_reducible exact Take.here | apply Take.there)))))
            unfold askE
            rw [hln]
            simp only [Bool.not_eq_true', Bool.not_eq_false', decide_eq_true_eq, decide_eq_false_iff_not, reduceCtorEq] at * <;> (split <;> (try split) <;> omega)
          · skip   -- 27 F
            refine swp_skip ?_
            refine then_n ?_
            refine swp_seq ?_
            refine swp_region ?_
            refine s_pu (pu_assign rfl) ?_
            refine swl_sub _ (.cons (t := 6) rfl .nil) ?_
            refine swl_nil ?_
            refine then_n ?_
            refine swp_ret ?_
            refine done_ret [ro μ] (.tmp rfl .nil) ⟨congrArg (Value.int .i64) ?_, rfl⟩ (by repeat (first | exact Split.nil | (apply Split.cons; (repeat (first | with_reducible exact Take.here | apply Take.there)))))
            unfold askE
            rw [hln]
            simp only [Bool.not_eq_true', Bool.not_eq_false', decide_eq_true_eq, decide_eq_false_iff_not, reduceCtorEq] at * <;> (split <;> (try split) <;> omega)
        · skip   -- 22 F
          refine s_on rfl rfl ?_
          refine s_pu (pu_move rfl) ?_
          refine s_on rfl rfl ?_
          refine s_pu (pu_move rfl) ?_
          refine s_on rfl rfl ?_
          refine s_pu (pu_len_row hG.1 rfl) ?_
          refine s_on rfl rfl ?_
          refine s_pu (pu_geq rfl rfl) ?_
          first | refine s_pu (pu_pick_t rfl rfl) ?_ | refine s_pu (pu_pick_f rfl rfl) ?_
          refine swl_sub _ (.cons (t := 27) rfl .nil) ?_
          refine swl_nil ?_
          refine then_n ?_
          refine swp_cond (b := _) rfl (fun h27 => ?_) (fun h27 => ?_)
          · skip   -- 27 T
            refine swp_seq ?_
            refine swp_region ?_
            refine s_pu (pu_assign rfl) ?_
            refine swl_sub _ (.cons (t := 6) rfl .nil) ?_
            refine swl_nil ?_
            refine then_n ?_
            refine swp_ret ?_
            refine then_r ?_
            refine done_ret [ro μ] (.tmp rfl .nil) ⟨congrArg (Value.int .i64) ?_, rfl⟩ (by repeat (first | exact Split.nil | (apply Split.cons; (repeat (first | with_reducible exact Take.here | apply Take.there)))))
            unfold askE
            rw [hln]
            simp only [Bool.not_eq_true', Bool.not_eq_false', decide_eq_true_eq, decide_eq_false_iff_not, reduceCtorEq] at * <;> (split <;> (try split) <;> omega)
          · skip   -- 27 F
            refine swp_skip ?_
            refine then_n ?_
            refine swp_seq ?_
            refine swp_region ?_
            refine s_pu (pu_assign rfl) ?_
            refine swl_sub _ (.cons (t := 6) rfl .nil) ?_
            refine swl_nil ?_
            refine then_n ?_
            refine swp_ret ?_
            refine done_ret [ro μ] (.tmp rfl .nil) ⟨congrArg (Value.int .i64) ?_, rfl⟩ (by repeat (first | exact Split.nil | (apply Split.cons; (repeat (first | with_reducible exact Take.here | apply Take.there)))))
            unfold askE
            rw [hln]
            simp only [Bool.not_eq_true', Bool.not_eq_false', decide_eq_true_eq, decide_eq_false_iff_not, reduceCtorEq] at * <;> (split <;> (try split) <;> omega)
      · skip   -- 18 F
        refine s_on rfl rfl ?_
        refine s_pu (pu_move rfl) ?_
        refine s_on rfl rfl ?_
        refine s_pu (pu_lss rfl rfl) ?_
        first | refine s_pu (pu_pick_t rfl rfl) ?_ | refine s_pu (pu_pick_f rfl rfl) ?_
        refine s_pu (pu_move rfl) ?_
        refine s_split 22 rfl (fun h22 => ?_) (fun h22 => ?_)
        · skip   -- 22 T
          refine s_off rfl rfl rfl ?_
          refine s_off rfl rfl rfl ?_
          refine s_off rfl rfl rfl ?_
          refine s_off rfl rfl rfl ?_
          first | refine s_pu (pu_pick_t rfl rfl) ?_ | refine s_pu (pu_pick_f rfl rfl) ?_
          refine swl_sub _ (.cons (t := 27) rfl .nil) ?_
          refine swl_nil ?_
          refine then_n ?_
          refine swp_cond (b := _) rfl (fun h27 => ?_) (fun h27 => ?_)
          · skip   -- 27 T
            refine swp_seq ?_
            refine swp_region ?_
            refine s_pu (pu_assign rfl) ?_
            refine swl_sub _ (.cons (t := 6) rfl .nil) ?_
            refine swl_nil ?_
            refine then_n ?_
            refine swp_ret ?_
            refine then_r ?_
            refine done_ret [ro μ] (.tmp rfl .nil) ⟨congrArg (Value.int .i64) ?_, rfl⟩ (by repeat (first | exact Split.nil | (apply Split.cons; (repeat (first | with_reducible exact Take.here | apply Take.there)))))
            unfold askE
            rw [hln]
            simp only [Bool.not_eq_true', Bool.not_eq_false', decide_eq_true_eq, decide_eq_false_iff_not, reduceCtorEq] at * <;> (split <;> (try split) <;> omega)
          · skip   -- 27 F
            refine swp_skip ?_
            refine then_n ?_
            refine swp_seq ?_
            refine swp_region ?_
            refine s_pu (pu_assign rfl) ?_
            refine swl_sub _ (.cons (t := 6) rfl .nil) ?_
            refine swl_nil ?_
            refine then_n ?_
            refine swp_ret ?_
            refine done_ret [ro μ] (.tmp rfl .nil) ⟨congrArg (Value.int .i64) ?_, rfl⟩ (by repeat (first | exact Split.nil | (apply Split.cons; (repeat (first | with_reducible exact Take.here | apply Take.there)))))
            unfold askE
            rw [hln]
            simp only [Bool.not_eq_true', Bool.not_eq_false', decide_eq_true_eq, decide_eq_false_iff_not, reduceCtorEq] at * <;> (split <;> (try split) <;> omega)
        · skip   -- 22 F
          refine s_on rfl rfl ?_
          refine s_pu (pu_move rfl) ?_
          refine s_on rfl rfl ?_
          refine s_pu (pu_move rfl) ?_
          refine s_on rfl rfl ?_
          refine s_pu (pu_len_row hG.1 rfl) ?_
          refine s_on rfl rfl ?_
          refine s_pu (pu_geq rfl rfl) ?_
          first | refine s_pu (pu_pick_t rfl rfl) ?_ | refine s_pu (pu_pick_f rfl rfl) ?_
          refine swl_sub _ (.cons (t := 27) rfl .nil) ?_
          refine swl_nil ?_
          refine then_n ?_
          refine swp_cond (b := _) rfl (fun h27 => ?_) (fun h27 => ?_)
          · skip   -- 27 T
            refine swp_seq ?_
            refine swp_region ?_
            refine s_pu (pu_assign rfl) ?_
            refine swl_sub _ (.cons (t := 6) rfl .nil) ?_
            refine swl_nil ?_
            refine then_n ?_
            refine swp_ret ?_
            refine then_r ?_
            refine done_ret [ro μ] (.tmp rfl .nil) ⟨congrArg (Value.int .i64) ?_, rfl⟩ (by repeat (first | exact Split.nil | (apply Split.cons; (repeat (first | with_reducible exact Take.here | apply Take.there)))))
            unfold askE
            rw [hln]
            simp only [Bool.not_eq_true', Bool.not_eq_false', decide_eq_true_eq, decide_eq_false_iff_not, reduceCtorEq] at * <;> (split <;> (try split) <;> omega)
          · skip   -- 27 F
            refine swp_skip ?_
            refine then_n ?_
            refine swp_seq ?_
            refine swp_region ?_
            refine s_pu (pu_assign rfl) ?_
            refine swl_sub _ (.cons (t := 6) rfl .nil) ?_
            refine swl_nil ?_
            refine then_n ?_
            refine swp_ret ?_
            refine done_ret [ro μ] (.tmp rfl .nil) ⟨congrArg (Value.int .i64) ?_, rfl⟩ (by repeat (first | exact Split.nil | (apply Split.cons; (repeat (first | with_reducible exact Take.here | apply Take.there)))))
            unfold askE
            rw [hln]
            simp only [Bool.not_eq_true', Bool.not_eq_false', decide_eq_true_eq, decide_eq_false_iff_not, reduceCtorEq] at * <;> (split <;> (try split) <;> omega)
    · skip   -- 12 F
      refine s_on rfl rfl ?_
      refine s_pu (pu_move rfl) ?_
      refine s_on rfl rfl ?_
      refine s_pu (pu_move rfl) ?_
      refine s_on rfl rfl ?_
      refine s_pu (pu_len_row hG.1 rfl) ?_
      refine s_on rfl rfl ?_
      refine s_pu (pu_geq rfl rfl) ?_
      first | refine s_pu (pu_pick_t rfl rfl) ?_ | refine s_pu (pu_pick_f rfl rfl) ?_
      refine s_pu (pu_move rfl) ?_
      refine s_split 18 rfl (fun h18 => ?_) (fun h18 => ?_)
      · skip   -- 18 T
        refine s_off rfl rfl rfl ?_
        refine s_off rfl rfl rfl ?_
        first | refine s_pu (pu_pick_t rfl rfl) ?_ | refine s_pu (pu_pick_f rfl rfl) ?_
        refine s_pu (pu_move rfl) ?_
        refine s_split 22 rfl (fun h22 => ?_) (fun h22 => ?_)
        · skip   -- 22 T
          refine s_off rfl rfl rfl ?_
          refine s_off rfl rfl rfl ?_
          refine s_off rfl rfl rfl ?_
          refine s_off rfl rfl rfl ?_
          first | refine s_pu (pu_pick_t rfl rfl) ?_ | refine s_pu (pu_pick_f rfl rfl) ?_
          refine swl_sub _ (.cons (t := 27) rfl .nil) ?_
          refine swl_nil ?_
          refine then_n ?_
          refine swp_cond (b := _) rfl (fun h27 => ?_) (fun h27 => ?_)
          · skip   -- 27 T
            refine swp_seq ?_
            refine swp_region ?_
            refine s_pu (pu_assign rfl) ?_
            refine swl_sub _ (.cons (t := 6) rfl .nil) ?_
            refine swl_nil ?_
            refine then_n ?_
            refine swp_ret ?_
            refine then_r ?_
            refine done_ret [ro μ] (.tmp rfl .nil) ⟨congrArg (Value.int .i64) ?_, rfl⟩ (by repeat (first | exact Split.nil | (apply Split.cons; (repeat (first | with_reducible exact Take.here | apply Take.there)))))
            unfold askE
            rw [hln]
            simp only [Bool.not_eq_true', Bool.not_eq_false', decide_eq_true_eq, decide_eq_false_iff_not, reduceCtorEq] at * <;> (split <;> (try split) <;> omega)
          · skip   -- 27 F
            refine swp_skip ?_
            refine then_n ?_
            refine swp_seq ?_
            refine swp_region ?_
            refine s_pu (pu_assign rfl) ?_
            refine swl_sub _ (.cons (t := 6) rfl .nil) ?_
            refine swl_nil ?_
            refine then_n ?_
            refine swp_ret ?_
            refine done_ret [ro μ] (.tmp rfl .nil) ⟨congrArg (Value.int .i64) ?_, rfl⟩ (by repeat (first | exact Split.nil | (apply Split.cons; (repeat (first | with_reducible exact Take.here | apply Take.there)))))
            unfold askE
            rw [hln]
            simp only [Bool.not_eq_true', Bool.not_eq_false', decide_eq_true_eq, decide_eq_false_iff_not, reduceCtorEq] at * <;> (split <;> (try split) <;> omega)
        · skip   -- 22 F
          refine s_on rfl rfl ?_
          refine s_pu (pu_move rfl) ?_
          refine s_on rfl rfl ?_
          refine s_pu (pu_move rfl) ?_
          refine s_on rfl rfl ?_
          refine s_pu (pu_len_row hG.1 rfl) ?_
          refine s_on rfl rfl ?_
          refine s_pu (pu_geq rfl rfl) ?_
          first | refine s_pu (pu_pick_t rfl rfl) ?_ | refine s_pu (pu_pick_f rfl rfl) ?_
          refine swl_sub _ (.cons (t := 27) rfl .nil) ?_
          refine swl_nil ?_
          refine then_n ?_
          refine swp_cond (b := _) rfl (fun h27 => ?_) (fun h27 => ?_)
          · skip   -- 27 T
            refine swp_seq ?_
            refine swp_region ?_
            refine s_pu (pu_assign rfl) ?_
            refine swl_sub _ (.cons (t := 6) rfl .nil) ?_
            refine swl_nil ?_
            refine then_n ?_
            refine swp_ret ?_
            refine then_r ?_
            refine done_ret [ro μ] (.tmp rfl .nil) ⟨congrArg (Value.int .i64) ?_, rfl⟩ (by repeat (first | exact Split.nil | (apply Split.cons; (repeat (first | with_reducible exact Take.here | apply Take.there)))))
            unfold askE
            rw [hln]
            simp only [Bool.not_eq_true', Bool.not_eq_false', decide_eq_true_eq, decide_eq_false_iff_not, reduceCtorEq] at * <;> (split <;> (try split) <;> omega)
          · skip   -- 27 F
            refine swp_skip ?_
            refine then_n ?_
            refine swp_seq ?_
            refine swp_region ?_
            refine s_pu (pu_assign rfl) ?_
            refine swl_sub _ (.cons (t := 6) rfl .nil) ?_
            refine swl_nil ?_
            refine then_n ?_
            refine swp_ret ?_
            refine done_ret [ro μ] (.tmp rfl .nil) ⟨congrArg (Value.int .i64) ?_, rfl⟩ (by repeat (first | exact Split.nil | (apply Split.cons; (repeat (first | with_reducible exact Take.here | apply Take.there)))))
            unfold askE
            rw [hln]
            simp only [Bool.not_eq_true', Bool.not_eq_false', decide_eq_true_eq, decide_eq_false_iff_not, reduceCtorEq] at * <;> (split <;> (try split) <;> omega)
      · skip   -- 18 F
        refine s_on rfl rfl ?_
        refine s_pu (pu_move rfl) ?_
        refine s_on rfl rfl ?_
        refine s_pu (pu_lss rfl rfl) ?_
        first | refine s_pu (pu_pick_t rfl rfl) ?_ | refine s_pu (pu_pick_f rfl rfl) ?_
        refine s_pu (pu_move rfl) ?_
        refine s_split 22 rfl (fun h22 => ?_) (fun h22 => ?_)
        · skip   -- 22 T
          refine s_off rfl rfl rfl ?_
          refine s_off rfl rfl rfl ?_
          refine s_off rfl rfl rfl ?_
          refine s_off rfl rfl rfl ?_
          first | refine s_pu (pu_pick_t rfl rfl) ?_ | refine s_pu (pu_pick_f rfl rfl) ?_
          refine swl_sub _ (.cons (t := 27) rfl .nil) ?_
          refine swl_nil ?_
          refine then_n ?_
          refine swp_cond (b := _) rfl (fun h27 => ?_) (fun h27 => ?_)
          · skip   -- 27 T
            refine swp_seq ?_
            refine swp_region ?_
            refine s_pu (pu_assign rfl) ?_
            refine swl_sub _ (.cons (t := 6) rfl .nil) ?_
            refine swl_nil ?_
            refine then_n ?_
            refine swp_ret ?_
            refine then_r ?_
            refine done_ret [ro μ] (.tmp rfl .nil) ⟨congrArg (Value.int .i64) ?_, rfl⟩ (by repeat (first | exact Split.nil | (apply Split.cons; (repeat (first | with_reducible exact Take.here | apply Take.there)))))
            unfold askE
            rw [hln]
            simp only [Bool.not_eq_true', Bool.not_eq_false', decide_eq_true_eq, decide_eq_false_iff_not, reduceCtorEq] at * <;> (split <;> (try split) <;> omega)
          · skip   -- 27 F
            refine swp_skip ?_
            refine then_n ?_
            refine swp_seq ?_
            refine swp_region ?_
            refine s_pu (pu_assign rfl) ?_
            refine swl_sub _ (.cons (t := 6) rfl .nil) ?_
            refine swl_nil ?_
            refine then_n ?_
            refine swp_ret ?_
            refine done_ret [ro μ] (.tmp rfl .nil) ⟨congrArg (Value.int .i64) ?_, rfl⟩ (by repeat (first | exact Split.nil | (apply Split.cons; (repeat (first | with_reducible exact Take.here | apply Take.there)))))
            unfold askE
            rw [hln]
            simp only [Bool.not_eq_true', Bool.not_eq_false', decide_eq_true_eq, decide_eq_false_iff_not, reduceCtorEq] at * <;> (split <;> (try split) <;> omega)
        · skip   -- 22 F
          refine s_on rfl rfl ?_
          refine s_pu (pu_move rfl) ?_
          refine s_on rfl rfl ?_
          refine s_pu (pu_move rfl) ?_
          refine s_on rfl rfl ?_
          refine s_pu (pu_len_row hG.1 rfl) ?_
          refine s_on rfl rfl ?_
          refine s_pu (pu_geq rfl rfl) ?_
          first | refine s_pu (pu_pick_t rfl rfl) ?_ | refine s_pu (pu_pick_f rfl rfl) ?_
          refine swl_sub _ (.cons (t := 27) rfl .nil) ?_
          refine swl_nil ?_
          refine then_n ?_
          refine swp_cond (b := _) rfl (fun h27 => ?_) (fun h27 => ?_)
          · skip   -- 27 T
            refine swp_seq ?_
            refine swp_region ?_
            refine s_pu (pu_assign rfl) ?_
            refine swl_sub _ (.cons (t := 6) rfl .nil) ?_
            refine swl_nil ?_
            refine then_n ?_
            refine swp_ret ?_
            refine then_r ?_
            refine done_ret [ro μ] (.tmp rfl .nil) ⟨congrArg (Value.int .i64) ?_, rfl⟩ (by repeat (first | exact Split.nil | (apply Split.cons; (repeat (first | with_reducible exact Take.here | apply Take.there)))))
            unfold askE
            rw [hln]
            simp only [Bool.not_eq_true', Bool.not_eq_false', decide_eq_true_eq, decide_eq_false_iff_not, reduceCtorEq] at * <;> (split <;> (try split) <;> omega)
          · skip   -- 27 F
            refine swp_skip ?_
            refine then_n ?_
            refine swp_seq ?_
            refine swp_region ?_
            refine s_pu (pu_assign rfl) ?_
            refine swl_sub _ (.cons (t := 6) rfl .nil) ?_
            refine swl_nil ?_
            refine then_n ?_
            refine swp_ret ?_
            refine done_ret [ro μ] (.tmp rfl .nil) ⟨congrArg (Value.int .i64) ?_, rfl⟩ (by repeat (first | exact Split.nil | (apply Split.cons; (repeat (first | with_reducible exact Take.here | apply Take.there)))))
            unfold askE
            rw [hln]
            simp only [Bool.not_eq_true', Bool.not_eq_false', decide_eq_true_eq, decide_eq_false_iff_not, reduceCtorEq] at * <;> (split <;> (try split) <;> omega)
end SX
namespace SX
open Go Go.Proofs

theorem askE_ok {g : List (List Int)} {a b : Int} (h : askE g a b = 0) : Good g ∧ ∃ i j : Nat, a = i ∧ b = j ∧ i < g.length ∧ j < g.length := by
  unfold askE at h
  split at h
  · cases h
  · rename_i h1
    split at h
    · cases h
    · rename_i h2
      exact ⟨chk_good (by simpa using h1), a.toNat, b.toNat, by omega, by omega, by omega, by omega⟩
/-- an answer: a list of the answer's own, and the error -/
def Ans (μ : PH) (E : Int) (l : List Int) (r : Value) (L : List Assn) : Prop := ∃ lv, r = .tuple #[lv, .int .i64 E] ∧ L = [own 3 1 lv l.length (l.flatMap (icsk .i64)), ro μ]
def ancL (g : List (List Int)) (a : Int) : List Int := if askE g a a = 0 then elsTo g.length (up g a.toNat) else []
def comL (g : List (List Int)) (a b : Int) : List Int := if askE g a b = 0 then elsTo g.length (fun j => up g a.toNat j && up g b.toNat j) else []
def onlL (g : List (List Int)) (a b : Int) : List Int := if askE g a b = 0 then elsTo g.length (fun j => up g a.toNat j && !up g b.toNat j) else []

theorem ranc_spec (μ : PH) (v : Value) (G : List (Value × List Int)) (a : Int) (hG : Graph μ v G) (hbig : G.length ≤ 1099511627776) : Spec Tryd.prog 71 [v, .int .i64 a] [ro μ] (Ans μ (askE (nums G) a a) (ancL (nums G) a)) := by
  have hln : (nums G).length = G.length := List.length_map _
  refine Spec.of 18 Tryd.func71 rfl rfl rfl ?_
  refine swp_seq ?_
  refine swp_region ?_
  refine s_pu (pu_assign rfl) ?_
  refine s_pu (pu_assign rfl) ?_
  refine swl_sub _ (.cons (t := 0) rfl (.cons (t := 1) rfl .nil)) ?_
  refine swl_nil ?_
  refine then_n ?_
  refine swp_seq ?_
  refine swp_region ?_
  refine s_pu (pu_move rfl) ?_
  refine s_pu (pu_move rfl) ?_
  refine s_pu (pu_move rfl) ?_
  refine s_ef (ef_fn (rask_spec μ v G a a hG hbig) rfl rfl (by repeat (first | exact Split.nil | (apply Split.cons; (repeat (first | with_reducible exact Take.here | apply Take.there)))))) ?_
  rintro v1 L1 ⟨rfl, rfl⟩
  refine swl_app ?_
  refine s_pu (pu_assign rfl) ?_
  refine swl_sub _ (.cons (t := 0) rfl (.cons (t := 1) rfl (.cons (t := 6) rfl .nil))) ?_
  refine swl_nil ?_
  refine then_n ?_
  refine swp_seq ?_
  refine swp_seq ?_
  refine swp_region ?_
  refine s_pu (pu_move rfl) ?_
  refine s_pu (pu_neq rfl rfl) ?_
  refine swl_sub _ (.cons (t := 0) rfl (.cons (t := 1) rfl (.cons (t := 6) rfl (.cons (t := 12) rfl .nil)))) ?_
  refine swl_nil ?_
  refine then_n ?_
  refine swp_cond (b := _) rfl (fun h12 => ?_) (fun h12 => ?_)
  · skip   -- 12 T
    refine swp_seq ?_
    refine swp_region ?_
    refine s_pu (pu_move rfl) ?_
    refine s_pu (pu_assign rfl) ?_
    refine s_pu (pu_assign rfl) ?_
    refine swl_sub _ (.cons (t := 4) rfl (.cons (t := 5) rfl .nil)) ?_
    refine swl_nil ?_
    refine then_n ?_
    refine swp_ret ?_
    refine then_r ?_
    have h0 : ¬ askE (nums G) a a = 0 := by simpa using h12
    refine done_retE (own 3 1 (.slice none 0 0) 0 [] :: [ro μ]) (.tmp rfl (.tmp rfl .nil)) ⟨.slice none 0 0, rfl, by unfold ancL; rw [if_neg h0]; rfl⟩ own_nil_ent
  · skip   -- 12 F
    have h0 : askE (nums G) a a = 0 := by simpa using h12
    obtain ⟨hg, i, -, rfl, -, hi, -⟩ := askE_ok h0
    rw [hln] at hi
    refine swp_skip ?_
    refine then_n ?_
    refine swp_seq ?_
    refine swp_region ?_
    refine s_pu (pu_move rfl) ?_
    refine s_pu (pu_move rfl) ?_
    refine s_ef (ef_fn (rup_spec μ v G i hG hbig hg hi) rfl rfl (by repeat (first | exact Split.nil | (apply Split.cons; (repeat (first | with_reducible exact Take.here | apply Take.there)))))) ?_
    rintro v1 L1 ⟨b, rfl, rfl⟩
    refine swl_app ?_
    refine s_ef (ef_fn (rlistb_spec b G.length _ hbig) rfl rfl (by repeat (first | exact Split.nil | (apply Split.cons; (repeat (first | with_reducible exact Take.here | apply Take.there)))))) ?_
    rintro v2 L1 rfl
    refine swl_app ?_
    refine s_pu (pu_assign rfl) ?_
    refine s_pu (pu_assign rfl) ?_
    refine swl_sub _ (.cons (t := 4) rfl (.cons (t := 5) rfl .nil)) ?_
    refine swl_nil ?_
    refine then_n ?_
    refine swp_ret ?_
    refine done_ret [own 3 1 v2 (elsTo G.length (up (nums G) i)).length ((elsTo G.length (up (nums G) i)).flatMap (icsk .i64)), ro μ] (.tmp rfl (.tmp rfl .nil)) ⟨v2, by rw [h0]; rfl, by unfold ancL; rw [if_pos h0, hln, Int.toNat_natCast]⟩ (by repeat (first | exact Split.nil | (apply Split.cons; (repeat (first | with_reducible exact Take.here | apply Take.there)))))
theorem rreach_spec (μ : PH) (v : Value) (G : List (Value × List Int)) (a b : Int) (hG : Graph μ v G) (hbig : G.length ≤ 1099511627776) : Spec Tryd.prog 79 [v, .int .i64 a, .int .i64 b] [ro μ]
    (fun r L => r = .tuple #[.bool (decide (askE (nums G) a b = 0) && up (nums G) a.toNat b.toNat), .int .i64 (askE (nums G) a b)] ∧ L = [ro μ]) := by
  have hln : (nums G).length = G.length := List.length_map _
  refine Spec.of 22 Tryd.func79 rfl rfl rfl ?_
  refine swp_seq ?_
  refine swp_region ?_
  refine s_pu (pu_assign rfl) ?_
  refine s_pu (pu_assign rfl) ?_
  refine swl_sub _ (.cons (t := 0) rfl (.cons (t := 1) rfl (.cons (t := 2) rfl .nil))) ?_
  refine swl_nil ?_
  refine then_n ?_
  refine swp_seq ?_
  refine swp_region ?_
  refine s_pu (pu_move rfl) ?_
  refine s_pu (pu_move rfl) ?_
  refine s_pu (pu_move rfl) ?_
  refine s_ef (ef_fn (rask_spec μ v G a b hG hbig) rfl rfl (by repeat (first | exact Split.nil | (apply Split.cons; (repeat (first | with_reducible exact Take.here | apply Take.there)))))) ?_
  rintro v1 L1 ⟨rfl, rfl⟩
  refine swl_app ?_
  refine s_pu (pu_assign rfl) ?_
  refine swl_sub _ (.cons (t := 0) rfl (.cons (t := 1) rfl (.cons (t := 2) rfl (.cons (t := 8) rfl .nil)))) ?_
  refine swl_nil ?_
  refine then_n ?_
  refine swp_seq ?_
  refine swp_seq ?_
  refine swp_region ?_
  refine s_pu (pu_move rfl) ?_
  refine s_pu (pu_neq rfl rfl) ?_
  refine swl_sub _ (.cons (t := 0) rfl (.cons (t := 1) rfl (.cons (t := 2) rfl (.cons (t := 8) rfl (.cons (t := 14) rfl .nil))))) ?_
  refine swl_nil ?_
  refine then_n ?_
  refine swp_cond (b := _) rfl (fun h14 => ?_) (fun h14 => ?_)
  · skip   -- 14 T
    refine swp_seq ?_
    refine swp_region ?_
    refine s_pu (pu_move rfl) ?_
    refine s_pu (pu_assign rfl) ?_
    refine s_pu (pu_assign rfl) ?_
    refine swl_sub _ (.cons (t := 6) rfl (.cons (t := 7) rfl .nil)) ?_
    refine swl_nil ?_
    refine then_n ?_
    refine swp_ret ?_
    refine then_r ?_
    have h0 : ¬ askE (nums G) a b = 0 := by simpa using h14
    exact done_ret [ro μ] (.tmp rfl (.tmp rfl .nil)) ⟨by rw [decide_eq_false h0]; rfl, rfl⟩ (by repeat (first | exact Split.nil | (apply Split.cons; (repeat (first | with_reducible exact Take.here | apply Take.there)))))
  · skip   -- 14 F
    have h0 : askE (nums G) a b = 0 := by simpa using h14
    obtain ⟨hg, i, j, rfl, rfl, hi, hj⟩ := askE_ok h0
    rw [hln] at hi hj
    refine swp_skip ?_
    refine then_n ?_
    refine swp_seq ?_
    refine swp_region ?_
    refine s_pu (pu_move rfl) ?_
    refine s_pu (pu_move rfl) ?_
    refine s_ef (ef_fn (rup_spec μ v G i hG hbig hg hi) rfl rfl (by repeat (first | exact Split.nil | (apply Split.cons; (repeat (first | with_reducible exact Take.here | apply Take.there)))))) ?_
    rintro v1 L1 ⟨b, rfl, rfl⟩
    refine swl_app ?_
    refine s_pu (pu_move rfl) ?_
    refine s_pu (pu_indexAddr j rfl rfl (by omega) (by omega) (by omega)) ?_
    refine s_rd (rd_load rfl (rbs_get _ hj)) ?_
    refine s_pu (pu_assign rfl) ?_
    refine s_pu (pu_assign rfl) ?_
    refine swl_sub _ (.cons (t := 6) rfl (.cons (t := 7) rfl .nil)) ?_
    refine swl_nil ?_
    refine then_n ?_
    refine swp_ret ?_
    exact done_ret [ro μ] (.tmp rfl (.tmp rfl .nil)) ⟨by rw [h0, decide_eq_true rfl, Bool.true_and, Int.toNat_natCast, Int.toNat_natCast]; rfl, rfl⟩ (by repeat (first | exact Split.nil | (apply Split.cons; (repeat (first | with_reducible exact Take.here | apply Take.there)))))
/-- a loop that turns one row of bools by another -/
def both2 (f : Bool → Bool → Bool) (S T : Nat → Bool) (i j : Nat) : Bool := if j < i then f (S j) (T j) else S j
theorem both2_set {f : Bool → Bool → Bool} {S T : Nat → Bool} {n i : Nat} {c : Bool} (h : c = f (S i) (T i)) : (rbs n (both2 f S T i)).set i (.bool c) = rbs n (both2 f S T (i + 1)) := rbs_set fun j _ => by
  unfold both2
  by_cases e : j = i
  · subst e; rw [if_pos (by omega), if_pos rfl, h]
  · rw [if_neg e]
    by_cases h1 : j < i
    · rw [if_pos (by omega), if_pos h1]
    · rw [if_neg (by omega), if_neg h1]
theorem both2_get {f : Bool → Bool → Bool} {S T : Nat → Bool} {n i : Nat} (h : i < n) : (rbs n (both2 f S T i))[i]? = some (.bool (S i)) := by rw [rbs_get _ h]; unfold both2; rw [if_neg (by omega)]
theorem rboth_spec (μ : PH) (v : Value) (G : List (Value × List Int)) (a b : Nat) (hG : Graph μ v G) (hbig : G.length ≤ 1099511627776) (hg : Good (nums G)) (ha : a < G.length) (hb : b < G.length) : Spec Tryd.prog 87 [v, .int .i64 (a : Nat), .int .i64 (b : Nat)] [ro μ]
    (fun r L => ∃ c, r = .slice (some ⟨c, 0, none⟩) G.length G.length ∧ L = [blk c 4 (rbs G.length (fun j => up (nums G) a j && up (nums G) b j)), ro μ]) := by
  refine Spec.of 36 Tryd.func87 rfl rfl rfl ?_
  refine swp_seq ?_
  refine swp_region ?_
  refine s_pu (pu_assign rfl) ?_
  refine swl_sub _ (.cons (t := 0) rfl (.cons (t := 1) rfl (.cons (t := 2) rfl .nil))) ?_
  refine swl_nil ?_
  refine then_n ?_
  refine swp_seq ?_
  refine swp_region ?_
  refine s_pu (pu_move rfl) ?_
  refine s_pu (pu_move rfl) ?_
  refine s_ef (ef_fn (rup_spec μ v G a hG hbig hg ha) rfl rfl (by repeat (first | exact Split.nil | (apply Split.cons; (repeat (first | with_reducible exact Take.here | apply Take.there)))))) ?_
  rintro v1 L1 ⟨ba, rfl, rfl⟩
  refine swl_app ?_
  refine s_pu (pu_assign rfl) ?_
  refine swl_sub _ (.cons (t := 0) rfl (.cons (t := 2) rfl (.cons (t := 7) rfl .nil))) ?_
  refine swl_nil ?_
  refine then_n ?_
  refine swp_seq ?_
  refine swp_region ?_
  refine s_pu (pu_move rfl) ?_
  refine s_pu (pu_move rfl) ?_
  refine s_ef (ef_fn (rup_spec μ v G b hG hbig hg hb) rfl rfl (by repeat (first | exact Split.nil | (apply Split.cons; (repeat (first | with_reducible exact Take.here | apply Take.there)))))) ?_
  rintro v1 L1 ⟨bb, rfl, rfl⟩
  refine swl_app ?_
  refine s_pu (pu_assign rfl) ?_
  refine swl_sub _ (.cons (t := 7) rfl (.cons (t := 8) rfl .nil)) ?_
  refine swl_nil ?_
  refine then_n ?_
  refine swp_seq ?_
  refine swp_seq ?_
  refine swp_region ?_
  refine s_pu (pu_assign rfl) ?_
  refine swl_sub _ (.cons (t := 7) rfl (.cons (t := 8) rfl (.cons (t := 9) rfl .nil))) ?_
  refine swl_ent (Split.ent' (K := [blk ba 4 (rbs G.length (up (nums G) a)), blk bb 4 (rbs G.length (up (nums G) b)), ro μ]) (by repeat (first | exact Split.nil | (apply Split.cons; (repeat (first | with_reducible exact Take.here | apply Take.there)))))) ?_
  refine swl_nil ?_
  refine then_n ?_
  refine swp_block ?_
  have e0 : rbs G.length (up (nums G) a) = rbs G.length (both2 and (up (nums G) a) (up (nums G) b) 0) := rbs_ext fun j _ => by unfold both2; rw [if_neg (by omega)]
  rw [e0]
  refine swp_loop (ι := Nat) (fun i env L => env = [(7, .slice (some ⟨ba, 0, none⟩) G.length G.length), (8, .slice (some ⟨bb, 0, none⟩) G.length G.length), (9, .int .i64 (i : Nat))] ∧ L = [blk ba 4 (rbs G.length (both2 and (up (nums G) a) (up (nums G) b) i)), blk bb 4 (rbs G.length (up (nums G) b)), ro μ] ∧ i ≤ G.length) (fun i => G.length - i) 0 ⟨rfl, rfl, Nat.zero_le _⟩ ?_
  rintro i env L ⟨rfl, rfl, hi⟩
  refine swp_seq ?_
  refine swp_seq ?_
  refine swp_region ?_
  refine s_pu (pu_move rfl) ?_
  refine s_pu (pu_move rfl) ?_
  refine s_pu (pu_len rfl) ?_
  refine s_pu (pu_lss rfl rfl) ?_
  refine swl_sub _ (.cons (t := 7) rfl (.cons (t := 8) rfl (.cons (t := 9) rfl (.cons (t := 19) rfl .nil)))) ?_
  refine swl_nil ?_
  refine then_n ?_
  refine swp_cond (b := _) rfl (fun h19 => ?_) (fun h19 => ?_)
  · skip   -- 19 T
    have h19' : i < G.length := by have := of_decide_eq_true h19; omega
    refine swp_skip ?_
    refine then_n ?_
    refine swp_seq ?_
    refine swp_block ?_
    refine swp_region ?_
    refine s_pu (pu_move rfl) ?_
    refine s_pu (pu_move rfl) ?_
    refine s_pu (pu_move rfl) ?_
    refine s_pu (pu_move rfl) ?_
    refine s_pu (pu_indexAddr i rfl rfl (by omega) (by omega) (by omega)) ?_
    refine s_rd (rd_load rfl (both2_get h19')) ?_
    refine s_pu (pu_move rfl) ?_
    refine s_split 28 rfl (fun h28 => ?_) (fun h28 => ?_)
    · skip   -- 28 T
      refine s_on rfl rfl ?_
      refine s_pu (pu_move rfl) ?_
      refine s_on rfl rfl ?_
      refine s_pu (pu_move rfl) ?_
      refine s_on rfl rfl ?_
      refine s_pu (pu_indexAddr i rfl rfl (by omega) (by omega) (by omega)) ?_
      refine s_on rfl rfl ?_
      refine s_rd (rd_load rfl (rbs_get _ h19')) ?_
      first | refine s_pu (pu_pick_t rfl rfl) ?_ | refine s_pu (pu_pick_f rfl rfl) ?_
      refine s_pu (pu_indexAddr i rfl rfl (by omega) (by omega) (by omega)) ?_
      refine s_ef0 (ef_storeP rfl rfl rfl (by rw [rbs_len]; omega)) ?_
      refine swl_sub _ (.cons (t := 7) rfl (.cons (t := 8) rfl (.cons (t := 9) rfl .nil))) ?_
      rw [both2_set (T := up (nums G) b) (f := and) (S := up (nums G) a) (i := i) (by rw [h28]; rfl)]
      refine swl_nil ?_
      refine block_n ?_
      refine then_n ?_
      refine swp_region ?_
      refine s_pu (pu_move rfl) ?_
      refine s_pu (pu_add_as ((i + 1 : Nat) : Int) rfl rfl (by omega) (by omega) (by omega)) ?_
      refine s_pu (pu_assign rfl) ?_
      refine swl_sub _ (.cons (t := 7) rfl (.cons (t := 8) rfl (.cons (t := 9) rfl .nil))) ?_
      refine swl_nil ?_
      exact then_n ⟨i + 1, ⟨rfl, rfl, h19'⟩, by omega⟩
    · skip   -- 28 F
      refine s_off rfl rfl rfl ?_
      refine s_off rfl rfl rfl ?_
      refine s_off rfl rfl rfl ?_
      refine s_off rfl rfl rfl ?_
      first | refine s_pu (pu_pick_t rfl rfl) ?_ | refine s_pu (pu_pick_f rfl rfl) ?_
      refine s_pu (pu_indexAddr i rfl rfl (by omega) (by omega) (by omega)) ?_
      refine s_ef0 (ef_storeP rfl rfl rfl (by rw [rbs_len]; omega)) ?_
      refine swl_sub _ (.cons (t := 7) rfl (.cons (t := 8) rfl (.cons (t := 9) rfl .nil))) ?_
      rw [both2_set (T := up (nums G) b) (f := and) (S := up (nums G) a) (i := i) (by rw [h28]; rfl)]
      refine swl_nil ?_
      refine block_n ?_
      refine then_n ?_
      refine swp_region ?_
      refine s_pu (pu_move rfl) ?_
      refine s_pu (pu_add_as ((i + 1 : Nat) : Int) rfl rfl (by omega) (by omega) (by omega)) ?_
      refine s_pu (pu_assign rfl) ?_
      refine swl_sub _ (.cons (t := 7) rfl (.cons (t := 8) rfl (.cons (t := 9) rfl .nil))) ?_
      refine swl_nil ?_
      exact then_n ⟨i + 1, ⟨rfl, rfl, h19'⟩, by omega⟩
  · skip   -- 19 F
    refine swp_exit ?_
    refine then_x ?_
    refine then_x ?_
    refine block_hit rfl ?_
    refine then_n ?_
    refine swp_seq ?_
    refine swp_region ?_
    refine s_pu (pu_move rfl) ?_
    refine s_pu (pu_assign rfl) ?_
    refine swl_sub _ (.cons (t := 6) rfl .nil) ?_
    refine swl_nil ?_
    refine then_n ?_
    refine swp_ret ?_
    have h19' := of_decide_eq_false h19
    obtain rfl : i = G.length := by omega
    have e1 : rbs G.length (both2 and (up (nums G) a) (up (nums G) b) G.length) = rbs G.length (fun j => up (nums G) a j && up (nums G) b j) := rbs_ext fun j hj => by unfold both2; rw [if_pos hj]
    rw [e1]
    exact done_ret [blk ba 4 (rbs G.length (fun j => up (nums G) a j && up (nums G) b j)), ro μ] (.tmp rfl .nil) ⟨ba, rfl, rfl⟩ (by repeat (first | exact Split.nil | (apply Split.cons; (repeat (first | with_reducible exact Take.here | apply Take.there)))))
theorem rcom_spec (μ : PH) (v : Value) (G : List (Value × List Int)) (a b : Int) (hG : Graph μ v G) (hbig : G.length ≤ 1099511627776) : Spec Tryd.prog 73 [v, .int .i64 a, .int .i64 b] [ro μ] (Ans μ (askE (nums G) a b) (comL (nums G) a b)) := by
  have hln : (nums G).length = G.length := List.length_map _
  refine Spec.of 21 Tryd.func73 rfl rfl rfl ?_
  refine swp_seq ?_
  refine swp_region ?_
  refine s_pu (pu_assign rfl) ?_
  refine s_pu (pu_assign rfl) ?_
  refine swl_sub _ (.cons (t := 0) rfl (.cons (t := 1) rfl (.cons (t := 2) rfl .nil))) ?_
  refine swl_nil ?_
  refine then_n ?_
  refine swp_seq ?_
  refine swp_region ?_
  refine s_pu (pu_move rfl) ?_
  refine s_pu (pu_move rfl) ?_
  refine s_pu (pu_move rfl) ?_
  refine s_ef (ef_fn (rask_spec μ v G a b hG hbig) rfl rfl (by repeat (first | exact Split.nil | (apply Split.cons; (repeat (first | with_reducible exact Take.here | apply Take.there)))))) ?_
  rintro v1 L1 ⟨rfl, rfl⟩
  refine swl_app ?_
  refine s_pu (pu_assign rfl) ?_
  refine swl_sub _ (.cons (t := 0) rfl (.cons (t := 1) rfl (.cons (t := 2) rfl (.cons (t := 8) rfl .nil)))) ?_
  refine swl_nil ?_
  refine then_n ?_
  refine swp_seq ?_
  refine swp_seq ?_
  refine swp_region ?_
  refine s_pu (pu_move rfl) ?_
  refine s_pu (pu_neq rfl rfl) ?_
  refine swl_sub _ (.cons (t := 0) rfl (.cons (t := 1) rfl (.cons (t := 2) rfl (.cons (t := 8) rfl (.cons (t := 14) rfl .nil))))) ?_
  refine swl_nil ?_
  refine then_n ?_
  refine swp_cond (b := _) rfl (fun h14 => ?_) (fun h14 => ?_)
  · skip   -- 14 T
    refine swp_seq ?_
    refine swp_region ?_
    refine s_pu (pu_move rfl) ?_
    refine s_pu (pu_assign rfl) ?_
    refine s_pu (pu_assign rfl) ?_
    refine swl_sub _ (.cons (t := 6) rfl (.cons (t := 7) rfl .nil)) ?_
    refine swl_nil ?_
    refine then_n ?_
    refine swp_ret ?_
    refine then_r ?_
    have h0 : ¬ askE (nums G) a b = 0 := by simpa using h14
    refine done_retE (own 3 1 (.slice none 0 0) 0 [] :: [ro μ]) (.tmp rfl (.tmp rfl .nil)) ⟨.slice none 0 0, rfl, by unfold comL; rw [if_neg h0]; rfl⟩ own_nil_ent
  · skip   -- 14 F
    have h0 : askE (nums G) a b = 0 := by simpa using h14
    obtain ⟨hg, i, j, rfl, rfl, hi, hj⟩ := askE_ok h0
    rw [hln] at hi hj
    refine swp_skip ?_
    refine then_n ?_
    refine swp_seq ?_
    refine swp_region ?_
    refine s_pu (pu_move rfl) ?_
    refine s_pu (pu_move rfl) ?_
    refine s_pu (pu_move rfl) ?_
    refine s_ef (ef_fn (rboth_spec μ v G i j hG hbig hg hi hj) rfl rfl (by repeat (first | exact Split.nil | (apply Split.cons; (repeat (first | with_reducible exact Take.here | apply Take.there)))))) ?_
    rintro v1 L1 ⟨b, rfl, rfl⟩
    refine swl_app ?_
    refine s_ef (ef_fn (rlistb_spec b G.length _ hbig) rfl rfl (by repeat (first | exact Split.nil | (apply Split.cons; (repeat (first | with_reducible exact Take.here | apply Take.there)))))) ?_
    rintro v2 L1 rfl
    refine swl_app ?_
    refine s_pu (pu_assign rfl) ?_
    refine s_pu (pu_assign rfl) ?_
    refine swl_sub _ (.cons (t := 6) rfl (.cons (t := 7) rfl .nil)) ?_
    refine swl_nil ?_
    refine then_n ?_
    refine swp_ret ?_
    refine done_ret [own 3 1 v2 (elsTo G.length (fun k => up (nums G) i k && up (nums G) j k)).length ((elsTo G.length (fun k => up (nums G) i k && up (nums G) j k)).flatMap (icsk .i64)), ro μ] (.tmp rfl (.tmp rfl .nil)) ⟨v2, by rw [h0]; rfl, by unfold comL; rw [if_pos h0, hln, Int.toNat_natCast, Int.toNat_natCast]⟩ (by repeat (first | exact Split.nil | (apply Split.cons; (repeat (first | with_reducible exact Take.here | apply Take.there)))))
theorem ronly_spec (μ : PH) (v : Value) (G : List (Value × List Int)) (a b : Int) (hG : Graph μ v G) (hbig : G.length ≤ 1099511627776) : Spec Tryd.prog 75 [v, .int .i64 a, .int .i64 b] [ro μ] (Ans μ (askE (nums G) a b) (onlL (nums G) a b)) := by
  have hln : (nums G).length = G.length := List.length_map _
  refine Spec.of 47 Tryd.func75 rfl rfl rfl ?_
  refine swp_seq ?_
  refine swp_region ?_
  refine s_pu (pu_assign rfl) ?_
  refine s_pu (pu_assign rfl) ?_
  refine swl_sub _ (.cons (t := 0) rfl (.cons (t := 1) rfl (.cons (t := 2) rfl .nil))) ?_
  refine swl_nil ?_
  refine then_n ?_
  refine swp_seq ?_
  refine swp_region ?_
  refine s_pu (pu_move rfl) ?_
  refine s_pu (pu_move rfl) ?_
  refine s_pu (pu_move rfl) ?_
  refine s_ef (ef_fn (rask_spec μ v G a b hG hbig) rfl rfl (by repeat (first | exact Split.nil | (apply Split.cons; (repeat (first | with_reducible exact Take.here | apply Take.there)))))) ?_
  rintro v1 L1 ⟨rfl, rfl⟩
  refine swl_app ?_
  refine s_pu (pu_assign rfl) ?_
  refine swl_sub _ (.cons (t := 0) rfl (.cons (t := 1) rfl (.cons (t := 2) rfl (.cons (t := 8) rfl .nil)))) ?_
  refine swl_nil ?_
  refine then_n ?_
  refine swp_seq ?_
  refine swp_seq ?_
  refine swp_region ?_
  refine s_pu (pu_move rfl) ?_
  refine s_pu (pu_neq rfl rfl) ?_
  refine swl_sub _ (.cons (t := 0) rfl (.cons (t := 1) rfl (.cons (t := 2) rfl (.cons (t := 8) rfl (.cons (t := 17) rfl .nil))))) ?_
  refine swl_nil ?_
  refine then_n ?_
  refine swp_cond (b := _) rfl (fun h17 => ?_) (fun h17 => ?_)
  · skip   -- 17 T
    refine swp_seq ?_
    refine swp_region ?_
    refine s_pu (pu_move rfl) ?_
    refine s_pu (pu_assign rfl) ?_
    refine s_pu (pu_assign rfl) ?_
    refine swl_sub _ (.cons (t := 6) rfl (.cons (t := 7) rfl .nil)) ?_
    refine swl_nil ?_
    refine then_n ?_
    refine swp_ret ?_
    refine then_r ?_
    have h0 : ¬ askE (nums G) a b = 0 := by simpa using h17
    refine done_retE (own 3 1 (.slice none 0 0) 0 [] :: [ro μ]) (.tmp rfl (.tmp rfl .nil)) ⟨.slice none 0 0, rfl, by unfold onlL; rw [if_neg h0]; rfl⟩ own_nil_ent
  · skip   -- 17 F
    have h0 : askE (nums G) a b = 0 := by simpa using h17
    obtain ⟨hg, ia, ib, rfl, rfl, ha, hb⟩ := askE_ok h0
    rw [hln] at ha hb
    refine swp_skip ?_
    refine then_n ?_
    refine swp_seq ?_
    refine swp_region ?_
    refine s_pu (pu_move rfl) ?_
    refine s_pu (pu_move rfl) ?_
    refine s_ef (ef_fn (rup_spec μ v G ia hG hbig hg ha) rfl rfl (by repeat (first | exact Split.nil | (apply Split.cons; (repeat (first | with_reducible exact Take.here | apply Take.there)))))) ?_
    rintro v1 L1 ⟨ba, rfl, rfl⟩
    refine swl_app ?_
    refine s_pu (pu_assign rfl) ?_
    refine swl_sub _ (.cons (t := 0) rfl (.cons (t := 2) rfl (.cons (t := 9) rfl .nil))) ?_
    refine swl_nil ?_
    refine then_n ?_
    refine swp_seq ?_
    refine swp_region ?_
    refine s_pu (pu_move rfl) ?_
    refine s_pu (pu_move rfl) ?_
    refine s_ef (ef_fn (rup_spec μ v G ib hG hbig hg hb) rfl rfl (by repeat (first | exact Split.nil | (apply Split.cons; (repeat (first | with_reducible exact Take.here | apply Take.there)))))) ?_
    rintro v1 L1 ⟨bb, rfl, rfl⟩
    refine swl_app ?_
    refine s_pu (pu_assign rfl) ?_
    refine swl_sub _ (.cons (t := 9) rfl (.cons (t := 10) rfl .nil)) ?_
    refine swl_nil ?_
    refine then_n ?_
    refine swp_seq ?_
    refine swp_seq ?_
    refine swp_region ?_
    refine s_pu (pu_assign rfl) ?_
    refine swl_sub _ (.cons (t := 9) rfl (.cons (t := 10) rfl (.cons (t := 11) rfl .nil))) ?_
    refine swl_ent (Split.ent' (K := [blk ba 4 (rbs G.length (up (nums G) ia)), blk bb 4 (rbs G.length (up (nums G) ib)), ro μ]) (by repeat (first | exact Split.nil | (apply Split.cons; (repeat (first | with_reducible exact Take.here | apply Take.there)))))) ?_
    refine swl_nil ?_
    refine then_n ?_
    refine swp_block ?_
    have e0 : rbs G.length (up (nums G) ia) = rbs G.length (both2 (fun x y => x && !y) (up (nums G) ia) (up (nums G) ib) 0) := rbs_ext fun j _ => by unfold both2; rw [if_neg (by omega)]
    rw [e0]
    refine swp_loop (ι := Nat) (fun i env L => env = [(9, .slice (some ⟨ba, 0, none⟩) G.length G.length), (10, .slice (some ⟨bb, 0, none⟩) G.length G.length), (11, .int .i64 (i : Nat))] ∧ L = [blk ba 4 (rbs G.length (both2 (fun x y => x && !y) (up (nums G) ia) (up (nums G) ib) i)), blk bb 4 (rbs G.length (up (nums G) ib)), ro μ] ∧ i ≤ G.length) (fun i => G.length - i) 0 ⟨rfl, rfl, Nat.zero_le _⟩ ?_
    rintro i env L ⟨rfl, rfl, hi⟩
    refine swp_seq ?_
    refine swp_seq ?_
    refine swp_region ?_
    refine s_pu (pu_move rfl) ?_
    refine s_pu (pu_move rfl) ?_
    refine s_pu (pu_len rfl) ?_
    refine s_pu (pu_lss rfl rfl) ?_
    refine swl_sub _ (.cons (t := 9) rfl (.cons (t := 10) rfl (.cons (t := 11) rfl (.cons (t := 28) rfl .nil)))) ?_
    refine swl_nil ?_
    refine then_n ?_
    refine swp_cond (b := _) rfl (fun h28 => ?_) (fun h28 => ?_)
    · skip   -- 28 T
      have h28' : i < G.length := by have := of_decide_eq_true h28; omega
      refine swp_skip ?_
      refine then_n ?_
      refine swp_seq ?_
      refine swp_block ?_
      refine swp_region ?_
      refine s_pu (pu_move rfl) ?_
      refine s_pu (pu_move rfl) ?_
      refine s_pu (pu_move rfl) ?_
      refine s_pu (pu_move rfl) ?_
      refine s_pu (pu_indexAddr i rfl rfl (by omega) (by omega) (by omega)) ?_
      refine s_rd (rd_load rfl (both2_get h28')) ?_
      refine s_pu (pu_move rfl) ?_
      refine s_split 37 rfl (fun h37 => ?_) (fun h37 => ?_)
      · skip   -- 37 T
        refine s_on rfl rfl ?_
        refine s_pu (pu_move rfl) ?_
        refine s_on rfl rfl ?_
        refine s_pu (pu_move rfl) ?_
        refine s_on rfl rfl ?_
        refine s_pu (pu_indexAddr i rfl rfl (by omega) (by omega) (by omega)) ?_
        refine s_on rfl rfl ?_
        refine s_rd (rd_load rfl (rbs_get _ h28')) ?_
        refine s_on rfl rfl ?_
        refine s_pu (pu_not rfl) ?_
        first | refine s_pu (pu_pick_t rfl rfl) ?_ | refine s_pu (pu_pick_f rfl rfl) ?_
        refine s_pu (pu_indexAddr i rfl rfl (by omega) (by omega) (by omega)) ?_
        refine s_ef0 (ef_storeP rfl rfl rfl (by rw [rbs_len]; omega)) ?_
        refine swl_sub _ (.cons (t := 9) rfl (.cons (t := 10) rfl (.cons (t := 11) rfl .nil))) ?_
        rw [both2_set (T := up (nums G) ib) (f := fun x y => x && !y) (S := up (nums G) ia) (i := i) (by rw [h37]; rfl)]
        refine swl_nil ?_
        refine block_n ?_
        refine then_n ?_
        refine swp_region ?_
        refine s_pu (pu_move rfl) ?_
        refine s_pu (pu_add_as ((i + 1 : Nat) : Int) rfl rfl (by omega) (by omega) (by omega)) ?_
        refine s_pu (pu_assign rfl) ?_
        refine swl_sub _ (.cons (t := 9) rfl (.cons (t := 10) rfl (.cons (t := 11) rfl .nil))) ?_
        refine swl_nil ?_
        exact then_n ⟨i + 1, ⟨rfl, rfl, h28'⟩, by omega⟩
      · skip   -- 37 F
        refine s_off rfl rfl rfl ?_
        refine s_off rfl rfl rfl ?_
        refine s_off rfl rfl rfl ?_
        refine s_off rfl rfl rfl ?_
        refine s_off rfl rfl rfl ?_
        first | refine s_pu (pu_pick_t rfl rfl) ?_ | refine s_pu (pu_pick_f rfl rfl) ?_
        refine s_pu (pu_indexAddr i rfl rfl (by omega) (by omega) (by omega)) ?_
        refine s_ef0 (ef_storeP rfl rfl rfl (by rw [rbs_len]; omega)) ?_
        refine swl_sub _ (.cons (t := 9) rfl (.cons (t := 10) rfl (.cons (t := 11) rfl .nil))) ?_
        rw [both2_set (T := up (nums G) ib) (f := fun x y => x && !y) (S := up (nums G) ia) (i := i) (by rw [h37]; rfl)]
        refine swl_nil ?_
        refine block_n ?_
        refine then_n ?_
        refine swp_region ?_
        refine s_pu (pu_move rfl) ?_
        refine s_pu (pu_add_as ((i + 1 : Nat) : Int) rfl rfl (by omega) (by omega) (by omega)) ?_
        refine s_pu (pu_assign rfl) ?_
        refine swl_sub _ (.cons (t := 9) rfl (.cons (t := 10) rfl (.cons (t := 11) rfl .nil))) ?_
        refine swl_nil ?_
        exact then_n ⟨i + 1, ⟨rfl, rfl, h28'⟩, by omega⟩
    · skip   -- 28 F
      have h28' := of_decide_eq_false h28
      obtain rfl : i = G.length := by omega
      have e1 : rbs G.length (both2 (fun x y => x && !y) (up (nums G) ia) (up (nums G) ib) G.length) = rbs G.length (fun j => up (nums G) ia j && !up (nums G) ib j) := rbs_ext fun j hj => by unfold both2; rw [if_pos hj]
      rw [e1]
      refine swp_exit ?_
      refine then_x ?_
      refine then_x ?_
      refine block_hit rfl ?_
      refine then_n ?_
      refine swp_seq ?_
      refine swp_region ?_
      refine s_pu (pu_move rfl) ?_
      refine s_ef (ef_fn (rlistb_spec ba G.length _ hbig) rfl rfl (by repeat (first | exact Split.nil | (apply Split.cons; (repeat (first | with_reducible exact Take.here | apply Take.there)))))) ?_
      rintro v2 L1 rfl
      refine swl_app ?_
      refine s_pu (pu_assign rfl) ?_
      refine s_pu (pu_assign rfl) ?_
      refine swl_sub _ (.cons (t := 6) rfl (.cons (t := 7) rfl .nil)) ?_
      refine swl_nil ?_
      refine then_n ?_
      refine swp_ret ?_
      refine done_ret [own 3 1 v2 (elsTo G.length (fun k => up (nums G) ia k && !up (nums G) ib k)).length ((elsTo G.length (fun k => up (nums G) ia k && !up (nums G) ib k)).flatMap (icsk .i64)), ro μ] (.tmp rfl (.tmp rfl .nil)) ⟨v2, by rw [h0]; rfl, by unfold onlL; rw [if_pos h0, hln, Int.toNat_natCast, Int.toNat_natCast]⟩ (by repeat (first | exact Split.nil | (apply Split.cons; (repeat (first | with_reducible exact Take.here | apply Take.there)))))
end SX
namespace SX
open Go Go.Proofs

/-- which of S are no parent of one of them -/
def bestT (g : List (List Int)) (S : Nat → Bool) (c : Nat) : Nat → Bool := fun j => S j && !((List.range c).any fun y => S y && decide ((j : Int) ∈ rowOf g y))
theorem bestT_succ (g : List (List Int)) (S : Nat → Bool) (c j : Nat) : bestT g S (c + 1) j = (bestT g S c j && !(S c && decide ((j : Int) ∈ rowOf g c))) := by
  unfold bestT
  rw [List.range_succ, List.any_append, List.any_cons, List.any_nil, Bool.or_false, Bool.not_or, Bool.and_assoc]
theorem graph_rows {μ : PH} {gb off cap : Nat} {G : List (Value × List Int)} (hG : Graph μ (.slice (some ⟨gb, off, none⟩) G.length cap) G) (hg : Good (nums G)) (hr : RowAt μ gb off (G.flatMap gcs)) :
    ∀ c : Nat, c < G.length → ∃ x, G[c]? = some x ∧ CellAt μ gb (off + c * 1) x.1 ∧ Row μ x.1 1 x.2.length (x.2.flatMap (icsk .i64)) ∧ rowOf (nums G) c = x.2 ∧ ∀ p ∈ x.2, 0 ≤ p ∧ p < c := fun c hc => by
  have hx : G[c]? = some G[c] := List.getElem?_eq_getElem hc
  have hn : (nums G)[c]? = some G[c].2 := by rw [List.getElem?_map, hx]; rfl
  exact ⟨G[c], hx, (hr.elem gcs_len hx).cell, hG.2 _ (List.mem_of_getElem? hx), rowOf_at hn, hg c _ hn⟩
theorem rbs_false (n : Nat) : List.replicate n (Value.bool false) = rbs n (fun _ => false) := by
  apply List.ext_getElem?
  intro j
  simp [rbs, List.getElem?_replicate]
  split <;> simp_all
theorem rbs_one (n : Nat) (S : Nat → Bool) : (rbs n S).all Value.oneCell' = true := by unfold rbs; simp [Value.oneCell']

set_option maxHeartbeats 1000000 in
theorem rbest_spec (μ : PH) (A : Option Addr) (cap b : Nat) (G : List (Value × List Int)) (S : Nat → Bool) (hG : Graph μ (.slice A G.length cap) G) (hbig : G.length ≤ 1099511627776) (hg : Good (nums G)) :
    Spec Tryd.prog 88 [.slice A G.length cap, .slice (some ⟨b, 0, none⟩) G.length G.length] [blk b 4 (rbs G.length S), ro μ]
    (fun r L => L = [own 3 1 r (elsTo G.length (bestT (nums G) S G.length)).length ((elsTo G.length (bestT (nums G) S G.length)).flatMap (icsk .i64)), ro μ]) := by
  refine Spec.of 44 Tryd.func88 rfl rfl rfl ?_
  refine swp_seq ?_
  refine swp_region ?_
  refine s_pu (pu_assign rfl) ?_
  refine swl_sub _ (.cons (t := 0) rfl (.cons (t := 1) rfl .nil)) ?_
  refine swl_nil ?_
  refine then_n ?_
  refine swp_seq ?_
  refine swp_region ?_
  refine s_pu (pu_move rfl) ?_
  refine s_pu (pu_len rfl) ?_
  refine s_ef (ef_make1 G.length rfl rfl rfl (by omega) (by simp only [maxLen]; omega)) ?_
  rintro b10
  skip
  refine s_pu (pu_assign rfl) ?_
  refine swl_sub _ (.cons (t := 0) rfl (.cons (t := 1) rfl (.cons (t := 5) rfl .nil))) ?_
  refine swl_nil ?_
  refine then_n ?_
  refine swp_seq ?_
  refine swp_region ?_
  refine s_pu (pu_move rfl) ?_
  refine s_pu (pu_move rfl) ?_
  refine s_ef (ef_copy (rbs G.length S) rfl rfl (by repeat (first | exact Split.nil | (apply Split.cons; (repeat (first | with_reducible exact Take.here | apply Take.there))))) (by rw [rbs_len, Nat.mul_one]; exact (Nat.min_self _).symm) (fun j u h => by rw [Nat.zero_add]; exact h) (rbs_one _ _) (by rw [rbs_len, List.length_replicate]; exact Nat.le_refl _)) ?_
  refine swl_sub _ (.cons (t := 0) rfl (.cons (t := 1) rfl (.cons (t := 5) rfl .nil))) ?_
  rw [List.drop_eq_nil_of_le (by rw [List.length_replicate, rbs_len]; exact Nat.le_refl _), List.append_nil]
  have e0 : rbs G.length S = rbs G.length (bestT (nums G) S 0) := rbs_ext fun j _ => by unfold bestT; simp
  refine swl_nil ?_
  refine then_n ?_
  refine swp_seq ?_
  refine swp_seq ?_
  refine swp_region ?_
  refine s_pu (pu_assign rfl) ?_
  refine swl_sub _ (.cons (t := 0) rfl (.cons (t := 1) rfl (.cons (t := 5) rfl (.cons (t := 6) rfl .nil)))) ?_
  refine swl_nil ?_
  refine then_n ?_
  refine swp_block ?_
  refine swp_ent (L' := [blk b10 4 (rbs G.length (bestT (nums G) S 0)), blk b 4 (rbs G.length S), ro μ]) (by rw [← e0]; exact Ent.refl _) ?_
  refine swp_loop (ι := Nat) (fun c env L => env = [(0, .slice A G.length cap), (1, .slice (some ⟨b, 0, none⟩) G.length G.length), (5, .slice (some ⟨b10, 0, none⟩) G.length G.length), (6, .int .i64 (c : Nat))] ∧ L = [blk b10 4 (rbs G.length (bestT (nums G) S c)), blk b 4 (rbs G.length S), ro μ] ∧ c ≤ G.length) (fun c => G.length - c) 0 ⟨rfl, rfl, Nat.zero_le _⟩ ?_
  rintro c env L ⟨rfl, rfl, hc⟩
  refine swp_seq ?_
  refine swp_seq ?_
  refine swp_region ?_
  refine s_pu (pu_move rfl) ?_
  refine s_pu (pu_move rfl) ?_
  refine s_pu (pu_len_row hG.1 rfl) ?_
  refine s_pu (pu_lss rfl rfl) ?_
  refine swl_sub _ (.cons (t := 0) rfl (.cons (t := 1) rfl (.cons (t := 5) rfl (.cons (t := 6) rfl (.cons (t := 17) rfl .nil))))) ?_
  refine swl_nil ?_
  refine then_n ?_
  refine swp_cond (b := _) rfl (fun h17 => ?_) (fun h17 => ?_)
  · skip   -- 17 T
    have h17' : c < G.length := by have := of_decide_eq_true h17; omega
    obtain ⟨gb, off, cap', hv, c1, c2, hr⟩ := hG.1.pos (by omega)
    simp only [Value.slice.injEq, true_and] at hv
    obtain ⟨rfl, rfl⟩ := hv
    obtain ⟨x, hx, hxc, hxr, hxo, hxg⟩ := graph_rows hG hg hr c h17'
    have hxs := hxr.small
    refine swp_skip ?_
    refine then_n ?_
    refine swp_seq ?_
    refine swp_block ?_
    refine swp_seq ?_
    refine swp_region ?_
    refine s_pu (pu_assign rfl) ?_
    refine swl_sub _ (.cons (t := 0) rfl (.cons (t := 1) rfl (.cons (t := 5) rfl (.cons (t := 6) rfl (.cons (t := 7) rfl .nil))))) ?_
    refine swl_nil ?_
    refine then_n ?_
    refine swp_block ?_
    have e0 : rbs G.length (bestT (nums G) S c) = rbs G.length (fun j => bestT (nums G) S c j && !(S c && decide ((j : Int) ∈ x.2.take 0))) := rbs_ext fun j _ => by simp
    rw [e0]
    refine swp_loop (ι := Nat) (fun i env L => env = [(0, .slice (some ⟨gb, off, none⟩) G.length cap), (1, .slice (some ⟨b, 0, none⟩) G.length G.length), (5, .slice (some ⟨b10, 0, none⟩) G.length G.length), (6, .int .i64 (c : Nat)), (7, .int .i64 (i : Nat))] ∧ L = [blk b10 4 (rbs G.length (fun j => bestT (nums G) S c j && !(S c && decide ((j : Int) ∈ x.2.take i)))), blk b 4 (rbs G.length S), ro μ] ∧ i ≤ x.2.length) (fun i => x.2.length - i) 0 ⟨rfl, rfl, Nat.zero_le _⟩ ?_
    rintro i env L ⟨rfl, rfl, hi⟩
    refine swp_seq ?_
    refine swp_seq ?_
    refine swp_region ?_
    refine s_pu (pu_move rfl) ?_
    refine s_pu (pu_move rfl) ?_
    refine s_pu (pu_move rfl) ?_
    refine s_pu (pu_indexAddr (off + c * 1) rfl rfl (by omega) (by omega) (by rw [Int.toNat_natCast])) ?_
    refine s_rd (rd_ro rfl hxc) ?_
    refine s_pu (pu_len_row hxr rfl) ?_
    refine s_pu (pu_lss rfl rfl) ?_
    refine swl_sub _ (.cons (t := 0) rfl (.cons (t := 1) rfl (.cons (t := 5) rfl (.cons (t := 6) rfl (.cons (t := 7) rfl (.cons (t := 26) rfl .nil)))))) ?_
    refine swl_nil ?_
    refine then_n ?_
    refine swp_cond (b := _) rfl (fun h26 => ?_) (fun h26 => ?_)
    · skip   -- 26 T
      have h26' : i < x.2.length := by have := of_decide_eq_true h26; omega
      obtain ⟨pb, poff, pcap, hpv, p1, p2, hpr⟩ := hxr.pos (by omega)
      obtain ⟨p, hp⟩ : ∃ p, x.2[i]? = some p := ⟨_, List.getElem?_eq_getElem h26'⟩
      have hpk := hpr.elem (icsk_len .i64) hp
      have hpg := hxg p (List.mem_of_getElem? hp)
      obtain ⟨k, rfl⟩ : ∃ k : Nat, p = k := ⟨p.toNat, by omega⟩
      refine swp_skip ?_
      refine then_n ?_
      refine swp_seq ?_
      refine swp_block ?_
      refine swp_seq ?_
      refine swp_region ?_
      refine s_pu (pu_move rfl) ?_
      refine s_pu (pu_move rfl) ?_
      refine s_pu (pu_indexAddr c rfl rfl (by omega) (by omega) (by omega)) ?_
      refine s_rd (rd_load rfl (rbs_get S h17')) ?_
      refine swl_sub _ (.cons (t := 0) rfl (.cons (t := 1) rfl (.cons (t := 5) rfl (.cons (t := 6) rfl (.cons (t := 7) rfl (.cons (t := 32) rfl .nil)))))) ?_
      refine swl_nil ?_
      refine then_n ?_
      refine swp_cond (b := _) rfl (fun h32 => ?_) (fun h32 => ?_)
      · skip   -- 32 T
        refine swp_region ?_
        refine s_pu (pu_move rfl) ?_
        refine s_pu (pu_move rfl) ?_
        refine s_pu (pu_move rfl) ?_
        refine s_pu (pu_indexAddr (off + c * 1) rfl rfl (by omega) (by omega) (by rw [Int.toNat_natCast])) ?_
        refine s_rd (rd_ro rfl (hpv ▸ hxc)) ?_
        refine s_pu (pu_move rfl) ?_
        refine s_pu (pu_indexAddr (poff + i * 1) rfl rfl (by omega) (by omega) (by rw [Int.toNat_natCast])) ?_
        refine s_rd (rd_ro rfl hpk.cell) ?_
        refine s_pu (pu_indexAddr k rfl rfl (by omega) (by omega) (by omega)) ?_
        refine s_ef0 (ef_storeP rfl rfl rfl (by rw [rbs_len]; omega)) ?_
        refine swl_sub _ (.cons (t := 0) rfl (.cons (t := 1) rfl (.cons (t := 5) rfl (.cons (t := 6) rfl (.cons (t := 7) rfl .nil))))) ?_
        rw [rbs_set (T := fun j => bestT (nums G) S c j && !(S c && decide ((j : Int) ∈ x.2.take (i + 1)))) (fun y hy => by
          rw [List.take_add_one, hp, h32]
          by_cases e : y = k
          · subst e; simp
          · have : (y : Int) ≠ k := by omega
            simp [e, this])]
        refine swl_nil ?_
        refine block_n ?_
        refine then_n ?_
        refine swp_region ?_
        refine s_pu (pu_move rfl) ?_
        refine s_pu (pu_add_as ((i + 1 : Nat) : Int) rfl rfl (by omega) (by omega) (by omega)) ?_
        refine s_pu (pu_assign rfl) ?_
        refine swl_sub _ (.cons (t := 0) rfl (.cons (t := 1) rfl (.cons (t := 5) rfl (.cons (t := 6) rfl (.cons (t := 7) rfl .nil))))) ?_
        refine swl_nil ?_
        exact then_n ⟨i + 1, ⟨rfl, rfl, h26'⟩, by omega⟩
      · skip   -- 32 F
        have e1 : rbs G.length (fun j => bestT (nums G) S c j && !(S c && decide ((j : Int) ∈ x.2.take i))) = rbs G.length (fun j => bestT (nums G) S c j && !(S c && decide ((j : Int) ∈ x.2.take (i + 1)))) := rbs_ext fun j _ => by rw [h32, Bool.false_and, Bool.false_and]
        rw [e1]
        refine swp_skip ?_
        refine block_n ?_
        refine then_n ?_
        refine swp_region ?_
        refine s_pu (pu_move rfl) ?_
        refine s_pu (pu_add_as ((i + 1 : Nat) : Int) rfl rfl (by omega) (by omega) (by omega)) ?_
        refine s_pu (pu_assign rfl) ?_
        refine swl_sub _ (.cons (t := 0) rfl (.cons (t := 1) rfl (.cons (t := 5) rfl (.cons (t := 6) rfl (.cons (t := 7) rfl .nil))))) ?_
        refine swl_nil ?_
        exact then_n ⟨i + 1, ⟨rfl, rfl, h26'⟩, by omega⟩
    · skip   -- 26 F
      have h26' := of_decide_eq_false h26
      obtain rfl : i = x.2.length := by omega
      have e1 : rbs G.length (fun j => bestT (nums G) S c j && !(S c && decide ((j : Int) ∈ x.2.take x.2.length))) = rbs G.length (bestT (nums G) S (c + 1)) := rbs_ext fun j _ => by
        rw [bestT_succ, hxo, List.take_length]
      rw [e1]
      refine swp_exit ?_
      refine then_x ?_
      refine then_x ?_
      refine block_hit rfl ?_
      refine block_n ?_
      refine then_n ?_
      refine swp_region ?_
      refine s_pu (pu_move rfl) ?_
      refine s_pu (pu_add_as ((c + 1 : Nat) : Int) rfl rfl (by omega) (by omega) (by omega)) ?_
      refine s_pu (pu_assign rfl) ?_
      refine swl_sub _ (.cons (t := 0) rfl (.cons (t := 1) rfl (.cons (t := 5) rfl (.cons (t := 6) rfl .nil)))) ?_
      refine swl_nil ?_
      exact then_n ⟨c + 1, ⟨rfl, rfl, h17'⟩, by omega⟩
  · skip   -- 17 F
    have h17' := of_decide_eq_false h17
    obtain rfl : c = G.length := by omega
    refine swp_exit ?_
    refine then_x ?_
    refine then_x ?_
    refine block_hit rfl ?_
    refine then_n ?_
    refine swp_seq ?_
    refine swp_region ?_
    refine s_pu (pu_move rfl) ?_
    refine s_ef (ef_fn (rlistb_spec b10 G.length _ hbig) rfl rfl (by repeat (first | exact Split.nil | (apply Split.cons; (repeat (first | with_reducible exact Take.here | apply Take.there)))))) ?_
    rintro v2 L1 rfl
    refine swl_app ?_
    refine s_pu (pu_assign rfl) ?_
    refine swl_sub _ (.cons (t := 4) rfl .nil) ?_
    refine swl_nil ?_
    refine then_n ?_
    refine swp_ret ?_
    exact done_ret [own 3 1 v2 (elsTo G.length (bestT (nums G) S G.length)).length ((elsTo G.length (bestT (nums G) S G.length)).flatMap (icsk .i64)), ro μ] (.tmp rfl .nil) rfl (by repeat (first | exact Split.nil | (apply Split.cons; (repeat (first | with_reducible exact Take.here | apply Take.there)))))
def basL (g : List (List Int)) (a b : Int) : List Int := if askE g a b = 0 then elsTo g.length (bestT g (fun j => up g a.toNat j && up g b.toNat j) g.length) else []
theorem rbases_spec (μ : PH) (v : Value) (G : List (Value × List Int)) (a b : Int) (hG : Graph μ v G) (hbig : G.length ≤ 1099511627776) : Spec Tryd.prog 74 [v, .int .i64 a, .int .i64 b] [ro μ] (Ans μ (askE (nums G) a b) (basL (nums G) a b)) := by
  have hln : (nums G).length = G.length := List.length_map _
  refine Spec.of 22 Tryd.func74 rfl rfl rfl ?_
  refine swp_seq ?_
  refine swp_region ?_
  refine s_pu (pu_assign rfl) ?_
  refine s_pu (pu_assign rfl) ?_
  refine swl_sub _ (.cons (t := 0) rfl (.cons (t := 1) rfl (.cons (t := 2) rfl .nil))) ?_
  refine swl_nil ?_
  refine then_n ?_
  refine swp_seq ?_
  refine swp_region ?_
  refine s_pu (pu_move rfl) ?_
  refine s_pu (pu_move rfl) ?_
  refine s_pu (pu_move rfl) ?_
  refine s_ef (ef_fn (rask_spec μ v G a b hG hbig) rfl rfl (by repeat (first | exact Split.nil | (apply Split.cons; (repeat (first | with_reducible exact Take.here | apply Take.there)))))) ?_
  rintro v1 L1 ⟨rfl, rfl⟩
  refine swl_app ?_
  refine s_pu (pu_assign rfl) ?_
  refine swl_sub _ (.cons (t := 0) rfl (.cons (t := 1) rfl (.cons (t := 2) rfl (.cons (t := 8) rfl .nil)))) ?_
  refine swl_nil ?_
  refine then_n ?_
  refine swp_seq ?_
  refine swp_seq ?_
  refine swp_region ?_
  refine s_pu (pu_move rfl) ?_
  refine s_pu (pu_neq rfl rfl) ?_
  refine swl_sub _ (.cons (t := 0) rfl (.cons (t := 1) rfl (.cons (t := 2) rfl (.cons (t := 8) rfl (.cons (t := 14) rfl .nil))))) ?_
  refine swl_nil ?_
  refine then_n ?_
  refine swp_cond (b := _) rfl (fun h14 => ?_) (fun h14 => ?_)
  · skip   -- 14 T
    refine swp_seq ?_
    refine swp_region ?_
    refine s_pu (pu_move rfl) ?_
    refine s_pu (pu_assign rfl) ?_
    refine s_pu (pu_assign rfl) ?_
    refine swl_sub _ (.cons (t := 6) rfl (.cons (t := 7) rfl .nil)) ?_
    refine swl_nil ?_
    refine then_n ?_
    refine swp_ret ?_
    refine then_r ?_
    have h0 : ¬ askE (nums G) a b = 0 := by simpa using h14
    refine done_retE (own 3 1 (.slice none 0 0) 0 [] :: [ro μ]) (.tmp rfl (.tmp rfl .nil)) ⟨.slice none 0 0, rfl, by unfold basL; rw [if_neg h0]; rfl⟩ own_nil_ent
  · skip   -- 14 F
    have h0 : askE (nums G) a b = 0 := by simpa using h14
    obtain ⟨hg, i, j, rfl, rfl, hi, hj⟩ := askE_ok h0
    rw [hln] at hi hj
    obtain ⟨gb, off, cap, hv, c1, c2, hr⟩ := hG.1.pos (by omega)
    subst hv
    refine swp_skip ?_
    refine then_n ?_
    refine swp_seq ?_
    refine swp_region ?_
    refine s_pu (pu_move rfl) ?_
    refine s_pu (pu_move rfl) ?_
    refine s_pu (pu_move rfl) ?_
    refine s_pu (pu_move rfl) ?_
    refine s_ef (ef_fn (rboth_spec μ _ G i j hG hbig hg hi hj) rfl rfl (by repeat (first | exact Split.nil | (apply Split.cons; (repeat (first | with_reducible exact Take.here | apply Take.there)))))) ?_
    rintro v1 L1 ⟨b, rfl, rfl⟩
    refine swl_app ?_
    refine s_ef (ef_fn (rbest_spec μ _ cap b G _ hG hbig hg) rfl rfl (by repeat (first | exact Split.nil | (apply Split.cons; (repeat (first | with_reducible exact Take.here | apply Take.there)))))) ?_
    rintro v2 L1 rfl
    refine swl_app ?_
    refine s_pu (pu_assign rfl) ?_
    refine s_pu (pu_assign rfl) ?_
    refine swl_sub _ (.cons (t := 6) rfl (.cons (t := 7) rfl .nil)) ?_
    refine swl_nil ?_
    refine then_n ?_
    refine swp_ret ?_
    refine done_ret [own 3 1 v2 (elsTo G.length (bestT (nums G) (fun k => up (nums G) i k && up (nums G) j k) G.length)).length ((elsTo G.length (bestT (nums G) (fun k => up (nums G) i k && up (nums G) j k) G.length)).flatMap (icsk .i64)), ro μ] (.tmp rfl (.tmp rfl .nil)) ⟨v2, by rw [h0]; rfl, by unfold basL; rw [if_pos h0, hln, Int.toNat_natCast, Int.toNat_natCast]⟩ (by repeat (first | exact Split.nil | (apply Split.cons; (repeat (first | with_reducible exact Take.here | apply Take.there)))))
end SX
