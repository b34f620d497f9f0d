/- A part of the proof: walks of the seat's functions, by the rules of the texts that it imports. -/
import Derived.Test.YtplekpdckcidjaaQu8
namespace SX
open Go Go.Proofs

/-! ### The reference: a list in rank -/
def putN (x : Th) : List Th → Nat
  | [] => 0
  | y :: l => if y.1 ≤ x.1 then putN x l + 1 else 0
def put (l : List Th) (x : Th) : List Th := l.take (putN x l) ++ x :: l.drop (putN x l)
theorem putN_le (x : Th) : ∀ l : List Th, putN x l ≤ l.length
  | [] => Nat.le_refl _
  | y :: l => by unfold putN; split <;> simp [putN_le x l]
theorem putN_lt (x : Th) : ∀ (l : List Th) (n : Nat) (y : Th), l[n]? = some y → n < putN x l → y.1 ≤ x.1
  | [], _, _, h, _ => by simp at h
  | z :: l, n, y, h, hn => by
    unfold putN at hn
    split at hn
    · cases n with
      | zero => simp at h; subst h; assumption
      | succ n => exact putN_lt x l n y (by simpa using h) (by omega)
    · omega
theorem putN_at (x : Th) : ∀ (l : List Th) (y : Th), l[putN x l]? = some y → x.1 < y.1
  | [], _, h => by simp at h
  | z :: l, y, h => by
    unfold putN at h
    split at h
    · exact putN_at x l y (by simpa using h)
    · simp at h; subst h; omega
theorem put_len (l : List Th) (x : Th) : (put l x).length = l.length + 1 := by
  unfold put; have := putN_le x l; simp; omega

theorem ths_app (a b : List Th) : ths (a ++ b) = ths a ++ ths b := by unfold ths; exact List.flatMap_append
theorem ths_take (l : List Th) (k : Nat) : (ths l).take (k * 2) = ths (l.take k) := by
  by_cases h : k ≤ l.length
  · have e : (ths (l.take k)).length = k * 2 := by rw [ths_len, List.length_take, Nat.min_eq_left h]
    conv => lhs; rw [← List.take_append_drop k l, ths_app]
    rw [← e, List.take_left]
  · rw [List.take_of_length_le (by rw [ths_len]; omega), List.take_of_length_le (by omega)]
theorem ths_drop (l : List Th) (k : Nat) : (ths l).drop (k * 2) = ths (l.drop k) := by
  by_cases h : k ≤ l.length
  · have e : (ths (l.take k)).length = k * 2 := by rw [ths_len, List.length_take, Nat.min_eq_left h]
    conv => lhs; rw [← List.take_append_drop k l, ths_app]
    rw [← e, List.drop_left]
  · rw [List.drop_eq_nil_of_le (by rw [ths_len]; omega), List.drop_eq_nil_of_le (by omega)]; rfl
theorem ths_one (l : List Th) : (ths l).all Value.oneCell' = true := by
  unfold ths; rw [List.all_flatMap]; simp [tcs, Value.oneCell']

theorem put_spec (μ : PH) (v : Value) (l : List Th) (x : Th) (hl : Row μ v 2 l.length (ths l)) (hb : l.length ≤ 1099511627776) :
    Spec Try.prog 17 [v, thV x] [ro μ] (fun v' L => ∃ μ', Le μ μ' ∧ Row μ' v' 2 (put l x).length (ths (put l x)) ∧ L = [ro μ']) := by
  refine Spec.of 42 Try.func17 rfl rfl rfl ?_
  refine swp_seq ?_
  refine swp_region ?_
  refine s_ef (ef_box rfl rfl) ?_
  intro b3
  refine s_pu (pu_assign rfl) ?_
  refine swl_sub _ (.cons (t := 0) rfl (.cons (t := 3) rfl .nil)) ?_
  refine swl_nil ?_
  refine then_n ?_
  refine swp_seq ?_
  refine swp_region ?_
  refine s_pu (pu_assign rfl) ?_
  refine swl_sub _ (.cons (t := 0) rfl (.cons (t := 3) rfl (.cons (t := 5) rfl .nil))) ?_
  refine swl_nil ?_
  refine then_n ?_
  refine swp_cut (fun env L => env = [(0, v), (3, .pointer (some ⟨b3, 0, none⟩)), (5, .int .i64 (putN x l : Nat))] ∧ L = [blk b3 45 [.int .i64 x.1, .int .i64 x.2], ro μ]) ?_ ?_
  refine swp_block ?_
  refine swp_loop (ι := Nat) (fun k env L => k ≤ putN x l ∧ env = [(0, v), (3, _), (5, .int .i64 (k : Nat))] ∧ L = [blk _ 45 [.int .i64 x.1, .int .i64 x.2], ro μ]) (fun k => putN x l - k) 0 ⟨Nat.zero_le _, rfl, rfl⟩ ?_
  rintro k env L ⟨hk, rfl, rfl⟩
  have hpl := putN_le x l
  refine swp_seq ?_
  refine swp_seq ?_
  refine swp_draw [9, 11] _ [] (by simp only [List.append_nil]; exact Ent.refl _) (by kernel_rfl) ?_
  refine d_pu 0 rfl (pu_move rfl) (by kernel_rfl) (by kernel_rfl) (by kernel_rfl) ?_
  refine d_pu 1 rfl (pu_move rfl) (by kernel_rfl) (by kernel_rfl) (by kernel_rfl) ?_
  refine d_pu 2 rfl (pu_len_row hl rfl) (by kernel_rfl) (by kernel_rfl) (by kernel_rfl) ?_
  refine d_pu 3 rfl (pu_lss rfl rfl) (by kernel_rfl) (by kernel_rfl) (by kernel_rfl) ?_
  refine d_pu 4 rfl (pu_move rfl) (by kernel_rfl) (by kernel_rfl) (by kernel_rfl) ?_
  refine d_split 11 rfl (fun h11 => ?_) (fun h11 => ?_)
  · simp at h11
    obtain ⟨gb, off, cap, rfl, c1, c2, hrow⟩ := hl.pos (by omega)
    obtain ⟨y, hy⟩ : ∃ y, l[k]? = some y := ⟨_, List.getElem?_eq_getElem h11⟩
    have hrk := hrow.elem tcs_len hy
    refine d_pu_on 5 rfl rfl rfl (pu_move rfl) (by kernel_rfl) (by kernel_rfl) (by kernel_rfl) ?_
    refine d_pu_on 6 rfl rfl rfl (pu_move rfl) (by kernel_rfl) (by kernel_rfl) (by kernel_rfl) ?_
    refine d_pu_on 7 rfl rfl rfl (pu_indexAddr (off + k * 2) rfl rfl (by omega) (by omega) (by simp)) (by kernel_rfl) (by kernel_rfl) (by kernel_rfl) ?_
    first | refine d_pu_on 8 rfl rfl rfl (pu_fieldAddr0 rfl) (by kernel_rfl) (by kernel_rfl) (by kernel_rfl) ?_ | refine d_pu_on 8 rfl rfl rfl (pu_fieldAddr rfl) (by kernel_rfl) (by kernel_rfl) (by kernel_rfl) ?_
    refine d_rd_on 9 rfl rfl rfl (rd_ro rfl (RowAt.cell (hrk.sub' (a := []) (vs := [.int .i64 y.1]) (c := [.int .i64 y.2]) rfl rfl))) rfl (by kernel_rfl) (by kernel_rfl) (by kernel_rfl) ?_
    first | refine d_pu_on 10 rfl rfl rfl (pu_fieldAddr0 rfl) (by kernel_rfl) (by kernel_rfl) (by kernel_rfl) ?_ | refine d_pu_on 10 rfl rfl rfl (pu_fieldAddr rfl) (by kernel_rfl) (by kernel_rfl) (by kernel_rfl) ?_
    refine d_rd_on 11 rfl rfl rfl (rd_load rfl rfl) rfl (by kernel_rfl) (by kernel_rfl) (by kernel_rfl) ?_
    refine d_pu_on 12 rfl rfl rfl (pu_leq rfl rfl) (by kernel_rfl) (by kernel_rfl) (by kernel_rfl) ?_
    first | refine d_pu 13 rfl (pu_pick_t rfl rfl) (by kernel_rfl) (by kernel_rfl) (by kernel_rfl) ?_ | refine d_pu 13 rfl (pu_pick_f rfl rfl) (by kernel_rfl) (by kernel_rfl) (by kernel_rfl) ?_
    first | refine d_nilt (by kernel_rfl) ?_ | refine d_nilf (by kernel_rfl) ?_
    refine then_n ?_
    refine swp_cond (b := _) rfl (fun h20 => ?_) (fun h20 => ?_)
    · simp at h20
      have hk1 : k < putN x l := by
        rcases Nat.lt_or_ge k (putN x l) with h | h
        · exact h
        · have : k = putN x l := by omega
          subst this
          have := putN_at x l y hy; omega
      refine swp_skip ?_
      refine then_n ?_
      refine swp_block ?_
      refine swp_region ?_
      refine s_pu (pu_move rfl) ?_
      refine s_pu (pu_add_as ((k + 1 : Nat) : Int) rfl rfl (by omega) (by omega) (by omega)) ?_
      refine s_pu (pu_assign rfl) ?_
      refine swl_sub _ (.cons (t := 0) rfl (.cons (t := 3) rfl (.cons (t := 5) rfl .nil))) ?_
      refine swl_nil ?_
      refine block_n ?_
      exact then_n ⟨k + 1, ⟨by omega, rfl, rfl⟩, by omega⟩
    · simp at h20
      have hk1 : k = putN x l := by
        rcases Nat.lt_or_ge k (putN x l) with h | h
        · have := putN_lt x l k y hy h; omega
        · omega
      subst hk1
      refine swp_sub _ (.cons (t := 0) rfl (.cons (t := 3) rfl (.cons (t := 5) rfl .nil))) ?_
      refine swp_exit ?_
      refine then_x ?_
      refine then_x ?_
      refine block_hit rfl ?_
      refine then_n ?_
      exact ⟨rfl, rfl⟩
  · simp at h11
    have hk1 : k = putN x l := by omega
    subst hk1
    refine d_off 5 rfl rfl rfl rfl (by kernel_rfl) (by kernel_rfl) (by kernel_rfl) ?_
    refine d_off 6 rfl rfl rfl rfl (by kernel_rfl) (by kernel_rfl) (by kernel_rfl) ?_
    refine d_off 7 rfl rfl rfl rfl (by kernel_rfl) (by kernel_rfl) (by kernel_rfl) ?_
    refine d_off 8 rfl rfl rfl rfl (by kernel_rfl) (by kernel_rfl) (by kernel_rfl) ?_
    refine d_off 9 rfl rfl rfl rfl (by kernel_rfl) (by kernel_rfl) (by kernel_rfl) ?_
    refine d_off 10 rfl rfl rfl rfl (by kernel_rfl) (by kernel_rfl) (by kernel_rfl) ?_
    refine d_off 11 rfl rfl rfl rfl (by kernel_rfl) (by kernel_rfl) (by kernel_rfl) ?_
    refine d_off 12 rfl rfl rfl rfl (by kernel_rfl) (by kernel_rfl) (by kernel_rfl) ?_
    first | refine d_pu 13 rfl (pu_pick_t rfl rfl) (by kernel_rfl) (by kernel_rfl) (by kernel_rfl) ?_ | refine d_pu 13 rfl (pu_pick_f rfl rfl) (by kernel_rfl) (by kernel_rfl) (by kernel_rfl) ?_
    first | refine d_nilt (by kernel_rfl) ?_ | refine d_nilf (by kernel_rfl) ?_
    refine then_n ?_
    refine swp_cond (b := _) rfl (fun h => by cases h) (fun h20 => ?_)
    refine swp_sub _ (.cons (t := 0) rfl (.cons (t := 3) rfl (.cons (t := 5) rfl .nil))) ?_
    refine swp_exit ?_
    refine then_x ?_
    refine then_x ?_
    refine block_hit rfl ?_
    refine then_n ?_
    exact ⟨rfl, rfl⟩
  rintro env L ⟨rfl, rfl⟩
  have hpl := putN_le x l
  refine swp_seq ?_
  refine swp_region ?_
  refine s_pu (pu_move rfl) ?_
  refine s_pu (pu_len_row hl rfl) ?_
  refine s_pu (pu_add_as ((l.length + 1 : Nat) : Int) rfl rfl (by omega) (by omega) (by omega)) ?_
  refine s_ef (ef_make0 rfl rfl (by omega) (by omega) (by simp only [maxLen]; omega)) ?_
  intro v0
  refine s_pu (pu_assign rfl) ?_
  refine swl_sub _ (.cons (t := 0) rfl (.cons (t := 3) rfl (.cons (t := 5) rfl (.cons (t := 6) rfl .nil)))) ?_
  refine swl_nil ?_
  refine then_n ?_
  refine swp_seq ?_
  refine swp_region ?_
  obtain ⟨v1, hr1, hp1⟩ := Row.hi (P := Try.prog) (t := 42) hl (putN x l) hpl
  rw [ths_take] at hr1
  refine s_pu (pu_move rfl) ?_
  refine s_pu (pu_move rfl) ?_
  refine s_pu (pu_move rfl) ?_
  refine s_pu (hp1 _ _ _ _ _ rfl rfl rfl) ?_
  refine s_ef (ef_append_ro hr1 rfl rfl (by repeat (first | exact Split.nil | (apply Split.cons; (repeat (first | with_reducible exact Take.here | apply Take.there))))) (ths_one _) (by simp only [maxLen]; omega) (by omega)) ?_
  rintro v2 -
  refine s_pu (pu_assign rfl) ?_
  refine swl_sub _ (.cons (t := 0) rfl (.cons (t := 3) rfl (.cons (t := 5) rfl (.cons (t := 6) rfl .nil)))) ?_
  refine swl_nil ?_
  refine then_n ?_
  refine swp_seq ?_
  refine swp_region ?_
  refine s_pu (pu_move rfl) ?_
  first | refine s_rd (rd_loadW rfl rfl) ?_ | refine s_rd (rd_loadX rfl rfl rfl) ?_
  refine s_ef (ef_bldS (qs := [(0, _)]) rfl rfl rfl) ?_
  intro b34
  refine s_ef (ef_append_lit (l := 0 + putN x l) (m := 1) rfl rfl (by repeat (first | exact Split.nil | (apply Split.cons; (repeat (first | with_reducible exact Take.here | apply Take.there))))) (by simp only [maxLen]; omega) (by omega)) ?_
  rintro v3 -
  refine s_pu (pu_assign rfl) ?_
  refine swl_sub _ (.cons (t := 0) rfl (.cons (t := 5) rfl (.cons (t := 6) rfl .nil))) ?_
  refine swl_nil ?_
  refine then_n ?_
  refine swp_seq ?_
  refine swp_region ?_
  obtain ⟨v4, hr4, hp4⟩ := Row.lo (P := Try.prog) (t := 42) hl (putN x l) hpl
  rw [ths_drop] at hr4
  refine s_pu (pu_move rfl) ?_
  refine s_pu (pu_move rfl) ?_
  refine s_pu (pu_move rfl) ?_
  refine s_pu (hp4 _ _ _ _ _ rfl rfl rfl) ?_
  refine s_ef (ef_append_ro hr4 rfl rfl (by repeat (first | exact Split.nil | (apply Split.cons; (repeat (first | with_reducible exact Take.here | apply Take.there))))) (ths_one _) (by simp only [maxLen]; omega) (by omega)) ?_
  rintro v5 -
  refine s_pu (pu_assign rfl) ?_
  refine swl_sub _ (.cons (t := 6) rfl .nil) ?_
  refine swl_nil ?_
  refine then_n ?_
  have hout : [] ++ ths (l.take (putN x l)) ++ [.int .i64 x.1, .int .i64 x.2] ++ ths (l.drop (putN x l)) = ths (put l x) := by
    unfold put; rw [ths_app]; simp [ths, tcs]
  have hlen : 0 + putN x l + 1 + (l.length - putN x l) = (put l x).length := by rw [put_len]; omega
  rw [hout, hlen]
  refine swp_share_own (by repeat (first | exact Split.nil | (apply Split.cons; (repeat (first | with_reducible exact Take.here | apply Take.there))))) fun μ' hle hrow => ?_
  refine swp_seq ?_
  refine swp_region ?_
  refine s_pu (pu_move rfl) ?_
  refine s_pu (pu_assign rfl) ?_
  refine swl_sub _ (.cons (t := 4) rfl .nil) ?_
  refine swl_nil ?_
  refine then_n ?_
  refine swp_ret ?_
  exact done_ret [ro μ'] (.tmp rfl .nil) ⟨μ', hle, hrow, rfl⟩ (by repeat (first | exact Split.nil | (apply Split.cons; (repeat (first | with_reducible exact Take.here | apply Take.there)))))
theorem mine_spec (x : Th) : Spec Try.prog 19 [thV x] [] (fun v L => v = thV x ∧ L = []) := by
  refine Spec.of 8 Try.func19 rfl rfl rfl ?_
  refine swp_seq ?_
  refine swp_region ?_
  refine s_ef (ef_box rfl rfl) ?_
  intro b1
  refine s_ef (ef_alloc) ?_
  intro b2
  refine swl_sub _ (.cons (t := 1) rfl (.cons (t := 2) rfl .nil)) ?_
  refine swl_nil ?_
  refine then_n ?_
  refine swp_seq ?_
  refine swp_region ?_
  first | refine s_pu (pu_fieldAddr0 rfl) ?_ | refine s_pu (pu_fieldAddr rfl) ?_
  refine s_rd (rd_load rfl rfl) ?_
  first | refine s_pu (pu_fieldAddr0 rfl) ?_ | refine s_pu (pu_fieldAddr rfl) ?_
  refine s_rd (rd_load rfl rfl) ?_
  refine s_pu (pu_bld (qs := [(0, _), (1, _)]) rfl) ?_
  refine s_ef0 (ef_storeA rfl rfl rfl rfl) ?_
  refine swl_sub _ (.cons (t := 2) rfl .nil) ?_
  refine swl_nil ?_
  refine then_n ?_
  refine swp_ret ?_
  exact done_ret [] (.cell rfl (ld_whole rfl) .nil) ⟨rfl, rfl⟩ (by repeat (first | exact Split.nil | (apply Split.cons; (repeat (first | with_reducible exact Take.here | apply Take.there)))))
end SX
