/- A part of the proof: walks of the program's functions, and the rules by which they go. -/
import Derived.Test.YtfkonmhlgfommaaBc2c1ff64
import Derived.Test.YtfkonmhlgfommaaBeee13143
namespace SX
open Go Go.Proofs
set_option maxHeartbeats 1000000 in
theorem same_spec (μ : PH) (va vb : Value) (la lb : List En) (ha : Row μ va 2 la.length (la.flatMap enc1)) (hb : Row μ vb 2 lb.length (lb.flatMap enc1)) : Spec Try.prog 33 [va, vb] [ro μ] (fun r L => r = .bool (decide (la = lb)) ∧ L = [ro μ]) := by
  have hsa := ha.small
  have hsb := hb.small
  refine Spec.of 26 Try.func33 rfl rfl rfl ?_
  refine swp_seq ?_
  refine swp_region ?_
  refine s_pu (pu_assign rfl) ?_
  refine swl_sub _ (.cons (t := 0) rfl (.cons (t := 1) rfl .nil)) ?_
  refine swl_nil ?_
  refine then_n ?_
  refine swp_seq ?_
  refine swp_seq ?_
  refine swp_region ?_
  refine s_pu (pu_move rfl) ?_
  refine s_pu (pu_len_row ha rfl) ?_
  refine s_pu (pu_move rfl) ?_
  refine s_pu (pu_len_row hb rfl) ?_
  refine s_pu (pu_neq rfl rfl) ?_
  refine swl_sub _ (.cons (t := 0) rfl (.cons (t := 1) rfl (.cons (t := 10) rfl .nil))) ?_
  refine swl_nil ?_
  refine then_n ?_
  refine swp_cond (b := _) rfl (fun h10 => ?_) (fun h10 => ?_)
  · skip   -- 10 T
    refine swp_seq ?_
    refine swp_region ?_
    refine s_pu (pu_assign rfl) ?_
    refine swl_sub _ (.cons (t := 4) rfl .nil) ?_
    refine swl_nil ?_
    refine then_n ?_
    refine swp_ret ?_
    refine then_r ?_
    refine done_ret [ro μ] (.tmp rfl .nil) ⟨?_, rfl⟩ (by repeat (first | exact Split.nil | (apply Split.cons; (repeat (first | with_reducible exact Take.here | apply Take.there)))))
    have : la ≠ lb := by rintro rfl; simp at h10
    rw [decide_eq_false this]; rfl
  · skip   -- 10 F
    have hlen : la.length = lb.length := by simp at h10; omega
    refine swp_skip ?_
    refine then_n ?_
    refine swp_seq ?_
    refine swp_seq ?_
    refine swp_region ?_
    refine s_pu (pu_assign rfl) ?_
    refine swl_sub _ (.cons (t := 0) rfl (.cons (t := 1) rfl (.cons (t := 5) rfl .nil))) ?_
    refine swl_nil ?_
    refine then_n ?_
    refine swp_block ?_
    refine swp_loop (ι := Nat) (fun i env L => env = [(0, va), (1, vb), (5, .int .i64 (i : Nat))] ∧ L = [ro μ] ∧ i ≤ la.length ∧ la.take i = lb.take i) (fun i => la.length - i) 0 ⟨rfl, rfl, Nat.zero_le _, rfl⟩ ?_
    rintro i env L ⟨rfl, rfl, hi, htk⟩
    refine swp_seq ?_
    refine swp_seq ?_
    refine swp_region ?_
    refine s_pu (pu_move rfl) ?_
    refine s_pu (pu_move rfl) ?_
    refine s_pu (pu_len_row ha rfl) ?_
    refine s_pu (pu_lss rfl rfl) ?_
    refine swl_sub _ (.cons (t := 0) rfl (.cons (t := 1) rfl (.cons (t := 5) rfl (.cons (t := 14) rfl .nil)))) ?_
    refine swl_nil ?_
    refine then_n ?_
    refine swp_cond (b := _) rfl (fun h14 => ?_) (fun h14 => ?_)
    · skip   -- 14 T
      have h14' : i < la.length := by have := of_decide_eq_true h14; omega
      obtain ⟨e1, he1⟩ : ∃ e, la[i]? = some e := ⟨_, List.getElem?_eq_getElem h14'⟩
      obtain ⟨e2, he2⟩ : ∃ e, lb[i]? = some e := ⟨_, List.getElem?_eq_getElem (by omega)⟩
      obtain ⟨b1, o1, c1, hv1, _, _, hr1⟩ := ha.pos (by omega)
      obtain ⟨b2, o2, c2, hv2, _, _, hr2⟩ := hb.pos (by omega)
      have hq1 := hr1.elem (f := enc1) (n := 2) (fun _ => rfl) he1
      have hq2 := hr2.elem (f := enc1) (n := 2) (fun _ => rfl) he2
      refine swp_skip ?_
      refine then_n ?_
      refine swp_seq ?_
      refine swp_block ?_
      refine swp_seq ?_
      refine swp_draw [3, 7] _ [] (by simp only [List.append_nil]; exact Ent.refl _) (by kernel_rfl) ?_
      refine d_pu 0 rfl (pu_move rfl) (by kernel_rfl) (by kernel_rfl) (by kernel_rfl) ?_
      refine d_pu 1 rfl (pu_move rfl) (by kernel_rfl) (by kernel_rfl) (by kernel_rfl) ?_
      refine d_pu 2 rfl (pu_indexAddr (o1 + i * 2) (congrArg some hv1) rfl (by omega) (by omega) (by rw [Int.toNat_natCast])) (by kernel_rfl) (by kernel_rfl) (by kernel_rfl) ?_
      refine d_rd 3 rfl (rd_roA rfl rfl hq1) rfl (by kernel_rfl) (by kernel_rfl) (by kernel_rfl) ?_
      refine d_pu 4 rfl (pu_move rfl) (by kernel_rfl) (by kernel_rfl) (by kernel_rfl) ?_
      refine d_pu 5 rfl (pu_move rfl) (by kernel_rfl) (by kernel_rfl) (by kernel_rfl) ?_
      refine d_pu 6 rfl (pu_indexAddr (o2 + i * 2) (congrArg some hv2) rfl (by omega) (by omega) (by rw [Int.toNat_natCast])) (by kernel_rfl) (by kernel_rfl) (by kernel_rfl) ?_
      refine d_rd 7 rfl (rd_roA rfl rfl hq2) rfl (by kernel_rfl) (by kernel_rfl) (by kernel_rfl) ?_
      refine d_pu 8 rfl (pu_stN_ne (vs := enc1 e1) (us := enc1 e2) rfl rfl (.str (.int .nil))) (by kernel_rfl) (by kernel_rfl) (by kernel_rfl) ?_
      refine d_sub _ (.cons (t := 0) rfl (.cons (t := 1) rfl (.cons (t := 5) rfl (.cons (t := 25) rfl .nil)))) ?_
      first | refine d_nilt (by kernel_rfl) ?_ | refine d_nilf (by kernel_rfl) ?_
      refine then_n ?_
      refine swp_cond (b := _) rfl (fun h25 => ?_) (fun h25 => ?_)
      · skip   -- 25 T
        refine swp_seq ?_
        refine swp_region ?_
        refine s_pu (pu_assign rfl) ?_
        refine swl_sub _ (.cons (t := 4) rfl .nil) ?_
        refine swl_nil ?_
        refine then_n ?_
        refine swp_ret ?_
        refine block_r ?_
        refine then_r ?_
        refine then_r ?_
        refine block_r ?_
        refine then_r ?_
        refine done_ret [ro μ] (.tmp rfl .nil) ⟨?_, rfl⟩ (by repeat (first | exact Split.nil | (apply Split.cons; (repeat (first | with_reducible exact Take.here | apply Take.there)))))
        have : la ≠ lb := by
          rintro rfl
          rw [he1] at he2; cases he2
          simp [strEq_refl] at h25
        rw [decide_eq_false this]; rfl
      · skip   -- 25 F
        refine swp_skip ?_
        refine block_n ?_
        refine then_n ?_
        refine swp_region ?_
        refine s_pu (pu_move rfl) ?_
        refine s_pu (pu_add_as ((i + 1 : Nat) : Int) rfl rfl (by omega) (by omega) (by omega)) ?_
        refine s_pu (pu_assign rfl) ?_
        refine swl_sub _ (.cons (t := 0) rfl (.cons (t := 1) rfl (.cons (t := 5) rfl .nil))) ?_
        refine swl_nil ?_
        have he : e1 = e2 := by
          simp only [Bool.not_eq_false', Bool.and_eq_true, decide_eq_true_eq, strEq_iff, and_true] at h25
          obtain ⟨q1, q2⟩ := h25
          exact Prod.ext q1 q2
        exact then_n ⟨i + 1, ⟨rfl, rfl, h14', by rw [List.take_add_one, List.take_add_one, htk, he1, he2, he]⟩, by omega⟩
    · skip   -- 14 F
      have h14' := of_decide_eq_false h14
      obtain rfl : i = la.length := by omega
      refine swp_exit ?_
      refine then_x ?_
      refine then_x ?_
      refine block_hit rfl ?_
      refine then_n ?_
      refine swp_seq ?_
      refine swp_region ?_
      refine s_pu (pu_assign rfl) ?_
      refine swl_sub _ (.cons (t := 4) rfl .nil) ?_
      refine swl_nil ?_
      refine then_n ?_
      refine swp_ret ?_
      refine done_ret [ro μ] (.tmp rfl .nil) ⟨?_, rfl⟩ (by repeat (first | exact Split.nil | (apply Split.cons; (repeat (first | with_reducible exact Take.here | apply Take.there)))))
      rw [List.take_length, hlen, List.take_length] at htk
      rw [decide_eq_true htk]; rfl
set_option maxHeartbeats 1000000 in
theorem samec_spec (μ : PH) (va vb : Value) (la lb : List Cf) (ha : Row μ va 4 la.length (la.flatMap encC)) (hb : Row μ vb 4 lb.length (lb.flatMap encC)) : Spec Try.prog 34 [va, vb] [ro μ] (fun r L => r = .bool (decide (la = lb)) ∧ L = [ro μ]) := by
  have hsa := ha.small
  have hsb := hb.small
  refine Spec.of 26 Try.func34 rfl rfl rfl ?_
  refine swp_seq ?_
  refine swp_region ?_
  refine s_pu (pu_assign rfl) ?_
  refine swl_sub _ (.cons (t := 0) rfl (.cons (t := 1) rfl .nil)) ?_
  refine swl_nil ?_
  refine then_n ?_
  refine swp_seq ?_
  refine swp_seq ?_
  refine swp_region ?_
  refine s_pu (pu_move rfl) ?_
  refine s_pu (pu_len_row ha rfl) ?_
  refine s_pu (pu_move rfl) ?_
  refine s_pu (pu_len_row hb rfl) ?_
  refine s_pu (pu_neq rfl rfl) ?_
  refine swl_sub _ (.cons (t := 0) rfl (.cons (t := 1) rfl (.cons (t := 10) rfl .nil))) ?_
  refine swl_nil ?_
  refine then_n ?_
  refine swp_cond (b := _) rfl (fun h10 => ?_) (fun h10 => ?_)
  · skip   -- 10 T
    refine swp_seq ?_
    refine swp_region ?_
    refine s_pu (pu_assign rfl) ?_
    refine swl_sub _ (.cons (t := 4) rfl .nil) ?_
    refine swl_nil ?_
    refine then_n ?_
    refine swp_ret ?_
    refine then_r ?_
    refine done_ret [ro μ] (.tmp rfl .nil) ⟨?_, rfl⟩ (by repeat (first | exact Split.nil | (apply Split.cons; (repeat (first | with_reducible exact Take.here | apply Take.there)))))
    have : la ≠ lb := by rintro rfl; simp at h10
    rw [decide_eq_false this]; rfl
  · skip   -- 10 F
    have hlen : la.length = lb.length := by simp at h10; omega
    refine swp_skip ?_
    refine then_n ?_
    refine swp_seq ?_
    refine swp_seq ?_
    refine swp_region ?_
    refine s_pu (pu_assign rfl) ?_
    refine swl_sub _ (.cons (t := 0) rfl (.cons (t := 1) rfl (.cons (t := 5) rfl .nil))) ?_
    refine swl_nil ?_
    refine then_n ?_
    refine swp_block ?_
    refine swp_loop (ι := Nat) (fun i env L => env = [(0, va), (1, vb), (5, .int .i64 (i : Nat))] ∧ L = [ro μ] ∧ i ≤ la.length ∧ la.take i = lb.take i) (fun i => la.length - i) 0 ⟨rfl, rfl, Nat.zero_le _, rfl⟩ ?_
    rintro i env L ⟨rfl, rfl, hi, htk⟩
    refine swp_seq ?_
    refine swp_seq ?_
    refine swp_region ?_
    refine s_pu (pu_move rfl) ?_
    refine s_pu (pu_move rfl) ?_
    refine s_pu (pu_len_row ha rfl) ?_
    refine s_pu (pu_lss rfl rfl) ?_
    refine swl_sub _ (.cons (t := 0) rfl (.cons (t := 1) rfl (.cons (t := 5) rfl (.cons (t := 14) rfl .nil)))) ?_
    refine swl_nil ?_
    refine then_n ?_
    refine swp_cond (b := _) rfl (fun h14 => ?_) (fun h14 => ?_)
    · skip   -- 14 T
      have h14' : i < la.length := by have := of_decide_eq_true h14; omega
      obtain ⟨e1, he1⟩ : ∃ e, la[i]? = some e := ⟨_, List.getElem?_eq_getElem h14'⟩
      obtain ⟨e2, he2⟩ : ∃ e, lb[i]? = some e := ⟨_, List.getElem?_eq_getElem (by omega)⟩
      obtain ⟨b1, o1, c1, hv1, _, _, hr1⟩ := ha.pos (by omega)
      obtain ⟨b2, o2, c2, hv2, _, _, hr2⟩ := hb.pos (by omega)
      have hq1 := hr1.elem (f := encC) (n := 4) (fun _ => rfl) he1
      have hq2 := hr2.elem (f := encC) (n := 4) (fun _ => rfl) he2
      refine swp_skip ?_
      refine then_n ?_
      refine swp_seq ?_
      refine swp_block ?_
      refine swp_seq ?_
      refine swp_draw [3, 7] _ [] (by simp only [List.append_nil]; exact Ent.refl _) (by kernel_rfl) ?_
      refine d_pu 0 rfl (pu_move rfl) (by kernel_rfl) (by kernel_rfl) (by kernel_rfl) ?_
      refine d_pu 1 rfl (pu_move rfl) (by kernel_rfl) (by kernel_rfl) (by kernel_rfl) ?_
      refine d_pu 2 rfl (pu_indexAddr (o1 + i * 4) (congrArg some hv1) rfl (by omega) (by omega) (by rw [Int.toNat_natCast])) (by kernel_rfl) (by kernel_rfl) (by kernel_rfl) ?_
      refine d_rd 3 rfl (rd_roA rfl rfl hq1) rfl (by kernel_rfl) (by kernel_rfl) (by kernel_rfl) ?_
      refine d_pu 4 rfl (pu_move rfl) (by kernel_rfl) (by kernel_rfl) (by kernel_rfl) ?_
      refine d_pu 5 rfl (pu_move rfl) (by kernel_rfl) (by kernel_rfl) (by kernel_rfl) ?_
      refine d_pu 6 rfl (pu_indexAddr (o2 + i * 4) (congrArg some hv2) rfl (by omega) (by omega) (by rw [Int.toNat_natCast])) (by kernel_rfl) (by kernel_rfl) (by kernel_rfl) ?_
      refine d_rd 7 rfl (rd_roA rfl rfl hq2) rfl (by kernel_rfl) (by kernel_rfl) (by kernel_rfl) ?_
      refine d_pu 8 rfl (pu_stN_ne (vs := encC e1) (us := encC e2) rfl rfl (.str (.int (.int (.int .nil))))) (by kernel_rfl) (by kernel_rfl) (by kernel_rfl) ?_
      refine d_sub _ (.cons (t := 0) rfl (.cons (t := 1) rfl (.cons (t := 5) rfl (.cons (t := 25) rfl .nil)))) ?_
      first | refine d_nilt (by kernel_rfl) ?_ | refine d_nilf (by kernel_rfl) ?_
      refine then_n ?_
      refine swp_cond (b := _) rfl (fun h25 => ?_) (fun h25 => ?_)
      · skip   -- 25 T
        refine swp_seq ?_
        refine swp_region ?_
        refine s_pu (pu_assign rfl) ?_
        refine swl_sub _ (.cons (t := 4) rfl .nil) ?_
        refine swl_nil ?_
        refine then_n ?_
        refine swp_ret ?_
        refine block_r ?_
        refine then_r ?_
        refine then_r ?_
        refine block_r ?_
        refine then_r ?_
        refine done_ret [ro μ] (.tmp rfl .nil) ⟨?_, rfl⟩ (by repeat (first | exact Split.nil | (apply Split.cons; (repeat (first | with_reducible exact Take.here | apply Take.there)))))
        have : la ≠ lb := by
          rintro rfl
          rw [he1] at he2; cases he2
          simp [strEq_refl] at h25
        rw [decide_eq_false this]; rfl
      · skip   -- 25 F
        refine swp_skip ?_
        refine block_n ?_
        refine then_n ?_
        refine swp_region ?_
        refine s_pu (pu_move rfl) ?_
        refine s_pu (pu_add_as ((i + 1 : Nat) : Int) rfl rfl (by omega) (by omega) (by omega)) ?_
        refine s_pu (pu_assign rfl) ?_
        refine swl_sub _ (.cons (t := 0) rfl (.cons (t := 1) rfl (.cons (t := 5) rfl .nil))) ?_
        refine swl_nil ?_
        have he : e1 = e2 := by
          simp only [Bool.not_eq_false', Bool.and_eq_true, decide_eq_true_eq, strEq_iff, and_true] at h25
          obtain ⟨q1, q2, q3, q4⟩ := h25
          exact Prod.ext q1 (Prod.ext q2 (Prod.ext q3 q4))
        exact then_n ⟨i + 1, ⟨rfl, rfl, h14', by rw [List.take_add_one, List.take_add_one, htk, he1, he2, he]⟩, by omega⟩
    · skip   -- 14 F
      have h14' := of_decide_eq_false h14
      obtain rfl : i = la.length := by omega
      refine swp_exit ?_
      refine then_x ?_
      refine then_x ?_
      refine block_hit rfl ?_
      refine then_n ?_
      refine swp_seq ?_
      refine swp_region ?_
      refine s_pu (pu_assign rfl) ?_
      refine swl_sub _ (.cons (t := 4) rfl .nil) ?_
      refine swl_nil ?_
      refine then_n ?_
      refine swp_ret ?_
      refine done_ret [ro μ] (.tmp rfl .nil) ⟨?_, rfl⟩ (by repeat (first | exact Split.nil | (apply Split.cons; (repeat (first | with_reducible exact Take.here | apply Take.there)))))
      rw [List.take_length, hlen, List.take_length] at htk
      rw [decide_eq_true htk]; rfl
end SX
namespace SX
open Go Go.Proofs
theorem ens_take {t : List En} {i : Nat} {e : En} (h : t[i]? = some e) : ens (t.take (i + 1)) = ens (t.take i) ++ enc1 e := by
  rw [List.take_add_one, h, ens, ens, List.flatMap_append]; rfl
theorem ens_app (a b : List En) : ens (a ++ b) = ens a ++ ens b := List.flatMap_append
theorem ens_drop (t : List En) (i : Nat) : ens (t.drop i) = (ens t).drop (i * 2) := by
  induction t generalizing i with
  | nil => simp [ens]
  | cons e t ih =>
    cases i with
    | zero => rfl
    | succ i =>
      rw [List.drop_succ_cons, ih, Nat.succ_mul, Nat.add_comm (i * 2) 2, ens, ens, List.flatMap_cons, ← List.drop_drop]; rfl
set_option maxHeartbeats 2000000 in
theorem put_spec (μ : PH) (v : Value) (t : List En) (p : ByteArray) (b : Int) (h : Row μ v 2 t.length (ens t)) (hsz : t.length ≤ 1048576) (hps : p.size ≤ 9223372036854775807) :
    Spec Try.prog 71 [v, .string p, .int .u32 b] [ro μ] (fun r L => L = [own 51 2 r (putE t p b).length (ens (putE t p b)), ro μ]) := by
  refine Spec.of 69 Try.func71 rfl rfl rfl ?_
  refine swp_seq ?_
  refine swp_region ?_
  refine s_pu (pu_assign rfl) ?_
  refine swl_sub _ (.cons (t := 0) rfl (.cons (t := 1) rfl (.cons (t := 2) rfl .nil))) ?_
  refine swl_nil ?_
  refine then_n ?_
  refine swp_seq ?_
  refine swp_region ?_
  refine s_pu (pu_move rfl) ?_
  refine s_pu (pu_len_row h rfl) ?_
  refine s_pu (pu_add_as ((t.length + 1 : Nat) : Int) rfl rfl (by omega) (by omega) (by omega)) ?_
  refine s_ef (ef_make0 (e := 51) (n := 2) rfl rfl (by omega) (by omega) (by simp only [maxLen]; omega)) ?_
  rintro v12
  skip
  refine s_pu (pu_assign rfl) ?_
  refine swl_sub _ (.cons (t := 0) rfl (.cons (t := 1) rfl (.cons (t := 2) rfl (.cons (t := 7) rfl .nil)))) ?_
  refine swl_nil ?_
  refine then_n ?_
  refine swp_seq ?_
  refine swp_seq ?_
  refine swp_region ?_
  refine s_pu (pu_move rfl) ?_
  refine s_pu (pu_strlen rfl) ?_
  refine s_pu (pu_gtr rfl rfl) ?_
  refine swl_sub _ (.cons (t := 0) rfl (.cons (t := 1) rfl (.cons (t := 2) rfl (.cons (t := 7) rfl (.cons (t := 15) rfl .nil))))) ?_
  refine swl_nil ?_
  refine then_n ?_
  refine swp_cond (b := _) rfl (fun h15 => ?_) (fun h15 => ?_)
  · skip   -- 15 T
    refine swp_seq ?_
    refine swp_region ?_
    refine s_pu (pu_move rfl) ?_
    refine s_pu (pu_move rfl) ?_
    refine s_ef (ef_append_ro h rfl rfl (by repeat (first | exact Split.nil | (apply Split.cons; (repeat (first | with_reducible exact Take.here | apply Take.there))))) (ens_one _) (by simp only [maxLen]; omega) (by omega)) ?_
    rintro v18 -
    rw [Nat.zero_add, List.nil_append]
    refine s_pu (pu_assign rfl) ?_
    refine swl_sub _ (.cons (t := 6) rfl .nil) ?_
    refine swl_nil ?_
    refine then_n ?_
    refine swp_ret ?_
    refine then_r ?_
    have h15' : 255 < p.size := by have := of_decide_eq_true h15; omega
    have e : putE t p b = t := by unfold putE; rw [if_pos h15']
    exact done_ret [own 51 2 v18 t.length (ens t), ro μ] (.tmp rfl .nil) (by rw [e]; rfl) (by repeat (first | exact Split.nil | (apply Split.cons; (repeat (first | with_reducible exact Take.here | apply Take.there)))))
  · skip   -- 15 F
    have h15' : ¬ 255 < p.size := by have := of_decide_eq_false h15; omega
    refine swp_skip ?_
    refine then_n ?_
    refine swp_seq ?_
    refine swp_region ?_
    refine s_pu (pu_assign rfl) ?_
    refine swl_sub _ (.cons (t := 0) rfl (.cons (t := 1) rfl (.cons (t := 2) rfl (.cons (t := 7) rfl (.cons (t := 8) rfl .nil))))) ?_
    refine swl_nil ?_
    refine then_n ?_
    refine swp_cut (fun env L => ∃ i v7, Sub env [(0, v), (1, .string p), (2, .int .u32 b), (7, v7), (8, .int .i64 (i : Nat))] ∧ L = [own 51 2 v7 i (ens (t.take i)), ro μ] ∧ i ≤ t.length ∧ t.takeWhile (ltP p) = t.take i ∧ t.dropWhile (ltP p) = t.drop i) ?_ ?_
    · skip
      refine swp_block ?_
      refine swp_loop (ι := Nat × Value) (fun k env L => env = [(0, v), (1, .string p), (2, .int .u32 b), (7, k.2), (8, .int .i64 (k.1 : Nat))] ∧ L = [own 51 2 k.2 k.1 (ens (t.take k.1)), ro μ] ∧ k.1 ≤ t.length ∧ (t.take k.1).all (ltP p) = true) (fun k => t.length - k.1) (0, v12) ⟨rfl, rfl, Nat.zero_le _, rfl⟩ ?_
      rintro ⟨i, v7⟩ env L ⟨rfl, rfl, hi, hall⟩
      simp only [] at hi hall
      dsimp only
      refine swp_seq ?_
      refine swp_seq ?_
      refine swp_region ?_
      refine s_pu (pu_move rfl) ?_
      refine s_pu (pu_move rfl) ?_
      refine s_pu (pu_len_row h rfl) ?_
      refine s_pu (pu_lss rfl rfl) ?_
      refine s_pu (pu_move rfl) ?_
      refine s_split 23 rfl (fun h23 => ?_) (fun h23 => ?_)
      · skip   -- 23 T
        have h23' : i < t.length := by have := of_decide_eq_true h23; omega
        obtain ⟨e, he⟩ : ∃ e, t[i]? = some e := ⟨_, List.getElem?_eq_getElem h23'⟩
        obtain ⟨gb, off, cap, hv, hra, hc0, hc1⟩ := tree_at h he
        refine s_on rfl rfl ?_
        refine s_pu (pu_move rfl) ?_
        refine s_on rfl rfl ?_
        refine s_pu (pu_move rfl) ?_
        refine s_on rfl rfl ?_
        refine s_pu (pu_indexAddr (off + i * 2) (congrArg some hv) rfl (by omega) (by omega) (by rw [Int.toNat_natCast])) ?_
        refine s_on rfl rfl ?_
        first | refine s_pu (pu_fieldAddr0 rfl) ?_ | refine s_pu (pu_fieldAddr rfl) ?_
        refine s_on rfl rfl ?_
        refine s_rd (rd_ro rfl hc0) ?_
        refine s_on rfl rfl ?_
        refine s_pu (pu_move rfl) ?_
        refine s_on rfl rfl ?_
        refine s_pu (pu_str_lss rfl rfl) ?_
        first | refine s_pu (pu_pick_t rfl rfl) ?_ | refine s_pu (pu_pick_f rfl rfl) ?_
        refine swl_sub _ (.cons (t := 0) rfl (.cons (t := 1) rfl (.cons (t := 2) rfl (.cons (t := 7) rfl (.cons (t := 8) rfl (.cons (t := 31) rfl .nil)))))) ?_
        refine swl_nil ?_
        refine then_n ?_
        refine swp_cond (b := _) rfl (fun h31 => ?_) (fun h31 => ?_)
        · skip   -- 31 T
          refine swp_skip ?_
          refine then_n ?_
          refine swp_block ?_
          refine swp_seq ?_
          refine swp_region ?_
          refine s_pu (pu_move rfl) ?_
          refine s_pu (pu_move rfl) ?_
          refine s_pu (pu_move rfl) ?_
          refine s_pu (pu_indexAddr (off + i * 2) (congrArg some hv) rfl (by omega) (by omega) (by rw [Int.toNat_natCast])) ?_
          refine s_rd (rd_roA rfl rfl hra) ?_
          refine s_ef (ef_bldS (qs := [(0, _)]) rfl rfl rfl) ?_
          intro b37
          refine s_ef (ef_append_lit (l := i) (m := 1) rfl rfl (by repeat (first | exact Split.nil | (apply Split.cons; (repeat (first | with_reducible exact Take.here | apply Take.there))))) (by simp only [maxLen]; omega) (by omega)) ?_
          rintro v38 -
          skip
          refine s_pu (pu_assign rfl) ?_
          refine swl_sub _ (.cons (t := 0) rfl (.cons (t := 1) rfl (.cons (t := 2) rfl (.cons (t := 7) rfl (.cons (t := 8) rfl .nil))))) ?_
          refine swl_nil ?_
          refine then_n ?_
          refine swp_region ?_
          refine s_pu (pu_move rfl) ?_
          refine s_pu (pu_add_as ((i + 1 : Nat) : Int) rfl rfl (by omega) (by omega) (by omega)) ?_
          refine s_pu (pu_assign rfl) ?_
          refine swl_sub _ (.cons (t := 0) rfl (.cons (t := 1) rfl (.cons (t := 2) rfl (.cons (t := 7) rfl (.cons (t := 8) rfl .nil))))) ?_
          refine swl_nil ?_
          refine block_n ?_
          refine then_n ⟨(i + 1, v38), ⟨rfl, by rw [ens_take he], h23', ?_⟩, by show t.length - (i + 1) < t.length - i; omega⟩
          show (t.take (i + 1)).all (ltP p) = true
          rw [List.take_add_one, he, List.all_append, hall]
          simp [ltP, h31]
        · skip   -- 31 F
          refine swp_exit ?_
          refine then_x ?_
          refine then_x ?_
          refine block_hit rfl ?_
          obtain ⟨k1, k2⟩ := while_at (p := p) hi hall (fun e' he' => by rw [he] at he'; cases he'; exact h31)
          exact then_n ⟨i, v7, ⟨rfl, rfl, rfl, rfl, rfl, trivial⟩, rfl, hi, k1, k2⟩
      · skip   -- 23 F
        refine s_off rfl rfl rfl ?_
        refine s_off rfl rfl rfl ?_
        refine s_off rfl rfl rfl ?_
        refine s_off rfl rfl rfl ?_
        refine s_off rfl rfl rfl ?_
        refine s_off rfl rfl rfl ?_
        refine s_off rfl rfl rfl ?_
        first | refine s_pu (pu_pick_t rfl rfl) ?_ | refine s_pu (pu_pick_f rfl rfl) ?_
        refine swl_sub _ (.cons (t := 0) rfl (.cons (t := 1) rfl (.cons (t := 2) rfl (.cons (t := 7) rfl (.cons (t := 8) rfl (.cons (t := 31) rfl .nil)))))) ?_
        refine swl_nil ?_
        refine then_n ?_
        refine swp_cond (b := _) rfl (fun h31 => by cases h31) (fun h31 => ?_)
        refine swp_exit ?_
        refine then_x ?_
        refine then_x ?_
        refine block_hit rfl ?_
        have h23' := of_decide_eq_false h23
        obtain ⟨k1, k2⟩ := while_at (p := p) hi hall (fun e' he' => by have := (List.getElem?_eq_some_iff.1 he').1; omega)
        exact then_n ⟨i, v7, ⟨rfl, rfl, rfl, rfl, rfl, trivial⟩, rfl, hi, k1, k2⟩
    rintro env L ⟨i, v7, hsub, rfl, hi, k1, k2⟩
    refine swp_sub _ hsub ?_
    clear hsub env
    refine swp_cut (fun env L => ∃ v7, Sub env [(0, v), (1, .string p), (7, v7), (8, .int .i64 (i : Nat))] ∧ L = [own 51 2 v7 (t.take i ++ (if b = 0 then [] else [(p, b)])).length (ens (t.take i ++ (if b = 0 then [] else [(p, b)]))), ro μ]) ?_ ?_
    · skip
      refine swp_seq ?_
      refine swp_region ?_
      refine s_pu (pu_move rfl) ?_
      refine s_pu (pu_neq rfl rfl) ?_
      refine swl_sub _ (.cons (t := 0) rfl (.cons (t := 1) rfl (.cons (t := 2) rfl (.cons (t := 7) rfl (.cons (t := 8) rfl (.cons (t := 42) rfl .nil)))))) ?_
      refine swl_nil ?_
      refine then_n ?_
      refine swp_cond (b := _) rfl (fun h42 => ?_) (fun h42 => ?_)
      · skip   -- 42 T
        refine swp_region ?_
        refine s_pu (pu_move rfl) ?_
        refine s_pu (pu_move rfl) ?_
        refine s_pu (pu_move rfl) ?_
        refine s_pu (pu_bld (qs := [(0, _), (1, _)]) rfl) ?_
        refine s_ef (ef_bldS (qs := [(0, _)]) rfl rfl rfl) ?_
        intro b47
        refine s_ef (ef_append_lit (l := i) (m := 1) rfl rfl (by repeat (first | exact Split.nil | (apply Split.cons; (repeat (first | with_reducible exact Take.here | apply Take.there))))) (by simp only [maxLen]; omega) (by omega)) ?_
        rintro v48 -
        skip
        refine s_pu (pu_assign rfl) ?_
        refine swl_sub _ (.cons (t := 0) rfl (.cons (t := 1) rfl (.cons (t := 7) rfl (.cons (t := 8) rfl .nil)))) ?_
        refine swl_nil ?_
        have hb : b ≠ 0 := by simpa using h42
        refine then_n ⟨v48, ⟨rfl, rfl, rfl, rfl, trivial⟩, ?_⟩
        rw [if_neg hb, ens_app, List.length_append, List.length_take, Nat.min_eq_left hi]; rfl
      · skip   -- 42 F
        refine swp_skip ?_
        have hb : b = 0 := by simpa using h42
        refine then_n ⟨v7, ⟨rfl, rfl, rfl, rfl, trivial⟩, ?_⟩
        rw [if_pos hb, List.append_nil, List.length_take, Nat.min_eq_left hi]
    rintro env L ⟨v7, hsub, rfl⟩
    refine swp_sub _ hsub ?_
    clear hsub env
    have hmid : (t.take i ++ (if b = 0 then [] else [(p, b)])).length ≤ t.length + 1 := by
      rw [List.length_append, List.length_take]; split <;> simp <;> omega
    generalize hpre : t.take i ++ (if b = 0 then [] else [(p, b)]) = pre at hmid
    refine swp_cut (fun env L => ∃ j, Sub env [(0, v), (7, v7), (8, .int .i64 (j : Nat))] ∧ L = [own 51 2 v7 pre.length (ens pre), ro μ] ∧ j ≤ t.length ∧ cutE p (t.drop i) = t.drop j) ?_ ?_
    · skip
      refine swp_seq ?_
      refine swp_region ?_
      refine s_pu (pu_move rfl) ?_
      refine s_pu (pu_move rfl) ?_
      refine s_pu (pu_len_row h rfl) ?_
      refine s_pu (pu_lss rfl rfl) ?_
      refine s_pu (pu_move rfl) ?_
      refine s_split 53 rfl (fun h53 => ?_) (fun h53 => ?_)
      · skip   -- 53 T
        have h53' : i < t.length := by have := of_decide_eq_true h53; omega
        obtain ⟨e, he⟩ : ∃ e, t[i]? = some e := ⟨_, List.getElem?_eq_getElem h53'⟩
        obtain ⟨gb, off, cap, hv, hra, hc0, hc1⟩ := tree_at h he
        have hdr : t.drop i = e :: t.drop (i + 1) := by
          rw [List.drop_eq_getElem_cons h53']; congr 1; rw [List.getElem?_eq_getElem h53'] at he; exact Option.some.inj he
        refine s_on rfl rfl ?_
        refine s_pu (pu_move rfl) ?_
        refine s_on rfl rfl ?_
        refine s_pu (pu_move rfl) ?_
        refine s_on rfl rfl ?_
        refine s_pu (pu_indexAddr (off + i * 2) (congrArg some hv) rfl (by omega) (by omega) (by rw [Int.toNat_natCast])) ?_
        refine s_on rfl rfl ?_
        first | refine s_pu (pu_fieldAddr0 rfl) ?_ | refine s_pu (pu_fieldAddr rfl) ?_
        refine s_on rfl rfl ?_
        refine s_rd (rd_ro rfl hc0) ?_
        refine s_on rfl rfl ?_
        refine s_pu (pu_move rfl) ?_
        refine s_on rfl rfl ?_
        refine s_pu (pu_str_eql rfl rfl) ?_
        first | refine s_pu (pu_pick_t rfl rfl) ?_ | refine s_pu (pu_pick_f rfl rfl) ?_
        refine swl_sub _ (.cons (t := 0) rfl (.cons (t := 7) rfl (.cons (t := 8) rfl (.cons (t := 61) rfl .nil)))) ?_
        refine swl_nil ?_
        refine then_n ?_
        refine swp_cond (b := _) rfl (fun h61 => ?_) (fun h61 => ?_)
        · skip   -- 61 T
          refine swp_region ?_
          refine s_pu (pu_move rfl) ?_
          refine s_pu (pu_add_as ((i + 1 : Nat) : Int) rfl rfl (by omega) (by omega) (by omega)) ?_
          refine s_pu (pu_assign rfl) ?_
          refine swl_sub _ (.cons (t := 0) rfl (.cons (t := 7) rfl (.cons (t := 8) rfl .nil))) ?_
          refine swl_nil ?_
          refine then_n ⟨i + 1, ⟨rfl, rfl, rfl, trivial⟩, rfl, h53', ?_⟩
          rw [hdr, cutE_cons, if_pos h61]
        · skip   -- 61 F
          refine swp_skip ?_
          refine then_n ⟨i, ⟨rfl, rfl, rfl, trivial⟩, rfl, hi, ?_⟩
          rw [hdr, cutE_cons, if_neg (by rw [h61]; exact Bool.false_ne_true)]
      · skip   -- 53 F
        refine s_off rfl rfl rfl ?_
        refine s_off rfl rfl rfl ?_
        refine s_off rfl rfl rfl ?_
        refine s_off rfl rfl rfl ?_
        refine s_off rfl rfl rfl ?_
        refine s_off rfl rfl rfl ?_
        refine s_off rfl rfl rfl ?_
        first | refine s_pu (pu_pick_t rfl rfl) ?_ | refine s_pu (pu_pick_f rfl rfl) ?_
        refine swl_sub _ (.cons (t := 0) rfl (.cons (t := 7) rfl (.cons (t := 8) rfl (.cons (t := 61) rfl .nil)))) ?_
        refine swl_nil ?_
        refine then_n ?_
        refine swp_cond (b := _) rfl (fun h61 => by cases h61) (fun h61 => ?_)
        refine swp_skip ?_
        have h53' := of_decide_eq_false h53
        refine then_n ⟨i, ⟨rfl, rfl, rfl, trivial⟩, rfl, hi, ?_⟩
        rw [List.drop_eq_nil_of_le (by omega)]; rfl
    rintro env L ⟨j, hsub, rfl, hj, hcut⟩
    refine swp_sub _ hsub ?_
    clear hsub env
    obtain ⟨vlo, hlo1, hlo2⟩ := Row.lo (P := Try.prog) (t := 44) h j hj
    have hdl : t.length - j = (t.drop j).length := by rw [List.length_drop]
    rw [← ens_drop] at hlo1
    have hput : putE t p b = pre ++ t.drop j := by
      unfold putE
      rw [if_neg h15', k1, k2, hpre, hcut]
    refine swp_seq ?_
    refine swp_region ?_
    refine s_pu (pu_move rfl) ?_
    refine s_pu (pu_move rfl) ?_
    refine s_pu (pu_move rfl) ?_
    refine s_pu (hlo2 _ _ _ .i64 _ rfl rfl rfl) ?_
    refine s_ef (ef_append_ro hlo1 rfl rfl (by repeat (first | exact Split.nil | (apply Split.cons; (repeat (first | with_reducible exact Take.here | apply Take.there))))) (ens_one _) (by simp only [maxLen]; omega) (by omega)) ?_
    rintro v68 -
    skip
    refine s_pu (pu_assign rfl) ?_
    refine swl_sub _ (.cons (t := 6) rfl .nil) ?_
    refine swl_nil ?_
    refine then_n ?_
    refine swp_ret ?_
    refine done_ret [own 51 2 v68 (pre.length + (t.length - j)) (ens pre ++ ens (t.drop j)), ro μ] (.tmp rfl .nil) ?_ (by repeat (first | exact Split.nil | (apply Split.cons; (repeat (first | with_reducible exact Take.here | apply Take.there)))))
    rw [hput, List.length_append, ens_app, hdl]; rfl
end SX
namespace SX
open Go Go.Proofs
end SX
namespace SX
open Go Go.Proofs
theorem ens_take2 (t : List En) (i : Nat) : ens (t.take i) = (ens t).take (i * 2) := by
  induction t generalizing i with
  | nil => simp [ens]
  | cons e t ih =>
    cases i with
    | zero => simp [ens]
    | succ i =>
      rw [List.take_succ_cons, Nat.succ_mul]
      show enc1 e ++ ens (t.take i) = _
      rw [ih]; rfl
def putsE (l : List En) : List En := l.foldl (fun t e => putE t e.1 e.2) []
theorem putsE_succ {l : List En} {i : Nat} {e : En} (h : l[i]? = some e) : putsE (l.take (i + 1)) = putE (putsE (l.take i)) e.1 e.2 := by
  unfold putsE
  rw [List.take_add_one, h, List.foldl_append]; rfl
set_option maxHeartbeats 1000000 in
theorem make_spec (μ : PH) (v : Value) (l : List En) (h : Row μ v 2 l.length (ens l)) (hsz : l.length ≤ 1048576) (hps : ∀ e ∈ l, e.1.size ≤ 255) :
    Spec Try.prog 57 [v] [ro μ] (fun r L => ∃ μ' tv, r = .tuple #[tv, .int .i64 0] ∧ Le μ μ' ∧ Row μ' tv 2 (makeE l).length (ens (makeE l)) ∧ L = [ro μ']) := by
  refine Spec.of 32 Try.func57 rfl rfl rfl ?_
  refine swp_seq ?_
  refine swp_region ?_
  refine s_pu (pu_assign rfl) ?_
  refine s_pu (pu_assign rfl) ?_
  refine swl_sub _ (.cons (t := 0) rfl .nil) ?_
  refine swl_nil ?_
  refine then_n ?_
  refine swp_seq ?_
  refine swp_region ?_
  refine s_pu (pu_assign rfl) ?_
  refine swl_sub _ (.cons (t := 0) rfl (.cons (t := 4) rfl .nil)) ?_
  refine swl_nil ?_
  refine then_n ?_
  refine swp_seq ?_
  refine swp_seq ?_
  refine swp_region ?_
  refine s_pu (pu_assign rfl) ?_
  refine swl_sub _ (.cons (t := 0) rfl (.cons (t := 4) rfl (.cons (t := 5) rfl .nil))) ?_
  refine swl_nil ?_
  refine then_n ?_
  refine swp_block ?_
  refine swp_loop (ι := Nat × PH × Value) (fun k env L => Sub env [(0, v), (4, k.2.2), (5, .int .i64 (k.1 : Nat))] ∧ L = [ro k.2.1] ∧ k.1 ≤ l.length ∧ Le μ k.2.1 ∧ Row k.2.1 k.2.2 2 (putsE (l.take k.1)).length (ens (putsE (l.take k.1)))) (fun k => l.length - k.1) (0, μ, .slice none 0 0) ⟨⟨rfl, rfl, rfl, trivial⟩, rfl, Nat.zero_le _, Le.refl _, Row.nil _ _⟩ ?_
  rintro ⟨i, μ1, tv⟩ env L ⟨hsub, rfl, hi, hle, hrow⟩
  simp only [] at hi hle hrow hsub
  refine swp_sub _ hsub ?_
  clear hsub env
  dsimp only
  have h1 := h.le hle
  refine swp_seq ?_
  refine swp_seq ?_
  refine swp_region ?_
  refine s_pu (pu_move rfl) ?_
  refine s_pu (pu_move rfl) ?_
  refine s_pu (pu_len_row h1 rfl) ?_
  refine s_pu (pu_lss rfl rfl) ?_
  refine swl_sub _ (.cons (t := 0) rfl (.cons (t := 4) rfl (.cons (t := 5) rfl (.cons (t := 9) rfl .nil)))) ?_
  refine swl_nil ?_
  refine then_n ?_
  refine swp_cond (b := _) rfl (fun h9 => ?_) (fun h9 => ?_)
  · skip   -- 9 T
    have h9' : i < l.length := by have := of_decide_eq_true h9; omega
    obtain ⟨e, he⟩ : ∃ e, l[i]? = some e := ⟨_, List.getElem?_eq_getElem h9'⟩
    obtain ⟨gb, off, cap, hv, hra, hc0, hc1⟩ := tree_at h1 he
    have hes := hps e (List.mem_of_getElem? he)
    have htl : (putsE (l.take i)).length ≤ i := by have := makeE_len (l.take i); rw [List.length_take] at this; exact Nat.le_trans this (Nat.min_le_left _ _)
    refine swp_skip ?_
    refine then_n ?_
    refine swp_seq ?_
    refine swp_block ?_
    refine swp_seq ?_
    refine swp_seq ?_
    refine swp_region ?_
    refine s_pu (pu_move rfl) ?_
    refine s_pu (pu_move rfl) ?_
    refine s_pu (pu_indexAddr (off + i * 2) (congrArg some hv) rfl (by omega) (by omega) (by rw [Int.toNat_natCast])) ?_
    first | refine s_pu (pu_fieldAddr0 rfl) ?_ | refine s_pu (pu_fieldAddr rfl) ?_
    refine s_rd (rd_ro rfl hc0) ?_
    refine s_pu (pu_strlen rfl) ?_
    refine s_pu (pu_gtr rfl rfl) ?_
    refine swl_sub _ (.cons (t := 0) rfl (.cons (t := 4) rfl (.cons (t := 5) rfl (.cons (t := 18) rfl .nil)))) ?_
    refine swl_nil ?_
    refine then_n ?_
    refine swp_cond (b := _) rfl (fun h18 => by have := of_decide_eq_true h18; omega) (fun h18 => ?_)
    refine swp_skip ?_
    refine then_n ?_
    refine swp_draw [5, 10] _ [] (by simp only [List.append_nil]; exact Ent.refl _) (by kernel_rfl) ?_
    refine d_pu 0 rfl (pu_move rfl) (by kernel_rfl) (by kernel_rfl) (by kernel_rfl) ?_
    refine d_pu 1 rfl (pu_move rfl) (by kernel_rfl) (by kernel_rfl) (by kernel_rfl) ?_
    refine d_pu 2 rfl (pu_move rfl) (by kernel_rfl) (by kernel_rfl) (by kernel_rfl) ?_
    refine d_pu 3 rfl (pu_indexAddr (off + i * 2) (congrArg some hv) rfl (by omega) (by omega) (by rw [Int.toNat_natCast])) (by kernel_rfl) (by kernel_rfl) (by kernel_rfl) ?_
    first | refine d_pu 4 rfl (pu_fieldAddr0 rfl) (by kernel_rfl) (by kernel_rfl) (by kernel_rfl) ?_ | refine d_pu 4 rfl (pu_fieldAddr rfl) (by kernel_rfl) (by kernel_rfl) (by kernel_rfl) ?_
    refine d_rd 5 rfl (rd_ro rfl hc0) rfl (by kernel_rfl) (by kernel_rfl) (by kernel_rfl) ?_
    refine d_pu 6 rfl (pu_move rfl) (by kernel_rfl) (by kernel_rfl) (by kernel_rfl) ?_
    refine d_pu 7 rfl (pu_move rfl) (by kernel_rfl) (by kernel_rfl) (by kernel_rfl) ?_
    refine d_pu 8 rfl (pu_indexAddr (off + i * 2) (congrArg some hv) rfl (by omega) (by omega) (by rw [Int.toNat_natCast])) (by kernel_rfl) (by kernel_rfl) (by kernel_rfl) ?_
    first | refine d_pu 9 rfl (pu_fieldAddr0 rfl) (by kernel_rfl) (by kernel_rfl) (by kernel_rfl) ?_ | refine d_pu 9 rfl (pu_fieldAddr rfl) (by kernel_rfl) (by kernel_rfl) (by kernel_rfl) ?_
    refine d_rd 10 rfl (rd_ro rfl hc1) rfl (by kernel_rfl) (by kernel_rfl) (by kernel_rfl) ?_
    first | refine d_fint 11 rfl (by kernel_rfl) (by kernel_rfl) (ef_fn (put_spec μ1 tv _ e.1 e.2 hrow (by omega) (by omega)) rfl rfl (by repeat (first | exact Split.nil | (apply Split.cons; (repeat (first | with_reducible exact Take.here | apply Take.there)))))) ?_ | refine d_finf 11 rfl (by kernel_rfl) (by kernel_rfl) (ef_fn (put_spec μ1 tv _ e.1 e.2 hrow (by omega) (by omega)) rfl rfl (by repeat (first | exact Split.nil | (apply Split.cons; (repeat (first | with_reducible exact Take.here | apply Take.there)))))) ?_
    rintro v30 L1 rfl
    refine swd_app ?_
    refine d_pu 12 rfl (pu_assign rfl) (by kernel_rfl) (by kernel_rfl) (by kernel_rfl) ?_
    refine d_sub _ (.cons (t := 0) rfl (.cons (t := 4) rfl (.cons (t := 5) rfl .nil))) ?_
    first | refine d_nilt (by kernel_rfl) ?_ | refine d_nilf (by kernel_rfl) ?_
    refine block_n ?_
    refine then_n ?_
    refine swp_share_own (v := v30) (μ := μ1) (by repeat (first | exact Split.nil | (apply Split.cons; (repeat (first | with_reducible exact Take.here | apply Take.there))))) fun μ2 h2 hrow2 => ?_
    rw [← putsE_succ he] at hrow2
    refine swp_region ?_
    refine s_pu (pu_move rfl) ?_
    refine s_pu (pu_add_as ((i + 1 : Nat) : Int) rfl rfl (by omega) (by omega) (by omega)) ?_
    refine s_pu (pu_assign rfl) ?_
    refine swl_sub _ (.cons (t := 0) rfl (.cons (t := 4) rfl (.cons (t := 5) rfl .nil))) ?_
    refine swl_nil ?_
    exact then_n ⟨(i + 1, μ2, v30), ⟨⟨rfl, rfl, rfl, trivial⟩, rfl, h9', hle.trans h2, hrow2⟩, by show l.length - (i + 1) < l.length - i; omega⟩
  · skip   -- 9 F
    have h9' := of_decide_eq_false h9
    obtain rfl : i = l.length := by omega
    rw [List.take_length] at hrow
    refine swp_exit ?_
    refine then_x ?_
    refine then_x ?_
    refine block_hit rfl ?_
    refine then_n ?_
    refine swp_seq ?_
    refine swp_region ?_
    refine s_pu (pu_move rfl) ?_
    refine s_pu (pu_assign rfl) ?_
    refine s_pu (pu_assign rfl) ?_
    refine swl_sub _ (.cons (t := 2) rfl (.cons (t := 3) rfl .nil)) ?_
    refine swl_nil ?_
    refine then_n ?_
    refine swp_ret ?_
    exact done_ret [ro μ1] (.tmp rfl (.tmp rfl .nil)) ⟨μ1, tv, rfl, hle, hrow, rfl⟩ (by repeat (first | exact Split.nil | (apply Split.cons; (repeat (first | with_reducible exact Take.here | apply Take.there)))))
set_option maxHeartbeats 1000000 in
theorem good_spec (μ : PH) (v : Value) (x : List En) (h : Row μ v 2 x.length (ens x)) :
    Spec Try.prog 28 [v] [ro μ] (fun r L => ∃ μ', Le μ μ' ∧ Row μ' r 2 (goodE x).length (ens (goodE x)) ∧ L = [ro μ']) := by
  obtain ⟨v12, hr12, hs12⟩ := Row.hi (P := Try.prog) (t := 44) h (min x.length 100) (Nat.min_le_left _ _)
  rw [← ens_take2] at hr12
  obtain ⟨y, hy⟩ : ∃ y, y = x.take (min x.length 100) := ⟨_, rfl⟩
  have hyl : y.length = min x.length 100 := by rw [hy, List.length_take]; omega
  have hyt : y = x.take 100 := by
    rw [hy]
    by_cases hx : x.length ≤ 100
    · rw [Nat.min_eq_left hx, List.take_length, List.take_of_length_le hx]
    · rw [Nat.min_eq_right (by omega)]
  rw [← hy, ← hyl] at hr12
  have hy100 : y.length ≤ 100 := by omega
  refine Spec.of 38 Try.func28 rfl rfl rfl ?_
  refine swp_seq ?_
  refine swp_region ?_
  refine s_pu (pu_assign rfl) ?_
  refine swl_sub _ (.cons (t := 0) rfl .nil) ?_
  refine swl_nil ?_
  refine then_n ?_
  refine swp_seq ?_
  refine swp_region ?_
  refine s_pu (pu_assign rfl) ?_
  refine swl_sub _ (.cons (t := 0) rfl (.cons (t := 3) rfl .nil)) ?_
  refine swl_nil ?_
  refine then_n ?_
  refine swp_seq ?_
  refine swp_seq ?_
  refine swp_region ?_
  refine s_pu (pu_move rfl) ?_
  refine s_pu (pu_move rfl) ?_
  refine s_pu (pu_len_row h rfl) ?_
  refine s_pu (pu_min2 rfl rfl) ?_
  refine s_pu (hs12 _ _ _ .i64 _ rfl rfl (by omega)) ?_
  refine s_pu (pu_len_row hr12 rfl) ?_
  refine s_pu (pu_move rfl) ?_
  refine swl_sub _ (.cons (t := 3) rfl (.cons (t := 12) rfl (.cons (t := 13) rfl (.cons (t := 14) rfl .nil)))) ?_
  refine swl_ent (own_nil_ent (e := 51) (n := 2)) ?_
  refine swl_nil ?_
  refine then_n ?_
  refine swp_block ?_
  refine swp_loop (ι := Nat × Value) (fun k env L => Sub env [(3, k.2), (12, v12), (13, .int .i64 (y.length : Nat)), (14, .int .i64 (k.1 : Nat))] ∧ Ent L [own 51 2 k.2 k.1 (ens ((y.take k.1).map cutP)), ro μ] ∧ k.1 ≤ y.length) (fun k => y.length - k.1) (0, .slice none 0 0) ⟨⟨rfl, rfl, rfl, rfl, trivial⟩, Ent.refl _, Nat.zero_le _⟩ ?_
  rintro ⟨i, cv⟩ env L ⟨hsub, hE, hi⟩
  simp only [] at hi hE hsub
  refine swp_sub _ hsub ?_
  refine swp_ent hE ?_
  clear hsub hE env L
  dsimp only
  refine swp_seq ?_
  refine swp_region ?_
  refine s_pu (pu_lss rfl rfl) ?_
  refine swl_sub _ (.cons (t := 3) rfl (.cons (t := 12) rfl (.cons (t := 13) rfl (.cons (t := 14) rfl (.cons (t := 15) rfl .nil))))) ?_
  refine swl_nil ?_
  refine then_n ?_
  refine swp_seq ?_
  refine swp_cond (b := _) rfl (fun h15 => ?_) (fun h15 => ?_)
  · skip   -- 15 T
    have h15' : i < y.length := by have := of_decide_eq_true h15; omega
    obtain ⟨e, he⟩ : ∃ e, y[i]? = some e := ⟨_, List.getElem?_eq_getElem h15'⟩
    obtain ⟨gb, off, cap, hv, hra, hc0, hc1⟩ := tree_at hr12 he
    refine swp_skip ?_
    refine then_n ?_
    refine swp_seq ?_
    refine swp_block ?_
    refine swp_seq ?_
    refine swp_region ?_
    refine s_pu (pu_indexAddr (off + i * 2) (congrArg some hv) rfl (by omega) (by omega) (by rw [Int.toNat_natCast])) ?_
    refine s_rd (rd_roA rfl rfl hra) ?_
    refine s_ef (ef_alloc) ?_
    intro b5
    refine s_ef0 (ef_storeA rfl rfl rfl rfl) ?_
    refine swl_sub _ (.cons (t := 3) rfl (.cons (t := 5) rfl (.cons (t := 12) rfl (.cons (t := 13) rfl (.cons (t := 14) rfl .nil))))) ?_
    refine swl_nil ?_
    refine then_n ?_
    refine swp_draw [2, 4, 9] _ [] (by simp only [List.append_nil]; exact Ent.refl _) (by kernel_rfl) ?_
    refine d_pu 0 rfl (pu_move rfl) (by kernel_rfl) (by kernel_rfl) (by kernel_rfl) ?_
    first | refine d_pu 1 rfl (pu_fieldAddr0 rfl) (by kernel_rfl) (by kernel_rfl) (by kernel_rfl) ?_ | refine d_pu 1 rfl (pu_fieldAddr rfl) (by kernel_rfl) (by kernel_rfl) (by kernel_rfl) ?_
    refine d_rd 2 rfl (rd_load rfl rfl) rfl (by kernel_rfl) (by kernel_rfl) (by kernel_rfl) ?_
    first | refine d_pu 3 rfl (pu_fieldAddr0 rfl) (by kernel_rfl) (by kernel_rfl) (by kernel_rfl) ?_ | refine d_pu 3 rfl (pu_fieldAddr rfl) (by kernel_rfl) (by kernel_rfl) (by kernel_rfl) ?_
    refine d_rd 4 rfl (rd_load rfl rfl) rfl (by kernel_rfl) (by kernel_rfl) (by kernel_rfl) ?_
    refine d_pu 5 rfl (pu_strlen rfl) (by kernel_rfl) (by kernel_rfl) (by kernel_rfl) ?_
    refine d_pu 6 rfl (pu_min2 rfl rfl) (by kernel_rfl) (by kernel_rfl) (by kernel_rfl) ?_
    refine d_pu 7 rfl (pu_str_hi (min e.1.size 255) rfl rfl (by omega) (Nat.min_le_left _ _)) (by kernel_rfl) (by kernel_rfl) (by kernel_rfl) ?_
    first | refine d_pu 8 rfl (pu_fieldAddr0 rfl) (by kernel_rfl) (by kernel_rfl) (by kernel_rfl) ?_ | refine d_pu 8 rfl (pu_fieldAddr rfl) (by kernel_rfl) (by kernel_rfl) (by kernel_rfl) ?_
    refine d_rd 9 rfl (rd_load rfl rfl) rfl (by kernel_rfl) (by kernel_rfl) (by kernel_rfl) ?_
    refine d_pu 10 rfl (pu_bld (qs := [(0, _), (1, _)]) rfl) (by kernel_rfl) (by kernel_rfl) (by kernel_rfl) ?_
    first | refine d_fint 11 rfl (by kernel_rfl) (by kernel_rfl) (ef_bldS (qs := [(0, _)]) rfl rfl rfl) ?_ | refine d_finf 11 rfl (by kernel_rfl) (by kernel_rfl) (ef_bldS (qs := [(0, _)]) rfl rfl rfl) ?_
    intro b29
    first | refine d_fint 12 rfl (by kernel_rfl) (by kernel_rfl) (ef_append_lit (l := i) (m := 1) rfl rfl (by repeat (first | exact Split.nil | (apply Split.cons; (repeat (first | with_reducible exact Take.here | apply Take.there))))) (by simp only [maxLen]; omega) (by omega)) ?_ | refine d_finf 12 rfl (by kernel_rfl) (by kernel_rfl) (ef_append_lit (l := i) (m := 1) rfl rfl (by repeat (first | exact Split.nil | (apply Split.cons; (repeat (first | with_reducible exact Take.here | apply Take.there))))) (by simp only [maxLen]; omega) (by omega)) ?_
    rintro v30 -
    skip
    refine d_pu 13 rfl (pu_assign rfl) (by kernel_rfl) (by kernel_rfl) (by kernel_rfl) ?_
    refine d_sub _ (.cons (t := 3) rfl (.cons (t := 12) rfl (.cons (t := 13) rfl (.cons (t := 14) rfl .nil)))) ?_
    first | refine d_nilt (by kernel_rfl) ?_ | refine d_nilf (by kernel_rfl) ?_
    refine block_n ?_
    refine then_n ?_
    refine swp_region ?_
    refine s_pu (pu_add_as ((i + 1 : Nat) : Int) rfl rfl (by omega) (by omega) (by omega)) ?_
    refine s_pu (pu_move rfl) ?_
    refine swl_sub _ (.cons (t := 3) rfl (.cons (t := 12) rfl (.cons (t := 13) rfl (.cons (t := 14) rfl .nil)))) ?_
    refine swl_nil ?_
    refine then_n ⟨(i + 1, v30), ⟨⟨rfl, rfl, rfl, rfl, trivial⟩, ?_, h15'⟩, by show y.length - (i + 1) < y.length - i; omega⟩
    have e1 : ens ((y.take (i + 1)).map cutP) = ens ((y.take i).map cutP) ++ [.string (e.1.extract 0 (min e.1.size 255)), .int .u32 e.2] := by
      rw [List.take_add_one, he, List.map_append, ens_app]; rfl
    show Ent _ [own 51 2 v30 (i + 1) (ens ((y.take (i + 1)).map cutP)), ro μ]
    rw [e1]
    exact Split.ent' (by repeat (first | exact Split.nil | (apply Split.cons; (repeat (first | with_reducible exact Take.here | apply Take.there)))))
  · skip   -- 15 F
    have h15' := of_decide_eq_false h15
    obtain rfl : i = y.length := by omega
    rw [List.take_length]
    refine swp_exit ?_
    refine then_x ?_
    refine then_x ?_
    refine block_hit rfl ?_
    refine then_n ?_
    refine swp_seq ?_
    refine swp_share_own (v := cv) (μ := μ) (by repeat (first | exact Split.nil | (apply Split.cons; (repeat (first | with_reducible exact Take.here | apply Take.there))))) fun μ2 h2 hrow2 => ?_
    have hl2 : y.length = (y.map cutP).length := by rw [List.length_map]
    rw [hl2] at hrow2
    have hsh : ∀ e ∈ y.map cutP, e.1.size ≤ 255 := by
      intro e he
      obtain ⟨d, _, rfl⟩ := List.mem_map.1 he
      show (d.1.extract 0 (min d.1.size 255)).size ≤ 255
      rw [ByteArray.size_extract]; omega
    refine swp_region ?_
    refine s_pu (pu_move rfl) ?_
    refine s_ef (ef_fn (make_spec μ2 cv (y.map cutP) hrow2 (by rw [← hl2]; omega) hsh) rfl rfl (by repeat (first | exact Split.nil | (apply Split.cons; (repeat (first | with_reducible exact Take.here | apply Take.there)))))) ?_
    rintro v34 L1 ⟨μ3, tv, rfl, h3, hrow3, rfl⟩
    refine swl_app ?_
    refine s_pu (pu_move rfl) ?_
    first | refine s_pu (pu_extractL rfl) ?_ | refine s_pu (pu_extract rfl rfl) ?_
    first | refine s_pu (pu_extractL rfl) ?_ | refine s_pu (pu_extract rfl rfl) ?_
    refine s_pu (pu_assign rfl) ?_
    refine s_pu (pu_assign rfl) ?_
    refine swl_sub _ (.cons (t := 6) rfl .nil) ?_
    refine swl_nil ?_
    refine then_n ?_
    refine swp_seq ?_
    refine swp_region ?_
    refine s_pu (pu_move rfl) ?_
    refine s_pu (pu_assign rfl) ?_
    refine swl_sub _ (.cons (t := 2) rfl .nil) ?_
    refine swl_nil ?_
    refine then_n ?_
    refine swp_ret ?_
    refine done_ret [ro μ3] (.tmp rfl .nil) ⟨μ3, h2.trans h3, ?_, rfl⟩ (by repeat (first | exact Split.nil | (apply Split.cons; (repeat (first | with_reducible exact Take.here | apply Take.there)))))
    unfold goodE
    rw [← hyt]; exact hrow3
end SX
namespace SX
open Go Go.Proofs
theorem mark_specZ {b o t : Int} (hb : U32 b) (ho : U32 o) (ht : U32 t) : Spec Try.prog 26 [.int .u32 b, .int .u32 o, .int .u32 t] [] (fun r L => r = .int .u32 (markZ b o t) ∧ L = []) := by
  have := mark_spec (BitVec.ofInt 32 b) (BitVec.ofInt 32 o) (BitVec.ofInt 32 t)
  rw [← hb.bv, ← ho.bv, ← ht.bv] at this; exact this
theorem rmark_specZ {b o t : Int} (hb : U32 b) (ho : U32 o) (ht : U32 t) : Spec Try.prog 27 [.int .u32 b, .int .u32 o, .int .u32 t] [] (fun r L => r = .int .u32 (markZ b o t) ∧ L = []) := by
  have := rmark_spec (BitVec.ofInt 32 b) (BitVec.ofInt 32 o) (BitVec.ofInt 32 t)
  rw [← hb.bv, ← ho.bv, ← ht.bv] at this; exact this
set_option maxHeartbeats 1000000 in
theorem one_spec {b o t : Int} (hb : U32 b) (ho : U32 o) (ht : U32 t) : Spec Try.prog 63 [.int .u32 b, .int .u32 o, .int .u32 t] [] (fun r L => r = .tuple #[.int .u32 (oneE b o t).1, .bool (oneE b o t).2] ∧ L = []) := by
  refine Spec.of 25 Try.func63 rfl rfl rfl ?_
  refine swp_seq ?_
  refine swp_region ?_
  refine s_pu (pu_assign rfl) ?_
  refine s_pu (pu_assign rfl) ?_
  refine swl_sub _ (.cons (t := 0) rfl (.cons (t := 1) rfl (.cons (t := 2) rfl .nil))) ?_
  refine swl_nil ?_
  refine then_n ?_
  refine swp_seq ?_
  refine swp_block ?_
  refine swp_seq ?_
  refine swp_seq ?_
  refine swp_region ?_
  refine s_pu (pu_move rfl) ?_
  refine s_pu (pu_move rfl) ?_
  refine s_pu (pu_eql rfl rfl) ?_
  refine s_pu (pu_assign rfl) ?_
  refine swl_sub _ (.cons (t := 0) rfl (.cons (t := 1) rfl (.cons (t := 2) rfl (.cons (t := 8) rfl .nil)))) ?_
  refine swl_nil ?_
  refine then_n ?_
  refine swp_cond (b := _) rfl (fun h8 => ?_) (fun h8 => ?_)
  · skip   -- 8 T
    have e8 := of_decide_eq_true h8
    refine swp_skip ?_
    refine then_n ?_
    refine swp_cond (b := _) rfl (fun h8 => ?_) (fun h8 => absurd e8 (of_decide_eq_false h8))
    refine swp_seq ?_
    refine swp_region ?_
    refine s_pu (pu_move rfl) ?_
    refine s_pu (pu_assign rfl) ?_
    refine s_pu (pu_assign rfl) ?_
    refine swl_sub _ (.cons (t := 6) rfl (.cons (t := 7) rfl .nil)) ?_
    refine swl_nil ?_
    refine then_n ?_
    refine swp_ret ?_
    refine block_r ?_
    refine then_r ?_
    refine done_ret [] (.tmp rfl (.tmp rfl .nil)) ⟨?_, rfl⟩ (by repeat (first | exact Split.nil | (apply Split.cons; (repeat (first | with_reducible exact Take.here | apply Take.there)))))
    unfold oneE; rw [if_pos (Or.inl e8)]; rfl
  · skip   -- 8 F
    have e8 := of_decide_eq_false h8
    refine swp_region ?_
    refine s_pu (pu_move rfl) ?_
    refine s_pu (pu_move rfl) ?_
    refine s_pu (pu_eql rfl rfl) ?_
    refine s_pu (pu_assign rfl) ?_
    refine swl_sub _ (.cons (t := 0) rfl (.cons (t := 1) rfl (.cons (t := 2) rfl (.cons (t := 8) rfl .nil)))) ?_
    refine swl_nil ?_
    refine then_n ?_
    refine swp_cond (b := _) rfl (fun h8 => ?_) (fun h8 => ?_)
    · skip   -- 8 T
      refine swp_seq ?_
      refine swp_region ?_
      refine s_pu (pu_move rfl) ?_
      refine s_pu (pu_assign rfl) ?_
      refine s_pu (pu_assign rfl) ?_
      refine swl_sub _ (.cons (t := 6) rfl (.cons (t := 7) rfl .nil)) ?_
      refine swl_nil ?_
      refine then_n ?_
      refine swp_ret ?_
      refine block_r ?_
      refine then_r ?_
      have h8' := of_decide_eq_true h8
      refine done_ret [] (.tmp rfl (.tmp rfl .nil)) ⟨?_, rfl⟩ (by repeat (first | exact Split.nil | (apply Split.cons; (repeat (first | with_reducible exact Take.here | apply Take.there)))))
      unfold oneE; rw [if_pos (Or.inr h8')]; rfl
    · skip   -- 8 F
      refine swp_seq ?_
      refine swp_region ?_
      refine s_pu (pu_move rfl) ?_
      refine s_pu (pu_move rfl) ?_
      refine s_pu (pu_eql rfl rfl) ?_
      refine s_pu (pu_assign rfl) ?_
      refine swl_sub _ (.cons (t := 0) rfl (.cons (t := 1) rfl (.cons (t := 2) rfl (.cons (t := 16) rfl .nil)))) ?_
      refine swl_nil ?_
      refine then_n ?_
      refine swp_cond (b := _) rfl (fun h16 => ?_) (fun h16 => ?_)
      · skip   -- 16 T
        refine swp_seq ?_
        refine swp_region ?_
        refine s_pu (pu_move rfl) ?_
        refine s_pu (pu_assign rfl) ?_
        refine s_pu (pu_assign rfl) ?_
        refine swl_sub _ (.cons (t := 6) rfl (.cons (t := 7) rfl .nil)) ?_
        refine swl_nil ?_
        refine then_n ?_
        refine swp_ret ?_
        refine block_r ?_
        refine then_r ?_
        have h8' := of_decide_eq_false h8
        have h16' := of_decide_eq_true h16
        refine done_ret [] (.tmp rfl (.tmp rfl .nil)) ⟨?_, rfl⟩ (by repeat (first | exact Split.nil | (apply Split.cons; (repeat (first | with_reducible exact Take.here | apply Take.there)))))
        unfold oneE; rw [if_neg (fun k => k.elim e8 h8'), if_pos h16']; rfl
      · skip   -- 16 F
        refine swp_skip ?_
        refine block_n ?_
        refine then_n ?_
        refine swp_seq ?_
        refine swp_region ?_
        refine s_pu (pu_move rfl) ?_
        refine s_pu (pu_move rfl) ?_
        refine s_pu (pu_move rfl) ?_
        refine s_ef (ef_fn (rmark_specZ hb ho ht) rfl rfl (by repeat (first | exact Split.nil | (apply Split.cons; (repeat (first | with_reducible exact Take.here | apply Take.there)))))) ?_
        rintro v24 L1 ⟨rfl, rfl⟩
        refine swl_app ?_
        refine s_pu (pu_assign rfl) ?_
        refine s_pu (pu_assign rfl) ?_
        refine swl_sub _ (.cons (t := 6) rfl (.cons (t := 7) rfl .nil)) ?_
        refine swl_nil ?_
        refine then_n ?_
        refine swp_ret ?_
        have h8' := of_decide_eq_false h8
        have h16' := of_decide_eq_false h16
        refine done_ret [] (.tmp rfl (.tmp rfl .nil)) ⟨?_, rfl⟩ (by repeat (first | exact Split.nil | (apply Split.cons; (repeat (first | with_reducible exact Take.here | apply Take.there)))))
        unfold oneE; rw [if_neg (fun k => k.elim e8 h8'), if_neg h16']; rfl
set_option maxHeartbeats 1000000 in
theorem at_walk (μ : PH) (v : Value) (l : List En) (p : ByteArray) (h : Row μ v 2 l.length (ens l)) (hsz : l.length ≤ 1048576) : Spec Try.prog 62 [v, .string p] [ro μ] (fun r L => ∃ v', r = .tuple #[.int .u32 (atE l p).1, v'] ∧ Row μ v' 2 (atE l p).2.length (ens (atE l p).2) ∧ L = [ro μ]) := by
  refine Spec.of 24 Try.func62 rfl rfl rfl ?_
  refine swp_seq ?_
  refine swp_region ?_
  refine s_pu (pu_assign rfl) ?_
  refine s_pu (pu_assign rfl) ?_
  refine swl_sub _ (.cons (t := 0) rfl (.cons (t := 1) rfl .nil)) ?_
  refine swl_nil ?_
  refine then_n ?_
  refine swp_seq ?_
  refine swp_seq ?_
  refine swp_region ?_
  refine s_pu (pu_move rfl) ?_
  refine s_pu (pu_len_row h rfl) ?_
  refine s_pu (pu_gtr rfl rfl) ?_
  refine s_pu (pu_move rfl) ?_
  refine s_split 9 rfl (fun h9 => ?_) (fun h9 => ?_)
  · skip   -- 9 T
    have h9' : 0 < l.length := by have := of_decide_eq_true h9; omega
    obtain ⟨e, r, rfl⟩ : ∃ e r, l = e :: r := by cases l with | nil => simp at h9' | cons e r => exact ⟨e, r, rfl⟩
    obtain ⟨gb, off, cap, hv, hra, hc0, hc1⟩ := tree_at h (i := 0) rfl
    obtain ⟨vlo, hlo1, hlo2⟩ := Row.lo (P := Try.prog) (t := 44) h 1 h9'
    rw [show (ens (e :: r)).drop (1 * 2) = ens r from rfl, show (e :: r).length - 1 = r.length from rfl] at hlo1
    refine s_on rfl rfl ?_
    refine s_pu (pu_move rfl) ?_
    refine s_on rfl rfl ?_
    refine s_pu (pu_indexAddr (off + 0 * 2) (congrArg some hv) rfl (by omega) (by omega) (by rfl)) ?_
    refine s_on rfl rfl ?_
    first | refine s_pu (pu_fieldAddr0 rfl) ?_ | refine s_pu (pu_fieldAddr rfl) ?_
    refine s_on rfl rfl ?_
    refine s_rd (rd_ro rfl hc0) ?_
    refine s_on rfl rfl ?_
    refine s_pu (pu_move rfl) ?_
    refine s_on rfl rfl ?_
    refine s_pu (pu_str_eql rfl rfl) ?_
    first | refine s_pu (pu_pick_t rfl rfl) ?_ | refine s_pu (pu_pick_f rfl rfl) ?_
    refine swl_sub _ (.cons (t := 0) rfl (.cons (t := 16) rfl .nil)) ?_
    refine swl_nil ?_
    refine then_n ?_
    refine swp_cond (b := _) rfl (fun h16 => ?_) (fun h16 => ?_)
    · skip   -- 16 T
      refine swp_seq ?_
      refine swp_draw [3] _ [] (by simp only [List.append_nil]; exact Ent.refl _) (by kernel_rfl) ?_
      refine d_pu 0 rfl (pu_move rfl) (by kernel_rfl) (by kernel_rfl) (by kernel_rfl) ?_
      refine d_pu 1 rfl (pu_indexAddr (off + 0 * 2) (congrArg some hv) rfl (by omega) (by omega) (by rfl)) (by kernel_rfl) (by kernel_rfl) (by kernel_rfl) ?_
      first | refine d_pu 2 rfl (pu_fieldAddr0 rfl) (by kernel_rfl) (by kernel_rfl) (by kernel_rfl) ?_ | refine d_pu 2 rfl (pu_fieldAddr rfl) (by kernel_rfl) (by kernel_rfl) (by kernel_rfl) ?_
      refine d_rd 3 rfl (rd_ro rfl hc1) rfl (by kernel_rfl) (by kernel_rfl) (by kernel_rfl) ?_
      refine d_pu 4 rfl (pu_move rfl) (by kernel_rfl) (by kernel_rfl) (by kernel_rfl) ?_
      refine d_pu 5 rfl (hlo2 _ _ _ .i64 _ rfl rfl rfl) (by kernel_rfl) (by kernel_rfl) (by kernel_rfl) ?_
      refine d_pu 6 rfl (pu_assign rfl) (by kernel_rfl) (by kernel_rfl) (by kernel_rfl) ?_
      refine d_pu 7 rfl (pu_assign rfl) (by kernel_rfl) (by kernel_rfl) (by kernel_rfl) ?_
      refine d_sub _ (.cons (t := 4) rfl (.cons (t := 5) rfl .nil)) ?_
      first | refine d_nilt (by kernel_rfl) ?_ | refine d_nilf (by kernel_rfl) ?_
      refine then_n ?_
      refine swp_ret ?_
      refine then_r ?_
      have e1 : atE (e :: r) p = (e.2, r) := by simp [atE, h16]
      rw [e1]
      exact done_ret [ro μ] (.tmp rfl (.tmp rfl .nil)) ⟨_, rfl, hlo1, rfl⟩ (by repeat (first | exact Split.nil | (apply Split.cons; (repeat (first | with_reducible exact Take.here | apply Take.there)))))
    · skip   -- 16 F
      refine swp_skip ?_
      refine then_n ?_
      refine swp_seq ?_
      refine swp_region ?_
      refine s_pu (pu_move rfl) ?_
      refine s_pu (pu_assign rfl) ?_
      refine s_pu (pu_assign rfl) ?_
      refine swl_sub _ (.cons (t := 4) rfl (.cons (t := 5) rfl .nil)) ?_
      refine swl_nil ?_
      refine then_n ?_
      refine swp_ret ?_
      have e1 : atE (e :: r) p = (0, e :: r) := by simp [atE, h16]
      rw [e1]
      exact done_ret [ro μ] (.tmp rfl (.tmp rfl .nil)) ⟨_, rfl, h, rfl⟩ (by repeat (first | exact Split.nil | (apply Split.cons; (repeat (first | with_reducible exact Take.here | apply Take.there)))))
  · skip   -- 9 F
    refine s_off rfl rfl rfl ?_
    refine s_off rfl rfl rfl ?_
    refine s_off rfl rfl rfl ?_
    refine s_off rfl rfl rfl ?_
    refine s_off rfl rfl rfl ?_
    refine s_off rfl rfl rfl ?_
    first | refine s_pu (pu_pick_t rfl rfl) ?_ | refine s_pu (pu_pick_f rfl rfl) ?_
    refine swl_sub _ (.cons (t := 0) rfl (.cons (t := 16) rfl .nil)) ?_
    refine swl_nil ?_
    refine then_n ?_
    refine swp_cond (b := _) rfl (fun h16 => by cases h16) (fun h16 => ?_)
    refine swp_skip ?_
    refine then_n ?_
    refine swp_seq ?_
    refine swp_region ?_
    refine s_pu (pu_move rfl) ?_
    refine s_pu (pu_assign rfl) ?_
    refine s_pu (pu_assign rfl) ?_
    refine swl_sub _ (.cons (t := 4) rfl (.cons (t := 5) rfl .nil)) ?_
    refine swl_nil ?_
    refine then_n ?_
    refine swp_ret ?_
    have h9' := of_decide_eq_false h9
    obtain rfl : l = [] := List.eq_nil_of_length_eq_zero (by omega)
    exact done_ret [ro μ] (.tmp rfl (.tmp rfl .nil)) ⟨_, rfl, h, rfl⟩ (by repeat (first | exact Split.nil | (apply Split.cons; (repeat (first | with_reducible exact Take.here | apply Take.there)))))
/-- the k-th of three -/
def thK {α : Type} (k : Nat) (a b c : α) : α := if k = 2 then c else if k = 1 then b else a
def lessK (k : Nat) (a b c : List En) : Option ByteArray := if k = 0 then none else if k = 1 then less1 none a else if k = 2 then less1 (less1 none a) b else leastE a b c
theorem lessK_succ {k : Nat} (hk : k < 3) (a b c : List En) : lessK (k + 1) a b c = less1 (lessK k a b c) (thK k a b c) := by
  rcases Nat.lt_or_ge k 1 with h | h
  · obtain rfl : k = 0 := by omega
    rfl
  · rcases Nat.lt_or_ge k 2 with h2 | h2
    · obtain rfl : k = 1 := by omega
      rfl
    · obtain rfl : k = 2 := by omega
      rfl
def strD (m : Option ByteArray) : ByteArray := m.getD ⟨#[]⟩
set_option maxHeartbeats 1000000 in
theorem least_walk (μ : PH) (va vb vc : Value) (a b c : List En) (ha : Row μ va 2 a.length (ens a)) (hb : Row μ vb 2 b.length (ens b)) (hc : Row μ vc 2 c.length (ens c)) (hsz : a.length ≤ 1048576 ∧ b.length ≤ 1048576 ∧ c.length ≤ 1048576) :
    Spec Try.prog 61 [va, vb, vc] [ro μ] (fun r L => r = .tuple #[.string (strD (leastE a b c)), .bool (leastE a b c).isSome] ∧ L = [ro μ]) := by
  refine Spec.of 44 Try.func61 rfl rfl rfl ?_
  refine swp_seq ?_
  refine swp_region ?_
  refine s_pu (pu_assign rfl) ?_
  refine s_pu (pu_assign rfl) ?_
  refine swl_sub _ (.cons (t := 0) rfl (.cons (t := 1) rfl (.cons (t := 2) rfl .nil))) ?_
  refine swl_nil ?_
  refine then_n ?_
  refine swp_seq ?_
  refine swp_region ?_
  refine s_pu (pu_assign rfl) ?_
  refine swl_sub _ (.cons (t := 0) rfl (.cons (t := 1) rfl (.cons (t := 2) rfl (.cons (t := 8) rfl .nil)))) ?_
  refine swl_nil ?_
  refine then_n ?_
  refine swp_seq ?_
  refine swp_region ?_
  refine s_pu (pu_assign rfl) ?_
  refine swl_sub _ (.cons (t := 0) rfl (.cons (t := 1) rfl (.cons (t := 2) rfl (.cons (t := 8) rfl (.cons (t := 9) rfl .nil))))) ?_
  refine swl_nil ?_
  refine then_n ?_
  refine swp_seq ?_
  refine swp_seq ?_
  refine swp_region ?_
  refine s_pu (pu_assign rfl) ?_
  refine swl_sub _ (.cons (t := 0) rfl (.cons (t := 1) rfl (.cons (t := 2) rfl (.cons (t := 8) rfl (.cons (t := 9) rfl (.cons (t := 10) rfl .nil)))))) ?_
  refine swl_nil ?_
  refine then_n ?_
  refine swp_block ?_
  refine swp_loop (ι := Nat) (fun k env L => Sub env [(0, va), (1, vb), (2, vc), (8, .string (strD (lessK k a b c))), (9, .bool (lessK k a b c).isSome), (10, .int .i64 (k : Nat))] ∧ L = [ro μ] ∧ k ≤ 3) (fun k => 3 - k) 0 ⟨⟨rfl, rfl, rfl, rfl, rfl, rfl, trivial⟩, rfl, Nat.zero_le _⟩ ?_
  rintro k env L ⟨hsub, rfl, hk⟩
  refine swp_sub _ hsub ?_
  clear hsub env
  generalize hm : lessK k a b c = m
  refine swp_seq ?_
  refine swp_seq ?_
  refine swp_region ?_
  refine s_pu (pu_move rfl) ?_
  refine s_pu (pu_lss rfl rfl) ?_
  refine swl_sub _ (.cons (t := 0) rfl (.cons (t := 1) rfl (.cons (t := 2) rfl (.cons (t := 8) rfl (.cons (t := 9) rfl (.cons (t := 10) rfl (.cons (t := 13) rfl .nil))))))) ?_
  refine swl_nil ?_
  refine then_n ?_
  refine swp_cond (b := _) rfl (fun h13 => ?_) (fun h13 => ?_)
  · skip   -- 13 T
    have h13' : k < 3 := by have := of_decide_eq_true h13; omega
    have hrow : Row μ (thK k va vb vc) 2 (thK k a b c).length (ens (thK k a b c)) ∧ (thK k a b c).length ≤ 1048576 := by
      unfold thK; split
      · exact ⟨hc, hsz.2.2⟩
      · split
        · exact ⟨hb, hsz.2.1⟩
        · exact ⟨ha, hsz.1⟩
    obtain ⟨hrow, hsl⟩ := hrow
    have hsucc := lessK_succ h13' a b c
    rw [hm] at hsucc
    refine swp_skip ?_
    refine then_n ?_
    refine swp_seq ?_
    refine swp_block ?_
    refine swp_seq ?_
    refine swp_region ?_
    refine s_pu (pu_move rfl) ?_
    refine s_pu (pu_assign rfl) ?_
    refine swl_sub _ (.cons (t := 0) rfl (.cons (t := 1) rfl (.cons (t := 2) rfl (.cons (t := 8) rfl (.cons (t := 9) rfl (.cons (t := 10) rfl (.cons (t := 11) rfl .nil))))))) ?_
    refine swl_nil ?_
    refine then_n ?_
    refine swp_cut (fun env L => Sub env [(0, va), (1, vb), (2, vc), (8, .string (strD m)), (9, .bool m.isSome), (10, .int .i64 (k : Nat)), (11, if k = 1 then vb else va)] ∧ L = [ro μ]) ?_ ?_
    · skip
      refine swp_seq ?_
      refine swp_region ?_
      refine s_pu (pu_move rfl) ?_
      refine s_pu (pu_eql rfl rfl) ?_
      refine swl_sub _ (.cons (t := 0) rfl (.cons (t := 1) rfl (.cons (t := 2) rfl (.cons (t := 8) rfl (.cons (t := 9) rfl (.cons (t := 10) rfl (.cons (t := 11) rfl (.cons (t := 18) rfl .nil)))))))) ?_
      refine swl_nil ?_
      refine then_n ?_
      refine swp_cond (b := _) rfl (fun h18 => ?_) (fun h18 => ?_)
      · skip   -- 18 T
        refine swp_region ?_
        refine s_pu (pu_move rfl) ?_
        refine s_pu (pu_assign rfl) ?_
        refine swl_sub _ (.cons (t := 0) rfl (.cons (t := 1) rfl (.cons (t := 2) rfl (.cons (t := 8) rfl (.cons (t := 9) rfl (.cons (t := 10) rfl (.cons (t := 11) rfl .nil))))))) ?_
        refine swl_nil ?_
        have h18' : k = 1 := by have := of_decide_eq_true h18; omega
        exact then_n ⟨⟨rfl, rfl, rfl, rfl, rfl, rfl, by rw [if_pos h18']; rfl, trivial⟩, rfl⟩
      · skip   -- 18 F
        refine swp_skip ?_
        have h18' : ¬ k = 1 := by have := of_decide_eq_false h18; omega
        exact then_n ⟨⟨rfl, rfl, rfl, rfl, rfl, rfl, by rw [if_neg h18']; rfl, trivial⟩, rfl⟩
    rintro env L ⟨hsub, rfl⟩
    refine swp_sub _ hsub ?_
    clear hsub env
    refine swp_cut (fun env L => Sub env [(0, va), (1, vb), (2, vc), (8, .string (strD m)), (9, .bool m.isSome), (10, .int .i64 (k : Nat)), (11, thK k va vb vc)] ∧ L = [ro μ]) ?_ ?_
    · skip
      refine swp_seq ?_
      refine swp_region ?_
      refine s_pu (pu_move rfl) ?_
      refine s_pu (pu_eql rfl rfl) ?_
      refine swl_sub _ (.cons (t := 0) rfl (.cons (t := 1) rfl (.cons (t := 2) rfl (.cons (t := 8) rfl (.cons (t := 9) rfl (.cons (t := 10) rfl (.cons (t := 11) rfl (.cons (t := 21) rfl .nil)))))))) ?_
      refine swl_nil ?_
      refine then_n ?_
      refine swp_cond (b := _) rfl (fun h21 => ?_) (fun h21 => ?_)
      · skip   -- 21 T
        refine swp_region ?_
        refine s_pu (pu_move rfl) ?_
        refine s_pu (pu_assign rfl) ?_
        refine swl_sub _ (.cons (t := 0) rfl (.cons (t := 1) rfl (.cons (t := 2) rfl (.cons (t := 8) rfl (.cons (t := 9) rfl (.cons (t := 10) rfl (.cons (t := 11) rfl .nil))))))) ?_
        refine swl_nil ?_
        have h21' : k = 2 := by have := of_decide_eq_true h21; omega
        exact then_n ⟨⟨rfl, rfl, rfl, rfl, rfl, rfl, by unfold thK; rw [if_pos h21']; rfl, trivial⟩, rfl⟩
      · skip   -- 21 F
        refine swp_skip ?_
        have h21' : ¬ k = 2 := by have := of_decide_eq_false h21; omega
        exact then_n ⟨⟨rfl, rfl, rfl, rfl, rfl, rfl, by unfold thK; rw [if_neg h21']; rfl, trivial⟩, rfl⟩
    rintro env L ⟨hsub, rfl⟩
    refine swp_sub _ hsub ?_
    clear hsub env
    generalize thK k va vb vc = v11 at hrow
    generalize thK k a b c = l at hrow hsl hsucc
    refine swp_seq ?_
    refine swp_region ?_
    refine s_pu (pu_move rfl) ?_
    refine s_pu (pu_len_row hrow rfl) ?_
    refine s_pu (pu_gtr rfl rfl) ?_
    refine s_pu (pu_move rfl) ?_
    refine s_split 26 rfl (fun h26 => ?_) (fun h26 => ?_)
    · skip   -- 26 T
      have h26' : 0 < l.length := by have := of_decide_eq_true h26; omega
      obtain ⟨e, r, rfl⟩ : ∃ e r, l = e :: r := by cases l with | nil => simp at h26' | cons e r => exact ⟨e, r, rfl⟩
      obtain ⟨gb, off, cap, hv, hra, hc0, hc1⟩ := tree_at hrow (i := 0) rfl
      refine s_on rfl rfl ?_
      refine s_pu (pu_move rfl) ?_
      refine s_on rfl rfl ?_
      refine s_pu (pu_not rfl) ?_
      refine s_on rfl rfl ?_
      refine s_pu (pu_move rfl) ?_
      refine s_split 29 rfl (fun h29 => ?_) (fun h29 => ?_)
      · skip   -- 29 T
        refine s_off rfl rfl rfl ?_
        refine s_off rfl rfl rfl ?_
        refine s_off rfl rfl rfl ?_
        refine s_off rfl rfl rfl ?_
        refine s_off rfl rfl rfl ?_
        refine s_off rfl rfl rfl ?_
        refine s_on rfl rfl ?_
        first | refine s_pu (pu_pick_t rfl rfl) ?_ | refine s_pu (pu_pick_f rfl rfl) ?_
        first | refine s_pu (pu_pick_t rfl rfl) ?_ | refine s_pu (pu_pick_f rfl rfl) ?_
        refine swl_sub _ (.cons (t := 0) rfl (.cons (t := 1) rfl (.cons (t := 2) rfl (.cons (t := 8) rfl (.cons (t := 9) rfl (.cons (t := 10) rfl (.cons (t := 11) rfl (.cons (t := 37) rfl .nil)))))))) ?_
        refine swl_nil ?_
        refine then_n ?_
        refine swp_cond (b := _) rfl (fun h37 => ?_) (fun h37 => by cases h37)
        refine swp_seq ?_
        refine swp_region ?_
        refine s_pu (pu_move rfl) ?_
        refine s_pu (pu_indexAddr (off + 0 * 2) (congrArg some hv) rfl (by omega) (by omega) (by rfl)) ?_
        first | refine s_pu (pu_fieldAddr0 rfl) ?_ | refine s_pu (pu_fieldAddr rfl) ?_
        refine s_rd (rd_ro rfl hc0) ?_
        refine s_pu (pu_assign rfl) ?_
        refine swl_sub _ (.cons (t := 0) rfl (.cons (t := 1) rfl (.cons (t := 2) rfl (.cons (t := 8) rfl (.cons (t := 10) rfl .nil))))) ?_
        refine swl_nil ?_
        refine then_n ?_
        refine swp_region ?_
        refine s_pu (pu_assign rfl) ?_
        refine swl_sub _ (.cons (t := 0) rfl (.cons (t := 1) rfl (.cons (t := 2) rfl (.cons (t := 8) rfl (.cons (t := 9) rfl (.cons (t := 10) rfl .nil)))))) ?_
        refine swl_nil ?_
        refine block_n ?_
        refine then_n ?_
        refine swp_region ?_
        refine s_pu (pu_move rfl) ?_
        refine s_pu (pu_add_as ((k + 1 : Nat) : Int) rfl rfl (by omega) (by omega) (by omega)) ?_
        refine s_pu (pu_assign rfl) ?_
        refine swl_sub _ (.cons (t := 0) rfl (.cons (t := 1) rfl (.cons (t := 2) rfl (.cons (t := 8) rfl (.cons (t := 9) rfl (.cons (t := 10) rfl .nil)))))) ?_
        refine swl_nil ?_
        have e1 : lessK (k + 1) a b c = some e.1 := by
          rw [hsucc]
          cases m with
          | none => rfl
          | some q => cases h29
        exact then_n ⟨k + 1, ⟨⟨rfl, rfl, rfl, by rw [e1]; rfl, by rw [e1]; rfl, rfl, trivial⟩, rfl, h13'⟩, by omega⟩
      · skip   -- 29 F
        refine s_on rfl rfl ?_
        refine s_pu (pu_move rfl) ?_
        refine s_on rfl rfl ?_
        refine s_pu (pu_indexAddr (off + 0 * 2) (congrArg some hv) rfl (by omega) (by omega) (by rfl)) ?_
        refine s_on rfl rfl ?_
        first | refine s_pu (pu_fieldAddr0 rfl) ?_ | refine s_pu (pu_fieldAddr rfl) ?_
        refine s_on rfl rfl ?_
        refine s_rd (rd_ro rfl hc0) ?_
        refine s_on rfl rfl ?_
        refine s_pu (pu_move rfl) ?_
        refine s_on rfl rfl ?_
        refine s_pu (pu_str_lss rfl rfl) ?_
        refine s_on rfl rfl ?_
        first | refine s_pu (pu_pick_t rfl rfl) ?_ | refine s_pu (pu_pick_f rfl rfl) ?_
        first | refine s_pu (pu_pick_t rfl rfl) ?_ | refine s_pu (pu_pick_f rfl rfl) ?_
        refine swl_sub _ (.cons (t := 0) rfl (.cons (t := 1) rfl (.cons (t := 2) rfl (.cons (t := 8) rfl (.cons (t := 9) rfl (.cons (t := 10) rfl (.cons (t := 11) rfl (.cons (t := 37) rfl .nil)))))))) ?_
        refine swl_nil ?_
        refine then_n ?_
        refine swp_cond (b := _) rfl (fun h37 => ?_) (fun h37 => ?_)
        · skip   -- 37 T
          refine swp_seq ?_
          refine swp_region ?_
          refine s_pu (pu_move rfl) ?_
          refine s_pu (pu_indexAddr (off + 0 * 2) (congrArg some hv) rfl (by omega) (by omega) (by rfl)) ?_
          first | refine s_pu (pu_fieldAddr0 rfl) ?_ | refine s_pu (pu_fieldAddr rfl) ?_
          refine s_rd (rd_ro rfl hc0) ?_
          refine s_pu (pu_assign rfl) ?_
          refine swl_sub _ (.cons (t := 0) rfl (.cons (t := 1) rfl (.cons (t := 2) rfl (.cons (t := 8) rfl (.cons (t := 10) rfl .nil))))) ?_
          refine swl_nil ?_
          refine then_n ?_
          refine swp_region ?_
          refine s_pu (pu_assign rfl) ?_
          refine swl_sub _ (.cons (t := 0) rfl (.cons (t := 1) rfl (.cons (t := 2) rfl (.cons (t := 8) rfl (.cons (t := 9) rfl (.cons (t := 10) rfl .nil)))))) ?_
          refine swl_nil ?_
          refine block_n ?_
          refine then_n ?_
          refine swp_region ?_
          refine s_pu (pu_move rfl) ?_
          refine s_pu (pu_add_as ((k + 1 : Nat) : Int) rfl rfl (by omega) (by omega) (by omega)) ?_
          refine s_pu (pu_assign rfl) ?_
          refine swl_sub _ (.cons (t := 0) rfl (.cons (t := 1) rfl (.cons (t := 2) rfl (.cons (t := 8) rfl (.cons (t := 9) rfl (.cons (t := 10) rfl .nil)))))) ?_
          refine swl_nil ?_
          have e1 : lessK (k + 1) a b c = some e.1 := by
            rw [hsucc]
            cases m with
            | none => rfl
            | some q =>
              have h37' : strLt e.1 q = true := h37
              simp [less1, h37']
          exact then_n ⟨k + 1, ⟨⟨rfl, rfl, rfl, by rw [e1]; rfl, by rw [e1]; rfl, rfl, trivial⟩, rfl, h13'⟩, by omega⟩
        · skip   -- 37 F
          refine swp_skip ?_
          refine block_n ?_
          refine then_n ?_
          refine swp_region ?_
          refine s_pu (pu_move rfl) ?_
          refine s_pu (pu_add_as ((k + 1 : Nat) : Int) rfl rfl (by omega) (by omega) (by omega)) ?_
          refine s_pu (pu_assign rfl) ?_
          refine swl_sub _ (.cons (t := 0) rfl (.cons (t := 1) rfl (.cons (t := 2) rfl (.cons (t := 8) rfl (.cons (t := 9) rfl (.cons (t := 10) rfl .nil)))))) ?_
          refine swl_nil ?_
          have e1 : lessK (k + 1) a b c = m := by
            rw [hsucc]
            cases m with
            | none => cases h29
            | some q =>
              have h37' : strLt e.1 q = false := h37
              simp [less1, h37']
          exact then_n ⟨k + 1, ⟨⟨rfl, rfl, rfl, by rw [e1]; rfl, by rw [e1]; rfl, rfl, trivial⟩, rfl, h13'⟩, by omega⟩
    · skip   -- 26 F
      refine s_off rfl rfl rfl ?_
      refine s_off rfl rfl rfl ?_
      refine s_off rfl rfl rfl ?_
      refine s_off rfl rfl rfl ?_
      refine s_off rfl rfl rfl ?_
      refine s_off rfl rfl rfl ?_
      refine s_off rfl rfl rfl ?_
      refine s_off rfl rfl rfl ?_
      refine s_off rfl rfl rfl ?_
      refine s_off rfl rfl rfl ?_
      first | refine s_pu (pu_pick_t rfl rfl) ?_ | refine s_pu (pu_pick_f rfl rfl) ?_
      refine swl_sub _ (.cons (t := 0) rfl (.cons (t := 1) rfl (.cons (t := 2) rfl (.cons (t := 8) rfl (.cons (t := 9) rfl (.cons (t := 10) rfl (.cons (t := 11) rfl (.cons (t := 37) rfl .nil)))))))) ?_
      refine swl_nil ?_
      refine then_n ?_
      refine swp_cond (b := _) rfl (fun h37 => by cases h37) (fun h37 => ?_)
      refine swp_skip ?_
      refine block_n ?_
      refine then_n ?_
      refine swp_region ?_
      refine s_pu (pu_move rfl) ?_
      refine s_pu (pu_add_as ((k + 1 : Nat) : Int) rfl rfl (by omega) (by omega) (by omega)) ?_
      refine s_pu (pu_assign rfl) ?_
      refine swl_sub _ (.cons (t := 0) rfl (.cons (t := 1) rfl (.cons (t := 2) rfl (.cons (t := 8) rfl (.cons (t := 9) rfl (.cons (t := 10) rfl .nil)))))) ?_
      refine swl_nil ?_
      have h26' := of_decide_eq_false h26
      obtain rfl : l = [] := List.eq_nil_of_length_eq_zero (by omega)
      have e1 : lessK (k + 1) a b c = m := hsucc
      exact then_n ⟨k + 1, ⟨⟨rfl, rfl, rfl, by rw [e1]; rfl, by rw [e1]; rfl, rfl, trivial⟩, rfl, h13'⟩, by omega⟩
  · skip   -- 13 F
    have h13' := of_decide_eq_false h13
    obtain rfl : k = 3 := by omega
    have e1 : leastE a b c = m := hm
    refine swp_exit ?_
    refine then_x ?_
    refine then_x ?_
    refine block_hit rfl ?_
    refine then_n ?_
    refine swp_seq ?_
    refine swp_region ?_
    refine s_pu (pu_move rfl) ?_
    refine s_pu (pu_move rfl) ?_
    refine s_pu (pu_assign rfl) ?_
    refine s_pu (pu_assign rfl) ?_
    refine swl_sub _ (.cons (t := 6) rfl (.cons (t := 7) rfl .nil)) ?_
    refine swl_nil ?_
    refine then_n ?_
    refine swp_ret ?_
    exact done_ret [ro μ] (.tmp rfl (.tmp rfl .nil)) ⟨by rw [e1]; rfl, rfl⟩ (by repeat (first | exact Split.nil | (apply Split.cons; (repeat (first | with_reducible exact Take.here | apply Take.there)))))
end SX
namespace SX
open Go Go.Proofs
theorem cfs_app (a b : List Cf) : cfs (a ++ b) = cfs a ++ cfs b := List.flatMap_append
theorem outR_add (R : List Rw) (p : ByteArray) {b o t : Int} (h : ¬ (oneE b o t).1 = 0) : (outR (R ++ [(p, b, o, t)])).length = (outR R).length + 1 ∧ ens (outR (R ++ [(p, b, o, t)])) = ens (outR R) ++ [.string p, .int .u32 (oneE b o t).1] := by
  have e : outR1 (p, b, o, t) = [(p, (oneE b o t).1)] := if_neg h
  rw [outR_succ, e, ens_app, List.length_append]; exact ⟨rfl, rfl⟩
theorem outR_same (R : List Rw) (p : ByteArray) {b o t : Int} (h : (oneE b o t).1 = 0) : outR (R ++ [(p, b, o, t)]) = outR R := by
  have e : outR1 (p, b, o, t) = [] := if_pos h
  rw [outR_succ, e, List.append_nil]
theorem cfR_add (R : List Rw) (p : ByteArray) {b o t : Int} (h : (oneE b o t).2 = true) : (cfR (R ++ [(p, b, o, t)])).length = (cfR R).length + 1 ∧ cfs (cfR (R ++ [(p, b, o, t)])) = cfs (cfR R) ++ [.string p, .int .u32 b, .int .u32 o, .int .u32 t] := by
  have e : cfR1 (p, b, o, t) = [(p, b, o, t)] := if_pos h
  rw [cfR_succ, e, cfs_app, List.length_append]; exact ⟨rfl, rfl⟩
theorem cfR_same (R : List Rw) (p : ByteArray) {b o t : Int} (h : (oneE b o t).2 = false) : cfR (R ++ [(p, b, o, t)]) = cfR R := by
  have e : cfR1 (p, b, o, t) = [] := if_neg (fun k => by rw [show (oneE b o t).2 = true from k] at h; cases h)
  rw [cfR_succ, e, List.append_nil]
structure RS where
  n : Nat
  a : List En
  b : List En
  c : List En
  va : Value
  vb : Value
  vc : Value
  R : List Rw
  v8 : Value
  v9 : Value
set_option maxHeartbeats 4000000 in
theorem rthree_spec (μ : PH) (va vb vc : Value) (a b c : List En) (ha : Row μ va 2 a.length (ens a)) (hb : Row μ vb 2 b.length (ens b)) (hc : Row μ vc 2 c.length (ens c)) (hsz : a.length ≤ 1048576 ∧ b.length ≤ 1048576 ∧ c.length ≤ 1048576)
    (hu : U32s a ∧ U32s b ∧ U32s c) : Spec Try.prog 32 [va, vb, vc] [ro μ] (fun r L => ∃ v8 v9 rs, rs = rowsF (a.length + b.length + c.length) a b c ∧ r = .tuple #[v8, v9] ∧ L = [own 51 2 v8 (outR rs).length (ens (outR rs)), own 70 4 v9 (cfR rs).length (cfs (cfR rs)), ro μ]) := by
  generalize hN : a.length + b.length + c.length = N
  refine Spec.of 70 Try.func32 rfl rfl rfl ?_
  refine swp_seq ?_
  refine swp_region ?_
  refine s_pu (pu_assign rfl) ?_
  refine s_pu (pu_assign rfl) ?_
  refine swl_sub _ (.cons (t := 0) rfl (.cons (t := 1) rfl (.cons (t := 2) rfl .nil))) ?_
  refine swl_nil ?_
  refine then_n ?_
  refine swp_seq ?_
  refine swp_region ?_
  refine s_pu (pu_assign rfl) ?_
  refine swl_sub _ (.cons (t := 0) rfl (.cons (t := 1) rfl (.cons (t := 2) rfl (.cons (t := 8) rfl .nil)))) ?_
  refine swl_nil ?_
  refine then_n ?_
  refine swp_seq ?_
  refine swp_region ?_
  refine s_pu (pu_assign rfl) ?_
  refine swl_sub _ (.cons (t := 0) rfl (.cons (t := 1) rfl (.cons (t := 2) rfl (.cons (t := 8) rfl (.cons (t := 9) rfl .nil))))) ?_
  refine swl_nil ?_
  refine then_n ?_
  refine swp_block ?_
  refine swp_ent (show Ent _ (own 51 2 (.slice none 0 0) (outR []).length (ens (outR [])) :: _) from own_nil_ent) ?_
  refine swp_ent (show Ent _ (own 70 4 (.slice none 0 0) (cfR []).length (cfs (cfR [])) :: _) from own_nil_ent) ?_
  refine swp_loop (ι := RS) (fun s env L => Sub env [(0, s.va), (1, s.vb), (2, s.vc), (8, s.v8), (9, s.v9)] ∧ Ent L [own 51 2 s.v8 (outR s.R).length (ens (outR s.R)), own 70 4 s.v9 (cfR s.R).length (cfs (cfR s.R)), ro μ] ∧
    (Row μ s.va 2 s.a.length (ens s.a) ∧ Row μ s.vb 2 s.b.length (ens s.b) ∧ Row μ s.vc 2 s.c.length (ens s.c)) ∧ (s.a.length ≤ 1048576 ∧ s.b.length ≤ 1048576 ∧ s.c.length ≤ 1048576) ∧ (U32s s.a ∧ U32s s.b ∧ U32s s.c) ∧
    s.a.length + s.b.length + s.c.length ≤ s.n ∧ s.R ++ rowsF s.n s.a s.b s.c = rowsF N a b c ∧ s.R.length + s.n ≤ N) (fun s => s.n) ⟨N, a, b, c, va, vb, vc, [], .slice none 0 0, .slice none 0 0⟩
    ⟨⟨rfl, rfl, rfl, rfl, rfl, trivial⟩, Split.ent' (by repeat (first | exact Split.nil | (apply Split.cons; (repeat (first | with_reducible exact Take.here | apply Take.there))))), ⟨ha, hb, hc⟩, hsz, hu, by rw [hN]; exact Nat.le_refl _, rfl, by simp⟩ ?_
  rintro ⟨n, a1, b1, c1, wa, wb, wc, R, v8, v9⟩ env L ⟨hsub, hE, ⟨ra, rb, rc⟩, hs1, ⟨ua, ub, uc⟩, hn, hR, hRn⟩
  simp only [] at hsub hE ra rb rc hs1 ua ub uc hn hR hRn
  refine swp_sub _ hsub ?_
  refine swp_ent hE ?_
  clear hsub hE env L
  dsimp only
  have hol := outR_len R
  have hcl := cfR_len R
  refine swp_block ?_
  refine swp_seq ?_
  refine swp_region ?_
  refine s_pu (pu_move rfl) ?_
  refine s_pu (pu_move rfl) ?_
  refine s_pu (pu_move rfl) ?_
  refine s_ef (ef_fn (least_walk μ wa wb wc a1 b1 c1 ra rb rc hs1) rfl rfl (by repeat (first | exact Split.nil | (apply Split.cons; (repeat (first | with_reducible exact Take.here | apply Take.there)))))) ?_
  rintro v21 L1 ⟨rfl, rfl⟩
  refine swl_app ?_
  refine s_pu (pu_move rfl) ?_
  first | refine s_pu (pu_extractL rfl) ?_ | refine s_pu (pu_extract rfl rfl) ?_
  first | refine s_pu (pu_extractL rfl) ?_ | refine s_pu (pu_extract rfl rfl) ?_
  refine s_pu (pu_assign rfl) ?_
  refine s_pu (pu_assign rfl) ?_
  refine swl_sub _ (.cons (t := 0) rfl (.cons (t := 1) rfl (.cons (t := 2) rfl (.cons (t := 8) rfl (.cons (t := 9) rfl (.cons (t := 10) rfl (.cons (t := 11) rfl .nil))))))) ?_
  refine swl_nil ?_
  refine then_n ?_
  refine swp_seq ?_
  refine swp_seq ?_
  refine swp_region ?_
  refine s_pu (pu_move rfl) ?_
  refine s_pu (pu_not rfl) ?_
  refine swl_sub _ (.cons (t := 0) rfl (.cons (t := 1) rfl (.cons (t := 2) rfl (.cons (t := 8) rfl (.cons (t := 9) rfl (.cons (t := 10) rfl (.cons (t := 25) rfl .nil))))))) ?_
  refine swl_nil ?_
  refine then_n ?_
  refine swp_cond (b := _) rfl (fun h25 => ?_) (fun h25 => ?_)
  · skip   -- 25 T
    have hno : leastE a1 b1 c1 = none := by
      cases hh : leastE a1 b1 c1 with
      | none => rfl
      | some p => rw [hh] at h25; cases h25
    rw [rowsF_none hno, List.append_nil] at hR
    refine swp_seq ?_
    refine swp_region ?_
    refine s_pu (pu_move rfl) ?_
    refine s_pu (pu_move rfl) ?_
    refine s_pu (pu_assign rfl) ?_
    refine s_pu (pu_assign rfl) ?_
    refine swl_sub _ (.cons (t := 6) rfl (.cons (t := 7) rfl .nil)) ?_
    refine swl_nil ?_
    refine then_n ?_
    refine swp_ret ?_
    refine then_r ?_
    refine block_r ?_
    refine then_r ?_
    refine block_r ?_
    exact done_ret [own 51 2 v8 (outR R).length (ens (outR R)), own 70 4 v9 (cfR R).length (cfs (cfR R)), ro μ] (.tmp rfl (.tmp rfl .nil)) ⟨v8, v9, R, hR, rfl, rfl⟩ (by repeat (first | exact Split.nil | (apply Split.cons; (repeat (first | with_reducible exact Take.here | apply Take.there)))))
  · skip   -- 25 F
    obtain ⟨p, hp⟩ : ∃ p, leastE a1 b1 c1 = some p := by
      cases hh : leastE a1 b1 c1 with
      | none => rw [hh] at h25; cases h25
      | some p => exact ⟨p, rfl⟩
    rw [hp, show strD (some p) = p from rfl]
    have htot := at_total hp
    have la1 := atE_len a1 p
    have lb1 := atE_len b1 p
    have lc1 := atE_len c1 p
    have hrow := rowsF_some (n := n - 1) hp
    rw [show n - 1 + 1 = n by omega] at hrow
    rw [hrow] at hR
    refine swp_skip ?_
    refine then_n ?_
    refine swp_seq ?_
    refine swp_region ?_
    refine s_pu (pu_assign rfl) ?_
    refine s_pu (pu_assign rfl) ?_
    refine s_pu (pu_assign rfl) ?_
    refine swl_sub _ (.cons (t := 0) rfl (.cons (t := 1) rfl (.cons (t := 2) rfl (.cons (t := 8) rfl (.cons (t := 9) rfl (.cons (t := 10) rfl .nil)))))) ?_
    refine swl_nil ?_
    refine then_n ?_
    refine swp_seq ?_
    refine swp_region ?_
    refine s_pu (pu_move rfl) ?_
    refine s_pu (pu_move rfl) ?_
    refine s_ef (ef_fn (at_walk μ wa a1 p ra hs1.1) rfl rfl (by repeat (first | exact Split.nil | (apply Split.cons; (repeat (first | with_reducible exact Take.here | apply Take.there)))))) ?_
    rintro v31 L1 ⟨wa', rfl, ra', rfl⟩
    refine swl_app ?_
    refine s_pu (pu_move rfl) ?_
    first | refine s_pu (pu_extractL rfl) ?_ | refine s_pu (pu_extract rfl rfl) ?_
    first | refine s_pu (pu_extractL rfl) ?_ | refine s_pu (pu_extract rfl rfl) ?_
    refine s_pu (pu_assign rfl) ?_
    refine s_pu (pu_assign rfl) ?_
    refine swl_sub _ (.cons (t := 0) rfl (.cons (t := 1) rfl (.cons (t := 2) rfl (.cons (t := 8) rfl (.cons (t := 9) rfl (.cons (t := 10) rfl (.cons (t := 12) rfl .nil))))))) ?_
    refine swl_nil ?_
    refine then_n ?_
    refine swp_seq ?_
    refine swp_region ?_
    refine s_pu (pu_move rfl) ?_
    refine s_pu (pu_move rfl) ?_
    refine s_ef (ef_fn (at_walk μ wb b1 p rb hs1.2.1) rfl rfl (by repeat (first | exact Split.nil | (apply Split.cons; (repeat (first | with_reducible exact Take.here | apply Take.there)))))) ?_
    rintro v37 L1 ⟨wb', rfl, rb', rfl⟩
    refine swl_app ?_
    refine s_pu (pu_move rfl) ?_
    first | refine s_pu (pu_extractL rfl) ?_ | refine s_pu (pu_extract rfl rfl) ?_
    first | refine s_pu (pu_extractL rfl) ?_ | refine s_pu (pu_extract rfl rfl) ?_
    refine s_pu (pu_assign rfl) ?_
    refine s_pu (pu_assign rfl) ?_
    refine swl_sub _ (.cons (t := 0) rfl (.cons (t := 1) rfl (.cons (t := 2) rfl (.cons (t := 8) rfl (.cons (t := 9) rfl (.cons (t := 10) rfl (.cons (t := 12) rfl (.cons (t := 13) rfl .nil)))))))) ?_
    refine swl_nil ?_
    refine then_n ?_
    refine swp_seq ?_
    refine swp_region ?_
    refine s_pu (pu_move rfl) ?_
    refine s_pu (pu_move rfl) ?_
    refine s_ef (ef_fn (at_walk μ wc c1 p rc hs1.2.2) rfl rfl (by repeat (first | exact Split.nil | (apply Split.cons; (repeat (first | with_reducible exact Take.here | apply Take.there)))))) ?_
    rintro v43 L1 ⟨wc', rfl, rc', rfl⟩
    refine swl_app ?_
    refine s_pu (pu_move rfl) ?_
    first | refine s_pu (pu_extractL rfl) ?_ | refine s_pu (pu_extract rfl rfl) ?_
    first | refine s_pu (pu_extractL rfl) ?_ | refine s_pu (pu_extract rfl rfl) ?_
    refine s_pu (pu_assign rfl) ?_
    refine s_pu (pu_assign rfl) ?_
    refine swl_sub _ (.cons (t := 0) rfl (.cons (t := 1) rfl (.cons (t := 2) rfl (.cons (t := 8) rfl (.cons (t := 9) rfl (.cons (t := 10) rfl (.cons (t := 12) rfl (.cons (t := 13) rfl (.cons (t := 14) rfl .nil))))))))) ?_
    refine swl_nil ?_
    refine then_n ?_
    refine swp_seq ?_
    refine swp_region ?_
    refine s_pu (pu_move rfl) ?_
    refine s_pu (pu_move rfl) ?_
    refine s_pu (pu_move rfl) ?_
    refine s_ef (ef_fn (one_spec (ua.at1 p) (ub.at1 p) (uc.at1 p)) rfl rfl (by repeat (first | exact Split.nil | (apply Split.cons; (repeat (first | with_reducible exact Take.here | apply Take.there)))))) ?_
    rintro v50 L1 ⟨rfl, rfl⟩
    refine swl_app ?_
    refine s_pu (pu_move rfl) ?_
    first | refine s_pu (pu_extractL rfl) ?_ | refine s_pu (pu_extract rfl rfl) ?_
    first | refine s_pu (pu_extractL rfl) ?_ | refine s_pu (pu_extract rfl rfl) ?_
    refine s_pu (pu_assign rfl) ?_
    refine s_pu (pu_assign rfl) ?_
    refine swl_sub _ (.cons (t := 0) rfl (.cons (t := 1) rfl (.cons (t := 2) rfl (.cons (t := 8) rfl (.cons (t := 9) rfl (.cons (t := 10) rfl (.cons (t := 12) rfl (.cons (t := 13) rfl (.cons (t := 14) rfl (.cons (t := 15) rfl (.cons (t := 16) rfl .nil))))))))))) ?_
    refine swl_nil ?_
    refine then_n ?_
    refine swp_cut (fun env L => ∃ v8', Sub env [(0, wa'), (1, wb'), (2, wc'), (8, v8'), (9, v9), (10, .string p), (12, .int .u32 (atE a1 p).1), (13, .int .u32 (atE b1 p).1), (14, .int .u32 (atE c1 p).1), (16, .bool (oneE (atE a1 p).1 (atE b1 p).1 (atE c1 p).1).2)] ∧
        Ent L [own 51 2 v8' (outR (R ++ [(p, (atE a1 p).1, (atE b1 p).1, (atE c1 p).1)])).length (ens (outR (R ++ [(p, (atE a1 p).1, (atE b1 p).1, (atE c1 p).1)]))), own 70 4 v9 (cfR R).length (cfs (cfR R)), ro μ]) ?_ ?_
    · skip
      refine swp_seq ?_
      refine swp_region ?_
      refine s_pu (pu_move rfl) ?_
      refine s_pu (pu_neq rfl rfl) ?_
      refine swl_sub _ (.cons (t := 0) rfl (.cons (t := 1) rfl (.cons (t := 2) rfl (.cons (t := 8) rfl (.cons (t := 9) rfl (.cons (t := 10) rfl (.cons (t := 12) rfl (.cons (t := 13) rfl (.cons (t := 14) rfl (.cons (t := 15) rfl (.cons (t := 16) rfl (.cons (t := 54) rfl .nil)))))))))))) ?_
      refine swl_nil ?_
      refine then_n ?_
      refine swp_cond (b := _) rfl (fun h54 => ?_) (fun h54 => ?_)
      · skip   -- 54 T
        refine swp_region ?_
        refine s_pu (pu_move rfl) ?_
        refine s_pu (pu_move rfl) ?_
        refine s_pu (pu_move rfl) ?_
        refine s_pu (pu_bld (qs := [(0, _), (1, _)]) rfl) ?_
        refine s_ef (ef_bldS (qs := [(0, _)]) rfl rfl rfl) ?_
        intro b59
        refine s_ef (ef_append_lit (l := (outR R).length) (m := 1) rfl rfl (by repeat (first | exact Split.nil | (apply Split.cons; (repeat (first | with_reducible exact Take.here | apply Take.there))))) (by simp only [maxLen]; omega) (by omega)) ?_
        rintro v60 -
        skip
        refine s_pu (pu_assign rfl) ?_
        refine swl_sub _ (.cons (t := 0) rfl (.cons (t := 1) rfl (.cons (t := 2) rfl (.cons (t := 8) rfl (.cons (t := 9) rfl (.cons (t := 10) rfl (.cons (t := 12) rfl (.cons (t := 13) rfl (.cons (t := 14) rfl (.cons (t := 16) rfl .nil)))))))))) ?_
        refine swl_nil ?_
        have h54' : ¬ (oneE (atE a1 p).1 (atE b1 p).1 (atE c1 p).1).1 = 0 := by simpa using h54
        refine then_n ⟨v60, ⟨rfl, rfl, rfl, rfl, rfl, rfl, rfl, rfl, rfl, rfl, trivial⟩, ?_⟩
        obtain ⟨q1, q2⟩ := outR_add R p h54'
        rw [q1, q2]
        exact Split.ent' (by repeat (first | exact Split.nil | (apply Split.cons; (repeat (first | with_reducible exact Take.here | apply Take.there)))))
      · skip   -- 54 F
        refine swp_skip ?_
        have h54' : (oneE (atE a1 p).1 (atE b1 p).1 (atE c1 p).1).1 = 0 := by simpa using h54
        refine then_n ⟨v8, ⟨rfl, rfl, rfl, rfl, rfl, rfl, rfl, rfl, rfl, rfl, trivial⟩, ?_⟩
        rw [outR_same R p h54']
        exact Split.ent' (by repeat (first | exact Split.nil | (apply Split.cons; (repeat (first | with_reducible exact Take.here | apply Take.there)))))
    rintro env L ⟨v8', hsub, hE⟩
    refine swp_sub _ hsub ?_
    refine swp_ent hE ?_
    clear hsub hE env L
    refine swp_seq ?_
    refine swp_region ?_
    refine s_pu (pu_move rfl) ?_
    refine swl_sub _ (.cons (t := 0) rfl (.cons (t := 1) rfl (.cons (t := 2) rfl (.cons (t := 8) rfl (.cons (t := 9) rfl (.cons (t := 10) rfl (.cons (t := 12) rfl (.cons (t := 13) rfl (.cons (t := 14) rfl (.cons (t := 61) rfl .nil)))))))))) ?_
    refine swl_nil ?_
    refine then_n ?_
    refine swp_cond (b := _) rfl (fun h61 => ?_) (fun h61 => ?_)
    · skip   -- 61 T
      refine swp_region ?_
      refine s_pu (pu_move rfl) ?_
      refine s_pu (pu_move rfl) ?_
      refine s_pu (pu_move rfl) ?_
      refine s_pu (pu_move rfl) ?_
      refine s_pu (pu_move rfl) ?_
      refine s_pu (pu_bld (qs := [(0, _), (1, _), (2, _), (3, _)]) rfl) ?_
      refine s_ef (ef_bldS (qs := [(0, _)]) rfl rfl rfl) ?_
      intro b68
      refine s_ef (ef_append_lit (l := (cfR R).length) (m := 1) rfl rfl (by repeat (first | exact Split.nil | (apply Split.cons; (repeat (first | with_reducible exact Take.here | apply Take.there))))) (by simp only [maxLen]; omega) (by omega)) ?_
      rintro v69 -
      skip
      refine s_pu (pu_assign rfl) ?_
      refine swl_sub _ (.cons (t := 0) rfl (.cons (t := 1) rfl (.cons (t := 2) rfl (.cons (t := 8) rfl (.cons (t := 9) rfl .nil))))) ?_
      refine swl_nil ?_
      refine block_n ?_
      refine then_n ⟨⟨n - 1, (atE a1 p).2, (atE b1 p).2, (atE c1 p).2, wa', wb', wc', R ++ [(p, (atE a1 p).1, (atE b1 p).1, (atE c1 p).1)], v8', v69⟩, ⟨⟨rfl, rfl, rfl, rfl, rfl, trivial⟩, ?_, ⟨ra', rb', rc'⟩, by dsimp only; omega, ⟨ua.at2 p, ub.at2 p, uc.at2 p⟩, by dsimp only; omega, by rw [List.append_assoc]; exact hR, by rw [List.length_append]; show R.length + 1 + (n - 1) ≤ N; omega⟩, by show n - 1 < n; omega⟩
      dsimp only
      obtain ⟨q1, q2⟩ := cfR_add R p h61
      rw [q1, q2]
      exact Split.ent' (by repeat (first | exact Split.nil | (apply Split.cons; (repeat (first | with_reducible exact Take.here | apply Take.there)))))
    · skip   -- 61 F
      refine swp_skip ?_
      refine block_n ?_
      refine then_n ⟨⟨n - 1, (atE a1 p).2, (atE b1 p).2, (atE c1 p).2, wa', wb', wc', R ++ [(p, (atE a1 p).1, (atE b1 p).1, (atE c1 p).1)], v8', v9⟩, ⟨⟨rfl, rfl, rfl, rfl, rfl, trivial⟩, ?_, ⟨ra', rb', rc'⟩, by dsimp only; omega, ⟨ua.at2 p, ub.at2 p, uc.at2 p⟩, by dsimp only; omega, by rw [List.append_assoc]; exact hR, by rw [List.length_append]; show R.length + 1 + (n - 1) ≤ N; omega⟩, by show n - 1 < n; omega⟩
      dsimp only
      rw [cfR_same R p h61]
      exact Split.ent' (by repeat (first | exact Split.nil | (apply Split.cons; (repeat (first | with_reducible exact Take.here | apply Take.there)))))
end SX
namespace SX
open Go Go.Proofs
abbrev sts (l : List ByteArray) : List Value := l.flatMap scsv
theorem sts_app (a b : List ByteArray) : sts (a ++ b) = sts a ++ sts b := List.flatMap_append
/-- the paths of the first i of three -/
def psK (a b c : List En) (i : Nat) : List ByteArray := ([a, b, c].take i).flatMap fun l => l.map (·.1)
theorem psK_succ {a b c l : List En} {i : Nat} (h : [a, b, c][i]? = some l) : psK a b c (i + 1) = psK a b c i ++ l.map (·.1) := by
  unfold psK; rw [List.take_add_one, h, List.flatMap_append]; simp
theorem psK_all (a b c : List En) : psK a b c 3 = a.map (·.1) ++ b.map (·.1) ++ c.map (·.1) := by
  simp [psK]
theorem psK_len {a b c : List En} {m : Nat} (hs : a.length ≤ m ∧ b.length ≤ m ∧ c.length ≤ m) {i : Nat} (hi : i ≤ 3) : (psK a b c i).length ≤ i * m := by
  unfold psK
  rcases Nat.lt_or_ge i 1 with h | h
  · obtain rfl : i = 0 := by omega
    simp
  · rcases Nat.lt_or_ge i 2 with h | h
    · obtain rfl : i = 1 := by omega
      simp; omega
    · rcases Nat.lt_or_ge i 3 with h | h
      · obtain rfl : i = 2 := by omega
        simp; omega
      · obtain rfl : i = 3 := by omega
        simp; omega
set_option maxHeartbeats 2000000 in
theorem paths_spec0 (μ : PH) (g : Nat) (va vb vc : Value) (a b c : List En) (ha : Row μ va 2 a.length (ens a)) (hb : Row μ vb 2 b.length (ens b)) (hc : Row μ vc 2 c.length (ens c)) (hsz : a.length ≤ 1048576 ∧ b.length ≤ 1048576 ∧ c.length ≤ 1048576) :
    Spec Try.prog 58 [.slice (some ⟨g, 0, none⟩) 3 3] [blk g 44 [va, vb, vc], ro μ] (fun r L => L = [own 9 1 r (cptS (srtS (psK a b c 3))).length (sts (cptS (srtS (psK a b c 3)))), ro μ]) := by
  have hT : ∀ i, i < 3 → ∃ l v, [a, b, c][i]? = some l ∧ [va, vb, vc][i]? = some v ∧ Row μ v 2 l.length (ens l) ∧ l.length ≤ 1048576 := by
    intro i hi
    rcases Nat.lt_or_ge i 1 with h | h
    · obtain rfl : i = 0 := by omega
      exact ⟨a, va, rfl, rfl, ha, hsz.1⟩
    · rcases Nat.lt_or_ge i 2 with h | h
      · obtain rfl : i = 1 := by omega
        exact ⟨b, vb, rfl, rfl, hb, hsz.2.1⟩
      · obtain rfl : i = 2 := by omega
        exact ⟨c, vc, rfl, rfl, hc, hsz.2.2⟩
  refine Spec.of 31 Try.func58 rfl rfl rfl ?_
  refine swp_seq ?_
  refine swp_region ?_
  refine s_pu (pu_assign rfl) ?_
  refine swl_sub _ (.cons (t := 0) rfl .nil) ?_
  refine swl_nil ?_
  refine then_n ?_
  refine swp_seq ?_
  refine swp_region ?_
  refine s_pu (pu_assign rfl) ?_
  refine swl_sub _ (.cons (t := 0) rfl (.cons (t := 3) rfl .nil)) ?_
  refine swl_nil ?_
  refine then_n ?_
  refine swp_seq ?_
  refine swp_seq ?_
  refine swp_region ?_
  refine s_pu (pu_move rfl) ?_
  refine s_pu (pu_len rfl) ?_
  refine s_pu (pu_move rfl) ?_
  refine swl_sub _ (.cons (t := 3) rfl (.cons (t := 8) rfl (.cons (t := 9) rfl (.cons (t := 10) rfl .nil)))) ?_
  refine swl_nil ?_
  refine then_n ?_
  refine swp_block ?_
  refine swp_ent (show Ent _ (own 9 1 (.slice none 0 0) (psK a b c 0).length (sts (psK a b c 0)) :: _) from own_nil_ent) ?_
  refine swp_loop (ι := Nat × Value) (fun k env L => Sub env [(3, k.2), (8, .slice (some ⟨g, 0, none⟩) 3 3), (9, .int .i64 3), (10, .int .i64 (k.1 : Nat))] ∧ Ent L [own 9 1 k.2 (psK a b c k.1).length (sts (psK a b c k.1)), blk g 44 [va, vb, vc], ro μ] ∧ k.1 ≤ 3) (fun k => 3 - k.1) (0, .slice none 0 0) ⟨⟨rfl, rfl, rfl, rfl, trivial⟩, Split.ent' (by repeat (first | exact Split.nil | (apply Split.cons; (repeat (first | with_reducible exact Take.here | apply Take.there))))), Nat.zero_le _⟩ ?_
  rintro ⟨i, v3⟩ env L ⟨hsub, hE, hi⟩
  simp only [] at hsub hE hi
  refine swp_sub _ hsub ?_
  refine swp_ent hE ?_
  clear hsub hE env L
  dsimp only
  refine swp_seq ?_
  refine swp_region ?_
  refine s_pu (pu_lss rfl rfl) ?_
  refine swl_sub _ (.cons (t := 3) rfl (.cons (t := 8) rfl (.cons (t := 9) rfl (.cons (t := 10) rfl (.cons (t := 11) rfl .nil))))) ?_
  refine swl_nil ?_
  refine then_n ?_
  refine swp_seq ?_
  refine swp_cond (b := _) rfl (fun h11 => ?_) (fun h11 => ?_)
  · skip   -- 11 T
    have h11' : i < 3 := by have := of_decide_eq_true h11; omega
    obtain ⟨l, vl, hl, hvl, hrow, hll⟩ := hT i h11'
    have hpl := psK_len hsz hi
    refine swp_skip ?_
    refine then_n ?_
    refine swp_seq ?_
    refine swp_block ?_
    refine swp_seq ?_
    refine swp_region ?_
    refine s_pu (pu_indexAddr i rfl rfl (by omega) (by omega) (by rw [Int.toNat_natCast]; omega)) ?_
    refine s_rd (rd_load rfl hvl) ?_
    refine s_pu (pu_assign rfl) ?_
    refine swl_sub _ (.cons (t := 3) rfl (.cons (t := 5) rfl (.cons (t := 8) rfl (.cons (t := 9) rfl (.cons (t := 10) rfl .nil))))) ?_
    refine swl_nil ?_
    refine then_n ?_
    refine swp_seq ?_
    refine swp_region ?_
    refine s_pu (pu_move rfl) ?_
    refine s_pu (pu_len_row hrow rfl) ?_
    refine s_pu (pu_move rfl) ?_
    refine swl_sub _ (.cons (t := 3) rfl (.cons (t := 8) rfl (.cons (t := 9) rfl (.cons (t := 10) rfl (.cons (t := 14) rfl (.cons (t := 15) rfl (.cons (t := 16) rfl .nil))))))) ?_
    refine swl_nil ?_
    refine then_n ?_
    refine swp_block ?_
    refine swp_ent (show Ent _ [own 9 1 v3 (psK a b c i ++ (l.take 0).map (·.1)).length (sts (psK a b c i ++ (l.take 0).map (·.1))), blk g 44 [va, vb, vc], ro μ] from (by rw [List.take_zero, List.map_nil, List.append_nil]; exact Split.ent' (by repeat (first | exact Split.nil | (apply Split.cons; (repeat (first | with_reducible exact Take.here | apply Take.there))))))) ?_
    refine swp_loop (ι := Nat × Value) (fun k env L => Sub env [(3, k.2), (8, .slice (some ⟨g, 0, none⟩) 3 3), (9, .int .i64 3), (10, .int .i64 (i : Nat)), (14, vl), (15, .int .i64 (l.length : Nat)), (16, .int .i64 (k.1 : Nat))] ∧ Ent L [own 9 1 k.2 (psK a b c i ++ (l.take k.1).map (·.1)).length (sts (psK a b c i ++ (l.take k.1).map (·.1))), blk g 44 [va, vb, vc], ro μ] ∧ k.1 ≤ l.length) (fun k => l.length - k.1) (0, v3) ⟨⟨rfl, rfl, rfl, rfl, rfl, rfl, rfl, trivial⟩, Split.ent' (by repeat (first | exact Split.nil | (apply Split.cons; (repeat (first | with_reducible exact Take.here | apply Take.there))))), Nat.zero_le _⟩ ?_
    rintro ⟨j, v4⟩ env L ⟨hsub, hE, hj⟩
    simp only [] at hsub hE hj
    refine swp_sub _ hsub ?_
    refine swp_ent hE ?_
    clear hsub hE env L
    dsimp only
    refine swp_seq ?_
    refine swp_region ?_
    refine s_pu (pu_lss rfl rfl) ?_
    refine swl_sub _ (.cons (t := 3) rfl (.cons (t := 8) rfl (.cons (t := 9) rfl (.cons (t := 10) rfl (.cons (t := 14) rfl (.cons (t := 15) rfl (.cons (t := 16) rfl (.cons (t := 17) rfl .nil)))))))) ?_
    refine swl_nil ?_
    refine then_n ?_
    refine swp_seq ?_
    refine swp_cond (b := _) rfl (fun h17 => ?_) (fun h17 => ?_)
    · skip   -- 17 T
      have h17' : j < l.length := by have := of_decide_eq_true h17; omega
      obtain ⟨e, he⟩ : ∃ e, l[j]? = some e := ⟨_, List.getElem?_eq_getElem h17'⟩
      obtain ⟨gb, off, cap, hv, hra, hc0, hc1⟩ := tree_at hrow he
      have hql : (psK a b c i ++ (l.take j).map (·.1)).length ≤ 4194304 := by rw [List.length_append, List.length_map, List.length_take]; omega
      refine swp_skip ?_
      refine then_n ?_
      refine swp_seq ?_
      refine swp_block ?_
      refine swp_seq ?_
      refine swp_region ?_
      refine s_pu (pu_indexAddr (off + j * 2) (congrArg some hv) rfl (by omega) (by omega) (by rw [Int.toNat_natCast])) ?_
      refine s_rd (rd_roA rfl rfl hra) ?_
      refine s_ef (ef_alloc) ?_
      intro b7
      refine s_ef0 (ef_storeA rfl rfl rfl rfl) ?_
      refine swl_sub _ (.cons (t := 3) rfl (.cons (t := 7) rfl (.cons (t := 8) rfl (.cons (t := 9) rfl (.cons (t := 10) rfl (.cons (t := 14) rfl (.cons (t := 15) rfl (.cons (t := 16) rfl .nil)))))))) ?_
      refine swl_nil ?_
      refine then_n ?_
      refine swp_region ?_
      refine s_pu (pu_move rfl) ?_
      first | refine s_pu (pu_fieldAddr0 rfl) ?_ | refine s_pu (pu_fieldAddr rfl) ?_
      refine s_rd (rd_load rfl rfl) ?_
      refine s_ef (ef_bldS (qs := [(0, _)]) rfl rfl rfl) ?_
      intro b23
      refine s_ef (ef_append_lit (m := 1) rfl rfl (by repeat (first | exact Split.nil | (apply Split.cons; (repeat (first | with_reducible exact Take.here | apply Take.there))))) (by simp only [maxLen]; omega) (by omega)) ?_
      rintro v24 -
      skip
      refine s_pu (pu_assign rfl) ?_
      refine swl_sub _ (.cons (t := 3) rfl (.cons (t := 8) rfl (.cons (t := 9) rfl (.cons (t := 10) rfl (.cons (t := 14) rfl (.cons (t := 15) rfl (.cons (t := 16) rfl .nil))))))) ?_
      refine swl_nil ?_
      refine block_n ?_
      refine then_n ?_
      refine swp_region ?_
      refine s_pu (pu_add_as ((j + 1 : Nat) : Int) rfl rfl (by omega) (by omega) (by omega)) ?_
      refine s_pu (pu_move rfl) ?_
      refine swl_sub _ (.cons (t := 3) rfl (.cons (t := 8) rfl (.cons (t := 9) rfl (.cons (t := 10) rfl (.cons (t := 14) rfl (.cons (t := 15) rfl (.cons (t := 16) rfl .nil))))))) ?_
      refine swl_nil ?_
      refine then_n ⟨(j + 1, v24), ⟨⟨rfl, rfl, rfl, rfl, rfl, rfl, rfl, trivial⟩, ?_, h17'⟩, by show l.length - (j + 1) < l.length - j; omega⟩
      have q0 : psK a b c i ++ (l.take (j + 1)).map (·.1) = (psK a b c i ++ (l.take j).map (·.1)) ++ [e.1] := by
        rw [List.take_add_one, he, List.map_append, List.append_assoc]; rfl
      have q1 : ∀ q : List ByteArray, (q ++ [e.1]).length = q.length + 1 ∧ sts (q ++ [e.1]) = sts q ++ [.string e.1] := fun q => ⟨by rw [List.length_append]; rfl, by rw [sts_app]; rfl⟩
      show Ent _ [own 9 1 v24 (psK a b c i ++ (l.take (j + 1)).map (·.1)).length (sts (psK a b c i ++ (l.take (j + 1)).map (·.1))), blk g 44 [va, vb, vc], ro μ]
      rw [q0, (q1 _).1, (q1 _).2]
      exact Split.ent' (by repeat (first | exact Split.nil | (apply Split.cons; (repeat (first | with_reducible exact Take.here | apply Take.there)))))
    · skip   -- 17 F
      have h17' := of_decide_eq_false h17
      obtain rfl : j = l.length := by omega
      rw [List.take_length, ← psK_succ hl]
      refine swp_exit ?_
      refine then_x ?_
      refine then_x ?_
      refine block_hit rfl ?_
      refine block_n ?_
      refine then_n ?_
      refine swp_region ?_
      refine s_pu (pu_add_as ((i + 1 : Nat) : Int) rfl rfl (by omega) (by omega) (by omega)) ?_
      refine s_pu (pu_move rfl) ?_
      refine swl_sub _ (.cons (t := 3) rfl (.cons (t := 8) rfl (.cons (t := 9) rfl (.cons (t := 10) rfl .nil)))) ?_
      refine swl_nil ?_
      exact then_n ⟨(i + 1, v4), ⟨⟨rfl, rfl, rfl, rfl, trivial⟩, Split.ent' (by repeat (first | exact Split.nil | (apply Split.cons; (repeat (first | with_reducible exact Take.here | apply Take.there))))), h11'⟩, by show 3 - (i + 1) < 3 - i; omega⟩
  · skip   -- 11 F
    have h11' := of_decide_eq_false h11
    obtain rfl : i = 3 := by omega
    have hpl := psK_len hsz (Nat.le_refl 3)
    refine swp_exit ?_
    refine then_x ?_
    refine then_x ?_
    refine block_hit rfl ?_
    refine then_n ?_
    refine swp_seq ?_
    refine swp_region ?_
    refine s_pu (pu_move rfl) ?_
    refine s_ef (ef_fn (sort_strs Try.slices_Sort_string Try.slices_Sort_string_none v3 (psK a b c 3) (by omega)) rfl rfl (by repeat (first | exact Split.nil | (apply Split.cons; (repeat (first | with_reducible exact Take.here | apply Take.there)))))) ?_
    rintro v28 L1 ⟨rfl, rfl⟩
    refine swl_app ?_
    refine swl_sub _ (.cons (t := 3) rfl .nil) ?_
    refine swl_nil ?_
    refine then_n ?_
    refine swp_seq ?_
    rw [← srtS_len (psK a b c 3)]
    refine swp_region ?_
    refine s_pu (pu_move rfl) ?_
    refine s_ef (ef_fn (compact_strs (e := 9) Try.slices_Compact_string Try.slices_Compact_string_empty v3 (srtS (psK a b c 3)) (by rw [srtS_len]; omega)) rfl rfl (by repeat (first | exact Split.nil | (apply Split.cons; (repeat (first | with_reducible exact Take.here | apply Take.there)))))) ?_
    rintro v30 L1 rfl
    refine swl_app ?_
    refine s_pu (pu_assign rfl) ?_
    refine swl_sub _ (.cons (t := 2) rfl .nil) ?_
    refine swl_nil ?_
    refine then_n ?_
    refine swp_ret ?_
    exact done_ret [own 9 1 v30 (cptS (srtS (psK a b c 3))).length (sts (cptS (srtS (psK a b c 3)))), ro μ] (.tmp rfl .nil) rfl (by repeat (first | exact Split.nil | (apply Split.cons; (repeat (first | with_reducible exact Take.here | apply Take.there)))))
theorem paths_spec (μ : PH) (g : Nat) (va vb vc : Value) (a b c : List En) (ha : Row μ va 2 a.length (ens a)) (hb : Row μ vb 2 b.length (ens b)) (hc : Row μ vc 2 c.length (ens c)) (hsz : a.length ≤ 1048576 ∧ b.length ≤ 1048576 ∧ c.length ≤ 1048576) :
    Spec Try.prog 58 [.slice (some ⟨g, 0, none⟩) 3 3] [blk g 44 [va, vb, vc], ro μ] (fun r L => L = [own 9 1 r (pathsE a b c).length (sts (pathsE a b c)), ro μ]) := by
  have := paths_spec0 μ g va vb vc a b c ha hb hc hsz
  rw [psK_all] at this; exact this
end SX
namespace SX
open Go Go.Proofs
theorem pathsE_len (a b c : List En) : (pathsE a b c).length ≤ a.length + b.length + c.length := by
  have := uniS_len (a.map (·.1) ++ b.map (·.1) ++ c.map (·.1))
  rw [List.length_append, List.length_append, List.length_map, List.length_map, List.length_map] at this
  exact this
set_option maxHeartbeats 4000000 in
theorem three_spec (μ : PH) (va vb vc : Value) (a b c : List En) (ha : Row μ va 2 a.length (ens a)) (hb : Row μ vb 2 b.length (ens b)) (hc : Row μ vc 2 c.length (ens c)) (hsz : a.length ≤ 1048576 ∧ b.length ≤ 1048576 ∧ c.length ≤ 1048576)
    (hu : U32s a ∧ U32s b ∧ U32s c) : Spec Try.prog 29 [va, vb, vc] [ro μ] (fun r L => ∃ v8 v9 μ', Le μ μ' ∧ r = .tuple #[v8, v9] ∧ L = [own 51 2 v8 (outR (rowsB a b c)).length (ens (outR (rowsB a b c))), own 70 4 v9 (cfR (rowsB a b c)).length (cfs (cfR (rowsB a b c))), ro μ']) := by
  have hpl := pathsE_len a b c
  generalize hrs : rowsB a b c = rs
  have hrl : rs.length = (pathsE a b c).length := by rw [← hrs]; unfold rowsB; rw [List.length_map]
  have hrg : ∀ i p, (pathsE a b c)[i]? = some p → rs[i]? = some (p, lookB a p, lookB b p, lookB c p) := fun i p h => by
    rw [← hrs]; unfold rowsB; rw [List.getElem?_map, h]; rfl
  have hps := fun g => paths_spec μ g va vb vc a b c ha hb hc hsz
  generalize pathsE a b c = ps at hpl hrl hrg hps
  obtain ⟨Aa, ca, hva⟩ := ha.sl
  obtain ⟨Ab, cb, hvb⟩ := hb.sl
  obtain ⟨Ac, cc, hvc⟩ := hc.sl
  subst hva hvb hvc
  refine Spec.of 73 Try.func29 rfl rfl rfl ?_
  refine swp_seq ?_
  refine swp_region ?_
  refine s_pu (pu_assign rfl) ?_
  refine s_pu (pu_assign rfl) ?_
  refine swl_sub _ (.cons (t := 0) rfl (.cons (t := 1) rfl (.cons (t := 2) rfl .nil))) ?_
  refine swl_nil ?_
  refine then_n ?_
  refine swp_seq ?_
  refine swp_region ?_
  refine s_pu (pu_assign rfl) ?_
  refine swl_sub _ (.cons (t := 0) rfl (.cons (t := 1) rfl (.cons (t := 2) rfl (.cons (t := 8) rfl .nil)))) ?_
  refine swl_nil ?_
  refine then_n ?_
  refine swp_seq ?_
  refine swp_region ?_
  refine s_pu (pu_assign rfl) ?_
  refine swl_sub _ (.cons (t := 0) rfl (.cons (t := 1) rfl (.cons (t := 2) rfl (.cons (t := 8) rfl (.cons (t := 9) rfl .nil))))) ?_
  refine swl_nil ?_
  refine then_n ?_
  refine swp_seq ?_
  refine swp_seq ?_
  refine swp_region ?_
  refine s_pu (pu_move rfl) ?_
  refine s_pu (pu_move rfl) ?_
  refine s_pu (pu_move rfl) ?_
  refine s_ef (ef_bldS (qs := [(0, _), (1, _), (2, _)]) rfl rfl rfl) ?_
  intro b19
  refine s_ef (ef_fn (hps b19) rfl rfl (by repeat (first | exact Split.nil | (apply Split.cons; (repeat (first | with_reducible exact Take.here | apply Take.there)))))) ?_
  rintro v20 L1 rfl
  refine swl_app ?_
  refine swl_share_own (v := v20) (μ := μ) (by repeat (first | exact Split.nil | (apply Split.cons; (repeat (first | with_reducible exact Take.here | apply Take.there))))) fun μ1 hle hrow => ?_
  have ra := ha.le hle
  have rb := hb.le hle
  have rc := hc.le hle
  refine s_pu (pu_len_row hrow rfl) ?_
  refine s_pu (pu_move rfl) ?_
  refine swl_sub _ (.cons (t := 0) rfl (.cons (t := 1) rfl (.cons (t := 2) rfl (.cons (t := 8) rfl (.cons (t := 9) rfl (.cons (t := 20) rfl (.cons (t := 21) rfl (.cons (t := 22) rfl .nil)))))))) ?_
  refine swl_nil ?_
  refine then_n ?_
  refine swp_block ?_
  refine swp_ent (show Ent _ (own 51 2 (.slice none 0 0) (outR (rs.take 0)).length (ens (outR (rs.take 0))) :: _) from own_nil_ent) ?_
  refine swp_ent (show Ent _ (own 70 4 (.slice none 0 0) (cfR (rs.take 0)).length (cfs (cfR (rs.take 0))) :: _) from own_nil_ent) ?_
  refine swp_loop (ι := Nat × Value × Value) (fun k env L => Sub env [(0, (.slice Aa a.length ca)), (1, (.slice Ab b.length cb)), (2, (.slice Ac c.length cc)), (8, k.2.1), (9, k.2.2), (20, v20), (21, .int .i64 (ps.length : Nat)), (22, .int .i64 (k.1 : Nat))] ∧ Ent L [own 51 2 k.2.1 (outR (rs.take k.1)).length (ens (outR (rs.take k.1))), own 70 4 k.2.2 (cfR (rs.take k.1)).length (cfs (cfR (rs.take k.1))), ro μ1] ∧ k.1 ≤ ps.length) (fun k => ps.length - k.1) (0, .slice none 0 0, .slice none 0 0) ⟨⟨rfl, rfl, rfl, rfl, rfl, rfl, rfl, rfl, trivial⟩, Split.ent' (by repeat (first | exact Split.nil | (apply Split.cons; (repeat (first | with_reducible exact Take.here | apply Take.there))))), Nat.zero_le _⟩ ?_
  rintro ⟨i, v8, v9⟩ env L ⟨hsub, hE, hi⟩
  simp only [] at hsub hE hi
  refine swp_sub _ hsub ?_
  refine swp_ent hE ?_
  clear hsub hE env L
  dsimp only
  refine swp_seq ?_
  refine swp_region ?_
  refine s_pu (pu_lss rfl rfl) ?_
  refine swl_sub _ (.cons (t := 0) rfl (.cons (t := 1) rfl (.cons (t := 2) rfl (.cons (t := 8) rfl (.cons (t := 9) rfl (.cons (t := 20) rfl (.cons (t := 21) rfl (.cons (t := 22) rfl (.cons (t := 23) rfl .nil))))))))) ?_
  refine swl_nil ?_
  refine then_n ?_
  refine swp_seq ?_
  refine swp_cond (b := _) rfl (fun h23 => ?_) (fun h23 => ?_)
  · skip   -- 23 T
    have h23' : i < ps.length := by have := of_decide_eq_true h23; omega
    obtain ⟨p, hp⟩ : ∃ p, ps[i]? = some p := ⟨_, List.getElem?_eq_getElem h23'⟩
    obtain ⟨gb, off, cap, hv, _, _, hr⟩ := hrow.pos (by omega)
    have hcp := hr.elem (f := scsv) (n := 1) scsv_len hp
    have hgp := hrg i p hp
    have htk : rs.take (i + 1) = rs.take i ++ [(p, lookB a p, lookB b p, lookB c p)] := by rw [List.take_add_one, hgp]; rfl
    have ua := hu.1.lookB p
    have ub := hu.2.1.lookB p
    have uc := hu.2.2.lookB p
    have hol : (outR (rs.take i)).length ≤ 4194304 := by have := outR_len (rs.take i); rw [List.length_take] at this; omega
    have hcl : (cfR (rs.take i)).length ≤ 4194304 := by have := cfR_len (rs.take i); rw [List.length_take] at this; omega
    refine swp_skip ?_
    refine then_n ?_
    refine swp_seq ?_
    refine swp_block ?_
    refine swp_seq ?_
    refine swp_region ?_
    refine s_pu (pu_indexAddr (off + i * 1) (congrArg some hv) rfl (by omega) (by omega) (by rw [Int.toNat_natCast])) ?_
    refine s_rd (rd_ro rfl hcp.cell) ?_
    refine s_pu (pu_assign rfl) ?_
    refine swl_sub _ (.cons (t := 0) rfl (.cons (t := 1) rfl (.cons (t := 2) rfl (.cons (t := 8) rfl (.cons (t := 9) rfl (.cons (t := 11) rfl (.cons (t := 20) rfl (.cons (t := 21) rfl (.cons (t := 22) rfl .nil))))))))) ?_
    refine swl_nil ?_
    refine then_n ?_
    refine swp_seq ?_
    refine swp_region ?_
    refine s_pu (pu_move rfl) ?_
    refine s_pu (pu_move rfl) ?_
    refine s_ef (ef_fn (look_spec μ1 (.slice Aa a.length ca) a p ra hsz.1) rfl rfl (by repeat (first | exact Split.nil | (apply Split.cons; (repeat (first | with_reducible exact Take.here | apply Take.there)))))) ?_
    rintro v28 L1 ⟨rfl, rfl⟩
    refine swl_app ?_
    refine s_pu (pu_move rfl) ?_
    refine s_pu (pu_move rfl) ?_
    refine s_ef (ef_fn (look_spec μ1 (.slice Ab b.length cb) b p rb hsz.2.1) rfl rfl (by repeat (first | exact Split.nil | (apply Split.cons; (repeat (first | with_reducible exact Take.here | apply Take.there)))))) ?_
    rintro v31 L1 ⟨rfl, rfl⟩
    refine swl_app ?_
    refine s_pu (pu_move rfl) ?_
    refine s_pu (pu_move rfl) ?_
    refine s_ef (ef_fn (look_spec μ1 (.slice Ac c.length cc) c p rc hsz.2.2) rfl rfl (by repeat (first | exact Split.nil | (apply Split.cons; (repeat (first | with_reducible exact Take.here | apply Take.there)))))) ?_
    rintro v34 L1 ⟨rfl, rfl⟩
    refine swl_app ?_
    refine s_pu (pu_assign rfl) ?_
    refine s_pu (pu_assign rfl) ?_
    refine s_pu (pu_assign rfl) ?_
    refine swl_sub _ (.cons (t := 0) rfl (.cons (t := 1) rfl (.cons (t := 2) rfl (.cons (t := 8) rfl (.cons (t := 9) rfl (.cons (t := 11) rfl (.cons (t := 12) rfl (.cons (t := 13) rfl (.cons (t := 14) rfl (.cons (t := 20) rfl (.cons (t := 21) rfl (.cons (t := 22) rfl .nil)))))))))))) ?_
    refine swl_nil ?_
    refine then_n ?_
    refine swp_seq ?_
    generalize lookB a p = xb at ua htk
    generalize lookB b p = xo at ub htk
    generalize lookB c p = xt at uc htk
    refine swp_region ?_
    refine s_pu (pu_move rfl) ?_
    refine s_pu (pu_assign rfl) ?_
    refine swl_sub _ (.cons (t := 0) rfl (.cons (t := 1) rfl (.cons (t := 2) rfl (.cons (t := 8) rfl (.cons (t := 9) rfl (.cons (t := 11) rfl (.cons (t := 12) rfl (.cons (t := 13) rfl (.cons (t := 14) rfl (.cons (t := 15) rfl (.cons (t := 20) rfl (.cons (t := 21) rfl (.cons (t := 22) rfl .nil))))))))))))) ?_
    refine swl_nil ?_
    refine then_n ?_
    refine swp_cut (fun env L => ∃ v9', Sub env [(0, (.slice Aa a.length ca)), (1, (.slice Ab b.length cb)), (2, (.slice Ac c.length cc)), (8, v8), (9, v9'), (11, .string p), (15, .int .u32 (oneE xb xo xt).1), (20, v20), (21, .int .i64 (ps.length : Nat)), (22, .int .i64 (i : Nat))] ∧ Ent L [own 51 2 v8 (outR (rs.take i)).length (ens (outR (rs.take i))), own 70 4 v9' (cfR (rs.take (i + 1))).length (cfs (cfR (rs.take (i + 1)))), ro μ1]) ?_ ?_
    · skip
      refine swp_block ?_
      refine swp_seq ?_
      refine swp_region ?_
      refine s_pu (pu_move rfl) ?_
      refine s_pu (pu_move rfl) ?_
      refine s_pu (pu_eql rfl rfl) ?_
      refine s_pu (pu_move rfl) ?_
      refine s_split 52 rfl (fun h52 => ?_) (fun h52 => ?_)
      · skip   -- 52 T
        refine s_off rfl rfl rfl ?_
        refine s_off rfl rfl rfl ?_
        refine s_off rfl rfl rfl ?_
        first | refine s_pu (pu_pick_t rfl rfl) ?_ | refine s_pu (pu_pick_f rfl rfl) ?_
        refine s_pu (pu_assign rfl) ?_
        refine swl_sub _ (.cons (t := 0) rfl (.cons (t := 1) rfl (.cons (t := 2) rfl (.cons (t := 8) rfl (.cons (t := 9) rfl (.cons (t := 11) rfl (.cons (t := 12) rfl (.cons (t := 13) rfl (.cons (t := 14) rfl (.cons (t := 15) rfl (.cons (t := 20) rfl (.cons (t := 21) rfl (.cons (t := 22) rfl (.cons (t := 48) rfl .nil)))))))))))))) ?_
        refine swl_nil ?_
        refine then_n ?_
        refine swp_cond (b := _) rfl (fun h48 => ?_) (fun h48 => by cases h48)
        refine swp_skip ?_
        refine block_n ?_
        have e1 : oneE xb xo xt = (xo, false) := if_pos (Or.inl (of_decide_eq_true h52))
        refine then_n ⟨v9, ⟨rfl, rfl, rfl, rfl, rfl, rfl, by rw [e1]; rfl, rfl, rfl, rfl, trivial⟩, ?_⟩
        rw [htk, cfR_same (rs.take i) p (show (oneE xb xo xt).2 = false by rw [e1])]
        exact Split.ent' (by repeat (first | exact Split.nil | (apply Split.cons; (repeat (first | with_reducible exact Take.here | apply Take.there)))))
      · skip   -- 52 F
        refine s_on rfl rfl ?_
        refine s_pu (pu_move rfl) ?_
        refine s_on rfl rfl ?_
        refine s_pu (pu_move rfl) ?_
        refine s_on rfl rfl ?_
        refine s_pu (pu_eql rfl rfl) ?_
        first | refine s_pu (pu_pick_t rfl rfl) ?_ | refine s_pu (pu_pick_f rfl rfl) ?_
        refine s_pu (pu_assign rfl) ?_
        refine swl_sub _ (.cons (t := 0) rfl (.cons (t := 1) rfl (.cons (t := 2) rfl (.cons (t := 8) rfl (.cons (t := 9) rfl (.cons (t := 11) rfl (.cons (t := 12) rfl (.cons (t := 13) rfl (.cons (t := 14) rfl (.cons (t := 15) rfl (.cons (t := 20) rfl (.cons (t := 21) rfl (.cons (t := 22) rfl (.cons (t := 48) rfl .nil)))))))))))))) ?_
        refine swl_nil ?_
        refine then_n ?_
        refine swp_cond (b := _) rfl (fun h48 => ?_) (fun h48 => ?_)
        · skip   -- 48 T
          refine swp_skip ?_
          refine block_n ?_
          have e1 : oneE xb xo xt = (xo, false) := if_pos (Or.inr (of_decide_eq_true h48))
          refine then_n ⟨v9, ⟨rfl, rfl, rfl, rfl, rfl, rfl, by rw [e1]; rfl, rfl, rfl, rfl, trivial⟩, ?_⟩
          rw [htk, cfR_same (rs.take i) p (show (oneE xb xo xt).2 = false by rw [e1])]
          exact Split.ent' (by repeat (first | exact Split.nil | (apply Split.cons; (repeat (first | with_reducible exact Take.here | apply Take.there)))))
        · skip   -- 48 F
          have k0 : ¬ (xo = xt ∨ xb = xt) := fun k => k.elim (of_decide_eq_false h52) (of_decide_eq_false h48)
          refine swp_seq ?_
          refine swp_region ?_
          refine s_pu (pu_move rfl) ?_
          refine s_pu (pu_move rfl) ?_
          refine s_pu (pu_eql rfl rfl) ?_
          refine s_pu (pu_assign rfl) ?_
          refine swl_sub _ (.cons (t := 0) rfl (.cons (t := 1) rfl (.cons (t := 2) rfl (.cons (t := 8) rfl (.cons (t := 9) rfl (.cons (t := 11) rfl (.cons (t := 12) rfl (.cons (t := 13) rfl (.cons (t := 14) rfl (.cons (t := 20) rfl (.cons (t := 21) rfl (.cons (t := 22) rfl (.cons (t := 57) rfl .nil))))))))))))) ?_
          refine swl_nil ?_
          refine then_n ?_
          refine swp_cond (b := _) rfl (fun h57 => ?_) (fun h57 => ?_)
          · skip   -- 57 T
            refine swp_region ?_
            refine s_pu (pu_move rfl) ?_
            refine s_pu (pu_assign rfl) ?_
            refine swl_sub _ (.cons (t := 0) rfl (.cons (t := 1) rfl (.cons (t := 2) rfl (.cons (t := 8) rfl (.cons (t := 9) rfl (.cons (t := 11) rfl (.cons (t := 15) rfl (.cons (t := 20) rfl (.cons (t := 21) rfl (.cons (t := 22) rfl .nil)))))))))) ?_
            refine swl_nil ?_
            refine block_n ?_
            have e1 : oneE xb xo xt = (xt, false) := by unfold oneE; rw [if_neg k0, if_pos (of_decide_eq_true h57)]
            refine then_n ⟨v9, ⟨rfl, rfl, rfl, rfl, rfl, rfl, by rw [e1]; rfl, rfl, rfl, rfl, trivial⟩, ?_⟩
            rw [htk, cfR_same (rs.take i) p (show (oneE xb xo xt).2 = false by rw [e1])]
            exact Split.ent' (by repeat (first | exact Split.nil | (apply Split.cons; (repeat (first | with_reducible exact Take.here | apply Take.there)))))
          · skip   -- 57 F
            refine swp_seq ?_
            refine swp_region ?_
            refine s_pu (pu_move rfl) ?_
            refine s_pu (pu_move rfl) ?_
            refine s_pu (pu_move rfl) ?_
            refine s_ef (ef_fn (mark_specZ ua ub uc) rfl rfl (by repeat (first | exact Split.nil | (apply Split.cons; (repeat (first | with_reducible exact Take.here | apply Take.there)))))) ?_
            rintro v39 L1 ⟨rfl, rfl⟩
            refine swl_app ?_
            refine s_pu (pu_assign rfl) ?_
            refine swl_sub _ (.cons (t := 0) rfl (.cons (t := 1) rfl (.cons (t := 2) rfl (.cons (t := 8) rfl (.cons (t := 9) rfl (.cons (t := 11) rfl (.cons (t := 12) rfl (.cons (t := 13) rfl (.cons (t := 14) rfl (.cons (t := 15) rfl (.cons (t := 20) rfl (.cons (t := 21) rfl (.cons (t := 22) rfl .nil))))))))))))) ?_
            refine swl_nil ?_
            refine then_n ?_
            refine swp_region ?_
            refine s_pu (pu_move rfl) ?_
            refine s_pu (pu_move rfl) ?_
            refine s_pu (pu_move rfl) ?_
            refine s_pu (pu_move rfl) ?_
            refine s_pu (pu_move rfl) ?_
            refine s_pu (pu_bld (qs := [(0, _), (1, _), (2, _), (3, _)]) rfl) ?_
            refine s_ef (ef_bldS (qs := [(0, _)]) rfl rfl rfl) ?_
            intro b46
            refine s_ef (ef_append_lit (l := (cfR (rs.take i)).length) (m := 1) rfl rfl (by repeat (first | exact Split.nil | (apply Split.cons; (repeat (first | with_reducible exact Take.here | apply Take.there))))) (by simp only [maxLen]; omega) (by omega)) ?_
            rintro v47 -
            skip
            refine s_pu (pu_assign rfl) ?_
            refine swl_sub _ (.cons (t := 0) rfl (.cons (t := 1) rfl (.cons (t := 2) rfl (.cons (t := 8) rfl (.cons (t := 9) rfl (.cons (t := 11) rfl (.cons (t := 15) rfl (.cons (t := 20) rfl (.cons (t := 21) rfl (.cons (t := 22) rfl .nil)))))))))) ?_
            refine swl_nil ?_
            refine block_n ?_
            have e1 : oneE xb xo xt = (markZ xb xo xt, true) := by unfold oneE; rw [if_neg k0, if_neg (of_decide_eq_false h57)]
            refine then_n ⟨v47, ⟨rfl, rfl, rfl, rfl, rfl, rfl, by rw [e1]; rfl, rfl, rfl, rfl, trivial⟩, ?_⟩
            obtain ⟨q1, q2⟩ := cfR_add (rs.take i) p (show (oneE xb xo xt).2 = true by rw [e1])
            rw [htk, q1, q2]
            exact Split.ent' (by repeat (first | exact Split.nil | (apply Split.cons; (repeat (first | with_reducible exact Take.here | apply Take.there)))))
    rintro env L ⟨v9', hsub, hE⟩
    refine swp_sub _ hsub ?_
    refine swp_ent hE ?_
    clear hsub hE env L
    refine swp_seq ?_
    refine swp_region ?_
    refine s_pu (pu_move rfl) ?_
    refine s_pu (pu_neq rfl rfl) ?_
    refine swl_sub _ (.cons (t := 0) rfl (.cons (t := 1) rfl (.cons (t := 2) rfl (.cons (t := 8) rfl (.cons (t := 9) rfl (.cons (t := 11) rfl (.cons (t := 15) rfl (.cons (t := 20) rfl (.cons (t := 21) rfl (.cons (t := 22) rfl (.cons (t := 63) rfl .nil))))))))))) ?_
    refine swl_nil ?_
    refine then_n ?_
    refine swp_cond (b := _) rfl (fun h63 => ?_) (fun h63 => ?_)
    · skip   -- 63 T
      refine swp_region ?_
      refine s_pu (pu_move rfl) ?_
      refine s_pu (pu_move rfl) ?_
      refine s_pu (pu_move rfl) ?_
      refine s_pu (pu_bld (qs := [(0, _), (1, _)]) rfl) ?_
      refine s_ef (ef_bldS (qs := [(0, _)]) rfl rfl rfl) ?_
      intro b68
      refine s_ef (ef_append_lit (l := (outR (rs.take i)).length) (m := 1) rfl rfl (by repeat (first | exact Split.nil | (apply Split.cons; (repeat (first | with_reducible exact Take.here | apply Take.there))))) (by simp only [maxLen]; omega) (by omega)) ?_
      rintro v69 -
      skip
      refine s_pu (pu_assign rfl) ?_
      refine swl_sub _ (.cons (t := 0) rfl (.cons (t := 1) rfl (.cons (t := 2) rfl (.cons (t := 8) rfl (.cons (t := 9) rfl (.cons (t := 20) rfl (.cons (t := 21) rfl (.cons (t := 22) rfl .nil)))))))) ?_
      refine swl_nil ?_
      refine block_n ?_
      refine then_n ?_
      refine swp_region ?_
      refine s_pu (pu_add_as ((i + 1 : Nat) : Int) rfl rfl (by omega) (by omega) (by omega)) ?_
      refine s_pu (pu_move rfl) ?_
      refine swl_sub _ (.cons (t := 0) rfl (.cons (t := 1) rfl (.cons (t := 2) rfl (.cons (t := 8) rfl (.cons (t := 9) rfl (.cons (t := 20) rfl (.cons (t := 21) rfl (.cons (t := 22) rfl .nil)))))))) ?_
      refine swl_nil ?_
      have h63' : ¬ (oneE xb xo xt).1 = 0 := by simpa using h63
      refine then_n ⟨(i + 1, v69, v9'), ⟨⟨rfl, rfl, rfl, rfl, rfl, rfl, rfl, rfl, trivial⟩, ?_, h23'⟩, by show ps.length - (i + 1) < ps.length - i; omega⟩
      obtain ⟨q1, q2⟩ := outR_add (rs.take i) p h63'
      have e2 : outR (rs.take (i + 1)) = outR (rs.take i ++ [(p, xb, xo, xt)]) := by rw [htk]
      show Ent _ [own 51 2 v69 (outR (rs.take (i + 1))).length (ens (outR (rs.take (i + 1)))), own 70 4 v9' (cfR (rs.take (i + 1))).length (cfs (cfR (rs.take (i + 1)))), ro μ1]
      rw [e2, q1, q2]
      exact Split.ent' (by repeat (first | exact Split.nil | (apply Split.cons; (repeat (first | with_reducible exact Take.here | apply Take.there)))))
    · skip   -- 63 F
      refine swp_skip ?_
      refine block_n ?_
      refine then_n ?_
      refine swp_region ?_
      refine s_pu (pu_add_as ((i + 1 : Nat) : Int) rfl rfl (by omega) (by omega) (by omega)) ?_
      refine s_pu (pu_move rfl) ?_
      refine swl_sub _ (.cons (t := 0) rfl (.cons (t := 1) rfl (.cons (t := 2) rfl (.cons (t := 8) rfl (.cons (t := 9) rfl (.cons (t := 20) rfl (.cons (t := 21) rfl (.cons (t := 22) rfl .nil)))))))) ?_
      refine swl_nil ?_
      have h63' : (oneE xb xo xt).1 = 0 := by simpa using h63
      refine then_n ⟨(i + 1, v8, v9'), ⟨⟨rfl, rfl, rfl, rfl, rfl, rfl, rfl, rfl, trivial⟩, ?_, h23'⟩, by show ps.length - (i + 1) < ps.length - i; omega⟩
      have e2 : outR (rs.take (i + 1)) = outR (rs.take i) := by rw [htk, outR_same (rs.take i) p h63']
      show Ent _ [own 51 2 v8 (outR (rs.take (i + 1))).length (ens (outR (rs.take (i + 1)))), own 70 4 v9' (cfR (rs.take (i + 1))).length (cfs (cfR (rs.take (i + 1)))), ro μ1]
      rw [e2]
      exact Split.ent' (by repeat (first | exact Split.nil | (apply Split.cons; (repeat (first | with_reducible exact Take.here | apply Take.there)))))
  · skip   -- 23 F
    have h23' := of_decide_eq_false h23
    obtain rfl : i = ps.length := by omega
    rw [← hrl, List.take_length]
    refine swp_exit ?_
    refine then_x ?_
    refine then_x ?_
    refine block_hit rfl ?_
    refine then_n ?_
    refine swp_seq ?_
    refine swp_region ?_
    refine s_pu (pu_move rfl) ?_
    refine s_pu (pu_move rfl) ?_
    refine s_pu (pu_assign rfl) ?_
    refine s_pu (pu_assign rfl) ?_
    refine swl_sub _ (.cons (t := 6) rfl (.cons (t := 7) rfl .nil)) ?_
    refine swl_nil ?_
    refine then_n ?_
    refine swp_ret ?_
    exact done_ret [own 51 2 v8 (outR rs).length (ens (outR rs)), own 70 4 v9 (cfR rs).length (cfs (cfR rs)), ro μ1] (.tmp rfl (.tmp rfl .nil)) ⟨v8, v9, μ1, hle, rfl, rfl⟩ (by repeat (first | exact Split.nil | (apply Split.cons; (repeat (first | with_reducible exact Take.here | apply Take.there)))))
set_option maxHeartbeats 1000000 in
theorem clean_spec (μ : PH) (va vb vc : Value) (a b c : List En) (ha : Row μ va 2 a.length (ens a)) (hb : Row μ vb 2 b.length (ens b)) (hc : Row μ vc 2 c.length (ens c)) (hsz : a.length ≤ 1048576 ∧ b.length ≤ 1048576 ∧ c.length ≤ 1048576)
    (hu : U32s a ∧ U32s b ∧ U32s c) : Spec Try.prog 35 [va, vb, vc] [ro μ] (fun r L => ∃ μ', Le μ μ' ∧ r = .bool (decide ((cfR (rowsB a b c)).length = 0)) ∧ L = [ro μ']) := by
  refine Spec.of 19 Try.func35 rfl rfl rfl ?_
  refine swp_seq ?_
  refine swp_region ?_
  refine s_pu (pu_assign rfl) ?_
  refine swl_sub _ (.cons (t := 0) rfl (.cons (t := 1) rfl (.cons (t := 2) rfl .nil))) ?_
  refine swl_nil ?_
  refine then_n ?_
  refine swp_seq ?_
  refine swp_region ?_
  refine s_pu (pu_move rfl) ?_
  refine s_pu (pu_move rfl) ?_
  refine s_pu (pu_move rfl) ?_
  refine s_ef (ef_fn (three_spec μ va vb vc a b c ha hb hc hsz hu) rfl rfl (by repeat (first | exact Split.nil | (apply Split.cons; (repeat (first | with_reducible exact Take.here | apply Take.there)))))) ?_
  rintro v13 L1 ⟨v8, v9, μ1, hle, rfl, rfl⟩
  refine swl_app ?_
  refine s_pu (pu_move rfl) ?_
  first | refine s_pu (pu_extractL rfl) ?_ | refine s_pu (pu_extract rfl rfl) ?_
  first | refine s_pu (pu_extractL rfl) ?_ | refine s_pu (pu_extract rfl rfl) ?_
  refine s_pu (pu_assign rfl) ?_
  refine s_pu (pu_assign rfl) ?_
  refine swl_sub _ (.cons (t := 8) rfl .nil) ?_
  refine swl_nil ?_
  refine then_n ?_
  refine swp_seq ?_
  refine swp_share_own (v := v9) (μ := μ1) (by repeat (first | exact Split.nil | (apply Split.cons; (repeat (first | with_reducible exact Take.here | apply Take.there))))) fun μ2 hle2 hrow => ?_
  refine swp_region ?_
  refine s_pu (pu_move rfl) ?_
  refine s_pu (pu_len_row hrow rfl) ?_
  refine s_pu (pu_eql rfl rfl) ?_
  refine s_pu (pu_assign rfl) ?_
  refine swl_sub _ (.cons (t := 6) rfl .nil) ?_
  refine swl_nil ?_
  refine then_n ?_
  refine swp_ret ?_
  refine done_ret [ro μ2] (.tmp rfl .nil) ⟨μ2, hle.trans hle2, ?_, rfl⟩ (by repeat (first | exact Split.nil | (apply Split.cons; (repeat (first | with_reducible exact Take.here | apply Take.there)))))
  show Value.bool (decide (((cfR (rowsB a b c)).length : Int) = 0)) = _
  congr 2; exact propext ⟨fun h => by omega, fun h => by omega⟩
end SX
namespace SX
open Go Go.Proofs
theorem u32s_k1 : U32s k1 ∧ U32s k2 ∧ U32s k3 := by
  refine ⟨?_, ?_, ?_⟩ <;> (intro e he; simp [k1, k2, k3] at he; rcases he with rfl | rfl | rfl <;> exact ⟨by decide, by decide⟩)
theorem u32s_k4 : U32s k4 ∧ U32s k5 ∧ U32s [] := by
  refine ⟨?_, ?_, ?_⟩
  · intro e he; simp [k4] at he; subst he; exact ⟨by decide, by decide⟩
  · intro e he; simp [k5] at he; subst he; exact ⟨by decide, by decide⟩
  · intro e he; cases he
theorem same_lit (μ : PH) (v : Value) (b : Nat) (la lb : List En) (ha : Row μ v 2 la.length (ens la)) (hm : lb.length ≤ maxLen) {cs : List Value} (hcs : cs = ens lb) : Spec Try.prog 33 [v, .slice (some ⟨b, 0, none⟩) lb.length lb.length] [blk b 51 cs, ro μ] (fun r L => r = .bool (decide (la = lb)) ∧ L = [ro μ]) := by
  subst hcs
  intro E w hh
  obtain ⟨μ', h1, h2, h3⟩ := hh.share
  have hr := row_of_blk (n := 2) (l := lb.length) h2 (by rw [flat_length enc1_len]) hm
  refine (same_spec μ' v _ la lb (ha.le h1) hr E w h3).mono ?_
  rintro x w' ⟨r, L', e1, ⟨e2, e3⟩, h4⟩
  subst e3
  exact ⟨r, _, e1, ⟨e2, rfl⟩, h4.ent (Ent.imp fun m hm k o hk => hm k o (h1 k o hk))⟩
set_option maxHeartbeats 4000000 in
theorem merges_spec : Spec Try.prog 25 [] [] (fun r L => r = .bool true ∧ L = []) := by
  refine Spec.of 63 Try.func25 rfl rfl rfl ?_
  refine swp_seq ?_
  refine swp_region ?_
  refine s_pu (pu_assign rfl) ?_
  refine swl_sub _ .nil ?_
  refine swl_nil ?_
  refine then_n ?_
  refine swp_seq ?_
  refine swp_region ?_
  refine s_pu (pu_bld (qs := [(0, _), (1, _)]) rfl) ?_
  refine s_pu (pu_bld (qs := [(0, _), (1, _)]) rfl) ?_
  refine s_pu (pu_bld (qs := [(0, _), (1, _)]) rfl) ?_
  refine s_ef (ef_bldS (qs := [(0, _), (1, _), (2, _)]) rfl rfl rfl) ?_
  intro b9
  refine s_pu (pu_bld (qs := [(0, _), (1, _)]) rfl) ?_
  refine s_pu (pu_bld (qs := [(0, _), (1, _)]) rfl) ?_
  refine s_pu (pu_bld (qs := [(0, _), (1, _)]) rfl) ?_
  refine s_ef (ef_bldS (qs := [(0, _), (1, _), (2, _)]) rfl rfl rfl) ?_
  intro b13
  refine s_pu (pu_bld (qs := [(0, _), (1, _)]) rfl) ?_
  refine s_pu (pu_bld (qs := [(0, _), (1, _)]) rfl) ?_
  refine s_ef (ef_bldS (qs := [(0, _), (1, _)]) rfl rfl rfl) ?_
  intro b16
  refine swl_ent ent_ro0 ?_
  refine swl_share (b := b9) (μ := fun _ => none) (by repeat (first | exact Split.nil | (apply Split.cons; (repeat (first | with_reducible exact Take.here | apply Take.there))))) fun μ1 _ g9 => ?_
  refine swl_share (b := b13) (μ := μ1) (by repeat (first | exact Split.nil | (apply Split.cons; (repeat (first | with_reducible exact Take.here | apply Take.there))))) fun μ2 l2 g13 => ?_
  refine swl_share (b := b16) (μ := μ2) (by repeat (first | exact Split.nil | (apply Split.cons; (repeat (first | with_reducible exact Take.here | apply Take.there))))) fun μ3 l3 g16 => ?_
  have r1 : Row μ3 (.slice (some ⟨b9, 0, none⟩) 3 3) 2 k1.length (ens k1) := row_of_blk (l3 _ _ (l2 _ _ g9)) rfl (by decide)
  have r2 : Row μ3 (.slice (some ⟨b13, 0, none⟩) 3 3) 2 k2.length (ens k2) := row_of_blk (l3 _ _ g13) rfl (by decide)
  have r3 : Row μ3 (.slice (some ⟨b16, 0, none⟩) 2 2) 2 k3.length (ens k3) := row_of_blk g16 rfl (by decide)
  refine s_ef (ef_fn (three_spec μ3 _ _ _ k1 k2 k3 r1 r2 r3 ⟨by decide, by decide, by decide⟩ u32s_k1) rfl rfl (by repeat (first | exact Split.nil | (apply Split.cons; (repeat (first | with_reducible exact Take.here | apply Take.there)))))) ?_
  rintro v17 L1 ⟨v1, v2, μ4, l4, rfl, rfl⟩
  refine swl_app ?_
  rw [out_k1, cf_k1]
  refine swl_share_own (v := v1) (μ := μ4) (by repeat (first | exact Split.nil | (apply Split.cons; (repeat (first | with_reducible exact Take.here | apply Take.there))))) fun μ5 l5 rt => ?_
  refine swl_share_own (v := v2) (μ := μ5) (by repeat (first | exact Split.nil | (apply Split.cons; (repeat (first | with_reducible exact Take.here | apply Take.there))))) fun μ6 l6 rl => ?_
  refine s_pu (pu_move rfl) ?_
  first | refine s_pu (pu_extractL rfl) ?_ | refine s_pu (pu_extract rfl rfl) ?_
  first | refine s_pu (pu_extractL rfl) ?_ | refine s_pu (pu_extract rfl rfl) ?_
  refine s_pu (pu_assign rfl) ?_
  refine s_pu (pu_assign rfl) ?_
  refine swl_sub _ (.cons (t := 1) rfl (.cons (t := 2) rfl .nil)) ?_
  refine swl_nil ?_
  refine then_n ?_
  refine swp_seq ?_
  refine swp_region ?_
  refine s_pu (pu_bld (qs := [(0, _), (1, _)]) rfl) ?_
  refine s_ef (ef_bldS (qs := [(0, _)]) rfl rfl rfl) ?_
  intro b22
  refine s_pu (pu_bld (qs := [(0, _), (1, _)]) rfl) ?_
  refine s_ef (ef_bldS (qs := [(0, _)]) rfl rfl rfl) ?_
  intro b24
  refine swl_share (b := b22) (μ := μ6) (by repeat (first | exact Split.nil | (apply Split.cons; (repeat (first | with_reducible exact Take.here | apply Take.there))))) fun μ7 l7 g22 => ?_
  refine swl_share (b := b24) (μ := μ7) (by repeat (first | exact Split.nil | (apply Split.cons; (repeat (first | with_reducible exact Take.here | apply Take.there))))) fun μ8 l8 g24 => ?_
  have r4 : Row μ8 (.slice (some ⟨b22, 0, none⟩) 1 1) 2 k4.length (ens k4) := row_of_blk (l8 _ _ g22) rfl (by decide)
  have r5 : Row μ8 (.slice (some ⟨b24, 0, none⟩) 1 1) 2 k5.length (ens k5) := row_of_blk g24 rfl (by decide)
  refine s_ef (ef_fn (three_spec μ8 _ _ _ k4 k5 [] r4 r5 (Row.nil _ _) ⟨by decide, by decide, by decide⟩ u32s_k4) rfl rfl (by repeat (first | exact Split.nil | (apply Split.cons; (repeat (first | with_reducible exact Take.here | apply Take.there)))))) ?_
  rintro v25 L1 ⟨v3, v4, μ9, l9, rfl, rfl⟩
  refine swl_app ?_
  rw [out_k4, cf_k4]
  refine swl_share_own (v := v3) (μ := μ9) (by repeat (first | exact Split.nil | (apply Split.cons; (repeat (first | with_reducible exact Take.here | apply Take.there))))) fun μ10 l10 ru => ?_
  refine swl_share_own (v := v4) (μ := μ10) (by repeat (first | exact Split.nil | (apply Split.cons; (repeat (first | with_reducible exact Take.here | apply Take.there))))) fun μ11 l11 rm => ?_
  refine s_pu (pu_move rfl) ?_
  first | refine s_pu (pu_extractL rfl) ?_ | refine s_pu (pu_extract rfl rfl) ?_
  first | refine s_pu (pu_extractL rfl) ?_ | refine s_pu (pu_extract rfl rfl) ?_
  refine s_pu (pu_assign rfl) ?_
  refine s_pu (pu_assign rfl) ?_
  refine swl_sub _ (.cons (t := 1) rfl (.cons (t := 2) rfl (.cons (t := 3) rfl (.cons (t := 4) rfl .nil)))) ?_
  refine swl_nil ?_
  refine then_n ?_
  refine swp_seq ?_
  have rt' := ((((((rt.le l6).le l7).le l8).le l9).le l10).le l11)
  have rl' := (((((rl.le l7).le l8).le l9).le l10).le l11)
  have ru' := ru.le l11
  obtain ⟨ub, uo, uc, huv, hura, hu0, hu1⟩ := tree_at ru' (i := 0) rfl
  obtain ⟨mb, mo, mc, hmv, _, _, hmr⟩ := rm.pos (by decide)
  have hm0 := hmr.elem (f := encC) (n := 4) (fun _ => rfl) (i := 0) (e := (⟨#[97]⟩, 1, 2, 0)) rfl
  refine swp_draw [19, 31] _ [] (by simp only [List.append_nil]; exact Ent.refl _) (by kernel_rfl) ?_
  refine d_pu 0 rfl (pu_move rfl) (by kernel_rfl) (by kernel_rfl) (by kernel_rfl) ?_
  refine d_pu 1 rfl (pu_bld (qs := [(0, _), (1, _)]) rfl) (by kernel_rfl) (by kernel_rfl) (by kernel_rfl) ?_
  refine d_pu 2 rfl (pu_bld (qs := [(0, _), (1, _)]) rfl) (by kernel_rfl) (by kernel_rfl) (by kernel_rfl) ?_
  refine d_eft 3 rfl (by kernel_rfl) (ef_bldS (qs := [(0, _), (1, _)]) rfl rfl rfl) ?_
  intro b31
  refine ⟨_, Split.ent (by repeat (first | exact Split.nil | (apply Split.cons; (repeat (first | with_reducible exact Take.here | apply Take.there))))), ?_⟩
  refine d_eft 4 rfl (by kernel_rfl) (ef_fn (same_lit μ11 v1 b31 [(⟨#[97]⟩, 4), (⟨#[98]⟩, 5)] [(⟨#[97]⟩, 4), (⟨#[98]⟩, 5)] rt' (by decide) (cs := [.string ⟨#[97]⟩, .int .u32 4, .string ⟨#[98]⟩, .int .u32 5]) rfl) rfl rfl (by repeat (first | exact Split.nil | (apply Split.cons; (repeat (first | with_reducible exact Take.here | apply Take.there)))))) ?_
  rintro v32 L1 ⟨rfl, rfl⟩
  refine ⟨_, ent_appC (Split.ent (by repeat (first | exact Split.nil | (apply Split.cons; (repeat (first | with_reducible exact Take.here | apply Take.there)))))), ?_⟩
  refine d_pu 5 rfl (pu_move rfl) (by kernel_rfl) (by kernel_rfl) (by kernel_rfl) ?_
  refine d_split 33 rfl (fun h33 => ?_) (fun h33 => by simp at h33)
  refine d_pu_on 6 rfl rfl rfl (pu_move rfl) (by kernel_rfl) (by kernel_rfl) (by kernel_rfl) ?_
  refine d_pu_on 7 rfl rfl rfl (pu_len_row rl' rfl) (by kernel_rfl) (by kernel_rfl) (by kernel_rfl) ?_
  refine d_pu_on 8 rfl rfl rfl (pu_eql rfl rfl) (by kernel_rfl) (by kernel_rfl) (by kernel_rfl) ?_
  first | refine d_pu 9 rfl (pu_pick_t rfl rfl) (by kernel_rfl) (by kernel_rfl) (by kernel_rfl) ?_ | refine d_pu 9 rfl (pu_pick_f rfl rfl) (by kernel_rfl) (by kernel_rfl) (by kernel_rfl) ?_
  refine d_pu 10 rfl (pu_move rfl) (by kernel_rfl) (by kernel_rfl) (by kernel_rfl) ?_
  refine d_split 38 rfl (fun h38 => ?_) (fun h38 => by simp at h38)
  refine d_pu_on 11 rfl rfl rfl (pu_move rfl) (by kernel_rfl) (by kernel_rfl) (by kernel_rfl) ?_
  refine d_pu_on 12 rfl rfl rfl (pu_len_row ru' rfl) (by kernel_rfl) (by kernel_rfl) (by kernel_rfl) ?_
  refine d_pu_on 13 rfl rfl rfl (pu_eql rfl rfl) (by kernel_rfl) (by kernel_rfl) (by kernel_rfl) ?_
  first | refine d_pu 14 rfl (pu_pick_t rfl rfl) (by kernel_rfl) (by kernel_rfl) (by kernel_rfl) ?_ | refine d_pu 14 rfl (pu_pick_f rfl rfl) (by kernel_rfl) (by kernel_rfl) (by kernel_rfl) ?_
  refine d_pu 15 rfl (pu_move rfl) (by kernel_rfl) (by kernel_rfl) (by kernel_rfl) ?_
  refine d_split 43 rfl (fun h43 => ?_) (fun h43 => by simp at h43)
  refine d_pu_on 16 rfl rfl rfl (pu_move rfl) (by kernel_rfl) (by kernel_rfl) (by kernel_rfl) ?_
  refine d_pu_on 17 rfl rfl rfl (pu_indexAddr (uo + 0 * 2) (congrArg some huv) rfl (by omega) (by decide) (by rfl)) (by kernel_rfl) (by kernel_rfl) (by kernel_rfl) ?_
  first | refine d_pu_on 18 rfl rfl rfl (pu_fieldAddr0 rfl) (by kernel_rfl) (by kernel_rfl) (by kernel_rfl) ?_ | refine d_pu_on 18 rfl rfl rfl (pu_fieldAddr rfl) (by kernel_rfl) (by kernel_rfl) (by kernel_rfl) ?_
  refine d_rd_on 19 rfl rfl rfl (rd_ro rfl hu1) rfl (by kernel_rfl) (by kernel_rfl) (by kernel_rfl) ?_
  refine d_amb [20] (by kernel_rfl) rfl ?_
  refine dA_ef 20 rfl (GOn.some rfl rfl) (ef_fn (rmark_specZ (b := 1) (o := 2) (t := 0) ⟨by decide, by decide⟩ ⟨by decide, by decide⟩ ⟨by decide, by decide⟩) rfl rfl (by repeat (first | exact Split.nil | (apply Split.cons; (repeat (first | with_reducible exact Take.here | apply Take.there)))))) ?_
  rintro v48 L1 ⟨rfl, rfl⟩
  refine ⟨_, ent_appC (Split.ent (by repeat (first | exact Split.nil | (apply Split.cons; (repeat (first | with_reducible exact Take.here | apply Take.there)))))), ?_⟩
  refine d_pu_on 21 rfl rfl rfl (pu_eql rfl rfl) (by kernel_rfl) (by kernel_rfl) (by kernel_rfl) ?_
  first | refine d_pu 22 rfl (pu_pick_t rfl rfl) (by kernel_rfl) (by kernel_rfl) (by kernel_rfl) ?_ | refine d_pu 22 rfl (pu_pick_f rfl rfl) (by kernel_rfl) (by kernel_rfl) (by kernel_rfl) ?_
  refine d_pu 23 rfl (pu_move rfl) (by kernel_rfl) (by kernel_rfl) (by kernel_rfl) ?_
  refine d_split 51 rfl (fun h51 => ?_) (fun h51 => by simp at h51)
  refine d_pu_on 24 rfl rfl rfl (pu_move rfl) (by kernel_rfl) (by kernel_rfl) (by kernel_rfl) ?_
  refine d_pu_on 25 rfl rfl rfl (pu_len_row rm rfl) (by kernel_rfl) (by kernel_rfl) (by kernel_rfl) ?_
  refine d_pu_on 26 rfl rfl rfl (pu_eql rfl rfl) (by kernel_rfl) (by kernel_rfl) (by kernel_rfl) ?_
  first | refine d_pu 27 rfl (pu_pick_t rfl rfl) (by kernel_rfl) (by kernel_rfl) (by kernel_rfl) ?_ | refine d_pu 27 rfl (pu_pick_f rfl rfl) (by kernel_rfl) (by kernel_rfl) (by kernel_rfl) ?_
  refine d_pu 28 rfl (pu_move rfl) (by kernel_rfl) (by kernel_rfl) (by kernel_rfl) ?_
  refine d_split 56 rfl (fun h56 => ?_) (fun h56 => by simp at h56)
  refine d_pu_on 29 rfl rfl rfl (pu_move rfl) (by kernel_rfl) (by kernel_rfl) (by kernel_rfl) ?_
  refine d_pu_on 30 rfl rfl rfl (pu_indexAddr (mo + 0 * 4) (congrArg some hmv) rfl (by omega) (by decide) (by rfl)) (by kernel_rfl) (by kernel_rfl) (by kernel_rfl) ?_
  refine d_rd_on 31 rfl rfl rfl (rd_roA rfl rfl hm0) rfl (by kernel_rfl) (by kernel_rfl) (by kernel_rfl) ?_
  refine d_pu_on 32 rfl rfl rfl (pu_bld (qs := [(0, _), (1, _), (2, _)]) rfl) (by kernel_rfl) (by kernel_rfl) (by kernel_rfl) ?_
  refine d_pu_on 33 rfl rfl rfl (pu_stN_eq (vs := encC (⟨#[97]⟩, 1, 2, 0)) (us := [.string ⟨#[97]⟩, .int .u32 1, .int .u32 2, .int .u32 0]) rfl rfl (.str (.int (.int (.int .nil))))) (by kernel_rfl) (by kernel_rfl) (by kernel_rfl) ?_
  first | refine d_pu 34 rfl (pu_pick_t rfl rfl) (by kernel_rfl) (by kernel_rfl) (by kernel_rfl) ?_ | refine d_pu 34 rfl (pu_pick_f rfl rfl) (by kernel_rfl) (by kernel_rfl) (by kernel_rfl) ?_
  refine d_pu 35 rfl (pu_assign rfl) (by kernel_rfl) (by kernel_rfl) (by kernel_rfl) ?_
  refine d_sub _ (.cons (t := 0) rfl .nil) ?_
  first | refine d_nilt (by kernel_rfl) ?_ | refine d_nilf (by kernel_rfl) ?_
  refine then_n ?_
  refine swp_ret ?_
  exact done_ret [] (.tmp rfl .nil) ⟨(by simp [strEq_refl]; rfl), rfl⟩ (by repeat (first | exact Split.nil | (apply Split.cons; (repeat (first | with_reducible exact Take.here | apply Take.there)))))
end SX
namespace SX
open Go Go.Proofs
def spare : En := (⟨#[115, 112, 97, 114, 101]⟩, 9)
theorem copied_spec (μ : PH) (v : Value) (t : List En) (h : Row μ v 2 t.length (ens t)) (hsz : t.length ≤ 1048576) :
    Spec Try.prog 31 [v] [ro μ] (fun r L => ∃ b, r = .slice (some ⟨b, 0, none⟩) t.length (t.length + 1) ∧ L = [blk b 51 (ens t ++ enc1 spare), ro μ]) := by
  have hel : (ens t).length = t.length * 2 := flat_length enc1_len t
  refine Spec.of 15 Try.func31 rfl rfl rfl ?_
  refine swp_seq ?_
  refine swp_region ?_
  refine s_pu (pu_assign rfl) ?_
  refine swl_sub _ (.cons (t := 0) rfl .nil) ?_
  refine swl_nil ?_
  refine then_n ?_
  refine swp_seq ?_
  refine swp_region ?_
  refine s_pu (pu_move rfl) ?_
  refine s_pu (pu_len_row h rfl) ?_
  refine s_pu (pu_add_as ((t.length + 1 : Nat) : Int) rfl rfl (by omega) (by omega) (by omega)) ?_
  refine s_ef (ef_makeR (t.length + 1) rfl rfl rfl (by omega) (by simp only [maxLen]; omega)) ?_
  rintro b7 cs hcs
  refine swl_ent (Ent.imp (B := blk b7 51 ([] ++ cs)) (fun m hm => by simpa using hm)) ?_
  refine s_pu (pu_move rfl) ?_
  refine s_ef (ef_append_room_ro (L := [blk b7 51 ([] ++ cs), ro μ]) (b := b7) (l := 0) (xs := []) (ex := cs) h rfl rfl (by repeat (first | exact Split.nil | (apply Split.cons; (repeat (first | with_reducible exact Take.here | apply Take.there))))) (ens_one t) (by omega) rfl (by rw [hcs]; omega)) ?_
  rw [List.nil_append, Nat.zero_add]
  have hex : (cs.drop (t.length * 2)).length = 2 := by rw [List.length_drop, hcs]; omega
  generalize cs.drop (t.length * 2) = ex at hex
  refine s_pu (pu_assign rfl) ?_
  refine swl_sub _ (.cons (t := 3) rfl .nil) ?_
  refine swl_nil ?_
  refine then_n ?_
  refine swp_seq ?_
  refine swp_region ?_
  refine s_pu (pu_move rfl) ?_
  refine s_pu (pu_bld (qs := [(0, _), (1, _)]) rfl) ?_
  refine s_ef (ef_bldS (qs := [(0, _)]) rfl rfl rfl) ?_
  intro b12
  obtain ⟨x0, x1, rfl⟩ : ∃ x0 x1, ex = [x0, x1] := by
    match ex, hex with
    | [x0, x1], _ => exact ⟨_, _, rfl⟩
  refine s_ef (ef_append_room_of (b := b7) (l := t.length) (m := 1) (sl := 1) (so := 0) (news := enc1 spare) rfl rfl (by repeat (first | exact Split.nil | (apply Split.cons; (repeat (first | with_reducible exact Take.here | apply Take.there))))) rfl (by intro j u hj; rw [Nat.zero_add]; exact hj) rfl (by omega) hel (by show 1 * 2 ≤ 2; omega)) ?_
  refine swl_sub _ (.cons (t := 3) rfl .nil) ?_
  refine swl_nil ?_
  refine then_n ?_
  refine swp_seq ?_
  rw [show List.drop (1 * 2) [x0, x1] = [] from rfl, List.append_nil]
  refine swp_region ?_
  refine s_pu (pu_move rfl) ?_
  refine s_pu (pu_assign rfl) ?_
  refine swl_sub _ (.cons (t := 2) rfl .nil) ?_
  refine swl_nil ?_
  refine then_n ?_
  refine swp_ret ?_
  refine done_ret [blk b7 51 (ens t ++ enc1 spare), ro μ] (.tmp rfl .nil) ⟨b7, rfl, rfl⟩ (by repeat (first | exact Split.nil | (apply Split.cons; (repeat (first | with_reducible exact Take.here | apply Take.there)))))
theorem kept_spec (μ : PH) (b : Nat) (v : Value) (t : List En) (hc : μ b = some (.cells (ens t ++ enc1 spare).toArray 51 (0, 0))) (h : Row μ v 2 t.length (ens t)) (hsz : t.length ≤ 1048576) :
    Spec Try.prog 36 [.slice (some ⟨b, 0, none⟩) t.length (t.length + 1), v] [ro μ] (fun r L => r = .bool true ∧ L = [ro μ]) := by
  have hel : (ens t).length = t.length * 2 := flat_length enc1_len t
  have hcr : RowAt μ b 0 (ens t ++ enc1 spare) := fun j u hj => ⟨_, _, _, hc, by simpa using hj⟩
  have hr : Row μ (.slice (some ⟨b, 0, none⟩) t.length (t.length + 1)) 2 t.length (ens t) :=
    ⟨hel, some ⟨b, 0, none⟩, t.length + 1, rfl, by omega, by simp only [maxLen]; omega, fun h => (by cases h), fun _ => ⟨b, 0, rfl, fun j u hj => hcr j u (by rw [List.getElem?_append_left (List.getElem?_eq_some_iff.1 hj).1]; exact hj)⟩⟩
  have hsp : RowAt μ b (0 + t.length * 2) (enc1 spare) := hcr.sub' (a := ens t) (c := []) (by rw [List.append_nil]) hel
  refine Spec.of 21 Try.func36 rfl rfl rfl ?_
  refine swp_seq ?_
  refine swp_region ?_
  refine s_pu (pu_assign rfl) ?_
  refine swl_sub _ (.cons (t := 0) rfl (.cons (t := 1) rfl .nil)) ?_
  refine swl_nil ?_
  refine then_n ?_
  refine swp_seq ?_
  refine swp_region ?_
  refine s_pu (pu_move rfl) ?_
  refine s_pu (pu_move rfl) ?_
  refine s_ef (ef_fn (same_spec μ _ _ t t hr h) rfl rfl (by repeat (first | exact Split.nil | (apply Split.cons; (repeat (first | with_reducible exact Take.here | apply Take.there)))))) ?_
  rintro v7 L1 ⟨rfl, rfl⟩
  refine swl_app ?_
  refine s_pu (pu_move rfl) ?_
  refine s_split 8 rfl (fun h8 => ?_) (fun h8 => by simp at h8)
  refine s_on rfl rfl ?_
  refine s_pu (pu_move rfl) ?_
  refine s_on rfl rfl ?_
  refine s_pu (pu_move rfl) ?_
  refine s_on rfl rfl ?_
  refine s_pu (pu_len_row hr rfl) ?_
  refine s_on rfl rfl ?_
  refine s_pu (pu_add_as ((t.length + 1 : Nat) : Int) rfl rfl (by omega) (by omega) (by omega)) ?_
  refine s_on rfl rfl ?_
  refine s_pu (pu_slice_hi (t.length + 1) rfl rfl rfl (by omega)) ?_
  refine s_on rfl rfl ?_
  refine s_pu (pu_move rfl) ?_
  refine s_on rfl rfl ?_
  refine s_pu (pu_len_row hr rfl) ?_
  refine s_on rfl rfl ?_
  refine s_pu (pu_indexAddr (0 + t.length * 2) rfl rfl (by omega) (by omega) (by rw [Int.toNat_natCast])) ?_
  refine s_on rfl rfl ?_
  refine s_rd (rd_roA rfl rfl hsp) ?_
  refine s_on rfl rfl ?_
  refine s_pu (pu_bld (qs := [(0, _), (1, _)]) rfl) ?_
  refine s_on rfl rfl ?_
  refine s_pu (pu_stN_eq (vs := enc1 spare) (us := enc1 spare) rfl rfl (.str (.int .nil))) ?_
  first | refine s_pu (pu_pick_t rfl rfl) ?_ | refine s_pu (pu_pick_f rfl rfl) ?_
  refine s_pu (pu_assign rfl) ?_
  refine swl_sub _ (.cons (t := 4) rfl .nil) ?_
  refine swl_nil ?_
  refine then_n ?_
  refine swp_ret ?_
  exact done_ret [ro μ] (.tmp rfl .nil) ⟨(by simp [strEq_refl]; rfl), rfl⟩ (by repeat (first | exact Split.nil | (apply Split.cons; (repeat (first | with_reducible exact Take.here | apply Take.there)))))
end SX
namespace SX
open Go Go.Proofs
theorem row_copied {μ : PH} {b : Nat} {t : List En} (hc : μ b = some (.cells (ens t ++ enc1 spare).toArray 51 (0, 0))) (hsz : t.length ≤ 1048576) : Row μ (.slice (some ⟨b, 0, none⟩) t.length (t.length + 1)) 2 t.length (ens t) :=
  ⟨flat_length enc1_len t, some ⟨b, 0, none⟩, t.length + 1, rfl, by omega, by simp only [maxLen]; omega, fun h => (by cases h), fun _ => ⟨b, 0, rfl, fun j u hj => ⟨_, _, _, hc, by simpa [List.getElem?_append_left (List.getElem?_eq_some_iff.1 hj).1] using hj⟩⟩⟩
set_option maxHeartbeats 8000000 in
theorem mergethree_spec (μ : PH) (vx vy vz : Value) (x y z : List En) (hx : Row μ vx 2 x.length (ens x)) (hy : Row μ vy 2 y.length (ens y)) (hz : Row μ vz 2 z.length (ens z)) (hu : U32s x ∧ U32s y ∧ U32s z) :
    Spec Try.prog 8 [vx, vy, vz] [ro μ] (fun r L => r = .bool true ∧ ∃ μ' R, Le μ μ' ∧ L = ro μ' :: R) := by
  have gx := fun μ h => good_spec μ vx x h
  have gy := fun μ h => good_spec μ vy y h
  have gz := fun μ h => good_spec μ vz z h
  obtain ⟨ub, ug, ut⟩ : U32s (goodE x) ∧ U32s (goodE y) ∧ U32s (goodE z) := ⟨u32s_good hu.1, u32s_good hu.2.1, u32s_good hu.2.2⟩
  have kb := good_good x
  have ko := good_good y
  have kt := good_good z
  have lb := goodE_len x
  have lo := goodE_len y
  have lt := goodE_len z
  generalize goodE x = b at gx ub kb lb
  generalize goodE y = o at gy ug ko lo
  generalize goodE z = t at gz ut kt lt
  have hsame : rowsF (b.length + o.length + t.length) b o t = rowsB b o t := rows_same kb.rises ko.rises kt.rises (Nat.le_refl _)
  have h3 := fun μ va vb vc ha hb hc => three_spec μ va vb vc b o t ha hb hc ⟨by omega, by omega, by omega⟩ ⟨ub, ug, ut⟩
  have hr3 := fun μ va vb vc ha hb hc => rthree_spec μ va vb vc b o t ha hb hc ⟨by omega, by omega, by omega⟩ ⟨ub, ug, ut⟩
  have hcl := fun μ va vb vc ha hb hc => clean_spec μ va vb vc b o t ha hb hc ⟨by omega, by omega, by omega⟩ ⟨ub, ug, ut⟩
  rw [hsame] at hr3
  have hol := out_len3 b o t ⟨lb, lo, lt⟩
  generalize rowsB b o t = rs0 at h3 hr3 hcl hol
  refine Spec.of 122 Try.func8 rfl rfl rfl ?_
  refine swp_seq ?_
  refine swp_region ?_
  refine s_pu (pu_assign rfl) ?_
  refine swl_sub _ (.cons (t := 0) rfl (.cons (t := 1) rfl (.cons (t := 2) rfl .nil))) ?_
  refine swl_nil ?_
  refine then_n ?_
  refine swp_seq ?_
  refine swp_seq ?_
  refine swp_region ?_
  refine s_ef (ef_fn merges_spec rfl rfl (by repeat (first | exact Split.nil | (apply Split.cons; (repeat (first | with_reducible exact Take.here | apply Take.there)))))) ?_
  rintro v20 L1 ⟨rfl, rfl⟩
  refine swl_app ?_
  refine s_pu (pu_not rfl) ?_
  refine swl_sub _ (.cons (t := 0) rfl (.cons (t := 1) rfl (.cons (t := 2) rfl (.cons (t := 21) rfl .nil)))) ?_
  refine swl_nil ?_
  refine then_n ?_
  refine swp_cond (b := _) rfl (fun h21 => by simp at h21) (fun h21 => ?_)
  refine swp_skip ?_
  refine then_n ?_
  refine swp_seq ?_
  refine swp_region ?_
  refine s_pu (pu_move rfl) ?_
  refine s_ef (ef_fn (gx μ hx) rfl rfl (by repeat (first | exact Split.nil | (apply Split.cons; (repeat (first | with_reducible exact Take.here | apply Take.there)))))) ?_
  rintro v23 L1 ⟨μ1, l1, rb, rfl⟩
  refine swl_app ?_
  refine s_pu (pu_move rfl) ?_
  refine s_ef (ef_fn (gy μ1 (hy.le l1)) rfl rfl (by repeat (first | exact Split.nil | (apply Split.cons; (repeat (first | with_reducible exact Take.here | apply Take.there)))))) ?_
  rintro v25 L1 ⟨μ2, l2, ro_, rfl⟩
  refine swl_app ?_
  refine s_pu (pu_move rfl) ?_
  refine s_ef (ef_fn (gz μ2 (hz.le (l1.trans l2))) rfl rfl (by repeat (first | exact Split.nil | (apply Split.cons; (repeat (first | with_reducible exact Take.here | apply Take.there)))))) ?_
  rintro v27 L1 ⟨μ3, l3, rt, rfl⟩
  refine swl_app ?_
  refine s_pu (pu_assign rfl) ?_
  refine s_pu (pu_assign rfl) ?_
  refine s_pu (pu_assign rfl) ?_
  refine swl_sub _ (.cons (t := 7) rfl (.cons (t := 8) rfl (.cons (t := 9) rfl .nil))) ?_
  replace rb := (rb.le l2).le l3
  replace ro_ := ro_.le l3
  refine swl_nil ?_
  refine then_n ?_
  refine swp_seq ?_
  refine swp_region ?_
  refine s_pu (pu_move rfl) ?_
  refine s_ef (ef_fn (copied_spec μ3 v23 b rb (by omega)) rfl rfl (by repeat (first | exact Split.nil | (apply Split.cons; (repeat (first | with_reducible exact Take.here | apply Take.there)))))) ?_
  rintro v29 L1 ⟨b29, rfl, rfl⟩
  refine swl_app ?_
  refine s_pu (pu_move rfl) ?_
  refine s_ef (ef_fn (copied_spec μ3 v25 o ro_ (by omega)) rfl rfl (by repeat (first | exact Split.nil | (apply Split.cons; (repeat (first | with_reducible exact Take.here | apply Take.there)))))) ?_
  rintro v31 L1 ⟨b31, rfl, rfl⟩
  refine swl_app ?_
  refine s_pu (pu_move rfl) ?_
  refine s_ef (ef_fn (copied_spec μ3 v27 t rt (by omega)) rfl rfl (by repeat (first | exact Split.nil | (apply Split.cons; (repeat (first | with_reducible exact Take.here | apply Take.there)))))) ?_
  rintro v33 L1 ⟨b33, rfl, rfl⟩
  refine swl_app ?_
  refine s_pu (pu_assign rfl) ?_
  refine s_pu (pu_assign rfl) ?_
  refine s_pu (pu_assign rfl) ?_
  refine swl_sub _ (.cons (t := 7) rfl (.cons (t := 8) rfl (.cons (t := 9) rfl (.cons (t := 10) rfl (.cons (t := 11) rfl (.cons (t := 12) rfl .nil)))))) ?_
  refine swl_nil ?_
  refine then_n ?_
  refine swp_seq ?_
  refine swp_share (b := b29) (μ := μ3) (by repeat (first | exact Split.nil | (apply Split.cons; (repeat (first | with_reducible exact Take.here | apply Take.there))))) fun μ4 l4 g29 => ?_
  refine swp_share (b := b31) (μ := μ4) (by repeat (first | exact Split.nil | (apply Split.cons; (repeat (first | with_reducible exact Take.here | apply Take.there))))) fun μ5 l5 g31 => ?_
  refine swp_share (b := b33) (μ := μ5) (by repeat (first | exact Split.nil | (apply Split.cons; (repeat (first | with_reducible exact Take.here | apply Take.there))))) fun μ6 l6 g33 => ?_
  replace g29 := l6 _ _ (l5 _ _ g29)
  replace g31 := l6 _ _ g31
  have rc := row_copied g29 (by omega)
  have rp := row_copied g31 (by omega)
  have ru := row_copied g33 (by omega)
  refine swp_region ?_
  refine s_pu (pu_move rfl) ?_
  refine s_pu (pu_move rfl) ?_
  refine s_pu (pu_move rfl) ?_
  refine s_ef (ef_fn (h3 μ6 _ _ _ rc rp ru) rfl rfl (by repeat (first | exact Split.nil | (apply Split.cons; (repeat (first | with_reducible exact Take.here | apply Take.there)))))) ?_
  rintro v38 L1 ⟨v8, v9, μ7, l7, rfl, rfl⟩
  refine swl_app ?_
  refine s_pu (pu_move rfl) ?_
  first | refine s_pu (pu_extractL rfl) ?_ | refine s_pu (pu_extract rfl rfl) ?_
  first | refine s_pu (pu_extractL rfl) ?_ | refine s_pu (pu_extract rfl rfl) ?_
  refine s_pu (pu_assign rfl) ?_
  refine s_pu (pu_assign rfl) ?_
  refine swl_sub _ (.cons (t := 7) rfl (.cons (t := 8) rfl (.cons (t := 9) rfl (.cons (t := 10) rfl (.cons (t := 11) rfl (.cons (t := 12) rfl (.cons (t := 13) rfl (.cons (t := 14) rfl .nil)))))))) ?_
  refine swl_nil ?_
  refine then_n ?_
  refine swp_seq ?_
  refine swp_region ?_
  refine s_pu (pu_move rfl) ?_
  refine s_pu (pu_move rfl) ?_
  refine s_pu (pu_move rfl) ?_
  refine s_ef (ef_fn (hr3 μ7 _ _ _ (((((rb.le l4).le l5).le l6).le l7)) (((((ro_.le l4).le l5).le l6).le l7)) (((((rt.le l4).le l5).le l6).le l7))) rfl rfl (by repeat (first | exact Split.nil | (apply Split.cons; (repeat (first | with_reducible exact Take.here | apply Take.there)))))) ?_
  rintro v45 L1 ⟨w8, w9, rsq, hrs, rfl, rfl⟩
  refine swl_app ?_
  rw [hrs]
  clear hrs
  refine s_pu (pu_move rfl) ?_
  first | refine s_pu (pu_extractL rfl) ?_ | refine s_pu (pu_extract rfl rfl) ?_
  first | refine s_pu (pu_extractL rfl) ?_ | refine s_pu (pu_extract rfl rfl) ?_
  refine s_pu (pu_assign rfl) ?_
  refine s_pu (pu_assign rfl) ?_
  refine swl_sub _ (.cons (t := 7) rfl (.cons (t := 8) rfl (.cons (t := 9) rfl (.cons (t := 10) rfl (.cons (t := 11) rfl (.cons (t := 12) rfl (.cons (t := 13) rfl (.cons (t := 14) rfl (.cons (t := 15) rfl (.cons (t := 16) rfl .nil)))))))))) ?_
  refine swl_nil ?_
  refine then_n ?_
  refine swp_seq ?_
  refine swp_seq ?_
  replace rb := (((rb.le l4).le l5).le l6).le l7
  replace ro_ := (((ro_.le l4).le l5).le l6).le l7
  replace rt := (((rt.le l4).le l5).le l6).le l7
  refine swp_share_own (v := w8) (μ := μ7) (by repeat (first | exact Split.nil | (apply Split.cons; (repeat (first | with_reducible exact Take.here | apply Take.there))))) fun μ8 l8 rw8 => ?_
  refine swp_share_own (v := w9) (μ := μ8) (by repeat (first | exact Split.nil | (apply Split.cons; (repeat (first | with_reducible exact Take.here | apply Take.there))))) fun μ9 l9 rw9 => ?_
  refine swp_lend_own (v := v8) (μ := μ9) (by repeat (first | exact Split.nil | (apply Split.cons; (repeat (first | with_reducible exact Take.here | apply Take.there))))) fun μ10 l10 rv8 back8 => ?_
  refine swp_lend_own (v := v9) (μ := μ10) (by repeat (first | exact Split.nil | (apply Split.cons; (repeat (first | with_reducible exact Take.here | apply Take.there))))) fun μ11 l11 rv9 back9 => ?_
  have l6_9 : Le μ6 μ9 := (l7.trans l8).trans l9
  have l9_11 : Le μ9 μ11 := l10.trans l11
  refine swp_region ?_
  refine s_pu (pu_move rfl) ?_
  refine s_pu (pu_move rfl) ?_
  refine s_ef (ef_fn (same_spec μ11 _ _ (outR rs0) (outR rs0) (rv8.le l11) ((rw8.le l9).le l9_11)) rfl rfl (by repeat (first | exact Split.nil | (apply Split.cons; (repeat (first | with_reducible exact Take.here | apply Take.there)))))) ?_
  rintro v50 L1 ⟨rfl, rfl⟩
  refine swl_app ?_
  refine s_pu (pu_not rfl) ?_
  refine s_pu (pu_move rfl) ?_
  refine s_split 52 rfl (fun h52 => by simp at h52) (fun h52 => ?_)
  refine s_on rfl rfl ?_
  refine s_pu (pu_move rfl) ?_
  refine s_on rfl rfl ?_
  refine s_pu (pu_move rfl) ?_
  refine s_on rfl rfl ?_
  refine s_ef (ef_fn (samec_spec μ11 _ _ (cfR rs0) (cfR rs0) rv9 (rw9.le l9_11)) rfl rfl (by repeat (first | exact Split.nil | (apply Split.cons; (repeat (first | with_reducible exact Take.here | apply Take.there)))))) ?_
  rintro v55 L1 ⟨rfl, rfl⟩
  refine swl_app ?_
  refine s_on rfl rfl ?_
  refine s_pu (pu_not rfl) ?_
  first | refine s_pu (pu_pick_t rfl rfl) ?_ | refine s_pu (pu_pick_f rfl rfl) ?_
  refine s_pu (pu_move rfl) ?_
  refine s_split 58 rfl (fun h58 => by simp at h58) (fun h58 => ?_)
  refine s_on rfl rfl ?_
  refine s_pu (pu_move rfl) ?_
  refine s_on rfl rfl ?_
  refine s_pu (pu_move rfl) ?_
  refine s_on rfl rfl ?_
  refine s_pu (pu_move rfl) ?_
  refine s_on rfl rfl ?_
  refine s_ef (ef_fn (hcl μ11 _ _ _ ((rc.le l6_9).le l9_11) ((rp.le l6_9).le l9_11) ((ru.le l6_9).le l9_11)) rfl rfl (by repeat (first | exact Split.nil | (apply Split.cons; (repeat (first | with_reducible exact Take.here | apply Take.there)))))) ?_
  rintro v62 L1 ⟨μ12, l12, rfl, rfl⟩
  refine swl_app ?_
  refine s_on rfl rfl ?_
  refine s_pu (pu_move rfl) ?_
  refine s_on rfl rfl ?_
  refine s_pu (pu_len_row (rw9.le l9_11) rfl) ?_
  refine s_on rfl rfl ?_
  refine s_pu (pu_eql rfl rfl) ?_
  refine s_on rfl rfl ?_
  refine s_pu (pu_bool_ne rfl rfl) ?_
  first | refine s_pu (pu_pick_t rfl rfl) ?_ | refine s_pu (pu_pick_f rfl rfl) ?_
  refine swl_sub _ (.cons (t := 7) rfl (.cons (t := 8) rfl (.cons (t := 9) rfl (.cons (t := 10) rfl (.cons (t := 11) rfl (.cons (t := 12) rfl (.cons (t := 13) rfl (.cons (t := 14) rfl (.cons (t := 15) rfl (.cons (t := 16) rfl (.cons (t := 67) rfl .nil))))))))))) ?_
  refine swl_nil ?_
  refine then_n ?_
  refine swp_cond (b := _) rfl (fun h67 => by simp at h67) (fun h67 => ?_)
  refine swp_skip ?_
  refine then_n ?_
  refine swp_seq ?_
  refine swp_seq ?_
  obtain ⟨μ13, l13, e13⟩ := back9 μ12 l12
  obtain ⟨μ14, l14, e14⟩ := back8 μ13 l13
  refine swp_ent (e13 _) ?_
  refine swp_ent (Ent.cons (e14 _)) ?_
  refine swp_region ?_
  refine s_pu (pu_move rfl) ?_
  refine s_pu (pu_len_row rv8 rfl) ?_
  refine s_pu (pu_move rfl) ?_
  refine swl_sub _ (.cons (t := 7) rfl (.cons (t := 8) rfl (.cons (t := 9) rfl (.cons (t := 10) rfl (.cons (t := 11) rfl (.cons (t := 12) rfl (.cons (t := 13) rfl (.cons (t := 14) rfl (.cons (t := 15) rfl (.cons (t := 16) rfl (.cons (t := 69) rfl (.cons (t := 70) rfl .nil)))))))))))) ?_
  refine swl_nil ?_
  refine then_n ?_
  refine swp_block ?_
  refine swp_loop (ι := Nat × List En) (fun k env L => Sub env [(7, v23), (8, v25), (9, v27), (10, .slice (some ⟨b29, 0, none⟩) b.length (b.length + 1)), (11, .slice (some ⟨b31, 0, none⟩) o.length (o.length + 1)), (12, .slice (some ⟨b33, 0, none⟩) t.length (t.length + 1)), (13, v8), (14, v9), (15, w8), (16, w9), (69, .int .i64 ((outR rs0).length : Nat)), (70, .int .i64 (k.1 : Nat))] ∧ Ent L [own 51 2 v8 (outR rs0).length (ens k.2), own 70 4 v9 (cfR rs0).length (cfs (cfR rs0)), ro μ14] ∧ k.1 ≤ (outR rs0).length ∧ k.2.length = (outR rs0).length) (fun k => (outR rs0).length - k.1) (0, outR rs0) ⟨⟨rfl, rfl, rfl, rfl, rfl, rfl, rfl, rfl, rfl, rfl, rfl, rfl, trivial⟩, Split.ent' (by repeat (first | exact Split.nil | (apply Split.cons; (repeat (first | with_reducible exact Take.here | apply Take.there))))), Nat.zero_le _, rfl⟩ ?_
  rintro ⟨k, es⟩ env L ⟨hsub, hE, hk, hes⟩
  dsimp only at hk hes hsub hE ⊢
  refine swp_sub _ hsub ?_
  refine swp_ent hE ?_
  clear hsub env hE L
  refine swp_seq ?_
  refine swp_region ?_
  refine s_pu (pu_lss rfl rfl) ?_
  refine swl_sub _ (.cons (t := 7) rfl (.cons (t := 8) rfl (.cons (t := 9) rfl (.cons (t := 10) rfl (.cons (t := 11) rfl (.cons (t := 12) rfl (.cons (t := 13) rfl (.cons (t := 14) rfl (.cons (t := 15) rfl (.cons (t := 16) rfl (.cons (t := 69) rfl (.cons (t := 70) rfl (.cons (t := 71) rfl .nil))))))))))))) ?_
  refine swl_nil ?_
  refine then_n ?_
  refine swp_seq ?_
  refine swp_cond (b := _) rfl (fun h71 => ?_) (fun h71 => ?_)
  · skip   -- 71 T
    have h71' : k < (outR rs0).length := by have := of_decide_eq_true h71; omega
    refine swp_own (fun h0 l0 _ => by omega) (fun bq cq exq hvq q1 q2 q3 q4 => ?_)
    subst hvq
    refine swp_skip ?_
    refine then_n ?_
    refine swp_seq ?_
    refine swp_block ?_
    refine swp_seq ?_
    refine swp_region ?_
    refine s_pu (pu_move rfl) ?_
    refine s_pu (pu_assign rfl) ?_
    refine swl_sub _ (.cons (t := 7) rfl (.cons (t := 8) rfl (.cons (t := 9) rfl (.cons (t := 10) rfl (.cons (t := 11) rfl (.cons (t := 12) rfl (.cons (t := 13) rfl (.cons (t := 14) rfl (.cons (t := 15) rfl (.cons (t := 16) rfl (.cons (t := 17) rfl (.cons (t := 69) rfl (.cons (t := 70) rfl .nil))))))))))))) ?_
    refine swl_nil ?_
    refine then_n ?_
    refine swp_region ?_
    refine s_pu (pu_move rfl) ?_
    refine s_pu (pu_move rfl) ?_
    refine s_pu (pu_bld (qs := [(0, _)]) rfl) ?_
    refine s_pu (pu_indexAddr (0 + k * 2) rfl rfl (by omega) (by omega) (by rw [Int.toNat_natCast])) ?_
    refine s_ef0 (ef_storeAs (vs := enc1 (⟨#[115, 112, 111, 105, 108, 116]⟩, 0)) (cs' := ens (es.set k (⟨#[115, 112, 111, 105, 108, 116]⟩, 0)) ++ exq) rfl rfl (by rw [Nat.zero_add]; exact flat_over enc1_len es exq k (⟨#[115, 112, 111, 105, 108, 116]⟩, 0) (by omega)) (by rw [List.length_append, q3]; show 0 + k * 2 + 2 ≤ _; omega) rfl rfl) ?_
    refine swl_sub _ (.cons (t := 7) rfl (.cons (t := 8) rfl (.cons (t := 9) rfl (.cons (t := 10) rfl (.cons (t := 11) rfl (.cons (t := 12) rfl (.cons (t := 13) rfl (.cons (t := 14) rfl (.cons (t := 15) rfl (.cons (t := 16) rfl (.cons (t := 69) rfl (.cons (t := 70) rfl .nil)))))))))))) ?_
    refine swl_ent (own_close (n := 2) (by rw [flat_length enc1_len, List.length_set, hes]) q4 q1 q2) ?_
    refine swl_nil ?_
    refine block_n ?_
    refine then_n ?_
    refine swp_region ?_
    refine s_pu (pu_add_as ((k + 1 : Nat) : Int) rfl rfl (by omega) (by omega) (by omega)) ?_
    refine s_pu (pu_move rfl) ?_
    refine swl_sub _ (.cons (t := 7) rfl (.cons (t := 8) rfl (.cons (t := 9) rfl (.cons (t := 10) rfl (.cons (t := 11) rfl (.cons (t := 12) rfl (.cons (t := 13) rfl (.cons (t := 14) rfl (.cons (t := 15) rfl (.cons (t := 16) rfl (.cons (t := 69) rfl (.cons (t := 70) rfl .nil)))))))))))) ?_
    refine swl_nil ?_
    exact then_n ⟨(k + 1, es.set k (⟨#[115, 112, 111, 105, 108, 116]⟩, 0)), ⟨⟨rfl, rfl, rfl, rfl, rfl, rfl, rfl, rfl, rfl, rfl, rfl, rfl, trivial⟩, Split.ent' (by repeat (first | exact Split.nil | (apply Split.cons; (repeat (first | with_reducible exact Take.here | apply Take.there))))), h71', by rw [List.length_set]; exact hes⟩, by show (outR rs0).length - (k + 1) < (outR rs0).length - k; omega⟩
  · skip   -- 71 F
    refine swp_exit ?_
    refine then_x ?_
    refine then_x ?_
    refine block_hit rfl ?_
    refine then_n ?_
    refine swp_seq ?_
    refine swp_region ?_
    refine s_pu (pu_move rfl) ?_
    refine s_pu (pu_bld (qs := [(0, _)]) rfl) ?_
    refine s_ef (ef_bldS (qs := [(0, _)]) rfl rfl rfl) ?_
    intro b80
    refine s_ef (ef_append_lit (l := (outR rs0).length) (m := 1) rfl rfl (by repeat (first | exact Split.nil | (apply Split.cons; (repeat (first | with_reducible exact Take.here | apply Take.there))))) (by simp only [maxLen]; omega) (by omega)) ?_
    rintro v81 -
    skip
    refine swl_sub _ (.cons (t := 7) rfl (.cons (t := 8) rfl (.cons (t := 9) rfl (.cons (t := 10) rfl (.cons (t := 11) rfl (.cons (t := 12) rfl (.cons (t := 14) rfl (.cons (t := 15) rfl (.cons (t := 16) rfl .nil))))))))) ?_
    refine swl_nil ?_
    refine then_n ?_
    refine swp_seq ?_
    refine swp_seq ?_
    refine swp_region ?_
    refine s_pu (pu_move rfl) ?_
    refine s_pu (pu_len_row rv9 rfl) ?_
    refine s_pu (pu_move rfl) ?_
    refine swl_sub _ (.cons (t := 7) rfl (.cons (t := 8) rfl (.cons (t := 9) rfl (.cons (t := 10) rfl (.cons (t := 11) rfl (.cons (t := 12) rfl (.cons (t := 14) rfl (.cons (t := 15) rfl (.cons (t := 16) rfl (.cons (t := 83) rfl (.cons (t := 84) rfl .nil))))))))))) ?_
    refine swl_nil ?_
    refine then_n ?_
    refine swp_block ?_
    refine swp_loop (ι := Nat × List Cf) (fun k env L => Sub env [(7, v23), (8, v25), (9, v27), (10, .slice (some ⟨b29, 0, none⟩) b.length (b.length + 1)), (11, .slice (some ⟨b31, 0, none⟩) o.length (o.length + 1)), (12, .slice (some ⟨b33, 0, none⟩) t.length (t.length + 1)), (14, v9), (15, w8), (16, w9), (83, .int .i64 ((cfR rs0).length : Nat)), (84, .int .i64 (k.1 : Nat))] ∧ Ent L [own 70 4 v9 (cfR rs0).length (cfs k.2), ro μ14] ∧ k.1 ≤ (cfR rs0).length ∧ k.2.length = (cfR rs0).length) (fun k => (cfR rs0).length - k.1) (0, cfR rs0) ⟨⟨rfl, rfl, rfl, rfl, rfl, rfl, rfl, rfl, rfl, rfl, rfl, trivial⟩, Split.ent' (by repeat (first | exact Split.nil | (apply Split.cons; (repeat (first | with_reducible exact Take.here | apply Take.there))))), Nat.zero_le _, rfl⟩ ?_
    rintro ⟨i, cs⟩ env L ⟨hsub, hE, hi, hcs⟩
    dsimp only at hi hcs hsub hE ⊢
    refine swp_sub _ hsub ?_
    refine swp_ent hE ?_
    clear hsub env hE L
    refine swp_seq ?_
    refine swp_region ?_
    refine s_pu (pu_lss rfl rfl) ?_
    refine swl_sub _ (.cons (t := 7) rfl (.cons (t := 8) rfl (.cons (t := 9) rfl (.cons (t := 10) rfl (.cons (t := 11) rfl (.cons (t := 12) rfl (.cons (t := 14) rfl (.cons (t := 15) rfl (.cons (t := 16) rfl (.cons (t := 83) rfl (.cons (t := 84) rfl (.cons (t := 85) rfl .nil)))))))))))) ?_
    refine swl_nil ?_
    refine then_n ?_
    refine swp_seq ?_
    refine swp_cond (b := _) rfl (fun h85 => ?_) (fun h85 => ?_)
    · skip   -- 85 T
      have h85' : i < (cfR rs0).length := by have := of_decide_eq_true h85; omega
      refine swp_own (fun h0 l0 _ => by omega) (fun bq cq exq hvq q1 q2 q3 q4 => ?_)
      subst hvq
      refine swp_skip ?_
      refine then_n ?_
      refine swp_seq ?_
      refine swp_block ?_
      refine swp_seq ?_
      refine swp_region ?_
      refine s_pu (pu_move rfl) ?_
      refine s_pu (pu_assign rfl) ?_
      refine swl_sub _ (.cons (t := 7) rfl (.cons (t := 8) rfl (.cons (t := 9) rfl (.cons (t := 10) rfl (.cons (t := 11) rfl (.cons (t := 12) rfl (.cons (t := 14) rfl (.cons (t := 15) rfl (.cons (t := 16) rfl (.cons (t := 18) rfl (.cons (t := 83) rfl (.cons (t := 84) rfl .nil)))))))))))) ?_
      refine swl_nil ?_
      refine then_n ?_
      refine swp_region ?_
      refine s_pu (pu_move rfl) ?_
      refine s_pu (pu_move rfl) ?_
      refine s_pu (pu_bld (qs := [(0, _)]) rfl) ?_
      refine s_pu (pu_indexAddr (0 + i * 4) rfl rfl (by omega) (by omega) (by rw [Int.toNat_natCast])) ?_
      refine s_ef0 (ef_storeAs (vs := encC (⟨#[115, 112, 111, 105, 108, 116]⟩, 0, 0, 0)) (cs' := cfs (cs.set i (⟨#[115, 112, 111, 105, 108, 116]⟩, 0, 0, 0)) ++ exq) rfl rfl (by rw [Nat.zero_add]; exact flat_over (k := 4) (fun _ => rfl) cs exq i (⟨#[115, 112, 111, 105, 108, 116]⟩, 0, 0, 0) (by omega)) (by rw [List.length_append, q3]; show 0 + i * 4 + 4 ≤ _; omega) rfl rfl) ?_
      refine swl_sub _ (.cons (t := 7) rfl (.cons (t := 8) rfl (.cons (t := 9) rfl (.cons (t := 10) rfl (.cons (t := 11) rfl (.cons (t := 12) rfl (.cons (t := 14) rfl (.cons (t := 15) rfl (.cons (t := 16) rfl (.cons (t := 83) rfl (.cons (t := 84) rfl .nil))))))))))) ?_
      refine swl_ent (own_close (n := 4) (by rw [flat_length (k := 4) (fun _ => rfl), List.length_set, hcs]) q4 q1 q2) ?_
      refine swl_nil ?_
      refine block_n ?_
      refine then_n ?_
      refine swp_region ?_
      refine s_pu (pu_add_as ((i + 1 : Nat) : Int) rfl rfl (by omega) (by omega) (by omega)) ?_
      refine s_pu (pu_move rfl) ?_
      refine swl_sub _ (.cons (t := 7) rfl (.cons (t := 8) rfl (.cons (t := 9) rfl (.cons (t := 10) rfl (.cons (t := 11) rfl (.cons (t := 12) rfl (.cons (t := 14) rfl (.cons (t := 15) rfl (.cons (t := 16) rfl (.cons (t := 83) rfl (.cons (t := 84) rfl .nil))))))))))) ?_
      refine swl_nil ?_
      exact then_n ⟨(i + 1, cs.set i (⟨#[115, 112, 111, 105, 108, 116]⟩, 0, 0, 0)), ⟨⟨rfl, rfl, rfl, rfl, rfl, rfl, rfl, rfl, rfl, rfl, rfl, trivial⟩, Ent.refl _, h85', by rw [List.length_set]; exact hcs⟩, by show (cfR rs0).length - (i + 1) < (cfR rs0).length - i; omega⟩
    · skip   -- 85 F
      refine swp_exit ?_
      refine then_x ?_
      refine then_x ?_
      refine block_hit rfl ?_
      refine then_n ?_
      refine swp_seq ?_
      have l6_14 : Le μ6 μ14 := l6_9.trans l14
      refine swp_region ?_
      refine s_pu (pu_move rfl) ?_
      refine s_pu (pu_move rfl) ?_
      refine s_pu (pu_move rfl) ?_
      refine s_ef (ef_fn (h3 μ14 _ _ _ (rc.le l6_14) (rp.le l6_14) (ru.le l6_14)) rfl rfl (by repeat (first | exact Split.nil | (apply Split.cons; (repeat (first | with_reducible exact Take.here | apply Take.there)))))) ?_
      rintro v96 L1 ⟨v10, v11, μ15, l15, rfl, rfl⟩
      refine swl_app ?_
      refine s_pu (pu_move rfl) ?_
      first | refine s_pu (pu_extractL rfl) ?_ | refine s_pu (pu_extract rfl rfl) ?_
      first | refine s_pu (pu_extractL rfl) ?_ | refine s_pu (pu_extract rfl rfl) ?_
      refine s_pu (pu_assign rfl) ?_
      refine s_pu (pu_assign rfl) ?_
      refine swl_sub _ (.cons (t := 7) rfl (.cons (t := 8) rfl (.cons (t := 9) rfl (.cons (t := 10) rfl (.cons (t := 11) rfl (.cons (t := 12) rfl (.cons (t := 14) rfl (.cons (t := 15) rfl (.cons (t := 16) rfl (.cons (t := 19) rfl .nil)))))))))) ?_
      refine swl_nil ?_
      refine then_n ?_
      refine swp_seq ?_
      refine swp_share_own (v := v10) (μ := μ15) (by repeat (first | exact Split.nil | (apply Split.cons; (repeat (first | with_reducible exact Take.here | apply Take.there))))) fun μ16 l16 rv10 => ?_
      refine swp_share_own (v := v11) (μ := μ16) (by repeat (first | exact Split.nil | (apply Split.cons; (repeat (first | with_reducible exact Take.here | apply Take.there))))) fun μ17 l17 rv11 => ?_
      have l9_17 : Le μ9 μ17 := ((l14.trans l15).trans l16).trans l17
      have l6_17 : Le μ6 μ17 := l6_9.trans l9_17
      have l7_17 : Le μ7 μ17 := (l8.trans l9).trans l9_17
      refine swp_region ?_
      refine s_pu (pu_move rfl) ?_
      refine s_pu (pu_move rfl) ?_
      refine s_ef (ef_fn (same_spec μ17 _ _ (outR rs0) (outR rs0) (rv10.le l17) ((rw8.le l9).le l9_17)) rfl rfl (by repeat (first | exact Split.nil | (apply Split.cons; (repeat (first | with_reducible exact Take.here | apply Take.there)))))) ?_
      rintro v101 L1 ⟨rfl, rfl⟩
      refine swl_app ?_
      refine s_pu (pu_move rfl) ?_
      refine s_split 102 rfl (fun h102 => ?_) (fun h102 => by simp at h102)
      refine s_on rfl rfl ?_
      refine s_pu (pu_move rfl) ?_
      refine s_on rfl rfl ?_
      refine s_pu (pu_move rfl) ?_
      refine s_on rfl rfl ?_
      refine s_ef (ef_fn (samec_spec μ17 _ _ (cfR rs0) (cfR rs0) rv11 (rw9.le l9_17)) rfl rfl (by repeat (first | exact Split.nil | (apply Split.cons; (repeat (first | with_reducible exact Take.here | apply Take.there)))))) ?_
      rintro v105 L1 ⟨rfl, rfl⟩
      refine swl_app ?_
      first | refine s_pu (pu_pick_t rfl rfl) ?_ | refine s_pu (pu_pick_f rfl rfl) ?_
      refine s_pu (pu_move rfl) ?_
      refine s_split 107 rfl (fun h107 => ?_) (fun h107 => by simp at h107)
      refine s_on rfl rfl ?_
      refine s_pu (pu_move rfl) ?_
      refine s_on rfl rfl ?_
      refine s_pu (pu_move rfl) ?_
      refine s_on rfl rfl ?_
      refine s_ef (ef_fn (kept_spec μ17 b29 _ b (l6_17 _ _ g29) (rb.le l7_17) (by omega)) rfl rfl (by repeat (first | exact Split.nil | (apply Split.cons; (repeat (first | with_reducible exact Take.here | apply Take.there)))))) ?_
      rintro v110 L1 ⟨rfl, rfl⟩
      refine swl_app ?_
      first | refine s_pu (pu_pick_t rfl rfl) ?_ | refine s_pu (pu_pick_f rfl rfl) ?_
      refine s_pu (pu_move rfl) ?_
      refine s_on rfl rfl ?_
      refine s_pu (pu_move rfl) ?_
      refine s_on rfl rfl ?_
      refine s_pu (pu_move rfl) ?_
      refine s_on rfl rfl ?_
      refine s_ef (ef_fn (kept_spec μ17 b31 _ o (l6_17 _ _ g31) (ro_.le l7_17) (by omega)) rfl rfl (by repeat (first | exact Split.nil | (apply Split.cons; (repeat (first | with_reducible exact Take.here | apply Take.there)))))) ?_
      rintro v115 L1 ⟨rfl, rfl⟩
      refine swl_app ?_
      first | refine s_pu (pu_pick_t rfl rfl) ?_ | refine s_pu (pu_pick_f rfl rfl) ?_
      refine s_pu (pu_move rfl) ?_
      refine s_on rfl rfl ?_
      refine s_pu (pu_move rfl) ?_
      refine s_on rfl rfl ?_
      refine s_pu (pu_move rfl) ?_
      refine s_on rfl rfl ?_
      refine s_ef (ef_fn (kept_spec μ17 b33 _ t (l6_17 _ _ g33) (rt.le l7_17) (by omega)) rfl rfl (by repeat (first | exact Split.nil | (apply Split.cons; (repeat (first | with_reducible exact Take.here | apply Take.there)))))) ?_
      rintro v120 L1 ⟨rfl, rfl⟩
      refine swl_app ?_
      first | refine s_pu (pu_pick_t rfl rfl) ?_ | refine s_pu (pu_pick_f rfl rfl) ?_
      refine s_pu (pu_assign rfl) ?_
      refine swl_sub _ (.cons (t := 6) rfl .nil) ?_
      refine swl_nil ?_
      refine then_n ?_
      refine swp_ret ?_
      exact done_ret [ro μ17] (.tmp rfl .nil) ⟨rfl, μ17, [], ((((((((l1.trans l2).trans l3).trans l4).trans l5).trans l6).trans l6_17))), rfl⟩ (by repeat (first | exact Split.nil | (apply Split.cons; (repeat (first | with_reducible exact Take.here | apply Take.there)))))
end SX
