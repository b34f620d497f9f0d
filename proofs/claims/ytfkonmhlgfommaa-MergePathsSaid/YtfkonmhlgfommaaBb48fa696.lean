/- A part of the proof: walks of the program's functions, and the rules by which they go. -/
import Derived.Test.YtfkonmhlgfommaaB364f660b
namespace SX
open Go Go.Proofs
theorem ens_take {t : List En} {i : Nat} {e : En} (h : t[i]? = some e) : ens (t.take (i + 1)) = ens (t.take i) ++ enc1 e := by
  rw [List.take_add_one, h, ens, ens, List.flatMap_append]; rfl
theorem ens_app (a b : List En) : ens (a ++ b) = ens a ++ ens b := List.flatMap_append
theorem ens_drop (t : List En) (i : Nat) : ens (t.drop i) = (ens t).drop (i * 2) := by
  induction t generalizing i with
  | nil => simp [ens]
  | cons e t ih =>
    cases i with
    | zero => rfl
    | succ i =>
      rw [List.drop_succ_cons, ih, Nat.succ_mul, Nat.add_comm (i * 2) 2, ens, ens, List.flatMap_cons, ← List.drop_drop]; rfl
set_option maxHeartbeats 2000000 in
theorem put_spec (μ : PH) (v : Value) (t : List En) (p : ByteArray) (b : Int) (h : Row μ v 2 t.length (ens t)) (hsz : t.length ≤ 1048576) (hps : p.size ≤ 9223372036854775807) :
    Spec Try.prog 71 [v, .string p, .int .u32 b] [ro μ] (fun r L => L = [own 51 2 r (putE t p b).length (ens (putE t p b)), ro μ]) := by
  refine Spec.of 69 Try.func71 rfl rfl rfl ?_
  refine swp_seq ?_
  refine swp_region ?_
  refine s_pu (pu_assign rfl) ?_
  refine swl_sub _ (.cons (t := 0) rfl (.cons (t := 1) rfl (.cons (t := 2) rfl .nil))) ?_
  refine swl_nil ?_
  refine then_n ?_
  refine swp_seq ?_
  refine swp_region ?_
  refine s_pu (pu_move rfl) ?_
  refine s_pu (pu_len_row h rfl) ?_
  refine s_pu (pu_add_as ((t.length + 1 : Nat) : Int) rfl rfl (by omega) (by omega) (by omega)) ?_
  refine s_ef (ef_make0 (e := 51) (n := 2) rfl rfl (by omega) (by omega) (by simp only [maxLen]; omega)) ?_
  rintro v12
  skip
  refine s_pu (pu_assign rfl) ?_
  refine swl_sub _ (.cons (t := 0) rfl (.cons (t := 1) rfl (.cons (t := 2) rfl (.cons (t := 7) rfl .nil)))) ?_
  refine swl_nil ?_
  refine then_n ?_
  refine swp_seq ?_
  refine swp_seq ?_
  refine swp_region ?_
  refine s_pu (pu_move rfl) ?_
  refine s_pu (pu_strlen rfl) ?_
  refine s_pu (pu_gtr rfl rfl) ?_
  refine swl_sub _ (.cons (t := 0) rfl (.cons (t := 1) rfl (.cons (t := 2) rfl (.cons (t := 7) rfl (.cons (t := 15) rfl .nil))))) ?_
  refine swl_nil ?_
  refine then_n ?_
  refine swp_cond (b := _) rfl (fun h15 => ?_) (fun h15 => ?_)
  · skip   -- 15 T
    refine swp_seq ?_
    refine swp_region ?_
    refine s_pu (pu_move rfl) ?_
    refine s_pu (pu_move rfl) ?_
    refine s_ef (ef_append_ro h rfl rfl (by repeat (first | exact Split.nil | (apply Split.cons; (repeat (first | with_reducible exact Take.here | apply Take.there))))) (ens_one _) (by simp only [maxLen]; omega) (by omega)) ?_
    rintro v18 -
    rw [Nat.zero_add, List.nil_append]
    refine s_pu (pu_assign rfl) ?_
    refine swl_sub _ (.cons (t := 6) rfl .nil) ?_
    refine swl_nil ?_
    refine then_n ?_
    refine swp_ret ?_
    refine then_r ?_
    have h15' : 255 < p.size := by have := of_decide_eq_true h15; omega
    have e : putE t p b = t := by unfold putE; rw [if_pos h15']
    exact done_ret [own 51 2 v18 t.length (ens t), ro μ] (.tmp rfl .nil) (by rw [e]; rfl) (by repeat (first | exact Split.nil | (apply Split.cons; (repeat (first | with_reducible exact Take.here | apply Take.there)))))
  · skip   -- 15 F
    have h15' : ¬ 255 < p.size := by have := of_decide_eq_false h15; omega
    refine swp_skip ?_
    refine then_n ?_
    refine swp_seq ?_
    refine swp_region ?_
    refine s_pu (pu_assign rfl) ?_
    refine swl_sub _ (.cons (t := 0) rfl (.cons (t := 1) rfl (.cons (t := 2) rfl (.cons (t := 7) rfl (.cons (t := 8) rfl .nil))))) ?_
    refine swl_nil ?_
    refine then_n ?_
    refine swp_cut (fun env L => ∃ i v7, Sub env [(0, v), (1, .string p), (2, .int .u32 b), (7, v7), (8, .int .i64 (i : Nat))] ∧ L = [own 51 2 v7 i (ens (t.take i)), ro μ] ∧ i ≤ t.length ∧ t.takeWhile (ltP p) = t.take i ∧ t.dropWhile (ltP p) = t.drop i) ?_ ?_
    · skip
      refine swp_block ?_
      refine swp_loop (ι := Nat × Value) (fun k env L => env = [(0, v), (1, .string p), (2, .int .u32 b), (7, k.2), (8, .int .i64 (k.1 : Nat))] ∧ L = [own 51 2 k.2 k.1 (ens (t.take k.1)), ro μ] ∧ k.1 ≤ t.length ∧ (t.take k.1).all (ltP p) = true) (fun k => t.length - k.1) (0, v12) ⟨rfl, rfl, Nat.zero_le _, rfl⟩ ?_
      rintro ⟨i, v7⟩ env L ⟨rfl, rfl, hi, hall⟩
      simp only [] at hi hall
      dsimp only
      refine swp_seq ?_
      refine swp_seq ?_
      refine swp_region ?_
      refine s_pu (pu_move rfl) ?_
      refine s_pu (pu_move rfl) ?_
      refine s_pu (pu_len_row h rfl) ?_
      refine s_pu (pu_lss rfl rfl) ?_
      refine s_pu (pu_move rfl) ?_
      refine s_split 23 rfl (fun h23 => ?_) (fun h23 => ?_)
      · skip   -- 23 T
        have h23' : i < t.length := by have := of_decide_eq_true h23; omega
        obtain ⟨e, he⟩ : ∃ e, t[i]? = some e := ⟨_, List.getElem?_eq_getElem h23'⟩
        obtain ⟨gb, off, cap, hv, hra, hc0, hc1⟩ := tree_at h he
        refine s_on rfl rfl ?_
        refine s_pu (pu_move rfl) ?_
        refine s_on rfl rfl ?_
        refine s_pu (pu_move rfl) ?_
        refine s_on rfl rfl ?_
        refine s_pu (pu_indexAddr (off + i * 2) (congrArg some hv) rfl (by omega) (by omega) (by rw [Int.toNat_natCast])) ?_
        refine s_on rfl rfl ?_
        first | refine s_pu (pu_fieldAddr0 rfl) ?_ | refine s_pu (pu_fieldAddr rfl) ?_
        refine s_on rfl rfl ?_
        refine s_rd (rd_ro rfl hc0) ?_
        refine s_on rfl rfl ?_
        refine s_pu (pu_move rfl) ?_
        refine s_on rfl rfl ?_
        refine s_pu (pu_str_lss rfl rfl) ?_
        first | refine s_pu (pu_pick_t rfl rfl) ?_ | refine s_pu (pu_pick_f rfl rfl) ?_
        refine swl_sub _ (.cons (t := 0) rfl (.cons (t := 1) rfl (.cons (t := 2) rfl (.cons (t := 7) rfl (.cons (t := 8) rfl (.cons (t := 31) rfl .nil)))))) ?_
        refine swl_nil ?_
        refine then_n ?_
        refine swp_cond (b := _) rfl (fun h31 => ?_) (fun h31 => ?_)
        · skip   -- 31 T
          refine swp_skip ?_
          refine then_n ?_
          refine swp_block ?_
          refine swp_seq ?_
          refine swp_region ?_
          refine s_pu (pu_move rfl) ?_
          refine s_pu (pu_move rfl) ?_
          refine s_pu (pu_move rfl) ?_
          refine s_pu (pu_indexAddr (off + i * 2) (congrArg some hv) rfl (by omega) (by omega) (by rw [Int.toNat_natCast])) ?_
          refine s_rd (rd_roA rfl rfl hra) ?_
          refine s_ef (ef_bldS (qs := [(0, _)]) rfl rfl rfl) ?_
          intro b37
          refine s_ef (ef_append_lit (l := i) (m := 1) rfl rfl (by repeat (first | exact Split.nil | (apply Split.cons; (repeat (first | with_reducible exact Take.here | apply Take.there))))) (by simp only [maxLen]; omega) (by omega)) ?_
          rintro v38 -
          skip
          refine s_pu (pu_assign rfl) ?_
          refine swl_sub _ (.cons (t := 0) rfl (.cons (t := 1) rfl (.cons (t := 2) rfl (.cons (t := 7) rfl (.cons (t := 8) rfl .nil))))) ?_
          refine swl_nil ?_
          refine then_n ?_
          refine swp_region ?_
          refine s_pu (pu_move rfl) ?_
          refine s_pu (pu_add_as ((i + 1 : Nat) : Int) rfl rfl (by omega) (by omega) (by omega)) ?_
          refine s_pu (pu_assign rfl) ?_
          refine swl_sub _ (.cons (t := 0) rfl (.cons (t := 1) rfl (.cons (t := 2) rfl (.cons (t := 7) rfl (.cons (t := 8) rfl .nil))))) ?_
          refine swl_nil ?_
          refine block_n ?_
          refine then_n ⟨(i + 1, v38), ⟨rfl, by rw [ens_take he], h23', ?_⟩, by show t.length - (i + 1) < t.length - i; omega⟩
          show (t.take (i + 1)).all (ltP p) = true
          rw [List.take_add_one, he, List.all_append, hall]
          simp [ltP, h31]
        · skip   -- 31 F
          refine swp_exit ?_
          refine then_x ?_
          refine then_x ?_
          refine block_hit rfl ?_
          obtain ⟨k1, k2⟩ := while_at (p := p) hi hall (fun e' he' => by rw [he] at he'; cases he'; exact h31)
          exact then_n ⟨i, v7, ⟨rfl, rfl, rfl, rfl, rfl, trivial⟩, rfl, hi, k1, k2⟩
      · skip   -- 23 F
        refine s_off rfl rfl rfl ?_
        refine s_off rfl rfl rfl ?_
        refine s_off rfl rfl rfl ?_
        refine s_off rfl rfl rfl ?_
        refine s_off rfl rfl rfl ?_
        refine s_off rfl rfl rfl ?_
        refine s_off rfl rfl rfl ?_
        first | refine s_pu (pu_pick_t rfl rfl) ?_ | refine s_pu (pu_pick_f rfl rfl) ?_
        refine swl_sub _ (.cons (t := 0) rfl (.cons (t := 1) rfl (.cons (t := 2) rfl (.cons (t := 7) rfl (.cons (t := 8) rfl (.cons (t := 31) rfl .nil)))))) ?_
        refine swl_nil ?_
        refine then_n ?_
        refine swp_cond (b := _) rfl (fun h31 => by cases h31) (fun h31 => ?_)
        refine swp_exit ?_
        refine then_x ?_
        refine then_x ?_
        refine block_hit rfl ?_
        have h23' := of_decide_eq_false h23
        obtain ⟨k1, k2⟩ := while_at (p := p) hi hall (fun e' he' => by have := (List.getElem?_eq_some_iff.1 he').1; omega)
        exact then_n ⟨i, v7, ⟨rfl, rfl, rfl, rfl, rfl, trivial⟩, rfl, hi, k1, k2⟩
    rintro env L ⟨i, v7, hsub, rfl, hi, k1, k2⟩
    refine swp_sub _ hsub ?_
    clear hsub env
    refine swp_cut (fun env L => ∃ v7, Sub env [(0, v), (1, .string p), (7, v7), (8, .int .i64 (i : Nat))] ∧ L = [own 51 2 v7 (t.take i ++ (if b = 0 then [] else [(p, b)])).length (ens (t.take i ++ (if b = 0 then [] else [(p, b)]))), ro μ]) ?_ ?_
    · skip
      refine swp_seq ?_
      refine swp_region ?_
      refine s_pu (pu_move rfl) ?_
      refine s_pu (pu_neq rfl rfl) ?_
      refine swl_sub _ (.cons (t := 0) rfl (.cons (t := 1) rfl (.cons (t := 2) rfl (.cons (t := 7) rfl (.cons (t := 8) rfl (.cons (t := 42) rfl .nil)))))) ?_
      refine swl_nil ?_
      refine then_n ?_
      refine swp_cond (b := _) rfl (fun h42 => ?_) (fun h42 => ?_)
      · skip   -- 42 T
        refine swp_region ?_
        refine s_pu (pu_move rfl) ?_
        refine s_pu (pu_move rfl) ?_
        refine s_pu (pu_move rfl) ?_
        refine s_pu (pu_bld (qs := [(0, _), (1, _)]) rfl) ?_
        refine s_ef (ef_bldS (qs := [(0, _)]) rfl rfl rfl) ?_
        intro b47
        refine s_ef (ef_append_lit (l := i) (m := 1) rfl rfl (by repeat (first | exact Split.nil | (apply Split.cons; (repeat (first | with_reducible exact Take.here | apply Take.there))))) (by simp only [maxLen]; omega) (by omega)) ?_
        rintro v48 -
        skip
        refine s_pu (pu_assign rfl) ?_
        refine swl_sub _ (.cons (t := 0) rfl (.cons (t := 1) rfl (.cons (t := 7) rfl (.cons (t := 8) rfl .nil)))) ?_
        refine swl_nil ?_
        have hb : b ≠ 0 := by simpa using h42
        refine then_n ⟨v48, ⟨rfl, rfl, rfl, rfl, trivial⟩, ?_⟩
        rw [if_neg hb, ens_app, List.length_append, List.length_take, Nat.min_eq_left hi]; rfl
      · skip   -- 42 F
        refine swp_skip ?_
        have hb : b = 0 := by simpa using h42
        refine then_n ⟨v7, ⟨rfl, rfl, rfl, rfl, trivial⟩, ?_⟩
        rw [if_pos hb, List.append_nil, List.length_take, Nat.min_eq_left hi]
    rintro env L ⟨v7, hsub, rfl⟩
    refine swp_sub _ hsub ?_
    clear hsub env
    have hmid : (t.take i ++ (if b = 0 then [] else [(p, b)])).length ≤ t.length + 1 := by
      rw [List.length_append, List.length_take]; split <;> simp <;> omega
    generalize hpre : t.take i ++ (if b = 0 then [] else [(p, b)]) = pre at hmid
    refine swp_cut (fun env L => ∃ j, Sub env [(0, v), (7, v7), (8, .int .i64 (j : Nat))] ∧ L = [own 51 2 v7 pre.length (ens pre), ro μ] ∧ j ≤ t.length ∧ cutE p (t.drop i) = t.drop j) ?_ ?_
    · skip
      refine swp_seq ?_
      refine swp_region ?_
      refine s_pu (pu_move rfl) ?_
      refine s_pu (pu_move rfl) ?_
      refine s_pu (pu_len_row h rfl) ?_
      refine s_pu (pu_lss rfl rfl) ?_
      refine s_pu (pu_move rfl) ?_
      refine s_split 53 rfl (fun h53 => ?_) (fun h53 => ?_)
      · skip   -- 53 T
        have h53' : i < t.length := by have := of_decide_eq_true h53; omega
        obtain ⟨e, he⟩ : ∃ e, t[i]? = some e := ⟨_, List.getElem?_eq_getElem h53'⟩
        obtain ⟨gb, off, cap, hv, hra, hc0, hc1⟩ := tree_at h he
        have hdr : t.drop i = e :: t.drop (i + 1) := by
          rw [List.drop_eq_getElem_cons h53']; congr 1; rw [List.getElem?_eq_getElem h53'] at he; exact Option.some.inj he
        refine s_on rfl rfl ?_
        refine s_pu (pu_move rfl) ?_
        refine s_on rfl rfl ?_
        refine s_pu (pu_move rfl) ?_
        refine s_on rfl rfl ?_
        refine s_pu (pu_indexAddr (off + i * 2) (congrArg some hv) rfl (by omega) (by omega) (by rw [Int.toNat_natCast])) ?_
        refine s_on rfl rfl ?_
        first | refine s_pu (pu_fieldAddr0 rfl) ?_ | refine s_pu (pu_fieldAddr rfl) ?_
        refine s_on rfl rfl ?_
        refine s_rd (rd_ro rfl hc0) ?_
        refine s_on rfl rfl ?_
        refine s_pu (pu_move rfl) ?_
        refine s_on rfl rfl ?_
        refine s_pu (pu_str_eql rfl rfl) ?_
        first | refine s_pu (pu_pick_t rfl rfl) ?_ | refine s_pu (pu_pick_f rfl rfl) ?_
        refine swl_sub _ (.cons (t := 0) rfl (.cons (t := 7) rfl (.cons (t := 8) rfl (.cons (t := 61) rfl .nil)))) ?_
        refine swl_nil ?_
        refine then_n ?_
        refine swp_cond (b := _) rfl (fun h61 => ?_) (fun h61 => ?_)
        · skip   -- 61 T
          refine swp_region ?_
          refine s_pu (pu_move rfl) ?_
          refine s_pu (pu_add_as ((i + 1 : Nat) : Int) rfl rfl (by omega) (by omega) (by omega)) ?_
          refine s_pu (pu_assign rfl) ?_
          refine swl_sub _ (.cons (t := 0) rfl (.cons (t := 7) rfl (.cons (t := 8) rfl .nil))) ?_
          refine swl_nil ?_
          refine then_n ⟨i + 1, ⟨rfl, rfl, rfl, trivial⟩, rfl, h53', ?_⟩
          rw [hdr, cutE_cons, if_pos h61]
        · skip   -- 61 F
          refine swp_skip ?_
          refine then_n ⟨i, ⟨rfl, rfl, rfl, trivial⟩, rfl, hi, ?_⟩
          rw [hdr, cutE_cons, if_neg (by rw [h61]; exact Bool.false_ne_true)]
      · skip   -- 53 F
        refine s_off rfl rfl rfl ?_
        refine s_off rfl rfl rfl ?_
        refine s_off rfl rfl rfl ?_
        refine s_off rfl rfl rfl ?_
        refine s_off rfl rfl rfl ?_
        refine s_off rfl rfl rfl ?_
        refine s_off rfl rfl rfl ?_
        first | refine s_pu (pu_pick_t rfl rfl) ?_ | refine s_pu (pu_pick_f rfl rfl) ?_
        refine swl_sub _ (.cons (t := 0) rfl (.cons (t := 7) rfl (.cons (t := 8) rfl (.cons (t := 61) rfl .nil)))) ?_
        refine swl_nil ?_
        refine then_n ?_
        refine swp_cond (b := _) rfl (fun h61 => by cases h61) (fun h61 => ?_)
        refine swp_skip ?_
        have h53' := of_decide_eq_false h53
        refine then_n ⟨i, ⟨rfl, rfl, rfl, trivial⟩, rfl, hi, ?_⟩
        rw [List.drop_eq_nil_of_le (by omega)]; rfl
    rintro env L ⟨j, hsub, rfl, hj, hcut⟩
    refine swp_sub _ hsub ?_
    clear hsub env
    obtain ⟨vlo, hlo1, hlo2⟩ := Row.lo (P := Try.prog) (t := 44) h j hj
    have hdl : t.length - j = (t.drop j).length := by rw [List.length_drop]
    rw [← ens_drop] at hlo1
    have hput : putE t p b = pre ++ t.drop j := by
      unfold putE
      rw [if_neg h15', k1, k2, hpre, hcut]
    refine swp_seq ?_
    refine swp_region ?_
    refine s_pu (pu_move rfl) ?_
    refine s_pu (pu_move rfl) ?_
    refine s_pu (pu_move rfl) ?_
    refine s_pu (hlo2 _ _ _ .i64 _ rfl rfl rfl) ?_
    refine s_ef (ef_append_ro hlo1 rfl rfl (by repeat (first | exact Split.nil | (apply Split.cons; (repeat (first | with_reducible exact Take.here | apply Take.there))))) (ens_one _) (by simp only [maxLen]; omega) (by omega)) ?_
    rintro v68 -
    skip
    refine s_pu (pu_assign rfl) ?_
    refine swl_sub _ (.cons (t := 6) rfl .nil) ?_
    refine swl_nil ?_
    refine then_n ?_
    refine swp_ret ?_
    refine done_ret [own 51 2 v68 (pre.length + (t.length - j)) (ens pre ++ ens (t.drop j)), ro μ] (.tmp rfl .nil) ?_ (by repeat (first | exact Split.nil | (apply Split.cons; (repeat (first | with_reducible exact Take.here | apply Take.there)))))
    rw [hput, List.length_append, ens_app, hdl]; rfl
end SX
namespace SX
open Go Go.Proofs
/-- what is wrong with entry i -/
def wrongE (t : List En) (i : Nat) : Int :=
  match t[i]? with
  | none => 0
  | some e => if 255 < e.1.size then 5 else if e.2 = 0 then 1 else
    match (if i = 0 then none else t[i - 1]?) with
    | none => 0
    | some d => if strEq e.1 d.1 then 11 else if strLt e.1 d.1 then 10 else 0
set_option maxHeartbeats 1000000 in
theorem wrong_spec (μ : PH) (v : Value) (t : List En) (i : Nat) (h : Row μ v 2 t.length (ens t)) (hi : i < t.length) (hsz : t.length ≤ 1048576) :
    Spec Try.prog 60 [v, .int .i64 (i : Nat)] [ro μ] (fun r L => r = .int .i64 (wrongE t i) ∧ L = [ro μ]) := by
  obtain ⟨e, he⟩ : ∃ e, t[i]? = some e := ⟨_, List.getElem?_eq_getElem hi⟩
  obtain ⟨gb, off, cap, hv, hra, hc0, hc1⟩ := tree_at h he
  refine Spec.of 54 Try.func60 rfl rfl rfl ?_
  refine swp_seq ?_
  refine swp_region ?_
  refine s_pu (pu_assign rfl) ?_
  refine swl_sub _ (.cons (t := 0) rfl (.cons (t := 1) rfl .nil)) ?_
  refine swl_nil ?_
  refine then_n ?_
  refine swp_seq ?_
  refine swp_block ?_
  refine swp_seq ?_
  refine swp_region ?_
  refine s_pu (pu_move rfl) ?_
  refine s_pu (pu_move rfl) ?_
  refine s_pu (pu_indexAddr (off + i * 2) (congrArg some hv) rfl (by omega) (by omega) (by rw [Int.toNat_natCast])) ?_
  first | refine s_pu (pu_fieldAddr0 rfl) ?_ | refine s_pu (pu_fieldAddr rfl) ?_
  refine s_rd (rd_ro rfl hc0) ?_
  refine s_pu (pu_strlen rfl) ?_
  refine s_pu (pu_gtr rfl rfl) ?_
  refine s_pu (pu_assign rfl) ?_
  refine swl_sub _ (.cons (t := 0) rfl (.cons (t := 1) rfl (.cons (t := 5) rfl .nil))) ?_
  refine swl_nil ?_
  refine then_n ?_
  refine swp_cond (b := _) rfl (fun h5 => ?_) (fun h5 => ?_)
  · skip   -- 5 T
    have h5' : 255 < e.1.size := by have := of_decide_eq_true h5; omega
    refine swp_seq ?_
    refine swp_region ?_
    refine s_pu (pu_assign rfl) ?_
    refine swl_sub _ (.cons (t := 4) rfl .nil) ?_
    refine swl_nil ?_
    refine then_n ?_
    refine swp_ret ?_
    refine block_r ?_
    refine then_r ?_
    refine done_ret [ro μ] (.tmp rfl .nil) ⟨?_, rfl⟩ (by repeat (first | exact Split.nil | (apply Split.cons; (repeat (first | with_reducible exact Take.here | apply Take.there)))))
    unfold wrongE; rw [he]; simp only [if_pos h5']; rfl
  · skip   -- 5 F
    have h5' : ¬ 255 < e.1.size := by have := of_decide_eq_false h5; omega
    refine swp_seq ?_
    refine swp_region ?_
    refine s_pu (pu_move rfl) ?_
    refine s_pu (pu_move rfl) ?_
    refine s_pu (pu_indexAddr (off + i * 2) (congrArg some hv) rfl (by omega) (by omega) (by rw [Int.toNat_natCast])) ?_
    first | refine s_pu (pu_fieldAddr0 rfl) ?_ | refine s_pu (pu_fieldAddr rfl) ?_
    refine s_rd (rd_ro rfl hc1) ?_
    refine s_pu (pu_eql rfl rfl) ?_
    refine s_pu (pu_assign rfl) ?_
    refine swl_sub _ (.cons (t := 0) rfl (.cons (t := 1) rfl (.cons (t := 13) rfl .nil))) ?_
    refine swl_nil ?_
    refine then_n ?_
    refine swp_cond (b := _) rfl (fun h13 => ?_) (fun h13 => ?_)
    · skip   -- 13 T
      refine swp_seq ?_
      refine swp_region ?_
      refine s_pu (pu_assign rfl) ?_
      refine swl_sub _ (.cons (t := 4) rfl .nil) ?_
      refine swl_nil ?_
      refine then_n ?_
      refine swp_ret ?_
      refine block_r ?_
      refine then_r ?_
      have h13' : e.2 = 0 := by simpa using h13
      refine done_ret [ro μ] (.tmp rfl .nil) ⟨?_, rfl⟩ (by repeat (first | exact Split.nil | (apply Split.cons; (repeat (first | with_reducible exact Take.here | apply Take.there)))))
      unfold wrongE; rw [he]; simp only [if_neg h5', if_pos h13']; rfl
    · skip   -- 13 F
      have h13' : ¬ e.2 = 0 := by simpa using h13
      refine swp_seq ?_
      refine swp_draw [7, 13] _ [] (by simp only [List.append_nil]; exact Ent.refl _) (by kernel_rfl) ?_
      refine d_pu 0 rfl (pu_move rfl) (by kernel_rfl) (by kernel_rfl) (by kernel_rfl) ?_
      refine d_pu 1 rfl (pu_gtr rfl rfl) (by kernel_rfl) (by kernel_rfl) (by kernel_rfl) ?_
      refine d_pu 2 rfl (pu_move rfl) (by kernel_rfl) (by kernel_rfl) (by kernel_rfl) ?_
      refine d_split 23 rfl (fun h23 => ?_) (fun h23 => ?_)
      · skip   -- 23 T
        have hi0 : 0 < i := by have := of_decide_eq_true h23; omega
        obtain ⟨d, hd⟩ : ∃ d, t[i - 1]? = some d := ⟨_, List.getElem?_eq_getElem (by omega)⟩
        obtain ⟨gb', off', cap', hv', hra', hd0, hd1⟩ := tree_at h hd
        refine d_pu_on 3 rfl rfl rfl (pu_move rfl) (by kernel_rfl) (by kernel_rfl) (by kernel_rfl) ?_
        refine d_pu_on 4 rfl rfl rfl (pu_move rfl) (by kernel_rfl) (by kernel_rfl) (by kernel_rfl) ?_
        refine d_pu_on 5 rfl rfl rfl (pu_indexAddr (off + i * 2) (congrArg some hv) rfl (by omega) (by omega) (by rw [Int.toNat_natCast])) (by kernel_rfl) (by kernel_rfl) (by kernel_rfl) ?_
        first | refine d_pu_on 6 rfl rfl rfl (pu_fieldAddr0 rfl) (by kernel_rfl) (by kernel_rfl) (by kernel_rfl) ?_ | refine d_pu_on 6 rfl rfl rfl (pu_fieldAddr rfl) (by kernel_rfl) (by kernel_rfl) (by kernel_rfl) ?_
        refine d_rd_on 7 rfl rfl rfl (rd_ro rfl hc0) rfl (by kernel_rfl) (by kernel_rfl) (by kernel_rfl) ?_
        refine d_pu_on 8 rfl rfl rfl (pu_move rfl) (by kernel_rfl) (by kernel_rfl) (by kernel_rfl) ?_
        refine d_pu_on 9 rfl rfl rfl (pu_move rfl) (by kernel_rfl) (by kernel_rfl) (by kernel_rfl) ?_
        refine d_pu_on 10 rfl rfl rfl (pu_sub_as ((i - 1 : Nat) : Int) rfl rfl (by omega) (by omega) (by omega)) (by kernel_rfl) (by kernel_rfl) (by kernel_rfl) ?_
        refine d_pu_on 11 rfl rfl rfl (pu_indexAddr (off' + (i - 1) * 2) (congrArg some hv') rfl (by omega) (by omega) (by rw [Int.toNat_natCast])) (by kernel_rfl) (by kernel_rfl) (by kernel_rfl) ?_
        first | refine d_pu_on 12 rfl rfl rfl (pu_fieldAddr0 rfl) (by kernel_rfl) (by kernel_rfl) (by kernel_rfl) ?_ | refine d_pu_on 12 rfl rfl rfl (pu_fieldAddr rfl) (by kernel_rfl) (by kernel_rfl) (by kernel_rfl) ?_
        refine d_rd_on 13 rfl rfl rfl (rd_ro rfl hd0) rfl (by kernel_rfl) (by kernel_rfl) (by kernel_rfl) ?_
        refine d_pu_on 14 rfl rfl rfl (pu_str_eql rfl rfl) (by kernel_rfl) (by kernel_rfl) (by kernel_rfl) ?_
        first | refine d_pu 15 rfl (pu_pick_t rfl rfl) (by kernel_rfl) (by kernel_rfl) (by kernel_rfl) ?_ | refine d_pu 15 rfl (pu_pick_f rfl rfl) (by kernel_rfl) (by kernel_rfl) (by kernel_rfl) ?_
        refine d_pu 16 rfl (pu_assign rfl) (by kernel_rfl) (by kernel_rfl) (by kernel_rfl) ?_
        refine d_sub _ (.cons (t := 0) rfl (.cons (t := 1) rfl (.cons (t := 20) rfl .nil))) ?_
        first | refine d_nilt (by kernel_rfl) ?_ | refine d_nilf (by kernel_rfl) ?_
        refine then_n ?_
        refine swp_cond (b := _) rfl (fun h20 => ?_) (fun h20 => ?_)
        · skip   -- 20 T
          refine swp_seq ?_
          refine swp_region ?_
          refine s_pu (pu_assign rfl) ?_
          refine swl_sub _ (.cons (t := 4) rfl .nil) ?_
          refine swl_nil ?_
          refine then_n ?_
          refine swp_ret ?_
          refine block_r ?_
          refine then_r ?_
          refine done_ret [ro μ] (.tmp rfl .nil) ⟨?_, rfl⟩ (by repeat (first | exact Split.nil | (apply Split.cons; (repeat (first | with_reducible exact Take.here | apply Take.there)))))
          unfold wrongE; rw [he]; simp only [if_neg h5', if_neg h13', if_neg (Nat.ne_of_gt hi0), hd, if_pos h20]; rfl
        · skip   -- 20 F
          refine swp_seq ?_
          refine swp_draw [7, 13] _ [] (by simp only [List.append_nil]; exact Ent.refl _) (by kernel_rfl) ?_
          refine d_pu 0 rfl (pu_move rfl) (by kernel_rfl) (by kernel_rfl) (by kernel_rfl) ?_
          refine d_pu 1 rfl (pu_gtr rfl rfl) (by kernel_rfl) (by kernel_rfl) (by kernel_rfl) ?_
          refine d_pu 2 rfl (pu_move rfl) (by kernel_rfl) (by kernel_rfl) (by kernel_rfl) ?_
          refine d_split 40 rfl (fun h40 => ?_) (fun h40 => by have := of_decide_eq_false h40; omega)
          refine d_pu_on 3 rfl rfl rfl (pu_move rfl) (by kernel_rfl) (by kernel_rfl) (by kernel_rfl) ?_
          refine d_pu_on 4 rfl rfl rfl (pu_move rfl) (by kernel_rfl) (by kernel_rfl) (by kernel_rfl) ?_
          refine d_pu_on 5 rfl rfl rfl (pu_indexAddr (off + i * 2) (congrArg some hv) rfl (by omega) (by omega) (by rw [Int.toNat_natCast])) (by kernel_rfl) (by kernel_rfl) (by kernel_rfl) ?_
          first | refine d_pu_on 6 rfl rfl rfl (pu_fieldAddr0 rfl) (by kernel_rfl) (by kernel_rfl) (by kernel_rfl) ?_ | refine d_pu_on 6 rfl rfl rfl (pu_fieldAddr rfl) (by kernel_rfl) (by kernel_rfl) (by kernel_rfl) ?_
          refine d_rd_on 7 rfl rfl rfl (rd_ro rfl hc0) rfl (by kernel_rfl) (by kernel_rfl) (by kernel_rfl) ?_
          refine d_pu_on 8 rfl rfl rfl (pu_move rfl) (by kernel_rfl) (by kernel_rfl) (by kernel_rfl) ?_
          refine d_pu_on 9 rfl rfl rfl (pu_move rfl) (by kernel_rfl) (by kernel_rfl) (by kernel_rfl) ?_
          refine d_pu_on 10 rfl rfl rfl (pu_sub_as ((i - 1 : Nat) : Int) rfl rfl (by omega) (by omega) (by omega)) (by kernel_rfl) (by kernel_rfl) (by kernel_rfl) ?_
          refine d_pu_on 11 rfl rfl rfl (pu_indexAddr (off' + (i - 1) * 2) (congrArg some hv') rfl (by omega) (by omega) (by rw [Int.toNat_natCast])) (by kernel_rfl) (by kernel_rfl) (by kernel_rfl) ?_
          first | refine d_pu_on 12 rfl rfl rfl (pu_fieldAddr0 rfl) (by kernel_rfl) (by kernel_rfl) (by kernel_rfl) ?_ | refine d_pu_on 12 rfl rfl rfl (pu_fieldAddr rfl) (by kernel_rfl) (by kernel_rfl) (by kernel_rfl) ?_
          refine d_rd_on 13 rfl rfl rfl (rd_ro rfl hd0) rfl (by kernel_rfl) (by kernel_rfl) (by kernel_rfl) ?_
          refine d_pu_on 14 rfl rfl rfl (pu_str_lss rfl rfl) (by kernel_rfl) (by kernel_rfl) (by kernel_rfl) ?_
          first | refine d_pu 15 rfl (pu_pick_t rfl rfl) (by kernel_rfl) (by kernel_rfl) (by kernel_rfl) ?_ | refine d_pu 15 rfl (pu_pick_f rfl rfl) (by kernel_rfl) (by kernel_rfl) (by kernel_rfl) ?_
          refine d_pu 16 rfl (pu_assign rfl) (by kernel_rfl) (by kernel_rfl) (by kernel_rfl) ?_
          refine d_sub _ (.cons (t := 37) rfl .nil) ?_
          first | refine d_nilt (by kernel_rfl) ?_ | refine d_nilf (by kernel_rfl) ?_
          refine then_n ?_
          refine swp_cond (b := _) rfl (fun h37 => ?_) (fun h37 => ?_)
          · skip   -- 37 T
            refine swp_seq ?_
            refine swp_region ?_
            refine s_pu (pu_assign rfl) ?_
            refine swl_sub _ (.cons (t := 4) rfl .nil) ?_
            refine swl_nil ?_
            refine then_n ?_
            refine swp_ret ?_
            refine block_r ?_
            refine then_r ?_
            refine done_ret [ro μ] (.tmp rfl .nil) ⟨?_, rfl⟩ (by repeat (first | exact Split.nil | (apply Split.cons; (repeat (first | with_reducible exact Take.here | apply Take.there)))))
            unfold wrongE; rw [he]; simp only [if_neg h5', if_neg h13', if_neg (Nat.ne_of_gt hi0), hd, h20, h37, if_true, Bool.false_eq_true, if_false]; rfl
          · skip   -- 37 F
            refine swp_skip ?_
            refine block_n ?_
            refine then_n ?_
            refine swp_seq ?_
            refine swp_region ?_
            refine s_pu (pu_assign rfl) ?_
            refine swl_sub _ (.cons (t := 4) rfl .nil) ?_
            refine swl_nil ?_
            refine then_n ?_
            refine swp_ret ?_
            refine done_ret [ro μ] (.tmp rfl .nil) ⟨?_, rfl⟩ (by repeat (first | exact Split.nil | (apply Split.cons; (repeat (first | with_reducible exact Take.here | apply Take.there)))))
            unfold wrongE; rw [he]; simp only [if_neg h5', if_neg h13', if_neg (Nat.ne_of_gt hi0), hd, h20, h37, Bool.false_eq_true, if_false]; rfl
      · skip   -- 23 F
        refine d_off 3 rfl rfl rfl rfl (by kernel_rfl) (by kernel_rfl) (by kernel_rfl) ?_
        refine d_off 4 rfl rfl rfl rfl (by kernel_rfl) (by kernel_rfl) (by kernel_rfl) ?_
        refine d_off 5 rfl rfl rfl rfl (by kernel_rfl) (by kernel_rfl) (by kernel_rfl) ?_
        refine d_off 6 rfl rfl rfl rfl (by kernel_rfl) (by kernel_rfl) (by kernel_rfl) ?_
        refine d_off 7 rfl rfl rfl rfl (by kernel_rfl) (by kernel_rfl) (by kernel_rfl) ?_
        refine d_off 8 rfl rfl rfl rfl (by kernel_rfl) (by kernel_rfl) (by kernel_rfl) ?_
        refine d_off 9 rfl rfl rfl rfl (by kernel_rfl) (by kernel_rfl) (by kernel_rfl) ?_
        refine d_off 10 rfl rfl rfl rfl (by kernel_rfl) (by kernel_rfl) (by kernel_rfl) ?_
        refine d_off 11 rfl rfl rfl rfl (by kernel_rfl) (by kernel_rfl) (by kernel_rfl) ?_
        refine d_off 12 rfl rfl rfl rfl (by kernel_rfl) (by kernel_rfl) (by kernel_rfl) ?_
        refine d_off 13 rfl rfl rfl rfl (by kernel_rfl) (by kernel_rfl) (by kernel_rfl) ?_
        refine d_off 14 rfl rfl rfl rfl (by kernel_rfl) (by kernel_rfl) (by kernel_rfl) ?_
        first | refine d_pu 15 rfl (pu_pick_t rfl rfl) (by kernel_rfl) (by kernel_rfl) (by kernel_rfl) ?_ | refine d_pu 15 rfl (pu_pick_f rfl rfl) (by kernel_rfl) (by kernel_rfl) (by kernel_rfl) ?_
        refine d_pu 16 rfl (pu_assign rfl) (by kernel_rfl) (by kernel_rfl) (by kernel_rfl) ?_
        refine d_sub _ (.cons (t := 0) rfl (.cons (t := 1) rfl (.cons (t := 20) rfl .nil))) ?_
        first | refine d_nilt (by kernel_rfl) ?_ | refine d_nilf (by kernel_rfl) ?_
        refine then_n ?_
        refine swp_cond (b := _) rfl (fun h20 => by cases h20) (fun h20 => ?_)
        refine swp_seq ?_
        refine swp_draw [7, 13] _ [] (by simp only [List.append_nil]; exact Ent.refl _) (by kernel_rfl) ?_
        refine d_pu 0 rfl (pu_move rfl) (by kernel_rfl) (by kernel_rfl) (by kernel_rfl) ?_
        refine d_pu 1 rfl (pu_gtr rfl rfl) (by kernel_rfl) (by kernel_rfl) (by kernel_rfl) ?_
        refine d_pu 2 rfl (pu_move rfl) (by kernel_rfl) (by kernel_rfl) (by kernel_rfl) ?_
        refine d_split 40 rfl (fun h40 => by have := of_decide_eq_true h40; have := of_decide_eq_false h23; omega) (fun h40 => ?_)
        refine d_off 3 rfl rfl rfl rfl (by kernel_rfl) (by kernel_rfl) (by kernel_rfl) ?_
        refine d_off 4 rfl rfl rfl rfl (by kernel_rfl) (by kernel_rfl) (by kernel_rfl) ?_
        refine d_off 5 rfl rfl rfl rfl (by kernel_rfl) (by kernel_rfl) (by kernel_rfl) ?_
        refine d_off 6 rfl rfl rfl rfl (by kernel_rfl) (by kernel_rfl) (by kernel_rfl) ?_
        refine d_off 7 rfl rfl rfl rfl (by kernel_rfl) (by kernel_rfl) (by kernel_rfl) ?_
        refine d_off 8 rfl rfl rfl rfl (by kernel_rfl) (by kernel_rfl) (by kernel_rfl) ?_
        refine d_off 9 rfl rfl rfl rfl (by kernel_rfl) (by kernel_rfl) (by kernel_rfl) ?_
        refine d_off 10 rfl rfl rfl rfl (by kernel_rfl) (by kernel_rfl) (by kernel_rfl) ?_
        refine d_off 11 rfl rfl rfl rfl (by kernel_rfl) (by kernel_rfl) (by kernel_rfl) ?_
        refine d_off 12 rfl rfl rfl rfl (by kernel_rfl) (by kernel_rfl) (by kernel_rfl) ?_
        refine d_off 13 rfl rfl rfl rfl (by kernel_rfl) (by kernel_rfl) (by kernel_rfl) ?_
        refine d_off 14 rfl rfl rfl rfl (by kernel_rfl) (by kernel_rfl) (by kernel_rfl) ?_
        first | refine d_pu 15 rfl (pu_pick_t rfl rfl) (by kernel_rfl) (by kernel_rfl) (by kernel_rfl) ?_ | refine d_pu 15 rfl (pu_pick_f rfl rfl) (by kernel_rfl) (by kernel_rfl) (by kernel_rfl) ?_
        refine d_pu 16 rfl (pu_assign rfl) (by kernel_rfl) (by kernel_rfl) (by kernel_rfl) ?_
        refine d_sub _ (.cons (t := 37) rfl .nil) ?_
        first | refine d_nilt (by kernel_rfl) ?_ | refine d_nilf (by kernel_rfl) ?_
        refine then_n ?_
        refine swp_cond (b := _) rfl (fun h37 => by cases h37) (fun h37 => ?_)
        refine swp_skip ?_
        refine block_n ?_
        refine then_n ?_
        refine swp_seq ?_
        refine swp_region ?_
        refine s_pu (pu_assign rfl) ?_
        refine swl_sub _ (.cons (t := 4) rfl .nil) ?_
        refine swl_nil ?_
        refine then_n ?_
        refine swp_ret ?_
        have hi0 : i = 0 := by have := of_decide_eq_false h23; omega
        refine done_ret [ro μ] (.tmp rfl .nil) ⟨?_, rfl⟩ (by repeat (first | exact Split.nil | (apply Split.cons; (repeat (first | with_reducible exact Take.here | apply Take.there)))))
        unfold wrongE; rw [he]; simp only [if_neg h5', if_neg h13', if_pos hi0]; rfl
/-- Check: the first thing that is wrong -/
def checkE (t : List En) : Int := ((List.range t.length).map (wrongE t)).find? (· ≠ 0) |>.getD 0
theorem checkE_at {t : List En} {i : Nat} (hi : i < t.length) (h1 : ∀ j < i, wrongE t j = 0) (h2 : wrongE t i ≠ 0) : checkE t = wrongE t i := by
  unfold checkE
  have : ((List.range t.length).map (wrongE t)).find? (· ≠ 0) = some (wrongE t i) := by
    rw [List.find?_eq_some_iff_getElem]
    refine ⟨by simpa using h2, i, by simpa using hi, by simp, fun j hj => ?_⟩
    simp [h1 j hj]
  rw [this]; rfl
theorem checkE_ok {t : List En} (h1 : ∀ j < t.length, wrongE t j = 0) : checkE t = 0 := by
  unfold checkE
  have : ((List.range t.length).map (wrongE t)).find? (· ≠ 0) = none := by
    rw [List.find?_eq_none]
    intro x hx
    obtain ⟨j, hj, rfl⟩ := List.mem_map.1 hx
    simp [h1 j (List.mem_range.1 hj)]
  rw [this]; rfl
set_option maxHeartbeats 1000000 in
theorem check8_spec (μ : PH) (v : Value) (t : List En) (h : Row μ v 2 t.length (ens t)) (hsz : t.length ≤ 1048576) :
    Spec Try.prog 30 [v] [ro μ] (fun r L => r = .int .i64 (checkE t) ∧ L = [ro μ]) := by
  refine Spec.of 17 Try.func30 rfl rfl rfl ?_
  refine swp_seq ?_
  refine swp_region ?_
  refine s_pu (pu_assign rfl) ?_
  refine swl_sub _ (.cons (t := 0) rfl .nil) ?_
  refine swl_nil ?_
  refine then_n ?_
  refine swp_seq ?_
  refine swp_seq ?_
  refine swp_region ?_
  refine s_pu (pu_assign rfl) ?_
  refine swl_sub _ (.cons (t := 0) rfl (.cons (t := 3) rfl .nil)) ?_
  refine swl_nil ?_
  refine then_n ?_
  refine swp_block ?_
  refine swp_loop (ι := Nat) (fun i env L => Sub env [(0, v), (3, .int .i64 (i : Nat))] ∧ L = [ro μ] ∧ i ≤ t.length ∧ ∀ j < i, wrongE t j = 0) (fun i => t.length - i) 0 ⟨⟨rfl, rfl, trivial⟩, rfl, Nat.zero_le _, by omega⟩ ?_
  rintro i env L ⟨hsub, rfl, hi, hz⟩
  refine swp_sub _ hsub ?_
  clear hsub env
  refine swp_seq ?_
  refine swp_seq ?_
  refine swp_region ?_
  refine s_pu (pu_move rfl) ?_
  refine s_pu (pu_move rfl) ?_
  refine s_pu (pu_len_row h rfl) ?_
  refine s_pu (pu_lss rfl rfl) ?_
  refine swl_sub _ (.cons (t := 0) rfl (.cons (t := 3) rfl (.cons (t := 8) rfl .nil))) ?_
  refine swl_nil ?_
  refine then_n ?_
  refine swp_cond (b := _) rfl (fun h8 => ?_) (fun h8 => ?_)
  · skip   -- 8 T
    have h8' : i < t.length := by have := of_decide_eq_true h8; omega
    refine swp_skip ?_
    refine then_n ?_
    refine swp_seq ?_
    refine swp_block ?_
    refine swp_seq ?_
    refine swp_region ?_
    refine s_pu (pu_move rfl) ?_
    refine s_pu (pu_move rfl) ?_
    refine s_ef (ef_fn (wrong_spec μ v t i h h8' hsz) rfl rfl (by repeat (first | exact Split.nil | (apply Split.cons; (repeat (first | with_reducible exact Take.here | apply Take.there)))))) ?_
    rintro v13 L1 ⟨rfl, rfl⟩
    refine swl_app ?_
    refine s_pu (pu_assign rfl) ?_
    refine swl_sub _ (.cons (t := 0) rfl (.cons (t := 3) rfl (.cons (t := 4) rfl .nil))) ?_
    refine swl_nil ?_
    refine then_n ?_
    refine swp_seq ?_
    refine swp_region ?_
    refine s_pu (pu_move rfl) ?_
    refine s_pu (pu_neq rfl rfl) ?_
    refine swl_sub _ (.cons (t := 0) rfl (.cons (t := 3) rfl (.cons (t := 4) rfl (.cons (t := 15) rfl .nil)))) ?_
    refine swl_nil ?_
    refine then_n ?_
    refine swp_cond (b := _) rfl (fun h15 => ?_) (fun h15 => ?_)
    · skip   -- 15 T
      refine swp_seq ?_
      refine swp_region ?_
      refine s_pu (pu_move rfl) ?_
      refine s_pu (pu_assign rfl) ?_
      refine swl_sub _ (.cons (t := 2) rfl .nil) ?_
      refine swl_nil ?_
      refine then_n ?_
      refine swp_ret ?_
      refine block_r ?_
      refine then_r ?_
      refine then_r ?_
      refine block_r ?_
      refine then_r ?_
      have h15' : wrongE t i ≠ 0 := by simpa using h15
      exact done_ret [ro μ] (.tmp rfl .nil) ⟨by rw [checkE_at h8' hz h15']; rfl, rfl⟩ (by repeat (first | exact Split.nil | (apply Split.cons; (repeat (first | with_reducible exact Take.here | apply Take.there)))))
    · skip   -- 15 F
      refine swp_skip ?_
      refine block_n ?_
      refine then_n ?_
      refine swp_region ?_
      refine s_pu (pu_move rfl) ?_
      refine s_pu (pu_add_as ((i + 1 : Nat) : Int) rfl rfl (by omega) (by omega) (by omega)) ?_
      refine s_pu (pu_assign rfl) ?_
      refine swl_sub _ (.cons (t := 0) rfl (.cons (t := 3) rfl .nil)) ?_
      refine swl_nil ?_
      have h15' : wrongE t i = 0 := by simpa using h15
      refine then_n ⟨i + 1, ⟨⟨rfl, rfl, trivial⟩, rfl, h8', fun j hj => ?_⟩, by omega⟩
      by_cases hji : j = i
      · rw [hji]; exact h15'
      · exact hz j (by omega)
  · skip   -- 8 F
    have h8' := of_decide_eq_false h8
    refine swp_exit ?_
    refine then_x ?_
    refine then_x ?_
    refine block_hit rfl ?_
    refine then_n ?_
    refine swp_seq ?_
    refine swp_region ?_
    refine s_pu (pu_assign rfl) ?_
    refine swl_sub _ (.cons (t := 2) rfl .nil) ?_
    refine swl_nil ?_
    refine then_n ?_
    refine swp_ret ?_
    exact done_ret [ro μ] (.tmp rfl .nil) ⟨by rw [checkE_ok fun j hj => hz j (by omega)]; rfl, rfl⟩ (by repeat (first | exact Split.nil | (apply Split.cons; (repeat (first | with_reducible exact Take.here | apply Take.there)))))
end SX
namespace SX
open Go Go.Proofs
theorem ens_take2 (t : List En) (i : Nat) : ens (t.take i) = (ens t).take (i * 2) := by
  induction t generalizing i with
  | nil => simp [ens]
  | cons e t ih =>
    cases i with
    | zero => simp [ens]
    | succ i =>
      rw [List.take_succ_cons, Nat.succ_mul]
      show enc1 e ++ ens (t.take i) = _
      rw [ih]; rfl
def putsE (l : List En) : List En := l.foldl (fun t e => putE t e.1 e.2) []
theorem putsE_succ {l : List En} {i : Nat} {e : En} (h : l[i]? = some e) : putsE (l.take (i + 1)) = putE (putsE (l.take i)) e.1 e.2 := by
  unfold putsE
  rw [List.take_add_one, h, List.foldl_append]; rfl
set_option maxHeartbeats 1000000 in
theorem make_spec (μ : PH) (v : Value) (l : List En) (h : Row μ v 2 l.length (ens l)) (hsz : l.length ≤ 1048576) (hps : ∀ e ∈ l, e.1.size ≤ 255) :
    Spec Try.prog 57 [v] [ro μ] (fun r L => ∃ μ' tv, r = .tuple #[tv, .int .i64 0] ∧ Le μ μ' ∧ Row μ' tv 2 (makeE l).length (ens (makeE l)) ∧ L = [ro μ']) := by
  refine Spec.of 32 Try.func57 rfl rfl rfl ?_
  refine swp_seq ?_
  refine swp_region ?_
  refine s_pu (pu_assign rfl) ?_
  refine s_pu (pu_assign rfl) ?_
  refine swl_sub _ (.cons (t := 0) rfl .nil) ?_
  refine swl_nil ?_
  refine then_n ?_
  refine swp_seq ?_
  refine swp_region ?_
  refine s_pu (pu_assign rfl) ?_
  refine swl_sub _ (.cons (t := 0) rfl (.cons (t := 4) rfl .nil)) ?_
  refine swl_nil ?_
  refine then_n ?_
  refine swp_seq ?_
  refine swp_seq ?_
  refine swp_region ?_
  refine s_pu (pu_assign rfl) ?_
  refine swl_sub _ (.cons (t := 0) rfl (.cons (t := 4) rfl (.cons (t := 5) rfl .nil))) ?_
  refine swl_nil ?_
  refine then_n ?_
  refine swp_block ?_
  refine swp_loop (ι := Nat × PH × Value) (fun k env L => Sub env [(0, v), (4, k.2.2), (5, .int .i64 (k.1 : Nat))] ∧ L = [ro k.2.1] ∧ k.1 ≤ l.length ∧ Le μ k.2.1 ∧ Row k.2.1 k.2.2 2 (putsE (l.take k.1)).length (ens (putsE (l.take k.1)))) (fun k => l.length - k.1) (0, μ, .slice none 0 0) ⟨⟨rfl, rfl, rfl, trivial⟩, rfl, Nat.zero_le _, Le.refl _, Row.nil _ _⟩ ?_
  rintro ⟨i, μ1, tv⟩ env L ⟨hsub, rfl, hi, hle, hrow⟩
  simp only [] at hi hle hrow hsub
  refine swp_sub _ hsub ?_
  clear hsub env
  dsimp only
  have h1 := h.le hle
  refine swp_seq ?_
  refine swp_seq ?_
  refine swp_region ?_
  refine s_pu (pu_move rfl) ?_
  refine s_pu (pu_move rfl) ?_
  refine s_pu (pu_len_row h1 rfl) ?_
  refine s_pu (pu_lss rfl rfl) ?_
  refine swl_sub _ (.cons (t := 0) rfl (.cons (t := 4) rfl (.cons (t := 5) rfl (.cons (t := 9) rfl .nil)))) ?_
  refine swl_nil ?_
  refine then_n ?_
  refine swp_cond (b := _) rfl (fun h9 => ?_) (fun h9 => ?_)
  · skip   -- 9 T
    have h9' : i < l.length := by have := of_decide_eq_true h9; omega
    obtain ⟨e, he⟩ : ∃ e, l[i]? = some e := ⟨_, List.getElem?_eq_getElem h9'⟩
    obtain ⟨gb, off, cap, hv, hra, hc0, hc1⟩ := tree_at h1 he
    have hes := hps e (List.mem_of_getElem? he)
    have htl : (putsE (l.take i)).length ≤ i := by have := makeE_len (l.take i); rw [List.length_take] at this; exact Nat.le_trans this (Nat.min_le_left _ _)
    refine swp_skip ?_
    refine then_n ?_
    refine swp_seq ?_
    refine swp_block ?_
    refine swp_seq ?_
    refine swp_seq ?_
    refine swp_region ?_
    refine s_pu (pu_move rfl) ?_
    refine s_pu (pu_move rfl) ?_
    refine s_pu (pu_indexAddr (off + i * 2) (congrArg some hv) rfl (by omega) (by omega) (by rw [Int.toNat_natCast])) ?_
    first | refine s_pu (pu_fieldAddr0 rfl) ?_ | refine s_pu (pu_fieldAddr rfl) ?_
    refine s_rd (rd_ro rfl hc0) ?_
    refine s_pu (pu_strlen rfl) ?_
    refine s_pu (pu_gtr rfl rfl) ?_
    refine swl_sub _ (.cons (t := 0) rfl (.cons (t := 4) rfl (.cons (t := 5) rfl (.cons (t := 18) rfl .nil)))) ?_
    refine swl_nil ?_
    refine then_n ?_
    refine swp_cond (b := _) rfl (fun h18 => by have := of_decide_eq_true h18; omega) (fun h18 => ?_)
    refine swp_skip ?_
    refine then_n ?_
    refine swp_draw [5, 10] _ [] (by simp only [List.append_nil]; exact Ent.refl _) (by kernel_rfl) ?_
    refine d_pu 0 rfl (pu_move rfl) (by kernel_rfl) (by kernel_rfl) (by kernel_rfl) ?_
    refine d_pu 1 rfl (pu_move rfl) (by kernel_rfl) (by kernel_rfl) (by kernel_rfl) ?_
    refine d_pu 2 rfl (pu_move rfl) (by kernel_rfl) (by kernel_rfl) (by kernel_rfl) ?_
    refine d_pu 3 rfl (pu_indexAddr (off + i * 2) (congrArg some hv) rfl (by omega) (by omega) (by rw [Int.toNat_natCast])) (by kernel_rfl) (by kernel_rfl) (by kernel_rfl) ?_
    first | refine d_pu 4 rfl (pu_fieldAddr0 rfl) (by kernel_rfl) (by kernel_rfl) (by kernel_rfl) ?_ | refine d_pu 4 rfl (pu_fieldAddr rfl) (by kernel_rfl) (by kernel_rfl) (by kernel_rfl) ?_
    refine d_rd 5 rfl (rd_ro rfl hc0) rfl (by kernel_rfl) (by kernel_rfl) (by kernel_rfl) ?_
    refine d_pu 6 rfl (pu_move rfl) (by kernel_rfl) (by kernel_rfl) (by kernel_rfl) ?_
    refine d_pu 7 rfl (pu_move rfl) (by kernel_rfl) (by kernel_rfl) (by kernel_rfl) ?_
    refine d_pu 8 rfl (pu_indexAddr (off + i * 2) (congrArg some hv) rfl (by omega) (by omega) (by rw [Int.toNat_natCast])) (by kernel_rfl) (by kernel_rfl) (by kernel_rfl) ?_
    first | refine d_pu 9 rfl (pu_fieldAddr0 rfl) (by kernel_rfl) (by kernel_rfl) (by kernel_rfl) ?_ | refine d_pu 9 rfl (pu_fieldAddr rfl) (by kernel_rfl) (by kernel_rfl) (by kernel_rfl) ?_
    refine d_rd 10 rfl (rd_ro rfl hc1) rfl (by kernel_rfl) (by kernel_rfl) (by kernel_rfl) ?_
    first | refine d_fint 11 rfl (by kernel_rfl) (by kernel_rfl) (ef_fn (put_spec μ1 tv _ e.1 e.2 hrow (by omega) (by omega)) rfl rfl (by repeat (first | exact Split.nil | (apply Split.cons; (repeat (first | with_reducible exact Take.here | apply Take.there)))))) ?_ | refine d_finf 11 rfl (by kernel_rfl) (by kernel_rfl) (ef_fn (put_spec μ1 tv _ e.1 e.2 hrow (by omega) (by omega)) rfl rfl (by repeat (first | exact Split.nil | (apply Split.cons; (repeat (first | with_reducible exact Take.here | apply Take.there)))))) ?_
    rintro v30 L1 rfl
    refine swd_app ?_
    refine d_pu 12 rfl (pu_assign rfl) (by kernel_rfl) (by kernel_rfl) (by kernel_rfl) ?_
    refine d_sub _ (.cons (t := 0) rfl (.cons (t := 4) rfl (.cons (t := 5) rfl .nil))) ?_
    first | refine d_nilt (by kernel_rfl) ?_ | refine d_nilf (by kernel_rfl) ?_
    refine block_n ?_
    refine then_n ?_
    refine swp_share_own (v := v30) (μ := μ1) (by repeat (first | exact Split.nil | (apply Split.cons; (repeat (first | with_reducible exact Take.here | apply Take.there))))) fun μ2 h2 hrow2 => ?_
    rw [← putsE_succ he] at hrow2
    refine swp_region ?_
    refine s_pu (pu_move rfl) ?_
    refine s_pu (pu_add_as ((i + 1 : Nat) : Int) rfl rfl (by omega) (by omega) (by omega)) ?_
    refine s_pu (pu_assign rfl) ?_
    refine swl_sub _ (.cons (t := 0) rfl (.cons (t := 4) rfl (.cons (t := 5) rfl .nil))) ?_
    refine swl_nil ?_
    exact then_n ⟨(i + 1, μ2, v30), ⟨⟨rfl, rfl, rfl, trivial⟩, rfl, h9', hle.trans h2, hrow2⟩, by show l.length - (i + 1) < l.length - i; omega⟩
  · skip   -- 9 F
    have h9' := of_decide_eq_false h9
    obtain rfl : i = l.length := by omega
    rw [List.take_length] at hrow
    refine swp_exit ?_
    refine then_x ?_
    refine then_x ?_
    refine block_hit rfl ?_
    refine then_n ?_
    refine swp_seq ?_
    refine swp_region ?_
    refine s_pu (pu_move rfl) ?_
    refine s_pu (pu_assign rfl) ?_
    refine s_pu (pu_assign rfl) ?_
    refine swl_sub _ (.cons (t := 2) rfl (.cons (t := 3) rfl .nil)) ?_
    refine swl_nil ?_
    refine then_n ?_
    refine swp_ret ?_
    exact done_ret [ro μ1] (.tmp rfl (.tmp rfl .nil)) ⟨μ1, tv, rfl, hle, hrow, rfl⟩ (by repeat (first | exact Split.nil | (apply Split.cons; (repeat (first | with_reducible exact Take.here | apply Take.there)))))
set_option maxHeartbeats 1000000 in
theorem good_spec (μ : PH) (v : Value) (x : List En) (h : Row μ v 2 x.length (ens x)) :
    Spec Try.prog 28 [v] [ro μ] (fun r L => ∃ μ', Le μ μ' ∧ Row μ' r 2 (goodE x).length (ens (goodE x)) ∧ L = [ro μ']) := by
  obtain ⟨v12, hr12, hs12⟩ := Row.hi (P := Try.prog) (t := 44) h (min x.length 100) (Nat.min_le_left _ _)
  rw [← ens_take2] at hr12
  obtain ⟨y, hy⟩ : ∃ y, y = x.take (min x.length 100) := ⟨_, rfl⟩
  have hyl : y.length = min x.length 100 := by rw [hy, List.length_take]; omega
  have hyt : y = x.take 100 := by
    rw [hy]
    by_cases hx : x.length ≤ 100
    · rw [Nat.min_eq_left hx, List.take_length, List.take_of_length_le hx]
    · rw [Nat.min_eq_right (by omega)]
  rw [← hy, ← hyl] at hr12
  have hy100 : y.length ≤ 100 := by omega
  refine Spec.of 38 Try.func28 rfl rfl rfl ?_
  refine swp_seq ?_
  refine swp_region ?_
  refine s_pu (pu_assign rfl) ?_
  refine swl_sub _ (.cons (t := 0) rfl .nil) ?_
  refine swl_nil ?_
  refine then_n ?_
  refine swp_seq ?_
  refine swp_region ?_
  refine s_pu (pu_assign rfl) ?_
  refine swl_sub _ (.cons (t := 0) rfl (.cons (t := 3) rfl .nil)) ?_
  refine swl_nil ?_
  refine then_n ?_
  refine swp_seq ?_
  refine swp_seq ?_
  refine swp_region ?_
  refine s_pu (pu_move rfl) ?_
  refine s_pu (pu_move rfl) ?_
  refine s_pu (pu_len_row h rfl) ?_
  refine s_pu (pu_min2 rfl rfl) ?_
  refine s_pu (hs12 _ _ _ .i64 _ rfl rfl (by omega)) ?_
  refine s_pu (pu_len_row hr12 rfl) ?_
  refine s_pu (pu_move rfl) ?_
  refine swl_sub _ (.cons (t := 3) rfl (.cons (t := 12) rfl (.cons (t := 13) rfl (.cons (t := 14) rfl .nil)))) ?_
  refine swl_ent (own_nil_ent (e := 51) (n := 2)) ?_
  refine swl_nil ?_
  refine then_n ?_
  refine swp_block ?_
  refine swp_loop (ι := Nat × Value) (fun k env L => Sub env [(3, k.2), (12, v12), (13, .int .i64 (y.length : Nat)), (14, .int .i64 (k.1 : Nat))] ∧ Ent L [own 51 2 k.2 k.1 (ens ((y.take k.1).map cutP)), ro μ] ∧ k.1 ≤ y.length) (fun k => y.length - k.1) (0, .slice none 0 0) ⟨⟨rfl, rfl, rfl, rfl, trivial⟩, Ent.refl _, Nat.zero_le _⟩ ?_
  rintro ⟨i, cv⟩ env L ⟨hsub, hE, hi⟩
  simp only [] at hi hE hsub
  refine swp_sub _ hsub ?_
  refine swp_ent hE ?_
  clear hsub hE env L
  dsimp only
  refine swp_seq ?_
  refine swp_region ?_
  refine s_pu (pu_lss rfl rfl) ?_
  refine swl_sub _ (.cons (t := 3) rfl (.cons (t := 12) rfl (.cons (t := 13) rfl (.cons (t := 14) rfl (.cons (t := 15) rfl .nil))))) ?_
  refine swl_nil ?_
  refine then_n ?_
  refine swp_seq ?_
  refine swp_cond (b := _) rfl (fun h15 => ?_) (fun h15 => ?_)
  · skip   -- 15 T
    have h15' : i < y.length := by have := of_decide_eq_true h15; omega
    obtain ⟨e, he⟩ : ∃ e, y[i]? = some e := ⟨_, List.getElem?_eq_getElem h15'⟩
    obtain ⟨gb, off, cap, hv, hra, hc0, hc1⟩ := tree_at hr12 he
    refine swp_skip ?_
    refine then_n ?_
    refine swp_seq ?_
    refine swp_block ?_
    refine swp_seq ?_
    refine swp_region ?_
    refine s_pu (pu_indexAddr (off + i * 2) (congrArg some hv) rfl (by omega) (by omega) (by rw [Int.toNat_natCast])) ?_
    refine s_rd (rd_roA rfl rfl hra) ?_
    refine s_ef (ef_alloc) ?_
    intro b5
    refine s_ef0 (ef_storeA rfl rfl rfl rfl) ?_
    refine swl_sub _ (.cons (t := 3) rfl (.cons (t := 5) rfl (.cons (t := 12) rfl (.cons (t := 13) rfl (.cons (t := 14) rfl .nil))))) ?_
    refine swl_nil ?_
    refine then_n ?_
    refine swp_draw [2, 4, 9] _ [] (by simp only [List.append_nil]; exact Ent.refl _) (by kernel_rfl) ?_
    refine d_pu 0 rfl (pu_move rfl) (by kernel_rfl) (by kernel_rfl) (by kernel_rfl) ?_
    first | refine d_pu 1 rfl (pu_fieldAddr0 rfl) (by kernel_rfl) (by kernel_rfl) (by kernel_rfl) ?_ | refine d_pu 1 rfl (pu_fieldAddr rfl) (by kernel_rfl) (by kernel_rfl) (by kernel_rfl) ?_
    refine d_rd 2 rfl (rd_load rfl rfl) rfl (by kernel_rfl) (by kernel_rfl) (by kernel_rfl) ?_
    first | refine d_pu 3 rfl (pu_fieldAddr0 rfl) (by kernel_rfl) (by kernel_rfl) (by kernel_rfl) ?_ | refine d_pu 3 rfl (pu_fieldAddr rfl) (by kernel_rfl) (by kernel_rfl) (by kernel_rfl) ?_
    refine d_rd 4 rfl (rd_load rfl rfl) rfl (by kernel_rfl) (by kernel_rfl) (by kernel_rfl) ?_
    refine d_pu 5 rfl (pu_strlen rfl) (by kernel_rfl) (by kernel_rfl) (by kernel_rfl) ?_
    refine d_pu 6 rfl (pu_min2 rfl rfl) (by kernel_rfl) (by kernel_rfl) (by kernel_rfl) ?_
    refine d_pu 7 rfl (pu_str_hi (min e.1.size 255) rfl rfl (by omega) (Nat.min_le_left _ _)) (by kernel_rfl) (by kernel_rfl) (by kernel_rfl) ?_
    first | refine d_pu 8 rfl (pu_fieldAddr0 rfl) (by kernel_rfl) (by kernel_rfl) (by kernel_rfl) ?_ | refine d_pu 8 rfl (pu_fieldAddr rfl) (by kernel_rfl) (by kernel_rfl) (by kernel_rfl) ?_
    refine d_rd 9 rfl (rd_load rfl rfl) rfl (by kernel_rfl) (by kernel_rfl) (by kernel_rfl) ?_
    refine d_pu 10 rfl (pu_bld (qs := [(0, _), (1, _)]) rfl) (by kernel_rfl) (by kernel_rfl) (by kernel_rfl) ?_
    first | refine d_fint 11 rfl (by kernel_rfl) (by kernel_rfl) (ef_bldS (qs := [(0, _)]) rfl rfl rfl) ?_ | refine d_finf 11 rfl (by kernel_rfl) (by kernel_rfl) (ef_bldS (qs := [(0, _)]) rfl rfl rfl) ?_
    intro b29
    first | refine d_fint 12 rfl (by kernel_rfl) (by kernel_rfl) (ef_append_lit (l := i) (m := 1) rfl rfl (by repeat (first | exact Split.nil | (apply Split.cons; (repeat (first | with_reducible exact Take.here | apply Take.there))))) (by simp only [maxLen]; omega) (by omega)) ?_ | refine d_finf 12 rfl (by kernel_rfl) (by kernel_rfl) (ef_append_lit (l := i) (m := 1) rfl rfl (by repeat (first | exact Split.nil | (apply Split.cons; (repeat (first | with_reducible exact Take.here | apply Take.there))))) (by simp only [maxLen]; omega) (by omega)) ?_
    rintro v30 -
    skip
    refine d_pu 13 rfl (pu_assign rfl) (by kernel_rfl) (by kernel_rfl) (by kernel_rfl) ?_
    refine d_sub _ (.cons (t := 3) rfl (.cons (t := 12) rfl (.cons (t := 13) rfl (.cons (t := 14) rfl .nil)))) ?_
    first | refine d_nilt (by kernel_rfl) ?_ | refine d_nilf (by kernel_rfl) ?_
    refine block_n ?_
    refine then_n ?_
    refine swp_region ?_
    refine s_pu (pu_add_as ((i + 1 : Nat) : Int) rfl rfl (by omega) (by omega) (by omega)) ?_
    refine s_pu (pu_move rfl) ?_
    refine swl_sub _ (.cons (t := 3) rfl (.cons (t := 12) rfl (.cons (t := 13) rfl (.cons (t := 14) rfl .nil)))) ?_
    refine swl_nil ?_
    refine then_n ⟨(i + 1, v30), ⟨⟨rfl, rfl, rfl, rfl, trivial⟩, ?_, h15'⟩, by show y.length - (i + 1) < y.length - i; omega⟩
    have e1 : ens ((y.take (i + 1)).map cutP) = ens ((y.take i).map cutP) ++ [.string (e.1.extract 0 (min e.1.size 255)), .int .u32 e.2] := by
      rw [List.take_add_one, he, List.map_append, ens_app]; rfl
    show Ent _ [own 51 2 v30 (i + 1) (ens ((y.take (i + 1)).map cutP)), ro μ]
    rw [e1]
    exact Split.ent' (by repeat (first | exact Split.nil | (apply Split.cons; (repeat (first | with_reducible exact Take.here | apply Take.there)))))
  · skip   -- 15 F
    have h15' := of_decide_eq_false h15
    obtain rfl : i = y.length := by omega
    rw [List.take_length]
    refine swp_exit ?_
    refine then_x ?_
    refine then_x ?_
    refine block_hit rfl ?_
    refine then_n ?_
    refine swp_seq ?_
    refine swp_share_own (v := cv) (μ := μ) (by repeat (first | exact Split.nil | (apply Split.cons; (repeat (first | with_reducible exact Take.here | apply Take.there))))) fun μ2 h2 hrow2 => ?_
    have hl2 : y.length = (y.map cutP).length := by rw [List.length_map]
    rw [hl2] at hrow2
    have hsh : ∀ e ∈ y.map cutP, e.1.size ≤ 255 := by
      intro e he
      obtain ⟨d, _, rfl⟩ := List.mem_map.1 he
      show (d.1.extract 0 (min d.1.size 255)).size ≤ 255
      rw [ByteArray.size_extract]; omega
    refine swp_region ?_
    refine s_pu (pu_move rfl) ?_
    refine s_ef (ef_fn (make_spec μ2 cv (y.map cutP) hrow2 (by rw [← hl2]; omega) hsh) rfl rfl (by repeat (first | exact Split.nil | (apply Split.cons; (repeat (first | with_reducible exact Take.here | apply Take.there)))))) ?_
    rintro v34 L1 ⟨μ3, tv, rfl, h3, hrow3, rfl⟩
    refine swl_app ?_
    refine s_pu (pu_move rfl) ?_
    first | refine s_pu (pu_extractL rfl) ?_ | refine s_pu (pu_extract rfl rfl) ?_
    first | refine s_pu (pu_extractL rfl) ?_ | refine s_pu (pu_extract rfl rfl) ?_
    refine s_pu (pu_assign rfl) ?_
    refine s_pu (pu_assign rfl) ?_
    refine swl_sub _ (.cons (t := 6) rfl .nil) ?_
    refine swl_nil ?_
    refine then_n ?_
    refine swp_seq ?_
    refine swp_region ?_
    refine s_pu (pu_move rfl) ?_
    refine s_pu (pu_assign rfl) ?_
    refine swl_sub _ (.cons (t := 2) rfl .nil) ?_
    refine swl_nil ?_
    refine then_n ?_
    refine swp_ret ?_
    refine done_ret [ro μ3] (.tmp rfl .nil) ⟨μ3, h2.trans h3, ?_, rfl⟩ (by repeat (first | exact Split.nil | (apply Split.cons; (repeat (first | with_reducible exact Take.here | apply Take.there)))))
    unfold goodE
    rw [← hyt]; exact hrow3
end SX
namespace SX
open Go Go.Proofs
theorem mark_specZ {b o t : Int} (hb : U32 b) (ho : U32 o) (ht : U32 t) : Spec Try.prog 26 [.int .u32 b, .int .u32 o, .int .u32 t] [] (fun r L => r = .int .u32 (markZ b o t) ∧ L = []) := by
  have := mark_spec (BitVec.ofInt 32 b) (BitVec.ofInt 32 o) (BitVec.ofInt 32 t)
  rw [← hb.bv, ← ho.bv, ← ht.bv] at this; exact this
theorem rmark_specZ {b o t : Int} (hb : U32 b) (ho : U32 o) (ht : U32 t) : Spec Try.prog 27 [.int .u32 b, .int .u32 o, .int .u32 t] [] (fun r L => r = .int .u32 (markZ b o t) ∧ L = []) := by
  have := rmark_spec (BitVec.ofInt 32 b) (BitVec.ofInt 32 o) (BitVec.ofInt 32 t)
  rw [← hb.bv, ← ho.bv, ← ht.bv] at this; exact this
end SX
namespace SX
open Go Go.Proofs
theorem cfs_app (a b : List Cf) : cfs (a ++ b) = cfs a ++ cfs b := List.flatMap_append
theorem outR_add (R : List Rw) (p : ByteArray) {b o t : Int} (h : ¬ (oneE b o t).1 = 0) : (outR (R ++ [(p, b, o, t)])).length = (outR R).length + 1 ∧ ens (outR (R ++ [(p, b, o, t)])) = ens (outR R) ++ [.string p, .int .u32 (oneE b o t).1] := by
  have e : outR1 (p, b, o, t) = [(p, (oneE b o t).1)] := if_neg h
  rw [outR_succ, e, ens_app, List.length_append]; exact ⟨rfl, rfl⟩
theorem outR_same (R : List Rw) (p : ByteArray) {b o t : Int} (h : (oneE b o t).1 = 0) : outR (R ++ [(p, b, o, t)]) = outR R := by
  have e : outR1 (p, b, o, t) = [] := if_pos h
  rw [outR_succ, e, List.append_nil]
theorem cfR_add (R : List Rw) (p : ByteArray) {b o t : Int} (h : (oneE b o t).2 = true) : (cfR (R ++ [(p, b, o, t)])).length = (cfR R).length + 1 ∧ cfs (cfR (R ++ [(p, b, o, t)])) = cfs (cfR R) ++ [.string p, .int .u32 b, .int .u32 o, .int .u32 t] := by
  have e : cfR1 (p, b, o, t) = [(p, b, o, t)] := if_pos h
  rw [cfR_succ, e, cfs_app, List.length_append]; exact ⟨rfl, rfl⟩
theorem cfR_same (R : List Rw) (p : ByteArray) {b o t : Int} (h : (oneE b o t).2 = false) : cfR (R ++ [(p, b, o, t)]) = cfR R := by
  have e : cfR1 (p, b, o, t) = [] := if_neg (fun k => by rw [show (oneE b o t).2 = true from k] at h; cases h)
  rw [cfR_succ, e, List.append_nil]
end SX
namespace SX
open Go Go.Proofs
abbrev sts (l : List ByteArray) : List Value := l.flatMap scsv
theorem sts_app (a b : List ByteArray) : sts (a ++ b) = sts a ++ sts b := List.flatMap_append
/-- the paths of the first i of three -/
def psK (a b c : List En) (i : Nat) : List ByteArray := ([a, b, c].take i).flatMap fun l => l.map (·.1)
theorem psK_succ {a b c l : List En} {i : Nat} (h : [a, b, c][i]? = some l) : psK a b c (i + 1) = psK a b c i ++ l.map (·.1) := by
  unfold psK; rw [List.take_add_one, h, List.flatMap_append]; simp
theorem psK_all (a b c : List En) : psK a b c 3 = a.map (·.1) ++ b.map (·.1) ++ c.map (·.1) := by
  simp [psK]
theorem psK_len {a b c : List En} {m : Nat} (hs : a.length ≤ m ∧ b.length ≤ m ∧ c.length ≤ m) {i : Nat} (hi : i ≤ 3) : (psK a b c i).length ≤ i * m := by
  unfold psK
  rcases Nat.lt_or_ge i 1 with h | h
  · obtain rfl : i = 0 := by omega
    simp
  · rcases Nat.lt_or_ge i 2 with h | h
    · obtain rfl : i = 1 := by omega
      simp; omega
    · rcases Nat.lt_or_ge i 3 with h | h
      · obtain rfl : i = 2 := by omega
        simp; omega
      · obtain rfl : i = 3 := by omega
        simp; omega
set_option maxHeartbeats 2000000 in
theorem paths_spec0 (μ : PH) (g : Nat) (va vb vc : Value) (a b c : List En) (ha : Row μ va 2 a.length (ens a)) (hb : Row μ vb 2 b.length (ens b)) (hc : Row μ vc 2 c.length (ens c)) (hsz : a.length ≤ 1048576 ∧ b.length ≤ 1048576 ∧ c.length ≤ 1048576) :
    Spec Try.prog 58 [.slice (some ⟨g, 0, none⟩) 3 3] [blk g 44 [va, vb, vc], ro μ] (fun r L => L = [own 9 1 r (cptS (srtS (psK a b c 3))).length (sts (cptS (srtS (psK a b c 3)))), ro μ]) := by
  have hT : ∀ i, i < 3 → ∃ l v, [a, b, c][i]? = some l ∧ [va, vb, vc][i]? = some v ∧ Row μ v 2 l.length (ens l) ∧ l.length ≤ 1048576 := by
    intro i hi
    rcases Nat.lt_or_ge i 1 with h | h
    · obtain rfl : i = 0 := by omega
      exact ⟨a, va, rfl, rfl, ha, hsz.1⟩
    · rcases Nat.lt_or_ge i 2 with h | h
      · obtain rfl : i = 1 := by omega
        exact ⟨b, vb, rfl, rfl, hb, hsz.2.1⟩
      · obtain rfl : i = 2 := by omega
        exact ⟨c, vc, rfl, rfl, hc, hsz.2.2⟩
  refine Spec.of 31 Try.func58 rfl rfl rfl ?_
  refine swp_seq ?_
  refine swp_region ?_
  refine s_pu (pu_assign rfl) ?_
  refine swl_sub _ (.cons (t := 0) rfl .nil) ?_
  refine swl_nil ?_
  refine then_n ?_
  refine swp_seq ?_
  refine swp_region ?_
  refine s_pu (pu_assign rfl) ?_
  refine swl_sub _ (.cons (t := 0) rfl (.cons (t := 3) rfl .nil)) ?_
  refine swl_nil ?_
  refine then_n ?_
  refine swp_seq ?_
  refine swp_seq ?_
  refine swp_region ?_
  refine s_pu (pu_move rfl) ?_
  refine s_pu (pu_len rfl) ?_
  refine s_pu (pu_move rfl) ?_
  refine swl_sub _ (.cons (t := 3) rfl (.cons (t := 8) rfl (.cons (t := 9) rfl (.cons (t := 10) rfl .nil)))) ?_
  refine swl_nil ?_
  refine then_n ?_
  refine swp_block ?_
  refine swp_ent (show Ent _ (own 9 1 (.slice none 0 0) (psK a b c 0).length (sts (psK a b c 0)) :: _) from own_nil_ent) ?_
  refine swp_loop (ι := Nat × Value) (fun k env L => Sub env [(3, k.2), (8, .slice (some ⟨g, 0, none⟩) 3 3), (9, .int .i64 3), (10, .int .i64 (k.1 : Nat))] ∧ Ent L [own 9 1 k.2 (psK a b c k.1).length (sts (psK a b c k.1)), blk g 44 [va, vb, vc], ro μ] ∧ k.1 ≤ 3) (fun k => 3 - k.1) (0, .slice none 0 0) ⟨⟨rfl, rfl, rfl, rfl, trivial⟩, Split.ent' (by repeat (first | exact Split.nil | (apply Split.cons; (repeat (first | with_reducible exact Take.here | apply Take.there))))), Nat.zero_le _⟩ ?_
  rintro ⟨i, v3⟩ env L ⟨hsub, hE, hi⟩
  simp only [] at hsub hE hi
  refine swp_sub _ hsub ?_
  refine swp_ent hE ?_
  clear hsub hE env L
  dsimp only
  refine swp_seq ?_
  refine swp_region ?_
  refine s_pu (pu_lss rfl rfl) ?_
  refine swl_sub _ (.cons (t := 3) rfl (.cons (t := 8) rfl (.cons (t := 9) rfl (.cons (t := 10) rfl (.cons (t := 11) rfl .nil))))) ?_
  refine swl_nil ?_
  refine then_n ?_
  refine swp_seq ?_
  refine swp_cond (b := _) rfl (fun h11 => ?_) (fun h11 => ?_)
  · skip   -- 11 T
    have h11' : i < 3 := by have := of_decide_eq_true h11; omega
    obtain ⟨l, vl, hl, hvl, hrow, hll⟩ := hT i h11'
    have hpl := psK_len hsz hi
    refine swp_skip ?_
    refine then_n ?_
    refine swp_seq ?_
    refine swp_block ?_
    refine swp_seq ?_
    refine swp_region ?_
    refine s_pu (pu_indexAddr i rfl rfl (by omega) (by omega) (by rw [Int.toNat_natCast]; omega)) ?_
    refine s_rd (rd_load rfl hvl) ?_
    refine s_pu (pu_assign rfl) ?_
    refine swl_sub _ (.cons (t := 3) rfl (.cons (t := 5) rfl (.cons (t := 8) rfl (.cons (t := 9) rfl (.cons (t := 10) rfl .nil))))) ?_
    refine swl_nil ?_
    refine then_n ?_
    refine swp_seq ?_
    refine swp_region ?_
    refine s_pu (pu_move rfl) ?_
    refine s_pu (pu_len_row hrow rfl) ?_
    refine s_pu (pu_move rfl) ?_
    refine swl_sub _ (.cons (t := 3) rfl (.cons (t := 8) rfl (.cons (t := 9) rfl (.cons (t := 10) rfl (.cons (t := 14) rfl (.cons (t := 15) rfl (.cons (t := 16) rfl .nil))))))) ?_
    refine swl_nil ?_
    refine then_n ?_
    refine swp_block ?_
    refine swp_ent (show Ent _ [own 9 1 v3 (psK a b c i ++ (l.take 0).map (·.1)).length (sts (psK a b c i ++ (l.take 0).map (·.1))), blk g 44 [va, vb, vc], ro μ] from (by rw [List.take_zero, List.map_nil, List.append_nil]; exact Split.ent' (by repeat (first | exact Split.nil | (apply Split.cons; (repeat (first | with_reducible exact Take.here | apply Take.there))))))) ?_
    refine swp_loop (ι := Nat × Value) (fun k env L => Sub env [(3, k.2), (8, .slice (some ⟨g, 0, none⟩) 3 3), (9, .int .i64 3), (10, .int .i64 (i : Nat)), (14, vl), (15, .int .i64 (l.length : Nat)), (16, .int .i64 (k.1 : Nat))] ∧ Ent L [own 9 1 k.2 (psK a b c i ++ (l.take k.1).map (·.1)).length (sts (psK a b c i ++ (l.take k.1).map (·.1))), blk g 44 [va, vb, vc], ro μ] ∧ k.1 ≤ l.length) (fun k => l.length - k.1) (0, v3) ⟨⟨rfl, rfl, rfl, rfl, rfl, rfl, rfl, trivial⟩, Split.ent' (by repeat (first | exact Split.nil | (apply Split.cons; (repeat (first | with_reducible exact Take.here | apply Take.there))))), Nat.zero_le _⟩ ?_
    rintro ⟨j, v4⟩ env L ⟨hsub, hE, hj⟩
    simp only [] at hsub hE hj
    refine swp_sub _ hsub ?_
    refine swp_ent hE ?_
    clear hsub hE env L
    dsimp only
    refine swp_seq ?_
    refine swp_region ?_
    refine s_pu (pu_lss rfl rfl) ?_
    refine swl_sub _ (.cons (t := 3) rfl (.cons (t := 8) rfl (.cons (t := 9) rfl (.cons (t := 10) rfl (.cons (t := 14) rfl (.cons (t := 15) rfl (.cons (t := 16) rfl (.cons (t := 17) rfl .nil)))))))) ?_
    refine swl_nil ?_
    refine then_n ?_
    refine swp_seq ?_
    refine swp_cond (b := _) rfl (fun h17 => ?_) (fun h17 => ?_)
    · skip   -- 17 T
      have h17' : j < l.length := by have := of_decide_eq_true h17; omega
      obtain ⟨e, he⟩ : ∃ e, l[j]? = some e := ⟨_, List.getElem?_eq_getElem h17'⟩
      obtain ⟨gb, off, cap, hv, hra, hc0, hc1⟩ := tree_at hrow he
      have hql : (psK a b c i ++ (l.take j).map (·.1)).length ≤ 4194304 := by rw [List.length_append, List.length_map, List.length_take]; omega
      refine swp_skip ?_
      refine then_n ?_
      refine swp_seq ?_
      refine swp_block ?_
      refine swp_seq ?_
      refine swp_region ?_
      refine s_pu (pu_indexAddr (off + j * 2) (congrArg some hv) rfl (by omega) (by omega) (by rw [Int.toNat_natCast])) ?_
      refine s_rd (rd_roA rfl rfl hra) ?_
      refine s_ef (ef_alloc) ?_
      intro b7
      refine s_ef0 (ef_storeA rfl rfl rfl rfl) ?_
      refine swl_sub _ (.cons (t := 3) rfl (.cons (t := 7) rfl (.cons (t := 8) rfl (.cons (t := 9) rfl (.cons (t := 10) rfl (.cons (t := 14) rfl (.cons (t := 15) rfl (.cons (t := 16) rfl .nil)))))))) ?_
      refine swl_nil ?_
      refine then_n ?_
      refine swp_region ?_
      refine s_pu (pu_move rfl) ?_
      first | refine s_pu (pu_fieldAddr0 rfl) ?_ | refine s_pu (pu_fieldAddr rfl) ?_
      refine s_rd (rd_load rfl rfl) ?_
      refine s_ef (ef_bldS (qs := [(0, _)]) rfl rfl rfl) ?_
      intro b23
      refine s_ef (ef_append_lit (m := 1) rfl rfl (by repeat (first | exact Split.nil | (apply Split.cons; (repeat (first | with_reducible exact Take.here | apply Take.there))))) (by simp only [maxLen]; omega) (by omega)) ?_
      rintro v24 -
      skip
      refine s_pu (pu_assign rfl) ?_
      refine swl_sub _ (.cons (t := 3) rfl (.cons (t := 8) rfl (.cons (t := 9) rfl (.cons (t := 10) rfl (.cons (t := 14) rfl (.cons (t := 15) rfl (.cons (t := 16) rfl .nil))))))) ?_
      refine swl_nil ?_
      refine block_n ?_
      refine then_n ?_
      refine swp_region ?_
      refine s_pu (pu_add_as ((j + 1 : Nat) : Int) rfl rfl (by omega) (by omega) (by omega)) ?_
      refine s_pu (pu_move rfl) ?_
      refine swl_sub _ (.cons (t := 3) rfl (.cons (t := 8) rfl (.cons (t := 9) rfl (.cons (t := 10) rfl (.cons (t := 14) rfl (.cons (t := 15) rfl (.cons (t := 16) rfl .nil))))))) ?_
      refine swl_nil ?_
      refine then_n ⟨(j + 1, v24), ⟨⟨rfl, rfl, rfl, rfl, rfl, rfl, rfl, trivial⟩, ?_, h17'⟩, by show l.length - (j + 1) < l.length - j; omega⟩
      have q0 : psK a b c i ++ (l.take (j + 1)).map (·.1) = (psK a b c i ++ (l.take j).map (·.1)) ++ [e.1] := by
        rw [List.take_add_one, he, List.map_append, List.append_assoc]; rfl
      have q1 : ∀ q : List ByteArray, (q ++ [e.1]).length = q.length + 1 ∧ sts (q ++ [e.1]) = sts q ++ [.string e.1] := fun q => ⟨by rw [List.length_append]; rfl, by rw [sts_app]; rfl⟩
      show Ent _ [own 9 1 v24 (psK a b c i ++ (l.take (j + 1)).map (·.1)).length (sts (psK a b c i ++ (l.take (j + 1)).map (·.1))), blk g 44 [va, vb, vc], ro μ]
      rw [q0, (q1 _).1, (q1 _).2]
      exact Split.ent' (by repeat (first | exact Split.nil | (apply Split.cons; (repeat (first | with_reducible exact Take.here | apply Take.there)))))
    · skip   -- 17 F
      have h17' := of_decide_eq_false h17
      obtain rfl : j = l.length := by omega
      rw [List.take_length, ← psK_succ hl]
      refine swp_exit ?_
      refine then_x ?_
      refine then_x ?_
      refine block_hit rfl ?_
      refine block_n ?_
      refine then_n ?_
      refine swp_region ?_
      refine s_pu (pu_add_as ((i + 1 : Nat) : Int) rfl rfl (by omega) (by omega) (by omega)) ?_
      refine s_pu (pu_move rfl) ?_
      refine swl_sub _ (.cons (t := 3) rfl (.cons (t := 8) rfl (.cons (t := 9) rfl (.cons (t := 10) rfl .nil)))) ?_
      refine swl_nil ?_
      exact then_n ⟨(i + 1, v4), ⟨⟨rfl, rfl, rfl, rfl, trivial⟩, Split.ent' (by repeat (first | exact Split.nil | (apply Split.cons; (repeat (first | with_reducible exact Take.here | apply Take.there))))), h11'⟩, by show 3 - (i + 1) < 3 - i; omega⟩
  · skip   -- 11 F
    have h11' := of_decide_eq_false h11
    obtain rfl : i = 3 := by omega
    have hpl := psK_len hsz (Nat.le_refl 3)
    refine swp_exit ?_
    refine then_x ?_
    refine then_x ?_
    refine block_hit rfl ?_
    refine then_n ?_
    refine swp_seq ?_
    refine swp_region ?_
    refine s_pu (pu_move rfl) ?_
    refine s_ef (ef_fn (sort_strs Try.slices_Sort_string Try.slices_Sort_string_none v3 (psK a b c 3) (by omega)) rfl rfl (by repeat (first | exact Split.nil | (apply Split.cons; (repeat (first | with_reducible exact Take.here | apply Take.there)))))) ?_
    rintro v28 L1 ⟨rfl, rfl⟩
    refine swl_app ?_
    refine swl_sub _ (.cons (t := 3) rfl .nil) ?_
    refine swl_nil ?_
    refine then_n ?_
    refine swp_seq ?_
    rw [← srtS_len (psK a b c 3)]
    refine swp_region ?_
    refine s_pu (pu_move rfl) ?_
    refine s_ef (ef_fn (compact_strs (e := 9) Try.slices_Compact_string Try.slices_Compact_string_empty v3 (srtS (psK a b c 3)) (by rw [srtS_len]; omega)) rfl rfl (by repeat (first | exact Split.nil | (apply Split.cons; (repeat (first | with_reducible exact Take.here | apply Take.there)))))) ?_
    rintro v30 L1 rfl
    refine swl_app ?_
    refine s_pu (pu_assign rfl) ?_
    refine swl_sub _ (.cons (t := 2) rfl .nil) ?_
    refine swl_nil ?_
    refine then_n ?_
    refine swp_ret ?_
    exact done_ret [own 9 1 v30 (cptS (srtS (psK a b c 3))).length (sts (cptS (srtS (psK a b c 3)))), ro μ] (.tmp rfl .nil) rfl (by repeat (first | exact Split.nil | (apply Split.cons; (repeat (first | with_reducible exact Take.here | apply Take.there)))))
theorem paths_spec (μ : PH) (g : Nat) (va vb vc : Value) (a b c : List En) (ha : Row μ va 2 a.length (ens a)) (hb : Row μ vb 2 b.length (ens b)) (hc : Row μ vc 2 c.length (ens c)) (hsz : a.length ≤ 1048576 ∧ b.length ≤ 1048576 ∧ c.length ≤ 1048576) :
    Spec Try.prog 58 [.slice (some ⟨g, 0, none⟩) 3 3] [blk g 44 [va, vb, vc], ro μ] (fun r L => L = [own 9 1 r (pathsE a b c).length (sts (pathsE a b c)), ro μ]) := by
  have := paths_spec0 μ g va vb vc a b c ha hb hc hsz
  rw [psK_all] at this; exact this
end SX
namespace SX
open Go Go.Proofs
theorem pathsE_len (a b c : List En) : (pathsE a b c).length ≤ a.length + b.length + c.length := by
  have := uniS_len (a.map (·.1) ++ b.map (·.1) ++ c.map (·.1))
  rw [List.length_append, List.length_append, List.length_map, List.length_map, List.length_map] at this
  exact this
set_option maxHeartbeats 4000000 in
theorem three_spec (μ : PH) (va vb vc : Value) (a b c : List En) (ha : Row μ va 2 a.length (ens a)) (hb : Row μ vb 2 b.length (ens b)) (hc : Row μ vc 2 c.length (ens c)) (hsz : a.length ≤ 1048576 ∧ b.length ≤ 1048576 ∧ c.length ≤ 1048576)
    (hu : U32s a ∧ U32s b ∧ U32s c) : Spec Try.prog 29 [va, vb, vc] [ro μ] (fun r L => ∃ v8 v9 μ', Le μ μ' ∧ r = .tuple #[v8, v9] ∧ L = [own 51 2 v8 (outR (rowsB a b c)).length (ens (outR (rowsB a b c))), own 70 4 v9 (cfR (rowsB a b c)).length (cfs (cfR (rowsB a b c))), ro μ']) := by
  have hpl := pathsE_len a b c
  generalize hrs : rowsB a b c = rs
  have hrl : rs.length = (pathsE a b c).length := by rw [← hrs]; unfold rowsB; rw [List.length_map]
  have hrg : ∀ i p, (pathsE a b c)[i]? = some p → rs[i]? = some (p, lookB a p, lookB b p, lookB c p) := fun i p h => by
    rw [← hrs]; unfold rowsB; rw [List.getElem?_map, h]; rfl
  have hps := fun g => paths_spec μ g va vb vc a b c ha hb hc hsz
  generalize pathsE a b c = ps at hpl hrl hrg hps
  obtain ⟨Aa, ca, hva⟩ := ha.sl
  obtain ⟨Ab, cb, hvb⟩ := hb.sl
  obtain ⟨Ac, cc, hvc⟩ := hc.sl
  subst hva hvb hvc
  refine Spec.of 73 Try.func29 rfl rfl rfl ?_
  refine swp_seq ?_
  refine swp_region ?_
  refine s_pu (pu_assign rfl) ?_
  refine s_pu (pu_assign rfl) ?_
  refine swl_sub _ (.cons (t := 0) rfl (.cons (t := 1) rfl (.cons (t := 2) rfl .nil))) ?_
  refine swl_nil ?_
  refine then_n ?_
  refine swp_seq ?_
  refine swp_region ?_
  refine s_pu (pu_assign rfl) ?_
  refine swl_sub _ (.cons (t := 0) rfl (.cons (t := 1) rfl (.cons (t := 2) rfl (.cons (t := 8) rfl .nil)))) ?_
  refine swl_nil ?_
  refine then_n ?_
  refine swp_seq ?_
  refine swp_region ?_
  refine s_pu (pu_assign rfl) ?_
  refine swl_sub _ (.cons (t := 0) rfl (.cons (t := 1) rfl (.cons (t := 2) rfl (.cons (t := 8) rfl (.cons (t := 9) rfl .nil))))) ?_
  refine swl_nil ?_
  refine then_n ?_
  refine swp_seq ?_
  refine swp_seq ?_
  refine swp_region ?_
  refine s_pu (pu_move rfl) ?_
  refine s_pu (pu_move rfl) ?_
  refine s_pu (pu_move rfl) ?_
  refine s_ef (ef_bldS (qs := [(0, _), (1, _), (2, _)]) rfl rfl rfl) ?_
  intro b19
  refine s_ef (ef_fn (hps b19) rfl rfl (by repeat (first | exact Split.nil | (apply Split.cons; (repeat (first | with_reducible exact Take.here | apply Take.there)))))) ?_
  rintro v20 L1 rfl
  refine swl_app ?_
  refine swl_share_own (v := v20) (μ := μ) (by repeat (first | exact Split.nil | (apply Split.cons; (repeat (first | with_reducible exact Take.here | apply Take.there))))) fun μ1 hle hrow => ?_
  have ra := ha.le hle
  have rb := hb.le hle
  have rc := hc.le hle
  refine s_pu (pu_len_row hrow rfl) ?_
  refine s_pu (pu_move rfl) ?_
  refine swl_sub _ (.cons (t := 0) rfl (.cons (t := 1) rfl (.cons (t := 2) rfl (.cons (t := 8) rfl (.cons (t := 9) rfl (.cons (t := 20) rfl (.cons (t := 21) rfl (.cons (t := 22) rfl .nil)))))))) ?_
  refine swl_nil ?_
  refine then_n ?_
  refine swp_block ?_
  refine swp_ent (show Ent _ (own 51 2 (.slice none 0 0) (outR (rs.take 0)).length (ens (outR (rs.take 0))) :: _) from own_nil_ent) ?_
  refine swp_ent (show Ent _ (own 70 4 (.slice none 0 0) (cfR (rs.take 0)).length (cfs (cfR (rs.take 0))) :: _) from own_nil_ent) ?_
  refine swp_loop (ι := Nat × Value × Value) (fun k env L => Sub env [(0, (.slice Aa a.length ca)), (1, (.slice Ab b.length cb)), (2, (.slice Ac c.length cc)), (8, k.2.1), (9, k.2.2), (20, v20), (21, .int .i64 (ps.length : Nat)), (22, .int .i64 (k.1 : Nat))] ∧ Ent L [own 51 2 k.2.1 (outR (rs.take k.1)).length (ens (outR (rs.take k.1))), own 70 4 k.2.2 (cfR (rs.take k.1)).length (cfs (cfR (rs.take k.1))), ro μ1] ∧ k.1 ≤ ps.length) (fun k => ps.length - k.1) (0, .slice none 0 0, .slice none 0 0) ⟨⟨rfl, rfl, rfl, rfl, rfl, rfl, rfl, rfl, trivial⟩, Split.ent' (by repeat (first | exact Split.nil | (apply Split.cons; (repeat (first | with_reducible exact Take.here | apply Take.there))))), Nat.zero_le _⟩ ?_
  rintro ⟨i, v8, v9⟩ env L ⟨hsub, hE, hi⟩
  simp only [] at hsub hE hi
  refine swp_sub _ hsub ?_
  refine swp_ent hE ?_
  clear hsub hE env L
  dsimp only
  refine swp_seq ?_
  refine swp_region ?_
  refine s_pu (pu_lss rfl rfl) ?_
  refine swl_sub _ (.cons (t := 0) rfl (.cons (t := 1) rfl (.cons (t := 2) rfl (.cons (t := 8) rfl (.cons (t := 9) rfl (.cons (t := 20) rfl (.cons (t := 21) rfl (.cons (t := 22) rfl (.cons (t := 23) rfl .nil))))))))) ?_
  refine swl_nil ?_
  refine then_n ?_
  refine swp_seq ?_
  refine swp_cond (b := _) rfl (fun h23 => ?_) (fun h23 => ?_)
  · skip   -- 23 T
    have h23' : i < ps.length := by have := of_decide_eq_true h23; omega
    obtain ⟨p, hp⟩ : ∃ p, ps[i]? = some p := ⟨_, List.getElem?_eq_getElem h23'⟩
    obtain ⟨gb, off, cap, hv, _, _, hr⟩ := hrow.pos (by omega)
    have hcp := hr.elem (f := scsv) (n := 1) scsv_len hp
    have hgp := hrg i p hp
    have htk : rs.take (i + 1) = rs.take i ++ [(p, lookB a p, lookB b p, lookB c p)] := by rw [List.take_add_one, hgp]; rfl
    have ua := hu.1.lookB p
    have ub := hu.2.1.lookB p
    have uc := hu.2.2.lookB p
    have hol : (outR (rs.take i)).length ≤ 4194304 := by have := outR_len (rs.take i); rw [List.length_take] at this; omega
    have hcl : (cfR (rs.take i)).length ≤ 4194304 := by have := cfR_len (rs.take i); rw [List.length_take] at this; omega
    refine swp_skip ?_
    refine then_n ?_
    refine swp_seq ?_
    refine swp_block ?_
    refine swp_seq ?_
    refine swp_region ?_
    refine s_pu (pu_indexAddr (off + i * 1) (congrArg some hv) rfl (by omega) (by omega) (by rw [Int.toNat_natCast])) ?_
    refine s_rd (rd_ro rfl hcp.cell) ?_
    refine s_pu (pu_assign rfl) ?_
    refine swl_sub _ (.cons (t := 0) rfl (.cons (t := 1) rfl (.cons (t := 2) rfl (.cons (t := 8) rfl (.cons (t := 9) rfl (.cons (t := 11) rfl (.cons (t := 20) rfl (.cons (t := 21) rfl (.cons (t := 22) rfl .nil))))))))) ?_
    refine swl_nil ?_
    refine then_n ?_
    refine swp_seq ?_
    refine swp_region ?_
    refine s_pu (pu_move rfl) ?_
    refine s_pu (pu_move rfl) ?_
    refine s_ef (ef_fn (look_spec μ1 (.slice Aa a.length ca) a p ra hsz.1) rfl rfl (by repeat (first | exact Split.nil | (apply Split.cons; (repeat (first | with_reducible exact Take.here | apply Take.there)))))) ?_
    rintro v28 L1 ⟨rfl, rfl⟩
    refine swl_app ?_
    refine s_pu (pu_move rfl) ?_
    refine s_pu (pu_move rfl) ?_
    refine s_ef (ef_fn (look_spec μ1 (.slice Ab b.length cb) b p rb hsz.2.1) rfl rfl (by repeat (first | exact Split.nil | (apply Split.cons; (repeat (first | with_reducible exact Take.here | apply Take.there)))))) ?_
    rintro v31 L1 ⟨rfl, rfl⟩
    refine swl_app ?_
    refine s_pu (pu_move rfl) ?_
    refine s_pu (pu_move rfl) ?_
    refine s_ef (ef_fn (look_spec μ1 (.slice Ac c.length cc) c p rc hsz.2.2) rfl rfl (by repeat (first | exact Split.nil | (apply Split.cons; (repeat (first | with_reducible exact Take.here | apply Take.there)))))) ?_
    rintro v34 L1 ⟨rfl, rfl⟩
    refine swl_app ?_
    refine s_pu (pu_assign rfl) ?_
    refine s_pu (pu_assign rfl) ?_
    refine s_pu (pu_assign rfl) ?_
    refine swl_sub _ (.cons (t := 0) rfl (.cons (t := 1) rfl (.cons (t := 2) rfl (.cons (t := 8) rfl (.cons (t := 9) rfl (.cons (t := 11) rfl (.cons (t := 12) rfl (.cons (t := 13) rfl (.cons (t := 14) rfl (.cons (t := 20) rfl (.cons (t := 21) rfl (.cons (t := 22) rfl .nil)))))))))))) ?_
    refine swl_nil ?_
    refine then_n ?_
    refine swp_seq ?_
    generalize lookB a p = xb at ua htk
    generalize lookB b p = xo at ub htk
    generalize lookB c p = xt at uc htk
    refine swp_region ?_
    refine s_pu (pu_move rfl) ?_
    refine s_pu (pu_assign rfl) ?_
    refine swl_sub _ (.cons (t := 0) rfl (.cons (t := 1) rfl (.cons (t := 2) rfl (.cons (t := 8) rfl (.cons (t := 9) rfl (.cons (t := 11) rfl (.cons (t := 12) rfl (.cons (t := 13) rfl (.cons (t := 14) rfl (.cons (t := 15) rfl (.cons (t := 20) rfl (.cons (t := 21) rfl (.cons (t := 22) rfl .nil))))))))))))) ?_
    refine swl_nil ?_
    refine then_n ?_
    refine swp_cut (fun env L => ∃ v9', Sub env [(0, (.slice Aa a.length ca)), (1, (.slice Ab b.length cb)), (2, (.slice Ac c.length cc)), (8, v8), (9, v9'), (11, .string p), (15, .int .u32 (oneE xb xo xt).1), (20, v20), (21, .int .i64 (ps.length : Nat)), (22, .int .i64 (i : Nat))] ∧ Ent L [own 51 2 v8 (outR (rs.take i)).length (ens (outR (rs.take i))), own 70 4 v9' (cfR (rs.take (i + 1))).length (cfs (cfR (rs.take (i + 1)))), ro μ1]) ?_ ?_
    · skip
      refine swp_block ?_
      refine swp_seq ?_
      refine swp_region ?_
      refine s_pu (pu_move rfl) ?_
      refine s_pu (pu_move rfl) ?_
      refine s_pu (pu_eql rfl rfl) ?_
      refine s_pu (pu_move rfl) ?_
      refine s_split 52 rfl (fun h52 => ?_) (fun h52 => ?_)
      · skip   -- 52 T
        refine s_off rfl rfl rfl ?_
        refine s_off rfl rfl rfl ?_
        refine s_off rfl rfl rfl ?_
        first | refine s_pu (pu_pick_t rfl rfl) ?_ | refine s_pu (pu_pick_f rfl rfl) ?_
        refine s_pu (pu_assign rfl) ?_
        refine swl_sub _ (.cons (t := 0) rfl (.cons (t := 1) rfl (.cons (t := 2) rfl (.cons (t := 8) rfl (.cons (t := 9) rfl (.cons (t := 11) rfl (.cons (t := 12) rfl (.cons (t := 13) rfl (.cons (t := 14) rfl (.cons (t := 15) rfl (.cons (t := 20) rfl (.cons (t := 21) rfl (.cons (t := 22) rfl (.cons (t := 48) rfl .nil)))))))))))))) ?_
        refine swl_nil ?_
        refine then_n ?_
        refine swp_cond (b := _) rfl (fun h48 => ?_) (fun h48 => by cases h48)
        refine swp_skip ?_
        refine block_n ?_
        have e1 : oneE xb xo xt = (xo, false) := if_pos (Or.inl (of_decide_eq_true h52))
        refine then_n ⟨v9, ⟨rfl, rfl, rfl, rfl, rfl, rfl, by rw [e1]; rfl, rfl, rfl, rfl, trivial⟩, ?_⟩
        rw [htk, cfR_same (rs.take i) p (show (oneE xb xo xt).2 = false by rw [e1])]
        exact Split.ent' (by repeat (first | exact Split.nil | (apply Split.cons; (repeat (first | with_reducible exact Take.here | apply Take.there)))))
      · skip   -- 52 F
        refine s_on rfl rfl ?_
        refine s_pu (pu_move rfl) ?_
        refine s_on rfl rfl ?_
        refine s_pu (pu_move rfl) ?_
        refine s_on rfl rfl ?_
        refine s_pu (pu_eql rfl rfl) ?_
        first | refine s_pu (pu_pick_t rfl rfl) ?_ | refine s_pu (pu_pick_f rfl rfl) ?_
        refine s_pu (pu_assign rfl) ?_
        refine swl_sub _ (.cons (t := 0) rfl (.cons (t := 1) rfl (.cons (t := 2) rfl (.cons (t := 8) rfl (.cons (t := 9) rfl (.cons (t := 11) rfl (.cons (t := 12) rfl (.cons (t := 13) rfl (.cons (t := 14) rfl (.cons (t := 15) rfl (.cons (t := 20) rfl (.cons (t := 21) rfl (.cons (t := 22) rfl (.cons (t := 48) rfl .nil)))))))))))))) ?_
        refine swl_nil ?_
        refine then_n ?_
        refine swp_cond (b := _) rfl (fun h48 => ?_) (fun h48 => ?_)
        · skip   -- 48 T
          refine swp_skip ?_
          refine block_n ?_
          have e1 : oneE xb xo xt = (xo, false) := if_pos (Or.inr (of_decide_eq_true h48))
          refine then_n ⟨v9, ⟨rfl, rfl, rfl, rfl, rfl, rfl, by rw [e1]; rfl, rfl, rfl, rfl, trivial⟩, ?_⟩
          rw [htk, cfR_same (rs.take i) p (show (oneE xb xo xt).2 = false by rw [e1])]
          exact Split.ent' (by repeat (first | exact Split.nil | (apply Split.cons; (repeat (first | with_reducible exact Take.here | apply Take.there)))))
        · skip   -- 48 F
          have k0 : ¬ (xo = xt ∨ xb = xt) := fun k => k.elim (of_decide_eq_false h52) (of_decide_eq_false h48)
          refine swp_seq ?_
          refine swp_region ?_
          refine s_pu (pu_move rfl) ?_
          refine s_pu (pu_move rfl) ?_
          refine s_pu (pu_eql rfl rfl) ?_
          refine s_pu (pu_assign rfl) ?_
          refine swl_sub _ (.cons (t := 0) rfl (.cons (t := 1) rfl (.cons (t := 2) rfl (.cons (t := 8) rfl (.cons (t := 9) rfl (.cons (t := 11) rfl (.cons (t := 12) rfl (.cons (t := 13) rfl (.cons (t := 14) rfl (.cons (t := 20) rfl (.cons (t := 21) rfl (.cons (t := 22) rfl (.cons (t := 57) rfl .nil))))))))))))) ?_
          refine swl_nil ?_
          refine then_n ?_
          refine swp_cond (b := _) rfl (fun h57 => ?_) (fun h57 => ?_)
          · skip   -- 57 T
            refine swp_region ?_
            refine s_pu (pu_move rfl) ?_
            refine s_pu (pu_assign rfl) ?_
            refine swl_sub _ (.cons (t := 0) rfl (.cons (t := 1) rfl (.cons (t := 2) rfl (.cons (t := 8) rfl (.cons (t := 9) rfl (.cons (t := 11) rfl (.cons (t := 15) rfl (.cons (t := 20) rfl (.cons (t := 21) rfl (.cons (t := 22) rfl .nil)))))))))) ?_
            refine swl_nil ?_
            refine block_n ?_
            have e1 : oneE xb xo xt = (xt, false) := by unfold oneE; rw [if_neg k0, if_pos (of_decide_eq_true h57)]
            refine then_n ⟨v9, ⟨rfl, rfl, rfl, rfl, rfl, rfl, by rw [e1]; rfl, rfl, rfl, rfl, trivial⟩, ?_⟩
            rw [htk, cfR_same (rs.take i) p (show (oneE xb xo xt).2 = false by rw [e1])]
            exact Split.ent' (by repeat (first | exact Split.nil | (apply Split.cons; (repeat (first | with_reducible exact Take.here | apply Take.there)))))
          · skip   -- 57 F
            refine swp_seq ?_
            refine swp_region ?_
            refine s_pu (pu_move rfl) ?_
            refine s_pu (pu_move rfl) ?_
            refine s_pu (pu_move rfl) ?_
            refine s_ef (ef_fn (mark_specZ ua ub uc) rfl rfl (by repeat (first | exact Split.nil | (apply Split.cons; (repeat (first | with_reducible exact Take.here | apply Take.there)))))) ?_
            rintro v39 L1 ⟨rfl, rfl⟩
            refine swl_app ?_
            refine s_pu (pu_assign rfl) ?_
            refine swl_sub _ (.cons (t := 0) rfl (.cons (t := 1) rfl (.cons (t := 2) rfl (.cons (t := 8) rfl (.cons (t := 9) rfl (.cons (t := 11) rfl (.cons (t := 12) rfl (.cons (t := 13) rfl (.cons (t := 14) rfl (.cons (t := 15) rfl (.cons (t := 20) rfl (.cons (t := 21) rfl (.cons (t := 22) rfl .nil))))))))))))) ?_
            refine swl_nil ?_
            refine then_n ?_
            refine swp_region ?_
            refine s_pu (pu_move rfl) ?_
            refine s_pu (pu_move rfl) ?_
            refine s_pu (pu_move rfl) ?_
            refine s_pu (pu_move rfl) ?_
            refine s_pu (pu_move rfl) ?_
            refine s_pu (pu_bld (qs := [(0, _), (1, _), (2, _), (3, _)]) rfl) ?_
            refine s_ef (ef_bldS (qs := [(0, _)]) rfl rfl rfl) ?_
            intro b46
            refine s_ef (ef_append_lit (l := (cfR (rs.take i)).length) (m := 1) rfl rfl (by repeat (first | exact Split.nil | (apply Split.cons; (repeat (first | with_reducible exact Take.here | apply Take.there))))) (by simp only [maxLen]; omega) (by omega)) ?_
            rintro v47 -
            skip
            refine s_pu (pu_assign rfl) ?_
            refine swl_sub _ (.cons (t := 0) rfl (.cons (t := 1) rfl (.cons (t := 2) rfl (.cons (t := 8) rfl (.cons (t := 9) rfl (.cons (t := 11) rfl (.cons (t := 15) rfl (.cons (t := 20) rfl (.cons (t := 21) rfl (.cons (t := 22) rfl .nil)))))))))) ?_
            refine swl_nil ?_
            refine block_n ?_
            have e1 : oneE xb xo xt = (markZ xb xo xt, true) := by unfold oneE; rw [if_neg k0, if_neg (of_decide_eq_false h57)]
            refine then_n ⟨v47, ⟨rfl, rfl, rfl, rfl, rfl, rfl, by rw [e1]; rfl, rfl, rfl, rfl, trivial⟩, ?_⟩
            obtain ⟨q1, q2⟩ := cfR_add (rs.take i) p (show (oneE xb xo xt).2 = true by rw [e1])
            rw [htk, q1, q2]
            exact Split.ent' (by repeat (first | exact Split.nil | (apply Split.cons; (repeat (first | with_reducible exact Take.here | apply Take.there)))))
    rintro env L ⟨v9', hsub, hE⟩
    refine swp_sub _ hsub ?_
    refine swp_ent hE ?_
    clear hsub hE env L
    refine swp_seq ?_
    refine swp_region ?_
    refine s_pu (pu_move rfl) ?_
    refine s_pu (pu_neq rfl rfl) ?_
    refine swl_sub _ (.cons (t := 0) rfl (.cons (t := 1) rfl (.cons (t := 2) rfl (.cons (t := 8) rfl (.cons (t := 9) rfl (.cons (t := 11) rfl (.cons (t := 15) rfl (.cons (t := 20) rfl (.cons (t := 21) rfl (.cons (t := 22) rfl (.cons (t := 63) rfl .nil))))))))))) ?_
    refine swl_nil ?_
    refine then_n ?_
    refine swp_cond (b := _) rfl (fun h63 => ?_) (fun h63 => ?_)
    · skip   -- 63 T
      refine swp_region ?_
      refine s_pu (pu_move rfl) ?_
      refine s_pu (pu_move rfl) ?_
      refine s_pu (pu_move rfl) ?_
      refine s_pu (pu_bld (qs := [(0, _), (1, _)]) rfl) ?_
      refine s_ef (ef_bldS (qs := [(0, _)]) rfl rfl rfl) ?_
      intro b68
      refine s_ef (ef_append_lit (l := (outR (rs.take i)).length) (m := 1) rfl rfl (by repeat (first | exact Split.nil | (apply Split.cons; (repeat (first | with_reducible exact Take.here | apply Take.there))))) (by simp only [maxLen]; omega) (by omega)) ?_
      rintro v69 -
      skip
      refine s_pu (pu_assign rfl) ?_
      refine swl_sub _ (.cons (t := 0) rfl (.cons (t := 1) rfl (.cons (t := 2) rfl (.cons (t := 8) rfl (.cons (t := 9) rfl (.cons (t := 20) rfl (.cons (t := 21) rfl (.cons (t := 22) rfl .nil)))))))) ?_
      refine swl_nil ?_
      refine block_n ?_
      refine then_n ?_
      refine swp_region ?_
      refine s_pu (pu_add_as ((i + 1 : Nat) : Int) rfl rfl (by omega) (by omega) (by omega)) ?_
      refine s_pu (pu_move rfl) ?_
      refine swl_sub _ (.cons (t := 0) rfl (.cons (t := 1) rfl (.cons (t := 2) rfl (.cons (t := 8) rfl (.cons (t := 9) rfl (.cons (t := 20) rfl (.cons (t := 21) rfl (.cons (t := 22) rfl .nil)))))))) ?_
      refine swl_nil ?_
      have h63' : ¬ (oneE xb xo xt).1 = 0 := by simpa using h63
      refine then_n ⟨(i + 1, v69, v9'), ⟨⟨rfl, rfl, rfl, rfl, rfl, rfl, rfl, rfl, trivial⟩, ?_, h23'⟩, by show ps.length - (i + 1) < ps.length - i; omega⟩
      obtain ⟨q1, q2⟩ := outR_add (rs.take i) p h63'
      have e2 : outR (rs.take (i + 1)) = outR (rs.take i ++ [(p, xb, xo, xt)]) := by rw [htk]
      show Ent _ [own 51 2 v69 (outR (rs.take (i + 1))).length (ens (outR (rs.take (i + 1)))), own 70 4 v9' (cfR (rs.take (i + 1))).length (cfs (cfR (rs.take (i + 1)))), ro μ1]
      rw [e2, q1, q2]
      exact Split.ent' (by repeat (first | exact Split.nil | (apply Split.cons; (repeat (first | with_reducible exact Take.here | apply Take.there)))))
    · skip   -- 63 F
      refine swp_skip ?_
      refine block_n ?_
      refine then_n ?_
      refine swp_region ?_
      refine s_pu (pu_add_as ((i + 1 : Nat) : Int) rfl rfl (by omega) (by omega) (by omega)) ?_
      refine s_pu (pu_move rfl) ?_
      refine swl_sub _ (.cons (t := 0) rfl (.cons (t := 1) rfl (.cons (t := 2) rfl (.cons (t := 8) rfl (.cons (t := 9) rfl (.cons (t := 20) rfl (.cons (t := 21) rfl (.cons (t := 22) rfl .nil)))))))) ?_
      refine swl_nil ?_
      have h63' : (oneE xb xo xt).1 = 0 := by simpa using h63
      refine then_n ⟨(i + 1, v8, v9'), ⟨⟨rfl, rfl, rfl, rfl, rfl, rfl, rfl, rfl, trivial⟩, ?_, h23'⟩, by show ps.length - (i + 1) < ps.length - i; omega⟩
      have e2 : outR (rs.take (i + 1)) = outR (rs.take i) := by rw [htk, outR_same (rs.take i) p h63']
      show Ent _ [own 51 2 v8 (outR (rs.take (i + 1))).length (ens (outR (rs.take (i + 1)))), own 70 4 v9' (cfR (rs.take (i + 1))).length (cfs (cfR (rs.take (i + 1)))), ro μ1]
      rw [e2]
      exact Split.ent' (by repeat (first | exact Split.nil | (apply Split.cons; (repeat (first | with_reducible exact Take.here | apply Take.there)))))
  · skip   -- 23 F
    have h23' := of_decide_eq_false h23
    obtain rfl : i = ps.length := by omega
    rw [← hrl, List.take_length]
    refine swp_exit ?_
    refine then_x ?_
    refine then_x ?_
    refine block_hit rfl ?_
    refine then_n ?_
    refine swp_seq ?_
    refine swp_region ?_
    refine s_pu (pu_move rfl) ?_
    refine s_pu (pu_move rfl) ?_
    refine s_pu (pu_assign rfl) ?_
    refine s_pu (pu_assign rfl) ?_
    refine swl_sub _ (.cons (t := 6) rfl (.cons (t := 7) rfl .nil)) ?_
    refine swl_nil ?_
    refine then_n ?_
    refine swp_ret ?_
    exact done_ret [own 51 2 v8 (outR rs).length (ens (outR rs)), own 70 4 v9 (cfR rs).length (cfs (cfR rs)), ro μ1] (.tmp rfl (.tmp rfl .nil)) ⟨v8, v9, μ1, hle, rfl, rfl⟩ (by repeat (first | exact Split.nil | (apply Split.cons; (repeat (first | with_reducible exact Take.here | apply Take.there)))))
end SX
namespace SX
open Go Go.Proofs
theorem u32s_k1 : U32s k1 ∧ U32s k2 ∧ U32s k3 := by
  refine ⟨?_, ?_, ?_⟩ <;> (intro e he; simp [k1, k2, k3] at he; rcases he with rfl | rfl | rfl <;> exact ⟨by decide, by decide⟩)
theorem u32s_k4 : U32s k4 ∧ U32s k5 ∧ U32s [] := by
  refine ⟨?_, ?_, ?_⟩
  · intro e he; simp [k4] at he; subst he; exact ⟨by decide, by decide⟩
  · intro e he; simp [k5] at he; subst he; exact ⟨by decide, by decide⟩
  · intro e he; cases he
theorem same_lit (μ : PH) (v : Value) (b : Nat) (la lb : List En) (ha : Row μ v 2 la.length (ens la)) (hm : lb.length ≤ maxLen) {cs : List Value} (hcs : cs = ens lb) : Spec Try.prog 33 [v, .slice (some ⟨b, 0, none⟩) lb.length lb.length] [blk b 51 cs, ro μ] (fun r L => r = .bool (decide (la = lb)) ∧ L = [ro μ]) := by
  subst hcs
  intro E w hh
  obtain ⟨μ', h1, h2, h3⟩ := hh.share
  have hr := row_of_blk (n := 2) (l := lb.length) h2 (by rw [flat_length enc1_len]) hm
  refine (same_spec μ' v _ la lb (ha.le h1) hr E w h3).mono ?_
  rintro x w' ⟨r, L', e1, ⟨e2, e3⟩, h4⟩
  subst e3
  exact ⟨r, _, e1, ⟨e2, rfl⟩, h4.ent (Ent.imp fun m hm k o hk => hm k o (h1 k o hk))⟩
set_option maxHeartbeats 4000000 in
theorem merges_spec : Spec Try.prog 25 [] [] (fun r L => r = .bool true ∧ L = []) := by
  refine Spec.of 63 Try.func25 rfl rfl rfl ?_
  refine swp_seq ?_
  refine swp_region ?_
  refine s_pu (pu_assign rfl) ?_
  refine swl_sub _ .nil ?_
  refine swl_nil ?_
  refine then_n ?_
  refine swp_seq ?_
  refine swp_region ?_
  refine s_pu (pu_bld (qs := [(0, _), (1, _)]) rfl) ?_
  refine s_pu (pu_bld (qs := [(0, _), (1, _)]) rfl) ?_
  refine s_pu (pu_bld (qs := [(0, _), (1, _)]) rfl) ?_
  refine s_ef (ef_bldS (qs := [(0, _), (1, _), (2, _)]) rfl rfl rfl) ?_
  intro b9
  refine s_pu (pu_bld (qs := [(0, _), (1, _)]) rfl) ?_
  refine s_pu (pu_bld (qs := [(0, _), (1, _)]) rfl) ?_
  refine s_pu (pu_bld (qs := [(0, _), (1, _)]) rfl) ?_
  refine s_ef (ef_bldS (qs := [(0, _), (1, _), (2, _)]) rfl rfl rfl) ?_
  intro b13
  refine s_pu (pu_bld (qs := [(0, _), (1, _)]) rfl) ?_
  refine s_pu (pu_bld (qs := [(0, _), (1, _)]) rfl) ?_
  refine s_ef (ef_bldS (qs := [(0, _), (1, _)]) rfl rfl rfl) ?_
  intro b16
  refine swl_ent ent_ro0 ?_
  refine swl_share (b := b9) (μ := fun _ => none) (by repeat (first | exact Split.nil | (apply Split.cons; (repeat (first | with_reducible exact Take.here | apply Take.there))))) fun μ1 _ g9 => ?_
  refine swl_share (b := b13) (μ := μ1) (by repeat (first | exact Split.nil | (apply Split.cons; (repeat (first | with_reducible exact Take.here | apply Take.there))))) fun μ2 l2 g13 => ?_
  refine swl_share (b := b16) (μ := μ2) (by repeat (first | exact Split.nil | (apply Split.cons; (repeat (first | with_reducible exact Take.here | apply Take.there))))) fun μ3 l3 g16 => ?_
  have r1 : Row μ3 (.slice (some ⟨b9, 0, none⟩) 3 3) 2 k1.length (ens k1) := row_of_blk (l3 _ _ (l2 _ _ g9)) rfl (by decide)
  have r2 : Row μ3 (.slice (some ⟨b13, 0, none⟩) 3 3) 2 k2.length (ens k2) := row_of_blk (l3 _ _ g13) rfl (by decide)
  have r3 : Row μ3 (.slice (some ⟨b16, 0, none⟩) 2 2) 2 k3.length (ens k3) := row_of_blk g16 rfl (by decide)
  refine s_ef (ef_fn (three_spec μ3 _ _ _ k1 k2 k3 r1 r2 r3 ⟨by decide, by decide, by decide⟩ u32s_k1) rfl rfl (by repeat (first | exact Split.nil | (apply Split.cons; (repeat (first | with_reducible exact Take.here | apply Take.there)))))) ?_
  rintro v17 L1 ⟨v1, v2, μ4, l4, rfl, rfl⟩
  refine swl_app ?_
  rw [out_k1, cf_k1]
  refine swl_share_own (v := v1) (μ := μ4) (by repeat (first | exact Split.nil | (apply Split.cons; (repeat (first | with_reducible exact Take.here | apply Take.there))))) fun μ5 l5 rt => ?_
  refine swl_share_own (v := v2) (μ := μ5) (by repeat (first | exact Split.nil | (apply Split.cons; (repeat (first | with_reducible exact Take.here | apply Take.there))))) fun μ6 l6 rl => ?_
  refine s_pu (pu_move rfl) ?_
  first | refine s_pu (pu_extractL rfl) ?_ | refine s_pu (pu_extract rfl rfl) ?_
  first | refine s_pu (pu_extractL rfl) ?_ | refine s_pu (pu_extract rfl rfl) ?_
  refine s_pu (pu_assign rfl) ?_
  refine s_pu (pu_assign rfl) ?_
  refine swl_sub _ (.cons (t := 1) rfl (.cons (t := 2) rfl .nil)) ?_
  refine swl_nil ?_
  refine then_n ?_
  refine swp_seq ?_
  refine swp_region ?_
  refine s_pu (pu_bld (qs := [(0, _), (1, _)]) rfl) ?_
  refine s_ef (ef_bldS (qs := [(0, _)]) rfl rfl rfl) ?_
  intro b22
  refine s_pu (pu_bld (qs := [(0, _), (1, _)]) rfl) ?_
  refine s_ef (ef_bldS (qs := [(0, _)]) rfl rfl rfl) ?_
  intro b24
  refine swl_share (b := b22) (μ := μ6) (by repeat (first | exact Split.nil | (apply Split.cons; (repeat (first | with_reducible exact Take.here | apply Take.there))))) fun μ7 l7 g22 => ?_
  refine swl_share (b := b24) (μ := μ7) (by repeat (first | exact Split.nil | (apply Split.cons; (repeat (first | with_reducible exact Take.here | apply Take.there))))) fun μ8 l8 g24 => ?_
  have r4 : Row μ8 (.slice (some ⟨b22, 0, none⟩) 1 1) 2 k4.length (ens k4) := row_of_blk (l8 _ _ g22) rfl (by decide)
  have r5 : Row μ8 (.slice (some ⟨b24, 0, none⟩) 1 1) 2 k5.length (ens k5) := row_of_blk g24 rfl (by decide)
  refine s_ef (ef_fn (three_spec μ8 _ _ _ k4 k5 [] r4 r5 (Row.nil _ _) ⟨by decide, by decide, by decide⟩ u32s_k4) rfl rfl (by repeat (first | exact Split.nil | (apply Split.cons; (repeat (first | with_reducible exact Take.here | apply Take.there)))))) ?_
  rintro v25 L1 ⟨v3, v4, μ9, l9, rfl, rfl⟩
  refine swl_app ?_
  rw [out_k4, cf_k4]
  refine swl_share_own (v := v3) (μ := μ9) (by repeat (first | exact Split.nil | (apply Split.cons; (repeat (first | with_reducible exact Take.here | apply Take.there))))) fun μ10 l10 ru => ?_
  refine swl_share_own (v := v4) (μ := μ10) (by repeat (first | exact Split.nil | (apply Split.cons; (repeat (first | with_reducible exact Take.here | apply Take.there))))) fun μ11 l11 rm => ?_
  refine s_pu (pu_move rfl) ?_
  first | refine s_pu (pu_extractL rfl) ?_ | refine s_pu (pu_extract rfl rfl) ?_
  first | refine s_pu (pu_extractL rfl) ?_ | refine s_pu (pu_extract rfl rfl) ?_
  refine s_pu (pu_assign rfl) ?_
  refine s_pu (pu_assign rfl) ?_
  refine swl_sub _ (.cons (t := 1) rfl (.cons (t := 2) rfl (.cons (t := 3) rfl (.cons (t := 4) rfl .nil)))) ?_
  refine swl_nil ?_
  refine then_n ?_
  refine swp_seq ?_
  have rt' := ((((((rt.le l6).le l7).le l8).le l9).le l10).le l11)
  have rl' := (((((rl.le l7).le l8).le l9).le l10).le l11)
  have ru' := ru.le l11
  obtain ⟨ub, uo, uc, huv, hura, hu0, hu1⟩ := tree_at ru' (i := 0) rfl
  obtain ⟨mb, mo, mc, hmv, _, _, hmr⟩ := rm.pos (by decide)
  have hm0 := hmr.elem (f := encC) (n := 4) (fun _ => rfl) (i := 0) (e := (⟨#[97]⟩, 1, 2, 0)) rfl
  refine swp_draw [19, 31] _ [] (by simp only [List.append_nil]; exact Ent.refl _) (by kernel_rfl) ?_
  refine d_pu 0 rfl (pu_move rfl) (by kernel_rfl) (by kernel_rfl) (by kernel_rfl) ?_
  refine d_pu 1 rfl (pu_bld (qs := [(0, _), (1, _)]) rfl) (by kernel_rfl) (by kernel_rfl) (by kernel_rfl) ?_
  refine d_pu 2 rfl (pu_bld (qs := [(0, _), (1, _)]) rfl) (by kernel_rfl) (by kernel_rfl) (by kernel_rfl) ?_
  refine d_eft 3 rfl (by kernel_rfl) (ef_bldS (qs := [(0, _), (1, _)]) rfl rfl rfl) ?_
  intro b31
  refine ⟨_, Split.ent (by repeat (first | exact Split.nil | (apply Split.cons; (repeat (first | with_reducible exact Take.here | apply Take.there))))), ?_⟩
  refine d_eft 4 rfl (by kernel_rfl) (ef_fn (same_lit μ11 v1 b31 [(⟨#[97]⟩, 4), (⟨#[98]⟩, 5)] [(⟨#[97]⟩, 4), (⟨#[98]⟩, 5)] rt' (by decide) (cs := [.string ⟨#[97]⟩, .int .u32 4, .string ⟨#[98]⟩, .int .u32 5]) rfl) rfl rfl (by repeat (first | exact Split.nil | (apply Split.cons; (repeat (first | with_reducible exact Take.here | apply Take.there)))))) ?_
  rintro v32 L1 ⟨rfl, rfl⟩
  refine ⟨_, ent_appC (Split.ent (by repeat (first | exact Split.nil | (apply Split.cons; (repeat (first | with_reducible exact Take.here | apply Take.there)))))), ?_⟩
  refine d_pu 5 rfl (pu_move rfl) (by kernel_rfl) (by kernel_rfl) (by kernel_rfl) ?_
  refine d_split 33 rfl (fun h33 => ?_) (fun h33 => by simp at h33)
  refine d_pu_on 6 rfl rfl rfl (pu_move rfl) (by kernel_rfl) (by kernel_rfl) (by kernel_rfl) ?_
  refine d_pu_on 7 rfl rfl rfl (pu_len_row rl' rfl) (by kernel_rfl) (by kernel_rfl) (by kernel_rfl) ?_
  refine d_pu_on 8 rfl rfl rfl (pu_eql rfl rfl) (by kernel_rfl) (by kernel_rfl) (by kernel_rfl) ?_
  first | refine d_pu 9 rfl (pu_pick_t rfl rfl) (by kernel_rfl) (by kernel_rfl) (by kernel_rfl) ?_ | refine d_pu 9 rfl (pu_pick_f rfl rfl) (by kernel_rfl) (by kernel_rfl) (by kernel_rfl) ?_
  refine d_pu 10 rfl (pu_move rfl) (by kernel_rfl) (by kernel_rfl) (by kernel_rfl) ?_
  refine d_split 38 rfl (fun h38 => ?_) (fun h38 => by simp at h38)
  refine d_pu_on 11 rfl rfl rfl (pu_move rfl) (by kernel_rfl) (by kernel_rfl) (by kernel_rfl) ?_
  refine d_pu_on 12 rfl rfl rfl (pu_len_row ru' rfl) (by kernel_rfl) (by kernel_rfl) (by kernel_rfl) ?_
  refine d_pu_on 13 rfl rfl rfl (pu_eql rfl rfl) (by kernel_rfl) (by kernel_rfl) (by kernel_rfl) ?_
  first | refine d_pu 14 rfl (pu_pick_t rfl rfl) (by kernel_rfl) (by kernel_rfl) (by kernel_rfl) ?_ | refine d_pu 14 rfl (pu_pick_f rfl rfl) (by kernel_rfl) (by kernel_rfl) (by kernel_rfl) ?_
  refine d_pu 15 rfl (pu_move rfl) (by kernel_rfl) (by kernel_rfl) (by kernel_rfl) ?_
  refine d_split 43 rfl (fun h43 => ?_) (fun h43 => by simp at h43)
  refine d_pu_on 16 rfl rfl rfl (pu_move rfl) (by kernel_rfl) (by kernel_rfl) (by kernel_rfl) ?_
  refine d_pu_on 17 rfl rfl rfl (pu_indexAddr (uo + 0 * 2) (congrArg some huv) rfl (by omega) (by decide) (by rfl)) (by kernel_rfl) (by kernel_rfl) (by kernel_rfl) ?_
  first | refine d_pu_on 18 rfl rfl rfl (pu_fieldAddr0 rfl) (by kernel_rfl) (by kernel_rfl) (by kernel_rfl) ?_ | refine d_pu_on 18 rfl rfl rfl (pu_fieldAddr rfl) (by kernel_rfl) (by kernel_rfl) (by kernel_rfl) ?_
  refine d_rd_on 19 rfl rfl rfl (rd_ro rfl hu1) rfl (by kernel_rfl) (by kernel_rfl) (by kernel_rfl) ?_
  refine d_amb [20] (by kernel_rfl) rfl ?_
  refine dA_ef 20 rfl (GOn.some rfl rfl) (ef_fn (rmark_specZ (b := 1) (o := 2) (t := 0) ⟨by decide, by decide⟩ ⟨by decide, by decide⟩ ⟨by decide, by decide⟩) rfl rfl (by repeat (first | exact Split.nil | (apply Split.cons; (repeat (first | with_reducible exact Take.here | apply Take.there)))))) ?_
  rintro v48 L1 ⟨rfl, rfl⟩
  refine ⟨_, ent_appC (Split.ent (by repeat (first | exact Split.nil | (apply Split.cons; (repeat (first | with_reducible exact Take.here | apply Take.there)))))), ?_⟩
  refine d_pu_on 21 rfl rfl rfl (pu_eql rfl rfl) (by kernel_rfl) (by kernel_rfl) (by kernel_rfl) ?_
  first | refine d_pu 22 rfl (pu_pick_t rfl rfl) (by kernel_rfl) (by kernel_rfl) (by kernel_rfl) ?_ | refine d_pu 22 rfl (pu_pick_f rfl rfl) (by kernel_rfl) (by kernel_rfl) (by kernel_rfl) ?_
  refine d_pu 23 rfl (pu_move rfl) (by kernel_rfl) (by kernel_rfl) (by kernel_rfl) ?_
  refine d_split 51 rfl (fun h51 => ?_) (fun h51 => by simp at h51)
  refine d_pu_on 24 rfl rfl rfl (pu_move rfl) (by kernel_rfl) (by kernel_rfl) (by kernel_rfl) ?_
  refine d_pu_on 25 rfl rfl rfl (pu_len_row rm rfl) (by kernel_rfl) (by kernel_rfl) (by kernel_rfl) ?_
  refine d_pu_on 26 rfl rfl rfl (pu_eql rfl rfl) (by kernel_rfl) (by kernel_rfl) (by kernel_rfl) ?_
  first | refine d_pu 27 rfl (pu_pick_t rfl rfl) (by kernel_rfl) (by kernel_rfl) (by kernel_rfl) ?_ | refine d_pu 27 rfl (pu_pick_f rfl rfl) (by kernel_rfl) (by kernel_rfl) (by kernel_rfl) ?_
  refine d_pu 28 rfl (pu_move rfl) (by kernel_rfl) (by kernel_rfl) (by kernel_rfl) ?_
  refine d_split 56 rfl (fun h56 => ?_) (fun h56 => by simp at h56)
  refine d_pu_on 29 rfl rfl rfl (pu_move rfl) (by kernel_rfl) (by kernel_rfl) (by kernel_rfl) ?_
  refine d_pu_on 30 rfl rfl rfl (pu_indexAddr (mo + 0 * 4) (congrArg some hmv) rfl (by omega) (by decide) (by rfl)) (by kernel_rfl) (by kernel_rfl) (by kernel_rfl) ?_
  refine d_rd_on 31 rfl rfl rfl (rd_roA rfl rfl hm0) rfl (by kernel_rfl) (by kernel_rfl) (by kernel_rfl) ?_
  refine d_pu_on 32 rfl rfl rfl (pu_bld (qs := [(0, _), (1, _), (2, _)]) rfl) (by kernel_rfl) (by kernel_rfl) (by kernel_rfl) ?_
  refine d_pu_on 33 rfl rfl rfl (pu_stN_eq (vs := encC (⟨#[97]⟩, 1, 2, 0)) (us := [.string ⟨#[97]⟩, .int .u32 1, .int .u32 2, .int .u32 0]) rfl rfl (.str (.int (.int (.int .nil))))) (by kernel_rfl) (by kernel_rfl) (by kernel_rfl) ?_
  first | refine d_pu 34 rfl (pu_pick_t rfl rfl) (by kernel_rfl) (by kernel_rfl) (by kernel_rfl) ?_ | refine d_pu 34 rfl (pu_pick_f rfl rfl) (by kernel_rfl) (by kernel_rfl) (by kernel_rfl) ?_
  refine d_pu 35 rfl (pu_assign rfl) (by kernel_rfl) (by kernel_rfl) (by kernel_rfl) ?_
  refine d_sub _ (.cons (t := 0) rfl .nil) ?_
  first | refine d_nilt (by kernel_rfl) ?_ | refine d_nilf (by kernel_rfl) ?_
  refine then_n ?_
  refine swp_ret ?_
  exact done_ret [] (.tmp rfl .nil) ⟨(by simp [strEq_refl]; rfl), rfl⟩ (by repeat (first | exact Split.nil | (apply Split.cons; (repeat (first | with_reducible exact Take.here | apply Take.there)))))
end SX
namespace SX
open Go Go.Proofs
end SX
namespace SX
open Go Go.Proofs
end SX
namespace SX
open Go Go.Proofs
/-- one round of the law's table -/
structure Side (μ : PH) (va vb vc vd : Value) (a b c d : List En) : Prop where
  ha : Row μ va 2 a.length (ens a)
  hb : Row μ vb 2 b.length (ens b)
  hc : Row μ vc 2 c.length (ens c)
  hd : Row μ vd 2 d.length (ens d)
  la : a.length ≤ 100 ∧ b.length ≤ 100 ∧ c.length ≤ 100
  us : U32s a ∧ U32s b ∧ U32s c
  out : outR (rowsB a b c) = d ∧ cfR (rowsB a b c) = []
theorem Side.le {μ μ' : PH} {va vb vc vd : Value} {a b c d : List En} (h : Side μ va vb vc vd a b c d) (k : Le μ μ') : Side μ' va vb vc vd a b c d :=
  ⟨h.ha.le k, h.hb.le k, h.hc.le k, h.hd.le k, h.la, h.us, h.out⟩
theorem conf_at {μ : PH} {v : Value} {l : List Cf} (h : Row μ v 4 l.length (cfs l)) {i : Nat} {e : Cf} (hi : l[i]? = some e) : ∃ b off cap, v = .slice (some ⟨b, off, none⟩) l.length cap ∧ CellAt μ b (off + i * 4) (.string e.1) ∧ CellAt μ b (off + i * 4 + 1) (.int .u32 e.2.1) ∧ CellAt μ b (off + i * 4 + 2) (.int .u32 e.2.2.1) ∧ CellAt μ b (off + i * 4 + 3) (.int .u32 e.2.2.2) := by
  have hlt := (List.getElem?_eq_some_iff.1 hi).1
  obtain ⟨b, off, cap, hv, _, _, hr⟩ := h.pos (by omega)
  have hra := hr.elem (f := encC) (n := 4) (fun _ => rfl) hi
  exact ⟨b, off, cap, hv, hra 0 _ rfl, hra 1 _ rfl, hra 2 _ rfl, hra 3 _ rfl⟩
end SX
