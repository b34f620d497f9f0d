/- A part of the proof: walks of the program's functions, and the rules by which they go. -/
import Derived.Test.YtkldhmbmahgnjaaGreatDoorB567907ac
import Derived.Test.YtkldhmbmahgnjaaGreatDoorBd87140dc
namespace SX
open Go Go.Proofs
theorem ens_take {t : List En} {i : Nat} {e : En} (h : t[i]? = some e) : ens (t.take (i + 1)) = ens (t.take i) ++ enc1 e := by
  rw [List.take_add_one, h, ens, ens, List.flatMap_append]; rfl
theorem ens_app (a b : List En) : ens (a ++ b) = ens a ++ ens b := List.flatMap_append
theorem ens_drop (t : List En) (i : Nat) : ens (t.drop i) = (ens t).drop (i * 2) := by
  induction t generalizing i with
  | nil => simp [ens]
  | cons e t ih =>
    cases i with
    | zero => rfl
    | succ i =>
      rw [List.drop_succ_cons, ih, Nat.succ_mul, Nat.add_comm (i * 2) 2, ens, ens, List.flatMap_cons, ← List.drop_drop]; rfl
set_option maxHeartbeats 2000000 in
theorem put_spec (μ : PH) (v : Value) (t : List En) (p : ByteArray) (b : Int) (h : Row μ v 2 t.length (ens t)) (hsz : t.length ≤ 1048576) (hps : p.size ≤ 9223372036854775807) :
  Spec Tryz.prog 41 [v, .string p, .int .u32 b] [ro μ] (fun r L => L = [own 49 2 r (putE t p b).length (ens (putE t p b)), ro μ]) := by
 refine Spec.of 69 Tryz.func41 rfl rfl rfl ?_
 refine swp_seq ?_
 refine swp_region ?_
 refine s_pu (pu_assign rfl) ?_
 refine swl_sub _ (.cons (t := 0) rfl (.cons (t := 1) rfl (.cons (t := 2) rfl .nil))) ?_
 refine swl_nil ?_
 refine then_n ?_
 refine swp_seq ?_
 refine swp_region ?_
 refine s_pu (pu_move rfl) ?_
 refine s_pu (pu_len_row h rfl) ?_
 refine s_pu (pu_add_as ((t.length + 1 : Nat) : Int) rfl rfl (by omega) (by omega) (by omega)) ?_
 refine s_ef (ef_make0 (e := 49) (n := 2) rfl rfl (by omega) (by omega) (by simp only [maxLen]; omega)) ?_
 rintro v12
 skip
 refine s_pu (pu_assign rfl) ?_
 refine swl_sub _ (.cons (t := 0) rfl (.cons (t := 1) rfl (.cons (t := 2) rfl (.cons (t := 7) rfl .nil)))) ?_
 refine swl_nil ?_
 refine then_n ?_
 refine swp_seq ?_
 refine swp_seq ?_
 refine swp_region ?_
 refine s_pu (pu_move rfl) ?_
 refine s_pu (pu_strlen rfl) ?_
 refine s_pu (pu_gtr rfl rfl) ?_
 refine swl_sub _ (.cons (t := 0) rfl (.cons (t := 1) rfl (.cons (t := 2) rfl (.cons (t := 7) rfl (.cons (t := 15) rfl .nil))))) ?_
 refine swl_nil ?_
 refine then_n ?_
 refine swp_cond (b := _) rfl (fun h15 => ?_) (fun h15 => ?_)
 ·skip
  refine swp_seq ?_
  refine swp_region ?_
  refine s_pu (pu_move rfl) ?_
  refine s_pu (pu_move rfl) ?_
  refine s_ef (ef_append_ro h rfl rfl (by repeat (first | exact Split.nil | (apply Split.cons; (repeat (first | with_reducible exact Take.here | apply Take.there))))) (ens_one _) (by simp only [maxLen]; omega) (by omega)) ?_
  rintro v18 -
  rw [Nat.zero_add, List.nil_append]
  refine s_pu (pu_assign rfl) ?_
  refine swl_sub _ (.cons (t := 6) rfl .nil) ?_
  refine swl_nil ?_
  refine then_n ?_
  refine swp_ret ?_
  refine then_r ?_
  have h15' : 255 < p.size := by have := of_decide_eq_true h15; omega
  have e : putE t p b = t := by unfold putE; rw [if_pos h15']
  exact done_ret [own 49 2 v18 t.length (ens t), ro μ] (.tmp rfl .nil) (by rw [e]; rfl) (by repeat (first | exact Split.nil | (apply Split.cons; (repeat (first | with_reducible exact Take.here | apply Take.there)))))
 ·skip
  have h15' : ¬ 255 < p.size := by have := of_decide_eq_false h15; omega
  refine swp_skip ?_
  refine then_n ?_
  refine swp_seq ?_
  refine swp_region ?_
  refine s_pu (pu_assign rfl) ?_
  refine swl_sub _ (.cons (t := 0) rfl (.cons (t := 1) rfl (.cons (t := 2) rfl (.cons (t := 7) rfl (.cons (t := 8) rfl .nil))))) ?_
  refine swl_nil ?_
  refine then_n ?_
  refine swp_cut (fun env L => ∃ i v7, Sub env [(0, v), (1, .string p), (2, .int .u32 b), (7, v7), (8, .int .i64 (i : Nat))] ∧ L = [own 49 2 v7 i (ens (t.take i)), ro μ] ∧ i ≤ t.length ∧ t.takeWhile (ltP p) = t.take i ∧ t.dropWhile (ltP p) = t.drop i) ?_ ?_
  ·skip
   refine swp_block ?_
   refine swp_loop (ι := Nat × Value) (fun k env L => env = [(0, v), (1, .string p), (2, .int .u32 b), (7, k.2), (8, .int .i64 (k.1 : Nat))] ∧ L = [own 49 2 k.2 k.1 (ens (t.take k.1)), ro μ] ∧ k.1 ≤ t.length ∧ (t.take k.1).all (ltP p) = true) (fun k => t.length - k.1) (0, v12) ⟨rfl, rfl, Nat.zero_le _, rfl⟩ ?_
   rintro ⟨i, v7⟩ env L ⟨rfl, rfl, hi, hall⟩
   simp only [] at hi hall
   dsimp only
   refine swp_seq ?_
   refine swp_seq ?_
   refine swp_region ?_
   refine s_pu (pu_move rfl) ?_
   refine s_pu (pu_move rfl) ?_
   refine s_pu (pu_len_row h rfl) ?_
   refine s_pu (pu_lss rfl rfl) ?_
   refine s_pu (pu_move rfl) ?_
   refine s_split 23 rfl (fun h23 => ?_) (fun h23 => ?_)
   ·skip
    have h23' : i < t.length := by have := of_decide_eq_true h23; omega
    obtain ⟨e, he⟩ : ∃ e, t[i]? = some e := ⟨_, List.getElem?_eq_getElem h23'⟩
    obtain ⟨gb, off, cap, hv, hra, hc0, hc1⟩ := tree_at h he
    refine s_on rfl rfl ?_
    refine s_pu (pu_move rfl) ?_
    refine s_on rfl rfl ?_
    refine s_pu (pu_move rfl) ?_
    refine s_on rfl rfl ?_
    refine s_pu (pu_indexAddr (off + i * 2) (congrArg some hv) rfl (by omega) (by omega) (by rw [Int.toNat_natCast])) ?_
    refine s_on rfl rfl ?_
    first | refine s_pu (pu_fieldAddr0 rfl) ?_ | refine s_pu (pu_fieldAddr rfl) ?_
    refine s_on rfl rfl ?_
    refine s_rd (rd_ro rfl hc0) ?_
    refine s_on rfl rfl ?_
    refine s_pu (pu_move rfl) ?_
    refine s_on rfl rfl ?_
    refine s_pu (pu_str_lss rfl rfl) ?_
    first | refine s_pu (pu_pick_t rfl rfl) ?_ | refine s_pu (pu_pick_f rfl rfl) ?_
    refine swl_sub _ (.cons (t := 0) rfl (.cons (t := 1) rfl (.cons (t := 2) rfl (.cons (t := 7) rfl (.cons (t := 8) rfl (.cons (t := 31) rfl .nil)))))) ?_
    refine swl_nil ?_
    refine then_n ?_
    refine swp_cond (b := _) rfl (fun h31 => ?_) (fun h31 => ?_)
    ·skip
     refine swp_skip ?_
     refine then_n ?_
     refine swp_block ?_
     refine swp_seq ?_
     refine swp_region ?_
     refine s_pu (pu_move rfl) ?_
     refine s_pu (pu_move rfl) ?_
     refine s_pu (pu_move rfl) ?_
     refine s_pu (pu_indexAddr (off + i * 2) (congrArg some hv) rfl (by omega) (by omega) (by rw [Int.toNat_natCast])) ?_
     refine s_rd (rd_roA rfl rfl hra) ?_
     refine s_ef (ef_bldS (qs := [(0, _)]) rfl rfl rfl) ?_
     intro b37
     refine s_ef (ef_append_lit (l := i) (m := 1) rfl rfl (by repeat (first | exact Split.nil | (apply Split.cons; (repeat (first | with_reducible exact Take.here | apply Take.there))))) (by simp only [maxLen]; omega) (by omega)) ?_
     rintro v38 -
     skip
     refine s_pu (pu_assign rfl) ?_
     refine swl_sub _ (.cons (t := 0) rfl (.cons (t := 1) rfl (.cons (t := 2) rfl (.cons (t := 7) rfl (.cons (t := 8) rfl .nil))))) ?_
     refine swl_nil ?_
     refine then_n ?_
     refine swp_region ?_
     refine s_pu (pu_move rfl) ?_
     refine s_pu (pu_add_as ((i + 1 : Nat) : Int) rfl rfl (by omega) (by omega) (by omega)) ?_
     refine s_pu (pu_assign rfl) ?_
     refine swl_sub _ (.cons (t := 0) rfl (.cons (t := 1) rfl (.cons (t := 2) rfl (.cons (t := 7) rfl (.cons (t := 8) rfl .nil))))) ?_
     refine swl_nil ?_
     refine block_n ?_
     refine then_n ⟨(i + 1, v38), ⟨rfl, by rw [ens_take he], h23', ?_⟩, by show t.length - (i + 1) < t.length - i; omega⟩
     show (t.take (i + 1)).all (ltP p) = true
     rw [List.take_add_one, he, List.all_append, hall]
     simp [ltP, h31]
    ·skip
     refine swp_exit ?_
     refine then_x ?_
     refine then_x ?_
     refine block_hit rfl ?_
     obtain ⟨k1, k2⟩ := while_at (p := p) hi hall (fun e' he' => by rw [he] at he'; cases he'; exact h31)
     exact then_n ⟨i, v7, ⟨rfl, rfl, rfl, rfl, rfl, trivial⟩, rfl, hi, k1, k2⟩
   ·skip
    refine s_off rfl rfl rfl ?_
    refine s_off rfl rfl rfl ?_
    refine s_off rfl rfl rfl ?_
    refine s_off rfl rfl rfl ?_
    refine s_off rfl rfl rfl ?_
    refine s_off rfl rfl rfl ?_
    refine s_off rfl rfl rfl ?_
    first | refine s_pu (pu_pick_t rfl rfl) ?_ | refine s_pu (pu_pick_f rfl rfl) ?_
    refine swl_sub _ (.cons (t := 0) rfl (.cons (t := 1) rfl (.cons (t := 2) rfl (.cons (t := 7) rfl (.cons (t := 8) rfl (.cons (t := 31) rfl .nil)))))) ?_
    refine swl_nil ?_
    refine then_n ?_
    refine swp_cond (b := _) rfl (fun h31 => by cases h31) (fun h31 => ?_)
    refine swp_exit ?_
    refine then_x ?_
    refine then_x ?_
    refine block_hit rfl ?_
    have h23' := of_decide_eq_false h23
    obtain ⟨k1, k2⟩ := while_at (p := p) hi hall (fun e' he' => by have := (List.getElem?_eq_some_iff.1 he').1; omega)
    exact then_n ⟨i, v7, ⟨rfl, rfl, rfl, rfl, rfl, trivial⟩, rfl, hi, k1, k2⟩
  rintro env L ⟨i, v7, hsub, rfl, hi, k1, k2⟩
  refine swp_sub _ hsub ?_
  clear hsub env
  refine swp_cut (fun env L => ∃ v7, Sub env [(0, v), (1, .string p), (7, v7), (8, .int .i64 (i : Nat))] ∧ L = [own 49 2 v7 (t.take i ++ (if b = 0 then [] else [(p, b)])).length (ens (t.take i ++ (if b = 0 then [] else [(p, b)]))), ro μ]) ?_ ?_
  ·skip
   refine swp_seq ?_
   refine swp_region ?_
   refine s_pu (pu_move rfl) ?_
   refine s_pu (pu_neq rfl rfl) ?_
   refine swl_sub _ (.cons (t := 0) rfl (.cons (t := 1) rfl (.cons (t := 2) rfl (.cons (t := 7) rfl (.cons (t := 8) rfl (.cons (t := 42) rfl .nil)))))) ?_
   refine swl_nil ?_
   refine then_n ?_
   refine swp_cond (b := _) rfl (fun h42 => ?_) (fun h42 => ?_)
   ·skip
    refine swp_region ?_
    refine s_pu (pu_move rfl) ?_
    refine s_pu (pu_move rfl) ?_
    refine s_pu (pu_move rfl) ?_
    refine s_pu (pu_bld (qs := [(0, _), (1, _)]) rfl) ?_
    refine s_ef (ef_bldS (qs := [(0, _)]) rfl rfl rfl) ?_
    intro b47
    refine s_ef (ef_append_lit (l := i) (m := 1) rfl rfl (by repeat (first | exact Split.nil | (apply Split.cons; (repeat (first | with_reducible exact Take.here | apply Take.there))))) (by simp only [maxLen]; omega) (by omega)) ?_
    rintro v48 -
    skip
    refine s_pu (pu_assign rfl) ?_
    refine swl_sub _ (.cons (t := 0) rfl (.cons (t := 1) rfl (.cons (t := 7) rfl (.cons (t := 8) rfl .nil)))) ?_
    refine swl_nil ?_
    have hb : b ≠ 0 := by simpa using h42
    refine then_n ⟨v48, ⟨rfl, rfl, rfl, rfl, trivial⟩, ?_⟩
    rw [if_neg hb, ens_app, List.length_append, List.length_take, Nat.min_eq_left hi]; rfl
   ·skip
    refine swp_skip ?_
    have hb : b = 0 := by simpa using h42
    refine then_n ⟨v7, ⟨rfl, rfl, rfl, rfl, trivial⟩, ?_⟩
    rw [if_pos hb, List.append_nil, List.length_take, Nat.min_eq_left hi]
  rintro env L ⟨v7, hsub, rfl⟩
  refine swp_sub _ hsub ?_
  clear hsub env
  have hmid : (t.take i ++ (if b = 0 then [] else [(p, b)])).length ≤ t.length + 1 := by
   rw [List.length_append, List.length_take]; split <;> simp <;> omega
  generalize hpre : t.take i ++ (if b = 0 then [] else [(p, b)]) = pre at hmid
  refine swp_cut (fun env L => ∃ j, Sub env [(0, v), (7, v7), (8, .int .i64 (j : Nat))] ∧ L = [own 49 2 v7 pre.length (ens pre), ro μ] ∧ j ≤ t.length ∧ cutE p (t.drop i) = t.drop j) ?_ ?_
  ·skip
   refine swp_seq ?_
   refine swp_region ?_
   refine s_pu (pu_move rfl) ?_
   refine s_pu (pu_move rfl) ?_
   refine s_pu (pu_len_row h rfl) ?_
   refine s_pu (pu_lss rfl rfl) ?_
   refine s_pu (pu_move rfl) ?_
   refine s_split 53 rfl (fun h53 => ?_) (fun h53 => ?_)
   ·skip
    have h53' : i < t.length := by have := of_decide_eq_true h53; omega
    obtain ⟨e, he⟩ : ∃ e, t[i]? = some e := ⟨_, List.getElem?_eq_getElem h53'⟩
    obtain ⟨gb, off, cap, hv, hra, hc0, hc1⟩ := tree_at h he
    have hdr : t.drop i = e :: t.drop (i + 1) := by
     rw [List.drop_eq_getElem_cons h53']; congr 1; rw [List.getElem?_eq_getElem h53'] at he; exact Option.some.inj he
    refine s_on rfl rfl ?_
    refine s_pu (pu_move rfl) ?_
    refine s_on rfl rfl ?_
    refine s_pu (pu_move rfl) ?_
    refine s_on rfl rfl ?_
    refine s_pu (pu_indexAddr (off + i * 2) (congrArg some hv) rfl (by omega) (by omega) (by rw [Int.toNat_natCast])) ?_
    refine s_on rfl rfl ?_
    first | refine s_pu (pu_fieldAddr0 rfl) ?_ | refine s_pu (pu_fieldAddr rfl) ?_
    refine s_on rfl rfl ?_
    refine s_rd (rd_ro rfl hc0) ?_
    refine s_on rfl rfl ?_
    refine s_pu (pu_move rfl) ?_
    refine s_on rfl rfl ?_
    refine s_pu (pu_str_eql rfl rfl) ?_
    first | refine s_pu (pu_pick_t rfl rfl) ?_ | refine s_pu (pu_pick_f rfl rfl) ?_
    refine swl_sub _ (.cons (t := 0) rfl (.cons (t := 7) rfl (.cons (t := 8) rfl (.cons (t := 61) rfl .nil)))) ?_
    refine swl_nil ?_
    refine then_n ?_
    refine swp_cond (b := _) rfl (fun h61 => ?_) (fun h61 => ?_)
    ·skip
     refine swp_region ?_
     refine s_pu (pu_move rfl) ?_
     refine s_pu (pu_add_as ((i + 1 : Nat) : Int) rfl rfl (by omega) (by omega) (by omega)) ?_
     refine s_pu (pu_assign rfl) ?_
     refine swl_sub _ (.cons (t := 0) rfl (.cons (t := 7) rfl (.cons (t := 8) rfl .nil))) ?_
     refine swl_nil ?_
     refine then_n ⟨i + 1, ⟨rfl, rfl, rfl, trivial⟩, rfl, h53', ?_⟩
     rw [hdr, cutE_cons, if_pos h61]
    ·skip
     refine swp_skip ?_
     refine then_n ⟨i, ⟨rfl, rfl, rfl, trivial⟩, rfl, hi, ?_⟩
     rw [hdr, cutE_cons, if_neg (by rw [h61]; exact Bool.false_ne_true)]
   ·skip
    refine s_off rfl rfl rfl ?_
    refine s_off rfl rfl rfl ?_
    refine s_off rfl rfl rfl ?_
    refine s_off rfl rfl rfl ?_
    refine s_off rfl rfl rfl ?_
    refine s_off rfl rfl rfl ?_
    refine s_off rfl rfl rfl ?_
    first | refine s_pu (pu_pick_t rfl rfl) ?_ | refine s_pu (pu_pick_f rfl rfl) ?_
    refine swl_sub _ (.cons (t := 0) rfl (.cons (t := 7) rfl (.cons (t := 8) rfl (.cons (t := 61) rfl .nil)))) ?_
    refine swl_nil ?_
    refine then_n ?_
    refine swp_cond (b := _) rfl (fun h61 => by cases h61) (fun h61 => ?_)
    refine swp_skip ?_
    have h53' := of_decide_eq_false h53
    refine then_n ⟨i, ⟨rfl, rfl, rfl, trivial⟩, rfl, hi, ?_⟩
    rw [List.drop_eq_nil_of_le (by omega)]; rfl
  rintro env L ⟨j, hsub, rfl, hj, hcut⟩
  refine swp_sub _ hsub ?_
  clear hsub env
  obtain ⟨vlo, hlo1, hlo2⟩ := Row.lo (P := Tryz.prog) (t := 35) h j hj
  have hdl : t.length - j = (t.drop j).length := by rw [List.length_drop]
  rw [← ens_drop] at hlo1
  have hput : putE t p b = pre ++ t.drop j := by
   unfold putE
   rw [if_neg h15', k1, k2, hpre, hcut]
  refine swp_seq ?_
  refine swp_region ?_
  refine s_pu (pu_move rfl) ?_
  refine s_pu (pu_move rfl) ?_
  refine s_pu (pu_move rfl) ?_
  refine s_pu (hlo2 _ _ _ .i64 _ rfl rfl rfl) ?_
  refine s_ef (ef_append_ro hlo1 rfl rfl (by repeat (first | exact Split.nil | (apply Split.cons; (repeat (first | with_reducible exact Take.here | apply Take.there))))) (ens_one _) (by simp only [maxLen]; omega) (by omega)) ?_
  rintro v68 -
  skip
  refine s_pu (pu_assign rfl) ?_
  refine swl_sub _ (.cons (t := 6) rfl .nil) ?_
  refine swl_nil ?_
  refine then_n ?_
  refine swp_ret ?_
  refine done_ret [own 49 2 v68 (pre.length + (t.length - j)) (ens pre ++ ens (t.drop j)), ro μ] (.tmp rfl .nil) ?_ (by repeat (first | exact Split.nil | (apply Split.cons; (repeat (first | with_reducible exact Take.here | apply Take.there)))))
  rw [hput, List.length_append, ens_app, hdl]; rfl
end SX
namespace SX
open Go Go.Proofs
end SX
namespace SX
open Go Go.Proofs
theorem ens_take2 (t : List En) (i : Nat) : ens (t.take i) = (ens t).take (i * 2) := by
  induction t generalizing i with
  | nil => simp [ens]
  | cons e t ih =>
    cases i with
    | zero => simp [ens]
    | succ i =>
      rw [List.take_succ_cons, Nat.succ_mul]
      show enc1 e ++ ens (t.take i) = _
      rw [ih]; rfl
def putsE (l : List En) : List En := l.foldl (fun t e => putE t e.1 e.2) []
theorem putsE_succ {l : List En} {i : Nat} {e : En} (h : l[i]? = some e) : putsE (l.take (i + 1)) = putE (putsE (l.take i)) e.1 e.2 := by
  unfold putsE
  rw [List.take_add_one, h, List.foldl_append]; rfl
set_option maxHeartbeats 1000000 in
theorem make_spec (μ : PH) (v : Value) (l : List En) (h : Row μ v 2 l.length (ens l)) (hsz : l.length ≤ 1048576) (hps : ∀ e ∈ l, e.1.size ≤ 255) :
  Spec Tryz.prog 29 [v] [ro μ] (fun r L => ∃ μ' tv, r = .tuple #[tv, .int .i64 0] ∧ Le μ μ' ∧ Row μ' tv 2 (makeE l).length (ens (makeE l)) ∧ L = [ro μ']) := by
 refine Spec.of 32 Tryz.func29 rfl rfl rfl ?_
 refine swp_seq ?_
 refine swp_region ?_
 refine s_pu (pu_assign rfl) ?_
 refine s_pu (pu_assign rfl) ?_
 refine swl_sub _ (.cons (t := 0) rfl .nil) ?_
 refine swl_nil ?_
 refine then_n ?_
 refine swp_seq ?_
 refine swp_region ?_
 refine s_pu (pu_assign rfl) ?_
 refine swl_sub _ (.cons (t := 0) rfl (.cons (t := 4) rfl .nil)) ?_
 refine swl_nil ?_
 refine then_n ?_
 refine swp_seq ?_
 refine swp_seq ?_
 refine swp_region ?_
 refine s_pu (pu_assign rfl) ?_
 refine swl_sub _ (.cons (t := 0) rfl (.cons (t := 4) rfl (.cons (t := 5) rfl .nil))) ?_
 refine swl_nil ?_
 refine then_n ?_
 refine swp_block ?_
 refine swp_loop (ι := Nat × PH × Value) (fun k env L => Sub env [(0, v), (4, k.2.2), (5, .int .i64 (k.1 : Nat))] ∧ L = [ro k.2.1] ∧ k.1 ≤ l.length ∧ Le μ k.2.1 ∧ Row k.2.1 k.2.2 2 (putsE (l.take k.1)).length (ens (putsE (l.take k.1)))) (fun k => l.length - k.1) (0, μ, .slice none 0 0) ⟨⟨rfl, rfl, rfl, trivial⟩, rfl, Nat.zero_le _, Le.refl _, Row.nil _ _⟩ ?_
 rintro ⟨i, μ1, tv⟩ env L ⟨hsub, rfl, hi, hle, hrow⟩
 simp only [] at hi hle hrow hsub
 refine swp_sub _ hsub ?_
 clear hsub env
 dsimp only
 have h1 := h.le hle
 refine swp_seq ?_
 refine swp_seq ?_
 refine swp_region ?_
 refine s_pu (pu_move rfl) ?_
 refine s_pu (pu_move rfl) ?_
 refine s_pu (pu_len_row h1 rfl) ?_
 refine s_pu (pu_lss rfl rfl) ?_
 refine swl_sub _ (.cons (t := 0) rfl (.cons (t := 4) rfl (.cons (t := 5) rfl (.cons (t := 9) rfl .nil)))) ?_
 refine swl_nil ?_
 refine then_n ?_
 refine swp_cond (b := _) rfl (fun h9 => ?_) (fun h9 => ?_)
 ·skip
  have h9' : i < l.length := by have := of_decide_eq_true h9; omega
  obtain ⟨e, he⟩ : ∃ e, l[i]? = some e := ⟨_, List.getElem?_eq_getElem h9'⟩
  obtain ⟨gb, off, cap, hv, hra, hc0, hc1⟩ := tree_at h1 he
  have hes := hps e (List.mem_of_getElem? he)
  have htl : (putsE (l.take i)).length ≤ i := by have := makeE_len (l.take i); rw [List.length_take] at this; exact Nat.le_trans this (Nat.min_le_left _ _)
  refine swp_skip ?_
  refine then_n ?_
  refine swp_seq ?_
  refine swp_block ?_
  refine swp_seq ?_
  refine swp_seq ?_
  refine swp_region ?_
  refine s_pu (pu_move rfl) ?_
  refine s_pu (pu_move rfl) ?_
  refine s_pu (pu_indexAddr (off + i * 2) (congrArg some hv) rfl (by omega) (by omega) (by rw [Int.toNat_natCast])) ?_
  first | refine s_pu (pu_fieldAddr0 rfl) ?_ | refine s_pu (pu_fieldAddr rfl) ?_
  refine s_rd (rd_ro rfl hc0) ?_
  refine s_pu (pu_strlen rfl) ?_
  refine s_pu (pu_gtr rfl rfl) ?_
  refine swl_sub _ (.cons (t := 0) rfl (.cons (t := 4) rfl (.cons (t := 5) rfl (.cons (t := 18) rfl .nil)))) ?_
  refine swl_nil ?_
  refine then_n ?_
  refine swp_cond (b := _) rfl (fun h18 => by have := of_decide_eq_true h18; omega) (fun h18 => ?_)
  refine swp_skip ?_
  refine then_n ?_
  refine swp_draw [5, 10] _ [] (by simp only [List.append_nil]; exact Ent.refl _) (by kernel_rfl) ?_
  refine d_pu 0 rfl (pu_move rfl) (by kernel_rfl) (by kernel_rfl) (by kernel_rfl) ?_
  refine d_pu 1 rfl (pu_move rfl) (by kernel_rfl) (by kernel_rfl) (by kernel_rfl) ?_
  refine d_pu 2 rfl (pu_move rfl) (by kernel_rfl) (by kernel_rfl) (by kernel_rfl) ?_
  refine d_pu 3 rfl (pu_indexAddr (off + i * 2) (congrArg some hv) rfl (by omega) (by omega) (by rw [Int.toNat_natCast])) (by kernel_rfl) (by kernel_rfl) (by kernel_rfl) ?_
  first | refine d_pu 4 rfl (pu_fieldAddr0 rfl) (by kernel_rfl) (by kernel_rfl) (by kernel_rfl) ?_ | refine d_pu 4 rfl (pu_fieldAddr rfl) (by kernel_rfl) (by kernel_rfl) (by kernel_rfl) ?_
  refine d_rd 5 rfl (rd_ro rfl hc0) rfl (by kernel_rfl) (by kernel_rfl) (by kernel_rfl) ?_
  refine d_pu 6 rfl (pu_move rfl) (by kernel_rfl) (by kernel_rfl) (by kernel_rfl) ?_
  refine d_pu 7 rfl (pu_move rfl) (by kernel_rfl) (by kernel_rfl) (by kernel_rfl) ?_
  refine d_pu 8 rfl (pu_indexAddr (off + i * 2) (congrArg some hv) rfl (by omega) (by omega) (by rw [Int.toNat_natCast])) (by kernel_rfl) (by kernel_rfl) (by kernel_rfl) ?_
  first | refine d_pu 9 rfl (pu_fieldAddr0 rfl) (by kernel_rfl) (by kernel_rfl) (by kernel_rfl) ?_ | refine d_pu 9 rfl (pu_fieldAddr rfl) (by kernel_rfl) (by kernel_rfl) (by kernel_rfl) ?_
  refine d_rd 10 rfl (rd_ro rfl hc1) rfl (by kernel_rfl) (by kernel_rfl) (by kernel_rfl) ?_
  first | refine d_fint 11 rfl (by kernel_rfl) (by kernel_rfl) (ef_fn (put_spec μ1 tv _ e.1 e.2 hrow (by omega) (by omega)) rfl rfl (by repeat (first | exact Split.nil | (apply Split.cons; (repeat (first | with_reducible exact Take.here | apply Take.there)))))) ?_ | refine d_finf 11 rfl (by kernel_rfl) (by kernel_rfl) (ef_fn (put_spec μ1 tv _ e.1 e.2 hrow (by omega) (by omega)) rfl rfl (by repeat (first | exact Split.nil | (apply Split.cons; (repeat (first | with_reducible exact Take.here | apply Take.there)))))) ?_
  rintro v30 L1 rfl
  refine swd_app ?_
  refine d_pu 12 rfl (pu_assign rfl) (by kernel_rfl) (by kernel_rfl) (by kernel_rfl) ?_
  refine d_sub _ (.cons (t := 0) rfl (.cons (t := 4) rfl (.cons (t := 5) rfl .nil))) ?_
  first | refine d_nilt (by kernel_rfl) ?_ | refine d_nilf (by kernel_rfl) ?_
  refine block_n ?_
  refine then_n ?_
  refine swp_share_own (v := v30) (μ := μ1) (by repeat (first | exact Split.nil | (apply Split.cons; (repeat (first | with_reducible exact Take.here | apply Take.there))))) fun μ2 h2 hrow2 => ?_
  rw [← putsE_succ he] at hrow2
  refine swp_region ?_
  refine s_pu (pu_move rfl) ?_
  refine s_pu (pu_add_as ((i + 1 : Nat) : Int) rfl rfl (by omega) (by omega) (by omega)) ?_
  refine s_pu (pu_assign rfl) ?_
  refine swl_sub _ (.cons (t := 0) rfl (.cons (t := 4) rfl (.cons (t := 5) rfl .nil))) ?_
  refine swl_nil ?_
  exact then_n ⟨(i + 1, μ2, v30), ⟨⟨rfl, rfl, rfl, trivial⟩, rfl, h9', hle.trans h2, hrow2⟩, by show l.length - (i + 1) < l.length - i; omega⟩
 ·skip
  have h9' := of_decide_eq_false h9
  obtain rfl : i = l.length := by omega
  rw [List.take_length] at hrow
  refine swp_exit ?_
  refine then_x ?_
  refine then_x ?_
  refine block_hit rfl ?_
  refine then_n ?_
  refine swp_seq ?_
  refine swp_region ?_
  refine s_pu (pu_move rfl) ?_
  refine s_pu (pu_assign rfl) ?_
  refine s_pu (pu_assign rfl) ?_
  refine swl_sub _ (.cons (t := 2) rfl (.cons (t := 3) rfl .nil)) ?_
  refine swl_nil ?_
  refine then_n ?_
  refine swp_ret ?_
  exact done_ret [ro μ1] (.tmp rfl (.tmp rfl .nil)) ⟨μ1, tv, rfl, hle, hrow, rfl⟩ (by repeat (first | exact Split.nil | (apply Split.cons; (repeat (first | with_reducible exact Take.here | apply Take.there)))))
set_option maxHeartbeats 1000000 in
theorem good_spec (μ : PH) (v : Value) (x : List En) (h : Row μ v 2 x.length (ens x)) :
  Spec Tryz.prog 15 [v] [ro μ] (fun r L => ∃ μ', Le μ μ' ∧ Row μ' r 2 (goodE x).length (ens (goodE x)) ∧ L = [ro μ']) := by
 obtain ⟨v12, hr12, hs12⟩ := Row.hi (P := Tryz.prog) (t := 35) h (min x.length 100) (Nat.min_le_left _ _)
 rw [← ens_take2] at hr12
 obtain ⟨y, hy⟩ : ∃ y, y = x.take (min x.length 100) := ⟨_, rfl⟩
 have hyl : y.length = min x.length 100 := by rw [hy, List.length_take]; omega
 have hyt : y = x.take 100 := by
  rw [hy]
  by_cases hx : x.length ≤ 100
  ·rw [Nat.min_eq_left hx, List.take_length, List.take_of_length_le hx]
  ·rw [Nat.min_eq_right (by omega)]
 rw [← hy, ← hyl] at hr12
 have hy100 : y.length ≤ 100 := by omega
 refine Spec.of 38 Tryz.func15 rfl rfl rfl ?_
 refine swp_seq ?_
 refine swp_region ?_
 refine s_pu (pu_assign rfl) ?_
 refine swl_sub _ (.cons (t := 0) rfl .nil) ?_
 refine swl_nil ?_
 refine then_n ?_
 refine swp_seq ?_
 refine swp_region ?_
 refine s_pu (pu_assign rfl) ?_
 refine swl_sub _ (.cons (t := 0) rfl (.cons (t := 3) rfl .nil)) ?_
 refine swl_nil ?_
 refine then_n ?_
 refine swp_seq ?_
 refine swp_seq ?_
 refine swp_region ?_
 refine s_pu (pu_move rfl) ?_
 refine s_pu (pu_move rfl) ?_
 refine s_pu (pu_len_row h rfl) ?_
 refine s_pu (pu_min2 rfl rfl) ?_
 refine s_pu (hs12 _ _ _ .i64 _ rfl rfl (by omega)) ?_
 refine s_pu (pu_len_row hr12 rfl) ?_
 refine s_pu (pu_move rfl) ?_
 refine swl_sub _ (.cons (t := 3) rfl (.cons (t := 12) rfl (.cons (t := 13) rfl (.cons (t := 14) rfl .nil)))) ?_
 refine swl_ent (own_nil_ent (e := 49) (n := 2)) ?_
 refine swl_nil ?_
 refine then_n ?_
 refine swp_block ?_
 refine swp_loop (ι := Nat × Value) (fun k env L => Sub env [(3, k.2), (12, v12), (13, .int .i64 (y.length : Nat)), (14, .int .i64 (k.1 : Nat))] ∧ Ent L [own 49 2 k.2 k.1 (ens ((y.take k.1).map cutP)), ro μ] ∧ k.1 ≤ y.length) (fun k => y.length - k.1) (0, .slice none 0 0) ⟨⟨rfl, rfl, rfl, rfl, trivial⟩, Ent.refl _, Nat.zero_le _⟩ ?_
 rintro ⟨i, cv⟩ env L ⟨hsub, hE, hi⟩
 simp only [] at hi hE hsub
 refine swp_sub _ hsub ?_
 refine swp_ent hE ?_
 clear hsub hE env L
 dsimp only
 refine swp_seq ?_
 refine swp_region ?_
 refine s_pu (pu_lss rfl rfl) ?_
 refine swl_sub _ (.cons (t := 3) rfl (.cons (t := 12) rfl (.cons (t := 13) rfl (.cons (t := 14) rfl (.cons (t := 15) rfl .nil))))) ?_
 refine swl_nil ?_
 refine then_n ?_
 refine swp_seq ?_
 refine swp_cond (b := _) rfl (fun h15 => ?_) (fun h15 => ?_)
 ·skip
  have h15' : i < y.length := by have := of_decide_eq_true h15; omega
  obtain ⟨e, he⟩ : ∃ e, y[i]? = some e := ⟨_, List.getElem?_eq_getElem h15'⟩
  obtain ⟨gb, off, cap, hv, hra, hc0, hc1⟩ := tree_at hr12 he
  refine swp_skip ?_
  refine then_n ?_
  refine swp_seq ?_
  refine swp_block ?_
  refine swp_seq ?_
  refine swp_region ?_
  refine s_pu (pu_indexAddr (off + i * 2) (congrArg some hv) rfl (by omega) (by omega) (by rw [Int.toNat_natCast])) ?_
  refine s_rd (rd_roA rfl rfl hra) ?_
  refine s_ef (ef_alloc) ?_
  intro b5
  refine s_ef0 (ef_storeA rfl rfl rfl rfl) ?_
  refine swl_sub _ (.cons (t := 3) rfl (.cons (t := 5) rfl (.cons (t := 12) rfl (.cons (t := 13) rfl (.cons (t := 14) rfl .nil))))) ?_
  refine swl_nil ?_
  refine then_n ?_
  refine swp_draw [2, 4, 9] _ [] (by simp only [List.append_nil]; exact Ent.refl _) (by kernel_rfl) ?_
  refine d_pu 0 rfl (pu_move rfl) (by kernel_rfl) (by kernel_rfl) (by kernel_rfl) ?_
  first | refine d_pu 1 rfl (pu_fieldAddr0 rfl) (by kernel_rfl) (by kernel_rfl) (by kernel_rfl) ?_ | refine d_pu 1 rfl (pu_fieldAddr rfl) (by kernel_rfl) (by kernel_rfl) (by kernel_rfl) ?_
  refine d_rd 2 rfl (rd_load rfl rfl) rfl (by kernel_rfl) (by kernel_rfl) (by kernel_rfl) ?_
  first | refine d_pu 3 rfl (pu_fieldAddr0 rfl) (by kernel_rfl) (by kernel_rfl) (by kernel_rfl) ?_ | refine d_pu 3 rfl (pu_fieldAddr rfl) (by kernel_rfl) (by kernel_rfl) (by kernel_rfl) ?_
  refine d_rd 4 rfl (rd_load rfl rfl) rfl (by kernel_rfl) (by kernel_rfl) (by kernel_rfl) ?_
  refine d_pu 5 rfl (pu_strlen rfl) (by kernel_rfl) (by kernel_rfl) (by kernel_rfl) ?_
  refine d_pu 6 rfl (pu_min2 rfl rfl) (by kernel_rfl) (by kernel_rfl) (by kernel_rfl) ?_
  refine d_pu 7 rfl (pu_str_hi (min e.1.size 255) rfl rfl (by omega) (Nat.min_le_left _ _)) (by kernel_rfl) (by kernel_rfl) (by kernel_rfl) ?_
  first | refine d_pu 8 rfl (pu_fieldAddr0 rfl) (by kernel_rfl) (by kernel_rfl) (by kernel_rfl) ?_ | refine d_pu 8 rfl (pu_fieldAddr rfl) (by kernel_rfl) (by kernel_rfl) (by kernel_rfl) ?_
  refine d_rd 9 rfl (rd_load rfl rfl) rfl (by kernel_rfl) (by kernel_rfl) (by kernel_rfl) ?_
  refine d_pu 10 rfl (pu_bld (qs := [(0, _), (1, _)]) rfl) (by kernel_rfl) (by kernel_rfl) (by kernel_rfl) ?_
  first | refine d_fint 11 rfl (by kernel_rfl) (by kernel_rfl) (ef_bldS (qs := [(0, _)]) rfl rfl rfl) ?_ | refine d_finf 11 rfl (by kernel_rfl) (by kernel_rfl) (ef_bldS (qs := [(0, _)]) rfl rfl rfl) ?_
  intro b29
  first | refine d_fint 12 rfl (by kernel_rfl) (by kernel_rfl) (ef_append_lit (l := i) (m := 1) rfl rfl (by repeat (first | exact Split.nil | (apply Split.cons; (repeat (first | with_reducible exact Take.here | apply Take.there))))) (by simp only [maxLen]; omega) (by omega)) ?_ | refine d_finf 12 rfl (by kernel_rfl) (by kernel_rfl) (ef_append_lit (l := i) (m := 1) rfl rfl (by repeat (first | exact Split.nil | (apply Split.cons; (repeat (first | with_reducible exact Take.here | apply Take.there))))) (by simp only [maxLen]; omega) (by omega)) ?_
  rintro v30 -
  skip
  refine d_pu 13 rfl (pu_assign rfl) (by kernel_rfl) (by kernel_rfl) (by kernel_rfl) ?_
  refine d_sub _ (.cons (t := 3) rfl (.cons (t := 12) rfl (.cons (t := 13) rfl (.cons (t := 14) rfl .nil)))) ?_
  first | refine d_nilt (by kernel_rfl) ?_ | refine d_nilf (by kernel_rfl) ?_
  refine block_n ?_
  refine then_n ?_
  refine swp_region ?_
  refine s_pu (pu_add_as ((i + 1 : Nat) : Int) rfl rfl (by omega) (by omega) (by omega)) ?_
  refine s_pu (pu_move rfl) ?_
  refine swl_sub _ (.cons (t := 3) rfl (.cons (t := 12) rfl (.cons (t := 13) rfl (.cons (t := 14) rfl .nil)))) ?_
  refine swl_nil ?_
  refine then_n ⟨(i + 1, v30), ⟨⟨rfl, rfl, rfl, rfl, trivial⟩, ?_, h15'⟩, by show y.length - (i + 1) < y.length - i; omega⟩
  have e1 : ens ((y.take (i + 1)).map cutP) = ens ((y.take i).map cutP) ++ [.string (e.1.extract 0 (min e.1.size 255)), .int .u32 e.2] := by
   rw [List.take_add_one, he, List.map_append, ens_app]; rfl
  show Ent _ [own 49 2 v30 (i + 1) (ens ((y.take (i + 1)).map cutP)), ro μ]
  rw [e1]
  exact Split.ent' (by repeat (first | exact Split.nil | (apply Split.cons; (repeat (first | with_reducible exact Take.here | apply Take.there)))))
 ·skip
  have h15' := of_decide_eq_false h15
  obtain rfl : i = y.length := by omega
  rw [List.take_length]
  refine swp_exit ?_
  refine then_x ?_
  refine then_x ?_
  refine block_hit rfl ?_
  refine then_n ?_
  refine swp_seq ?_
  refine swp_share_own (v := cv) (μ := μ) (by repeat (first | exact Split.nil | (apply Split.cons; (repeat (first | with_reducible exact Take.here | apply Take.there))))) fun μ2 h2 hrow2 => ?_
  have hl2 : y.length = (y.map cutP).length := by rw [List.length_map]
  rw [hl2] at hrow2
  have hsh : ∀ e ∈ y.map cutP, e.1.size ≤ 255 := by
   intro e he
   obtain ⟨d, _, rfl⟩ := List.mem_map.1 he
   show (d.1.extract 0 (min d.1.size 255)).size ≤ 255
   rw [ByteArray.size_extract]; omega
  refine swp_region ?_
  refine s_pu (pu_move rfl) ?_
  refine s_ef (ef_fn (make_spec μ2 cv (y.map cutP) hrow2 (by rw [← hl2]; omega) hsh) rfl rfl (by repeat (first | exact Split.nil | (apply Split.cons; (repeat (first | with_reducible exact Take.here | apply Take.there)))))) ?_
  rintro v34 L1 ⟨μ3, tv, rfl, h3, hrow3, rfl⟩
  refine swl_app ?_
  refine s_pu (pu_move rfl) ?_
  first | refine s_pu (pu_extractL rfl) ?_ | refine s_pu (pu_extract rfl rfl) ?_
  first | refine s_pu (pu_extractL rfl) ?_ | refine s_pu (pu_extract rfl rfl) ?_
  refine s_pu (pu_assign rfl) ?_
  refine s_pu (pu_assign rfl) ?_
  refine swl_sub _ (.cons (t := 6) rfl .nil) ?_
  refine swl_nil ?_
  refine then_n ?_
  refine swp_seq ?_
  refine swp_region ?_
  refine s_pu (pu_move rfl) ?_
  refine s_pu (pu_assign rfl) ?_
  refine swl_sub _ (.cons (t := 2) rfl .nil) ?_
  refine swl_nil ?_
  refine then_n ?_
  refine swp_ret ?_
  refine done_ret [ro μ3] (.tmp rfl .nil) ⟨μ3, h2.trans h3, ?_, rfl⟩ (by repeat (first | exact Split.nil | (apply Split.cons; (repeat (first | with_reducible exact Take.here | apply Take.there)))))
  unfold goodE
  rw [← hyt]; exact hrow3
end SX
namespace SX
open Go Go.Proofs
theorem mark_specZ {b o t : Int} (hb : U32 b) (ho : U32 o) (ht : U32 t) : Spec Tryz.prog 36 [.int .u32 b, .int .u32 o, .int .u32 t] [] (fun r L => r = .int .u32 (markZ b o t) ∧ L = []) := by
  have := mark_spec (BitVec.ofInt 32 b) (BitVec.ofInt 32 o) (BitVec.ofInt 32 t)
  rw [← hb.bv, ← ho.bv, ← ht.bv] at this; exact this
theorem rmark_specZ {b o t : Int} (hb : U32 b) (ho : U32 o) (ht : U32 t) : Spec Tryz.prog 60 [.int .u32 b, .int .u32 o, .int .u32 t] [] (fun r L => r = .int .u32 (markZ b o t) ∧ L = []) := by
  have := rmark_spec (BitVec.ofInt 32 b) (BitVec.ofInt 32 o) (BitVec.ofInt 32 t)
  rw [← hb.bv, ← ho.bv, ← ht.bv] at this; exact this
set_option maxHeartbeats 1000000 in
theorem one_spec {b o t : Int} (hb : U32 b) (ho : U32 o) (ht : U32 t) : Spec Tryz.prog 39 [.int .u32 b, .int .u32 o, .int .u32 t] [] (fun r L => r = .tuple #[.int .u32 (oneE b o t).1, .bool (oneE b o t).2] ∧ L = []) := by
 refine Spec.of 25 Tryz.func39 rfl rfl rfl ?_
 refine swp_seq ?_
 refine swp_region ?_
 refine s_pu (pu_assign rfl) ?_
 refine s_pu (pu_assign rfl) ?_
 refine swl_sub _ (.cons (t := 0) rfl (.cons (t := 1) rfl (.cons (t := 2) rfl .nil))) ?_
 refine swl_nil ?_
 refine then_n ?_
 refine swp_seq ?_
 refine swp_block ?_
 refine swp_seq ?_
 refine swp_seq ?_
 refine swp_region ?_
 refine s_pu (pu_move rfl) ?_
 refine s_pu (pu_move rfl) ?_
 refine s_pu (pu_eql rfl rfl) ?_
 refine s_pu (pu_assign rfl) ?_
 refine swl_sub _ (.cons (t := 0) rfl (.cons (t := 1) rfl (.cons (t := 2) rfl (.cons (t := 8) rfl .nil)))) ?_
 refine swl_nil ?_
 refine then_n ?_
 refine swp_cond (b := _) rfl (fun h8 => ?_) (fun h8 => ?_)
 ·skip
  have e8 := of_decide_eq_true h8
  refine swp_skip ?_
  refine then_n ?_
  refine swp_cond (b := _) rfl (fun h8 => ?_) (fun h8 => absurd e8 (of_decide_eq_false h8))
  refine swp_seq ?_
  refine swp_region ?_
  refine s_pu (pu_move rfl) ?_
  refine s_pu (pu_assign rfl) ?_
  refine s_pu (pu_assign rfl) ?_
  refine swl_sub _ (.cons (t := 6) rfl (.cons (t := 7) rfl .nil)) ?_
  refine swl_nil ?_
  refine then_n ?_
  refine swp_ret ?_
  refine block_r ?_
  refine then_r ?_
  refine done_ret [] (.tmp rfl (.tmp rfl .nil)) ⟨?_, rfl⟩ (by repeat (first | exact Split.nil | (apply Split.cons; (repeat (first | with_reducible exact Take.here | apply Take.there)))))
  unfold oneE; rw [if_pos (Or.inl e8)]; rfl
 ·skip
  have e8 := of_decide_eq_false h8
  refine swp_region ?_
  refine s_pu (pu_move rfl) ?_
  refine s_pu (pu_move rfl) ?_
  refine s_pu (pu_eql rfl rfl) ?_
  refine s_pu (pu_assign rfl) ?_
  refine swl_sub _ (.cons (t := 0) rfl (.cons (t := 1) rfl (.cons (t := 2) rfl (.cons (t := 8) rfl .nil)))) ?_
  refine swl_nil ?_
  refine then_n ?_
  refine swp_cond (b := _) rfl (fun h8 => ?_) (fun h8 => ?_)
  ·skip
   refine swp_seq ?_
   refine swp_region ?_
   refine s_pu (pu_move rfl) ?_
   refine s_pu (pu_assign rfl) ?_
   refine s_pu (pu_assign rfl) ?_
   refine swl_sub _ (.cons (t := 6) rfl (.cons (t := 7) rfl .nil)) ?_
   refine swl_nil ?_
   refine then_n ?_
   refine swp_ret ?_
   refine block_r ?_
   refine then_r ?_
   have h8' := of_decide_eq_true h8
   refine done_ret [] (.tmp rfl (.tmp rfl .nil)) ⟨?_, rfl⟩ (by repeat (first | exact Split.nil | (apply Split.cons; (repeat (first | with_reducible exact Take.here | apply Take.there)))))
   unfold oneE; rw [if_pos (Or.inr h8')]; rfl
  ·skip
   refine swp_seq ?_
   refine swp_region ?_
   refine s_pu (pu_move rfl) ?_
   refine s_pu (pu_move rfl) ?_
   refine s_pu (pu_eql rfl rfl) ?_
   refine s_pu (pu_assign rfl) ?_
   refine swl_sub _ (.cons (t := 0) rfl (.cons (t := 1) rfl (.cons (t := 2) rfl (.cons (t := 16) rfl .nil)))) ?_
   refine swl_nil ?_
   refine then_n ?_
   refine swp_cond (b := _) rfl (fun h16 => ?_) (fun h16 => ?_)
   ·skip
    refine swp_seq ?_
    refine swp_region ?_
    refine s_pu (pu_move rfl) ?_
    refine s_pu (pu_assign rfl) ?_
    refine s_pu (pu_assign rfl) ?_
    refine swl_sub _ (.cons (t := 6) rfl (.cons (t := 7) rfl .nil)) ?_
    refine swl_nil ?_
    refine then_n ?_
    refine swp_ret ?_
    refine block_r ?_
    refine then_r ?_
    have h8' := of_decide_eq_false h8
    have h16' := of_decide_eq_true h16
    refine done_ret [] (.tmp rfl (.tmp rfl .nil)) ⟨?_, rfl⟩ (by repeat (first | exact Split.nil | (apply Split.cons; (repeat (first | with_reducible exact Take.here | apply Take.there)))))
    unfold oneE; rw [if_neg (fun k => k.elim e8 h8'), if_pos h16']; rfl
   ·skip
    refine swp_skip ?_
    refine block_n ?_
    refine then_n ?_
    refine swp_seq ?_
    refine swp_region ?_
    refine s_pu (pu_move rfl) ?_
    refine s_pu (pu_move rfl) ?_
    refine s_pu (pu_move rfl) ?_
    refine s_ef (ef_fn (rmark_specZ hb ho ht) rfl rfl (by repeat (first | exact Split.nil | (apply Split.cons; (repeat (first | with_reducible exact Take.here | apply Take.there)))))) ?_
    rintro v24 L1 ⟨rfl, rfl⟩
    refine swl_app ?_
    refine s_pu (pu_assign rfl) ?_
    refine s_pu (pu_assign rfl) ?_
    refine swl_sub _ (.cons (t := 6) rfl (.cons (t := 7) rfl .nil)) ?_
    refine swl_nil ?_
    refine then_n ?_
    refine swp_ret ?_
    have h8' := of_decide_eq_false h8
    have h16' := of_decide_eq_false h16
    refine done_ret [] (.tmp rfl (.tmp rfl .nil)) ⟨?_, rfl⟩ (by repeat (first | exact Split.nil | (apply Split.cons; (repeat (first | with_reducible exact Take.here | apply Take.there)))))
    unfold oneE; rw [if_neg (fun k => k.elim e8 h8'), if_neg h16']; rfl
set_option maxHeartbeats 1000000 in
theorem at_walk (μ : PH) (v : Value) (l : List En) (p : ByteArray) (h : Row μ v 2 l.length (ens l)) (hsz : l.length ≤ 1048576) : Spec Tryz.prog 38 [v, .string p] [ro μ] (fun r L => ∃ v', r = .tuple #[.int .u32 (atE l p).1, v'] ∧ Row μ v' 2 (atE l p).2.length (ens (atE l p).2) ∧ L = [ro μ]) := by
 refine Spec.of 24 Tryz.func38 rfl rfl rfl ?_
 refine swp_seq ?_
 refine swp_region ?_
 refine s_pu (pu_assign rfl) ?_
 refine s_pu (pu_assign rfl) ?_
 refine swl_sub _ (.cons (t := 0) rfl (.cons (t := 1) rfl .nil)) ?_
 refine swl_nil ?_
 refine then_n ?_
 refine swp_seq ?_
 refine swp_seq ?_
 refine swp_region ?_
 refine s_pu (pu_move rfl) ?_
 refine s_pu (pu_len_row h rfl) ?_
 refine s_pu (pu_gtr rfl rfl) ?_
 refine s_pu (pu_move rfl) ?_
 refine s_split 9 rfl (fun h9 => ?_) (fun h9 => ?_)
 ·skip
  have h9' : 0 < l.length := by have := of_decide_eq_true h9; omega
  obtain ⟨e, r, rfl⟩ : ∃ e r, l = e :: r := by cases l with | nil => simp at h9' | cons e r => exact ⟨e, r, rfl⟩
  obtain ⟨gb, off, cap, hv, hra, hc0, hc1⟩ := tree_at h (i := 0) rfl
  obtain ⟨vlo, hlo1, hlo2⟩ := Row.lo (P := Tryz.prog) (t := 35) h 1 h9'
  rw [show (ens (e :: r)).drop (1 * 2) = ens r from rfl, show (e :: r).length - 1 = r.length from rfl] at hlo1
  refine s_on rfl rfl ?_
  refine s_pu (pu_move rfl) ?_
  refine s_on rfl rfl ?_
  refine s_pu (pu_indexAddr (off + 0 * 2) (congrArg some hv) rfl (by omega) (by omega) (by rfl)) ?_
  refine s_on rfl rfl ?_
  first | refine s_pu (pu_fieldAddr0 rfl) ?_ | refine s_pu (pu_fieldAddr rfl) ?_
  refine s_on rfl rfl ?_
  refine s_rd (rd_ro rfl hc0) ?_
  refine s_on rfl rfl ?_
  refine s_pu (pu_move rfl) ?_
  refine s_on rfl rfl ?_
  refine s_pu (pu_str_eql rfl rfl) ?_
  first | refine s_pu (pu_pick_t rfl rfl) ?_ | refine s_pu (pu_pick_f rfl rfl) ?_
  refine swl_sub _ (.cons (t := 0) rfl (.cons (t := 16) rfl .nil)) ?_
  refine swl_nil ?_
  refine then_n ?_
  refine swp_cond (b := _) rfl (fun h16 => ?_) (fun h16 => ?_)
  ·skip
   refine swp_seq ?_
   refine swp_draw [3] _ [] (by simp only [List.append_nil]; exact Ent.refl _) (by kernel_rfl) ?_
   refine d_pu 0 rfl (pu_move rfl) (by kernel_rfl) (by kernel_rfl) (by kernel_rfl) ?_
   refine d_pu 1 rfl (pu_indexAddr (off + 0 * 2) (congrArg some hv) rfl (by omega) (by omega) (by rfl)) (by kernel_rfl) (by kernel_rfl) (by kernel_rfl) ?_
   first | refine d_pu 2 rfl (pu_fieldAddr0 rfl) (by kernel_rfl) (by kernel_rfl) (by kernel_rfl) ?_ | refine d_pu 2 rfl (pu_fieldAddr rfl) (by kernel_rfl) (by kernel_rfl) (by kernel_rfl) ?_
   refine d_rd 3 rfl (rd_ro rfl hc1) rfl (by kernel_rfl) (by kernel_rfl) (by kernel_rfl) ?_
   refine d_pu 4 rfl (pu_move rfl) (by kernel_rfl) (by kernel_rfl) (by kernel_rfl) ?_
   refine d_pu 5 rfl (hlo2 _ _ _ .i64 _ rfl rfl rfl) (by kernel_rfl) (by kernel_rfl) (by kernel_rfl) ?_
   refine d_pu 6 rfl (pu_assign rfl) (by kernel_rfl) (by kernel_rfl) (by kernel_rfl) ?_
   refine d_pu 7 rfl (pu_assign rfl) (by kernel_rfl) (by kernel_rfl) (by kernel_rfl) ?_
   refine d_sub _ (.cons (t := 4) rfl (.cons (t := 5) rfl .nil)) ?_
   first | refine d_nilt (by kernel_rfl) ?_ | refine d_nilf (by kernel_rfl) ?_
   refine then_n ?_
   refine swp_ret ?_
   refine then_r ?_
   have e1 : atE (e :: r) p = (e.2, r) := by simp [atE, h16]
   rw [e1]
   exact done_ret [ro μ] (.tmp rfl (.tmp rfl .nil)) ⟨_, rfl, hlo1, rfl⟩ (by repeat (first | exact Split.nil | (apply Split.cons; (repeat (first | with_reducible exact Take.here | apply Take.there)))))
  ·skip
   refine swp_skip ?_
   refine then_n ?_
   refine swp_seq ?_
   refine swp_region ?_
   refine s_pu (pu_move rfl) ?_
   refine s_pu (pu_assign rfl) ?_
   refine s_pu (pu_assign rfl) ?_
   refine swl_sub _ (.cons (t := 4) rfl (.cons (t := 5) rfl .nil)) ?_
   refine swl_nil ?_
   refine then_n ?_
   refine swp_ret ?_
   have e1 : atE (e :: r) p = (0, e :: r) := by simp [atE, h16]
   rw [e1]
   exact done_ret [ro μ] (.tmp rfl (.tmp rfl .nil)) ⟨_, rfl, h, rfl⟩ (by repeat (first | exact Split.nil | (apply Split.cons; (repeat (first | with_reducible exact Take.here | apply Take.there)))))
 ·skip
  refine s_off rfl rfl rfl ?_
  refine s_off rfl rfl rfl ?_
  refine s_off rfl rfl rfl ?_
  refine s_off rfl rfl rfl ?_
  refine s_off rfl rfl rfl ?_
  refine s_off rfl rfl rfl ?_
  first | refine s_pu (pu_pick_t rfl rfl) ?_ | refine s_pu (pu_pick_f rfl rfl) ?_
  refine swl_sub _ (.cons (t := 0) rfl (.cons (t := 16) rfl .nil)) ?_
  refine swl_nil ?_
  refine then_n ?_
  refine swp_cond (b := _) rfl (fun h16 => by cases h16) (fun h16 => ?_)
  refine swp_skip ?_
  refine then_n ?_
  refine swp_seq ?_
  refine swp_region ?_
  refine s_pu (pu_move rfl) ?_
  refine s_pu (pu_assign rfl) ?_
  refine s_pu (pu_assign rfl) ?_
  refine swl_sub _ (.cons (t := 4) rfl (.cons (t := 5) rfl .nil)) ?_
  refine swl_nil ?_
  refine then_n ?_
  refine swp_ret ?_
  have h9' := of_decide_eq_false h9
  obtain rfl : l = [] := List.eq_nil_of_length_eq_zero (by omega)
  exact done_ret [ro μ] (.tmp rfl (.tmp rfl .nil)) ⟨_, rfl, h, rfl⟩ (by repeat (first | exact Split.nil | (apply Split.cons; (repeat (first | with_reducible exact Take.here | apply Take.there)))))
/-- the k-th of three -/
def thK {α : Type} (k : Nat) (a b c : α) : α := if k = 2 then c else if k = 1 then b else a
def lessK (k : Nat) (a b c : List En) : Option ByteArray := if k = 0 then none else if k = 1 then less1 none a else if k = 2 then less1 (less1 none a) b else leastE a b c
theorem lessK_succ {k : Nat} (hk : k < 3) (a b c : List En) : lessK (k + 1) a b c = less1 (lessK k a b c) (thK k a b c) := by
  rcases Nat.lt_or_ge k 1 with h | h
  · obtain rfl : k = 0 := by omega
    rfl
  · rcases Nat.lt_or_ge k 2 with h2 | h2
    · obtain rfl : k = 1 := by omega
      rfl
    · obtain rfl : k = 2 := by omega
      rfl
def strD (m : Option ByteArray) : ByteArray := m.getD ⟨#[]⟩
set_option maxHeartbeats 1000000 in
theorem least_walk (μ : PH) (va vb vc : Value) (a b c : List En) (ha : Row μ va 2 a.length (ens a)) (hb : Row μ vb 2 b.length (ens b)) (hc : Row μ vc 2 c.length (ens c)) (hsz : a.length ≤ 1048576 ∧ b.length ≤ 1048576 ∧ c.length ≤ 1048576) :
  Spec Tryz.prog 37 [va, vb, vc] [ro μ] (fun r L => r = .tuple #[.string (strD (leastE a b c)), .bool (leastE a b c).isSome] ∧ L = [ro μ]) := by
 refine Spec.of 44 Tryz.func37 rfl rfl rfl ?_
 refine swp_seq ?_
 refine swp_region ?_
 refine s_pu (pu_assign rfl) ?_
 refine s_pu (pu_assign rfl) ?_
 refine swl_sub _ (.cons (t := 0) rfl (.cons (t := 1) rfl (.cons (t := 2) rfl .nil))) ?_
 refine swl_nil ?_
 refine then_n ?_
 refine swp_seq ?_
 refine swp_region ?_
 refine s_pu (pu_assign rfl) ?_
 refine swl_sub _ (.cons (t := 0) rfl (.cons (t := 1) rfl (.cons (t := 2) rfl (.cons (t := 8) rfl .nil)))) ?_
 refine swl_nil ?_
 refine then_n ?_
 refine swp_seq ?_
 refine swp_region ?_
 refine s_pu (pu_assign rfl) ?_
 refine swl_sub _ (.cons (t := 0) rfl (.cons (t := 1) rfl (.cons (t := 2) rfl (.cons (t := 8) rfl (.cons (t := 9) rfl .nil))))) ?_
 refine swl_nil ?_
 refine then_n ?_
 refine swp_seq ?_
 refine swp_seq ?_
 refine swp_region ?_
 refine s_pu (pu_assign rfl) ?_
 refine swl_sub _ (.cons (t := 0) rfl (.cons (t := 1) rfl (.cons (t := 2) rfl (.cons (t := 8) rfl (.cons (t := 9) rfl (.cons (t := 10) rfl .nil)))))) ?_
 refine swl_nil ?_
 refine then_n ?_
 refine swp_block ?_
 refine swp_loop (ι := Nat) (fun k env L => Sub env [(0, va), (1, vb), (2, vc), (8, .string (strD (lessK k a b c))), (9, .bool (lessK k a b c).isSome), (10, .int .i64 (k : Nat))] ∧ L = [ro μ] ∧ k ≤ 3) (fun k => 3 - k) 0 ⟨⟨rfl, rfl, rfl, rfl, rfl, rfl, trivial⟩, rfl, Nat.zero_le _⟩ ?_
 rintro k env L ⟨hsub, rfl, hk⟩
 refine swp_sub _ hsub ?_
 clear hsub env
 generalize hm : lessK k a b c = m
 refine swp_seq ?_
 refine swp_seq ?_
 refine swp_region ?_
 refine s_pu (pu_move rfl) ?_
 refine s_pu (pu_lss rfl rfl) ?_
 refine swl_sub _ (.cons (t := 0) rfl (.cons (t := 1) rfl (.cons (t := 2) rfl (.cons (t := 8) rfl (.cons (t := 9) rfl (.cons (t := 10) rfl (.cons (t := 13) rfl .nil))))))) ?_
 refine swl_nil ?_
 refine then_n ?_
 refine swp_cond (b := _) rfl (fun h13 => ?_) (fun h13 => ?_)
 ·skip
  have h13' : k < 3 := by have := of_decide_eq_true h13; omega
  have hrow : Row μ (thK k va vb vc) 2 (thK k a b c).length (ens (thK k a b c)) ∧ (thK k a b c).length ≤ 1048576 := by
   unfold thK; split
   ·exact ⟨hc, hsz.2.2⟩
   ·split
    ·exact ⟨hb, hsz.2.1⟩
    ·exact ⟨ha, hsz.1⟩
  obtain ⟨hrow, hsl⟩ := hrow
  have hsucc := lessK_succ h13' a b c
  rw [hm] at hsucc
  refine swp_skip ?_
  refine then_n ?_
  refine swp_seq ?_
  refine swp_block ?_
  refine swp_seq ?_
  refine swp_region ?_
  refine s_pu (pu_move rfl) ?_
  refine s_pu (pu_assign rfl) ?_
  refine swl_sub _ (.cons (t := 0) rfl (.cons (t := 1) rfl (.cons (t := 2) rfl (.cons (t := 8) rfl (.cons (t := 9) rfl (.cons (t := 10) rfl (.cons (t := 11) rfl .nil))))))) ?_
  refine swl_nil ?_
  refine then_n ?_
  refine swp_cut (fun env L => Sub env [(0, va), (1, vb), (2, vc), (8, .string (strD m)), (9, .bool m.isSome), (10, .int .i64 (k : Nat)), (11, if k = 1 then vb else va)] ∧ L = [ro μ]) ?_ ?_
  ·skip
   refine swp_seq ?_
   refine swp_region ?_
   refine s_pu (pu_move rfl) ?_
   refine s_pu (pu_eql rfl rfl) ?_
   refine swl_sub _ (.cons (t := 0) rfl (.cons (t := 1) rfl (.cons (t := 2) rfl (.cons (t := 8) rfl (.cons (t := 9) rfl (.cons (t := 10) rfl (.cons (t := 11) rfl (.cons (t := 18) rfl .nil)))))))) ?_
   refine swl_nil ?_
   refine then_n ?_
   refine swp_cond (b := _) rfl (fun h18 => ?_) (fun h18 => ?_)
   ·skip
    refine swp_region ?_
    refine s_pu (pu_move rfl) ?_
    refine s_pu (pu_assign rfl) ?_
    refine swl_sub _ (.cons (t := 0) rfl (.cons (t := 1) rfl (.cons (t := 2) rfl (.cons (t := 8) rfl (.cons (t := 9) rfl (.cons (t := 10) rfl (.cons (t := 11) rfl .nil))))))) ?_
    refine swl_nil ?_
    have h18' : k = 1 := by have := of_decide_eq_true h18; omega
    exact then_n ⟨⟨rfl, rfl, rfl, rfl, rfl, rfl, by rw [if_pos h18']; rfl, trivial⟩, rfl⟩
   ·skip
    refine swp_skip ?_
    have h18' : ¬ k = 1 := by have := of_decide_eq_false h18; omega
    exact then_n ⟨⟨rfl, rfl, rfl, rfl, rfl, rfl, by rw [if_neg h18']; rfl, trivial⟩, rfl⟩
  rintro env L ⟨hsub, rfl⟩
  refine swp_sub _ hsub ?_
  clear hsub env
  refine swp_cut (fun env L => Sub env [(0, va), (1, vb), (2, vc), (8, .string (strD m)), (9, .bool m.isSome), (10, .int .i64 (k : Nat)), (11, thK k va vb vc)] ∧ L = [ro μ]) ?_ ?_
  ·skip
   refine swp_seq ?_
   refine swp_region ?_
   refine s_pu (pu_move rfl) ?_
   refine s_pu (pu_eql rfl rfl) ?_
   refine swl_sub _ (.cons (t := 0) rfl (.cons (t := 1) rfl (.cons (t := 2) rfl (.cons (t := 8) rfl (.cons (t := 9) rfl (.cons (t := 10) rfl (.cons (t := 11) rfl (.cons (t := 21) rfl .nil)))))))) ?_
   refine swl_nil ?_
   refine then_n ?_
   refine swp_cond (b := _) rfl (fun h21 => ?_) (fun h21 => ?_)
   ·skip
    refine swp_region ?_
    refine s_pu (pu_move rfl) ?_
    refine s_pu (pu_assign rfl) ?_
    refine swl_sub _ (.cons (t := 0) rfl (.cons (t := 1) rfl (.cons (t := 2) rfl (.cons (t := 8) rfl (.cons (t := 9) rfl (.cons (t := 10) rfl (.cons (t := 11) rfl .nil))))))) ?_
    refine swl_nil ?_
    have h21' : k = 2 := by have := of_decide_eq_true h21; omega
    exact then_n ⟨⟨rfl, rfl, rfl, rfl, rfl, rfl, by unfold thK; rw [if_pos h21']; rfl, trivial⟩, rfl⟩
   ·skip
    refine swp_skip ?_
    have h21' : ¬ k = 2 := by have := of_decide_eq_false h21; omega
    exact then_n ⟨⟨rfl, rfl, rfl, rfl, rfl, rfl, by unfold thK; rw [if_neg h21']; rfl, trivial⟩, rfl⟩
  rintro env L ⟨hsub, rfl⟩
  refine swp_sub _ hsub ?_
  clear hsub env
  generalize thK k va vb vc = v11 at hrow
  generalize thK k a b c = l at hrow hsl hsucc
  refine swp_seq ?_
  refine swp_region ?_
  refine s_pu (pu_move rfl) ?_
  refine s_pu (pu_len_row hrow rfl) ?_
  refine s_pu (pu_gtr rfl rfl) ?_
  refine s_pu (pu_move rfl) ?_
  refine s_split 26 rfl (fun h26 => ?_) (fun h26 => ?_)
  ·skip
   have h26' : 0 < l.length := by have := of_decide_eq_true h26; omega
   obtain ⟨e, r, rfl⟩ : ∃ e r, l = e :: r := by cases l with | nil => simp at h26' | cons e r => exact ⟨e, r, rfl⟩
   obtain ⟨gb, off, cap, hv, hra, hc0, hc1⟩ := tree_at hrow (i := 0) rfl
   refine s_on rfl rfl ?_
   refine s_pu (pu_move rfl) ?_
   refine s_on rfl rfl ?_
   refine s_pu (pu_not rfl) ?_
   refine s_on rfl rfl ?_
   refine s_pu (pu_move rfl) ?_
   refine s_split 29 rfl (fun h29 => ?_) (fun h29 => ?_)
   ·skip
    refine s_off rfl rfl rfl ?_
    refine s_off rfl rfl rfl ?_
    refine s_off rfl rfl rfl ?_
    refine s_off rfl rfl rfl ?_
    refine s_off rfl rfl rfl ?_
    refine s_off rfl rfl rfl ?_
    refine s_on rfl rfl ?_
    first | refine s_pu (pu_pick_t rfl rfl) ?_ | refine s_pu (pu_pick_f rfl rfl) ?_
    first | refine s_pu (pu_pick_t rfl rfl) ?_ | refine s_pu (pu_pick_f rfl rfl) ?_
    refine swl_sub _ (.cons (t := 0) rfl (.cons (t := 1) rfl (.cons (t := 2) rfl (.cons (t := 8) rfl (.cons (t := 9) rfl (.cons (t := 10) rfl (.cons (t := 11) rfl (.cons (t := 37) rfl .nil)))))))) ?_
    refine swl_nil ?_
    refine then_n ?_
    refine swp_cond (b := _) rfl (fun h37 => ?_) (fun h37 => by cases h37)
    refine swp_seq ?_
    refine swp_region ?_
    refine s_pu (pu_move rfl) ?_
    refine s_pu (pu_indexAddr (off + 0 * 2) (congrArg some hv) rfl (by omega) (by omega) (by rfl)) ?_
    first | refine s_pu (pu_fieldAddr0 rfl) ?_ | refine s_pu (pu_fieldAddr rfl) ?_
    refine s_rd (rd_ro rfl hc0) ?_
    refine s_pu (pu_assign rfl) ?_
    refine swl_sub _ (.cons (t := 0) rfl (.cons (t := 1) rfl (.cons (t := 2) rfl (.cons (t := 8) rfl (.cons (t := 10) rfl .nil))))) ?_
    refine swl_nil ?_
    refine then_n ?_
    refine swp_region ?_
    refine s_pu (pu_assign rfl) ?_
    refine swl_sub _ (.cons (t := 0) rfl (.cons (t := 1) rfl (.cons (t := 2) rfl (.cons (t := 8) rfl (.cons (t := 9) rfl (.cons (t := 10) rfl .nil)))))) ?_
    refine swl_nil ?_
    refine block_n ?_
    refine then_n ?_
    refine swp_region ?_
    refine s_pu (pu_move rfl) ?_
    refine s_pu (pu_add_as ((k + 1 : Nat) : Int) rfl rfl (by omega) (by omega) (by omega)) ?_
    refine s_pu (pu_assign rfl) ?_
    refine swl_sub _ (.cons (t := 0) rfl (.cons (t := 1) rfl (.cons (t := 2) rfl (.cons (t := 8) rfl (.cons (t := 9) rfl (.cons (t := 10) rfl .nil)))))) ?_
    refine swl_nil ?_
    have e1 : lessK (k + 1) a b c = some e.1 := by
     rw [hsucc]
     cases m with
     | none => rfl
     | some q => cases h29
    exact then_n ⟨k + 1, ⟨⟨rfl, rfl, rfl, by rw [e1]; rfl, by rw [e1]; rfl, rfl, trivial⟩, rfl, h13'⟩, by omega⟩
   ·skip
    refine s_on rfl rfl ?_
    refine s_pu (pu_move rfl) ?_
    refine s_on rfl rfl ?_
    refine s_pu (pu_indexAddr (off + 0 * 2) (congrArg some hv) rfl (by omega) (by omega) (by rfl)) ?_
    refine s_on rfl rfl ?_
    first | refine s_pu (pu_fieldAddr0 rfl) ?_ | refine s_pu (pu_fieldAddr rfl) ?_
    refine s_on rfl rfl ?_
    refine s_rd (rd_ro rfl hc0) ?_
    refine s_on rfl rfl ?_
    refine s_pu (pu_move rfl) ?_
    refine s_on rfl rfl ?_
    refine s_pu (pu_str_lss rfl rfl) ?_
    refine s_on rfl rfl ?_
    first | refine s_pu (pu_pick_t rfl rfl) ?_ | refine s_pu (pu_pick_f rfl rfl) ?_
    first | refine s_pu (pu_pick_t rfl rfl) ?_ | refine s_pu (pu_pick_f rfl rfl) ?_
    refine swl_sub _ (.cons (t := 0) rfl (.cons (t := 1) rfl (.cons (t := 2) rfl (.cons (t := 8) rfl (.cons (t := 9) rfl (.cons (t := 10) rfl (.cons (t := 11) rfl (.cons (t := 37) rfl .nil)))))))) ?_
    refine swl_nil ?_
    refine then_n ?_
    refine swp_cond (b := _) rfl (fun h37 => ?_) (fun h37 => ?_)
    ·skip
     refine swp_seq ?_
     refine swp_region ?_
     refine s_pu (pu_move rfl) ?_
     refine s_pu (pu_indexAddr (off + 0 * 2) (congrArg some hv) rfl (by omega) (by omega) (by rfl)) ?_
     first | refine s_pu (pu_fieldAddr0 rfl) ?_ | refine s_pu (pu_fieldAddr rfl) ?_
     refine s_rd (rd_ro rfl hc0) ?_
     refine s_pu (pu_assign rfl) ?_
     refine swl_sub _ (.cons (t := 0) rfl (.cons (t := 1) rfl (.cons (t := 2) rfl (.cons (t := 8) rfl (.cons (t := 10) rfl .nil))))) ?_
     refine swl_nil ?_
     refine then_n ?_
     refine swp_region ?_
     refine s_pu (pu_assign rfl) ?_
     refine swl_sub _ (.cons (t := 0) rfl (.cons (t := 1) rfl (.cons (t := 2) rfl (.cons (t := 8) rfl (.cons (t := 9) rfl (.cons (t := 10) rfl .nil)))))) ?_
     refine swl_nil ?_
     refine block_n ?_
     refine then_n ?_
     refine swp_region ?_
     refine s_pu (pu_move rfl) ?_
     refine s_pu (pu_add_as ((k + 1 : Nat) : Int) rfl rfl (by omega) (by omega) (by omega)) ?_
     refine s_pu (pu_assign rfl) ?_
     refine swl_sub _ (.cons (t := 0) rfl (.cons (t := 1) rfl (.cons (t := 2) rfl (.cons (t := 8) rfl (.cons (t := 9) rfl (.cons (t := 10) rfl .nil)))))) ?_
     refine swl_nil ?_
     have e1 : lessK (k + 1) a b c = some e.1 := by
      rw [hsucc]
      cases m with
      | none => rfl
      | some q =>
       have h37' : strLt e.1 q = true := h37
       simp [less1, h37']
     exact then_n ⟨k + 1, ⟨⟨rfl, rfl, rfl, by rw [e1]; rfl, by rw [e1]; rfl, rfl, trivial⟩, rfl, h13'⟩, by omega⟩
    ·skip
     refine swp_skip ?_
     refine block_n ?_
     refine then_n ?_
     refine swp_region ?_
     refine s_pu (pu_move rfl) ?_
     refine s_pu (pu_add_as ((k + 1 : Nat) : Int) rfl rfl (by omega) (by omega) (by omega)) ?_
     refine s_pu (pu_assign rfl) ?_
     refine swl_sub _ (.cons (t := 0) rfl (.cons (t := 1) rfl (.cons (t := 2) rfl (.cons (t := 8) rfl (.cons (t := 9) rfl (.cons (t := 10) rfl .nil)))))) ?_
     refine swl_nil ?_
     have e1 : lessK (k + 1) a b c = m := by
      rw [hsucc]
      cases m with
      | none => cases h29
      | some q =>
       have h37' : strLt e.1 q = false := h37
       simp [less1, h37']
     exact then_n ⟨k + 1, ⟨⟨rfl, rfl, rfl, by rw [e1]; rfl, by rw [e1]; rfl, rfl, trivial⟩, rfl, h13'⟩, by omega⟩
  ·skip
   refine s_off rfl rfl rfl ?_
   refine s_off rfl rfl rfl ?_
   refine s_off rfl rfl rfl ?_
   refine s_off rfl rfl rfl ?_
   refine s_off rfl rfl rfl ?_
   refine s_off rfl rfl rfl ?_
   refine s_off rfl rfl rfl ?_
   refine s_off rfl rfl rfl ?_
   refine s_off rfl rfl rfl ?_
   refine s_off rfl rfl rfl ?_
   first | refine s_pu (pu_pick_t rfl rfl) ?_ | refine s_pu (pu_pick_f rfl rfl) ?_
   refine swl_sub _ (.cons (t := 0) rfl (.cons (t := 1) rfl (.cons (t := 2) rfl (.cons (t := 8) rfl (.cons (t := 9) rfl (.cons (t := 10) rfl (.cons (t := 11) rfl (.cons (t := 37) rfl .nil)))))))) ?_
   refine swl_nil ?_
   refine then_n ?_
   refine swp_cond (b := _) rfl (fun h37 => by cases h37) (fun h37 => ?_)
   refine swp_skip ?_
   refine block_n ?_
   refine then_n ?_
   refine swp_region ?_
   refine s_pu (pu_move rfl) ?_
   refine s_pu (pu_add_as ((k + 1 : Nat) : Int) rfl rfl (by omega) (by omega) (by omega)) ?_
   refine s_pu (pu_assign rfl) ?_
   refine swl_sub _ (.cons (t := 0) rfl (.cons (t := 1) rfl (.cons (t := 2) rfl (.cons (t := 8) rfl (.cons (t := 9) rfl (.cons (t := 10) rfl .nil)))))) ?_
   refine swl_nil ?_
   have h26' := of_decide_eq_false h26
   obtain rfl : l = [] := List.eq_nil_of_length_eq_zero (by omega)
   have e1 : lessK (k + 1) a b c = m := hsucc
   exact then_n ⟨k + 1, ⟨⟨rfl, rfl, rfl, by rw [e1]; rfl, by rw [e1]; rfl, rfl, trivial⟩, rfl, h13'⟩, by omega⟩
 ·skip
  have h13' := of_decide_eq_false h13
  obtain rfl : k = 3 := by omega
  have e1 : leastE a b c = m := hm
  refine swp_exit ?_
  refine then_x ?_
  refine then_x ?_
  refine block_hit rfl ?_
  refine then_n ?_
  refine swp_seq ?_
  refine swp_region ?_
  refine s_pu (pu_move rfl) ?_
  refine s_pu (pu_move rfl) ?_
  refine s_pu (pu_assign rfl) ?_
  refine s_pu (pu_assign rfl) ?_
  refine swl_sub _ (.cons (t := 6) rfl (.cons (t := 7) rfl .nil)) ?_
  refine swl_nil ?_
  refine then_n ?_
  refine swp_ret ?_
  exact done_ret [ro μ] (.tmp rfl (.tmp rfl .nil)) ⟨by rw [e1]; rfl, rfl⟩ (by repeat (first | exact Split.nil | (apply Split.cons; (repeat (first | with_reducible exact Take.here | apply Take.there)))))
end SX
namespace SX
open Go Go.Proofs
theorem cfs_app (a b : List Cf) : cfs (a ++ b) = cfs a ++ cfs b := List.flatMap_append
theorem outR_add (R : List Rw) (p : ByteArray) {b o t : Int} (h : ¬ (oneE b o t).1 = 0) : (outR (R ++ [(p, b, o, t)])).length = (outR R).length + 1 ∧ ens (outR (R ++ [(p, b, o, t)])) = ens (outR R) ++ [.string p, .int .u32 (oneE b o t).1] := by
  have e : outR1 (p, b, o, t) = [(p, (oneE b o t).1)] := if_neg h
  rw [outR_succ, e, ens_app, List.length_append]; exact ⟨rfl, rfl⟩
theorem outR_same (R : List Rw) (p : ByteArray) {b o t : Int} (h : (oneE b o t).1 = 0) : outR (R ++ [(p, b, o, t)]) = outR R := by
  have e : outR1 (p, b, o, t) = [] := if_pos h
  rw [outR_succ, e, List.append_nil]
theorem cfR_add (R : List Rw) (p : ByteArray) {b o t : Int} (h : (oneE b o t).2 = true) : (cfR (R ++ [(p, b, o, t)])).length = (cfR R).length + 1 ∧ cfs (cfR (R ++ [(p, b, o, t)])) = cfs (cfR R) ++ [.string p, .int .u32 b, .int .u32 o, .int .u32 t] := by
  have e : cfR1 (p, b, o, t) = [(p, b, o, t)] := if_pos h
  rw [cfR_succ, e, cfs_app, List.length_append]; exact ⟨rfl, rfl⟩
theorem cfR_same (R : List Rw) (p : ByteArray) {b o t : Int} (h : (oneE b o t).2 = false) : cfR (R ++ [(p, b, o, t)]) = cfR R := by
  have e : cfR1 (p, b, o, t) = [] := if_neg (fun k => by rw [show (oneE b o t).2 = true from k] at h; cases h)
  rw [cfR_succ, e, List.append_nil]
structure RS where
  n : Nat
  a : List En
  b : List En
  c : List En
  va : Value
  vb : Value
  vc : Value
  R : List Rw
  v8 : Value
  v9 : Value
set_option maxHeartbeats 4000000 in
theorem rthree_spec (μ : PH) (va vb vc : Value) (a b c : List En) (ha : Row μ va 2 a.length (ens a)) (hb : Row μ vb 2 b.length (ens b)) (hc : Row μ vc 2 c.length (ens c)) (hsz : a.length ≤ 1048576 ∧ b.length ≤ 1048576 ∧ c.length ≤ 1048576)
  (hu : U32s a ∧ U32s b ∧ U32s c) : Spec Tryz.prog 25 [va, vb, vc] [ro μ] (fun r L => ∃ v8 v9 rs, rs = rowsF (a.length + b.length + c.length) a b c ∧ r = .tuple #[v8, v9] ∧ L = [own 49 2 v8 (outR rs).length (ens (outR rs)), own 88 4 v9 (cfR rs).length (cfs (cfR rs)), ro μ]) := by
 generalize hN : a.length + b.length + c.length = N
 refine Spec.of 70 Tryz.func25 rfl rfl rfl ?_
 refine swp_seq ?_
 refine swp_region ?_
 refine s_pu (pu_assign rfl) ?_
 refine s_pu (pu_assign rfl) ?_
 refine swl_sub _ (.cons (t := 0) rfl (.cons (t := 1) rfl (.cons (t := 2) rfl .nil))) ?_
 refine swl_nil ?_
 refine then_n ?_
 refine swp_seq ?_
 refine swp_region ?_
 refine s_pu (pu_assign rfl) ?_
 refine swl_sub _ (.cons (t := 0) rfl (.cons (t := 1) rfl (.cons (t := 2) rfl (.cons (t := 8) rfl .nil)))) ?_
 refine swl_nil ?_
 refine then_n ?_
 refine swp_seq ?_
 refine swp_region ?_
 refine s_pu (pu_assign rfl) ?_
 refine swl_sub _ (.cons (t := 0) rfl (.cons (t := 1) rfl (.cons (t := 2) rfl (.cons (t := 8) rfl (.cons (t := 9) rfl .nil))))) ?_
 refine swl_nil ?_
 refine then_n ?_
 refine swp_block ?_
 refine swp_ent (show Ent _ (own 49 2 (.slice none 0 0) (outR []).length (ens (outR [])) :: _) from own_nil_ent) ?_
 refine swp_ent (show Ent _ (own 88 4 (.slice none 0 0) (cfR []).length (cfs (cfR [])) :: _) from own_nil_ent) ?_
 refine swp_loop (ι := RS) (fun s env L => Sub env [(0, s.va), (1, s.vb), (2, s.vc), (8, s.v8), (9, s.v9)] ∧ Ent L [own 49 2 s.v8 (outR s.R).length (ens (outR s.R)), own 88 4 s.v9 (cfR s.R).length (cfs (cfR s.R)), ro μ] ∧
  (Row μ s.va 2 s.a.length (ens s.a) ∧ Row μ s.vb 2 s.b.length (ens s.b) ∧ Row μ s.vc 2 s.c.length (ens s.c)) ∧ (s.a.length ≤ 1048576 ∧ s.b.length ≤ 1048576 ∧ s.c.length ≤ 1048576) ∧ (U32s s.a ∧ U32s s.b ∧ U32s s.c) ∧
  s.a.length + s.b.length + s.c.length ≤ s.n ∧ s.R ++ rowsF s.n s.a s.b s.c = rowsF N a b c ∧ s.R.length + s.n ≤ N) (fun s => s.n) ⟨N, a, b, c, va, vb, vc, [], .slice none 0 0, .slice none 0 0⟩
  ⟨⟨rfl, rfl, rfl, rfl, rfl, trivial⟩, Split.ent' (by repeat (first | exact Split.nil | (apply Split.cons; (repeat (first | with_reducible exact Take.here | apply Take.there))))), ⟨ha, hb, hc⟩, hsz, hu, by rw [hN]; exact Nat.le_refl _, rfl, by simp⟩ ?_
 rintro ⟨n, a1, b1, c1, wa, wb, wc, R, v8, v9⟩ env L ⟨hsub, hE, ⟨ra, rb, rc⟩, hs1, ⟨ua, ub, uc⟩, hn, hR, hRn⟩
 simp only [] at hsub hE ra rb rc hs1 ua ub uc hn hR hRn
 refine swp_sub _ hsub ?_
 refine swp_ent hE ?_
 clear hsub hE env L
 dsimp only
 have hol := outR_len R
 have hcl := cfR_len R
 refine swp_block ?_
 refine swp_seq ?_
 refine swp_region ?_
 refine s_pu (pu_move rfl) ?_
 refine s_pu (pu_move rfl) ?_
 refine s_pu (pu_move rfl) ?_
 refine s_ef (ef_fn (least_walk μ wa wb wc a1 b1 c1 ra rb rc hs1) rfl rfl (by repeat (first | exact Split.nil | (apply Split.cons; (repeat (first | with_reducible exact Take.here | apply Take.there)))))) ?_
 rintro v21 L1 ⟨rfl, rfl⟩
 refine swl_app ?_
 refine s_pu (pu_move rfl) ?_
 first | refine s_pu (pu_extractL rfl) ?_ | refine s_pu (pu_extract rfl rfl) ?_
 first | refine s_pu (pu_extractL rfl) ?_ | refine s_pu (pu_extract rfl rfl) ?_
 refine s_pu (pu_assign rfl) ?_
 refine s_pu (pu_assign rfl) ?_
 refine swl_sub _ (.cons (t := 0) rfl (.cons (t := 1) rfl (.cons (t := 2) rfl (.cons (t := 8) rfl (.cons (t := 9) rfl (.cons (t := 10) rfl (.cons (t := 11) rfl .nil))))))) ?_
 refine swl_nil ?_
 refine then_n ?_
 refine swp_seq ?_
 refine swp_seq ?_
 refine swp_region ?_
 refine s_pu (pu_move rfl) ?_
 refine s_pu (pu_not rfl) ?_
 refine swl_sub _ (.cons (t := 0) rfl (.cons (t := 1) rfl (.cons (t := 2) rfl (.cons (t := 8) rfl (.cons (t := 9) rfl (.cons (t := 10) rfl (.cons (t := 25) rfl .nil))))))) ?_
 refine swl_nil ?_
 refine then_n ?_
 refine swp_cond (b := _) rfl (fun h25 => ?_) (fun h25 => ?_)
 ·skip
  have hno : leastE a1 b1 c1 = none := by
   cases hh : leastE a1 b1 c1 with
   | none => rfl
   | some p => rw [hh] at h25; cases h25
  rw [rowsF_none hno, List.append_nil] at hR
  refine swp_seq ?_
  refine swp_region ?_
  refine s_pu (pu_move rfl) ?_
  refine s_pu (pu_move rfl) ?_
  refine s_pu (pu_assign rfl) ?_
  refine s_pu (pu_assign rfl) ?_
  refine swl_sub _ (.cons (t := 6) rfl (.cons (t := 7) rfl .nil)) ?_
  refine swl_nil ?_
  refine then_n ?_
  refine swp_ret ?_
  refine then_r ?_
  refine block_r ?_
  refine then_r ?_
  refine block_r ?_
  exact done_ret [own 49 2 v8 (outR R).length (ens (outR R)), own 88 4 v9 (cfR R).length (cfs (cfR R)), ro μ] (.tmp rfl (.tmp rfl .nil)) ⟨v8, v9, R, hR, rfl, rfl⟩ (by repeat (first | exact Split.nil | (apply Split.cons; (repeat (first | with_reducible exact Take.here | apply Take.there)))))
 ·skip
  obtain ⟨p, hp⟩ : ∃ p, leastE a1 b1 c1 = some p := by
   cases hh : leastE a1 b1 c1 with
   | none => rw [hh] at h25; cases h25
   | some p => exact ⟨p, rfl⟩
  rw [hp, show strD (some p) = p from rfl]
  have htot := at_total hp
  have la1 := atE_len a1 p
  have lb1 := atE_len b1 p
  have lc1 := atE_len c1 p
  have hrow := rowsF_some (n := n - 1) hp
  rw [show n - 1 + 1 = n by omega] at hrow
  rw [hrow] at hR
  refine swp_skip ?_
  refine then_n ?_
  refine swp_seq ?_
  refine swp_region ?_
  refine s_pu (pu_assign rfl) ?_
  refine s_pu (pu_assign rfl) ?_
  refine s_pu (pu_assign rfl) ?_
  refine swl_sub _ (.cons (t := 0) rfl (.cons (t := 1) rfl (.cons (t := 2) rfl (.cons (t := 8) rfl (.cons (t := 9) rfl (.cons (t := 10) rfl .nil)))))) ?_
  refine swl_nil ?_
  refine then_n ?_
  refine swp_seq ?_
  refine swp_region ?_
  refine s_pu (pu_move rfl) ?_
  refine s_pu (pu_move rfl) ?_
  refine s_ef (ef_fn (at_walk μ wa a1 p ra hs1.1) rfl rfl (by repeat (first | exact Split.nil | (apply Split.cons; (repeat (first | with_reducible exact Take.here | apply Take.there)))))) ?_
  rintro v31 L1 ⟨wa', rfl, ra', rfl⟩
  refine swl_app ?_
  refine s_pu (pu_move rfl) ?_
  first | refine s_pu (pu_extractL rfl) ?_ | refine s_pu (pu_extract rfl rfl) ?_
  first | refine s_pu (pu_extractL rfl) ?_ | refine s_pu (pu_extract rfl rfl) ?_
  refine s_pu (pu_assign rfl) ?_
  refine s_pu (pu_assign rfl) ?_
  refine swl_sub _ (.cons (t := 0) rfl (.cons (t := 1) rfl (.cons (t := 2) rfl (.cons (t := 8) rfl (.cons (t := 9) rfl (.cons (t := 10) rfl (.cons (t := 12) rfl .nil))))))) ?_
  refine swl_nil ?_
  refine then_n ?_
  refine swp_seq ?_
  refine swp_region ?_
  refine s_pu (pu_move rfl) ?_
  refine s_pu (pu_move rfl) ?_
  refine s_ef (ef_fn (at_walk μ wb b1 p rb hs1.2.1) rfl rfl (by repeat (first | exact Split.nil | (apply Split.cons; (repeat (first | with_reducible exact Take.here | apply Take.there)))))) ?_
  rintro v37 L1 ⟨wb', rfl, rb', rfl⟩
  refine swl_app ?_
  refine s_pu (pu_move rfl) ?_
  first | refine s_pu (pu_extractL rfl) ?_ | refine s_pu (pu_extract rfl rfl) ?_
  first | refine s_pu (pu_extractL rfl) ?_ | refine s_pu (pu_extract rfl rfl) ?_
  refine s_pu (pu_assign rfl) ?_
  refine s_pu (pu_assign rfl) ?_
  refine swl_sub _ (.cons (t := 0) rfl (.cons (t := 1) rfl (.cons (t := 2) rfl (.cons (t := 8) rfl (.cons (t := 9) rfl (.cons (t := 10) rfl (.cons (t := 12) rfl (.cons (t := 13) rfl .nil)))))))) ?_
  refine swl_nil ?_
  refine then_n ?_
  refine swp_seq ?_
  refine swp_region ?_
  refine s_pu (pu_move rfl) ?_
  refine s_pu (pu_move rfl) ?_
  refine s_ef (ef_fn (at_walk μ wc c1 p rc hs1.2.2) rfl rfl (by repeat (first | exact Split.nil | (apply Split.cons; (repeat (first | with_reducible exact Take.here | apply Take.there)))))) ?_
  rintro v43 L1 ⟨wc', rfl, rc', rfl⟩
  refine swl_app ?_
  refine s_pu (pu_move rfl) ?_
  first | refine s_pu (pu_extractL rfl) ?_ | refine s_pu (pu_extract rfl rfl) ?_
  first | refine s_pu (pu_extractL rfl) ?_ | refine s_pu (pu_extract rfl rfl) ?_
  refine s_pu (pu_assign rfl) ?_
  refine s_pu (pu_assign rfl) ?_
  refine swl_sub _ (.cons (t := 0) rfl (.cons (t := 1) rfl (.cons (t := 2) rfl (.cons (t := 8) rfl (.cons (t := 9) rfl (.cons (t := 10) rfl (.cons (t := 12) rfl (.cons (t := 13) rfl (.cons (t := 14) rfl .nil))))))))) ?_
  refine swl_nil ?_
  refine then_n ?_
  refine swp_seq ?_
  refine swp_region ?_
  refine s_pu (pu_move rfl) ?_
  refine s_pu (pu_move rfl) ?_
  refine s_pu (pu_move rfl) ?_
  refine s_ef (ef_fn (one_spec (ua.at1 p) (ub.at1 p) (uc.at1 p)) rfl rfl (by repeat (first | exact Split.nil | (apply Split.cons; (repeat (first | with_reducible exact Take.here | apply Take.there)))))) ?_
  rintro v50 L1 ⟨rfl, rfl⟩
  refine swl_app ?_
  refine s_pu (pu_move rfl) ?_
  first | refine s_pu (pu_extractL rfl) ?_ | refine s_pu (pu_extract rfl rfl) ?_
  first | refine s_pu (pu_extractL rfl) ?_ | refine s_pu (pu_extract rfl rfl) ?_
  refine s_pu (pu_assign rfl) ?_
  refine s_pu (pu_assign rfl) ?_
  refine swl_sub _ (.cons (t := 0) rfl (.cons (t := 1) rfl (.cons (t := 2) rfl (.cons (t := 8) rfl (.cons (t := 9) rfl (.cons (t := 10) rfl (.cons (t := 12) rfl (.cons (t := 13) rfl (.cons (t := 14) rfl (.cons (t := 15) rfl (.cons (t := 16) rfl .nil))))))))))) ?_
  refine swl_nil ?_
  refine then_n ?_
  refine swp_cut (fun env L => ∃ v8', Sub env [(0, wa'), (1, wb'), (2, wc'), (8, v8'), (9, v9), (10, .string p), (12, .int .u32 (atE a1 p).1), (13, .int .u32 (atE b1 p).1), (14, .int .u32 (atE c1 p).1), (16, .bool (oneE (atE a1 p).1 (atE b1 p).1 (atE c1 p).1).2)] ∧
    Ent L [own 49 2 v8' (outR (R ++ [(p, (atE a1 p).1, (atE b1 p).1, (atE c1 p).1)])).length (ens (outR (R ++ [(p, (atE a1 p).1, (atE b1 p).1, (atE c1 p).1)]))), own 88 4 v9 (cfR R).length (cfs (cfR R)), ro μ]) ?_ ?_
  ·skip
   refine swp_seq ?_
   refine swp_region ?_
   refine s_pu (pu_move rfl) ?_
   refine s_pu (pu_neq rfl rfl) ?_
   refine swl_sub _ (.cons (t := 0) rfl (.cons (t := 1) rfl (.cons (t := 2) rfl (.cons (t := 8) rfl (.cons (t := 9) rfl (.cons (t := 10) rfl (.cons (t := 12) rfl (.cons (t := 13) rfl (.cons (t := 14) rfl (.cons (t := 15) rfl (.cons (t := 16) rfl (.cons (t := 54) rfl .nil)))))))))))) ?_
   refine swl_nil ?_
   refine then_n ?_
   refine swp_cond (b := _) rfl (fun h54 => ?_) (fun h54 => ?_)
   ·skip
    refine swp_region ?_
    refine s_pu (pu_move rfl) ?_
    refine s_pu (pu_move rfl) ?_
    refine s_pu (pu_move rfl) ?_
    refine s_pu (pu_bld (qs := [(0, _), (1, _)]) rfl) ?_
    refine s_ef (ef_bldS (qs := [(0, _)]) rfl rfl rfl) ?_
    intro b59
    refine s_ef (ef_append_lit (l := (outR R).length) (m := 1) rfl rfl (by repeat (first | exact Split.nil | (apply Split.cons; (repeat (first | with_reducible exact Take.here | apply Take.there))))) (by simp only [maxLen]; omega) (by omega)) ?_
    rintro v60 -
    skip
    refine s_pu (pu_assign rfl) ?_
    refine swl_sub _ (.cons (t := 0) rfl (.cons (t := 1) rfl (.cons (t := 2) rfl (.cons (t := 8) rfl (.cons (t := 9) rfl (.cons (t := 10) rfl (.cons (t := 12) rfl (.cons (t := 13) rfl (.cons (t := 14) rfl (.cons (t := 16) rfl .nil)))))))))) ?_
    refine swl_nil ?_
    have h54' : ¬ (oneE (atE a1 p).1 (atE b1 p).1 (atE c1 p).1).1 = 0 := by simpa using h54
    refine then_n ⟨v60, ⟨rfl, rfl, rfl, rfl, rfl, rfl, rfl, rfl, rfl, rfl, trivial⟩, ?_⟩
    obtain ⟨q1, q2⟩ := outR_add R p h54'
    rw [q1, q2]
    exact Split.ent' (by repeat (first | exact Split.nil | (apply Split.cons; (repeat (first | with_reducible exact Take.here | apply Take.there)))))
   ·skip
    refine swp_skip ?_
    have h54' : (oneE (atE a1 p).1 (atE b1 p).1 (atE c1 p).1).1 = 0 := by simpa using h54
    refine then_n ⟨v8, ⟨rfl, rfl, rfl, rfl, rfl, rfl, rfl, rfl, rfl, rfl, trivial⟩, ?_⟩
    rw [outR_same R p h54']
    exact Split.ent' (by repeat (first | exact Split.nil | (apply Split.cons; (repeat (first | with_reducible exact Take.here | apply Take.there)))))
  rintro env L ⟨v8', hsub, hE⟩
  refine swp_sub _ hsub ?_
  refine swp_ent hE ?_
  clear hsub hE env L
  refine swp_seq ?_
  refine swp_region ?_
  refine s_pu (pu_move rfl) ?_
  refine swl_sub _ (.cons (t := 0) rfl (.cons (t := 1) rfl (.cons (t := 2) rfl (.cons (t := 8) rfl (.cons (t := 9) rfl (.cons (t := 10) rfl (.cons (t := 12) rfl (.cons (t := 13) rfl (.cons (t := 14) rfl (.cons (t := 61) rfl .nil)))))))))) ?_
  refine swl_nil ?_
  refine then_n ?_
  refine swp_cond (b := _) rfl (fun h61 => ?_) (fun h61 => ?_)
  ·skip
   refine swp_region ?_
   refine s_pu (pu_move rfl) ?_
   refine s_pu (pu_move rfl) ?_
   refine s_pu (pu_move rfl) ?_
   refine s_pu (pu_move rfl) ?_
   refine s_pu (pu_move rfl) ?_
   refine s_pu (pu_bld (qs := [(0, _), (1, _), (2, _), (3, _)]) rfl) ?_
   refine s_ef (ef_bldS (qs := [(0, _)]) rfl rfl rfl) ?_
   intro b68
   refine s_ef (ef_append_lit (l := (cfR R).length) (m := 1) rfl rfl (by repeat (first | exact Split.nil | (apply Split.cons; (repeat (first | with_reducible exact Take.here | apply Take.there))))) (by simp only [maxLen]; omega) (by omega)) ?_
   rintro v69 -
   skip
   refine s_pu (pu_assign rfl) ?_
   refine swl_sub _ (.cons (t := 0) rfl (.cons (t := 1) rfl (.cons (t := 2) rfl (.cons (t := 8) rfl (.cons (t := 9) rfl .nil))))) ?_
   refine swl_nil ?_
   refine block_n ?_
   refine then_n ⟨⟨n - 1, (atE a1 p).2, (atE b1 p).2, (atE c1 p).2, wa', wb', wc', R ++ [(p, (atE a1 p).1, (atE b1 p).1, (atE c1 p).1)], v8', v69⟩, ⟨⟨rfl, rfl, rfl, rfl, rfl, trivial⟩, ?_, ⟨ra', rb', rc'⟩, by dsimp only; omega, ⟨ua.at2 p, ub.at2 p, uc.at2 p⟩, by dsimp only; omega, by rw [List.append_assoc]; exact hR, by rw [List.length_append]; show R.length + 1 + (n - 1) ≤ N; omega⟩, by show n - 1 < n; omega⟩
   dsimp only
   obtain ⟨q1, q2⟩ := cfR_add R p h61
   rw [q1, q2]
   exact Split.ent' (by repeat (first | exact Split.nil | (apply Split.cons; (repeat (first | with_reducible exact Take.here | apply Take.there)))))
  ·skip
   refine swp_skip ?_
   refine block_n ?_
   refine then_n ⟨⟨n - 1, (atE a1 p).2, (atE b1 p).2, (atE c1 p).2, wa', wb', wc', R ++ [(p, (atE a1 p).1, (atE b1 p).1, (atE c1 p).1)], v8', v9⟩, ⟨⟨rfl, rfl, rfl, rfl, rfl, trivial⟩, ?_, ⟨ra', rb', rc'⟩, by dsimp only; omega, ⟨ua.at2 p, ub.at2 p, uc.at2 p⟩, by dsimp only; omega, by rw [List.append_assoc]; exact hR, by rw [List.length_append]; show R.length + 1 + (n - 1) ≤ N; omega⟩, by show n - 1 < n; omega⟩
   dsimp only
   rw [cfR_same R p h61]
   exact Split.ent' (by repeat (first | exact Split.nil | (apply Split.cons; (repeat (first | with_reducible exact Take.here | apply Take.there)))))
end SX
namespace SX
open Go Go.Proofs
abbrev sts (l : List ByteArray) : List Value := l.flatMap scsv
theorem sts_app (a b : List ByteArray) : sts (a ++ b) = sts a ++ sts b := List.flatMap_append
/-- the paths of the first i of three -/
def psK (a b c : List En) (i : Nat) : List ByteArray := ([a, b, c].take i).flatMap fun l => l.map (·.1)
theorem psK_succ {a b c l : List En} {i : Nat} (h : [a, b, c][i]? = some l) : psK a b c (i + 1) = psK a b c i ++ l.map (·.1) := by
  unfold psK; rw [List.take_add_one, h, List.flatMap_append]; simp
theorem psK_all (a b c : List En) : psK a b c 3 = a.map (·.1) ++ b.map (·.1) ++ c.map (·.1) := by
  simp [psK]
theorem psK_len {a b c : List En} {m : Nat} (hs : a.length ≤ m ∧ b.length ≤ m ∧ c.length ≤ m) {i : Nat} (hi : i ≤ 3) : (psK a b c i).length ≤ i * m := by
  unfold psK
  rcases Nat.lt_or_ge i 1 with h | h
  · obtain rfl : i = 0 := by omega
    simp
  · rcases Nat.lt_or_ge i 2 with h | h
    · obtain rfl : i = 1 := by omega
      simp; omega
    · rcases Nat.lt_or_ge i 3 with h | h
      · obtain rfl : i = 2 := by omega
        simp; omega
      · obtain rfl : i = 3 := by omega
        simp; omega
set_option maxHeartbeats 2000000 in
theorem paths_spec0 (μ : PH) (g : Nat) (va vb vc : Value) (a b c : List En) (ha : Row μ va 2 a.length (ens a)) (hb : Row μ vb 2 b.length (ens b)) (hc : Row μ vc 2 c.length (ens c)) (hsz : a.length ≤ 1048576 ∧ b.length ≤ 1048576 ∧ c.length ≤ 1048576) :
  Spec Tryz.prog 34 [.slice (some ⟨g, 0, none⟩) 3 3] [blk g 35 [va, vb, vc], ro μ] (fun r L => L = [own 9 1 r (cptS (srtS (psK a b c 3))).length (sts (cptS (srtS (psK a b c 3)))), ro μ]) := by
 have hT : ∀ i, i < 3 → ∃ l v, [a, b, c][i]? = some l ∧ [va, vb, vc][i]? = some v ∧ Row μ v 2 l.length (ens l) ∧ l.length ≤ 1048576 := by
  intro i hi
  rcases Nat.lt_or_ge i 1 with h | h
  ·obtain rfl : i = 0 := by omega
   exact ⟨a, va, rfl, rfl, ha, hsz.1⟩
  ·rcases Nat.lt_or_ge i 2 with h | h
   ·obtain rfl : i = 1 := by omega
    exact ⟨b, vb, rfl, rfl, hb, hsz.2.1⟩
   ·obtain rfl : i = 2 := by omega
    exact ⟨c, vc, rfl, rfl, hc, hsz.2.2⟩
 refine Spec.of 31 Tryz.func34 rfl rfl rfl ?_
 refine swp_seq ?_
 refine swp_region ?_
 refine s_pu (pu_assign rfl) ?_
 refine swl_sub _ (.cons (t := 0) rfl .nil) ?_
 refine swl_nil ?_
 refine then_n ?_
 refine swp_seq ?_
 refine swp_region ?_
 refine s_pu (pu_assign rfl) ?_
 refine swl_sub _ (.cons (t := 0) rfl (.cons (t := 3) rfl .nil)) ?_
 refine swl_nil ?_
 refine then_n ?_
 refine swp_seq ?_
 refine swp_seq ?_
 refine swp_region ?_
 refine s_pu (pu_move rfl) ?_
 refine s_pu (pu_len rfl) ?_
 refine s_pu (pu_move rfl) ?_
 refine swl_sub _ (.cons (t := 3) rfl (.cons (t := 8) rfl (.cons (t := 9) rfl (.cons (t := 10) rfl .nil)))) ?_
 refine swl_nil ?_
 refine then_n ?_
 refine swp_block ?_
 refine swp_ent (show Ent _ (own 9 1 (.slice none 0 0) (psK a b c 0).length (sts (psK a b c 0)) :: _) from own_nil_ent) ?_
 refine swp_loop (ι := Nat × Value) (fun k env L => Sub env [(3, k.2), (8, .slice (some ⟨g, 0, none⟩) 3 3), (9, .int .i64 3), (10, .int .i64 (k.1 : Nat))] ∧ Ent L [own 9 1 k.2 (psK a b c k.1).length (sts (psK a b c k.1)), blk g 35 [va, vb, vc], ro μ] ∧ k.1 ≤ 3) (fun k => 3 - k.1) (0, .slice none 0 0) ⟨⟨rfl, rfl, rfl, rfl, trivial⟩, Split.ent' (by repeat (first | exact Split.nil | (apply Split.cons; (repeat (first | with_reducible exact Take.here | apply Take.there))))), Nat.zero_le _⟩ ?_
 rintro ⟨i, v3⟩ env L ⟨hsub, hE, hi⟩
 simp only [] at hsub hE hi
 refine swp_sub _ hsub ?_
 refine swp_ent hE ?_
 clear hsub hE env L
 dsimp only
 refine swp_seq ?_
 refine swp_region ?_
 refine s_pu (pu_lss rfl rfl) ?_
 refine swl_sub _ (.cons (t := 3) rfl (.cons (t := 8) rfl (.cons (t := 9) rfl (.cons (t := 10) rfl (.cons (t := 11) rfl .nil))))) ?_
 refine swl_nil ?_
 refine then_n ?_
 refine swp_seq ?_
 refine swp_cond (b := _) rfl (fun h11 => ?_) (fun h11 => ?_)
 ·skip
  have h11' : i < 3 := by have := of_decide_eq_true h11; omega
  obtain ⟨l, vl, hl, hvl, hrow, hll⟩ := hT i h11'
  have hpl := psK_len hsz hi
  refine swp_skip ?_
  refine then_n ?_
  refine swp_seq ?_
  refine swp_block ?_
  refine swp_seq ?_
  refine swp_region ?_
  refine s_pu (pu_indexAddr i rfl rfl (by omega) (by omega) (by rw [Int.toNat_natCast]; omega)) ?_
  refine s_rd (rd_load rfl hvl) ?_
  refine s_pu (pu_assign rfl) ?_
  refine swl_sub _ (.cons (t := 3) rfl (.cons (t := 5) rfl (.cons (t := 8) rfl (.cons (t := 9) rfl (.cons (t := 10) rfl .nil))))) ?_
  refine swl_nil ?_
  refine then_n ?_
  refine swp_seq ?_
  refine swp_region ?_
  refine s_pu (pu_move rfl) ?_
  refine s_pu (pu_len_row hrow rfl) ?_
  refine s_pu (pu_move rfl) ?_
  refine swl_sub _ (.cons (t := 3) rfl (.cons (t := 8) rfl (.cons (t := 9) rfl (.cons (t := 10) rfl (.cons (t := 14) rfl (.cons (t := 15) rfl (.cons (t := 16) rfl .nil))))))) ?_
  refine swl_nil ?_
  refine then_n ?_
  refine swp_block ?_
  refine swp_ent (show Ent _ [own 9 1 v3 (psK a b c i ++ (l.take 0).map (·.1)).length (sts (psK a b c i ++ (l.take 0).map (·.1))), blk g 35 [va, vb, vc], ro μ] from (by rw [List.take_zero, List.map_nil, List.append_nil]; exact Split.ent' (by repeat (first | exact Split.nil | (apply Split.cons; (repeat (first | with_reducible exact Take.here | apply Take.there))))))) ?_
  refine swp_loop (ι := Nat × Value) (fun k env L => Sub env [(3, k.2), (8, .slice (some ⟨g, 0, none⟩) 3 3), (9, .int .i64 3), (10, .int .i64 (i : Nat)), (14, vl), (15, .int .i64 (l.length : Nat)), (16, .int .i64 (k.1 : Nat))] ∧ Ent L [own 9 1 k.2 (psK a b c i ++ (l.take k.1).map (·.1)).length (sts (psK a b c i ++ (l.take k.1).map (·.1))), blk g 35 [va, vb, vc], ro μ] ∧ k.1 ≤ l.length) (fun k => l.length - k.1) (0, v3) ⟨⟨rfl, rfl, rfl, rfl, rfl, rfl, rfl, trivial⟩, Split.ent' (by repeat (first | exact Split.nil | (apply Split.cons; (repeat (first | with_reducible exact Take.here | apply Take.there))))), Nat.zero_le _⟩ ?_
  rintro ⟨j, v4⟩ env L ⟨hsub, hE, hj⟩
  simp only [] at hsub hE hj
  refine swp_sub _ hsub ?_
  refine swp_ent hE ?_
  clear hsub hE env L
  dsimp only
  refine swp_seq ?_
  refine swp_region ?_
  refine s_pu (pu_lss rfl rfl) ?_
  refine swl_sub _ (.cons (t := 3) rfl (.cons (t := 8) rfl (.cons (t := 9) rfl (.cons (t := 10) rfl (.cons (t := 14) rfl (.cons (t := 15) rfl (.cons (t := 16) rfl (.cons (t := 17) rfl .nil)))))))) ?_
  refine swl_nil ?_
  refine then_n ?_
  refine swp_seq ?_
  refine swp_cond (b := _) rfl (fun h17 => ?_) (fun h17 => ?_)
  ·skip
   have h17' : j < l.length := by have := of_decide_eq_true h17; omega
   obtain ⟨e, he⟩ : ∃ e, l[j]? = some e := ⟨_, List.getElem?_eq_getElem h17'⟩
   obtain ⟨gb, off, cap, hv, hra, hc0, hc1⟩ := tree_at hrow he
   have hql : (psK a b c i ++ (l.take j).map (·.1)).length ≤ 4194304 := by rw [List.length_append, List.length_map, List.length_take]; omega
   refine swp_skip ?_
   refine then_n ?_
   refine swp_seq ?_
   refine swp_block ?_
   refine swp_seq ?_
   refine swp_region ?_
   refine s_pu (pu_indexAddr (off + j * 2) (congrArg some hv) rfl (by omega) (by omega) (by rw [Int.toNat_natCast])) ?_
   refine s_rd (rd_roA rfl rfl hra) ?_
   refine s_ef (ef_alloc) ?_
   intro b7
   refine s_ef0 (ef_storeA rfl rfl rfl rfl) ?_
   refine swl_sub _ (.cons (t := 3) rfl (.cons (t := 7) rfl (.cons (t := 8) rfl (.cons (t := 9) rfl (.cons (t := 10) rfl (.cons (t := 14) rfl (.cons (t := 15) rfl (.cons (t := 16) rfl .nil)))))))) ?_
   refine swl_nil ?_
   refine then_n ?_
   refine swp_region ?_
   refine s_pu (pu_move rfl) ?_
   first | refine s_pu (pu_fieldAddr0 rfl) ?_ | refine s_pu (pu_fieldAddr rfl) ?_
   refine s_rd (rd_load rfl rfl) ?_
   refine s_ef (ef_bldS (qs := [(0, _)]) rfl rfl rfl) ?_
   intro b23
   refine s_ef (ef_append_lit (m := 1) rfl rfl (by repeat (first | exact Split.nil | (apply Split.cons; (repeat (first | with_reducible exact Take.here | apply Take.there))))) (by simp only [maxLen]; omega) (by omega)) ?_
   rintro v24 -
   skip
   refine s_pu (pu_assign rfl) ?_
   refine swl_sub _ (.cons (t := 3) rfl (.cons (t := 8) rfl (.cons (t := 9) rfl (.cons (t := 10) rfl (.cons (t := 14) rfl (.cons (t := 15) rfl (.cons (t := 16) rfl .nil))))))) ?_
   refine swl_nil ?_
   refine block_n ?_
   refine then_n ?_
   refine swp_region ?_
   refine s_pu (pu_add_as ((j + 1 : Nat) : Int) rfl rfl (by omega) (by omega) (by omega)) ?_
   refine s_pu (pu_move rfl) ?_
   refine swl_sub _ (.cons (t := 3) rfl (.cons (t := 8) rfl (.cons (t := 9) rfl (.cons (t := 10) rfl (.cons (t := 14) rfl (.cons (t := 15) rfl (.cons (t := 16) rfl .nil))))))) ?_
   refine swl_nil ?_
   refine then_n ⟨(j + 1, v24), ⟨⟨rfl, rfl, rfl, rfl, rfl, rfl, rfl, trivial⟩, ?_, h17'⟩, by show l.length - (j + 1) < l.length - j; omega⟩
   have q0 : psK a b c i ++ (l.take (j + 1)).map (·.1) = (psK a b c i ++ (l.take j).map (·.1)) ++ [e.1] := by
    rw [List.take_add_one, he, List.map_append, List.append_assoc]; rfl
   have q1 : ∀ q : List ByteArray, (q ++ [e.1]).length = q.length + 1 ∧ sts (q ++ [e.1]) = sts q ++ [.string e.1] := fun q => ⟨by rw [List.length_append]; rfl, by rw [sts_app]; rfl⟩
   show Ent _ [own 9 1 v24 (psK a b c i ++ (l.take (j + 1)).map (·.1)).length (sts (psK a b c i ++ (l.take (j + 1)).map (·.1))), blk g 35 [va, vb, vc], ro μ]
   rw [q0, (q1 _).1, (q1 _).2]
   exact Split.ent' (by repeat (first | exact Split.nil | (apply Split.cons; (repeat (first | with_reducible exact Take.here | apply Take.there)))))
  ·skip
   have h17' := of_decide_eq_false h17
   obtain rfl : j = l.length := by omega
   rw [List.take_length, ← psK_succ hl]
   refine swp_exit ?_
   refine then_x ?_
   refine then_x ?_
   refine block_hit rfl ?_
   refine block_n ?_
   refine then_n ?_
   refine swp_region ?_
   refine s_pu (pu_add_as ((i + 1 : Nat) : Int) rfl rfl (by omega) (by omega) (by omega)) ?_
   refine s_pu (pu_move rfl) ?_
   refine swl_sub _ (.cons (t := 3) rfl (.cons (t := 8) rfl (.cons (t := 9) rfl (.cons (t := 10) rfl .nil)))) ?_
   refine swl_nil ?_
   exact then_n ⟨(i + 1, v4), ⟨⟨rfl, rfl, rfl, rfl, trivial⟩, Split.ent' (by repeat (first | exact Split.nil | (apply Split.cons; (repeat (first | with_reducible exact Take.here | apply Take.there))))), h11'⟩, by show 3 - (i + 1) < 3 - i; omega⟩
 ·skip
  have h11' := of_decide_eq_false h11
  obtain rfl : i = 3 := by omega
  have hpl := psK_len hsz (Nat.le_refl 3)
  refine swp_exit ?_
  refine then_x ?_
  refine then_x ?_
  refine block_hit rfl ?_
  refine then_n ?_
  refine swp_seq ?_
  refine swp_region ?_
  refine s_pu (pu_move rfl) ?_
  refine s_ef (ef_fn (sort_strs Tryz.slices_Sort_string Tryz.slices_Sort_string_none v3 (psK a b c 3) (by omega)) rfl rfl (by repeat (first | exact Split.nil | (apply Split.cons; (repeat (first | with_reducible exact Take.here | apply Take.there)))))) ?_
  rintro v28 L1 ⟨rfl, rfl⟩
  refine swl_app ?_
  refine swl_sub _ (.cons (t := 3) rfl .nil) ?_
  refine swl_nil ?_
  refine then_n ?_
  refine swp_seq ?_
  rw [← srtS_len (psK a b c 3)]
  refine swp_region ?_
  refine s_pu (pu_move rfl) ?_
  refine s_ef (ef_fn (compact_strs (e := 9) Tryz.slices_Compact_string Tryz.slices_Compact_string_empty v3 (srtS (psK a b c 3)) (by rw [srtS_len]; omega)) rfl rfl (by repeat (first | exact Split.nil | (apply Split.cons; (repeat (first | with_reducible exact Take.here | apply Take.there)))))) ?_
  rintro v30 L1 rfl
  refine swl_app ?_
  refine s_pu (pu_assign rfl) ?_
  refine swl_sub _ (.cons (t := 2) rfl .nil) ?_
  refine swl_nil ?_
  refine then_n ?_
  refine swp_ret ?_
  exact done_ret [own 9 1 v30 (cptS (srtS (psK a b c 3))).length (sts (cptS (srtS (psK a b c 3)))), ro μ] (.tmp rfl .nil) rfl (by repeat (first | exact Split.nil | (apply Split.cons; (repeat (first | with_reducible exact Take.here | apply Take.there)))))
theorem paths_spec (μ : PH) (g : Nat) (va vb vc : Value) (a b c : List En) (ha : Row μ va 2 a.length (ens a)) (hb : Row μ vb 2 b.length (ens b)) (hc : Row μ vc 2 c.length (ens c)) (hsz : a.length ≤ 1048576 ∧ b.length ≤ 1048576 ∧ c.length ≤ 1048576) :
    Spec Tryz.prog 34 [.slice (some ⟨g, 0, none⟩) 3 3] [blk g 35 [va, vb, vc], ro μ] (fun r L => L = [own 9 1 r (pathsE a b c).length (sts (pathsE a b c)), ro μ]) := by
  have := paths_spec0 μ g va vb vc a b c ha hb hc hsz
  rw [psK_all] at this; exact this
end SX
namespace SX
open Go Go.Proofs
theorem pathsE_len (a b c : List En) : (pathsE a b c).length ≤ a.length + b.length + c.length := by
  have := uniS_len (a.map (·.1) ++ b.map (·.1) ++ c.map (·.1))
  rw [List.length_append, List.length_append, List.length_map, List.length_map, List.length_map] at this
  exact this
set_option maxHeartbeats 4000000 in
theorem three_spec (μ : PH) (va vb vc : Value) (a b c : List En) (ha : Row μ va 2 a.length (ens a)) (hb : Row μ vb 2 b.length (ens b)) (hc : Row μ vc 2 c.length (ens c)) (hsz : a.length ≤ 1048576 ∧ b.length ≤ 1048576 ∧ c.length ≤ 1048576)
  (hu : U32s a ∧ U32s b ∧ U32s c) : Spec Tryz.prog 24 [va, vb, vc] [ro μ] (fun r L => ∃ v8 v9 μ', Le μ μ' ∧ r = .tuple #[v8, v9] ∧ L = [own 49 2 v8 (outR (rowsB a b c)).length (ens (outR (rowsB a b c))), own 88 4 v9 (cfR (rowsB a b c)).length (cfs (cfR (rowsB a b c))), ro μ']) := by
 have hpl := pathsE_len a b c
 generalize hrs : rowsB a b c = rs
 have hrl : rs.length = (pathsE a b c).length := by rw [← hrs]; unfold rowsB; rw [List.length_map]
 have hrg : ∀ i p, (pathsE a b c)[i]? = some p → rs[i]? = some (p, lookB a p, lookB b p, lookB c p) := fun i p h => by
  rw [← hrs]; unfold rowsB; rw [List.getElem?_map, h]; rfl
 have hps := fun g => paths_spec μ g va vb vc a b c ha hb hc hsz
 generalize pathsE a b c = ps at hpl hrl hrg hps
 obtain ⟨Aa, ca, hva⟩ := ha.sl
 obtain ⟨Ab, cb, hvb⟩ := hb.sl
 obtain ⟨Ac, cc, hvc⟩ := hc.sl
 subst hva hvb hvc
 refine Spec.of 73 Tryz.func24 rfl rfl rfl ?_
 refine swp_seq ?_
 refine swp_region ?_
 refine s_pu (pu_assign rfl) ?_
 refine s_pu (pu_assign rfl) ?_
 refine swl_sub _ (.cons (t := 0) rfl (.cons (t := 1) rfl (.cons (t := 2) rfl .nil))) ?_
 refine swl_nil ?_
 refine then_n ?_
 refine swp_seq ?_
 refine swp_region ?_
 refine s_pu (pu_assign rfl) ?_
 refine swl_sub _ (.cons (t := 0) rfl (.cons (t := 1) rfl (.cons (t := 2) rfl (.cons (t := 8) rfl .nil)))) ?_
 refine swl_nil ?_
 refine then_n ?_
 refine swp_seq ?_
 refine swp_region ?_
 refine s_pu (pu_assign rfl) ?_
 refine swl_sub _ (.cons (t := 0) rfl (.cons (t := 1) rfl (.cons (t := 2) rfl (.cons (t := 8) rfl (.cons (t := 9) rfl .nil))))) ?_
 refine swl_nil ?_
 refine then_n ?_
 refine swp_seq ?_
 refine swp_seq ?_
 refine swp_region ?_
 refine s_pu (pu_move rfl) ?_
 refine s_pu (pu_move rfl) ?_
 refine s_pu (pu_move rfl) ?_
 refine s_ef (ef_bldS (qs := [(0, _), (1, _), (2, _)]) rfl rfl rfl) ?_
 intro b19
 refine s_ef (ef_fn (hps b19) rfl rfl (by repeat (first | exact Split.nil | (apply Split.cons; (repeat (first | with_reducible exact Take.here | apply Take.there)))))) ?_
 rintro v20 L1 rfl
 refine swl_app ?_
 refine swl_share_own (v := v20) (μ := μ) (by repeat (first | exact Split.nil | (apply Split.cons; (repeat (first | with_reducible exact Take.here | apply Take.there))))) fun μ1 hle hrow => ?_
 have ra := ha.le hle
 have rb := hb.le hle
 have rc := hc.le hle
 refine s_pu (pu_len_row hrow rfl) ?_
 refine s_pu (pu_move rfl) ?_
 refine swl_sub _ (.cons (t := 0) rfl (.cons (t := 1) rfl (.cons (t := 2) rfl (.cons (t := 8) rfl (.cons (t := 9) rfl (.cons (t := 20) rfl (.cons (t := 21) rfl (.cons (t := 22) rfl .nil)))))))) ?_
 refine swl_nil ?_
 refine then_n ?_
 refine swp_block ?_
 refine swp_ent (show Ent _ (own 49 2 (.slice none 0 0) (outR (rs.take 0)).length (ens (outR (rs.take 0))) :: _) from own_nil_ent) ?_
 refine swp_ent (show Ent _ (own 88 4 (.slice none 0 0) (cfR (rs.take 0)).length (cfs (cfR (rs.take 0))) :: _) from own_nil_ent) ?_
 refine swp_loop (ι := Nat × Value × Value) (fun k env L => Sub env [(0, (.slice Aa a.length ca)), (1, (.slice Ab b.length cb)), (2, (.slice Ac c.length cc)), (8, k.2.1), (9, k.2.2), (20, v20), (21, .int .i64 (ps.length : Nat)), (22, .int .i64 (k.1 : Nat))] ∧ Ent L [own 49 2 k.2.1 (outR (rs.take k.1)).length (ens (outR (rs.take k.1))), own 88 4 k.2.2 (cfR (rs.take k.1)).length (cfs (cfR (rs.take k.1))), ro μ1] ∧ k.1 ≤ ps.length) (fun k => ps.length - k.1) (0, .slice none 0 0, .slice none 0 0) ⟨⟨rfl, rfl, rfl, rfl, rfl, rfl, rfl, rfl, trivial⟩, Split.ent' (by repeat (first | exact Split.nil | (apply Split.cons; (repeat (first | with_reducible exact Take.here | apply Take.there))))), Nat.zero_le _⟩ ?_
 rintro ⟨i, v8, v9⟩ env L ⟨hsub, hE, hi⟩
 simp only [] at hsub hE hi
 refine swp_sub _ hsub ?_
 refine swp_ent hE ?_
 clear hsub hE env L
 dsimp only
 refine swp_seq ?_
 refine swp_region ?_
 refine s_pu (pu_lss rfl rfl) ?_
 refine swl_sub _ (.cons (t := 0) rfl (.cons (t := 1) rfl (.cons (t := 2) rfl (.cons (t := 8) rfl (.cons (t := 9) rfl (.cons (t := 20) rfl (.cons (t := 21) rfl (.cons (t := 22) rfl (.cons (t := 23) rfl .nil))))))))) ?_
 refine swl_nil ?_
 refine then_n ?_
 refine swp_seq ?_
 refine swp_cond (b := _) rfl (fun h23 => ?_) (fun h23 => ?_)
 ·skip
  have h23' : i < ps.length := by have := of_decide_eq_true h23; omega
  obtain ⟨p, hp⟩ : ∃ p, ps[i]? = some p := ⟨_, List.getElem?_eq_getElem h23'⟩
  obtain ⟨gb, off, cap, hv, _, _, hr⟩ := hrow.pos (by omega)
  have hcp := hr.elem (f := scsv) (n := 1) scsv_len hp
  have hgp := hrg i p hp
  have htk : rs.take (i + 1) = rs.take i ++ [(p, lookB a p, lookB b p, lookB c p)] := by rw [List.take_add_one, hgp]; rfl
  have ua := hu.1.lookB p
  have ub := hu.2.1.lookB p
  have uc := hu.2.2.lookB p
  have hol : (outR (rs.take i)).length ≤ 4194304 := by have := outR_len (rs.take i); rw [List.length_take] at this; omega
  have hcl : (cfR (rs.take i)).length ≤ 4194304 := by have := cfR_len (rs.take i); rw [List.length_take] at this; omega
  refine swp_skip ?_
  refine then_n ?_
  refine swp_seq ?_
  refine swp_block ?_
  refine swp_seq ?_
  refine swp_region ?_
  refine s_pu (pu_indexAddr (off + i * 1) (congrArg some hv) rfl (by omega) (by omega) (by rw [Int.toNat_natCast])) ?_
  refine s_rd (rd_ro rfl hcp.cell) ?_
  refine s_pu (pu_assign rfl) ?_
  refine swl_sub _ (.cons (t := 0) rfl (.cons (t := 1) rfl (.cons (t := 2) rfl (.cons (t := 8) rfl (.cons (t := 9) rfl (.cons (t := 11) rfl (.cons (t := 20) rfl (.cons (t := 21) rfl (.cons (t := 22) rfl .nil))))))))) ?_
  refine swl_nil ?_
  refine then_n ?_
  refine swp_seq ?_
  refine swp_region ?_
  refine s_pu (pu_move rfl) ?_
  refine s_pu (pu_move rfl) ?_
  refine s_ef (ef_fn (look_spec μ1 (.slice Aa a.length ca) a p ra hsz.1) rfl rfl (by repeat (first | exact Split.nil | (apply Split.cons; (repeat (first | with_reducible exact Take.here | apply Take.there)))))) ?_
  rintro v28 L1 ⟨rfl, rfl⟩
  refine swl_app ?_
  refine s_pu (pu_move rfl) ?_
  refine s_pu (pu_move rfl) ?_
  refine s_ef (ef_fn (look_spec μ1 (.slice Ab b.length cb) b p rb hsz.2.1) rfl rfl (by repeat (first | exact Split.nil | (apply Split.cons; (repeat (first | with_reducible exact Take.here | apply Take.there)))))) ?_
  rintro v31 L1 ⟨rfl, rfl⟩
  refine swl_app ?_
  refine s_pu (pu_move rfl) ?_
  refine s_pu (pu_move rfl) ?_
  refine s_ef (ef_fn (look_spec μ1 (.slice Ac c.length cc) c p rc hsz.2.2) rfl rfl (by repeat (first | exact Split.nil | (apply Split.cons; (repeat (first | with_reducible exact Take.here | apply Take.there)))))) ?_
  rintro v34 L1 ⟨rfl, rfl⟩
  refine swl_app ?_
  refine s_pu (pu_assign rfl) ?_
  refine s_pu (pu_assign rfl) ?_
  refine s_pu (pu_assign rfl) ?_
  refine swl_sub _ (.cons (t := 0) rfl (.cons (t := 1) rfl (.cons (t := 2) rfl (.cons (t := 8) rfl (.cons (t := 9) rfl (.cons (t := 11) rfl (.cons (t := 12) rfl (.cons (t := 13) rfl (.cons (t := 14) rfl (.cons (t := 20) rfl (.cons (t := 21) rfl (.cons (t := 22) rfl .nil)))))))))))) ?_
  refine swl_nil ?_
  refine then_n ?_
  refine swp_seq ?_
  generalize lookB a p = xb at ua htk
  generalize lookB b p = xo at ub htk
  generalize lookB c p = xt at uc htk
  refine swp_region ?_
  refine s_pu (pu_move rfl) ?_
  refine s_pu (pu_assign rfl) ?_
  refine swl_sub _ (.cons (t := 0) rfl (.cons (t := 1) rfl (.cons (t := 2) rfl (.cons (t := 8) rfl (.cons (t := 9) rfl (.cons (t := 11) rfl (.cons (t := 12) rfl (.cons (t := 13) rfl (.cons (t := 14) rfl (.cons (t := 15) rfl (.cons (t := 20) rfl (.cons (t := 21) rfl (.cons (t := 22) rfl .nil))))))))))))) ?_
  refine swl_nil ?_
  refine then_n ?_
  refine swp_cut (fun env L => ∃ v9', Sub env [(0, (.slice Aa a.length ca)), (1, (.slice Ab b.length cb)), (2, (.slice Ac c.length cc)), (8, v8), (9, v9'), (11, .string p), (15, .int .u32 (oneE xb xo xt).1), (20, v20), (21, .int .i64 (ps.length : Nat)), (22, .int .i64 (i : Nat))] ∧ Ent L [own 49 2 v8 (outR (rs.take i)).length (ens (outR (rs.take i))), own 88 4 v9' (cfR (rs.take (i + 1))).length (cfs (cfR (rs.take (i + 1)))), ro μ1]) ?_ ?_
  ·skip
   refine swp_block ?_
   refine swp_seq ?_
   refine swp_region ?_
   refine s_pu (pu_move rfl) ?_
   refine s_pu (pu_move rfl) ?_
   refine s_pu (pu_eql rfl rfl) ?_
   refine s_pu (pu_move rfl) ?_
   refine s_split 52 rfl (fun h52 => ?_) (fun h52 => ?_)
   ·skip
    refine s_off rfl rfl rfl ?_
    refine s_off rfl rfl rfl ?_
    refine s_off rfl rfl rfl ?_
    first | refine s_pu (pu_pick_t rfl rfl) ?_ | refine s_pu (pu_pick_f rfl rfl) ?_
    refine s_pu (pu_assign rfl) ?_
    refine swl_sub _ (.cons (t := 0) rfl (.cons (t := 1) rfl (.cons (t := 2) rfl (.cons (t := 8) rfl (.cons (t := 9) rfl (.cons (t := 11) rfl (.cons (t := 12) rfl (.cons (t := 13) rfl (.cons (t := 14) rfl (.cons (t := 15) rfl (.cons (t := 20) rfl (.cons (t := 21) rfl (.cons (t := 22) rfl (.cons (t := 48) rfl .nil)))))))))))))) ?_
    refine swl_nil ?_
    refine then_n ?_
    refine swp_cond (b := _) rfl (fun h48 => ?_) (fun h48 => by cases h48)
    refine swp_skip ?_
    refine block_n ?_
    have e1 : oneE xb xo xt = (xo, false) := if_pos (Or.inl (of_decide_eq_true h52))
    refine then_n ⟨v9, ⟨rfl, rfl, rfl, rfl, rfl, rfl, by rw [e1]; rfl, rfl, rfl, rfl, trivial⟩, ?_⟩
    rw [htk, cfR_same (rs.take i) p (show (oneE xb xo xt).2 = false by rw [e1])]
    exact Split.ent' (by repeat (first | exact Split.nil | (apply Split.cons; (repeat (first | with_reducible exact Take.here | apply Take.there)))))
   ·skip
    refine s_on rfl rfl ?_
    refine s_pu (pu_move rfl) ?_
    refine s_on rfl rfl ?_
    refine s_pu (pu_move rfl) ?_
    refine s_on rfl rfl ?_
    refine s_pu (pu_eql rfl rfl) ?_
    first | refine s_pu (pu_pick_t rfl rfl) ?_ | refine s_pu (pu_pick_f rfl rfl) ?_
    refine s_pu (pu_assign rfl) ?_
    refine swl_sub _ (.cons (t := 0) rfl (.cons (t := 1) rfl (.cons (t := 2) rfl (.cons (t := 8) rfl (.cons (t := 9) rfl (.cons (t := 11) rfl (.cons (t := 12) rfl (.cons (t := 13) rfl (.cons (t := 14) rfl (.cons (t := 15) rfl (.cons (t := 20) rfl (.cons (t := 21) rfl (.cons (t := 22) rfl (.cons (t := 48) rfl .nil)))))))))))))) ?_
    refine swl_nil ?_
    refine then_n ?_
    refine swp_cond (b := _) rfl (fun h48 => ?_) (fun h48 => ?_)
    ·skip
     refine swp_skip ?_
     refine block_n ?_
     have e1 : oneE xb xo xt = (xo, false) := if_pos (Or.inr (of_decide_eq_true h48))
     refine then_n ⟨v9, ⟨rfl, rfl, rfl, rfl, rfl, rfl, by rw [e1]; rfl, rfl, rfl, rfl, trivial⟩, ?_⟩
     rw [htk, cfR_same (rs.take i) p (show (oneE xb xo xt).2 = false by rw [e1])]
     exact Split.ent' (by repeat (first | exact Split.nil | (apply Split.cons; (repeat (first | with_reducible exact Take.here | apply Take.there)))))
    ·skip
     have k0 : ¬ (xo = xt ∨ xb = xt) := fun k => k.elim (of_decide_eq_false h52) (of_decide_eq_false h48)
     refine swp_seq ?_
     refine swp_region ?_
     refine s_pu (pu_move rfl) ?_
     refine s_pu (pu_move rfl) ?_
     refine s_pu (pu_eql rfl rfl) ?_
     refine s_pu (pu_assign rfl) ?_
     refine swl_sub _ (.cons (t := 0) rfl (.cons (t := 1) rfl (.cons (t := 2) rfl (.cons (t := 8) rfl (.cons (t := 9) rfl (.cons (t := 11) rfl (.cons (t := 12) rfl (.cons (t := 13) rfl (.cons (t := 14) rfl (.cons (t := 20) rfl (.cons (t := 21) rfl (.cons (t := 22) rfl (.cons (t := 57) rfl .nil))))))))))))) ?_
     refine swl_nil ?_
     refine then_n ?_
     refine swp_cond (b := _) rfl (fun h57 => ?_) (fun h57 => ?_)
     ·skip
      refine swp_region ?_
      refine s_pu (pu_move rfl) ?_
      refine s_pu (pu_assign rfl) ?_
      refine swl_sub _ (.cons (t := 0) rfl (.cons (t := 1) rfl (.cons (t := 2) rfl (.cons (t := 8) rfl (.cons (t := 9) rfl (.cons (t := 11) rfl (.cons (t := 15) rfl (.cons (t := 20) rfl (.cons (t := 21) rfl (.cons (t := 22) rfl .nil)))))))))) ?_
      refine swl_nil ?_
      refine block_n ?_
      have e1 : oneE xb xo xt = (xt, false) := by unfold oneE; rw [if_neg k0, if_pos (of_decide_eq_true h57)]
      refine then_n ⟨v9, ⟨rfl, rfl, rfl, rfl, rfl, rfl, by rw [e1]; rfl, rfl, rfl, rfl, trivial⟩, ?_⟩
      rw [htk, cfR_same (rs.take i) p (show (oneE xb xo xt).2 = false by rw [e1])]
      exact Split.ent' (by repeat (first | exact Split.nil | (apply Split.cons; (repeat (first | with_reducible exact Take.here | apply Take.there)))))
     ·skip
      refine swp_seq ?_
      refine swp_region ?_
      refine s_pu (pu_move rfl) ?_
      refine s_pu (pu_move rfl) ?_
      refine s_pu (pu_move rfl) ?_
      refine s_ef (ef_fn (mark_specZ ua ub uc) rfl rfl (by repeat (first | exact Split.nil | (apply Split.cons; (repeat (first | with_reducible exact Take.here | apply Take.there)))))) ?_
      rintro v39 L1 ⟨rfl, rfl⟩
      refine swl_app ?_
      refine s_pu (pu_assign rfl) ?_
      refine swl_sub _ (.cons (t := 0) rfl (.cons (t := 1) rfl (.cons (t := 2) rfl (.cons (t := 8) rfl (.cons (t := 9) rfl (.cons (t := 11) rfl (.cons (t := 12) rfl (.cons (t := 13) rfl (.cons (t := 14) rfl (.cons (t := 15) rfl (.cons (t := 20) rfl (.cons (t := 21) rfl (.cons (t := 22) rfl .nil))))))))))))) ?_
      refine swl_nil ?_
      refine then_n ?_
      refine swp_region ?_
      refine s_pu (pu_move rfl) ?_
      refine s_pu (pu_move rfl) ?_
      refine s_pu (pu_move rfl) ?_
      refine s_pu (pu_move rfl) ?_
      refine s_pu (pu_move rfl) ?_
      refine s_pu (pu_bld (qs := [(0, _), (1, _), (2, _), (3, _)]) rfl) ?_
      refine s_ef (ef_bldS (qs := [(0, _)]) rfl rfl rfl) ?_
      intro b46
      refine s_ef (ef_append_lit (l := (cfR (rs.take i)).length) (m := 1) rfl rfl (by repeat (first | exact Split.nil | (apply Split.cons; (repeat (first | with_reducible exact Take.here | apply Take.there))))) (by simp only [maxLen]; omega) (by omega)) ?_
      rintro v47 -
      skip
      refine s_pu (pu_assign rfl) ?_
      refine swl_sub _ (.cons (t := 0) rfl (.cons (t := 1) rfl (.cons (t := 2) rfl (.cons (t := 8) rfl (.cons (t := 9) rfl (.cons (t := 11) rfl (.cons (t := 15) rfl (.cons (t := 20) rfl (.cons (t := 21) rfl (.cons (t := 22) rfl .nil)))))))))) ?_
      refine swl_nil ?_
      refine block_n ?_
      have e1 : oneE xb xo xt = (markZ xb xo xt, true) := by unfold oneE; rw [if_neg k0, if_neg (of_decide_eq_false h57)]
      refine then_n ⟨v47, ⟨rfl, rfl, rfl, rfl, rfl, rfl, by rw [e1]; rfl, rfl, rfl, rfl, trivial⟩, ?_⟩
      obtain ⟨q1, q2⟩ := cfR_add (rs.take i) p (show (oneE xb xo xt).2 = true by rw [e1])
      rw [htk, q1, q2]
      exact Split.ent' (by repeat (first | exact Split.nil | (apply Split.cons; (repeat (first | with_reducible exact Take.here | apply Take.there)))))
  rintro env L ⟨v9', hsub, hE⟩
  refine swp_sub _ hsub ?_
  refine swp_ent hE ?_
  clear hsub hE env L
  refine swp_seq ?_
  refine swp_region ?_
  refine s_pu (pu_move rfl) ?_
  refine s_pu (pu_neq rfl rfl) ?_
  refine swl_sub _ (.cons (t := 0) rfl (.cons (t := 1) rfl (.cons (t := 2) rfl (.cons (t := 8) rfl (.cons (t := 9) rfl (.cons (t := 11) rfl (.cons (t := 15) rfl (.cons (t := 20) rfl (.cons (t := 21) rfl (.cons (t := 22) rfl (.cons (t := 63) rfl .nil))))))))))) ?_
  refine swl_nil ?_
  refine then_n ?_
  refine swp_cond (b := _) rfl (fun h63 => ?_) (fun h63 => ?_)
  ·skip
   refine swp_region ?_
   refine s_pu (pu_move rfl) ?_
   refine s_pu (pu_move rfl) ?_
   refine s_pu (pu_move rfl) ?_
   refine s_pu (pu_bld (qs := [(0, _), (1, _)]) rfl) ?_
   refine s_ef (ef_bldS (qs := [(0, _)]) rfl rfl rfl) ?_
   intro b68
   refine s_ef (ef_append_lit (l := (outR (rs.take i)).length) (m := 1) rfl rfl (by repeat (first | exact Split.nil | (apply Split.cons; (repeat (first | with_reducible exact Take.here | apply Take.there))))) (by simp only [maxLen]; omega) (by omega)) ?_
   rintro v69 -
   skip
   refine s_pu (pu_assign rfl) ?_
   refine swl_sub _ (.cons (t := 0) rfl (.cons (t := 1) rfl (.cons (t := 2) rfl (.cons (t := 8) rfl (.cons (t := 9) rfl (.cons (t := 20) rfl (.cons (t := 21) rfl (.cons (t := 22) rfl .nil)))))))) ?_
   refine swl_nil ?_
   refine block_n ?_
   refine then_n ?_
   refine swp_region ?_
   refine s_pu (pu_add_as ((i + 1 : Nat) : Int) rfl rfl (by omega) (by omega) (by omega)) ?_
   refine s_pu (pu_move rfl) ?_
   refine swl_sub _ (.cons (t := 0) rfl (.cons (t := 1) rfl (.cons (t := 2) rfl (.cons (t := 8) rfl (.cons (t := 9) rfl (.cons (t := 20) rfl (.cons (t := 21) rfl (.cons (t := 22) rfl .nil)))))))) ?_
   refine swl_nil ?_
   have h63' : ¬ (oneE xb xo xt).1 = 0 := by simpa using h63
   refine then_n ⟨(i + 1, v69, v9'), ⟨⟨rfl, rfl, rfl, rfl, rfl, rfl, rfl, rfl, trivial⟩, ?_, h23'⟩, by show ps.length - (i + 1) < ps.length - i; omega⟩
   obtain ⟨q1, q2⟩ := outR_add (rs.take i) p h63'
   have e2 : outR (rs.take (i + 1)) = outR (rs.take i ++ [(p, xb, xo, xt)]) := by rw [htk]
   show Ent _ [own 49 2 v69 (outR (rs.take (i + 1))).length (ens (outR (rs.take (i + 1)))), own 88 4 v9' (cfR (rs.take (i + 1))).length (cfs (cfR (rs.take (i + 1)))), ro μ1]
   rw [e2, q1, q2]
   exact Split.ent' (by repeat (first | exact Split.nil | (apply Split.cons; (repeat (first | with_reducible exact Take.here | apply Take.there)))))
  ·skip
   refine swp_skip ?_
   refine block_n ?_
   refine then_n ?_
   refine swp_region ?_
   refine s_pu (pu_add_as ((i + 1 : Nat) : Int) rfl rfl (by omega) (by omega) (by omega)) ?_
   refine s_pu (pu_move rfl) ?_
   refine swl_sub _ (.cons (t := 0) rfl (.cons (t := 1) rfl (.cons (t := 2) rfl (.cons (t := 8) rfl (.cons (t := 9) rfl (.cons (t := 20) rfl (.cons (t := 21) rfl (.cons (t := 22) rfl .nil)))))))) ?_
   refine swl_nil ?_
   have h63' : (oneE xb xo xt).1 = 0 := by simpa using h63
   refine then_n ⟨(i + 1, v8, v9'), ⟨⟨rfl, rfl, rfl, rfl, rfl, rfl, rfl, rfl, trivial⟩, ?_, h23'⟩, by show ps.length - (i + 1) < ps.length - i; omega⟩
   have e2 : outR (rs.take (i + 1)) = outR (rs.take i) := by rw [htk, outR_same (rs.take i) p h63']
   show Ent _ [own 49 2 v8 (outR (rs.take (i + 1))).length (ens (outR (rs.take (i + 1)))), own 88 4 v9' (cfR (rs.take (i + 1))).length (cfs (cfR (rs.take (i + 1)))), ro μ1]
   rw [e2]
   exact Split.ent' (by repeat (first | exact Split.nil | (apply Split.cons; (repeat (first | with_reducible exact Take.here | apply Take.there)))))
 ·skip
  have h23' := of_decide_eq_false h23
  obtain rfl : i = ps.length := by omega
  rw [← hrl, List.take_length]
  refine swp_exit ?_
  refine then_x ?_
  refine then_x ?_
  refine block_hit rfl ?_
  refine then_n ?_
  refine swp_seq ?_
  refine swp_region ?_
  refine s_pu (pu_move rfl) ?_
  refine s_pu (pu_move rfl) ?_
  refine s_pu (pu_assign rfl) ?_
  refine s_pu (pu_assign rfl) ?_
  refine swl_sub _ (.cons (t := 6) rfl (.cons (t := 7) rfl .nil)) ?_
  refine swl_nil ?_
  refine then_n ?_
  refine swp_ret ?_
  exact done_ret [own 49 2 v8 (outR rs).length (ens (outR rs)), own 88 4 v9 (cfR rs).length (cfs (cfR rs)), ro μ1] (.tmp rfl (.tmp rfl .nil)) ⟨v8, v9, μ1, hle, rfl, rfl⟩ (by repeat (first | exact Split.nil | (apply Split.cons; (repeat (first | with_reducible exact Take.here | apply Take.there)))))
end SX
namespace SX
open Go Go.Proofs
theorem byte32 (b : UInt8) : ((b.toNat : Nat) : Int) = ((BitVec.ofNat 32 b.toNat).toNat : Int) := by
  have := b.toNat_lt; rw [BitVec.toNat_ofNat, Nat.mod_eq_of_lt (by omega)]
set_option maxHeartbeats 1000000 in
theorem hash_spec (s : W32) (p : ByteArray) (hs : p.size ≤ 1048576) : Spec Tryz.prog 63 [.int .u32 (s.toNat : Nat), .string p] [] (fun v L => v = .int .u32 ((hashW s p.data.toList).toNat : Nat) ∧ L = []) := by
 have hl : p.data.toList.length = p.size := by rw [Array.length_toList]; rfl
 refine Spec.of 39 Tryz.func63 rfl rfl rfl ?_
 refine swp_seq ?_
 refine swp_region ?_
 refine s_pu (pu_assign rfl) ?_
 refine swl_sub _ (.cons (t := 0) rfl (.cons (t := 1) rfl .nil)) ?_
 refine swl_nil ?_
 refine then_n ?_
 refine swp_seq ?_
 refine swp_region ?_
 refine s_pu (pu_move rfl) ?_
 refine s_pu (pu_xor_w32 (a := 2166136261#32) rfl rfl) ?_
 refine s_pu (pu_assign rfl) ?_
 refine swl_sub _ (.cons (t := 1) rfl (.cons (t := 5) rfl .nil)) ?_
 refine swl_nil ?_
 refine then_n ?_
 refine swp_seq ?_
 refine swp_seq ?_
 refine swp_region ?_
 refine s_pu (pu_assign rfl) ?_
 refine swl_sub _ (.cons (t := 1) rfl (.cons (t := 5) rfl (.cons (t := 6) rfl .nil))) ?_
 refine swl_nil ?_
 refine then_n ?_
 refine swp_block ?_
 refine swp_loop (ι := Nat) (fun i env L => Sub env [(1, .string p), (5, .int .u32 (((p.data.toList.take i).foldl hash1 (2166136261#32 ^^^ s)).toNat : Nat)), (6, .int .i64 (i : Nat))] ∧ L = [] ∧ i ≤ p.size) (fun i => p.size - i) 0 ⟨⟨rfl, rfl, rfl, trivial⟩, rfl, Nat.zero_le _⟩ ?_
 rintro i env L ⟨hsub, rfl, hi⟩
 refine swp_sub _ hsub ?_
 clear hsub env
 refine swp_seq ?_
 refine swp_seq ?_
 refine swp_region ?_
 refine s_pu (pu_move rfl) ?_
 refine s_pu (pu_move rfl) ?_
 refine s_pu (pu_strlen rfl) ?_
 refine s_pu (pu_lss rfl rfl) ?_
 refine swl_sub _ (.cons (t := 1) rfl (.cons (t := 5) rfl (.cons (t := 6) rfl (.cons (t := 12) rfl .nil)))) ?_
 refine swl_nil ?_
 refine then_n ?_
 refine swp_cond (b := _) rfl (fun h12 => ?_) (fun h12 => ?_)
 ·skip
  have h12' : i < p.size := by have := of_decide_eq_true h12; omega
  obtain ⟨b, hb⟩ : ∃ b, p.data.toList[i]? = some b := ⟨_, List.getElem?_eq_getElem (by omega)⟩
  refine swp_skip ?_
  refine then_n ?_
  refine swp_seq ?_
  refine swp_block ?_
  refine swp_seq ?_
  refine swp_region ?_
  refine s_pu (pu_move rfl) ?_
  refine s_pu (pu_move rfl) ?_
  refine s_pu (pu_move rfl) ?_
  refine s_pu (pu_str_index rfl rfl rfl hb) ?_
  refine s_pu (pu_conv_as (k' := .u32) (n := ((BitVec.ofNat 32 b.toNat).toNat : Int)) (by rw [← byte32]; rfl) (wrap_word32 _)) ?_
  refine s_pu (pu_xor_w32 rfl rfl) ?_
  refine s_pu (pu_assign rfl) ?_
  refine swl_sub _ (.cons (t := 1) rfl (.cons (t := 5) rfl (.cons (t := 6) rfl .nil))) ?_
  refine swl_nil ?_
  refine then_n ?_
  refine swp_region ?_
  refine s_pu (pu_move rfl) ?_
  refine s_pu (pu_mul_w32 (b := 16777619#32) rfl rfl) ?_
  refine s_pu (pu_assign rfl) ?_
  refine swl_sub _ (.cons (t := 1) rfl (.cons (t := 5) rfl (.cons (t := 6) rfl .nil))) ?_
  refine swl_nil ?_
  refine block_n ?_
  refine then_n ?_
  refine swp_region ?_
  refine s_pu (pu_move rfl) ?_
  refine s_pu (pu_add_as ((i + 1 : Nat) : Int) rfl rfl (by omega) (by omega) (by omega)) ?_
  refine s_pu (pu_assign rfl) ?_
  refine swl_sub _ (.cons (t := 1) rfl (.cons (t := 5) rfl (.cons (t := 6) rfl .nil))) ?_
  refine swl_nil ?_
  refine then_n ⟨i + 1, ⟨⟨rfl, ?_, rfl, trivial⟩, rfl, h12'⟩, by omega⟩
  rw [List.take_add_one, hb, List.foldl_append]; rfl
 ·skip
  have h12' := of_decide_eq_false h12
  obtain rfl : i = p.size := by omega
  rw [List.take_of_length_le (by omega)]
  refine swp_exit ?_
  refine then_x ?_
  refine then_x ?_
  refine block_hit rfl ?_
  refine then_n ?_
  refine swp_seq ?_
  refine swp_region ?_
  refine s_pu (pu_move rfl) ?_
  refine s_pu (pu_move rfl) ?_
  refine s_pu (pu_shr_w32 16 rfl rfl (by omega)) ?_
  refine s_pu (pu_xor_w32 rfl rfl) ?_
  refine s_pu (pu_assign rfl) ?_
  refine swl_sub _ (.cons (t := 5) rfl .nil) ?_
  refine swl_nil ?_
  refine then_n ?_
  refine swp_seq ?_
  refine swp_region ?_
  refine s_pu (pu_move rfl) ?_
  refine s_pu (pu_mul_w32 (b := 2246822507#32) rfl rfl) ?_
  refine s_pu (pu_assign rfl) ?_
  refine swl_sub _ (.cons (t := 5) rfl .nil) ?_
  refine swl_nil ?_
  refine then_n ?_
  refine swp_seq ?_
  refine swp_region ?_
  refine s_pu (pu_move rfl) ?_
  refine s_pu (pu_move rfl) ?_
  refine s_pu (pu_shr_w32 13 rfl rfl (by omega)) ?_
  refine s_pu (pu_xor_w32 rfl rfl) ?_
  refine s_pu (pu_assign rfl) ?_
  refine swl_sub _ (.cons (t := 5) rfl .nil) ?_
  refine swl_nil ?_
  refine then_n ?_
  refine swp_seq ?_
  refine swp_region ?_
  refine s_pu (pu_move rfl) ?_
  refine s_pu (pu_mul_w32 (b := 3266489909#32) rfl rfl) ?_
  refine s_pu (pu_assign rfl) ?_
  refine swl_sub _ (.cons (t := 5) rfl .nil) ?_
  refine swl_nil ?_
  refine then_n ?_
  refine swp_seq ?_
  refine swp_region ?_
  refine s_pu (pu_move rfl) ?_
  refine s_pu (pu_move rfl) ?_
  refine s_pu (pu_shr_w32 16 rfl rfl (by omega)) ?_
  refine s_pu (pu_xor_w32 rfl rfl) ?_
  refine s_pu (pu_assign rfl) ?_
  refine swl_sub _ (.cons (t := 4) rfl .nil) ?_
  refine swl_nil ?_
  refine then_n ?_
  refine swp_ret ?_
  exact done_ret [] (.tmp rfl .nil) ⟨rfl, rfl⟩ (by repeat (first | exact Split.nil | (apply Split.cons; (repeat (first | with_reducible exact Take.here | apply Take.there)))))
theorem scheck_spec (s : Sett) : Spec Tryz.prog 42 [.agg (encS s).toArray] [] (fun v L => v = .int .i64 (if s.bad then 1 else 0) ∧ L = []) := by
 refine Spec.of 31 Tryz.func42 rfl rfl rfl ?_
 refine swp_seq ?_
 refine swp_region ?_
 refine s_ef (ef_box rfl rfl) ?_
 intro b1
 refine s_pu (pu_assign rfl) ?_
 refine swl_sub _ (.cons (t := 1) rfl .nil) ?_
 refine swl_nil ?_
 refine then_n ?_
 refine swp_seq ?_
 refine swp_seq ?_
 refine swp_region ?_
 first | refine s_pu (pu_fieldAddr0 rfl) ?_ | refine s_pu (pu_fieldAddr rfl) ?_
 refine s_rd (rd_load rfl rfl) ?_
 refine s_pu (pu_lss rfl rfl) ?_
 refine s_pu (pu_move rfl) ?_
 refine s_split 6 rfl (fun h6 => ?_) (fun h6 => ?_)
 ·skip
  refine s_off rfl rfl rfl ?_
  refine s_off rfl rfl rfl ?_
  refine s_off rfl rfl rfl ?_
  first | refine s_pu (pu_pick_t rfl rfl) ?_ | refine s_pu (pu_pick_f rfl rfl) ?_
  refine s_pu (pu_move rfl) ?_
  refine s_split 11 rfl (fun h11 => ?_) (fun h11 => ?_)
  ·skip
   refine s_off rfl rfl rfl ?_
   refine s_off rfl rfl rfl ?_
   refine s_off rfl rfl rfl ?_
   first | refine s_pu (pu_pick_t rfl rfl) ?_ | refine s_pu (pu_pick_f rfl rfl) ?_
   refine s_pu (pu_move rfl) ?_
   refine s_split 16 rfl (fun h16 => ?_) (fun h16 => ?_)
   ·skip
    refine s_off rfl rfl rfl ?_
    refine s_off rfl rfl rfl ?_
    refine s_off rfl rfl rfl ?_
    first | refine s_pu (pu_pick_t rfl rfl) ?_ | refine s_pu (pu_pick_f rfl rfl) ?_
    refine s_pu (pu_move rfl) ?_
    refine s_split 21 rfl (fun h21 => ?_) (fun h21 => ?_)
    ·skip
     refine s_off rfl rfl rfl ?_
     refine s_off rfl rfl rfl ?_
     refine s_off rfl rfl rfl ?_
     first | refine s_pu (pu_pick_t rfl rfl) ?_ | refine s_pu (pu_pick_f rfl rfl) ?_
     refine s_pu (pu_move rfl) ?_
     refine s_split 26 rfl (fun h26 => ?_) (fun h26 => ?_)
     ·skip
      refine s_off rfl rfl rfl ?_
      refine s_off rfl rfl rfl ?_
      refine s_off rfl rfl rfl ?_
      first | refine s_pu (pu_pick_t rfl rfl) ?_ | refine s_pu (pu_pick_f rfl rfl) ?_
      refine swl_sub _ (.cons (t := 30) rfl .nil) ?_
      refine swl_nil ?_
      refine then_n ?_
      refine swp_cond (b := _) rfl (fun h30 => ?_) (fun h30 => ?_)
      ·skip
       refine swp_seq ?_
       refine swp_region ?_
       refine s_pu (pu_assign rfl) ?_
       refine swl_sub _ (.cons (t := 2) rfl .nil) ?_
       refine swl_nil ?_
       refine then_n ?_
       refine swp_ret ?_
       refine then_r ?_
       refine done_ret [] (.tmp rfl .nil) ⟨congrArg (Value.int .i64) ?_, rfl⟩ (by repeat (first | exact Split.nil | (apply Split.cons; (repeat (first | with_reducible exact Take.here | apply Take.there)))))
       unfold Sett.bad; grind
      ·skip
       refine swp_skip ?_
       refine then_n ?_
       refine swp_seq ?_
       refine swp_region ?_
       refine s_pu (pu_assign rfl) ?_
       refine swl_sub _ (.cons (t := 2) rfl .nil) ?_
       refine swl_nil ?_
       refine then_n ?_
       refine swp_ret ?_
       refine done_ret [] (.tmp rfl .nil) ⟨congrArg (Value.int .i64) ?_, rfl⟩ (by repeat (first | exact Split.nil | (apply Split.cons; (repeat (first | with_reducible exact Take.here | apply Take.there)))))
       unfold Sett.bad; grind
     ·skip
      refine s_on rfl rfl ?_
      first | refine s_pu (pu_fieldAddr0 rfl) ?_ | refine s_pu (pu_fieldAddr rfl) ?_
      refine s_on rfl rfl ?_
      refine s_rd (rd_load rfl rfl) ?_
      refine s_on rfl rfl ?_
      refine s_pu (pu_gtr rfl rfl) ?_
      first | refine s_pu (pu_pick_t rfl rfl) ?_ | refine s_pu (pu_pick_f rfl rfl) ?_
      refine swl_sub _ (.cons (t := 30) rfl .nil) ?_
      refine swl_nil ?_
      refine then_n ?_
      refine swp_cond (b := _) rfl (fun h30 => ?_) (fun h30 => ?_)
      ·skip
       refine swp_seq ?_
       refine swp_region ?_
       refine s_pu (pu_assign rfl) ?_
       refine swl_sub _ (.cons (t := 2) rfl .nil) ?_
       refine swl_nil ?_
       refine then_n ?_
       refine swp_ret ?_
       refine then_r ?_
       refine done_ret [] (.tmp rfl .nil) ⟨congrArg (Value.int .i64) ?_, rfl⟩ (by repeat (first | exact Split.nil | (apply Split.cons; (repeat (first | with_reducible exact Take.here | apply Take.there)))))
       unfold Sett.bad; grind
      ·skip
       refine swp_skip ?_
       refine then_n ?_
       refine swp_seq ?_
       refine swp_region ?_
       refine s_pu (pu_assign rfl) ?_
       refine swl_sub _ (.cons (t := 2) rfl .nil) ?_
       refine swl_nil ?_
       refine then_n ?_
       refine swp_ret ?_
       refine done_ret [] (.tmp rfl .nil) ⟨congrArg (Value.int .i64) ?_, rfl⟩ (by repeat (first | exact Split.nil | (apply Split.cons; (repeat (first | with_reducible exact Take.here | apply Take.there)))))
       unfold Sett.bad; grind
    ·skip
     refine s_on rfl rfl ?_
     first | refine s_pu (pu_fieldAddr0 rfl) ?_ | refine s_pu (pu_fieldAddr rfl) ?_
     refine s_on rfl rfl ?_
     refine s_rd (rd_load rfl rfl) ?_
     refine s_on rfl rfl ?_
     refine s_pu (pu_lss rfl rfl) ?_
     first | refine s_pu (pu_pick_t rfl rfl) ?_ | refine s_pu (pu_pick_f rfl rfl) ?_
     refine s_pu (pu_move rfl) ?_
     refine s_split 26 rfl (fun h26 => ?_) (fun h26 => ?_)
     ·skip
      refine s_off rfl rfl rfl ?_
      refine s_off rfl rfl rfl ?_
      refine s_off rfl rfl rfl ?_
      first | refine s_pu (pu_pick_t rfl rfl) ?_ | refine s_pu (pu_pick_f rfl rfl) ?_
      refine swl_sub _ (.cons (t := 30) rfl .nil) ?_
      refine swl_nil ?_
      refine then_n ?_
      refine swp_cond (b := _) rfl (fun h30 => ?_) (fun h30 => ?_)
      ·skip
       refine swp_seq ?_
       refine swp_region ?_
       refine s_pu (pu_assign rfl) ?_
       refine swl_sub _ (.cons (t := 2) rfl .nil) ?_
       refine swl_nil ?_
       refine then_n ?_
       refine swp_ret ?_
       refine then_r ?_
       refine done_ret [] (.tmp rfl .nil) ⟨congrArg (Value.int .i64) ?_, rfl⟩ (by repeat (first | exact Split.nil | (apply Split.cons; (repeat (first | with_reducible exact Take.here | apply Take.there)))))
       unfold Sett.bad; grind
      ·skip
       refine swp_skip ?_
       refine then_n ?_
       refine swp_seq ?_
       refine swp_region ?_
       refine s_pu (pu_assign rfl) ?_
       refine swl_sub _ (.cons (t := 2) rfl .nil) ?_
       refine swl_nil ?_
       refine then_n ?_
       refine swp_ret ?_
       refine done_ret [] (.tmp rfl .nil) ⟨congrArg (Value.int .i64) ?_, rfl⟩ (by repeat (first | exact Split.nil | (apply Split.cons; (repeat (first | with_reducible exact Take.here | apply Take.there)))))
       unfold Sett.bad; grind
     ·skip
      refine s_on rfl rfl ?_
      first | refine s_pu (pu_fieldAddr0 rfl) ?_ | refine s_pu (pu_fieldAddr rfl) ?_
      refine s_on rfl rfl ?_
      refine s_rd (rd_load rfl rfl) ?_
      refine s_on rfl rfl ?_
      refine s_pu (pu_gtr rfl rfl) ?_
      first | refine s_pu (pu_pick_t rfl rfl) ?_ | refine s_pu (pu_pick_f rfl rfl) ?_
      refine swl_sub _ (.cons (t := 30) rfl .nil) ?_
      refine swl_nil ?_
      refine then_n ?_
      refine swp_cond (b := _) rfl (fun h30 => ?_) (fun h30 => ?_)
      ·skip
       refine swp_seq ?_
       refine swp_region ?_
       refine s_pu (pu_assign rfl) ?_
       refine swl_sub _ (.cons (t := 2) rfl .nil) ?_
       refine swl_nil ?_
       refine then_n ?_
       refine swp_ret ?_
       refine then_r ?_
       refine done_ret [] (.tmp rfl .nil) ⟨congrArg (Value.int .i64) ?_, rfl⟩ (by repeat (first | exact Split.nil | (apply Split.cons; (repeat (first | with_reducible exact Take.here | apply Take.there)))))
       unfold Sett.bad; grind
      ·skip
       refine swp_skip ?_
       refine then_n ?_
       refine swp_seq ?_
       refine swp_region ?_
       refine s_pu (pu_assign rfl) ?_
       refine swl_sub _ (.cons (t := 2) rfl .nil) ?_
       refine swl_nil ?_
       refine then_n ?_
       refine swp_ret ?_
       refine done_ret [] (.tmp rfl .nil) ⟨congrArg (Value.int .i64) ?_, rfl⟩ (by repeat (first | exact Split.nil | (apply Split.cons; (repeat (first | with_reducible exact Take.here | apply Take.there)))))
       unfold Sett.bad; grind
   ·skip
    refine s_on rfl rfl ?_
    first | refine s_pu (pu_fieldAddr0 rfl) ?_ | refine s_pu (pu_fieldAddr rfl) ?_
    refine s_on rfl rfl ?_
    refine s_rd (rd_load rfl rfl) ?_
    refine s_on rfl rfl ?_
    refine s_pu (pu_gtr rfl rfl) ?_
    first | refine s_pu (pu_pick_t rfl rfl) ?_ | refine s_pu (pu_pick_f rfl rfl) ?_
    refine s_pu (pu_move rfl) ?_
    refine s_split 21 rfl (fun h21 => ?_) (fun h21 => ?_)
    ·skip
     refine s_off rfl rfl rfl ?_
     refine s_off rfl rfl rfl ?_
     refine s_off rfl rfl rfl ?_
     first | refine s_pu (pu_pick_t rfl rfl) ?_ | refine s_pu (pu_pick_f rfl rfl) ?_
     refine s_pu (pu_move rfl) ?_
     refine s_split 26 rfl (fun h26 => ?_) (fun h26 => ?_)
     ·skip
      refine s_off rfl rfl rfl ?_
      refine s_off rfl rfl rfl ?_
      refine s_off rfl rfl rfl ?_
      first | refine s_pu (pu_pick_t rfl rfl) ?_ | refine s_pu (pu_pick_f rfl rfl) ?_
      refine swl_sub _ (.cons (t := 30) rfl .nil) ?_
      refine swl_nil ?_
      refine then_n ?_
      refine swp_cond (b := _) rfl (fun h30 => ?_) (fun h30 => ?_)
      ·skip
       refine swp_seq ?_
       refine swp_region ?_
       refine s_pu (pu_assign rfl) ?_
       refine swl_sub _ (.cons (t := 2) rfl .nil) ?_
       refine swl_nil ?_
       refine then_n ?_
       refine swp_ret ?_
       refine then_r ?_
       refine done_ret [] (.tmp rfl .nil) ⟨congrArg (Value.int .i64) ?_, rfl⟩ (by repeat (first | exact Split.nil | (apply Split.cons; (repeat (first | with_reducible exact Take.here | apply Take.there)))))
       unfold Sett.bad; grind
      ·skip
       refine swp_skip ?_
       refine then_n ?_
       refine swp_seq ?_
       refine swp_region ?_
       refine s_pu (pu_assign rfl) ?_
       refine swl_sub _ (.cons (t := 2) rfl .nil) ?_
       refine swl_nil ?_
       refine then_n ?_
       refine swp_ret ?_
       refine done_ret [] (.tmp rfl .nil) ⟨congrArg (Value.int .i64) ?_, rfl⟩ (by repeat (first | exact Split.nil | (apply Split.cons; (repeat (first | with_reducible exact Take.here | apply Take.there)))))
       unfold Sett.bad; grind
     ·skip
      refine s_on rfl rfl ?_
      first | refine s_pu (pu_fieldAddr0 rfl) ?_ | refine s_pu (pu_fieldAddr rfl) ?_
      refine s_on rfl rfl ?_
      refine s_rd (rd_load rfl rfl) ?_
      refine s_on rfl rfl ?_
      refine s_pu (pu_gtr rfl rfl) ?_
      first | refine s_pu (pu_pick_t rfl rfl) ?_ | refine s_pu (pu_pick_f rfl rfl) ?_
      refine swl_sub _ (.cons (t := 30) rfl .nil) ?_
      refine swl_nil ?_
      refine then_n ?_
      refine swp_cond (b := _) rfl (fun h30 => ?_) (fun h30 => ?_)
      ·skip
       refine swp_seq ?_
       refine swp_region ?_
       refine s_pu (pu_assign rfl) ?_
       refine swl_sub _ (.cons (t := 2) rfl .nil) ?_
       refine swl_nil ?_
       refine then_n ?_
       refine swp_ret ?_
       refine then_r ?_
       refine done_ret [] (.tmp rfl .nil) ⟨congrArg (Value.int .i64) ?_, rfl⟩ (by repeat (first | exact Split.nil | (apply Split.cons; (repeat (first | with_reducible exact Take.here | apply Take.there)))))
       unfold Sett.bad; grind
      ·skip
       refine swp_skip ?_
       refine then_n ?_
       refine swp_seq ?_
       refine swp_region ?_
       refine s_pu (pu_assign rfl) ?_
       refine swl_sub _ (.cons (t := 2) rfl .nil) ?_
       refine swl_nil ?_
       refine then_n ?_
       refine swp_ret ?_
       refine done_ret [] (.tmp rfl .nil) ⟨congrArg (Value.int .i64) ?_, rfl⟩ (by repeat (first | exact Split.nil | (apply Split.cons; (repeat (first | with_reducible exact Take.here | apply Take.there)))))
       unfold Sett.bad; grind
    ·skip
     refine s_on rfl rfl ?_
     first | refine s_pu (pu_fieldAddr0 rfl) ?_ | refine s_pu (pu_fieldAddr rfl) ?_
     refine s_on rfl rfl ?_
     refine s_rd (rd_load rfl rfl) ?_
     refine s_on rfl rfl ?_
     refine s_pu (pu_lss rfl rfl) ?_
     first | refine s_pu (pu_pick_t rfl rfl) ?_ | refine s_pu (pu_pick_f rfl rfl) ?_
     refine s_pu (pu_move rfl) ?_
     refine s_split 26 rfl (fun h26 => ?_) (fun h26 => ?_)
     ·skip
      refine s_off rfl rfl rfl ?_
      refine s_off rfl rfl rfl ?_
      refine s_off rfl rfl rfl ?_
      first | refine s_pu (pu_pick_t rfl rfl) ?_ | refine s_pu (pu_pick_f rfl rfl) ?_
      refine swl_sub _ (.cons (t := 30) rfl .nil) ?_
      refine swl_nil ?_
      refine then_n ?_
      refine swp_cond (b := _) rfl (fun h30 => ?_) (fun h30 => ?_)
      ·skip
       refine swp_seq ?_
       refine swp_region ?_
       refine s_pu (pu_assign rfl) ?_
       refine swl_sub _ (.cons (t := 2) rfl .nil) ?_
       refine swl_nil ?_
       refine then_n ?_
       refine swp_ret ?_
       refine then_r ?_
       refine done_ret [] (.tmp rfl .nil) ⟨congrArg (Value.int .i64) ?_, rfl⟩ (by repeat (first | exact Split.nil | (apply Split.cons; (repeat (first | with_reducible exact Take.here | apply Take.there)))))
       unfold Sett.bad; grind
      ·skip
       refine swp_skip ?_
       refine then_n ?_
       refine swp_seq ?_
       refine swp_region ?_
       refine s_pu (pu_assign rfl) ?_
       refine swl_sub _ (.cons (t := 2) rfl .nil) ?_
       refine swl_nil ?_
       refine then_n ?_
       refine swp_ret ?_
       refine done_ret [] (.tmp rfl .nil) ⟨congrArg (Value.int .i64) ?_, rfl⟩ (by repeat (first | exact Split.nil | (apply Split.cons; (repeat (first | with_reducible exact Take.here | apply Take.there)))))
       unfold Sett.bad; grind
     ·skip
      refine s_on rfl rfl ?_
      first | refine s_pu (pu_fieldAddr0 rfl) ?_ | refine s_pu (pu_fieldAddr rfl) ?_
      refine s_on rfl rfl ?_
      refine s_rd (rd_load rfl rfl) ?_
      refine s_on rfl rfl ?_
      refine s_pu (pu_gtr rfl rfl) ?_
      first | refine s_pu (pu_pick_t rfl rfl) ?_ | refine s_pu (pu_pick_f rfl rfl) ?_
      refine swl_sub _ (.cons (t := 30) rfl .nil) ?_
      refine swl_nil ?_
      refine then_n ?_
      refine swp_cond (b := _) rfl (fun h30 => ?_) (fun h30 => ?_)
      ·skip
       refine swp_seq ?_
       refine swp_region ?_
       refine s_pu (pu_assign rfl) ?_
       refine swl_sub _ (.cons (t := 2) rfl .nil) ?_
       refine swl_nil ?_
       refine then_n ?_
       refine swp_ret ?_
       refine then_r ?_
       refine done_ret [] (.tmp rfl .nil) ⟨congrArg (Value.int .i64) ?_, rfl⟩ (by repeat (first | exact Split.nil | (apply Split.cons; (repeat (first | with_reducible exact Take.here | apply Take.there)))))
       unfold Sett.bad; grind
      ·skip
       refine swp_skip ?_
       refine then_n ?_
       refine swp_seq ?_
       refine swp_region ?_
       refine s_pu (pu_assign rfl) ?_
       refine swl_sub _ (.cons (t := 2) rfl .nil) ?_
       refine swl_nil ?_
       refine then_n ?_
       refine swp_ret ?_
       refine done_ret [] (.tmp rfl .nil) ⟨congrArg (Value.int .i64) ?_, rfl⟩ (by repeat (first | exact Split.nil | (apply Split.cons; (repeat (first | with_reducible exact Take.here | apply Take.there)))))
       unfold Sett.bad; grind
  ·skip
   refine s_on rfl rfl ?_
   first | refine s_pu (pu_fieldAddr0 rfl) ?_ | refine s_pu (pu_fieldAddr rfl) ?_
   refine s_on rfl rfl ?_
   refine s_rd (rd_load rfl rfl) ?_
   refine s_on rfl rfl ?_
   refine s_pu (pu_lss rfl rfl) ?_
   first | refine s_pu (pu_pick_t rfl rfl) ?_ | refine s_pu (pu_pick_f rfl rfl) ?_
   refine s_pu (pu_move rfl) ?_
   refine s_split 16 rfl (fun h16 => ?_) (fun h16 => ?_)
   ·skip
    refine s_off rfl rfl rfl ?_
    refine s_off rfl rfl rfl ?_
    refine s_off rfl rfl rfl ?_
    first | refine s_pu (pu_pick_t rfl rfl) ?_ | refine s_pu (pu_pick_f rfl rfl) ?_
    refine s_pu (pu_move rfl) ?_
    refine s_split 21 rfl (fun h21 => ?_) (fun h21 => ?_)
    ·skip
     refine s_off rfl rfl rfl ?_
     refine s_off rfl rfl rfl ?_
     refine s_off rfl rfl rfl ?_
     first | refine s_pu (pu_pick_t rfl rfl) ?_ | refine s_pu (pu_pick_f rfl rfl) ?_
     refine s_pu (pu_move rfl) ?_
     refine s_split 26 rfl (fun h26 => ?_) (fun h26 => ?_)
     ·skip
      refine s_off rfl rfl rfl ?_
      refine s_off rfl rfl rfl ?_
      refine s_off rfl rfl rfl ?_
      first | refine s_pu (pu_pick_t rfl rfl) ?_ | refine s_pu (pu_pick_f rfl rfl) ?_
      refine swl_sub _ (.cons (t := 30) rfl .nil) ?_
      refine swl_nil ?_
      refine then_n ?_
      refine swp_cond (b := _) rfl (fun h30 => ?_) (fun h30 => ?_)
      ·skip
       refine swp_seq ?_
       refine swp_region ?_
       refine s_pu (pu_assign rfl) ?_
       refine swl_sub _ (.cons (t := 2) rfl .nil) ?_
       refine swl_nil ?_
       refine then_n ?_
       refine swp_ret ?_
       refine then_r ?_
       refine done_ret [] (.tmp rfl .nil) ⟨congrArg (Value.int .i64) ?_, rfl⟩ (by repeat (first | exact Split.nil | (apply Split.cons; (repeat (first | with_reducible exact Take.here | apply Take.there)))))
       unfold Sett.bad; grind
      ·skip
       refine swp_skip ?_
       refine then_n ?_
       refine swp_seq ?_
       refine swp_region ?_
       refine s_pu (pu_assign rfl) ?_
       refine swl_sub _ (.cons (t := 2) rfl .nil) ?_
       refine swl_nil ?_
       refine then_n ?_
       refine swp_ret ?_
       refine done_ret [] (.tmp rfl .nil) ⟨congrArg (Value.int .i64) ?_, rfl⟩ (by repeat (first | exact Split.nil | (apply Split.cons; (repeat (first | with_reducible exact Take.here | apply Take.there)))))
       unfold Sett.bad; grind
     ·skip
      refine s_on rfl rfl ?_
      first | refine s_pu (pu_fieldAddr0 rfl) ?_ | refine s_pu (pu_fieldAddr rfl) ?_
      refine s_on rfl rfl ?_
      refine s_rd (rd_load rfl rfl) ?_
      refine s_on rfl rfl ?_
      refine s_pu (pu_gtr rfl rfl) ?_
      first | refine s_pu (pu_pick_t rfl rfl) ?_ | refine s_pu (pu_pick_f rfl rfl) ?_
      refine swl_sub _ (.cons (t := 30) rfl .nil) ?_
      refine swl_nil ?_
      refine then_n ?_
      refine swp_cond (b := _) rfl (fun h30 => ?_) (fun h30 => ?_)
      ·skip
       refine swp_seq ?_
       refine swp_region ?_
       refine s_pu (pu_assign rfl) ?_
       refine swl_sub _ (.cons (t := 2) rfl .nil) ?_
       refine swl_nil ?_
       refine then_n ?_
       refine swp_ret ?_
       refine then_r ?_
       refine done_ret [] (.tmp rfl .nil) ⟨congrArg (Value.int .i64) ?_, rfl⟩ (by repeat (first | exact Split.nil | (apply Split.cons; (repeat (first | with_reducible exact Take.here | apply Take.there)))))
       unfold Sett.bad; grind
      ·skip
       refine swp_skip ?_
       refine then_n ?_
       refine swp_seq ?_
       refine swp_region ?_
       refine s_pu (pu_assign rfl) ?_
       refine swl_sub _ (.cons (t := 2) rfl .nil) ?_
       refine swl_nil ?_
       refine then_n ?_
       refine swp_ret ?_
       refine done_ret [] (.tmp rfl .nil) ⟨congrArg (Value.int .i64) ?_, rfl⟩ (by repeat (first | exact Split.nil | (apply Split.cons; (repeat (first | with_reducible exact Take.here | apply Take.there)))))
       unfold Sett.bad; grind
    ·skip
     refine s_on rfl rfl ?_
     first | refine s_pu (pu_fieldAddr0 rfl) ?_ | refine s_pu (pu_fieldAddr rfl) ?_
     refine s_on rfl rfl ?_
     refine s_rd (rd_load rfl rfl) ?_
     refine s_on rfl rfl ?_
     refine s_pu (pu_lss rfl rfl) ?_
     first | refine s_pu (pu_pick_t rfl rfl) ?_ | refine s_pu (pu_pick_f rfl rfl) ?_
     refine s_pu (pu_move rfl) ?_
     refine s_split 26 rfl (fun h26 => ?_) (fun h26 => ?_)
     ·skip
      refine s_off rfl rfl rfl ?_
      refine s_off rfl rfl rfl ?_
      refine s_off rfl rfl rfl ?_
      first | refine s_pu (pu_pick_t rfl rfl) ?_ | refine s_pu (pu_pick_f rfl rfl) ?_
      refine swl_sub _ (.cons (t := 30) rfl .nil) ?_
      refine swl_nil ?_
      refine then_n ?_
      refine swp_cond (b := _) rfl (fun h30 => ?_) (fun h30 => ?_)
      ·skip
       refine swp_seq ?_
       refine swp_region ?_
       refine s_pu (pu_assign rfl) ?_
       refine swl_sub _ (.cons (t := 2) rfl .nil) ?_
       refine swl_nil ?_
       refine then_n ?_
       refine swp_ret ?_
       refine then_r ?_
       refine done_ret [] (.tmp rfl .nil) ⟨congrArg (Value.int .i64) ?_, rfl⟩ (by repeat (first | exact Split.nil | (apply Split.cons; (repeat (first | with_reducible exact Take.here | apply Take.there)))))
       unfold Sett.bad; grind
      ·skip
       refine swp_skip ?_
       refine then_n ?_
       refine swp_seq ?_
       refine swp_region ?_
       refine s_pu (pu_assign rfl) ?_
       refine swl_sub _ (.cons (t := 2) rfl .nil) ?_
       refine swl_nil ?_
       refine then_n ?_
       refine swp_ret ?_
       refine done_ret [] (.tmp rfl .nil) ⟨congrArg (Value.int .i64) ?_, rfl⟩ (by repeat (first | exact Split.nil | (apply Split.cons; (repeat (first | with_reducible exact Take.here | apply Take.there)))))
       unfold Sett.bad; grind
     ·skip
      refine s_on rfl rfl ?_
      first | refine s_pu (pu_fieldAddr0 rfl) ?_ | refine s_pu (pu_fieldAddr rfl) ?_
      refine s_on rfl rfl ?_
      refine s_rd (rd_load rfl rfl) ?_
      refine s_on rfl rfl ?_
      refine s_pu (pu_gtr rfl rfl) ?_
      first | refine s_pu (pu_pick_t rfl rfl) ?_ | refine s_pu (pu_pick_f rfl rfl) ?_
      refine swl_sub _ (.cons (t := 30) rfl .nil) ?_
      refine swl_nil ?_
      refine then_n ?_
      refine swp_cond (b := _) rfl (fun h30 => ?_) (fun h30 => ?_)
      ·skip
       refine swp_seq ?_
       refine swp_region ?_
       refine s_pu (pu_assign rfl) ?_
       refine swl_sub _ (.cons (t := 2) rfl .nil) ?_
       refine swl_nil ?_
       refine then_n ?_
       refine swp_ret ?_
       refine then_r ?_
       refine done_ret [] (.tmp rfl .nil) ⟨congrArg (Value.int .i64) ?_, rfl⟩ (by repeat (first | exact Split.nil | (apply Split.cons; (repeat (first | with_reducible exact Take.here | apply Take.there)))))
       unfold Sett.bad; grind
      ·skip
       refine swp_skip ?_
       refine then_n ?_
       refine swp_seq ?_
       refine swp_region ?_
       refine s_pu (pu_assign rfl) ?_
       refine swl_sub _ (.cons (t := 2) rfl .nil) ?_
       refine swl_nil ?_
       refine then_n ?_
       refine swp_ret ?_
       refine done_ret [] (.tmp rfl .nil) ⟨congrArg (Value.int .i64) ?_, rfl⟩ (by repeat (first | exact Split.nil | (apply Split.cons; (repeat (first | with_reducible exact Take.here | apply Take.there)))))
       unfold Sett.bad; grind
   ·skip
    refine s_on rfl rfl ?_
    first | refine s_pu (pu_fieldAddr0 rfl) ?_ | refine s_pu (pu_fieldAddr rfl) ?_
    refine s_on rfl rfl ?_
    refine s_rd (rd_load rfl rfl) ?_
    refine s_on rfl rfl ?_
    refine s_pu (pu_gtr rfl rfl) ?_
    first | refine s_pu (pu_pick_t rfl rfl) ?_ | refine s_pu (pu_pick_f rfl rfl) ?_
    refine s_pu (pu_move rfl) ?_
    refine s_split 21 rfl (fun h21 => ?_) (fun h21 => ?_)
    ·skip
     refine s_off rfl rfl rfl ?_
     refine s_off rfl rfl rfl ?_
     refine s_off rfl rfl rfl ?_
     first | refine s_pu (pu_pick_t rfl rfl) ?_ | refine s_pu (pu_pick_f rfl rfl) ?_
     refine s_pu (pu_move rfl) ?_
     refine s_split 26 rfl (fun h26 => ?_) (fun h26 => ?_)
     ·skip
      refine s_off rfl rfl rfl ?_
      refine s_off rfl rfl rfl ?_
      refine s_off rfl rfl rfl ?_
      first | refine s_pu (pu_pick_t rfl rfl) ?_ | refine s_pu (pu_pick_f rfl rfl) ?_
      refine swl_sub _ (.cons (t := 30) rfl .nil) ?_
      refine swl_nil ?_
      refine then_n ?_
      refine swp_cond (b := _) rfl (fun h30 => ?_) (fun h30 => ?_)
      ·skip
       refine swp_seq ?_
       refine swp_region ?_
       refine s_pu (pu_assign rfl) ?_
       refine swl_sub _ (.cons (t := 2) rfl .nil) ?_
       refine swl_nil ?_
       refine then_n ?_
       refine swp_ret ?_
       refine then_r ?_
       refine done_ret [] (.tmp rfl .nil) ⟨congrArg (Value.int .i64) ?_, rfl⟩ (by repeat (first | exact Split.nil | (apply Split.cons; (repeat (first | with_reducible exact Take.here | apply Take.there)))))
       unfold Sett.bad; grind
      ·skip
       refine swp_skip ?_
       refine then_n ?_
       refine swp_seq ?_
       refine swp_region ?_
       refine s_pu (pu_assign rfl) ?_
       refine swl_sub _ (.cons (t := 2) rfl .nil) ?_
       refine swl_nil ?_
       refine then_n ?_
       refine swp_ret ?_
       refine done_ret [] (.tmp rfl .nil) ⟨congrArg (Value.int .i64) ?_, rfl⟩ (by repeat (first | exact Split.nil | (apply Split.cons; (repeat (first | with_reducible exact Take.here | apply Take.there)))))
       unfold Sett.bad; grind
     ·skip
      refine s_on rfl rfl ?_
      first | refine s_pu (pu_fieldAddr0 rfl) ?_ | refine s_pu (pu_fieldAddr rfl) ?_
      refine s_on rfl rfl ?_
      refine s_rd (rd_load rfl rfl) ?_
      refine s_on rfl rfl ?_
      refine s_pu (pu_gtr rfl rfl) ?_
      first | refine s_pu (pu_pick_t rfl rfl) ?_ | refine s_pu (pu_pick_f rfl rfl) ?_
      refine swl_sub _ (.cons (t := 30) rfl .nil) ?_
      refine swl_nil ?_
      refine then_n ?_
      refine swp_cond (b := _) rfl (fun h30 => ?_) (fun h30 => ?_)
      ·skip
       refine swp_seq ?_
       refine swp_region ?_
       refine s_pu (pu_assign rfl) ?_
       refine swl_sub _ (.cons (t := 2) rfl .nil) ?_
       refine swl_nil ?_
       refine then_n ?_
       refine swp_ret ?_
       refine then_r ?_
       refine done_ret [] (.tmp rfl .nil) ⟨congrArg (Value.int .i64) ?_, rfl⟩ (by repeat (first | exact Split.nil | (apply Split.cons; (repeat (first | with_reducible exact Take.here | apply Take.there)))))
       unfold Sett.bad; grind
      ·skip
       refine swp_skip ?_
       refine then_n ?_
       refine swp_seq ?_
       refine swp_region ?_
       refine s_pu (pu_assign rfl) ?_
       refine swl_sub _ (.cons (t := 2) rfl .nil) ?_
       refine swl_nil ?_
       refine then_n ?_
       refine swp_ret ?_
       refine done_ret [] (.tmp rfl .nil) ⟨congrArg (Value.int .i64) ?_, rfl⟩ (by repeat (first | exact Split.nil | (apply Split.cons; (repeat (first | with_reducible exact Take.here | apply Take.there)))))
       unfold Sett.bad; grind
    ·skip
     refine s_on rfl rfl ?_
     first | refine s_pu (pu_fieldAddr0 rfl) ?_ | refine s_pu (pu_fieldAddr rfl) ?_
     refine s_on rfl rfl ?_
     refine s_rd (rd_load rfl rfl) ?_
     refine s_on rfl rfl ?_
     refine s_pu (pu_lss rfl rfl) ?_
     first | refine s_pu (pu_pick_t rfl rfl) ?_ | refine s_pu (pu_pick_f rfl rfl) ?_
     refine s_pu (pu_move rfl) ?_
     refine s_split 26 rfl (fun h26 => ?_) (fun h26 => ?_)
     ·skip
      refine s_off rfl rfl rfl ?_
      refine s_off rfl rfl rfl ?_
      refine s_off rfl rfl rfl ?_
      first | refine s_pu (pu_pick_t rfl rfl) ?_ | refine s_pu (pu_pick_f rfl rfl) ?_
      refine swl_sub _ (.cons (t := 30) rfl .nil) ?_
      refine swl_nil ?_
      refine then_n ?_
      refine swp_cond (b := _) rfl (fun h30 => ?_) (fun h30 => ?_)
      ·skip
       refine swp_seq ?_
       refine swp_region ?_
       refine s_pu (pu_assign rfl) ?_
       refine swl_sub _ (.cons (t := 2) rfl .nil) ?_
       refine swl_nil ?_
       refine then_n ?_
       refine swp_ret ?_
       refine then_r ?_
       refine done_ret [] (.tmp rfl .nil) ⟨congrArg (Value.int .i64) ?_, rfl⟩ (by repeat (first | exact Split.nil | (apply Split.cons; (repeat (first | with_reducible exact Take.here | apply Take.there)))))
       unfold Sett.bad; grind
      ·skip
       refine swp_skip ?_
       refine then_n ?_
       refine swp_seq ?_
       refine swp_region ?_
       refine s_pu (pu_assign rfl) ?_
       refine swl_sub _ (.cons (t := 2) rfl .nil) ?_
       refine swl_nil ?_
       refine then_n ?_
       refine swp_ret ?_
       refine done_ret [] (.tmp rfl .nil) ⟨congrArg (Value.int .i64) ?_, rfl⟩ (by repeat (first | exact Split.nil | (apply Split.cons; (repeat (first | with_reducible exact Take.here | apply Take.there)))))
       unfold Sett.bad; grind
     ·skip
      refine s_on rfl rfl ?_
      first | refine s_pu (pu_fieldAddr0 rfl) ?_ | refine s_pu (pu_fieldAddr rfl) ?_
      refine s_on rfl rfl ?_
      refine s_rd (rd_load rfl rfl) ?_
      refine s_on rfl rfl ?_
      refine s_pu (pu_gtr rfl rfl) ?_
      first | refine s_pu (pu_pick_t rfl rfl) ?_ | refine s_pu (pu_pick_f rfl rfl) ?_
      refine swl_sub _ (.cons (t := 30) rfl .nil) ?_
      refine swl_nil ?_
      refine then_n ?_
      refine swp_cond (b := _) rfl (fun h30 => ?_) (fun h30 => ?_)
      ·skip
       refine swp_seq ?_
       refine swp_region ?_
       refine s_pu (pu_assign rfl) ?_
       refine swl_sub _ (.cons (t := 2) rfl .nil) ?_
       refine swl_nil ?_
       refine then_n ?_
       refine swp_ret ?_
       refine then_r ?_
       refine done_ret [] (.tmp rfl .nil) ⟨congrArg (Value.int .i64) ?_, rfl⟩ (by repeat (first | exact Split.nil | (apply Split.cons; (repeat (first | with_reducible exact Take.here | apply Take.there)))))
       unfold Sett.bad; grind
      ·skip
       refine swp_skip ?_
       refine then_n ?_
       refine swp_seq ?_
       refine swp_region ?_
       refine s_pu (pu_assign rfl) ?_
       refine swl_sub _ (.cons (t := 2) rfl .nil) ?_
       refine swl_nil ?_
       refine then_n ?_
       refine swp_ret ?_
       refine done_ret [] (.tmp rfl .nil) ⟨congrArg (Value.int .i64) ?_, rfl⟩ (by repeat (first | exact Split.nil | (apply Split.cons; (repeat (first | with_reducible exact Take.here | apply Take.there)))))
       unfold Sett.bad; grind
 ·skip
  refine s_on rfl rfl ?_
  first | refine s_pu (pu_fieldAddr0 rfl) ?_ | refine s_pu (pu_fieldAddr rfl) ?_
  refine s_on rfl rfl ?_
  refine s_rd (rd_load rfl rfl) ?_
  refine s_on rfl rfl ?_
  refine s_pu (pu_gtr rfl rfl) ?_
  first | refine s_pu (pu_pick_t rfl rfl) ?_ | refine s_pu (pu_pick_f rfl rfl) ?_
  refine s_pu (pu_move rfl) ?_
  refine s_split 11 rfl (fun h11 => ?_) (fun h11 => ?_)
  ·skip
   refine s_off rfl rfl rfl ?_
   refine s_off rfl rfl rfl ?_
   refine s_off rfl rfl rfl ?_
   first | refine s_pu (pu_pick_t rfl rfl) ?_ | refine s_pu (pu_pick_f rfl rfl) ?_
   refine s_pu (pu_move rfl) ?_
   refine s_split 16 rfl (fun h16 => ?_) (fun h16 => ?_)
   ·skip
    refine s_off rfl rfl rfl ?_
    refine s_off rfl rfl rfl ?_
    refine s_off rfl rfl rfl ?_
    first | refine s_pu (pu_pick_t rfl rfl) ?_ | refine s_pu (pu_pick_f rfl rfl) ?_
    refine s_pu (pu_move rfl) ?_
    refine s_split 21 rfl (fun h21 => ?_) (fun h21 => ?_)
    ·skip
     refine s_off rfl rfl rfl ?_
     refine s_off rfl rfl rfl ?_
     refine s_off rfl rfl rfl ?_
     first | refine s_pu (pu_pick_t rfl rfl) ?_ | refine s_pu (pu_pick_f rfl rfl) ?_
     refine s_pu (pu_move rfl) ?_
     refine s_split 26 rfl (fun h26 => ?_) (fun h26 => ?_)
     ·skip
      refine s_off rfl rfl rfl ?_
      refine s_off rfl rfl rfl ?_
      refine s_off rfl rfl rfl ?_
      first | refine s_pu (pu_pick_t rfl rfl) ?_ | refine s_pu (pu_pick_f rfl rfl) ?_
      refine swl_sub _ (.cons (t := 30) rfl .nil) ?_
      refine swl_nil ?_
      refine then_n ?_
      refine swp_cond (b := _) rfl (fun h30 => ?_) (fun h30 => ?_)
      ·skip
       refine swp_seq ?_
       refine swp_region ?_
       refine s_pu (pu_assign rfl) ?_
       refine swl_sub _ (.cons (t := 2) rfl .nil) ?_
       refine swl_nil ?_
       refine then_n ?_
       refine swp_ret ?_
       refine then_r ?_
       refine done_ret [] (.tmp rfl .nil) ⟨congrArg (Value.int .i64) ?_, rfl⟩ (by repeat (first | exact Split.nil | (apply Split.cons; (repeat (first | with_reducible exact Take.here | apply Take.there)))))
       unfold Sett.bad; grind
      ·skip
       refine swp_skip ?_
       refine then_n ?_
       refine swp_seq ?_
       refine swp_region ?_
       refine s_pu (pu_assign rfl) ?_
       refine swl_sub _ (.cons (t := 2) rfl .nil) ?_
       refine swl_nil ?_
       refine then_n ?_
       refine swp_ret ?_
       refine done_ret [] (.tmp rfl .nil) ⟨congrArg (Value.int .i64) ?_, rfl⟩ (by repeat (first | exact Split.nil | (apply Split.cons; (repeat (first | with_reducible exact Take.here | apply Take.there)))))
       unfold Sett.bad; grind
     ·skip
      refine s_on rfl rfl ?_
      first | refine s_pu (pu_fieldAddr0 rfl) ?_ | refine s_pu (pu_fieldAddr rfl) ?_
      refine s_on rfl rfl ?_
      refine s_rd (rd_load rfl rfl) ?_
      refine s_on rfl rfl ?_
      refine s_pu (pu_gtr rfl rfl) ?_
      first | refine s_pu (pu_pick_t rfl rfl) ?_ | refine s_pu (pu_pick_f rfl rfl) ?_
      refine swl_sub _ (.cons (t := 30) rfl .nil) ?_
      refine swl_nil ?_
      refine then_n ?_
      refine swp_cond (b := _) rfl (fun h30 => ?_) (fun h30 => ?_)
      ·skip
       refine swp_seq ?_
       refine swp_region ?_
       refine s_pu (pu_assign rfl) ?_
       refine swl_sub _ (.cons (t := 2) rfl .nil) ?_
       refine swl_nil ?_
       refine then_n ?_
       refine swp_ret ?_
       refine then_r ?_
       refine done_ret [] (.tmp rfl .nil) ⟨congrArg (Value.int .i64) ?_, rfl⟩ (by repeat (first | exact Split.nil | (apply Split.cons; (repeat (first | with_reducible exact Take.here | apply Take.there)))))
       unfold Sett.bad; grind
      ·skip
       refine swp_skip ?_
       refine then_n ?_
       refine swp_seq ?_
       refine swp_region ?_
       refine s_pu (pu_assign rfl) ?_
       refine swl_sub _ (.cons (t := 2) rfl .nil) ?_
       refine swl_nil ?_
       refine then_n ?_
       refine swp_ret ?_
       refine done_ret [] (.tmp rfl .nil) ⟨congrArg (Value.int .i64) ?_, rfl⟩ (by repeat (first | exact Split.nil | (apply Split.cons; (repeat (first | with_reducible exact Take.here | apply Take.there)))))
       unfold Sett.bad; grind
    ·skip
     refine s_on rfl rfl ?_
     first | refine s_pu (pu_fieldAddr0 rfl) ?_ | refine s_pu (pu_fieldAddr rfl) ?_
     refine s_on rfl rfl ?_
     refine s_rd (rd_load rfl rfl) ?_
     refine s_on rfl rfl ?_
     refine s_pu (pu_lss rfl rfl) ?_
     first | refine s_pu (pu_pick_t rfl rfl) ?_ | refine s_pu (pu_pick_f rfl rfl) ?_
     refine s_pu (pu_move rfl) ?_
     refine s_split 26 rfl (fun h26 => ?_) (fun h26 => ?_)
     ·skip
      refine s_off rfl rfl rfl ?_
      refine s_off rfl rfl rfl ?_
      refine s_off rfl rfl rfl ?_
      first | refine s_pu (pu_pick_t rfl rfl) ?_ | refine s_pu (pu_pick_f rfl rfl) ?_
      refine swl_sub _ (.cons (t := 30) rfl .nil) ?_
      refine swl_nil ?_
      refine then_n ?_
      refine swp_cond (b := _) rfl (fun h30 => ?_) (fun h30 => ?_)
      ·skip
       refine swp_seq ?_
       refine swp_region ?_
       refine s_pu (pu_assign rfl) ?_
       refine swl_sub _ (.cons (t := 2) rfl .nil) ?_
       refine swl_nil ?_
       refine then_n ?_
       refine swp_ret ?_
       refine then_r ?_
       refine done_ret [] (.tmp rfl .nil) ⟨congrArg (Value.int .i64) ?_, rfl⟩ (by repeat (first | exact Split.nil | (apply Split.cons; (repeat (first | with_reducible exact Take.here | apply Take.there)))))
       unfold Sett.bad; grind
      ·skip
       refine swp_skip ?_
       refine then_n ?_
       refine swp_seq ?_
       refine swp_region ?_
       refine s_pu (pu_assign rfl) ?_
       refine swl_sub _ (.cons (t := 2) rfl .nil) ?_
       refine swl_nil ?_
       refine then_n ?_
       refine swp_ret ?_
       refine done_ret [] (.tmp rfl .nil) ⟨congrArg (Value.int .i64) ?_, rfl⟩ (by repeat (first | exact Split.nil | (apply Split.cons; (repeat (first | with_reducible exact Take.here | apply Take.there)))))
       unfold Sett.bad; grind
     ·skip
      refine s_on rfl rfl ?_
      first | refine s_pu (pu_fieldAddr0 rfl) ?_ | refine s_pu (pu_fieldAddr rfl) ?_
      refine s_on rfl rfl ?_
      refine s_rd (rd_load rfl rfl) ?_
      refine s_on rfl rfl ?_
      refine s_pu (pu_gtr rfl rfl) ?_
      first | refine s_pu (pu_pick_t rfl rfl) ?_ | refine s_pu (pu_pick_f rfl rfl) ?_
      refine swl_sub _ (.cons (t := 30) rfl .nil) ?_
      refine swl_nil ?_
      refine then_n ?_
      refine swp_cond (b := _) rfl (fun h30 => ?_) (fun h30 => ?_)
      ·skip
       refine swp_seq ?_
       refine swp_region ?_
       refine s_pu (pu_assign rfl) ?_
       refine swl_sub _ (.cons (t := 2) rfl .nil) ?_
       refine swl_nil ?_
       refine then_n ?_
       refine swp_ret ?_
       refine then_r ?_
       refine done_ret [] (.tmp rfl .nil) ⟨congrArg (Value.int .i64) ?_, rfl⟩ (by repeat (first | exact Split.nil | (apply Split.cons; (repeat (first | with_reducible exact Take.here | apply Take.there)))))
       unfold Sett.bad; grind
      ·skip
       refine swp_skip ?_
       refine then_n ?_
       refine swp_seq ?_
       refine swp_region ?_
       refine s_pu (pu_assign rfl) ?_
       refine swl_sub _ (.cons (t := 2) rfl .nil) ?_
       refine swl_nil ?_
       refine then_n ?_
       refine swp_ret ?_
       refine done_ret [] (.tmp rfl .nil) ⟨congrArg (Value.int .i64) ?_, rfl⟩ (by repeat (first | exact Split.nil | (apply Split.cons; (repeat (first | with_reducible exact Take.here | apply Take.there)))))
       unfold Sett.bad; grind
   ·skip
    refine s_on rfl rfl ?_
    first | refine s_pu (pu_fieldAddr0 rfl) ?_ | refine s_pu (pu_fieldAddr rfl) ?_
    refine s_on rfl rfl ?_
    refine s_rd (rd_load rfl rfl) ?_
    refine s_on rfl rfl ?_
    refine s_pu (pu_gtr rfl rfl) ?_
    first | refine s_pu (pu_pick_t rfl rfl) ?_ | refine s_pu (pu_pick_f rfl rfl) ?_
    refine s_pu (pu_move rfl) ?_
    refine s_split 21 rfl (fun h21 => ?_) (fun h21 => ?_)
    ·skip
     refine s_off rfl rfl rfl ?_
     refine s_off rfl rfl rfl ?_
     refine s_off rfl rfl rfl ?_
     first | refine s_pu (pu_pick_t rfl rfl) ?_ | refine s_pu (pu_pick_f rfl rfl) ?_
     refine s_pu (pu_move rfl) ?_
     refine s_split 26 rfl (fun h26 => ?_) (fun h26 => ?_)
     ·skip
      refine s_off rfl rfl rfl ?_
      refine s_off rfl rfl rfl ?_
      refine s_off rfl rfl rfl ?_
      first | refine s_pu (pu_pick_t rfl rfl) ?_ | refine s_pu (pu_pick_f rfl rfl) ?_
      refine swl_sub _ (.cons (t := 30) rfl .nil) ?_
      refine swl_nil ?_
      refine then_n ?_
      refine swp_cond (b := _) rfl (fun h30 => ?_) (fun h30 => ?_)
      ·skip
       refine swp_seq ?_
       refine swp_region ?_
       refine s_pu (pu_assign rfl) ?_
       refine swl_sub _ (.cons (t := 2) rfl .nil) ?_
       refine swl_nil ?_
       refine then_n ?_
       refine swp_ret ?_
       refine then_r ?_
       refine done_ret [] (.tmp rfl .nil) ⟨congrArg (Value.int .i64) ?_, rfl⟩ (by repeat (first | exact Split.nil | (apply Split.cons; (repeat (first | with_reducible exact Take.here | apply Take.there)))))
       unfold Sett.bad; grind
      ·skip
       refine swp_skip ?_
       refine then_n ?_
       refine swp_seq ?_
       refine swp_region ?_
       refine s_pu (pu_assign rfl) ?_
       refine swl_sub _ (.cons (t := 2) rfl .nil) ?_
       refine swl_nil ?_
       refine then_n ?_
       refine swp_ret ?_
       refine done_ret [] (.tmp rfl .nil) ⟨congrArg (Value.int .i64) ?_, rfl⟩ (by repeat (first | exact Split.nil | (apply Split.cons; (repeat (first | with_reducible exact Take.here | apply Take.there)))))
       unfold Sett.bad; grind
     ·skip
      refine s_on rfl rfl ?_
      first | refine s_pu (pu_fieldAddr0 rfl) ?_ | refine s_pu (pu_fieldAddr rfl) ?_
      refine s_on rfl rfl ?_
      refine s_rd (rd_load rfl rfl) ?_
      refine s_on rfl rfl ?_
      refine s_pu (pu_gtr rfl rfl) ?_
      first | refine s_pu (pu_pick_t rfl rfl) ?_ | refine s_pu (pu_pick_f rfl rfl) ?_
      refine swl_sub _ (.cons (t := 30) rfl .nil) ?_
      refine swl_nil ?_
      refine then_n ?_
      refine swp_cond (b := _) rfl (fun h30 => ?_) (fun h30 => ?_)
      ·skip
       refine swp_seq ?_
       refine swp_region ?_
       refine s_pu (pu_assign rfl) ?_
       refine swl_sub _ (.cons (t := 2) rfl .nil) ?_
       refine swl_nil ?_
       refine then_n ?_
       refine swp_ret ?_
       refine then_r ?_
       refine done_ret [] (.tmp rfl .nil) ⟨congrArg (Value.int .i64) ?_, rfl⟩ (by repeat (first | exact Split.nil | (apply Split.cons; (repeat (first | with_reducible exact Take.here | apply Take.there)))))
       unfold Sett.bad; grind
      ·skip
       refine swp_skip ?_
       refine then_n ?_
       refine swp_seq ?_
       refine swp_region ?_
       refine s_pu (pu_assign rfl) ?_
       refine swl_sub _ (.cons (t := 2) rfl .nil) ?_
       refine swl_nil ?_
       refine then_n ?_
       refine swp_ret ?_
       refine done_ret [] (.tmp rfl .nil) ⟨congrArg (Value.int .i64) ?_, rfl⟩ (by repeat (first | exact Split.nil | (apply Split.cons; (repeat (first | with_reducible exact Take.here | apply Take.there)))))
       unfold Sett.bad; grind
    ·skip
     refine s_on rfl rfl ?_
     first | refine s_pu (pu_fieldAddr0 rfl) ?_ | refine s_pu (pu_fieldAddr rfl) ?_
     refine s_on rfl rfl ?_
     refine s_rd (rd_load rfl rfl) ?_
     refine s_on rfl rfl ?_
     refine s_pu (pu_lss rfl rfl) ?_
     first | refine s_pu (pu_pick_t rfl rfl) ?_ | refine s_pu (pu_pick_f rfl rfl) ?_
     refine s_pu (pu_move rfl) ?_
     refine s_split 26 rfl (fun h26 => ?_) (fun h26 => ?_)
     ·skip
      refine s_off rfl rfl rfl ?_
      refine s_off rfl rfl rfl ?_
      refine s_off rfl rfl rfl ?_
      first | refine s_pu (pu_pick_t rfl rfl) ?_ | refine s_pu (pu_pick_f rfl rfl) ?_
      refine swl_sub _ (.cons (t := 30) rfl .nil) ?_
      refine swl_nil ?_
      refine then_n ?_
      refine swp_cond (b := _) rfl (fun h30 => ?_) (fun h30 => ?_)
      ·skip
       refine swp_seq ?_
       refine swp_region ?_
       refine s_pu (pu_assign rfl) ?_
       refine swl_sub _ (.cons (t := 2) rfl .nil) ?_
       refine swl_nil ?_
       refine then_n ?_
       refine swp_ret ?_
       refine then_r ?_
       refine done_ret [] (.tmp rfl .nil) ⟨congrArg (Value.int .i64) ?_, rfl⟩ (by repeat (first | exact Split.nil | (apply Split.cons; (repeat (first | with_reducible exact Take.here | apply Take.there)))))
       unfold Sett.bad; grind
      ·skip
       refine swp_skip ?_
       refine then_n ?_
       refine swp_seq ?_
       refine swp_region ?_
       refine s_pu (pu_assign rfl) ?_
       refine swl_sub _ (.cons (t := 2) rfl .nil) ?_
       refine swl_nil ?_
       refine then_n ?_
       refine swp_ret ?_
       refine done_ret [] (.tmp rfl .nil) ⟨congrArg (Value.int .i64) ?_, rfl⟩ (by repeat (first | exact Split.nil | (apply Split.cons; (repeat (first | with_reducible exact Take.here | apply Take.there)))))
       unfold Sett.bad; grind
     ·skip
      refine s_on rfl rfl ?_
      first | refine s_pu (pu_fieldAddr0 rfl) ?_ | refine s_pu (pu_fieldAddr rfl) ?_
      refine s_on rfl rfl ?_
      refine s_rd (rd_load rfl rfl) ?_
      refine s_on rfl rfl ?_
      refine s_pu (pu_gtr rfl rfl) ?_
      first | refine s_pu (pu_pick_t rfl rfl) ?_ | refine s_pu (pu_pick_f rfl rfl) ?_
      refine swl_sub _ (.cons (t := 30) rfl .nil) ?_
      refine swl_nil ?_
      refine then_n ?_
      refine swp_cond (b := _) rfl (fun h30 => ?_) (fun h30 => ?_)
      ·skip
       refine swp_seq ?_
       refine swp_region ?_
       refine s_pu (pu_assign rfl) ?_
       refine swl_sub _ (.cons (t := 2) rfl .nil) ?_
       refine swl_nil ?_
       refine then_n ?_
       refine swp_ret ?_
       refine then_r ?_
       refine done_ret [] (.tmp rfl .nil) ⟨congrArg (Value.int .i64) ?_, rfl⟩ (by repeat (first | exact Split.nil | (apply Split.cons; (repeat (first | with_reducible exact Take.here | apply Take.there)))))
       unfold Sett.bad; grind
      ·skip
       refine swp_skip ?_
       refine then_n ?_
       refine swp_seq ?_
       refine swp_region ?_
       refine s_pu (pu_assign rfl) ?_
       refine swl_sub _ (.cons (t := 2) rfl .nil) ?_
       refine swl_nil ?_
       refine then_n ?_
       refine swp_ret ?_
       refine done_ret [] (.tmp rfl .nil) ⟨congrArg (Value.int .i64) ?_, rfl⟩ (by repeat (first | exact Split.nil | (apply Split.cons; (repeat (first | with_reducible exact Take.here | apply Take.there)))))
       unfold Sett.bad; grind
  ·skip
   refine s_on rfl rfl ?_
   first | refine s_pu (pu_fieldAddr0 rfl) ?_ | refine s_pu (pu_fieldAddr rfl) ?_
   refine s_on rfl rfl ?_
   refine s_rd (rd_load rfl rfl) ?_
   refine s_on rfl rfl ?_
   refine s_pu (pu_lss rfl rfl) ?_
   first | refine s_pu (pu_pick_t rfl rfl) ?_ | refine s_pu (pu_pick_f rfl rfl) ?_
   refine s_pu (pu_move rfl) ?_
   refine s_split 16 rfl (fun h16 => ?_) (fun h16 => ?_)
   ·skip
    refine s_off rfl rfl rfl ?_
    refine s_off rfl rfl rfl ?_
    refine s_off rfl rfl rfl ?_
    first | refine s_pu (pu_pick_t rfl rfl) ?_ | refine s_pu (pu_pick_f rfl rfl) ?_
    refine s_pu (pu_move rfl) ?_
    refine s_split 21 rfl (fun h21 => ?_) (fun h21 => ?_)
    ·skip
     refine s_off rfl rfl rfl ?_
     refine s_off rfl rfl rfl ?_
     refine s_off rfl rfl rfl ?_
     first | refine s_pu (pu_pick_t rfl rfl) ?_ | refine s_pu (pu_pick_f rfl rfl) ?_
     refine s_pu (pu_move rfl) ?_
     refine s_split 26 rfl (fun h26 => ?_) (fun h26 => ?_)
     ·skip
      refine s_off rfl rfl rfl ?_
      refine s_off rfl rfl rfl ?_
      refine s_off rfl rfl rfl ?_
      first | refine s_pu (pu_pick_t rfl rfl) ?_ | refine s_pu (pu_pick_f rfl rfl) ?_
      refine swl_sub _ (.cons (t := 30) rfl .nil) ?_
      refine swl_nil ?_
      refine then_n ?_
      refine swp_cond (b := _) rfl (fun h30 => ?_) (fun h30 => ?_)
      ·skip
       refine swp_seq ?_
       refine swp_region ?_
       refine s_pu (pu_assign rfl) ?_
       refine swl_sub _ (.cons (t := 2) rfl .nil) ?_
       refine swl_nil ?_
       refine then_n ?_
       refine swp_ret ?_
       refine then_r ?_
       refine done_ret [] (.tmp rfl .nil) ⟨congrArg (Value.int .i64) ?_, rfl⟩ (by repeat (first | exact Split.nil | (apply Split.cons; (repeat (first | with_reducible exact Take.here | apply Take.there)))))
       unfold Sett.bad; grind
      ·skip
       refine swp_skip ?_
       refine then_n ?_
       refine swp_seq ?_
       refine swp_region ?_
       refine s_pu (pu_assign rfl) ?_
       refine swl_sub _ (.cons (t := 2) rfl .nil) ?_
       refine swl_nil ?_
       refine then_n ?_
       refine swp_ret ?_
       refine done_ret [] (.tmp rfl .nil) ⟨congrArg (Value.int .i64) ?_, rfl⟩ (by repeat (first | exact Split.nil | (apply Split.cons; (repeat (first | with_reducible exact Take.here | apply Take.there)))))
       unfold Sett.bad; grind
     ·skip
      refine s_on rfl rfl ?_
      first | refine s_pu (pu_fieldAddr0 rfl) ?_ | refine s_pu (pu_fieldAddr rfl) ?_
      refine s_on rfl rfl ?_
      refine s_rd (rd_load rfl rfl) ?_
      refine s_on rfl rfl ?_
      refine s_pu (pu_gtr rfl rfl) ?_
      first | refine s_pu (pu_pick_t rfl rfl) ?_ | refine s_pu (pu_pick_f rfl rfl) ?_
      refine swl_sub _ (.cons (t := 30) rfl .nil) ?_
      refine swl_nil ?_
      refine then_n ?_
      refine swp_cond (b := _) rfl (fun h30 => ?_) (fun h30 => ?_)
      ·skip
       refine swp_seq ?_
       refine swp_region ?_
       refine s_pu (pu_assign rfl) ?_
       refine swl_sub _ (.cons (t := 2) rfl .nil) ?_
       refine swl_nil ?_
       refine then_n ?_
       refine swp_ret ?_
       refine then_r ?_
       refine done_ret [] (.tmp rfl .nil) ⟨congrArg (Value.int .i64) ?_, rfl⟩ (by repeat (first | exact Split.nil | (apply Split.cons; (repeat (first | with_reducible exact Take.here | apply Take.there)))))
       unfold Sett.bad; grind
      ·skip
       refine swp_skip ?_
       refine then_n ?_
       refine swp_seq ?_
       refine swp_region ?_
       refine s_pu (pu_assign rfl) ?_
       refine swl_sub _ (.cons (t := 2) rfl .nil) ?_
       refine swl_nil ?_
       refine then_n ?_
       refine swp_ret ?_
       refine done_ret [] (.tmp rfl .nil) ⟨congrArg (Value.int .i64) ?_, rfl⟩ (by repeat (first | exact Split.nil | (apply Split.cons; (repeat (first | with_reducible exact Take.here | apply Take.there)))))
       unfold Sett.bad; grind
    ·skip
     refine s_on rfl rfl ?_
     first | refine s_pu (pu_fieldAddr0 rfl) ?_ | refine s_pu (pu_fieldAddr rfl) ?_
     refine s_on rfl rfl ?_
     refine s_rd (rd_load rfl rfl) ?_
     refine s_on rfl rfl ?_
     refine s_pu (pu_lss rfl rfl) ?_
     first | refine s_pu (pu_pick_t rfl rfl) ?_ | refine s_pu (pu_pick_f rfl rfl) ?_
     refine s_pu (pu_move rfl) ?_
     refine s_split 26 rfl (fun h26 => ?_) (fun h26 => ?_)
     ·skip
      refine s_off rfl rfl rfl ?_
      refine s_off rfl rfl rfl ?_
      refine s_off rfl rfl rfl ?_
      first | refine s_pu (pu_pick_t rfl rfl) ?_ | refine s_pu (pu_pick_f rfl rfl) ?_
      refine swl_sub _ (.cons (t := 30) rfl .nil) ?_
      refine swl_nil ?_
      refine then_n ?_
      refine swp_cond (b := _) rfl (fun h30 => ?_) (fun h30 => ?_)
      ·skip
       refine swp_seq ?_
       refine swp_region ?_
       refine s_pu (pu_assign rfl) ?_
       refine swl_sub _ (.cons (t := 2) rfl .nil) ?_
       refine swl_nil ?_
       refine then_n ?_
       refine swp_ret ?_
       refine then_r ?_
       refine done_ret [] (.tmp rfl .nil) ⟨congrArg (Value.int .i64) ?_, rfl⟩ (by repeat (first | exact Split.nil | (apply Split.cons; (repeat (first | with_reducible exact Take.here | apply Take.there)))))
       unfold Sett.bad; grind
      ·skip
       refine swp_skip ?_
       refine then_n ?_
       refine swp_seq ?_
       refine swp_region ?_
       refine s_pu (pu_assign rfl) ?_
       refine swl_sub _ (.cons (t := 2) rfl .nil) ?_
       refine swl_nil ?_
       refine then_n ?_
       refine swp_ret ?_
       refine done_ret [] (.tmp rfl .nil) ⟨congrArg (Value.int .i64) ?_, rfl⟩ (by repeat (first | exact Split.nil | (apply Split.cons; (repeat (first | with_reducible exact Take.here | apply Take.there)))))
       unfold Sett.bad; grind
     ·skip
      refine s_on rfl rfl ?_
      first | refine s_pu (pu_fieldAddr0 rfl) ?_ | refine s_pu (pu_fieldAddr rfl) ?_
      refine s_on rfl rfl ?_
      refine s_rd (rd_load rfl rfl) ?_
      refine s_on rfl rfl ?_
      refine s_pu (pu_gtr rfl rfl) ?_
      first | refine s_pu (pu_pick_t rfl rfl) ?_ | refine s_pu (pu_pick_f rfl rfl) ?_
      refine swl_sub _ (.cons (t := 30) rfl .nil) ?_
      refine swl_nil ?_
      refine then_n ?_
      refine swp_cond (b := _) rfl (fun h30 => ?_) (fun h30 => ?_)
      ·skip
       refine swp_seq ?_
       refine swp_region ?_
       refine s_pu (pu_assign rfl) ?_
       refine swl_sub _ (.cons (t := 2) rfl .nil) ?_
       refine swl_nil ?_
       refine then_n ?_
       refine swp_ret ?_
       refine then_r ?_
       refine done_ret [] (.tmp rfl .nil) ⟨congrArg (Value.int .i64) ?_, rfl⟩ (by repeat (first | exact Split.nil | (apply Split.cons; (repeat (first | with_reducible exact Take.here | apply Take.there)))))
       unfold Sett.bad; grind
      ·skip
       refine swp_skip ?_
       refine then_n ?_
       refine swp_seq ?_
       refine swp_region ?_
       refine s_pu (pu_assign rfl) ?_
       refine swl_sub _ (.cons (t := 2) rfl .nil) ?_
       refine swl_nil ?_
       refine then_n ?_
       refine swp_ret ?_
       refine done_ret [] (.tmp rfl .nil) ⟨congrArg (Value.int .i64) ?_, rfl⟩ (by repeat (first | exact Split.nil | (apply Split.cons; (repeat (first | with_reducible exact Take.here | apply Take.there)))))
       unfold Sett.bad; grind
   ·skip
    refine s_on rfl rfl ?_
    first | refine s_pu (pu_fieldAddr0 rfl) ?_ | refine s_pu (pu_fieldAddr rfl) ?_
    refine s_on rfl rfl ?_
    refine s_rd (rd_load rfl rfl) ?_
    refine s_on rfl rfl ?_
    refine s_pu (pu_gtr rfl rfl) ?_
    first | refine s_pu (pu_pick_t rfl rfl) ?_ | refine s_pu (pu_pick_f rfl rfl) ?_
    refine s_pu (pu_move rfl) ?_
    refine s_split 21 rfl (fun h21 => ?_) (fun h21 => ?_)
    ·skip
     refine s_off rfl rfl rfl ?_
     refine s_off rfl rfl rfl ?_
     refine s_off rfl rfl rfl ?_
     first | refine s_pu (pu_pick_t rfl rfl) ?_ | refine s_pu (pu_pick_f rfl rfl) ?_
     refine s_pu (pu_move rfl) ?_
     refine s_split 26 rfl (fun h26 => ?_) (fun h26 => ?_)
     ·skip
      refine s_off rfl rfl rfl ?_
      refine s_off rfl rfl rfl ?_
      refine s_off rfl rfl rfl ?_
      first | refine s_pu (pu_pick_t rfl rfl) ?_ | refine s_pu (pu_pick_f rfl rfl) ?_
      refine swl_sub _ (.cons (t := 30) rfl .nil) ?_
      refine swl_nil ?_
      refine then_n ?_
      refine swp_cond (b := _) rfl (fun h30 => ?_) (fun h30 => ?_)
      ·skip
       refine swp_seq ?_
       refine swp_region ?_
       refine s_pu (pu_assign rfl) ?_
       refine swl_sub _ (.cons (t := 2) rfl .nil) ?_
       refine swl_nil ?_
       refine then_n ?_
       refine swp_ret ?_
       refine then_r ?_
       refine done_ret [] (.tmp rfl .nil) ⟨congrArg (Value.int .i64) ?_, rfl⟩ (by repeat (first | exact Split.nil | (apply Split.cons; (repeat (first | with_reducible exact Take.here | apply Take.there)))))
       unfold Sett.bad; grind
      ·skip
       refine swp_skip ?_
       refine then_n ?_
       refine swp_seq ?_
       refine swp_region ?_
       refine s_pu (pu_assign rfl) ?_
       refine swl_sub _ (.cons (t := 2) rfl .nil) ?_
       refine swl_nil ?_
       refine then_n ?_
       refine swp_ret ?_
       refine done_ret [] (.tmp rfl .nil) ⟨congrArg (Value.int .i64) ?_, rfl⟩ (by repeat (first | exact Split.nil | (apply Split.cons; (repeat (first | with_reducible exact Take.here | apply Take.there)))))
       unfold Sett.bad; grind
     ·skip
      refine s_on rfl rfl ?_
      first | refine s_pu (pu_fieldAddr0 rfl) ?_ | refine s_pu (pu_fieldAddr rfl) ?_
      refine s_on rfl rfl ?_
      refine s_rd (rd_load rfl rfl) ?_
      refine s_on rfl rfl ?_
      refine s_pu (pu_gtr rfl rfl) ?_
      first | refine s_pu (pu_pick_t rfl rfl) ?_ | refine s_pu (pu_pick_f rfl rfl) ?_
      refine swl_sub _ (.cons (t := 30) rfl .nil) ?_
      refine swl_nil ?_
      refine then_n ?_
      refine swp_cond (b := _) rfl (fun h30 => ?_) (fun h30 => ?_)
      ·skip
       refine swp_seq ?_
       refine swp_region ?_
       refine s_pu (pu_assign rfl) ?_
       refine swl_sub _ (.cons (t := 2) rfl .nil) ?_
       refine swl_nil ?_
       refine then_n ?_
       refine swp_ret ?_
       refine then_r ?_
       refine done_ret [] (.tmp rfl .nil) ⟨congrArg (Value.int .i64) ?_, rfl⟩ (by repeat (first | exact Split.nil | (apply Split.cons; (repeat (first | with_reducible exact Take.here | apply Take.there)))))
       unfold Sett.bad; grind
      ·skip
       refine swp_skip ?_
       refine then_n ?_
       refine swp_seq ?_
       refine swp_region ?_
       refine s_pu (pu_assign rfl) ?_
       refine swl_sub _ (.cons (t := 2) rfl .nil) ?_
       refine swl_nil ?_
       refine then_n ?_
       refine swp_ret ?_
       refine done_ret [] (.tmp rfl .nil) ⟨congrArg (Value.int .i64) ?_, rfl⟩ (by repeat (first | exact Split.nil | (apply Split.cons; (repeat (first | with_reducible exact Take.here | apply Take.there)))))
       unfold Sett.bad; grind
    ·skip
     refine s_on rfl rfl ?_
     first | refine s_pu (pu_fieldAddr0 rfl) ?_ | refine s_pu (pu_fieldAddr rfl) ?_
     refine s_on rfl rfl ?_
     refine s_rd (rd_load rfl rfl) ?_
     refine s_on rfl rfl ?_
     refine s_pu (pu_lss rfl rfl) ?_
     first | refine s_pu (pu_pick_t rfl rfl) ?_ | refine s_pu (pu_pick_f rfl rfl) ?_
     refine s_pu (pu_move rfl) ?_
     refine s_split 26 rfl (fun h26 => ?_) (fun h26 => ?_)
     ·skip
      refine s_off rfl rfl rfl ?_
      refine s_off rfl rfl rfl ?_
      refine s_off rfl rfl rfl ?_
      first | refine s_pu (pu_pick_t rfl rfl) ?_ | refine s_pu (pu_pick_f rfl rfl) ?_
      refine swl_sub _ (.cons (t := 30) rfl .nil) ?_
      refine swl_nil ?_
      refine then_n ?_
      refine swp_cond (b := _) rfl (fun h30 => ?_) (fun h30 => ?_)
      ·skip
       refine swp_seq ?_
       refine swp_region ?_
       refine s_pu (pu_assign rfl) ?_
       refine swl_sub _ (.cons (t := 2) rfl .nil) ?_
       refine swl_nil ?_
       refine then_n ?_
       refine swp_ret ?_
       refine then_r ?_
       refine done_ret [] (.tmp rfl .nil) ⟨congrArg (Value.int .i64) ?_, rfl⟩ (by repeat (first | exact Split.nil | (apply Split.cons; (repeat (first | with_reducible exact Take.here | apply Take.there)))))
       unfold Sett.bad; grind
      ·skip
       refine swp_skip ?_
       refine then_n ?_
       refine swp_seq ?_
       refine swp_region ?_
       refine s_pu (pu_assign rfl) ?_
       refine swl_sub _ (.cons (t := 2) rfl .nil) ?_
       refine swl_nil ?_
       refine then_n ?_
       refine swp_ret ?_
       refine done_ret [] (.tmp rfl .nil) ⟨congrArg (Value.int .i64) ?_, rfl⟩ (by repeat (first | exact Split.nil | (apply Split.cons; (repeat (first | with_reducible exact Take.here | apply Take.there)))))
       unfold Sett.bad; grind
     ·skip
      refine s_on rfl rfl ?_
      first | refine s_pu (pu_fieldAddr0 rfl) ?_ | refine s_pu (pu_fieldAddr rfl) ?_
      refine s_on rfl rfl ?_
      refine s_rd (rd_load rfl rfl) ?_
      refine s_on rfl rfl ?_
      refine s_pu (pu_gtr rfl rfl) ?_
      first | refine s_pu (pu_pick_t rfl rfl) ?_ | refine s_pu (pu_pick_f rfl rfl) ?_
      refine swl_sub _ (.cons (t := 30) rfl .nil) ?_
      refine swl_nil ?_
      refine then_n ?_
      refine swp_cond (b := _) rfl (fun h30 => ?_) (fun h30 => ?_)
      ·skip
       refine swp_seq ?_
       refine swp_region ?_
       refine s_pu (pu_assign rfl) ?_
       refine swl_sub _ (.cons (t := 2) rfl .nil) ?_
       refine swl_nil ?_
       refine then_n ?_
       refine swp_ret ?_
       refine then_r ?_
       refine done_ret [] (.tmp rfl .nil) ⟨congrArg (Value.int .i64) ?_, rfl⟩ (by repeat (first | exact Split.nil | (apply Split.cons; (repeat (first | with_reducible exact Take.here | apply Take.there)))))
       unfold Sett.bad; grind
      ·skip
       refine swp_skip ?_
       refine then_n ?_
       refine swp_seq ?_
       refine swp_region ?_
       refine s_pu (pu_assign rfl) ?_
       refine swl_sub _ (.cons (t := 2) rfl .nil) ?_
       refine swl_nil ?_
       refine then_n ?_
       refine swp_ret ?_
       refine done_ret [] (.tmp rfl .nil) ⟨congrArg (Value.int .i64) ?_, rfl⟩ (by repeat (first | exact Split.nil | (apply Split.cons; (repeat (first | with_reducible exact Take.here | apply Take.there)))))
       unfold Sett.bad; grind
set_option maxHeartbeats 2000000 in
theorem places_spec (s : Sett) (p : ByteArray) (n : Nat) (hs : p.size ≤ 1048576) : Spec Tryz.prog 44 [.agg (encS s).toArray, .string p, .int .i64 (n : Nat)] [] (fun v L => L = [own 3 1 v (placesW s p.data.toList n).length ((placesW s p.data.toList n).flatMap (icsk .i64))]) := by
  refine Spec.of 53 Tryz.func44 rfl rfl rfl ?_
  refine swp_seq ?_
  refine swp_region ?_
  refine s_ef (ef_box rfl rfl) ?_
  intro b3
  refine s_pu (pu_assign rfl) ?_
  refine swl_sub _ (.cons (t := 1) rfl (.cons (t := 2) rfl (.cons (t := 3) rfl .nil))) ?_
  refine swl_nil ?_
  refine then_n ?_
  refine swp_seq ?_
  refine swp_region ?_
  refine s_pu (pu_assign rfl) ?_
  refine swl_sub _ (.cons (t := 1) rfl (.cons (t := 2) rfl (.cons (t := 3) rfl (.cons (t := 7) rfl .nil)))) ?_
  refine swl_nil ?_
  refine then_n ?_
  refine swp_cut (fun env L => Sub env [(1, .string p), (2, .int .i64 (n : Nat)), (3, .pointer (some ⟨b3, 0, none⟩)), (7, .slice none 0 0)] ∧ L = [blk b3 26 (encS s)] ∧ ¬ (s.bad ∨ n < 1 ∨ 4294967295 < n)) ?_ ?_
  · skip
    refine swp_seq ?_
    refine swp_region ?_
    first | refine s_rd (rd_loadW rfl rfl) ?_ | refine s_rd (rd_loadX rfl rfl rfl) ?_
    refine s_ef (ef_fn (scheck_spec s) rfl rfl (by repeat (first | exact Split.nil | (apply Split.cons; (repeat (first | with_reducible exact Take.here | apply Take.there)))))) ?_
    rintro v12 L1 ⟨rfl, rfl⟩
    refine swl_app ?_
    refine s_pu (pu_neq rfl rfl) ?_
    refine s_pu (pu_move rfl) ?_
    refine s_split 14 rfl (fun h14 => ?_) (fun h14 => ?_)
    · skip   -- 14 T
      refine s_off rfl rfl rfl ?_
      refine s_off rfl rfl rfl ?_
      first | refine s_pu (pu_pick_t rfl rfl) ?_ | refine s_pu (pu_pick_f rfl rfl) ?_
      refine s_pu (pu_move rfl) ?_
      refine s_split 18 rfl (fun h18 => ?_) (fun h18 => ?_)
      · skip   -- 18 T
        refine s_off rfl rfl rfl ?_
        refine s_off rfl rfl rfl ?_
        first | refine s_pu (pu_pick_t rfl rfl) ?_ | refine s_pu (pu_pick_f rfl rfl) ?_
        refine swl_sub _ (.cons (t := 1) rfl (.cons (t := 2) rfl (.cons (t := 3) rfl (.cons (t := 7) rfl (.cons (t := 21) rfl .nil))))) ?_
        refine swl_nil ?_
        refine then_n ?_
        refine swp_cond (b := _) rfl (fun h21 => ?_) (fun h21 => ?_)
        · skip   -- 21 T
          refine swp_seq ?_
          refine swp_region ?_
          refine s_pu (pu_move rfl) ?_
          refine s_pu (pu_assign rfl) ?_
          refine swl_sub _ (.cons (t := 6) rfl .nil) ?_
          refine swl_nil ?_
          refine then_n ?_
          refine swp_ret ?_
          refine then_r ?_
          first
            | (refine done_ret [own 3 1 v s.ha.toNat ((placesW s p.data.toList n).flatMap (icsk .i64))] (.tmp rfl .nil) ?_ (by repeat (first | exact Split.nil | (apply Split.cons; (repeat (first | with_reducible exact Take.here | apply Take.there)))))
               rw [hlen]; rfl)
            | (refine done_retE [own 3 1 (.slice none 0 0) 0 []] (.tmp rfl .nil) ?_ (own_nil_ent.trans (Split.ent' (by repeat (first | exact Split.nil | (apply Split.cons; (repeat (first | with_reducible exact Take.here | apply Take.there)))))))
               rw [show placesW s p.data.toList n = [] by unfold placesW; rw [if_pos (by grind)]]; rfl)
        · skip   -- 21 F
          refine swp_skip ?_
          exact then_n ⟨⟨rfl, rfl, rfl, rfl, trivial⟩, rfl, by grind⟩
      · skip   -- 18 F
        refine s_on rfl rfl ?_
        refine s_pu (pu_move rfl) ?_
        refine s_on rfl rfl ?_
        refine s_pu (pu_gtr rfl rfl) ?_
        first | refine s_pu (pu_pick_t rfl rfl) ?_ | refine s_pu (pu_pick_f rfl rfl) ?_
        refine swl_sub _ (.cons (t := 1) rfl (.cons (t := 2) rfl (.cons (t := 3) rfl (.cons (t := 7) rfl (.cons (t := 21) rfl .nil))))) ?_
        refine swl_nil ?_
        refine then_n ?_
        refine swp_cond (b := _) rfl (fun h21 => ?_) (fun h21 => ?_)
        · skip   -- 21 T
          refine swp_seq ?_
          refine swp_region ?_
          refine s_pu (pu_move rfl) ?_
          refine s_pu (pu_assign rfl) ?_
          refine swl_sub _ (.cons (t := 6) rfl .nil) ?_
          refine swl_nil ?_
          refine then_n ?_
          refine swp_ret ?_
          refine then_r ?_
          first
            | (refine done_ret [own 3 1 v s.ha.toNat ((placesW s p.data.toList n).flatMap (icsk .i64))] (.tmp rfl .nil) ?_ (by repeat (first | exact Split.nil | (apply Split.cons; (repeat (first | with_reducible exact Take.here | apply Take.there)))))
               rw [hlen]; rfl)
            | (refine done_retE [own 3 1 (.slice none 0 0) 0 []] (.tmp rfl .nil) ?_ (own_nil_ent.trans (Split.ent' (by repeat (first | exact Split.nil | (apply Split.cons; (repeat (first | with_reducible exact Take.here | apply Take.there)))))))
               rw [show placesW s p.data.toList n = [] by unfold placesW; rw [if_pos (by grind)]]; rfl)
        · skip   -- 21 F
          refine swp_skip ?_
          exact then_n ⟨⟨rfl, rfl, rfl, rfl, trivial⟩, rfl, by grind⟩
    · skip   -- 14 F
      refine s_on rfl rfl ?_
      refine s_pu (pu_move rfl) ?_
      refine s_on rfl rfl ?_
      refine s_pu (pu_lss rfl rfl) ?_
      first | refine s_pu (pu_pick_t rfl rfl) ?_ | refine s_pu (pu_pick_f rfl rfl) ?_
      refine s_pu (pu_move rfl) ?_
      refine s_split 18 rfl (fun h18 => ?_) (fun h18 => ?_)
      · skip   -- 18 T
        refine s_off rfl rfl rfl ?_
        refine s_off rfl rfl rfl ?_
        first | refine s_pu (pu_pick_t rfl rfl) ?_ | refine s_pu (pu_pick_f rfl rfl) ?_
        refine swl_sub _ (.cons (t := 1) rfl (.cons (t := 2) rfl (.cons (t := 3) rfl (.cons (t := 7) rfl (.cons (t := 21) rfl .nil))))) ?_
        refine swl_nil ?_
        refine then_n ?_
        refine swp_cond (b := _) rfl (fun h21 => ?_) (fun h21 => ?_)
        · skip   -- 21 T
          refine swp_seq ?_
          refine swp_region ?_
          refine s_pu (pu_move rfl) ?_
          refine s_pu (pu_assign rfl) ?_
          refine swl_sub _ (.cons (t := 6) rfl .nil) ?_
          refine swl_nil ?_
          refine then_n ?_
          refine swp_ret ?_
          refine then_r ?_
          first
            | (refine done_ret [own 3 1 v s.ha.toNat ((placesW s p.data.toList n).flatMap (icsk .i64))] (.tmp rfl .nil) ?_ (by repeat (first | exact Split.nil | (apply Split.cons; (repeat (first | with_reducible exact Take.here | apply Take.there)))))
               rw [hlen]; rfl)
            | (refine done_retE [own 3 1 (.slice none 0 0) 0 []] (.tmp rfl .nil) ?_ (own_nil_ent.trans (Split.ent' (by repeat (first | exact Split.nil | (apply Split.cons; (repeat (first | with_reducible exact Take.here | apply Take.there)))))))
               rw [show placesW s p.data.toList n = [] by unfold placesW; rw [if_pos (by grind)]]; rfl)
        · skip   -- 21 F
          refine swp_skip ?_
          exact then_n ⟨⟨rfl, rfl, rfl, rfl, trivial⟩, rfl, by grind⟩
      · skip   -- 18 F
        refine s_on rfl rfl ?_
        refine s_pu (pu_move rfl) ?_
        refine s_on rfl rfl ?_
        refine s_pu (pu_gtr rfl rfl) ?_
        first | refine s_pu (pu_pick_t rfl rfl) ?_ | refine s_pu (pu_pick_f rfl rfl) ?_
        refine swl_sub _ (.cons (t := 1) rfl (.cons (t := 2) rfl (.cons (t := 3) rfl (.cons (t := 7) rfl (.cons (t := 21) rfl .nil))))) ?_
        refine swl_nil ?_
        refine then_n ?_
        refine swp_cond (b := _) rfl (fun h21 => ?_) (fun h21 => ?_)
        · skip   -- 21 T
          refine swp_seq ?_
          refine swp_region ?_
          refine s_pu (pu_move rfl) ?_
          refine s_pu (pu_assign rfl) ?_
          refine swl_sub _ (.cons (t := 6) rfl .nil) ?_
          refine swl_nil ?_
          refine then_n ?_
          refine swp_ret ?_
          refine then_r ?_
          first
            | (refine done_ret [own 3 1 v s.ha.toNat ((placesW s p.data.toList n).flatMap (icsk .i64))] (.tmp rfl .nil) ?_ (by repeat (first | exact Split.nil | (apply Split.cons; (repeat (first | with_reducible exact Take.here | apply Take.there)))))
               rw [hlen]; rfl)
            | (refine done_retE [own 3 1 (.slice none 0 0) 0 []] (.tmp rfl .nil) ?_ (own_nil_ent.trans (Split.ent' (by repeat (first | exact Split.nil | (apply Split.cons; (repeat (first | with_reducible exact Take.here | apply Take.there)))))))
               rw [show placesW s p.data.toList n = [] by unfold placesW; rw [if_pos (by grind)]]; rfl)
        · skip   -- 21 F
          refine swp_skip ?_
          exact then_n ⟨⟨rfl, rfl, rfl, rfl, trivial⟩, rfl, by grind⟩
  rintro env L ⟨hsub, rfl, hok⟩
  refine swp_sub _ hsub ?_
  clear hsub env
  have hn : 0 < n := by omega
  have hb : ¬ s.bad := fun h => hok (.inl h)
  have hpl : placesW s p.data.toList n = (List.range s.ha.toNat).map fun i => ((placeW s p.data.toList n i : Nat) : Int) := by unfold placesW; rw [if_neg hok]
  have hh : 1 ≤ s.ha ∧ s.ha ≤ 16 := by unfold Sett.bad at hb; omega
  have hget : ∀ i, i < s.ha.toNat → (placesW s p.data.toList n)[i]? = some ((placeW s p.data.toList n i : Nat) : Int) := fun i hi => by rw [hpl, List.getElem?_map, List.getElem?_range hi]; rfl
  have hlen : (placesW s p.data.toList n).length = s.ha.toNat := by rw [hpl, List.length_map, List.length_range]
  clear hpl
  refine swp_seq ?_
  refine swp_region ?_
  first | refine s_pu (pu_fieldAddr0 rfl) ?_ | refine s_pu (pu_fieldAddr rfl) ?_
  refine s_rd (rd_load rfl rfl) ?_
  refine s_pu (pu_move rfl) ?_
  refine s_ef (ef_fn (hash_spec s.seed p hs) rfl rfl (by repeat (first | exact Split.nil | (apply Split.cons; (repeat (first | with_reducible exact Take.here | apply Take.there)))))) ?_
  rintro v26 L1 ⟨rfl, rfl⟩
  refine swl_app ?_
  refine s_pu (pu_assign rfl) ?_
  refine swl_sub _ (.cons (t := 1) rfl (.cons (t := 2) rfl (.cons (t := 3) rfl (.cons (t := 7) rfl (.cons (t := 8) rfl .nil))))) ?_
  refine swl_nil ?_
  refine then_n ?_
  refine swp_seq ?_
  refine swp_region ?_
  first | refine s_pu (pu_fieldAddr0 rfl) ?_ | refine s_pu (pu_fieldAddr rfl) ?_
  refine s_rd (rd_load rfl rfl) ?_
  refine s_pu (pu_add_w32 (b := 1#32) rfl rfl) ?_
  refine s_pu (pu_move rfl) ?_
  refine s_ef (ef_fn (hash_spec (s.seed + 1#32) p hs) rfl rfl (by repeat (first | exact Split.nil | (apply Split.cons; (repeat (first | with_reducible exact Take.here | apply Take.there)))))) ?_
  rintro v31 L1 ⟨rfl, rfl⟩
  refine swl_app ?_
  refine s_pu (pu_or_w32 (b := 1#32) rfl rfl) ?_
  refine s_pu (pu_assign rfl) ?_
  refine swl_sub _ (.cons (t := 2) rfl (.cons (t := 3) rfl (.cons (t := 7) rfl (.cons (t := 8) rfl (.cons (t := 9) rfl .nil))))) ?_
  refine swl_nil ?_
  refine then_n ?_
  refine swp_seq ?_
  refine swp_seq ?_
  refine swp_region ?_
  refine s_pu (pu_assign rfl) ?_
  refine swl_sub _ (.cons (t := 2) rfl (.cons (t := 3) rfl (.cons (t := 7) rfl (.cons (t := 8) rfl (.cons (t := 9) rfl (.cons (t := 10) rfl .nil)))))) ?_
  refine swl_nil ?_
  refine then_n ?_
  refine swp_block ?_
  refine swp_ent (show Ent _ (own 3 1 (.slice none 0 0) 0 (((placesW s p.data.toList n).take 0).flatMap (icsk .i64)) :: _) from own_nil_ent) ?_
  refine swp_loop (ι := Nat × Value) (fun k env L => Sub env [(2, .int .i64 (n : Nat)), (3, .pointer (some ⟨b3, 0, none⟩)), (7, k.2), (8, .int .u32 ((hashW s.seed p.data.toList).toNat : Nat)), (9, .int .u32 ((hashW (s.seed + 1#32) p.data.toList ||| 1#32).toNat : Nat)), (10, .int .i64 (k.1 : Nat))] ∧ Ent L [own 3 1 k.2 k.1 (((placesW s p.data.toList n).take k.1).flatMap (icsk .i64)), blk b3 26 (encS s)] ∧ k.1 ≤ s.ha.toNat) (fun k => s.ha.toNat - k.1) (0, .slice none 0 0) ⟨⟨rfl, rfl, rfl, rfl, rfl, rfl, trivial⟩, Ent.refl _, Nat.zero_le _⟩ ?_
  rintro ⟨i, v⟩ env L ⟨hsub, hE, hi⟩
  dsimp only at hsub hE hi
  refine swp_sub _ hsub ?_
  refine swp_ent hE ?_
  clear hsub hE env L
  refine swp_seq ?_
  refine swp_seq ?_
  refine swp_region ?_
  refine s_pu (pu_move rfl) ?_
  first | refine s_pu (pu_fieldAddr0 rfl) ?_ | refine s_pu (pu_fieldAddr rfl) ?_
  refine s_rd (rd_load rfl rfl) ?_
  refine s_pu (pu_lss rfl rfl) ?_
  refine swl_sub _ (.cons (t := 2) rfl (.cons (t := 3) rfl (.cons (t := 7) rfl (.cons (t := 8) rfl (.cons (t := 9) rfl (.cons (t := 10) rfl (.cons (t := 36) rfl .nil))))))) ?_
  refine swl_nil ?_
  refine then_n ?_
  refine swp_cond (b := _) rfl (fun h36 => ?_) (fun h36 => ?_)
  · skip   -- 36 T
    have h36' : i < s.ha.toNat := by have := of_decide_eq_true h36; omega
    refine swp_skip ?_
    refine then_n ?_
    refine swp_seq ?_
    refine swp_block ?_
    refine swp_region ?_
    refine s_pu (pu_move rfl) ?_
    refine s_pu (pu_move rfl) ?_
    refine s_pu (pu_move rfl) ?_
    refine s_pu (pu_conv_as (k' := .u32) (n := ((BitVec.ofNat 32 i).toNat : Int)) (by rw [show ((BitVec.ofNat 32 i).toNat : Int) = (i : Int) by rw [BitVec.toNat_ofNat, Nat.mod_eq_of_lt (by omega)]]; rfl) (wrap_word32 _)) ?_
    refine s_pu (pu_move rfl) ?_
    refine s_pu (pu_mul_w32 rfl rfl) ?_
    refine s_pu (pu_add_w32 rfl rfl) ?_
    refine s_pu (pu_move rfl) ?_
    refine s_pu (pu_conv_as (k' := .u32) rfl (IntWalk.u32_in _ ⟨by omega, by omega⟩)) ?_
    refine s_pu (pu_rem_nat rfl rfl hn) ?_
    refine s_pu (pu_conv_i64 (n := ((placeW s p.data.toList n i : Nat) : Int)) rfl (by omega) (by have : placeW s p.data.toList n i < n := Nat.mod_lt _ hn; omega)) ?_
    refine s_ef (ef_bldS (qs := [(0, _)]) rfl rfl rfl) ?_
    intro b50
    refine s_ef (ef_append_lit (l := i) (m := 1) rfl rfl (by repeat (first | exact Split.nil | (apply Split.cons; (repeat (first | with_reducible exact Take.here | apply Take.there))))) (by simp only [maxLen]; omega) (by omega)) ?_
    rintro v51 -
    skip
    refine s_pu (pu_assign rfl) ?_
    refine swl_sub _ (.cons (t := 2) rfl (.cons (t := 3) rfl (.cons (t := 7) rfl (.cons (t := 8) rfl (.cons (t := 9) rfl (.cons (t := 10) rfl .nil)))))) ?_
    refine swl_nil ?_
    refine block_n ?_
    refine then_n ?_
    refine swp_region ?_
    refine s_pu (pu_move rfl) ?_
    refine s_pu (pu_add_as ((i + 1 : Nat) : Int) rfl rfl (by omega) (by omega) (by omega)) ?_
    refine s_pu (pu_assign rfl) ?_
    refine swl_sub _ (.cons (t := 2) rfl (.cons (t := 3) rfl (.cons (t := 7) rfl (.cons (t := 8) rfl (.cons (t := 9) rfl (.cons (t := 10) rfl .nil)))))) ?_
    refine swl_nil ?_
    refine then_n ⟨(i + 1, v51), ⟨⟨rfl, rfl, rfl, rfl, rfl, rfl, trivial⟩, ?_, h36'⟩, by show s.ha.toNat - (i + 1) < s.ha.toNat - i; omega⟩
    have e1 : ((placesW s p.data.toList n).take (i + 1)).flatMap (icsk .i64) = ((placesW s p.data.toList n).take i).flatMap (icsk .i64) ++ [.int .i64 ((placeW s p.data.toList n i : Nat) : Int)] := by rw [List.take_add_one, hget i h36', List.flatMap_append]; rfl
    show Ent _ [own 3 1 v51 (i + 1) (((placesW s p.data.toList n).take (i + 1)).flatMap (icsk .i64)), blk b3 26 (encS s)]
    rw [e1]
    exact Split.ent' (by repeat (first | exact Split.nil | (apply Split.cons; (repeat (first | with_reducible exact Take.here | apply Take.there)))))
  · skip   -- 36 F
    have h36' := of_decide_eq_false h36
    obtain rfl : i = s.ha.toNat := by omega
    rw [List.take_of_length_le (by omega)]
    refine swp_exit ?_
    refine then_x ?_
    refine then_x ?_
    refine block_hit rfl ?_
    refine then_n ?_
    refine swp_seq ?_
    refine swp_region ?_
    refine s_pu (pu_move rfl) ?_
    refine s_pu (pu_assign rfl) ?_
    refine swl_sub _ (.cons (t := 6) rfl .nil) ?_
    refine swl_nil ?_
    refine then_n ?_
    refine swp_ret ?_
    first
      | (refine done_ret [own 3 1 v s.ha.toNat ((placesW s p.data.toList n).flatMap (icsk .i64))] (.tmp rfl .nil) ?_ (by repeat (first | exact Split.nil | (apply Split.cons; (repeat (first | with_reducible exact Take.here | apply Take.there)))))
         rw [hlen]; rfl)
      | (refine done_retE [own 3 1 (.slice none 0 0) 0 []] (.tmp rfl .nil) ?_ (own_nil_ent.trans (Split.ent' (by repeat (first | exact Split.nil | (apply Split.cons; (repeat (first | with_reducible exact Take.here | apply Take.there)))))))
         rw [show placesW s p.data.toList n = [] by unfold placesW; rw [if_pos (by grind)]]; rfl)
theorem row_str {μ : PH} {v : Value} {l : List ByteArray} (h : Row μ v 1 l.length (sts l)) {i : Nat} {p : ByteArray} (hi : l[i]? = some p) : ∃ b off cap, v = .slice (some ⟨b, off, none⟩) l.length cap ∧ CellAt μ b (off + i * 1) (.string p) := by
  have hlt := (List.getElem?_eq_some_iff.1 hi).1
  obtain ⟨b, off, cap, hv, _, _, hr⟩ := h.pos (by omega)
  exact ⟨b, off, cap, hv, (hr.elem (f := scsv) (n := 1) scsv_len hi).cell⟩
set_option maxHeartbeats 2000000 in
theorem unlike_spec (μ : PH) (v : Value) (ps : List ByteArray) (m : Int) (h : Row μ v 1 ps.length (sts ps)) (hsz : ps.length ≤ 1048576) (hm : 0 ≤ m ∧ m ≤ 512) :
  Spec Tryz.prog 43 [v, .int .i64 m] [ro μ] (fun r L => ∃ l : List ByteArray, (∀ p ∈ l, p ∈ ps) ∧ (l.length ≤ m → ∀ p ∈ ps, p ∈ l) ∧ L = [own 9 1 r l.length (sts l), ro μ]) := by
 obtain ⟨A0, c0, rfl⟩ := h.sl
 refine Spec.of 48 Tryz.func43 rfl rfl rfl ?_
 refine swp_seq ?_
 refine swp_region ?_
 refine s_pu (pu_assign rfl) ?_
 refine swl_sub _ (.cons (t := 0) rfl (.cons (t := 1) rfl .nil)) ?_
 refine swl_nil ?_
 refine then_n ?_
 refine swp_seq ?_
 refine swp_region ?_
 refine s_pu (pu_assign rfl) ?_
 refine swl_sub _ (.cons (t := 0) rfl (.cons (t := 1) rfl (.cons (t := 5) rfl .nil))) ?_
 refine swl_nil ?_
 refine then_n ?_
 refine swp_seq ?_
 refine swp_seq ?_
 refine swp_region ?_
 refine s_pu (pu_assign rfl) ?_
 refine swl_sub _ (.cons (t := 0) rfl (.cons (t := 1) rfl (.cons (t := 5) rfl (.cons (t := 6) rfl .nil)))) ?_
 refine swl_nil ?_
 refine then_n ?_
 refine swp_block ?_
 refine swp_ent (show Ent _ (own 9 1 (.slice none 0 0) ([] : List ByteArray).length (sts []) :: _) from own_nil_ent) ?_
 refine swp_loop (ι := Nat × Value × List ByteArray) (fun k env L => Sub env [(0, .slice A0 ps.length c0), (1, .int .i64 m), (5, k.2.1), (6, .int .i64 (k.1 : Nat))] ∧ Ent L [own 9 1 k.2.1 k.2.2.length (sts k.2.2), ro μ] ∧ k.1 ≤ ps.length ∧ (∀ p ∈ k.2.2, p ∈ ps) ∧ (∀ p ∈ ps.take k.1, p ∈ k.2.2) ∧ k.2.2.length ≤ k.1) (fun k => ps.length - k.1) (0, .slice none 0 0, []) ⟨⟨rfl, rfl, rfl, rfl, trivial⟩, Ent.refl _, Nat.zero_le _, fun _ h => (by cases h), fun _ h => (by cases h), Nat.le_refl _⟩ ?_
 rintro ⟨i, w, l⟩ env L ⟨hsub, hE, hi, h1, h2, h3⟩
 dsimp only at hsub hE hi h1 h2 h3
 refine swp_sub _ hsub ?_
 refine swp_ent hE ?_
 clear hsub hE env L
 refine swp_fact (fun m h => own_form h) fun ⟨Aw, cw, hw⟩ => ?_
 refine swp_cut (fun env L => Sub env [(0, .slice A0 ps.length c0), (1, .int .i64 m), (5, w), (6, .int .i64 (i : Nat))] ∧ Ent L [own 9 1 w l.length (sts l), ro μ] ∧ i < ps.length ∧ l.length ≤ m) ?_ ?_
 ·skip
  refine swp_seq ?_
  refine swp_region ?_
  refine s_pu (pu_move rfl) ?_
  refine s_pu (pu_move rfl) ?_
  refine s_pu (pu_len rfl) ?_
  refine s_pu (pu_lss rfl rfl) ?_
  refine s_pu (pu_move rfl) ?_
  refine s_split 13 rfl (fun h13 => ?_) (fun h13 => ?_)
  ·skip
   refine s_on rfl rfl ?_
   refine s_pu (pu_move rfl) ?_
   refine s_on rfl rfl ?_
   refine s_pu (pu_len_own ⟨Aw, cw, hw⟩ rfl) ?_
   refine s_on rfl rfl ?_
   refine s_pu (pu_move rfl) ?_
   refine s_on rfl rfl ?_
   refine s_pu (pu_leq rfl rfl) ?_
   first | refine s_pu (pu_pick_t rfl rfl) ?_ | refine s_pu (pu_pick_f rfl rfl) ?_
   refine swl_sub _ (.cons (t := 0) rfl (.cons (t := 1) rfl (.cons (t := 5) rfl (.cons (t := 6) rfl (.cons (t := 18) rfl .nil))))) ?_
   refine swl_nil ?_
   refine then_n ?_
   refine swp_cond (b := _) rfl (fun h18 => ?_) (fun h18 => ?_)
   ·skip
    refine swp_skip ?_
    exact then_n ⟨⟨rfl, rfl, rfl, rfl, trivial⟩, Ent.refl _, by grind, by grind⟩
   ·skip
    refine swp_exit ?_
    refine then_x ?_
    refine then_x ?_
    refine block_hit rfl ?_
    refine then_n ?_
    refine swp_seq ?_
    refine swp_region ?_
    refine s_pu (pu_move rfl) ?_
    refine s_pu (pu_assign rfl) ?_
    refine swl_sub _ (.cons (t := 4) rfl .nil) ?_
    refine swl_nil ?_
    refine then_n ?_
    refine swp_ret ?_
    refine done_ret [own 9 1 w l.length (sts l), ro μ] (.tmp rfl .nil) ⟨l, h1, fun hl x hx => ?_, rfl⟩ (by repeat (first | exact Split.nil | (apply Split.cons; (repeat (first | with_reducible exact Take.here | apply Take.there)))))
    have : i = ps.length := by grind
    rw [this, List.take_length] at h2
    exact h2 x hx
  ·skip
   refine s_off rfl rfl rfl ?_
   refine s_off rfl rfl rfl ?_
   refine s_off rfl rfl rfl ?_
   refine s_off rfl rfl rfl ?_
   first | refine s_pu (pu_pick_t rfl rfl) ?_ | refine s_pu (pu_pick_f rfl rfl) ?_
   refine swl_sub _ (.cons (t := 0) rfl (.cons (t := 1) rfl (.cons (t := 5) rfl (.cons (t := 6) rfl (.cons (t := 18) rfl .nil))))) ?_
   refine swl_nil ?_
   refine then_n ?_
   refine swp_cond (b := _) rfl (fun h18 => ?_) (fun h18 => ?_)
   ·skip
    refine swp_skip ?_
    exact then_n ⟨⟨rfl, rfl, rfl, rfl, trivial⟩, Ent.refl _, by grind, by grind⟩
   ·skip
    refine swp_exit ?_
    refine then_x ?_
    refine then_x ?_
    refine block_hit rfl ?_
    refine then_n ?_
    refine swp_seq ?_
    refine swp_region ?_
    refine s_pu (pu_move rfl) ?_
    refine s_pu (pu_assign rfl) ?_
    refine swl_sub _ (.cons (t := 4) rfl .nil) ?_
    refine swl_nil ?_
    refine then_n ?_
    refine swp_ret ?_
    refine done_ret [own 9 1 w l.length (sts l), ro μ] (.tmp rfl .nil) ⟨l, h1, fun hl x hx => ?_, rfl⟩ (by repeat (first | exact Split.nil | (apply Split.cons; (repeat (first | with_reducible exact Take.here | apply Take.there)))))
    have : i = ps.length := by grind
    rw [this, List.take_length] at h2
    exact h2 x hx
 rintro env L ⟨hsub, hE, hi', hlm⟩
 refine swp_sub _ hsub ?_
 refine swp_ent hE ?_
 clear hsub hE env L
 obtain ⟨p, hp⟩ : ∃ p, ps[i]? = some p := ⟨_, List.getElem?_eq_getElem hi'⟩
 obtain ⟨pb, po, pc, hpv, hpc⟩ := row_str h hp
 refine swp_seq ?_
 refine swp_block ?_
 refine swp_seq ?_
 refine swp_region ?_
 refine s_pu (pu_assign rfl) ?_
 refine swl_sub _ (.cons (t := 0) rfl (.cons (t := 1) rfl (.cons (t := 5) rfl (.cons (t := 6) rfl (.cons (t := 7) rfl .nil))))) ?_
 refine swl_nil ?_
 refine then_n ?_
 refine swp_seq ?_
 refine swp_seq ?_
 refine swp_region ?_
 refine s_pu (pu_assign rfl) ?_
 refine swl_sub _ (.cons (t := 0) rfl (.cons (t := 1) rfl (.cons (t := 5) rfl (.cons (t := 6) rfl (.cons (t := 7) rfl (.cons (t := 8) rfl .nil)))))) ?_
 refine swl_nil ?_
 refine then_n ?_
 refine swp_block ?_
 refine swp_loop (ι := Nat × Bool) (fun k env L => Sub env [(0, .slice A0 ps.length c0), (1, .int .i64 m), (5, w), (6, .int .i64 (i : Nat)), (7, .bool k.2), (8, .int .i64 (k.1 : Nat))] ∧ Ent L [own 9 1 w l.length (sts l), ro μ] ∧ k.1 ≤ l.length ∧ (k.2 = false → p ∈ l)) (fun k => l.length - k.1) (0, true) ⟨⟨rfl, rfl, rfl, rfl, rfl, rfl, trivial⟩, Ent.refl _, Nat.zero_le _, fun h => (by cases h)⟩ ?_
 rintro ⟨k, fr⟩ env L ⟨hsub, hE, hk, hfr⟩
 dsimp only at hsub hE hk hfr
 refine swp_sub _ hsub ?_
 refine swp_ent hE ?_
 clear hsub hE env L
 refine swp_seq ?_
 refine swp_seq ?_
 refine swp_region ?_
 refine s_pu (pu_move rfl) ?_
 refine s_pu (pu_move rfl) ?_
 refine s_pu (pu_len_own ⟨Aw, cw, hw⟩ rfl) ?_
 refine s_pu (pu_lss rfl rfl) ?_
 refine swl_sub _ (.cons (t := 0) rfl (.cons (t := 1) rfl (.cons (t := 5) rfl (.cons (t := 6) rfl (.cons (t := 7) rfl (.cons (t := 8) rfl (.cons (t := 24) rfl .nil))))))) ?_
 refine swl_nil ?_
 refine then_n ?_
 refine swp_cond (b := _) rfl (fun h24 => ?_) (fun h24 => ?_)
 ·skip
  have h24' : k < l.length := by have := of_decide_eq_true h24; omega
  obtain ⟨q, hq⟩ : ∃ q, l[k]? = some q := ⟨_, List.getElem?_eq_getElem h24'⟩
  refine swp_own (fun h0 l0 _ => by omega) (fun b1 c1 ex1 hv1 e1 e2 e3 e4 => ?_)
  have hqc : (sts l ++ ex1)[0 + k * 1]? = some (.string q) := by
   have := flat_get (f := scsv) (k := 1) scsv_len l ex1 k q hq 0 (.string q) rfl
   rwa [Nat.zero_add]
  refine swp_skip ?_
  refine then_n ?_
  refine swp_cut (fun env L => ∃ fr', Sub env [(0, .slice A0 ps.length c0), (1, .int .i64 m), (5, w), (6, .int .i64 (i : Nat)), (7, .bool fr'), (8, .int .i64 (k : Nat))] ∧ Ent L [own 9 1 w l.length (sts l), ro μ] ∧ (fr' = false → p ∈ l)) ?_ ?_
  ·skip
   refine swp_block ?_
   refine swp_draw [5, 9] _ [] (by simp only [List.append_nil]; exact Ent.refl _) (by kernel_rfl) ?_
   refine d_pu 0 rfl (pu_move rfl) (by kernel_rfl) (by kernel_rfl) (by kernel_rfl) ?_
   refine d_pu 1 rfl (pu_move rfl) (by kernel_rfl) (by kernel_rfl) (by kernel_rfl) ?_
   refine d_split 28 rfl (fun h28 => ?_) (fun h28 => ?_)
   ·skip
    refine d_pu_on 2 rfl rfl rfl (pu_move rfl) (by kernel_rfl) (by kernel_rfl) (by kernel_rfl) ?_
    refine d_pu_on 3 rfl rfl rfl (pu_move rfl) (by kernel_rfl) (by kernel_rfl) (by kernel_rfl) ?_
    refine d_pu_on 4 rfl rfl rfl (pu_indexAddr (0 + k * 1) (congrArg some hv1) rfl (by omega) (by omega) (by rw [Int.toNat_natCast])) (by kernel_rfl) (by kernel_rfl) (by kernel_rfl) ?_
    refine d_rd_on 5 rfl rfl rfl (rd_load rfl hqc) rfl (by kernel_rfl) (by kernel_rfl) (by kernel_rfl) ?_
    refine d_pu_on 6 rfl rfl rfl (pu_move rfl) (by kernel_rfl) (by kernel_rfl) (by kernel_rfl) ?_
    refine d_pu_on 7 rfl rfl rfl (pu_move rfl) (by kernel_rfl) (by kernel_rfl) (by kernel_rfl) ?_
    refine d_pu_on 8 rfl rfl rfl (pu_indexAddr (po + i * 1) (congrArg some hpv) rfl (by omega) (by omega) (by rw [Int.toNat_natCast])) (by kernel_rfl) (by kernel_rfl) (by kernel_rfl) ?_
    refine d_rd_on 9 rfl rfl rfl (rd_ro rfl hpc) rfl (by kernel_rfl) (by kernel_rfl) (by kernel_rfl) ?_
    refine d_pu_on 10 rfl rfl rfl (pu_str_neq rfl rfl) (by kernel_rfl) (by kernel_rfl) (by kernel_rfl) ?_
    first | refine d_pu 11 rfl (pu_pick_t rfl rfl) (by kernel_rfl) (by kernel_rfl) (by kernel_rfl) ?_ | refine d_pu 11 rfl (pu_pick_f rfl rfl) (by kernel_rfl) (by kernel_rfl) (by kernel_rfl) ?_
    refine d_pu 12 rfl (pu_assign rfl) (by kernel_rfl) (by kernel_rfl) (by kernel_rfl) ?_
    refine d_sub _ (.cons (t := 0) rfl (.cons (t := 1) rfl (.cons (t := 5) rfl (.cons (t := 6) rfl (.cons (t := 7) rfl (.cons (t := 8) rfl .nil)))))) ?_
    first | refine d_nilt (by kernel_rfl) ?_ | refine d_nilf (by kernel_rfl) ?_
    refine block_n ?_
    refine then_n ⟨_, ⟨rfl, rfl, rfl, rfl, rfl, rfl, trivial⟩, ?_, fun hf => ?_⟩
    ·rw [hv1]; exact own_close e3 e4 e1 e2
    ·have hqp : strEq q p = true := by simpa using hf
     rw [← strEq_iff.1 hqp]; exact List.mem_of_getElem? hq
   ·skip
    refine d_off 2 rfl rfl rfl rfl (by kernel_rfl) (by kernel_rfl) (by kernel_rfl) ?_
    refine d_off 3 rfl rfl rfl rfl (by kernel_rfl) (by kernel_rfl) (by kernel_rfl) ?_
    refine d_off 4 rfl rfl rfl rfl (by kernel_rfl) (by kernel_rfl) (by kernel_rfl) ?_
    refine d_off 5 rfl rfl rfl rfl (by kernel_rfl) (by kernel_rfl) (by kernel_rfl) ?_
    refine d_off 6 rfl rfl rfl rfl (by kernel_rfl) (by kernel_rfl) (by kernel_rfl) ?_
    refine d_off 7 rfl rfl rfl rfl (by kernel_rfl) (by kernel_rfl) (by kernel_rfl) ?_
    refine d_off 8 rfl rfl rfl rfl (by kernel_rfl) (by kernel_rfl) (by kernel_rfl) ?_
    refine d_off 9 rfl rfl rfl rfl (by kernel_rfl) (by kernel_rfl) (by kernel_rfl) ?_
    refine d_off 10 rfl rfl rfl rfl (by kernel_rfl) (by kernel_rfl) (by kernel_rfl) ?_
    first | refine d_pu 11 rfl (pu_pick_t rfl rfl) (by kernel_rfl) (by kernel_rfl) (by kernel_rfl) ?_ | refine d_pu 11 rfl (pu_pick_f rfl rfl) (by kernel_rfl) (by kernel_rfl) (by kernel_rfl) ?_
    refine d_pu 12 rfl (pu_assign rfl) (by kernel_rfl) (by kernel_rfl) (by kernel_rfl) ?_
    refine d_sub _ (.cons (t := 0) rfl (.cons (t := 1) rfl (.cons (t := 5) rfl (.cons (t := 6) rfl (.cons (t := 7) rfl (.cons (t := 8) rfl .nil)))))) ?_
    first | refine d_nilt (by kernel_rfl) ?_ | refine d_nilf (by kernel_rfl) ?_
    refine block_n ?_
    refine then_n ⟨_, ⟨rfl, rfl, rfl, rfl, rfl, rfl, trivial⟩, ?_, fun _ => hfr h28⟩
    rw [hv1]; exact own_close e3 e4 e1 e2
  rintro env L ⟨fr', hsub, hE, hfr'⟩
  refine swp_sub _ hsub ?_
  refine swp_ent hE ?_
  clear hsub hE env L
  refine swp_region ?_
  refine s_pu (pu_move rfl) ?_
  refine s_pu (pu_add_as ((k + 1 : Nat) : Int) rfl rfl (by omega) (by omega) (by omega)) ?_
  refine s_pu (pu_assign rfl) ?_
  refine swl_sub _ (.cons (t := 0) rfl (.cons (t := 1) rfl (.cons (t := 5) rfl (.cons (t := 6) rfl (.cons (t := 7) rfl (.cons (t := 8) rfl .nil)))))) ?_
  refine swl_nil ?_
  exact then_n ⟨(k + 1, fr'), ⟨⟨rfl, rfl, rfl, rfl, rfl, rfl, trivial⟩, Ent.refl _, h24', hfr'⟩, by show l.length - (k + 1) < l.length - k; omega⟩
 ·skip
  refine swp_exit ?_
  refine then_x ?_
  refine then_x ?_
  refine block_hit rfl ?_
  refine then_n ?_
  refine swp_seq ?_
  refine swp_region ?_
  refine s_pu (pu_move rfl) ?_
  refine swl_sub _ (.cons (t := 0) rfl (.cons (t := 1) rfl (.cons (t := 5) rfl (.cons (t := 6) rfl (.cons (t := 39) rfl .nil))))) ?_
  refine swl_nil ?_
  refine then_n ?_
  refine swp_cond (b := _) rfl (fun h39 => ?_) (fun h39 => ?_)
  ·skip
   refine swp_region ?_
   refine s_pu (pu_move rfl) ?_
   refine s_pu (pu_move rfl) ?_
   refine s_pu (pu_move rfl) ?_
   refine s_pu (pu_indexAddr (po + i * 1) (congrArg some hpv) rfl (by omega) (by omega) (by rw [Int.toNat_natCast])) ?_
   refine s_rd (rd_ro rfl hpc) ?_
   refine s_ef (ef_bldS (qs := [(0, _)]) rfl rfl rfl) ?_
   intro b45
   refine s_ef (ef_append_lit (l := l.length) (m := 1) rfl rfl (by repeat (first | exact Split.nil | (apply Split.cons; (repeat (first | with_reducible exact Take.here | apply Take.there))))) (by simp only [maxLen]; omega) (by omega)) ?_
   rintro v46 -
   skip
   refine s_pu (pu_assign rfl) ?_
   refine swl_sub _ (.cons (t := 0) rfl (.cons (t := 1) rfl (.cons (t := 5) rfl (.cons (t := 6) rfl .nil)))) ?_
   refine swl_nil ?_
   refine block_n ?_
   refine then_n ?_
   refine swp_region ?_
   refine s_pu (pu_move rfl) ?_
   refine s_pu (pu_add_as ((i + 1 : Nat) : Int) rfl rfl (by omega) (by omega) (by omega)) ?_
   refine s_pu (pu_assign rfl) ?_
   refine swl_sub _ (.cons (t := 0) rfl (.cons (t := 1) rfl (.cons (t := 5) rfl (.cons (t := 6) rfl .nil)))) ?_
   refine swl_nil ?_
   refine then_n ⟨(i + 1, v46, l ++ [p]), ⟨⟨rfl, rfl, rfl, rfl, trivial⟩, ?_, hi', fun x hx => ?_, fun x hx => ?_, ?_⟩, by show ps.length - (i + 1) < ps.length - i; omega⟩
   ·show Ent _ [own 9 1 v46 (l ++ [p]).length (sts (l ++ [p])), ro μ]
    rw [sts_app, List.length_append, show sts [p] = [.string p] from rfl, show [p].length = 1 from rfl]
    exact Split.ent' (by repeat (first | exact Split.nil | (apply Split.cons; (repeat (first | with_reducible exact Take.here | apply Take.there)))))
   ·rcases List.mem_append.1 hx with hx | hx
    ·exact h1 x hx
    ·rw [List.mem_singleton.1 hx]; exact List.mem_of_getElem? hp
   ·rw [List.take_add_one, hp] at hx
    rcases List.mem_append.1 hx with hx | hx
    ·exact List.mem_append_left _ (h2 x hx)
    ·exact List.mem_append_right _ hx
   ·rw [List.length_append]; show l.length + 1 ≤ i + 1; omega
  ·skip
   refine swp_skip ?_
   refine block_n ?_
   refine then_n ?_
   refine swp_region ?_
   refine s_pu (pu_move rfl) ?_
   refine s_pu (pu_add_as ((i + 1 : Nat) : Int) rfl rfl (by omega) (by omega) (by omega)) ?_
   refine s_pu (pu_assign rfl) ?_
   refine swl_sub _ (.cons (t := 0) rfl (.cons (t := 1) rfl (.cons (t := 5) rfl (.cons (t := 6) rfl .nil)))) ?_
   refine swl_nil ?_
   refine then_n ⟨(i + 1, w, l), ⟨⟨rfl, rfl, rfl, rfl, trivial⟩, Ent.refl _, hi', h1, fun x hx => ?_, by show l.length ≤ i + 1; omega⟩, by show ps.length - (i + 1) < ps.length - i; omega⟩
   rw [List.take_add_one, hp] at hx
   rcases List.mem_append.1 hx with hx | hx
   ·exact h2 x hx
   ·rw [List.mem_singleton.1 hx]; exact hfr h39
end SX
