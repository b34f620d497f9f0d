/- A part of the proof: walks of the seat's functions, by the rules of the texts that it imports. -/
import Derived.Test.YtplekpdckcidjaaQuW4
namespace SX.Wd
open Go Go.Proofs SX

theorem wents_one (l : List (WI × Nat)) : (wents l).all Value.oneCell' = true := by
  unfold wents; rw [List.all_flatMap]; simp [wcs, Value.oneCell']
theorem clone_nil : Spec Try.prog 30 [.slice none 0 0] [] (fun v L => v = .slice none 0 0 ∧ L = []) := by
  refine Spec.of 8 Try.func30 rfl rfl rfl ?_
  refine swp_seq ?_
  refine swp_region ?_
  refine s_pu (pu_assign rfl) ?_
  refine swl_sub _ (.cons (t := 0) rfl .nil) ?_
  refine swl_nil ?_
  refine then_n ?_
  refine swp_seq ?_
  refine swp_seq ?_
  refine swp_region ?_
  refine s_pu (pu_move rfl) ?_
  refine s_pu (pu_sl_eq_nil rfl rfl) ?_
  refine swl_sub _ (.cons (t := 0) rfl (.cons (t := 4) rfl .nil)) ?_
  refine swl_nil ?_
  refine then_n ?_
  refine swp_cond (b := _) rfl (fun h4 => ?_) (fun h4 => by cases h4)
  refine swp_seq ?_
  refine swp_region ?_
  refine s_pu (pu_assign rfl) ?_
  refine swl_sub _ (.cons (t := 2) rfl .nil) ?_
  refine swl_nil ?_
  refine then_n ?_
  refine swp_ret ?_
  refine then_r ?_
  exact done_ret [] (.tmp rfl .nil) ⟨rfl, rfl⟩ (by repeat (first | exact Split.nil | (apply Split.cons; (repeat (first | with_reducible exact Take.here | apply Take.there)))))
theorem clone_blk (g cap : Nat) (es : List (WI × Nat)) (ex : List Value) (hb : es.length ≤ 1099511627776) :
    Spec Try.prog 30 [.slice (some ⟨g, 0, none⟩) es.length cap] [blk g 84 (wents es ++ ex)] (fun v L => (∃ A c, v = .slice A es.length c) ∧ L = [own 84 2 v es.length (wents es), blk g 84 (wents es ++ ex)]) := by
  refine Spec.of 8 Try.func30 rfl rfl rfl ?_
  refine swp_seq ?_
  refine swp_region ?_
  refine s_pu (pu_assign rfl) ?_
  refine swl_sub _ (.cons (t := 0) rfl .nil) ?_
  refine swl_nil ?_
  refine then_n ?_
  refine swp_seq ?_
  refine swp_seq ?_
  refine swp_region ?_
  refine s_pu (pu_move rfl) ?_
  refine s_pu (pu_sl_eq_nil rfl rfl) ?_
  refine swl_sub _ (.cons (t := 0) rfl (.cons (t := 4) rfl .nil)) ?_
  refine swl_nil ?_
  refine then_n ?_
  refine swp_cond (b := _) rfl (fun h4 => by cases h4) (fun h4 => ?_)
  refine swp_skip ?_
  refine then_n ?_
  refine swp_seq ?_
  refine swp_region ?_
  refine s_ef (ef_bldS (qs := []) rfl rfl rfl) ?_
  intro b5
  refine s_pu (pu_move rfl) ?_
  refine swl_ent (own_close (n := 2) (l := 0) (cap := 0) (xs := []) (ex := []) rfl rfl (Nat.le_refl _) (by simp [maxLen])) ?_
  refine s_ef (ef_append_of (news := wents es) rfl rfl (by repeat (first | exact Split.nil | (apply Split.cons; (repeat (first | with_reducible exact Take.here | apply Take.there))))) (by rw [wents_len]) (fun j u hj => by rw [Nat.zero_add, List.getElem?_append_left (List.getElem?_eq_some_iff.1 hj).1]; exact hj) (wents_one es) (by simp only [maxLen]; omega) (by omega)) ?_
  rintro v' -
  rw [Nat.zero_add, List.nil_append]
  refine swl_fact (fun m h => own_form h) fun hform => ?_
  refine s_pu (pu_assign rfl) ?_
  refine swl_sub _ (.cons (t := 2) rfl .nil) ?_
  refine swl_nil ?_
  refine then_n ?_
  refine swp_ret ?_
  exact done_ret [own 84 2 v' es.length (wents es), blk g 84 (wents es ++ ex)] (.tmp rfl .nil) ⟨hform, rfl⟩ (by repeat (first | exact Split.nil | (apply Split.cons; (repeat (first | with_reducible exact Take.here | apply Take.there)))))
theorem clone_own (v : Value) (es : List (WI × Nat)) (hb : es.length ≤ 1099511627776) :
    Spec Try.prog 30 [v] [own 84 2 v es.length (wents es)] (fun v' L => (∃ A c, v' = .slice A es.length c) ∧ L = [own 84 2 v' es.length (wents es), own 84 2 v es.length (wents es)]) := by
  refine Spec.own_cases (fun hv l0 x0 => ?_) (fun g cap ex hv o1 o2 o3 o4 => ?_)
  · subst hv
    refine Spec.ent3 clone_nil ?_
    rintro v L ⟨rfl, rfl⟩
    have he : es = [] := List.eq_nil_of_length_eq_zero l0
    subst he
    exact ⟨_, own_nil_ent.trans (Ent.cons own_nil_ent), ⟨_, _, rfl⟩, rfl⟩
  · subst hv
    refine Spec.ent3 (clone_blk g cap es ex hb) ?_
    rintro v L ⟨hf, rfl⟩
    exact ⟨_, Ent.cons (own_close o3 o4 o1 o2), hf, rfl⟩
theorem all_w (p : Option Addr) : Spec Try.prog 13 [.pointer p] [] (fun v L => ∃ b, v = .func (.func 29) #[] #[.pointer (some ⟨b, 0, none⟩)] ∧ L = [blk b 33 [.pointer p]]) := by
  refine Spec.of 4 Try.func13 rfl rfl rfl ?_
  refine swp_seq ?_
  refine swp_region ?_
  refine s_ef (ef_box rfl rfl) ?_
  intro b1
  refine s_pu (pu_assign rfl) ?_
  refine swl_sub _ (.cons (t := 1) rfl .nil) ?_
  refine swl_nil ?_
  refine then_n ?_
  refine swp_seq ?_
  refine swp_region ?_
  refine s_pu (pu_func (vs := []) (us := [_]) rfl rfl) ?_
  refine s_pu (pu_assign rfl) ?_
  refine swl_sub _ (.cons (t := 2) rfl .nil) ?_
  refine swl_nil ?_
  refine then_n ?_
  refine swp_ret ?_
  exact done_ret _ (.tmp rfl .nil) ⟨_, rfl, rfl⟩ (by repeat (first | exact Split.nil | (apply Split.cons; (repeat (first | with_reducible exact Take.here | apply Take.there)))))

set_option maxHeartbeats 1000000 in
theorem all_iter (b q nxt : Nat) (S : List (WI × Nat)) (hb : S.length ≤ 1099511627776) :
    Iter Try.prog 29 [.pointer (some ⟨b, 0, none⟩)] (fun x : WI => [wiV x]) (fun pre x => ∃ post, S.map (·.1) = pre ++ x :: post) (fun ys => ys = S.map (·.1)) [blk b 33 [.pointer (some ⟨q, 0, none⟩)], wa q S nxt] := by
  intro l I X R h0 hy
  refine Spec.of 34 Try.func29 rfl rfl rfl ?_
  refine swp_app ?_
  refine swp_seq ?_
  refine swp_seq ?_
  refine swp_region ?_
  refine s_rd (rd_load rfl rfl) ?_
  refine s_pu (pu_ptr_eq_nil rfl rfl) ?_
  refine swl_sub _ (.cons (t := 0) rfl (.cons (t := 1) rfl (.cons (t := 7) rfl .nil))) ?_
  refine swl_nil ?_
  refine then_n ?_
  refine swp_cond (b := _) rfl (fun h7 => by cases h7) (fun h7 => ?_)
  refine swp_skip ?_
  refine then_n ?_
  refine swp_cut (fun env L => ∃ c, env = [(0, yv l), (3, .pointer (some ⟨c, 0, none⟩))] ∧ Ent L [wa c S nxt, I []]) ?_ ?_
  · skip
    refine swp_front (A := wa q S nxt) (by repeat (first | with_reducible exact Take.here | apply Take.there)) ?_
    refine swp_ex fun ⟨es, hes⟩ => ?_
    refine swp_app ?_
    refine swp_ex fun v => ?_
    refine swp_app ?_
    refine swp_front (A := own 84 2 v es.length (wents es)) (by repeat (first | with_reducible exact Take.here | apply Take.there)) ?_
    refine swp_fact (fun m h => own_form h) fun ⟨A, cap, hv⟩ => ?_
    subst hv
    refine swp_draw [0, 3, 5, 8] _ [] (by simp only [List.append_nil]; exact Ent.refl _) (by kernel_rfl) ?_
    refine d_rd 0 rfl (rd_load rfl rfl) rfl (by kernel_rfl) (by kernel_rfl) (by kernel_rfl) ?_
    first | refine d_pu 1 rfl (pu_nilCheck rfl) (by kernel_rfl) (by kernel_rfl) (by kernel_rfl) ?_ | refine d_pu 1 rfl (pu_nilCheck_fn rfl) (by kernel_rfl) (by kernel_rfl) (by kernel_rfl) ?_ | refine d_pu 1 rfl (pu_nilCheck_if rfl) (by kernel_rfl) (by kernel_rfl) (by kernel_rfl) ?_
    first | refine d_pu 2 rfl (pu_fieldAddr0 rfl) (by kernel_rfl) (by kernel_rfl) (by kernel_rfl) ?_ | refine d_pu 2 rfl (pu_fieldAddr rfl) (by kernel_rfl) (by kernel_rfl) (by kernel_rfl) ?_
    refine d_rd 3 rfl (rd_load rfl rfl) rfl (by kernel_rfl) (by kernel_rfl) (by kernel_rfl) ?_
    refine d_rd 5 rfl (rd_load rfl rfl) rfl (by kernel_rfl) (by kernel_rfl) (by kernel_rfl) ?_
    first | refine d_pu 6 rfl (pu_nilCheck rfl) (by kernel_rfl) (by kernel_rfl) (by kernel_rfl) ?_ | refine d_pu 6 rfl (pu_nilCheck_fn rfl) (by kernel_rfl) (by kernel_rfl) (by kernel_rfl) ?_ | refine d_pu 6 rfl (pu_nilCheck_if rfl) (by kernel_rfl) (by kernel_rfl) (by kernel_rfl) ?_
    first | refine d_pu 7 rfl (pu_fieldAddr0 rfl) (by kernel_rfl) (by kernel_rfl) (by kernel_rfl) ?_ | refine d_pu 7 rfl (pu_fieldAddr rfl) (by kernel_rfl) (by kernel_rfl) (by kernel_rfl) ?_
    refine d_rd 8 rfl (rd_load rfl rfl) rfl (by kernel_rfl) (by kernel_rfl) (by kernel_rfl) ?_
    refine d_eft 4 rfl (by kernel_rfl) (ef_fn (clone_own _ es (by rw [hes.1.length]; exact hb)) rfl rfl (by repeat (first | exact Split.nil | (apply Split.cons; (repeat (first | with_reducible exact Take.here | apply Take.there)))))) ?_
    rintro v L1 ⟨⟨A', c, rfl⟩, rfl⟩
    refine ⟨[_], ent_appC (Split.ent (by repeat (first | exact Split.nil | (apply Split.cons; (repeat (first | with_reducible exact Take.here | apply Take.there)))))), ?_⟩
    refine d_pu 9 rfl (pu_bld (qs := [(0, _), (1, _)]) rfl) (by kernel_rfl) (by kernel_rfl) (by kernel_rfl) ?_
    first | refine d_fint 10 rfl (by kernel_rfl) (by kernel_rfl) (ef_box rfl rfl) ?_ | refine d_finf 10 rfl (by kernel_rfl) (by kernel_rfl) (ef_box rfl rfl) ?_
    intro b18
    refine d_pu 11 rfl (pu_assign rfl) (by kernel_rfl) (by kernel_rfl) (by kernel_rfl) ?_
    refine d_sub _ (.cons (t := 0) rfl (.cons (t := 3) rfl .nil)) ?_
    first | refine d_nilt (by kernel_rfl) ?_ | refine d_nilf (by kernel_rfl) ?_
    refine then_n ⟨_, rfl, ?_⟩
    refine (Split.ent' (K := [blk b18 82 [.slice A' es.length c, .int .u64 (nxt : Nat)], own 84 2 (.slice A' es.length c) es.length (wents es), blk q 82 [.slice A es.length cap, .int .u64 (nxt : Nat)], own 84 2 (.slice A es.length cap) es.length (wents es), blk b 33 [.pointer (some ⟨q, 0, none⟩)], R]) (by repeat (first | exact Split.nil | (apply Split.cons; (repeat (first | with_reducible exact Take.here | apply Take.there)))))).trans ?_
    refine wraw_fold.trans ((wa_close hes.1 hes.2).trans (Ent.cons ?_))
    exact wraw_fold.trans ((wa_close hes.1 hes.2).trans (Ent.swap.trans h0))
  rintro env L ⟨c, rfl, hE⟩
  refine swp_ent hE ?_
  refine swp_cut (fun env L => ∃ U, U = S ∧ env = [(0, yv l), (3, .pointer (some ⟨c, 0, none⟩)), (4, wiV ((U.head?.map (·.1)).getD wiZ)), (5, .bool (!U.isEmpty))] ∧ L = [wa c U.tail nxt, I []]) ?_ ?_
  · skip
    refine swp_region ?_
    cases S with
    | nil =>
      refine s_pu (pu_move rfl) ?_
      refine s_ef (ef_fn (pop_a0 c nxt) rfl rfl (by repeat (first | exact Split.nil | (apply Split.cons; (repeat (first | with_reducible exact Take.here | apply Take.there)))))) ?_
      rintro v L1 ⟨rfl, rfl⟩
      refine swl_app ?_
      refine s_pu (pu_move rfl) ?_
      refine s_pu (pu_extract rfl rfl) ?_
      refine s_pu (pu_extract rfl rfl) ?_
      refine s_pu (pu_assign rfl) ?_
      refine s_pu (pu_assign rfl) ?_
      refine swl_sub _ (.cons (t := 0) rfl (.cons (t := 3) rfl (.cons (t := 4) rfl (.cons (t := 5) rfl .nil)))) ?_
      refine swl_nil ?_
      exact then_n ⟨[], rfl, rfl, rfl⟩
    | cons e S =>
      refine s_pu (pu_move rfl) ?_
      refine s_ef (ef_fn (pop_a c nxt e S hb) rfl rfl (by repeat (first | exact Split.nil | (apply Split.cons; (repeat (first | with_reducible exact Take.here | apply Take.there)))))) ?_
      rintro v L1 ⟨rfl, rfl⟩
      refine swl_app ?_
      refine s_pu (pu_move rfl) ?_
      refine s_pu (pu_extract rfl rfl) ?_
      refine s_pu (pu_extract rfl rfl) ?_
      refine s_pu (pu_assign rfl) ?_
      refine s_pu (pu_assign rfl) ?_
      refine swl_sub _ (.cons (t := 0) rfl (.cons (t := 3) rfl (.cons (t := 4) rfl (.cons (t := 5) rfl .nil)))) ?_
      refine swl_nil ?_
      exact then_n ⟨e :: S, rfl, rfl, rfl⟩
    skip
  rintro env L ⟨U0, hU, rfl, rfl⟩
  refine swp_block ?_
  refine swp_loop (ι := List (WI × Nat)) (fun U env L => ∃ pre, S = pre ++ U ∧ env = [(0, yv l), (3, .pointer (some ⟨c, 0, none⟩)), (4, wiV ((U.head?.map (·.1)).getD wiZ)), (5, .bool (!U.isEmpty))] ∧ L = [wa c U.tail nxt, I (pre.map (·.1))]) (fun U => U.length) U0 ⟨[], hU.symm, rfl, rfl⟩ ?_
  rintro U env L ⟨pre, hS, rfl, rfl⟩
  refine swp_seq ?_
  refine swp_seq ?_
  refine swp_region ?_
  refine s_pu (pu_move rfl) ?_
  refine swl_sub _ (.cons (t := 0) rfl (.cons (t := 3) rfl (.cons (t := 4) rfl (.cons (t := 24) rfl .nil)))) ?_
  refine swl_nil ?_
  refine then_n ?_
  refine swp_cond (b := _) rfl (fun h24 => ?_) (fun h24 => ?_)
  · skip   -- 24 T
    obtain ⟨e, U, rfl⟩ : ∃ e U', U = e :: U' := by cases U with
      | nil => cases h24
      | cons e U' => exact ⟨e, U', rfl⟩
    refine swp_ent (Ent.refl [wa c U nxt, I (pre.map (fun x : WI × Nat => x.1))]) ?_
    refine swp_skip ?_
    refine then_n ?_
    refine swp_cut (fun env L => env = [(0, yv l), (3, .pointer (some ⟨c, 0, none⟩))] ∧ L = [I (pre.map (·.1) ++ [e.1]), wa c U nxt]) ?_ ?_
    · skip
      refine swp_block ?_
      refine swp_seq ?_
      refine swp_region ?_
      refine s_pu (pu_move rfl) ?_
      refine s_pu (pu_move rfl) ?_
      refine s_ef (ef_yield (hy (pre.map (·.1)) e.1 ⟨U.map (·.1), by rw [hS]; simp⟩) rfl rfl (by repeat (first | exact Split.nil | (apply Split.cons; (repeat (first | with_reducible exact Take.here | apply Take.there)))))) ?_
      rintro v L1 (⟨rfl, rfl⟩ | ⟨rfl, rfl⟩)
      · refine swl_app ?_
        refine s_pu (pu_not rfl) ?_
        refine swl_sub _ (.cons (t := 0) rfl (.cons (t := 3) rfl (.cons (t := 4) rfl (.cons (t := 33) rfl .nil)))) ?_
        refine swl_nil ?_
        refine then_n ?_
        refine swp_cond (b := _) rfl (fun h => by cases h) (fun h33 => ?_)
        refine swp_sub _ (.cons (t := 0) rfl (.cons (t := 3) rfl .nil)) ?_
        refine swp_skip ?_
        refine block_n ?_
        exact then_n ⟨rfl, rfl⟩
      · refine swl_app ?_
        refine s_pu (pu_not rfl) ?_
        refine swl_sub _ (.cons (t := 0) rfl (.cons (t := 3) rfl (.cons (t := 4) rfl (.cons (t := 33) rfl .nil)))) ?_
        refine swl_nil ?_
        refine then_n ?_
        refine swp_cond (b := _) rfl (fun h33 => ?_) (fun h => by cases h)
        refine swp_ret ?_
        refine block_r ?_
        refine then_r ?_
        refine then_r ?_
        refine block_r ?_
        exact done_ret [X] .nil (.inr rfl) (by repeat (first | exact Split.nil | (apply Split.cons; (repeat (first | with_reducible exact Take.here | apply Take.there)))))
    rintro env L ⟨rfl, rfl⟩
    refine swp_region ?_
    refine s_pu (pu_move rfl) ?_
    have hpre : I (pre.map (·.1) ++ [e.1]) = I ((pre ++ [e]).map (·.1)) := by simp
    rw [hpre]
    cases U with
    | nil =>
      refine s_ef (ef_fn (pop_a0 c nxt) rfl rfl (by repeat (first | exact Split.nil | (apply Split.cons; (repeat (first | with_reducible exact Take.here | apply Take.there)))))) ?_
      rintro v L1 ⟨rfl, rfl⟩
      refine swl_app ?_
      refine s_pu (pu_move rfl) ?_
      refine s_pu (pu_extract rfl rfl) ?_
      refine s_pu (pu_extract rfl rfl) ?_
      refine s_pu (pu_assign rfl) ?_
      refine s_pu (pu_assign rfl) ?_
      refine swl_sub _ (.cons (t := 0) rfl (.cons (t := 3) rfl (.cons (t := 4) rfl (.cons (t := 5) rfl .nil)))) ?_
      refine swl_nil ?_
      exact then_n ⟨[], ⟨pre ++ [e], by rw [hS]; simp, rfl, rfl⟩, by simp⟩
    | cons e' U =>
      refine s_ef (ef_fn (pop_a c nxt e' U (by rw [hS] at hb; simp at hb ⊢; omega)) rfl rfl (by repeat (first | exact Split.nil | (apply Split.cons; (repeat (first | with_reducible exact Take.here | apply Take.there)))))) ?_
      rintro v L1 ⟨rfl, rfl⟩
      refine swl_app ?_
      refine s_pu (pu_move rfl) ?_
      refine s_pu (pu_extract rfl rfl) ?_
      refine s_pu (pu_extract rfl rfl) ?_
      refine s_pu (pu_assign rfl) ?_
      refine s_pu (pu_assign rfl) ?_
      refine swl_sub _ (.cons (t := 0) rfl (.cons (t := 3) rfl (.cons (t := 4) rfl (.cons (t := 5) rfl .nil)))) ?_
      refine swl_nil ?_
      exact then_n ⟨e' :: U, ⟨pre ++ [e], by rw [hS]; simp, rfl, rfl⟩, by simp⟩
    skip
  · skip   -- 24 F
    obtain rfl : U = [] := by cases U with
      | nil => rfl
      | cons e U' => cases h24
    rw [List.append_nil] at hS
    subst hS
    refine swp_exit ?_
    refine then_x ?_
    refine then_x ?_
    refine block_hit rfl ?_
    exact done_end [I (S.map (·.1))] .nil (.inl ⟨_, rfl, rfl⟩) (by repeat (first | exact Split.nil | (apply Split.cons; (repeat (first | with_reducible exact Take.here | apply Take.there)))))
end SX.Wd
