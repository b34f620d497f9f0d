/- A part of the proof: walks of the seat's functions, by the rules of the texts that it imports. -/
import Derived.Test.YtplekpdckcidjaaQu9
namespace SX
open Go Go.Proofs

theorem ents_one (l : List (Th × Nat)) : (ents l).all Value.oneCell' = true := by
  unfold ents; rw [List.all_flatMap]; simp [ecs, Value.oneCell']
theorem clone_nil : Spec Try.prog 34 [.slice none 0 0] [] (fun v L => v = .slice none 0 0 ∧ L = []) := by
  refine Spec.of 8 Try.func34 rfl rfl rfl ?_
  refine swp_seq ?_
  refine swp_region ?_
  refine s_pu (pu_assign rfl) ?_
  refine swl_sub _ (.cons (t := 0) rfl .nil) ?_
  refine swl_nil ?_
  refine then_n ?_
  refine swp_seq ?_
  refine swp_seq ?_
  refine swp_region ?_
  refine s_pu (pu_move rfl) ?_
  refine s_pu (pu_sl_eq_nil rfl rfl) ?_
  refine swl_sub _ (.cons (t := 0) rfl (.cons (t := 4) rfl .nil)) ?_
  refine swl_nil ?_
  refine then_n ?_
  refine swp_cond (b := _) rfl (fun h4 => ?_) (fun h4 => by cases h4)
  refine swp_seq ?_
  refine swp_region ?_
  refine s_pu (pu_assign rfl) ?_
  refine swl_sub _ (.cons (t := 2) rfl .nil) ?_
  refine swl_nil ?_
  refine then_n ?_
  refine swp_ret ?_
  refine then_r ?_
  exact done_ret [] (.tmp rfl .nil) ⟨rfl, rfl⟩ (by repeat (first | exact Split.nil | (apply Split.cons; (repeat (first | with_reducible exact Take.here | apply Take.there)))))
theorem clone_blk (g cap : Nat) (es : List (Th × Nat)) (ex : List Value) (hb : es.length ≤ 1099511627776) :
    Spec Try.prog 34 [.slice (some ⟨g, 0, none⟩) es.length cap] [blk g 78 (ents es ++ ex)] (fun v L => (∃ A c, v = .slice A es.length c) ∧ L = [own 78 3 v es.length (ents es), blk g 78 (ents es ++ ex)]) := by
  refine Spec.of 8 Try.func34 rfl rfl rfl ?_
  refine swp_seq ?_
  refine swp_region ?_
  refine s_pu (pu_assign rfl) ?_
  refine swl_sub _ (.cons (t := 0) rfl .nil) ?_
  refine swl_nil ?_
  refine then_n ?_
  refine swp_seq ?_
  refine swp_seq ?_
  refine swp_region ?_
  refine s_pu (pu_move rfl) ?_
  refine s_pu (pu_sl_eq_nil rfl rfl) ?_
  refine swl_sub _ (.cons (t := 0) rfl (.cons (t := 4) rfl .nil)) ?_
  refine swl_nil ?_
  refine then_n ?_
  refine swp_cond (b := _) rfl (fun h4 => by cases h4) (fun h4 => ?_)
  refine swp_skip ?_
  refine then_n ?_
  refine swp_seq ?_
  refine swp_region ?_
  refine s_ef (ef_bldS (qs := []) rfl rfl rfl) ?_
  intro b5
  refine s_pu (pu_move rfl) ?_
  refine swl_ent (own_close (n := 3) (l := 0) (cap := 0) (xs := []) (ex := []) rfl rfl (Nat.le_refl _) (by simp [maxLen])) ?_
  refine s_ef (ef_append_of (news := ents es) rfl rfl (by repeat (first | exact Split.nil | (apply Split.cons; (repeat (first | with_reducible exact Take.here | apply Take.there))))) (by rw [ents_len]) (fun j u hj => by rw [Nat.zero_add, List.getElem?_append_left (List.getElem?_eq_some_iff.1 hj).1]; exact hj) (ents_one es) (by simp only [maxLen]; omega) (by omega)) ?_
  rintro v' -
  rw [Nat.zero_add, List.nil_append]
  refine swl_fact (fun m h => own_form h) fun hform => ?_
  refine s_pu (pu_assign rfl) ?_
  refine swl_sub _ (.cons (t := 2) rfl .nil) ?_
  refine swl_nil ?_
  refine then_n ?_
  refine swp_ret ?_
  exact done_ret [own 78 3 v' es.length (ents es), blk g 78 (ents es ++ ex)] (.tmp rfl .nil) ⟨hform, rfl⟩ (by repeat (first | exact Split.nil | (apply Split.cons; (repeat (first | with_reducible exact Take.here | apply Take.there)))))

theorem ent_app {L1 L2 L3 K : List Assn} [h : AppC L1 L2 L3] (k : Ent L3 K) : Ent (L1 ++ L2) K := by rw [h.ok]; exact k
theorem all_iter (b q nxt : Nat) (S : List (Th × Nat)) (hb : S.length ≤ 1099511627776) :
    Iter Try.prog 33 [.pointer (some ⟨b, 0, none⟩)] (fun x : Th => [thV x]) (fun pre x => ∃ post, S.map (·.1) = pre ++ x :: post) (fun ys => ys = S.map (·.1)) [blk b 28 [.pointer (some ⟨q, 0, none⟩)], qa q S nxt] := by
  intro l I X R h0 hy
  refine Spec.of 35 Try.func33 rfl rfl rfl ?_
  refine swp_app ?_
  refine swp_seq ?_
  refine swp_seq ?_
  refine swp_region ?_
  refine s_rd (rd_load rfl rfl) ?_
  refine s_pu (pu_ptr_eq_nil rfl rfl) ?_
  refine swl_sub _ (.cons (t := 0) rfl (.cons (t := 1) rfl (.cons (t := 7) rfl .nil))) ?_
  refine swl_nil ?_
  refine then_n ?_
  refine swp_cond (b := _) rfl (fun h7 => by cases h7) (fun h7 => ?_)
  refine swp_skip ?_
  refine then_n ?_
  refine swp_front (.there .here) ?_
  refine swp_ex fun ⟨es, hes⟩ => ?_
  refine swp_app ?_
  refine swp_ex fun v => ?_
  refine swp_app ?_
  refine swp_cut (fun env L => ∃ c, env = [(0, yv l), (3, .pointer (some ⟨c, 0, none⟩))] ∧ Ent L [qa c S nxt, I []]) ?_ ?_
  · refine swp_front (.there .here) ?_
    refine swp_own (fun hv l0 e0 => ?_) (fun g cap ex hv o1 o2 o3 o4 => ?_)
    all_goals subst v
    · have he : es = [] := List.eq_nil_of_length_eq_zero l0
      subst he
      refine swp_draw [0, 3, 5, 8] _ [] (by simp only [List.append_nil]; exact Ent.refl _) (by kernel_rfl) ?_
      refine d_rd 0 rfl (rd_load rfl rfl) rfl (by kernel_rfl) (by kernel_rfl) (by kernel_rfl) ?_
      first | refine d_pu 1 rfl (pu_nilCheck rfl) (by kernel_rfl) (by kernel_rfl) (by kernel_rfl) ?_ | refine d_pu 1 rfl (pu_nilCheck_fn rfl) (by kernel_rfl) (by kernel_rfl) (by kernel_rfl) ?_ | refine d_pu 1 rfl (pu_nilCheck_if rfl) (by kernel_rfl) (by kernel_rfl) (by kernel_rfl) ?_
      first | refine d_pu 2 rfl (pu_fieldAddr0 rfl) (by kernel_rfl) (by kernel_rfl) (by kernel_rfl) ?_ | refine d_pu 2 rfl (pu_fieldAddr rfl) (by kernel_rfl) (by kernel_rfl) (by kernel_rfl) ?_
      refine d_rd 3 rfl (rd_load rfl rfl) rfl (by kernel_rfl) (by kernel_rfl) (by kernel_rfl) ?_
      refine d_rd 5 rfl (rd_load rfl rfl) rfl (by kernel_rfl) (by kernel_rfl) (by kernel_rfl) ?_
      first | refine d_pu 6 rfl (pu_nilCheck rfl) (by kernel_rfl) (by kernel_rfl) (by kernel_rfl) ?_ | refine d_pu 6 rfl (pu_nilCheck_fn rfl) (by kernel_rfl) (by kernel_rfl) (by kernel_rfl) ?_ | refine d_pu 6 rfl (pu_nilCheck_if rfl) (by kernel_rfl) (by kernel_rfl) (by kernel_rfl) ?_
      first | refine d_pu 7 rfl (pu_fieldAddr0 rfl) (by kernel_rfl) (by kernel_rfl) (by kernel_rfl) ?_ | refine d_pu 7 rfl (pu_fieldAddr rfl) (by kernel_rfl) (by kernel_rfl) (by kernel_rfl) ?_
      refine d_rd 8 rfl (rd_load rfl rfl) rfl (by kernel_rfl) (by kernel_rfl) (by kernel_rfl) ?_
      refine d_eft 4 rfl (by kernel_rfl) (ef_fn clone_nil rfl rfl (by repeat (first | exact Split.nil | (apply Split.cons; (repeat (first | with_reducible exact Take.here | apply Take.there)))))) ?_
      rintro v L1 ⟨rfl, rfl⟩
      refine ⟨[], ent_app (Split.ent (by repeat (first | exact Split.nil | (apply Split.cons; (repeat (first | with_reducible exact Take.here | apply Take.there)))))), ?_⟩
      refine d_pu 9 rfl (pu_bld (qs := [(0, _), (1, _)]) rfl) (by kernel_rfl) (by kernel_rfl) (by kernel_rfl) ?_
      first | refine d_fint 10 rfl (by kernel_rfl) (by kernel_rfl) (ef_box rfl rfl) ?_ | refine d_finf 10 rfl (by kernel_rfl) (by kernel_rfl) (ef_box rfl rfl) ?_
      intro b18
      refine d_pu 11 rfl (pu_assign rfl) (by kernel_rfl) (by kernel_rfl) (by kernel_rfl) ?_
      refine d_sub _ (.cons (t := 0) rfl (.cons (t := 3) rfl .nil)) ?_
      first | refine d_nilt (by kernel_rfl) ?_ | refine d_nilf (by kernel_rfl) ?_
      refine then_n ⟨_, rfl, ?_⟩
      have hn : ∀ (c : Nat) (L : List Assn), Ent (blk c 69 [.slice none 0 0, .int .u64 (nxt : Nat)] :: L) (qa c S nxt :: L) := fun c L => Ent.trans (Ent.imp fun m hm => ⟨.slice none 0 0, m, fun _ => none, hm, ⟨fun _ => none, fun _ => none, own_nil _ _ _, trivial, by simp, by simp, by simp⟩, by simp, fun _ _ h => h, by simp⟩) (qa_close hes.1 hes.2)
      exact (hn _ _).trans (Ent.cons ((hn _ _).trans (Ent.swap.trans h0)))
    · skip
      refine swp_draw [0, 3, 5, 8] _ [] (by simp only [List.append_nil]; exact Ent.refl _) (by kernel_rfl) ?_
      refine d_rd 0 rfl (rd_load rfl rfl) rfl (by kernel_rfl) (by kernel_rfl) (by kernel_rfl) ?_
      first | refine d_pu 1 rfl (pu_nilCheck rfl) (by kernel_rfl) (by kernel_rfl) (by kernel_rfl) ?_ | refine d_pu 1 rfl (pu_nilCheck_fn rfl) (by kernel_rfl) (by kernel_rfl) (by kernel_rfl) ?_ | refine d_pu 1 rfl (pu_nilCheck_if rfl) (by kernel_rfl) (by kernel_rfl) (by kernel_rfl) ?_
      first | refine d_pu 2 rfl (pu_fieldAddr0 rfl) (by kernel_rfl) (by kernel_rfl) (by kernel_rfl) ?_ | refine d_pu 2 rfl (pu_fieldAddr rfl) (by kernel_rfl) (by kernel_rfl) (by kernel_rfl) ?_
      refine d_rd 3 rfl (rd_load rfl rfl) rfl (by kernel_rfl) (by kernel_rfl) (by kernel_rfl) ?_
      refine d_rd 5 rfl (rd_load rfl rfl) rfl (by kernel_rfl) (by kernel_rfl) (by kernel_rfl) ?_
      first | refine d_pu 6 rfl (pu_nilCheck rfl) (by kernel_rfl) (by kernel_rfl) (by kernel_rfl) ?_ | refine d_pu 6 rfl (pu_nilCheck_fn rfl) (by kernel_rfl) (by kernel_rfl) (by kernel_rfl) ?_ | refine d_pu 6 rfl (pu_nilCheck_if rfl) (by kernel_rfl) (by kernel_rfl) (by kernel_rfl) ?_
      first | refine d_pu 7 rfl (pu_fieldAddr0 rfl) (by kernel_rfl) (by kernel_rfl) (by kernel_rfl) ?_ | refine d_pu 7 rfl (pu_fieldAddr rfl) (by kernel_rfl) (by kernel_rfl) (by kernel_rfl) ?_
      refine d_rd 8 rfl (rd_load rfl rfl) rfl (by kernel_rfl) (by kernel_rfl) (by kernel_rfl) ?_
      refine d_eft 4 rfl (by kernel_rfl) (ef_fn (clone_blk _ _ _ _ (by rw [hes.1.length]; exact hb)) rfl rfl (by repeat (first | exact Split.nil | (apply Split.cons; (repeat (first | with_reducible exact Take.here | apply Take.there)))))) ?_
      rintro v L1 ⟨⟨A, c, rfl⟩, rfl⟩
      refine ⟨[_], ent_app (Split.ent (by repeat (first | exact Split.nil | (apply Split.cons; (repeat (first | with_reducible exact Take.here | apply Take.there)))))), ?_⟩
      refine d_pu 9 rfl (pu_bld (qs := [(0, _), (1, _)]) rfl) (by kernel_rfl) (by kernel_rfl) (by kernel_rfl) ?_
      first | refine d_fint 10 rfl (by kernel_rfl) (by kernel_rfl) (ef_box rfl rfl) ?_ | refine d_finf 10 rfl (by kernel_rfl) (by kernel_rfl) (ef_box rfl rfl) ?_
      intro b18
      refine d_pu 11 rfl (pu_assign rfl) (by kernel_rfl) (by kernel_rfl) (by kernel_rfl) ?_
      refine d_sub _ (.cons (t := 0) rfl (.cons (t := 3) rfl .nil)) ?_
      first | refine d_nilt (by kernel_rfl) ?_ | refine d_nilf (by kernel_rfl) ?_
      refine then_n ⟨_, rfl, ?_⟩
      refine (Split.ent' (K := [blk b18 69 [.slice A es.length c, .int .u64 (nxt : Nat)], own 78 3 (.slice A es.length c) es.length (ents es), blk g 78 (ents es ++ ex), blk q 69 [.slice (some ⟨g, 0, none⟩) es.length cap, .int .u64 (nxt : Nat)], blk b 28 [.pointer (some ⟨q, 0, none⟩)], R]) (by repeat (first | exact Split.nil | (apply Split.cons; (repeat (first | with_reducible exact Take.here | apply Take.there)))))).trans ?_
      refine (ent_ex (F := fun v => [blk b18 69 [v, .int .u64 (nxt : Nat)], own 78 3 v es.length (ents es)]) (.slice A es.length c) (by repeat (first | exact Split.nil | (apply Split.cons; (repeat (first | with_reducible exact Take.here | apply Take.there)))))).trans ?_
      refine (qa_close hes.1 hes.2).trans (Ent.cons ?_)
      exact (qraw_close o1 o2 o4).trans ((qa_close hes.1 hes.2).trans (Ent.swap.trans h0))
  rintro env L ⟨c, rfl, hE⟩
  refine swp_ent hE ?_
  refine swp_cut (fun env L => ∃ U b4, U = S ∧ env = [(0, yv l), (3, .pointer (some ⟨c, 0, none⟩)), (4, .pointer (some ⟨b4, 0, none⟩)), (5, .bool (!U.isEmpty))] ∧ L = [blk b4 27 (tcs ((U.head?.map (·.1)).getD (0, 0))), qa c U.tail nxt, I []]) ?_ ?_
  · refine swp_region ?_
    cases S with
    | nil =>
      refine s_pu (pu_move rfl) ?_
      refine s_ef (ef_fn (pop_a0 c nxt) rfl rfl (by repeat (first | exact Split.nil | (apply Split.cons; (repeat (first | with_reducible exact Take.here | apply Take.there)))))) ?_
      rintro v L1 ⟨rfl, rfl⟩
      refine swl_app ?_
      refine s_pu (pu_move rfl) ?_
      refine s_pu (pu_extract rfl rfl) ?_
      refine s_pu (pu_extract rfl rfl) ?_
      refine s_ef (ef_alloc) ?_
      intro b4
      refine s_ef0 (ef_storeA rfl rfl rfl rfl) ?_
      refine s_pu (pu_assign rfl) ?_
      refine swl_sub _ (.cons (t := 0) rfl (.cons (t := 3) rfl (.cons (t := 4) rfl (.cons (t := 5) rfl .nil)))) ?_
      refine swl_nil ?_
      exact then_n ⟨[], _, rfl, rfl, rfl⟩
    | cons e S =>
      refine s_pu (pu_move rfl) ?_
      refine s_ef (ef_fn (pop_a c nxt e S hb) rfl rfl (by repeat (first | exact Split.nil | (apply Split.cons; (repeat (first | with_reducible exact Take.here | apply Take.there)))))) ?_
      rintro v L1 ⟨rfl, rfl⟩
      refine swl_app ?_
      refine s_pu (pu_move rfl) ?_
      refine s_pu (pu_extract rfl rfl) ?_
      refine s_pu (pu_extract rfl rfl) ?_
      refine s_ef (ef_alloc) ?_
      intro b4
      refine s_ef0 (ef_storeA rfl rfl rfl rfl) ?_
      refine s_pu (pu_assign rfl) ?_
      refine swl_sub _ (.cons (t := 0) rfl (.cons (t := 3) rfl (.cons (t := 4) rfl (.cons (t := 5) rfl .nil)))) ?_
      refine swl_nil ?_
      exact then_n ⟨e :: S, _, rfl, rfl, rfl⟩
  rintro env L ⟨U0, b4, hU, rfl, rfl⟩
  refine swp_block ?_
  refine swp_loop (ι := List (Th × Nat)) (fun U env L => ∃ pre b4, S = pre ++ U ∧ env = [(0, yv l), (3, .pointer (some ⟨c, 0, none⟩)), (4, .pointer (some ⟨b4, 0, none⟩)), (5, .bool (!U.isEmpty))] ∧ L = [blk b4 27 (tcs ((U.head?.map (·.1)).getD (0, 0))), qa c U.tail nxt, I (pre.map (·.1))]) (fun U => U.length) U0 ⟨[], b4, hU.symm, rfl, rfl⟩ ?_
  rintro U env L ⟨pre, b4, hS, rfl, rfl⟩
  refine swp_seq ?_
  refine swp_seq ?_
  refine swp_region ?_
  refine s_pu (pu_move rfl) ?_
  refine swl_sub _ (.cons (t := 0) rfl (.cons (t := 3) rfl (.cons (t := 4) rfl (.cons (t := 24) rfl .nil)))) ?_
  refine swl_nil ?_
  refine then_n ?_
  cases U with
  | nil =>
    refine swp_cond (b := _) rfl (fun h => by cases h) (fun h24 => ?_)
    refine swp_exit ?_
    refine then_x ?_
    refine then_x ?_
    refine block_hit rfl ?_
    rw [List.append_nil] at hS
    subst hS
    exact done_end [I (S.map (·.1))] .nil (.inl ⟨_, rfl, rfl⟩) (by repeat (first | exact Split.nil | (apply Split.cons; (repeat (first | with_reducible exact Take.here | apply Take.there)))))
  | cons e U =>
    refine swp_cond (b := _) rfl (fun h24 => ?_) (fun h => by cases h)
    refine swp_skip ?_
    refine then_n ?_
    refine swp_seq ?_
    refine swp_block ?_
    refine swp_seq ?_
    refine swp_region ?_
    refine swl_ent (Ent.refl [blk b4 27 [.int .i64 e.1.1, .int .i64 e.1.2], qa c U nxt, I (pre.map (fun x : Th × Nat => x.1))]) ?_
    refine s_pu (pu_move rfl) ?_
    first | refine s_rd (rd_loadW rfl rfl) ?_ | refine s_rd (rd_loadX rfl rfl rfl) ?_
    refine s_ef (ef_yield (hy (pre.map (·.1)) e.1 ⟨U.map (·.1), by rw [hS]; simp⟩) rfl rfl (by repeat (first | exact Split.nil | (apply Split.cons; (repeat (first | with_reducible exact Take.here | apply Take.there)))))) ?_
    rintro v L1 (⟨rfl, rfl⟩ | ⟨rfl, rfl⟩)
    · refine swl_app ?_
      refine s_pu (pu_not rfl) ?_
      refine swl_sub _ (.cons (t := 0) rfl (.cons (t := 3) rfl (.cons (t := 4) rfl (.cons (t := 33) rfl .nil)))) ?_
      refine swl_nil ?_
      refine then_n ?_
      refine swp_cond (b := _) rfl (fun h => by cases h) (fun h33 => ?_)
      refine swp_skip ?_
      refine block_n ?_
      refine then_n ?_
      refine swp_seq ?_
      refine swp_seq ?_
      refine swp_region ?_
      first | refine s_rd (rd_loadW rfl rfl) ?_ | refine s_rd (rd_loadX rfl rfl rfl) ?_
      refine swl_sub _ (.cons (t := 0) rfl (.cons (t := 3) rfl (.cons (t := 34) rfl .nil))) ?_
      refine swl_nil ?_
      refine then_n ?_
      refine swp_region ?_
      refine s_ef (ef_alloc) ?_
      intro b4
      refine s_ef0 (ef_storeA rfl rfl rfl rfl) ?_
      refine swl_sub _ (.cons (t := 0) rfl (.cons (t := 3) rfl (.cons (t := 4) rfl .nil))) ?_
      refine swl_nil ?_
      refine then_n ?_
      refine swp_region ?_
      refine s_pu (pu_move rfl) ?_
      have hpre : I (pre.map (·.1) ++ [e.1]) = I ((pre ++ [e]).map (·.1)) := by simp
      rw [hpre]
      cases U with
      | nil =>
        refine s_ef (ef_fn (pop_a0 c nxt) rfl rfl (by repeat (first | exact Split.nil | (apply Split.cons; (repeat (first | with_reducible exact Take.here | apply Take.there)))))) ?_
        rintro v L1 ⟨rfl, rfl⟩
        refine swl_app ?_
        refine s_pu (pu_move rfl) ?_
        refine s_pu (pu_extract rfl rfl) ?_
        refine s_pu (pu_extract rfl rfl) ?_
        refine s_ef0 (ef_storeA rfl rfl rfl rfl) ?_
        refine s_pu (pu_assign rfl) ?_
        refine swl_sub _ (.cons (t := 0) rfl (.cons (t := 3) rfl (.cons (t := 4) rfl (.cons (t := 5) rfl .nil)))) ?_
        refine swl_ent (Split.ent' (K := [blk b4 27 [.int .i64 (0, 0).1, .int .i64 (0, 0).2], qa c [] nxt, I ((pre ++ [e]).map (fun x : Th × Nat => x.1))]) (by repeat (first | exact Split.nil | (apply Split.cons; (repeat (first | with_reducible exact Take.here | apply Take.there)))))) ?_
        refine swl_nil ?_
        exact then_n ⟨[], ⟨pre ++ [e], _, by rw [hS]; simp, rfl, rfl⟩, by simp⟩
      | cons e' U =>
        refine s_ef (ef_fn (pop_a c nxt e' U (by rw [hS] at hb; simp at hb ⊢; omega)) rfl rfl (by repeat (first | exact Split.nil | (apply Split.cons; (repeat (first | with_reducible exact Take.here | apply Take.there)))))) ?_
        rintro v L1 ⟨rfl, rfl⟩
        refine swl_app ?_
        refine s_pu (pu_move rfl) ?_
        refine s_pu (pu_extract rfl rfl) ?_
        refine s_pu (pu_extract rfl rfl) ?_
        refine s_ef0 (ef_storeA rfl rfl rfl rfl) ?_
        refine s_pu (pu_assign rfl) ?_
        refine swl_sub _ (.cons (t := 0) rfl (.cons (t := 3) rfl (.cons (t := 4) rfl (.cons (t := 5) rfl .nil)))) ?_
        refine swl_ent (Split.ent' (K := [blk b4 27 [.int .i64 e'.1.1, .int .i64 e'.1.2], qa c U nxt, I ((pre ++ [e]).map (fun x : Th × Nat => x.1))]) (by repeat (first | exact Split.nil | (apply Split.cons; (repeat (first | with_reducible exact Take.here | apply Take.there)))))) ?_
        refine swl_nil ?_
        exact then_n ⟨e' :: U, ⟨pre ++ [e], _, by rw [hS]; simp, rfl, rfl⟩, by simp⟩
    · refine swl_app ?_
      refine s_pu (pu_not rfl) ?_
      refine swl_sub _ (.cons (t := 0) rfl (.cons (t := 3) rfl (.cons (t := 4) rfl (.cons (t := 33) rfl .nil)))) ?_
      refine swl_nil ?_
      refine then_n ?_
      refine swp_cond (b := _) rfl (fun h33 => ?_) (fun h => by cases h)
      refine swp_ret ?_
      refine block_r ?_
      refine then_r ?_
      refine then_r ?_
      refine block_r ?_
      exact done_ret [X] .nil (.inr rfl) (by repeat (first | exact Split.nil | (apply Split.cons; (repeat (first | with_reducible exact Take.here | apply Take.there)))))
end SX
