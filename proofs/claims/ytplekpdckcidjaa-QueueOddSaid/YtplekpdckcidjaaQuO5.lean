/- A part of the proof: walks of the seat's functions, by the rules of the texts that it imports. -/
import Derived.Test.YtplekpdckcidjaaQuO4
namespace SX
open Go Go.Proofs

theorem dents_one (p : Nat) (l : List OE) : (dents p l).all Value.oneCell' = true := by
  unfold dents; rw [List.all_flatMap]; simp [dcs, Value.oneCell']
theorem oclone_nil : Spec Try.prog 37 [.slice none 0 0] [] (fun v L => v = .slice none 0 0 ∧ L = []) := by
  refine Spec.of 8 Try.func37 rfl rfl rfl ?_
  refine swp_seq ?_
  refine swp_region ?_
  refine s_pu (pu_assign rfl) ?_
  refine swl_sub _ (.cons (t := 0) rfl .nil) ?_
  refine swl_nil ?_
  refine then_n ?_
  refine swp_seq ?_
  refine swp_seq ?_
  refine swp_region ?_
  refine s_pu (pu_move rfl) ?_
  refine s_pu (pu_sl_eq_nil rfl rfl) ?_
  refine swl_sub _ (.cons (t := 0) rfl (.cons (t := 4) rfl .nil)) ?_
  refine swl_nil ?_
  refine then_n ?_
  refine swp_cond (b := _) rfl (fun h4 => ?_) (fun h4 => by cases h4)
  refine swp_seq ?_
  refine swp_region ?_
  refine s_pu (pu_assign rfl) ?_
  refine swl_sub _ (.cons (t := 2) rfl .nil) ?_
  refine swl_nil ?_
  refine then_n ?_
  refine swp_ret ?_
  refine then_r ?_
  exact done_ret [] (.tmp rfl .nil) ⟨rfl, rfl⟩ (by repeat (first | exact Split.nil | (apply Split.cons; (repeat (first | with_reducible exact Take.here | apply Take.there)))))
theorem oclone_blk (p g cap : Nat) (es : List OE) (ex : List Value) (hb : es.length ≤ 1048576) :
    Spec Try.prog 37 [.slice (some ⟨g, 0, none⟩) es.length cap] [blk g 98 (dents p es ++ ex)] (fun v L => (∃ A c, v = .slice A es.length c) ∧ L = [own 98 3 v es.length (dents p es), blk g 98 (dents p es ++ ex)]) := by
  refine Spec.of 8 Try.func37 rfl rfl rfl ?_
  refine swp_seq ?_
  refine swp_region ?_
  refine s_pu (pu_assign rfl) ?_
  refine swl_sub _ (.cons (t := 0) rfl .nil) ?_
  refine swl_nil ?_
  refine then_n ?_
  refine swp_seq ?_
  refine swp_seq ?_
  refine swp_region ?_
  refine s_pu (pu_move rfl) ?_
  refine s_pu (pu_sl_eq_nil rfl rfl) ?_
  refine swl_sub _ (.cons (t := 0) rfl (.cons (t := 4) rfl .nil)) ?_
  refine swl_nil ?_
  refine then_n ?_
  refine swp_cond (b := _) rfl (fun h4 => by cases h4) (fun h4 => ?_)
  refine swp_skip ?_
  refine then_n ?_
  refine swp_seq ?_
  refine swp_region ?_
  refine s_ef (ef_bldS (qs := []) rfl rfl rfl) ?_
  intro b5
  refine s_pu (pu_move rfl) ?_
  refine swl_ent (own_close (n := 3) (l := 0) (cap := 0) (xs := []) (ex := []) rfl rfl (Nat.le_refl _) (by simp [maxLen])) ?_
  refine s_ef (ef_append_of (news := dents p es) rfl rfl (by repeat (first | exact Split.nil | (apply Split.cons; (repeat (first | with_reducible exact Take.here | apply Take.there))))) (by rw [dents_len]) (fun j u hj => by rw [Nat.zero_add, List.getElem?_append_left (List.getElem?_eq_some_iff.1 hj).1]; exact hj) (dents_one p es) (by simp only [maxLen]; omega) (by omega)) ?_
  rintro v' -
  rw [Nat.zero_add, List.nil_append]
  refine swl_fact (fun m h => own_form h) fun hform => ?_
  refine s_pu (pu_assign rfl) ?_
  refine swl_sub _ (.cons (t := 2) rfl .nil) ?_
  refine swl_nil ?_
  refine then_n ?_
  refine swp_ret ?_
  exact done_ret [own 98 3 v' es.length (dents p es), blk g 98 (dents p es ++ ex)] (.tmp rfl .nil) ⟨hform, rfl⟩ (by repeat (first | exact Split.nil | (apply Split.cons; (repeat (first | with_reducible exact Take.here | apply Take.there)))))

theorem all_odd (q : Option Addr) : Spec Try.prog 22 [.pointer q] [] (fun v L => ∃ b, v = .func (.func 36) #[] #[.pointer (some ⟨b, 0, none⟩)] ∧ L = [blk b 54 [.pointer q]]) := by
  refine Spec.of 4 Try.func22 rfl rfl rfl ?_
  refine swp_seq ?_
  refine swp_region ?_
  refine s_ef (ef_box rfl rfl) ?_
  intro b1
  refine s_pu (pu_assign rfl) ?_
  refine swl_sub _ (.cons (t := 1) rfl .nil) ?_
  refine swl_nil ?_
  refine then_n ?_
  refine swp_seq ?_
  refine swp_region ?_
  refine s_pu (pu_func (vs := []) (us := [_]) rfl rfl) ?_
  refine s_pu (pu_assign rfl) ?_
  refine swl_sub _ (.cons (t := 2) rfl .nil) ?_
  refine swl_nil ?_
  refine then_n ?_
  refine swp_ret ?_
  exact done_ret _ (.tmp rfl .nil) ⟨_, rfl, rfl⟩ (by repeat (first | exact Split.nil | (apply Split.cons; (repeat (first | with_reducible exact Take.here | apply Take.there)))))

theorem onew_nil (p : Nat) : Spec Try.prog 20 [.slice none 0 0] [] (fun v L => ∃ q, v = .pointer (some ⟨q, 0, none⟩) ∧ L = [oraw p q [] 0]) := by
  refine Spec.of 19 Try.func20 rfl rfl rfl ?_
  refine swp_seq ?_
  refine swp_region ?_
  refine s_pu (pu_assign rfl) ?_
  refine swl_sub _ (.cons (t := 0) rfl .nil) ?_
  refine swl_nil ?_
  refine then_n ?_
  refine swp_seq ?_
  refine swp_region ?_
  refine s_pu (pu_bld (qs := []) rfl) ?_
  refine s_ef (ef_box rfl rfl) ?_
  intro b7
  refine s_pu (pu_assign rfl) ?_
  refine swl_sub _ (.cons (t := 0) rfl (.cons (t := 3) rfl .nil)) ?_
  refine swl_nil ?_
  refine then_n ?_
  refine swp_ent (dents_nil_open (p := p) (nxt := 0)) ?_
  refine swp_seq ?_
  refine swp_seq ?_
  refine swp_region ?_
  refine s_pu (pu_move rfl) ?_
  refine s_pu (pu_len rfl) ?_
  refine s_pu (pu_move rfl) ?_
  refine swl_sub _ (.cons (t := 3) rfl (.cons (t := 8) rfl (.cons (t := 9) rfl (.cons (t := 10) rfl .nil)))) ?_
  refine swl_nil ?_
  refine then_n ?_
  refine swp_block ?_
  refine swp_loop (ι := Unit) (fun _ env L => env = [(3, _), (8, _), (9, .int .i64 0), (10, .int .i64 0)] ∧ L = [oraw p _ [] 0]) (fun _ => 0) () ⟨rfl, rfl⟩ ?_
  rintro _ env L ⟨rfl, rfl⟩
  refine swp_seq ?_
  refine swp_region ?_
  refine s_pu (pu_lss rfl rfl) ?_
  refine swl_sub _ (.cons (t := 3) rfl (.cons (t := 8) rfl (.cons (t := 9) rfl (.cons (t := 10) rfl (.cons (t := 11) rfl .nil))))) ?_
  refine swl_nil ?_
  refine then_n ?_
  refine swp_seq ?_
  refine swp_cond (b := _) rfl (fun h11 => by cases h11) (fun h11 => ?_)
  refine swp_exit ?_
  refine then_x ?_
  refine then_x ?_
  refine block_hit rfl ?_
  refine then_n ?_
  refine swp_seq ?_
  refine swp_region ?_
  refine s_pu (pu_move rfl) ?_
  refine s_pu (pu_assign rfl) ?_
  refine swl_sub _ (.cons (t := 2) rfl .nil) ?_
  refine swl_nil ?_
  refine then_n ?_
  refine swp_ret ?_
  exact done_ret _ (.tmp rfl .nil) ⟨_, rfl, rfl⟩ (by repeat (first | exact Split.nil | (apply Split.cons; (repeat (first | with_reducible exact Take.here | apply Take.there)))))

def okept (p : Nat) (bv : Value) (μ : PH) (c : Nat) : Assn := star [blk p 53 [bv, .int .i64 (c : Nat)], ro μ]
def okept' (p : Nat) (bv : Value) (μ : PH) (c m : Nat) : Assn := exA (fun d : {d : Nat // c ≤ d ∧ d ≤ m} => [blk p 53 [bv, .int .i64 (d.1 : Nat)], ro μ])
theorem okept_close {p : Nat} {bv : Value} {μ : PH} {c d m : Nat} {L : List Assn} (h1 : c ≤ d) (h2 : d ≤ m) : Ent (blk p 53 [bv, .int .i64 (d : Nat)] :: ro μ :: L) (okept' p bv μ c m :: L) :=
  ent_ex (F := fun d : {d : Nat // c ≤ d ∧ d ≤ m} => [blk p 53 [bv, .int .i64 (d.1 : Nat)], ro μ]) ⟨d, h1, h2⟩ (by repeat (first | exact Split.nil | (apply Split.cons; (repeat (first | with_reducible exact Take.here | apply Take.there)))))

set_option maxHeartbeats 1000000 in
theorem all_iter_odd (μ : PH) (b p q nxt : Nat) (bv : Value) (bits : List Bool) (c0 : Nat) (es : List OE) (hb : Row μ bv 1 bits.length (bits.flatMap bcs)) (hb1 : es.length ≤ 1024) (hc : c0 ≤ 1073741824) :
    IterK Try.prog 36 [.pointer (some ⟨b, 0, none⟩)] (fun x : Int => [odV p x]) (fun pre _ => pre.length < es.length) (fun ys => ys.length = es.length) [blk b 54 [.pointer (some ⟨q, 0, none⟩)], oraw p q es nxt] (okept p bv μ c0) (okept' p bv μ c0 (c0 + 1073741824 + 1048576)) := by
  intro l I X R h0 hy
  refine Spec.of 35 Try.func36 rfl rfl rfl ?_
  refine swp_app ?_
  refine swp_seq ?_
  refine swp_seq ?_
  refine swp_region ?_
  refine s_rd (rd_load rfl rfl) ?_
  refine s_pu (pu_ptr_eq_nil rfl rfl) ?_
  refine swl_sub _ (.cons (t := 0) rfl (.cons (t := 1) rfl (.cons (t := 7) rfl .nil))) ?_
  refine swl_nil ?_
  refine then_n ?_
  refine swp_cond (b := _) rfl (fun h7 => by cases h7) (fun h7 => ?_)
  refine swp_skip ?_
  refine then_n ?_
  refine swp_front (A := okept p bv μ c0) (by repeat (first | with_reducible exact Take.here | apply Take.there)) ?_
  refine swp_ent star_ent ?_
  refine swp_app ?_
  refine swp_front (A := oraw p q es nxt) (by repeat (first | with_reducible exact Take.here | apply Take.there)) ?_
  refine swp_ex fun v => ?_
  refine swp_app ?_
  refine swp_cut (fun env L => ∃ c, env = [(0, yv l), (3, .pointer (some ⟨c, 0, none⟩))] ∧ Ent L [oraw p c es nxt, blk p 53 [bv, .int .i64 (c0 : Nat)], ro μ, I []]) ?_ ?_
  · refine swp_front (A := own 98 3 v es.length (dents p es)) (by repeat (first | with_reducible exact Take.here | apply Take.there)) ?_
    refine swp_own (fun hv l0 e0 => ?_) (fun g cap ex hv o1 o2 o3 o4 => ?_)
    all_goals subst v
    · have he : es = [] := List.eq_nil_of_length_eq_zero l0
      subst he
      refine swp_draw [0, 3, 5, 8] _ [] (by simp only [List.append_nil]; exact Ent.refl _) (by kernel_rfl) ?_
      refine d_rd 0 rfl (rd_load rfl rfl) rfl (by kernel_rfl) (by kernel_rfl) (by kernel_rfl) ?_
      first | refine d_pu 1 rfl (pu_nilCheck rfl) (by kernel_rfl) (by kernel_rfl) (by kernel_rfl) ?_ | refine d_pu 1 rfl (pu_nilCheck_fn rfl) (by kernel_rfl) (by kernel_rfl) (by kernel_rfl) ?_ | refine d_pu 1 rfl (pu_nilCheck_if rfl) (by kernel_rfl) (by kernel_rfl) (by kernel_rfl) ?_
      first | refine d_pu 2 rfl (pu_fieldAddr0 rfl) (by kernel_rfl) (by kernel_rfl) (by kernel_rfl) ?_ | refine d_pu 2 rfl (pu_fieldAddr rfl) (by kernel_rfl) (by kernel_rfl) (by kernel_rfl) ?_
      refine d_rd 3 rfl (rd_load rfl rfl) rfl (by kernel_rfl) (by kernel_rfl) (by kernel_rfl) ?_
      refine d_rd 5 rfl (rd_load rfl rfl) rfl (by kernel_rfl) (by kernel_rfl) (by kernel_rfl) ?_
      first | refine d_pu 6 rfl (pu_nilCheck rfl) (by kernel_rfl) (by kernel_rfl) (by kernel_rfl) ?_ | refine d_pu 6 rfl (pu_nilCheck_fn rfl) (by kernel_rfl) (by kernel_rfl) (by kernel_rfl) ?_ | refine d_pu 6 rfl (pu_nilCheck_if rfl) (by kernel_rfl) (by kernel_rfl) (by kernel_rfl) ?_
      first | refine d_pu 7 rfl (pu_fieldAddr0 rfl) (by kernel_rfl) (by kernel_rfl) (by kernel_rfl) ?_ | refine d_pu 7 rfl (pu_fieldAddr rfl) (by kernel_rfl) (by kernel_rfl) (by kernel_rfl) ?_
      refine d_rd 8 rfl (rd_load rfl rfl) rfl (by kernel_rfl) (by kernel_rfl) (by kernel_rfl) ?_
      refine d_eft 4 rfl (by kernel_rfl) (ef_fn oclone_nil rfl rfl (by repeat (first | exact Split.nil | (apply Split.cons; (repeat (first | with_reducible exact Take.here | apply Take.there)))))) ?_
      rintro v L1 ⟨rfl, rfl⟩
      refine ⟨[], ent_app (Split.ent (by repeat (first | exact Split.nil | (apply Split.cons; (repeat (first | with_reducible exact Take.here | apply Take.there)))))), ?_⟩
      refine d_pu 9 rfl (pu_bld (qs := [(0, _), (1, _)]) rfl) (by kernel_rfl) (by kernel_rfl) (by kernel_rfl) ?_
      first | refine d_fint 10 rfl (by kernel_rfl) (by kernel_rfl) (ef_box rfl rfl) ?_ | refine d_finf 10 rfl (by kernel_rfl) (by kernel_rfl) (ef_box rfl rfl) ?_
      intro b18
      refine d_pu 11 rfl (pu_assign rfl) (by kernel_rfl) (by kernel_rfl) (by kernel_rfl) ?_
      refine d_sub _ (.cons (t := 0) rfl (.cons (t := 3) rfl .nil)) ?_
      first | refine d_nilt (by kernel_rfl) ?_ | refine d_nilf (by kernel_rfl) ?_
      refine then_n ⟨_, rfl, ?_⟩
      refine (dents_nil_open (p := p)).trans (Ent.cons ?_)
      refine (Split.ent' (K := [blk p 53 [bv, .int .i64 (c0 : Nat)], ro μ, blk q 96 [.slice none 0 0, .int .u64 (nxt : Nat)], blk b 54 [.pointer (some ⟨q, 0, none⟩)], R]) (by repeat (first | exact Split.nil | (apply Split.cons; (repeat (first | with_reducible exact Take.here | apply Take.there)))))).trans ?_
      refine Ent.cons (Ent.cons ?_)
      exact (dents_nil_open (p := p)).trans (Ent.swap.trans h0)
    · skip
      refine swp_draw [0, 3, 5, 8] _ [] (by simp only [List.append_nil]; exact Ent.refl _) (by kernel_rfl) ?_
      refine d_rd 0 rfl (rd_load rfl rfl) rfl (by kernel_rfl) (by kernel_rfl) (by kernel_rfl) ?_
      first | refine d_pu 1 rfl (pu_nilCheck rfl) (by kernel_rfl) (by kernel_rfl) (by kernel_rfl) ?_ | refine d_pu 1 rfl (pu_nilCheck_fn rfl) (by kernel_rfl) (by kernel_rfl) (by kernel_rfl) ?_ | refine d_pu 1 rfl (pu_nilCheck_if rfl) (by kernel_rfl) (by kernel_rfl) (by kernel_rfl) ?_
      first | refine d_pu 2 rfl (pu_fieldAddr0 rfl) (by kernel_rfl) (by kernel_rfl) (by kernel_rfl) ?_ | refine d_pu 2 rfl (pu_fieldAddr rfl) (by kernel_rfl) (by kernel_rfl) (by kernel_rfl) ?_
      refine d_rd 3 rfl (rd_load rfl rfl) rfl (by kernel_rfl) (by kernel_rfl) (by kernel_rfl) ?_
      refine d_rd 5 rfl (rd_load rfl rfl) rfl (by kernel_rfl) (by kernel_rfl) (by kernel_rfl) ?_
      first | refine d_pu 6 rfl (pu_nilCheck rfl) (by kernel_rfl) (by kernel_rfl) (by kernel_rfl) ?_ | refine d_pu 6 rfl (pu_nilCheck_fn rfl) (by kernel_rfl) (by kernel_rfl) (by kernel_rfl) ?_ | refine d_pu 6 rfl (pu_nilCheck_if rfl) (by kernel_rfl) (by kernel_rfl) (by kernel_rfl) ?_
      first | refine d_pu 7 rfl (pu_fieldAddr0 rfl) (by kernel_rfl) (by kernel_rfl) (by kernel_rfl) ?_ | refine d_pu 7 rfl (pu_fieldAddr rfl) (by kernel_rfl) (by kernel_rfl) (by kernel_rfl) ?_
      refine d_rd 8 rfl (rd_load rfl rfl) rfl (by kernel_rfl) (by kernel_rfl) (by kernel_rfl) ?_
      refine d_eft 4 rfl (by kernel_rfl) (ef_fn (oclone_blk p _ _ _ _ (by omega)) rfl rfl (by repeat (first | exact Split.nil | (apply Split.cons; (repeat (first | with_reducible exact Take.here | apply Take.there)))))) ?_
      rintro v L1 ⟨⟨A, c, rfl⟩, rfl⟩
      refine ⟨[_], ent_app (Split.ent (by repeat (first | exact Split.nil | (apply Split.cons; (repeat (first | with_reducible exact Take.here | apply Take.there)))))), ?_⟩
      refine d_pu 9 rfl (pu_bld (qs := [(0, _), (1, _)]) rfl) (by kernel_rfl) (by kernel_rfl) (by kernel_rfl) ?_
      first | refine d_fint 10 rfl (by kernel_rfl) (by kernel_rfl) (ef_box rfl rfl) ?_ | refine d_finf 10 rfl (by kernel_rfl) (by kernel_rfl) (ef_box rfl rfl) ?_
      intro b18
      refine d_pu 11 rfl (pu_assign rfl) (by kernel_rfl) (by kernel_rfl) (by kernel_rfl) ?_
      refine d_sub _ (.cons (t := 0) rfl (.cons (t := 3) rfl .nil)) ?_
      first | refine d_nilt (by kernel_rfl) ?_ | refine d_nilf (by kernel_rfl) ?_
      refine then_n ⟨_, rfl, ?_⟩
      refine (Split.ent' (K := [blk b18 96 [.slice A es.length c, .int .u64 (nxt : Nat)], own 98 3 (.slice A es.length c) es.length (dents p es), blk p 53 [bv, .int .i64 (c0 : Nat)], ro μ, blk g 98 (dents p es ++ ex), blk q 96 [.slice (some ⟨g, 0, none⟩) es.length cap, .int .u64 (nxt : Nat)], blk b 54 [.pointer (some ⟨q, 0, none⟩)], R]) (by repeat (first | exact Split.nil | (apply Split.cons; (repeat (first | with_reducible exact Take.here | apply Take.there)))))).trans ?_
      refine (ent_ex (F := fun v => [blk b18 96 [v, .int .u64 (nxt : Nat)], own 98 3 v es.length (dents p es)]) (.slice A es.length c) (by repeat (first | exact Split.nil | (apply Split.cons; (repeat (first | with_reducible exact Take.here | apply Take.there)))))).trans ?_
      refine Ent.cons (Ent.cons (Ent.cons ?_))
      exact (oraw_close o1 o2 o4).trans (Ent.swap.trans h0)
  rintro env L ⟨c, rfl, hE⟩
  refine swp_ent hE ?_
  refine swp_cut (fun env L => ∃ (r : Option Int) (gs : List OE) (d b4 : Nat), PopR es r gs ∧ c0 ≤ d ∧ d ≤ c0 + 1048576 ∧ env = [(0, yv l), (3, .pointer (some ⟨c, 0, none⟩)), (4, .pointer (some ⟨b4, 0, none⟩)), (5, .bool r.isSome)] ∧ L = [blk b4 57 (hcs p r), oraw p c gs nxt, blk p 53 [bv, .int .i64 (d : Nat)], ro μ, I []]) ?_ ?_
  · refine swp_region ?_
    refine s_pu (pu_move rfl) ?_
    refine s_ef (ef_fn (pop_odd μ p c bv bits c0 es nxt hb (by omega) (by omega)) rfl rfl (by repeat (first | exact Split.nil | (apply Split.cons; (repeat (first | with_reducible exact Take.here | apply Take.there)))))) ?_
    rintro v L1 ⟨r, gs, d, rfl, hp, h1, h2, rfl⟩
    refine swl_app ?_
    cases r with
    | none =>
      refine s_pu (pu_move rfl) ?_
      refine s_pu (pu_extract rfl rfl) ?_
      refine s_pu (pu_extract rfl rfl) ?_
      refine s_ef (ef_alloc) ?_
      intro b4
      refine s_ef0 (ef_storeA (vs := [.int .i64 0, .pointer none]) rfl rfl rfl rfl) ?_
      refine s_pu (pu_assign rfl) ?_
      refine swl_sub _ (.cons (t := 0) rfl (.cons (t := 3) rfl (.cons (t := 4) rfl (.cons (t := 5) rfl .nil)))) ?_
      refine swl_nil ?_
      exact then_n ⟨none, gs, d, _, hp, h1, by omega, rfl, rfl⟩
    | some x =>
      refine s_pu (pu_move rfl) ?_
      refine s_pu (pu_extract rfl rfl) ?_
      refine s_pu (pu_extract rfl rfl) ?_
      refine s_ef (ef_alloc) ?_
      intro b4
      refine s_ef0 (ef_storeA (vs := [.int .i64 x, .pointer (some ⟨p, 0, none⟩)]) rfl rfl rfl rfl) ?_
      refine s_pu (pu_assign rfl) ?_
      refine swl_sub _ (.cons (t := 0) rfl (.cons (t := 3) rfl (.cons (t := 4) rfl (.cons (t := 5) rfl .nil)))) ?_
      refine swl_nil ?_
      exact then_n ⟨some x, gs, d, _, hp, h1, by omega, rfl, rfl⟩
  rintro env L ⟨r0, gs0, d0, b4, hp0, hd1, hd2, rfl, rfl⟩
  refine swp_block ?_
  have hlen0 : gs0.length + (bif r0.isSome then 1 else 0) = es.length := by
    rcases hp0 with ⟨rfl, rfl, rfl⟩ | ⟨e, us, rfl, rfl, hp⟩
    · rfl
    · simp [hp.length_eq]
  refine swp_loop (ι := Option Int × List OE) (fun U env L => ∃ (pre : List Int) (b4 d : Nat), pre.length + U.2.length + (bif U.1.isSome then 1 else 0) = es.length ∧ (U.1 = none → U.2 = []) ∧ c0 ≤ d ∧ d ≤ c0 + 1048576 + pre.length * 1048576 ∧ env = [(0, yv l), (3, .pointer (some ⟨c, 0, none⟩)), (4, .pointer (some ⟨b4, 0, none⟩)), (5, .bool U.1.isSome)] ∧ L = [blk b4 57 (hcs p U.1), oraw p c U.2 nxt, blk p 53 [bv, .int .i64 (d : Nat)], ro μ, I pre]) (fun U => U.2.length + (bif U.1.isSome then 1 else 0)) (r0, gs0) ⟨[], b4, d0, by simpa using hlen0, (fun h => by
    rcases hp0 with ⟨_, _, h3⟩ | ⟨e, us, _, h2, _⟩
    · exact h3
    · simp only at h; rw [h] at h2; cases h2), hd1, by simpa using hd2, rfl, rfl⟩ ?_
  rintro ⟨r, gs⟩ env L ⟨pre, b4, d, hlen, hnone, hd1, hd2, rfl, rfl⟩
  simp only at hlen hnone
  dsimp only
  refine swp_seq ?_
  refine swp_seq ?_
  refine swp_region ?_
  refine s_pu (pu_move rfl) ?_
  refine swl_sub _ (.cons (t := 0) rfl (.cons (t := 3) rfl (.cons (t := 4) rfl (.cons (t := 24) rfl .nil)))) ?_
  refine swl_nil ?_
  refine then_n ?_
  cases r with
  | none =>
    refine swp_cond (b := _) rfl (fun h => by cases h) (fun h24 => ?_)
    refine swp_exit ?_
    refine then_x ?_
    refine then_x ?_
    refine block_hit rfl ?_
    have hgs := hnone rfl
    subst hgs
    have hpl : pre.length = es.length := by simpa using hlen
    have hmul : pre.length * 1048576 ≤ 1024 * 1048576 := Nat.mul_le_mul_right _ (by omega)
    exact done_endE [I pre, okept' p bv μ c0 (c0 + 1073741824 + 1048576)] .nil (.inl ⟨pre, hpl, rfl⟩) ((Split.ent' (K := [blk p 53 [bv, .int .i64 (d : Nat)], ro μ, I pre]) (by repeat (first | exact Split.nil | (apply Split.cons; (repeat (first | with_reducible exact Take.here | apply Take.there)))))).trans ((okept_close hd1 (by omega)).trans Ent.swap))
  | some x =>
    refine swp_cond (b := _) rfl (fun h24 => ?_) (fun h => by cases h)
    have hlt : pre.length < es.length := by simp at hlen; omega
    have hmul : pre.length * 1048576 ≤ 1024 * 1048576 := Nat.mul_le_mul_right _ (by omega)
    refine swp_skip ?_
    refine then_n ?_
    refine swp_seq ?_
    refine swp_block ?_
    refine swp_seq ?_
    refine swp_region ?_
    refine swl_ent (Ent.refl [blk b4 57 [.int .i64 x, .pointer (some ⟨p, 0, none⟩)], oraw p c gs nxt, blk p 53 [bv, .int .i64 (d : Nat)], ro μ, I pre]) ?_
    refine s_pu (pu_move rfl) ?_
    first | refine s_rd (rd_loadW rfl rfl) ?_ | refine s_rd (rd_loadX rfl rfl rfl) ?_
    refine s_ef (ef_yield (hy pre x hlt) rfl rfl (by repeat (first | exact Split.nil | (apply Split.cons; (repeat (first | with_reducible exact Take.here | apply Take.there)))))) ?_
    rintro v L1 (⟨rfl, rfl⟩ | ⟨rfl, rfl⟩)
    · refine swl_app ?_
      refine s_pu (pu_not rfl) ?_
      refine swl_sub _ (.cons (t := 0) rfl (.cons (t := 3) rfl (.cons (t := 4) rfl (.cons (t := 33) rfl .nil)))) ?_
      refine swl_nil ?_
      refine then_n ?_
      refine swp_cond (b := _) rfl (fun h => by cases h) (fun h33 => ?_)
      refine swp_skip ?_
      refine block_n ?_
      refine then_n ?_
      refine swp_seq ?_
      refine swp_seq ?_
      refine swp_region ?_
      first | refine s_rd (rd_loadW rfl rfl) ?_ | refine s_rd (rd_loadX rfl rfl rfl) ?_
      refine swl_sub _ (.cons (t := 0) rfl (.cons (t := 3) rfl (.cons (t := 34) rfl .nil))) ?_
      refine swl_nil ?_
      refine then_n ?_
      refine swp_region ?_
      refine s_ef (ef_alloc) ?_
      intro b4
      refine s_ef0 (ef_storeA rfl rfl rfl rfl) ?_
      refine swl_sub _ (.cons (t := 0) rfl (.cons (t := 3) rfl (.cons (t := 4) rfl .nil))) ?_
      refine swl_nil ?_
      refine then_n ?_
      refine swp_region ?_
      refine s_pu (pu_move rfl) ?_
      refine s_ef (ef_fn (pop_odd μ p c bv bits d gs nxt hb (by omega) (by omega)) rfl rfl (by repeat (first | exact Split.nil | (apply Split.cons; (repeat (first | with_reducible exact Take.here | apply Take.there)))))) ?_
      rintro v L1 ⟨r, gs', d', rfl, hp, h1, h2, rfl⟩
      refine swl_app ?_
      have hlen1 : gs'.length + (bif r.isSome then 1 else 0) = gs.length := by
        rcases hp with ⟨rfl, rfl, rfl⟩ | ⟨e, us, rfl, rfl, hp⟩
        · rfl
        · simp [hp.length_eq]
      have hn1 : r = none → gs' = [] := fun h => by
        rcases hp with ⟨_, _, h3⟩ | ⟨e, us, _, h2, _⟩
        · exact h3
        · rw [h] at h2; cases h2
      cases r with
      | none =>
        refine s_pu (pu_move rfl) ?_
        refine s_pu (pu_extract rfl rfl) ?_
        refine s_pu (pu_extract rfl rfl) ?_
        refine s_ef0 (ef_storeA (vs := [.int .i64 0, .pointer none]) rfl rfl rfl rfl) ?_
        refine s_pu (pu_assign rfl) ?_
        refine swl_sub _ (.cons (t := 0) rfl (.cons (t := 3) rfl (.cons (t := 4) rfl (.cons (t := 5) rfl .nil)))) ?_
        refine swl_ent (Split.ent' (K := [blk b4 57 [.int .i64 0, .pointer none], oraw p c gs' nxt, blk p 53 [bv, .int .i64 (d' : Nat)], ro μ, I (pre ++ [x])]) (by repeat (first | exact Split.nil | (apply Split.cons; (repeat (first | with_reducible exact Take.here | apply Take.there)))))) ?_
        refine swl_nil ?_
        exact then_n ⟨(none, gs'), ⟨pre ++ [x], _, d', by simp at hlen hlen1 ⊢; omega, hn1, by omega, by simp; omega, rfl, rfl⟩, by simp at hlen1 ⊢; omega⟩
      | some y =>
        refine s_pu (pu_move rfl) ?_
        refine s_pu (pu_extract rfl rfl) ?_
        refine s_pu (pu_extract rfl rfl) ?_
        refine s_ef0 (ef_storeA (vs := [.int .i64 y, .pointer (some ⟨p, 0, none⟩)]) rfl rfl rfl rfl) ?_
        refine s_pu (pu_assign rfl) ?_
        refine swl_sub _ (.cons (t := 0) rfl (.cons (t := 3) rfl (.cons (t := 4) rfl (.cons (t := 5) rfl .nil)))) ?_
        refine swl_ent (Split.ent' (K := [blk b4 57 [.int .i64 y, .pointer (some ⟨p, 0, none⟩)], oraw p c gs' nxt, blk p 53 [bv, .int .i64 (d' : Nat)], ro μ, I (pre ++ [x])]) (by repeat (first | exact Split.nil | (apply Split.cons; (repeat (first | with_reducible exact Take.here | apply Take.there)))))) ?_
        refine swl_nil ?_
        exact then_n ⟨(some y, gs'), ⟨pre ++ [x], _, d', by simp at hlen hlen1 ⊢; omega, hn1, by omega, by simp; omega, rfl, rfl⟩, by simp at hlen1 ⊢; omega⟩
    · refine swl_app ?_
      refine s_pu (pu_not rfl) ?_
      refine swl_sub _ (.cons (t := 0) rfl (.cons (t := 3) rfl (.cons (t := 4) rfl (.cons (t := 33) rfl .nil)))) ?_
      refine swl_nil ?_
      refine then_n ?_
      refine swp_cond (b := _) rfl (fun h33 => ?_) (fun h => by cases h)
      refine swp_ret ?_
      refine block_r ?_
      refine then_r ?_
      refine then_r ?_
      refine block_r ?_
      exact done_retE [X, okept' p bv μ c0 (c0 + 1073741824 + 1048576)] .nil (.inr rfl) ((Split.ent' (K := [blk p 53 [bv, .int .i64 (d : Nat)], ro μ, X]) (by repeat (first | exact Split.nil | (apply Split.cons; (repeat (first | with_reducible exact Take.here | apply Take.there)))))).trans ((okept_close hd1 (by omega)).trans Ent.swap))
end SX
