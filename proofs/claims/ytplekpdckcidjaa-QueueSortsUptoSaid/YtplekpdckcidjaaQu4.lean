/- A part of the proof: walks of the seat's functions, by the rules of the texts that it imports. -/
import Derived.Test.YtplekpdckcidjaaQu3
namespace SX
open Go Go.Proofs

theorem qraw_close {q g cap nxt : Nat} {es : List (Th × Nat)} {ex : List Value} {L : List Assn} (h1 : es.length ≤ cap) (h2 : cap ≤ maxLen) (h4 : ex.length = (cap - es.length) * 3) :
    Ent (blk g 78 (ents es ++ ex) :: blk q 69 [.slice (some ⟨g, 0, none⟩) es.length cap, .int .u64 (nxt : Nat)] :: L) (qraw q es nxt :: L) :=
  (own_close (by unfold ents; rw [flat_length ecs_len]) h4 h1 h2).trans (ent_ex (F := fun v => [blk q 69 [v, .int .u64 (nxt : Nat)], own 78 3 v es.length (ents es)]) (.slice (some ⟨g, 0, none⟩) es.length cap) (by repeat (first | exact Split.nil | (apply Split.cons; (repeat (first | with_reducible exact Take.here | apply Take.there))))))
theorem len_raw (q : Nat) (es : List (Th × Nat)) (nxt : Nat) : Spec Try.prog 15 [.pointer (some ⟨q, 0, none⟩)] [qraw q es nxt] (fun v L => v = .int .i64 es.length ∧ L = [qraw q es nxt]) := by
  refine Spec.of 10 Try.func15 rfl rfl rfl ?_
  refine swp_ex fun v => ?_
  refine swp_app ?_
  refine swp_front (.there .here) ?_
  refine swp_own (fun h h0 h1 => ?_) (fun hb cap ex hv o1 o2 o3 o4 => ?_)
  all_goals
    subst v
    refine swp_seq ?_
    refine swp_region ?_
    refine s_pu (pu_assign rfl) ?_
    refine swl_sub _ (.cons (t := 0) rfl .nil) ?_
    refine swl_nil ?_
    refine then_n ?_
    refine swp_seq ?_
    refine swp_seq ?_
    refine swp_region ?_
    refine s_pu (pu_move rfl) ?_
    refine s_pu (pu_ptr_eq_nil rfl rfl) ?_
    refine swl_sub _ (.cons (t := 0) rfl (.cons (t := 4) rfl .nil)) ?_
    refine swl_nil ?_
    refine then_n ?_
    refine swp_cond (b := _) rfl (fun h4 => by cases h4) (fun h4 => ?_)
    refine swp_skip ?_
    refine then_n ?_
    refine swp_seq ?_
    refine swp_region ?_
    refine s_pu (pu_move rfl) ?_
    first | refine s_pu (pu_nilCheck rfl) ?_ | refine s_pu (pu_nilCheck_fn rfl) ?_ | refine s_pu (pu_nilCheck_if rfl) ?_
    first | refine s_pu (pu_fieldAddr0 rfl) ?_ | refine s_pu (pu_fieldAddr rfl) ?_
    refine s_rd (rd_load rfl rfl) ?_
    refine s_pu (pu_len rfl) ?_
    refine s_pu (pu_assign rfl) ?_
    refine swl_sub _ (.cons (t := 2) rfl .nil) ?_
    refine swl_nil ?_
    refine then_n ?_
    refine swp_ret ?_
  · have he : es = [] := List.eq_nil_of_length_eq_zero h0
    subst he
    exact done_retE [qraw q [] nxt] (.tmp rfl .nil) ⟨rfl, rfl⟩ (fun m hm => by
      obtain ⟨m1, m2, a1, a2, a3, a4, a5⟩ := hm
      exact ⟨m1, m2, ⟨.slice none 0 0, m1, fun _ => none, a1, ⟨fun _ => none, fun _ => none, own_nil _ _ _, trivial, by simp, by simp, by simp⟩, by simp, fun _ _ h => h, by simp⟩, trivial, a3, a4, a5⟩)
  · exact done_retE [qraw q es nxt] (.tmp rfl .nil) ⟨rfl, rfl⟩ (qraw_close o1 o2 o4)
theorem len_nil : Spec Try.prog 15 [.pointer none] [] (fun v L => v = .int .i64 0 ∧ L = []) := by
  refine Spec.of 10 Try.func15 rfl rfl rfl ?_
  refine swp_seq ?_
  refine swp_region ?_
  refine s_pu (pu_assign rfl) ?_
  refine swl_sub _ (.cons (t := 0) rfl .nil) ?_
  refine swl_nil ?_
  refine then_n ?_
  refine swp_seq ?_
  refine swp_seq ?_
  refine swp_region ?_
  refine s_pu (pu_move rfl) ?_
  refine s_pu (pu_ptr_eq_nil rfl rfl) ?_
  refine swl_sub _ (.cons (t := 0) rfl (.cons (t := 4) rfl .nil)) ?_
  refine swl_nil ?_
  refine then_n ?_
  refine swp_cond (b := _) rfl (fun h4 => ?_) (fun h4 => by cases h4)
  refine swp_seq ?_
  refine swp_region ?_
  refine s_pu (pu_assign rfl) ?_
  refine swl_sub _ (.cons (t := 2) rfl .nil) ?_
  refine swl_nil ?_
  refine then_n ?_
  refine swp_ret ?_
  refine then_r ?_
  exact done_ret [] (.tmp rfl .nil) ⟨rfl, rfl⟩ (by repeat (first | exact Split.nil | (apply Split.cons; (repeat (first | with_reducible exact Take.here | apply Take.there)))))

def peekV : List (Th × Nat) → Value
  | [] => .tuple #[thV (0, 0), .bool false]
  | e :: _ => .tuple #[thV e.1, .bool true]

theorem peek_raw0 (q nxt : Nat) : Spec Try.prog 26 [.pointer (some ⟨q, 0, none⟩)] [qraw q [] nxt] (fun v L => v = .tuple #[thV (0, 0), .bool false] ∧ L = [qraw q [] nxt]) := by
  refine Spec.of 16 Try.func26 rfl rfl rfl ?_
  refine swp_seq ?_
  refine swp_region ?_
  refine s_ef (ef_alloc) ?_
  intro b2
  refine s_pu (pu_assign rfl) ?_
  refine swl_sub _ (.cons (t := 0) rfl (.cons (t := 2) rfl .nil)) ?_
  refine swl_nil ?_
  refine then_n ?_
  refine swp_seq ?_
  refine swp_seq ?_
  refine swp_region ?_
  refine s_pu (pu_move rfl) ?_
  refine s_ef (ef_fn (len_raw q [] nxt) rfl rfl (by repeat (first | exact Split.nil | (apply Split.cons; (repeat (first | with_reducible exact Take.here | apply Take.there)))))) ?_
  rintro v L1 ⟨rfl, rfl⟩
  refine swl_app ?_
  refine s_pu (pu_eql rfl rfl) ?_
  refine swl_sub _ (.cons (t := 0) rfl (.cons (t := 2) rfl (.cons (t := 7) rfl .nil))) ?_
  refine swl_nil ?_
  refine then_n ?_
  refine swp_cond (b := _) rfl (fun h7 => ?_) (fun h7 => by simp at h7)
  refine swp_seq ?_
  refine swp_region ?_
  refine s_ef (ef_alloc) ?_
  intro b4
  refine swl_sub _ (.cons (t := 2) rfl (.cons (t := 4) rfl .nil)) ?_
  refine swl_nil ?_
  refine then_n ?_
  refine swp_seq ?_
  refine swp_region ?_
  first | refine s_rd (rd_loadW rfl rfl) ?_ | refine s_rd (rd_loadX rfl rfl rfl) ?_
  refine s_ef0 (ef_storeA rfl rfl rfl rfl) ?_
  refine s_pu (pu_assign rfl) ?_
  refine swl_sub _ (.cons (t := 2) rfl (.cons (t := 3) rfl .nil)) ?_
  refine swl_nil ?_
  refine then_n ?_
  refine swp_ret ?_
  refine then_r ?_
  exact done_ret [qraw q [] nxt] (.cell rfl (ld_whole rfl) (.tmp rfl .nil)) ⟨rfl, rfl⟩ (by repeat (first | exact Split.nil | (apply Split.cons; (repeat (first | with_reducible exact Take.here | apply Take.there)))))
theorem peek_raw (q nxt : Nat) (e : Th × Nat) (es : List (Th × Nat)) : Spec Try.prog 26 [.pointer (some ⟨q, 0, none⟩)] [qraw q (e :: es) nxt] (fun v L => v = .tuple #[thV e.1, .bool true] ∧ L = [qraw q (e :: es) nxt]) := by
  refine Spec.of 16 Try.func26 rfl rfl rfl ?_
  refine swp_seq ?_
  refine swp_region ?_
  refine s_ef (ef_alloc) ?_
  intro b2
  refine s_pu (pu_assign rfl) ?_
  refine swl_sub _ (.cons (t := 0) rfl (.cons (t := 2) rfl .nil)) ?_
  refine swl_nil ?_
  refine then_n ?_
  refine swp_seq ?_
  refine swp_seq ?_
  refine swp_region ?_
  refine s_pu (pu_move rfl) ?_
  refine s_ef (ef_fn (len_raw q (e :: es) nxt) rfl rfl (by repeat (first | exact Split.nil | (apply Split.cons; (repeat (first | with_reducible exact Take.here | apply Take.there)))))) ?_
  rintro v L1 ⟨rfl, rfl⟩
  refine swl_app ?_
  refine s_pu (pu_eql rfl rfl) ?_
  refine swl_sub _ (.cons (t := 0) rfl (.cons (t := 2) rfl (.cons (t := 7) rfl .nil))) ?_
  refine swl_nil ?_
  refine then_n ?_
  refine swp_cond (b := _) rfl (fun h7 => by simp at h7; omega) (fun h7 => ?_)
  refine swp_skip ?_
  refine then_n ?_
  refine swp_ex fun v => ?_
  refine swp_app ?_
  refine swp_front (.there .here) ?_
  refine swp_own (fun h h0 h1 => by simp at h0) (fun g cap ex hv o1 o2 o3 o4 => ?_)
  subst v
  refine swp_seq ?_
  refine swp_region ?_
  refine s_pu (pu_move rfl) ?_
  first | refine s_pu (pu_nilCheck rfl) ?_ | refine s_pu (pu_nilCheck_fn rfl) ?_ | refine s_pu (pu_nilCheck_if rfl) ?_
  first | refine s_pu (pu_fieldAddr0 rfl) ?_ | refine s_pu (pu_fieldAddr rfl) ?_
  refine s_rd (rd_load rfl rfl) ?_
  refine s_pu (pu_indexAddr 0 rfl rfl (by omega) (by simp) rfl) ?_
  first | refine s_pu (pu_fieldAddr0 rfl) ?_ | refine s_pu (pu_fieldAddr rfl) ?_
  refine s_rd (rd_loadA (vs := [.int .i64 e.1.1, .int .i64 e.1.2]) rfl (by rfl) (flat_sub ecs_len (e :: es) ex 0 e rfl [] [.int .i64 e.1.1, .int .i64 e.1.2] [.int .u64 (e.2 : Nat)] rfl)) ?_
  refine s_ef0 (ef_storeA rfl rfl rfl rfl) ?_
  refine s_pu (pu_assign rfl) ?_
  refine swl_sub _ (.cons (t := 2) rfl (.cons (t := 3) rfl .nil)) ?_
  refine swl_nil ?_
  refine then_n ?_
  refine swp_ret ?_
  exact done_retE [qraw q (e :: es) nxt] (.cell rfl (ld_whole rfl) (.tmp rfl .nil)) ⟨rfl, rfl⟩ ((Ent.perm (Split.perm (K := [blk g 78 (ents (e :: es) ++ ex), _]) (by repeat (first | exact Split.nil | (apply Split.cons; (repeat (first | with_reducible exact Take.here | apply Take.there))))))).trans ((qraw_close o1 o2 o4).trans Ent.one))
end SX
