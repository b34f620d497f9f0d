/- A part of the proof: walks of the seat's functions, by the rules of the texts that it imports. -/
import Derived.Test.YtplekpdckcidjaaQuW2
namespace SX.Wd
open Go Go.Proofs SX

theorem wraw_fold {q nxt : Nat} {v : Value} {es : List (WI × Nat)} {L : List Assn} : Ent (blk q 82 [v, .int .u64 (nxt : Nat)] :: own 84 2 v es.length (wents es) :: L) (wraw q es nxt :: L) :=
  ent_ex (F := fun v => [blk q 82 [v, .int .u64 (nxt : Nat)], own 84 2 v es.length (wents es)]) v (by repeat (first | exact Split.nil | (apply Split.cons; (repeat (first | with_reducible exact Take.here | apply Take.there)))))
theorem len_w (q : Nat) (es : List (WI × Nat)) (nxt : Nat) : Spec Try.prog 14 [.pointer (some ⟨q, 0, none⟩)] [wraw q es nxt] (fun v L => v = .int .i64 es.length ∧ L = [wraw q es nxt]) := by
  refine Spec.of 10 Try.func14 rfl rfl rfl ?_
  refine swp_ex fun v => ?_
  refine swp_app ?_
  refine swp_front (A := own 84 2 v es.length (wents es)) (by repeat (first | with_reducible exact Take.here | apply Take.there)) ?_
  refine swp_fact (fun m h => own_form h) fun ⟨A, cap, hv⟩ => ?_
  subst hv
  refine swp_seq ?_
  refine swp_region ?_
  refine s_pu (pu_assign rfl) ?_
  refine swl_sub _ (.cons (t := 0) rfl .nil) ?_
  refine swl_nil ?_
  refine then_n ?_
  refine swp_seq ?_
  refine swp_seq ?_
  refine swp_region ?_
  refine s_pu (pu_move rfl) ?_
  refine s_pu (pu_ptr_eq_nil rfl rfl) ?_
  refine swl_sub _ (.cons (t := 0) rfl (.cons (t := 4) rfl .nil)) ?_
  refine swl_nil ?_
  refine then_n ?_
  refine swp_cond (b := _) rfl (fun h4 => by cases h4) (fun h4 => ?_)
  refine swp_skip ?_
  refine then_n ?_
  refine swp_seq ?_
  refine swp_region ?_
  refine s_pu (pu_move rfl) ?_
  first | refine s_pu (pu_nilCheck rfl) ?_ | refine s_pu (pu_nilCheck_fn rfl) ?_ | refine s_pu (pu_nilCheck_if rfl) ?_
  first | refine s_pu (pu_fieldAddr0 rfl) ?_ | refine s_pu (pu_fieldAddr rfl) ?_
  refine s_rd (rd_load rfl rfl) ?_
  refine s_pu (pu_len rfl) ?_
  refine s_pu (pu_assign rfl) ?_
  refine swl_sub _ (.cons (t := 2) rfl .nil) ?_
  refine swl_nil ?_
  refine then_n ?_
  refine swp_ret ?_
  exact done_retE [wraw q es nxt] (.tmp rfl .nil) ⟨rfl, rfl⟩ ((Split.ent' (K := [blk q 82 [.slice A es.length cap, .int .u64 (nxt : Nat)], own 84 2 (.slice A es.length cap) es.length (wents es)]) (by repeat (first | exact Split.nil | (apply Split.cons; (repeat (first | with_reducible exact Take.here | apply Take.there)))))).trans wraw_fold)
theorem peek_w0 (q nxt : Nat) : Spec Try.prog 41 [.pointer (some ⟨q, 0, none⟩)] [wraw q [] nxt] (fun v L => v = .tuple #[wiV wiZ, .bool false] ∧ L = [wraw q [] nxt]) := by
  refine Spec.of 16 Try.func41 rfl rfl rfl ?_
  refine swp_seq ?_
  refine swp_region ?_
  refine s_pu (pu_assign rfl) ?_
  refine s_pu (pu_assign rfl) ?_
  refine swl_sub _ (.cons (t := 0) rfl .nil) ?_
  refine swl_nil ?_
  refine then_n ?_
  refine swp_seq ?_
  refine swp_seq ?_
  refine swp_region ?_
  refine s_pu (pu_move rfl) ?_
  refine s_ef (ef_fn (len_w q [] nxt) rfl rfl (by repeat (first | exact Split.nil | (apply Split.cons; (repeat (first | with_reducible exact Take.here | apply Take.there)))))) ?_
  rintro v L1 ⟨rfl, rfl⟩
  refine swl_app ?_
  refine s_pu (pu_eql rfl rfl) ?_
  refine swl_sub _ (.cons (t := 0) rfl (.cons (t := 7) rfl .nil)) ?_
  refine swl_nil ?_
  refine then_n ?_
  refine swp_cond (b := _) rfl (fun h7 => ?_) (fun h7 => by simp at h7)
  refine swp_seq ?_
  refine swp_region ?_
  refine s_pu (pu_assign rfl) ?_
  refine swl_sub _ (.cons (t := 4) rfl .nil) ?_
  refine swl_nil ?_
  refine then_n ?_
  refine swp_seq ?_
  refine swp_region ?_
  refine s_pu (pu_move rfl) ?_
  refine s_pu (pu_assign rfl) ?_
  refine s_pu (pu_assign rfl) ?_
  refine swl_sub _ (.cons (t := 2) rfl (.cons (t := 3) rfl .nil)) ?_
  refine swl_nil ?_
  refine then_n ?_
  refine swp_ret ?_
  refine then_r ?_
  exact done_ret [wraw q [] nxt] (.tmp rfl (.tmp rfl .nil)) ⟨rfl, rfl⟩ (by repeat (first | exact Split.nil | (apply Split.cons; (repeat (first | with_reducible exact Take.here | apply Take.there)))))
theorem peek_w (q nxt : Nat) (e : WI × Nat) (es : List (WI × Nat)) : Spec Try.prog 41 [.pointer (some ⟨q, 0, none⟩)] [wraw q (e :: es) nxt] (fun v L => v = .tuple #[wiV e.1, .bool true] ∧ L = [wraw q (e :: es) nxt]) := by
  refine Spec.of 16 Try.func41 rfl rfl rfl ?_
  refine swp_seq ?_
  refine swp_region ?_
  refine s_pu (pu_assign rfl) ?_
  refine s_pu (pu_assign rfl) ?_
  refine swl_sub _ (.cons (t := 0) rfl .nil) ?_
  refine swl_nil ?_
  refine then_n ?_
  refine swp_seq ?_
  refine swp_seq ?_
  refine swp_region ?_
  refine s_pu (pu_move rfl) ?_
  refine s_ef (ef_fn (len_w q (e :: es) nxt) rfl rfl (by repeat (first | exact Split.nil | (apply Split.cons; (repeat (first | with_reducible exact Take.here | apply Take.there)))))) ?_
  rintro v L1 ⟨rfl, rfl⟩
  refine swl_app ?_
  refine s_pu (pu_eql rfl rfl) ?_
  refine swl_sub _ (.cons (t := 0) rfl (.cons (t := 7) rfl .nil)) ?_
  refine swl_nil ?_
  refine then_n ?_
  refine swp_cond (b := _) rfl (fun h7 => by simp at h7; omega) (fun h7 => ?_)
  refine swp_skip ?_
  refine then_n ?_
  refine swp_seq ?_
  refine swp_ex fun v => ?_
  refine swp_app ?_
  refine swp_front (A := own 84 2 v (e :: es).length (wents (e :: es))) (by repeat (first | with_reducible exact Take.here | apply Take.there)) ?_
  refine swp_own (fun h h0 h1 => by simp at h0) (fun g cap ex hv o1 o2 o3 o4 => ?_)
  subst v
  refine swp_region ?_
  refine s_pu (pu_move rfl) ?_
  first | refine s_pu (pu_nilCheck rfl) ?_ | refine s_pu (pu_nilCheck_fn rfl) ?_ | refine s_pu (pu_nilCheck_if rfl) ?_
  first | refine s_pu (pu_fieldAddr0 rfl) ?_ | refine s_pu (pu_fieldAddr rfl) ?_
  refine s_rd (rd_load rfl rfl) ?_
  refine s_pu (pu_indexAddr 0 rfl rfl (by omega) (by simp) rfl) ?_
  first | refine s_pu (pu_fieldAddr0 rfl) ?_ | refine s_pu (pu_fieldAddr rfl) ?_
  refine s_rd (rd_load (v := wiV e.1) rfl rfl) ?_
  refine s_pu (pu_assign rfl) ?_
  refine s_pu (pu_assign rfl) ?_
  refine swl_sub _ (.cons (t := 2) rfl (.cons (t := 3) rfl .nil)) ?_
  refine swl_nil ?_
  refine then_n ?_
  refine swp_ret ?_
  exact done_retE [wraw q (e :: es) nxt] (.tmp rfl (.tmp rfl .nil)) ⟨rfl, rfl⟩ ((Split.ent' (K := [blk g 84 (wents (e :: es) ++ ex), blk q 82 [.slice (some ⟨g, 0, none⟩) (e :: es).length cap, .int .u64 (nxt : Nat)]]) (by repeat (first | exact Split.nil | (apply Split.cons; (repeat (first | with_reducible exact Take.here | apply Take.there)))))).trans (wraw_close o1 o2 o4))

theorem pop_w0 (q nxt : Nat) : Spec Try.prog 31 [.pointer (some ⟨q, 0, none⟩)] [wraw q [] nxt] (fun v L => v = .tuple #[wiV wiZ, .bool false] ∧ L = [wraw q [] nxt]) := by
  refine Spec.of 52 Try.func31 rfl rfl rfl ?_
  refine swp_seq ?_
  refine swp_region ?_
  refine s_pu (pu_assign rfl) ?_
  refine s_pu (pu_assign rfl) ?_
  refine swl_sub _ (.cons (t := 0) rfl .nil) ?_
  refine swl_nil ?_
  refine then_n ?_
  refine swp_seq ?_
  refine swp_region ?_
  refine s_pu (pu_move rfl) ?_
  refine s_ef (ef_fn (peek_w0 q nxt) rfl rfl (by repeat (first | exact Split.nil | (apply Split.cons; (repeat (first | with_reducible exact Take.here | apply Take.there)))))) ?_
  rintro v L1 ⟨rfl, rfl⟩
  refine swl_app ?_
  refine s_pu (pu_move rfl) ?_
  refine s_pu (pu_extract rfl rfl) ?_
  refine s_pu (pu_extract rfl rfl) ?_
  refine s_pu (pu_assign rfl) ?_
  refine s_pu (pu_assign rfl) ?_
  refine swl_sub _ (.cons (t := 0) rfl (.cons (t := 4) rfl (.cons (t := 5) rfl .nil))) ?_
  refine swl_nil ?_
  refine then_n ?_
  refine swp_seq ?_
  refine swp_seq ?_
  refine swp_region ?_
  refine s_pu (pu_move rfl) ?_
  refine s_pu (pu_not rfl) ?_
  refine swl_sub _ (.cons (t := 0) rfl (.cons (t := 4) rfl (.cons (t := 13) rfl .nil))) ?_
  refine swl_nil ?_
  refine then_n ?_
  refine swp_cond (b := _) rfl (fun h13 => ?_) (fun h13 => by cases h13)
  refine swp_seq ?_
  refine swp_region ?_
  refine s_pu (pu_move rfl) ?_
  refine s_pu (pu_assign rfl) ?_
  refine s_pu (pu_assign rfl) ?_
  refine swl_sub _ (.cons (t := 2) rfl (.cons (t := 3) rfl .nil)) ?_
  refine swl_nil ?_
  refine then_n ?_
  refine swp_ret ?_
  refine then_r ?_
  exact done_ret [wraw q [] nxt] (.tmp rfl (.tmp rfl .nil)) ⟨rfl, rfl⟩ (by repeat (first | exact Split.nil | (apply Split.cons; (repeat (first | with_reducible exact Take.here | apply Take.there)))))

def wzcs : List Value := [wiV wiZ, .int .u64 0]
theorem wents_app (a b : List (WI × Nat)) : wents (a ++ b) = wents a ++ wents b := by unfold wents; exact List.flatMap_append
theorem wents_over (es : List (WI × Nat)) (ex : List Value) (i : Nat) (e : WI × Nat) (h : i < es.length) : over (wents es ++ ex) (wcs e) (i * 2) = wents (es.set i e) ++ ex := flat_over wcs_len es ex i e h
theorem wover_cut (es : List (WI × Nat)) (ex zs : List Value) (hz : zs.length = 2) (hne : es ≠ []) : over (wents es ++ ex) zs ((es.length - 1) * 2) = wents es.dropLast ++ (zs ++ ex) := by
  have e := List.dropLast_concat_getLast hne
  have hl : (es.length - 1) * 2 = (wents es.dropLast).length := by rw [wents_len, List.length_dropLast]
  have h1 : wents es = wents es.dropLast ++ wents [es.getLast hne] := by rw [← wents_app, e]
  have h2 : (wents [es.getLast hne]).length = 2 := by rw [wents_len]; rfl
  generalize wents [es.getLast hne] = u at h1 h2
  rw [hl, h1]
  unfold over
  rw [hz, List.append_assoc (wents es.dropLast) u ex, List.take_left, List.drop_append]
  rw [show (wents es.dropLast).length + 2 - (wents es.dropLast).length = 2 by omega, List.drop_append, h2]
  rw [List.drop_eq_nil_of_le (by omega : (wents es.dropLast).length ≤ _), List.drop_eq_nil_of_le (by omega : u.length ≤ _)]
  simp

set_option maxHeartbeats 1000000 in
theorem pop_w (q nxt : Nat) (e : WI × Nat) (es : List (WI × Nat)) (hb1 : (e :: es).length ≤ 1099511627776) : Spec Try.prog 31 [.pointer (some ⟨q, 0, none⟩)] [wraw q (e :: es) nxt]
    (fun v L => v = .tuple #[wiV e.1, .bool true] ∧ L = [wraw q (Hp.pop aW (e :: es)) nxt]) := by
  refine Spec.of 52 Try.func31 rfl rfl rfl ?_
  refine swp_seq ?_
  refine swp_region ?_
  refine s_pu (pu_assign rfl) ?_
  refine s_pu (pu_assign rfl) ?_
  refine swl_sub _ (.cons (t := 0) rfl .nil) ?_
  refine swl_nil ?_
  refine then_n ?_
  refine swp_seq ?_
  refine swp_region ?_
  refine s_pu (pu_move rfl) ?_
  refine s_ef (ef_fn (peek_w q nxt e es) rfl rfl (by repeat (first | exact Split.nil | (apply Split.cons; (repeat (first | with_reducible exact Take.here | apply Take.there)))))) ?_
  rintro v L1 ⟨rfl, rfl⟩
  refine swl_app ?_
  refine s_pu (pu_move rfl) ?_
  refine s_pu (pu_extract rfl rfl) ?_
  refine s_pu (pu_extract rfl rfl) ?_
  refine s_pu (pu_assign rfl) ?_
  refine s_pu (pu_assign rfl) ?_
  refine swl_sub _ (.cons (t := 0) rfl (.cons (t := 4) rfl (.cons (t := 5) rfl .nil))) ?_
  refine swl_nil ?_
  refine then_n ?_
  refine swp_seq ?_
  refine swp_seq ?_
  refine swp_region ?_
  refine s_pu (pu_move rfl) ?_
  refine s_pu (pu_not rfl) ?_
  refine swl_sub _ (.cons (t := 0) rfl (.cons (t := 4) rfl (.cons (t := 13) rfl .nil))) ?_
  refine swl_nil ?_
  refine then_n ?_
  refine swp_cond (b := _) rfl (fun h13 => by cases h13) (fun h13 => ?_)
  refine swp_skip ?_
  refine then_n ?_
  refine swp_seq ?_
  obtain ⟨fs, hfs⟩ : ∃ fs, fs = e :: es := ⟨_, rfl⟩
  have hne : fs ≠ [] := by rw [hfs]; simp
  rw [← hfs] at hb1 ⊢
  have hpos : 0 < fs.length := List.length_pos_iff.2 hne
  refine swp_front (A := wraw q fs nxt) (by repeat (first | with_reducible exact Take.here | apply Take.there)) ?_
  refine swp_ex fun v => ?_
  refine swp_app ?_
  refine swp_front (A := own 84 2 v fs.length (wents fs)) (by repeat (first | with_reducible exact Take.here | apply Take.there)) ?_
  refine swp_own (fun h h0 h1 => by omega) (fun g cap ex hv o1 o2 o3 o4 => ?_)
  subst v
  refine swp_region ?_
  refine s_pu (pu_move rfl) ?_
  first | refine s_pu (pu_nilCheck rfl) ?_ | refine s_pu (pu_nilCheck_fn rfl) ?_ | refine s_pu (pu_nilCheck_if rfl) ?_
  first | refine s_pu (pu_fieldAddr0 rfl) ?_ | refine s_pu (pu_fieldAddr rfl) ?_
  refine s_rd (rd_load rfl rfl) ?_
  refine s_pu (pu_len rfl) ?_
  refine s_pu (pu_sub_as ((fs.length - 1 : Nat) : Int) rfl rfl (by omega) (by omega) (by omega)) ?_
  refine s_pu (pu_assign rfl) ?_
  refine swl_sub _ (.cons (t := 0) rfl (.cons (t := 4) rfl (.cons (t := 6) rfl .nil))) ?_
  refine swl_nil ?_
  refine then_n ?_
  refine swp_seq ?_
  have hel : (wents fs).length = fs.length * 2 := wents_len fs
  obtain ⟨l, hlast⟩ : ∃ l, fs[fs.length - 1]? = some l := ⟨_, List.getElem?_eq_getElem (by omega)⟩
  refine swp_draw [3, 7, 10] _ [] (by simp only [List.append_nil]; exact Ent.refl _) (by kernel_rfl) ?_
  refine d_pu 0 rfl (pu_move rfl) (by kernel_rfl) (by kernel_rfl) (by kernel_rfl) ?_
  first | refine d_pu 1 rfl (pu_nilCheck rfl) (by kernel_rfl) (by kernel_rfl) (by kernel_rfl) ?_ | refine d_pu 1 rfl (pu_nilCheck_fn rfl) (by kernel_rfl) (by kernel_rfl) (by kernel_rfl) ?_ | refine d_pu 1 rfl (pu_nilCheck_if rfl) (by kernel_rfl) (by kernel_rfl) (by kernel_rfl) ?_
  first | refine d_pu 2 rfl (pu_fieldAddr0 rfl) (by kernel_rfl) (by kernel_rfl) (by kernel_rfl) ?_ | refine d_pu 2 rfl (pu_fieldAddr rfl) (by kernel_rfl) (by kernel_rfl) (by kernel_rfl) ?_
  refine d_rd 3 rfl (rd_load rfl rfl) rfl (by kernel_rfl) (by kernel_rfl) (by kernel_rfl) ?_
  refine d_pu 4 rfl (pu_move rfl) (by kernel_rfl) (by kernel_rfl) (by kernel_rfl) ?_
  first | refine d_pu 5 rfl (pu_nilCheck rfl) (by kernel_rfl) (by kernel_rfl) (by kernel_rfl) ?_ | refine d_pu 5 rfl (pu_nilCheck_fn rfl) (by kernel_rfl) (by kernel_rfl) (by kernel_rfl) ?_ | refine d_pu 5 rfl (pu_nilCheck_if rfl) (by kernel_rfl) (by kernel_rfl) (by kernel_rfl) ?_
  first | refine d_pu 6 rfl (pu_fieldAddr0 rfl) (by kernel_rfl) (by kernel_rfl) (by kernel_rfl) ?_ | refine d_pu 6 rfl (pu_fieldAddr rfl) (by kernel_rfl) (by kernel_rfl) (by kernel_rfl) ?_
  refine d_rd 7 rfl (rd_load rfl rfl) rfl (by kernel_rfl) (by kernel_rfl) (by kernel_rfl) ?_
  refine d_pu 8 rfl (pu_move rfl) (by kernel_rfl) (by kernel_rfl) (by kernel_rfl) ?_
  refine d_pu 9 rfl (pu_indexAddr ((fs.length - 1) * 2) rfl rfl (by omega) (by omega) (by omega)) (by kernel_rfl) (by kernel_rfl) (by kernel_rfl) ?_
  refine d_rd 10 rfl (rd_loadA (vs := wcs l) rfl (by rfl) (flat_get wcs_len fs ex _ l hlast)) rfl (by kernel_rfl) (by kernel_rfl) (by kernel_rfl) ?_
  refine d_pu 11 rfl (pu_indexAddr (0 * 2) rfl rfl (by omega) (by omega) (by omega)) (by kernel_rfl) (by kernel_rfl) (by kernel_rfl) ?_
  first | refine d_fin0t 12 rfl (by kernel_rfl) (by kernel_rfl) (ef_storeAs (vs := wcs l) rfl rfl (wents_over fs ex 0 l hpos) (by rw [List.length_append, wents_len, wcs_len]; omega) rfl rfl) ?_ | refine d_fin0f 12 rfl (by kernel_rfl) (by kernel_rfl) (ef_storeAs (vs := wcs l) rfl rfl (wents_over fs ex 0 l hpos) (by rw [List.length_append, wents_len, wcs_len]; omega) rfl rfl) ?_
  refine d_sub _ (.cons (t := 0) rfl (.cons (t := 4) rfl (.cons (t := 6) rfl .nil))) ?_
  first | refine d_nilt (by kernel_rfl) ?_ | refine d_nilf (by kernel_rfl) ?_
  refine then_n ?_
  refine swp_seq ?_
  have hl2 : (fs.set 0 l).length = fs.length := List.length_set
  have hne2 : fs.set 0 l ≠ [] := by intro h; rw [h] at hl2; simp at hl2; omega
  refine swp_region ?_
  refine s_pu (pu_move rfl) ?_
  first | refine s_pu (pu_nilCheck rfl) ?_ | refine s_pu (pu_nilCheck_fn rfl) ?_ | refine s_pu (pu_nilCheck_if rfl) ?_
  first | refine s_pu (pu_fieldAddr0 rfl) ?_ | refine s_pu (pu_fieldAddr rfl) ?_
  refine s_rd (rd_load rfl rfl) ?_
  refine s_pu (pu_move rfl) ?_
  refine s_pu (pu_bld (qs := []) rfl) ?_
  refine s_pu (pu_indexAddr (((fs.set 0 l).length - 1) * 2) rfl rfl (by omega) (by omega) (by rw [hl2]; omega)) ?_
  refine s_ef0 (ef_storeAs (vs := wzcs) rfl rfl (wover_cut (fs.set 0 l) ex wzcs rfl hne2) (by rw [List.length_append, wents_len, hl2]; show _ + 2 ≤ _; omega) rfl rfl) ?_
  refine swl_sub _ (.cons (t := 0) rfl (.cons (t := 4) rfl (.cons (t := 6) rfl .nil))) ?_
  refine swl_nil ?_
  refine then_n ?_
  refine swp_seq ?_
  refine swp_region ?_
  refine s_pu (pu_move rfl) ?_
  refine s_pu (pu_move rfl) ?_
  first | refine s_pu (pu_nilCheck rfl) ?_ | refine s_pu (pu_nilCheck_fn rfl) ?_ | refine s_pu (pu_nilCheck_if rfl) ?_
  first | refine s_pu (pu_fieldAddr0 rfl) ?_ | refine s_pu (pu_fieldAddr rfl) ?_
  refine s_rd (rd_load rfl rfl) ?_
  refine s_pu (pu_move rfl) ?_
  refine s_pu (pu_slice_hi (fs.length - 1) rfl rfl rfl (by omega)) ?_
  first | refine s_pu (pu_nilCheck rfl) ?_ | refine s_pu (pu_nilCheck_fn rfl) ?_ | refine s_pu (pu_nilCheck_if rfl) ?_
  first | refine s_pu (pu_fieldAddr0 rfl) ?_ | refine s_pu (pu_fieldAddr rfl) ?_
  refine s_ef0 (ef_store rfl rfl rfl) ?_
  refine swl_sub _ (.cons (t := 0) rfl (.cons (t := 4) rfl .nil)) ?_
  refine swl_nil ?_
  refine then_n ?_
  refine swp_seq ?_
  refine swp_region ?_
  refine s_pu (pu_move rfl) ?_
  have hl3 : (fs.set 0 l).dropLast.length = fs.length - 1 := by rw [List.length_dropLast, hl2]
  rw [← hl3]
  refine s_ef (ef_fn (sink_w q g cap _ (fs.set 0 l).dropLast (wzcs ++ ex) (by omega)) rfl rfl (by repeat (first | exact Split.nil | (apply Split.cons; (repeat (first | with_reducible exact Take.here | apply Take.there)))))) ?_
  rintro v L1 ⟨rfl, rfl⟩
  refine swl_app ?_
  refine swl_sub _ (.cons (t := 4) rfl .nil) ?_
  refine swl_nil ?_
  refine then_n ?_
  refine swp_seq ?_
  refine swp_region ?_
  refine s_pu (pu_move rfl) ?_
  refine s_pu (pu_assign rfl) ?_
  refine s_pu (pu_assign rfl) ?_
  refine swl_sub _ (.cons (t := 2) rfl (.cons (t := 3) rfl .nil)) ?_
  refine swl_nil ?_
  refine then_n ?_
  refine swp_ret ?_
  have hp : Hp.pop aW fs = Hp.down aW (fs.set 0 l).dropLast.length (fs.set 0 l).dropLast 0 := by
    have hgl : fs.getLast? = some l := by rw [List.getLast?_eq_getElem?]; exact hlast
    unfold Hp.pop
    rw [hgl]
    exact Hp.down_enough _ _ _ _ (by omega) (by omega)
  have hpl : (Hp.pop aW fs).length = (fs.set 0 l).dropLast.length := by rw [hp, Hp.down_length]
  rw [← hp, ← hpl]
  exact done_retE [wraw q (Hp.pop aW fs) nxt] (.tmp rfl (.tmp rfl .nil)) ⟨rfl, rfl⟩
    ((Split.ent' (K := [blk g 84 (wents (Hp.pop aW fs) ++ (wzcs ++ ex)), blk q 82 [.slice (some ⟨g, 0, none⟩) (Hp.pop aW fs).length cap, .int .u64 (nxt : Nat)]]) (by repeat (first | exact Split.nil | (apply Split.cons; (repeat (first | with_reducible exact Take.here | apply Take.there)))))).trans
      (wraw_close (by omega) o2 (by rw [List.length_append, o4, hpl, hl3]; show 2 + _ = _; omega)))
end SX.Wd
