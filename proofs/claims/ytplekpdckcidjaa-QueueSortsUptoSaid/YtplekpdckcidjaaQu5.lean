/- A part of the proof: walks of the seat's functions, by the rules of the texts that it imports. -/
import Derived.Test.YtplekpdckcidjaaQu4
namespace SX
open Go Go.Proofs

theorem pop_raw0 (q nxt : Nat) : Spec Try.prog 10 [.pointer (some ⟨q, 0, none⟩)] [qraw q [] nxt] (fun v L => v = .tuple #[thV (0, 0), .bool false] ∧ L = [qraw q [] nxt]) := by
  refine Spec.of 52 Try.func10 rfl rfl rfl ?_
  refine swp_seq ?_
  refine swp_region ?_
  refine s_ef (ef_alloc) ?_
  intro b2
  refine s_pu (pu_assign rfl) ?_
  refine swl_sub _ (.cons (t := 0) rfl (.cons (t := 2) rfl .nil)) ?_
  refine swl_nil ?_
  refine then_n ?_
  refine swp_seq ?_
  refine swp_region ?_
  refine s_pu (pu_move rfl) ?_
  refine s_ef (ef_fn (peek_raw0 q nxt) rfl rfl (by repeat (first | exact Split.nil | (apply Split.cons; (repeat (first | with_reducible exact Take.here | apply Take.there)))))) ?_
  rintro v L1 ⟨rfl, rfl⟩
  refine swl_app ?_
  refine s_pu (pu_move rfl) ?_
  refine s_pu (pu_extract rfl rfl) ?_
  refine s_pu (pu_extract rfl rfl) ?_
  refine s_ef (ef_alloc) ?_
  intro b4
  refine s_ef0 (ef_storeA rfl rfl rfl rfl) ?_
  refine s_pu (pu_assign rfl) ?_
  refine swl_sub _ (.cons (t := 0) rfl (.cons (t := 2) rfl (.cons (t := 4) rfl (.cons (t := 5) rfl .nil)))) ?_
  refine swl_nil ?_
  refine then_n ?_
  refine swp_seq ?_
  refine swp_seq ?_
  refine swp_region ?_
  refine s_pu (pu_move rfl) ?_
  refine s_pu (pu_not rfl) ?_
  refine swl_sub _ (.cons (t := 0) rfl (.cons (t := 2) rfl (.cons (t := 4) rfl (.cons (t := 13) rfl .nil)))) ?_
  refine swl_nil ?_
  refine then_n ?_
  refine swp_cond (b := _) rfl (fun h13 => ?_) (fun h13 => by cases h13)
  refine swp_seq ?_
  refine swp_region ?_
  first | refine s_rd (rd_loadW rfl rfl) ?_ | refine s_rd (rd_loadX rfl rfl rfl) ?_
  refine s_ef0 (ef_storeA rfl rfl rfl rfl) ?_
  refine s_pu (pu_assign rfl) ?_
  refine swl_sub _ (.cons (t := 2) rfl (.cons (t := 3) rfl .nil)) ?_
  refine swl_nil ?_
  refine then_n ?_
  refine swp_ret ?_
  refine then_r ?_
  exact done_ret [qraw q [] nxt] (.cell rfl (ld_whole rfl) (.tmp rfl .nil)) ⟨rfl, rfl⟩ (by repeat (first | exact Split.nil | (apply Split.cons; (repeat (first | with_reducible exact Take.here | apply Take.there)))))

def zcs : List Value := [.int .i64 0, .int .i64 0, .int .u64 0]
theorem ents_len (es : List (Th × Nat)) : (ents es).length = es.length * 3 := by unfold ents; rw [flat_length ecs_len]
theorem ents_app (a b : List (Th × Nat)) : ents (a ++ b) = ents a ++ ents b := by unfold ents; exact List.flatMap_append
theorem ents_over (es : List (Th × Nat)) (ex : List Value) (i : Nat) (e : Th × Nat) (h : i < es.length) : over (ents es ++ ex) (ecs e) (i * 3) = ents (es.set i e) ++ ex := flat_over ecs_len es ex i e h
theorem over_cut (es : List (Th × Nat)) (ex zs : List Value) (hz : zs.length = 3) (hne : es ≠ []) : over (ents es ++ ex) zs ((es.length - 1) * 3) = ents es.dropLast ++ (zs ++ ex) := by
  have e := List.dropLast_concat_getLast hne
  have hl : (es.length - 1) * 3 = (ents es.dropLast).length := by rw [ents_len, List.length_dropLast]
  have h1 : ents es = ents es.dropLast ++ ents [es.getLast hne] := by rw [← ents_app, e]
  have h2 : (ents [es.getLast hne]).length = 3 := by rw [ents_len]; rfl
  generalize ents [es.getLast hne] = u at h1 h2
  rw [hl, h1]
  unfold over
  rw [hz, List.append_assoc (ents es.dropLast) u ex, List.take_left, List.drop_append]
  rw [show (ents es.dropLast).length + 3 - (ents es.dropLast).length = 3 by omega, List.drop_append, h2]
  rw [List.drop_eq_nil_of_le (by omega : (ents es.dropLast).length ≤ _), List.drop_eq_nil_of_le (by omega : u.length ≤ _)]
  simp

set_option maxHeartbeats 1000000 in
theorem pop_raw (q nxt : Nat) (e : Th × Nat) (es : List (Th × Nat)) (hb1 : (e :: es).length ≤ 1099511627776) : Spec Try.prog 10 [.pointer (some ⟨q, 0, none⟩)] [qraw q (e :: es) nxt]
    (fun v L => v = .tuple #[thV e.1, .bool true] ∧ L = [qraw q (Hp.pop aT (e :: es)) nxt]) := by
  refine Spec.of 52 Try.func10 rfl rfl rfl ?_
  refine swp_seq ?_
  refine swp_region ?_
  refine s_ef (ef_alloc) ?_
  intro b2
  refine s_pu (pu_assign rfl) ?_
  refine swl_sub _ (.cons (t := 0) rfl (.cons (t := 2) rfl .nil)) ?_
  refine swl_nil ?_
  refine then_n ?_
  refine swp_seq ?_
  refine swp_region ?_
  refine s_pu (pu_move rfl) ?_
  refine s_ef (ef_fn (peek_raw q nxt e es) rfl rfl (by repeat (first | exact Split.nil | (apply Split.cons; (repeat (first | with_reducible exact Take.here | apply Take.there)))))) ?_
  rintro v L1 ⟨rfl, rfl⟩
  refine swl_app ?_
  refine s_pu (pu_move rfl) ?_
  refine s_pu (pu_extract rfl rfl) ?_
  refine s_pu (pu_extract rfl rfl) ?_
  refine s_ef (ef_alloc) ?_
  intro b4
  refine s_ef0 (ef_storeA rfl rfl rfl rfl) ?_
  refine s_pu (pu_assign rfl) ?_
  refine swl_sub _ (.cons (t := 0) rfl (.cons (t := 2) rfl (.cons (t := 4) rfl (.cons (t := 5) rfl .nil)))) ?_
  refine swl_nil ?_
  refine then_n ?_
  refine swp_seq ?_
  refine swp_seq ?_
  refine swp_region ?_
  refine s_pu (pu_move rfl) ?_
  refine s_pu (pu_not rfl) ?_
  refine swl_sub _ (.cons (t := 0) rfl (.cons (t := 2) rfl (.cons (t := 4) rfl (.cons (t := 13) rfl .nil)))) ?_
  refine swl_nil ?_
  refine then_n ?_
  refine swp_cond (b := _) rfl (fun h13 => by cases h13) (fun h13 => ?_)
  refine swp_skip ?_
  refine then_n ?_
  obtain ⟨fs, hfs⟩ : ∃ fs, fs = e :: es := ⟨_, rfl⟩
  have hne : fs ≠ [] := by rw [hfs]; simp
  rw [← hfs] at hb1 ⊢
  have hpos : 0 < fs.length := List.length_pos_iff.2 hne
  refine swp_front (A := qraw q fs nxt) (.there .here) ?_
  refine swp_ex fun v => ?_
  refine swp_app ?_
  refine swp_front (.there .here) ?_
  refine swp_own (fun h h0 h1 => by omega) (fun g cap ex hv o1 o2 o3 o4 => ?_)
  subst v
  refine swp_seq ?_
  refine swp_region ?_
  refine s_pu (pu_move rfl) ?_
  first | refine s_pu (pu_nilCheck rfl) ?_ | refine s_pu (pu_nilCheck_fn rfl) ?_ | refine s_pu (pu_nilCheck_if rfl) ?_
  first | refine s_pu (pu_fieldAddr0 rfl) ?_ | refine s_pu (pu_fieldAddr rfl) ?_
  refine s_rd (rd_load rfl rfl) ?_
  refine s_pu (pu_len rfl) ?_
  refine s_pu (pu_sub_as ((fs.length - 1 : Nat) : Int) rfl rfl (by omega) (by omega) (by omega)) ?_
  refine s_pu (pu_assign rfl) ?_
  refine swl_sub _ (.cons (t := 0) rfl (.cons (t := 2) rfl (.cons (t := 4) rfl (.cons (t := 6) rfl .nil)))) ?_
  refine swl_nil ?_
  refine then_n ?_
  refine swp_seq ?_
  have hel : (ents fs).length = fs.length * 3 := by unfold ents; rw [flat_length ecs_len]
  obtain ⟨l, hlast⟩ : ∃ l, fs[fs.length - 1]? = some l := ⟨_, List.getElem?_eq_getElem (by omega)⟩
  refine swp_draw [3, 7, 10] _ [] (by simp only [List.append_nil]; exact Ent.refl _) (by kernel_rfl) ?_
  refine d_pu 0 rfl (pu_move rfl) (by kernel_rfl) (by kernel_rfl) (by kernel_rfl) ?_
  first | refine d_pu 1 rfl (pu_nilCheck rfl) (by kernel_rfl) (by kernel_rfl) (by kernel_rfl) ?_ | refine d_pu 1 rfl (pu_nilCheck_fn rfl) (by kernel_rfl) (by kernel_rfl) (by kernel_rfl) ?_ | refine d_pu 1 rfl (pu_nilCheck_if rfl) (by kernel_rfl) (by kernel_rfl) (by kernel_rfl) ?_
  first | refine d_pu 2 rfl (pu_fieldAddr0 rfl) (by kernel_rfl) (by kernel_rfl) (by kernel_rfl) ?_ | refine d_pu 2 rfl (pu_fieldAddr rfl) (by kernel_rfl) (by kernel_rfl) (by kernel_rfl) ?_
  refine d_rd 3 rfl (rd_load rfl rfl) rfl (by kernel_rfl) (by kernel_rfl) (by kernel_rfl) ?_
  refine d_pu 4 rfl (pu_move rfl) (by kernel_rfl) (by kernel_rfl) (by kernel_rfl) ?_
  first | refine d_pu 5 rfl (pu_nilCheck rfl) (by kernel_rfl) (by kernel_rfl) (by kernel_rfl) ?_ | refine d_pu 5 rfl (pu_nilCheck_fn rfl) (by kernel_rfl) (by kernel_rfl) (by kernel_rfl) ?_ | refine d_pu 5 rfl (pu_nilCheck_if rfl) (by kernel_rfl) (by kernel_rfl) (by kernel_rfl) ?_
  first | refine d_pu 6 rfl (pu_fieldAddr0 rfl) (by kernel_rfl) (by kernel_rfl) (by kernel_rfl) ?_ | refine d_pu 6 rfl (pu_fieldAddr rfl) (by kernel_rfl) (by kernel_rfl) (by kernel_rfl) ?_
  refine d_rd 7 rfl (rd_load rfl rfl) rfl (by kernel_rfl) (by kernel_rfl) (by kernel_rfl) ?_
  refine d_pu 8 rfl (pu_move rfl) (by kernel_rfl) (by kernel_rfl) (by kernel_rfl) ?_
  refine d_pu 9 rfl (pu_indexAddr ((fs.length - 1) * 3) rfl rfl (by omega) (by omega) (by omega)) (by kernel_rfl) (by kernel_rfl) (by kernel_rfl) ?_
  refine d_rd 10 rfl (rd_loadA (vs := ecs l) rfl (by rfl) (flat_get ecs_len fs ex _ l hlast)) rfl (by kernel_rfl) (by kernel_rfl) (by kernel_rfl) ?_
  refine d_pu 11 rfl (pu_indexAddr (0 * 3) rfl rfl (by omega) (by omega) (by omega)) (by kernel_rfl) (by kernel_rfl) (by kernel_rfl) ?_
  first | refine d_fin0t 12 rfl (by kernel_rfl) (by kernel_rfl) (ef_storeAs (vs := ecs l) rfl rfl (ents_over fs ex 0 l hpos) (by rw [List.length_append, ents_len, ecs_len]; omega) rfl rfl) ?_ | refine d_fin0f 12 rfl (by kernel_rfl) (by kernel_rfl) (ef_storeAs (vs := ecs l) rfl rfl (ents_over fs ex 0 l hpos) (by rw [List.length_append, ents_len, ecs_len]; omega) rfl rfl) ?_
  first | refine d_nilt (by kernel_rfl) ?_ | refine d_nilf (by kernel_rfl) ?_
  refine then_n ?_
  refine swp_seq ?_
  refine swp_region ?_
  have hl2 : (fs.set 0 l).length = fs.length := List.length_set
  have hne2 : fs.set 0 l ≠ [] := by intro h; rw [h] at hl2; simp at hl2; omega
  refine s_pu (pu_move rfl) ?_
  first | refine s_pu (pu_nilCheck rfl) ?_ | refine s_pu (pu_nilCheck_fn rfl) ?_ | refine s_pu (pu_nilCheck_if rfl) ?_
  first | refine s_pu (pu_fieldAddr0 rfl) ?_ | refine s_pu (pu_fieldAddr rfl) ?_
  refine s_rd (rd_load rfl rfl) ?_
  refine s_pu (pu_move rfl) ?_
  refine s_pu (pu_bld (qs := []) rfl) ?_
  refine s_pu (pu_indexAddr (((fs.set 0 l).length - 1) * 3) rfl rfl (by omega) (by omega) (by rw [hl2]; omega)) ?_
  refine s_ef0 (ef_storeAs (vs := zcs) rfl rfl (over_cut (fs.set 0 l) ex zcs rfl hne2) (by rw [List.length_append, ents_len, hl2]; show _ + 3 ≤ _; omega) rfl rfl) ?_
  refine swl_sub _ (.cons (t := 0) rfl (.cons (t := 2) rfl (.cons (t := 4) rfl (.cons (t := 6) rfl .nil)))) ?_
  refine swl_nil ?_
  refine then_n ?_
  refine swp_seq ?_
  refine swp_region ?_
  refine s_pu (pu_move rfl) ?_
  refine s_pu (pu_move rfl) ?_
  first | refine s_pu (pu_nilCheck rfl) ?_ | refine s_pu (pu_nilCheck_fn rfl) ?_ | refine s_pu (pu_nilCheck_if rfl) ?_
  first | refine s_pu (pu_fieldAddr0 rfl) ?_ | refine s_pu (pu_fieldAddr rfl) ?_
  refine s_rd (rd_load rfl rfl) ?_
  refine s_pu (pu_move rfl) ?_
  refine s_pu (pu_slice_hi (fs.length - 1) rfl rfl rfl (by omega)) ?_
  first | refine s_pu (pu_nilCheck rfl) ?_ | refine s_pu (pu_nilCheck_fn rfl) ?_ | refine s_pu (pu_nilCheck_if rfl) ?_
  first | refine s_pu (pu_fieldAddr0 rfl) ?_ | refine s_pu (pu_fieldAddr rfl) ?_
  refine s_ef0 (ef_store rfl rfl rfl) ?_
  refine swl_sub _ (.cons (t := 0) rfl (.cons (t := 2) rfl (.cons (t := 4) rfl .nil))) ?_
  refine swl_nil ?_
  refine then_n ?_
  refine swp_seq ?_
  refine swp_region ?_
  refine s_pu (pu_move rfl) ?_
  have hl3 : (fs.set 0 l).dropLast.length = fs.length - 1 := by rw [List.length_dropLast, hl2]
  rw [← hl3]
  refine s_ef (ef_fn (sink_raw q g cap _ (fs.set 0 l).dropLast (zcs ++ ex) (by omega)) rfl rfl (by repeat (first | exact Split.nil | (apply Split.cons; (repeat (first | with_reducible exact Take.here | apply Take.there)))))) ?_
  rintro v L1 ⟨rfl, rfl⟩
  refine swl_app ?_
  refine swl_sub _ (.cons (t := 2) rfl (.cons (t := 4) rfl .nil)) ?_
  refine swl_nil ?_
  refine then_n ?_
  refine swp_seq ?_
  refine swp_region ?_
  first | refine s_rd (rd_loadW rfl rfl) ?_ | refine s_rd (rd_loadX rfl rfl rfl) ?_
  refine s_ef0 (ef_storeA rfl rfl rfl rfl) ?_
  refine s_pu (pu_assign rfl) ?_
  refine swl_sub _ (.cons (t := 2) rfl (.cons (t := 3) rfl .nil)) ?_
  refine swl_nil ?_
  refine then_n ?_
  refine swp_ret ?_
  have hp : Hp.pop aT fs = Hp.down aT (fs.set 0 l).dropLast.length (fs.set 0 l).dropLast 0 := by
    have hgl : fs.getLast? = some l := by rw [List.getLast?_eq_getElem?]; exact hlast
    unfold Hp.pop
    rw [hgl]
    exact Hp.down_enough _ _ _ _ (by omega) (by omega)
  have hpl : (Hp.pop aT fs).length = (fs.set 0 l).dropLast.length := by rw [hp, Hp.down_length]
  rw [← hp, ← hpl]
  exact done_retE [qraw q (Hp.pop aT fs) nxt] (.cell rfl (ld_whole rfl) (.tmp rfl .nil)) ⟨rfl, rfl⟩
    ((Ent.perm (Split.perm (K := [blk g 78 (ents (Hp.pop aT fs) ++ (zcs ++ ex)), _]) (by repeat (first | exact Split.nil | (apply Split.cons; (repeat (first | with_reducible exact Take.here | apply Take.there))))))).trans
      ((qraw_close (by omega) o2 (by rw [List.length_append, o4, hpl, hl3]; show 3 + _ = _; omega)).trans Ent.one))
end SX
