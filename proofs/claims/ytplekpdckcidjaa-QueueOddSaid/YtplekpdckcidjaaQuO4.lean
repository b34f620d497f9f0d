/- A part of the proof: walks of the seat's functions, by the rules of the texts that it imports. -/
import Derived.Test.YtplekpdckcidjaaQuO3
import Derived.Test.YtplekpdckcidjaaSxRangeK
namespace SX
open Go Go.Proofs

theorem dents_nil_open {p q nxt : Nat} {L : List Assn} : Ent (blk q 96 [.slice none 0 0, .int .u64 (nxt : Nat)] :: L) (oraw p q [] nxt :: L) :=
  Ent.imp fun m hm => ⟨.slice none 0 0, m, fun _ => none, hm, ⟨fun _ => none, fun _ => none, own_nil _ _ _, trivial, by simp, by simp, by simp⟩, by simp, fun _ _ h => h, by simp⟩
theorem len_odd (p q : Nat) (es : List OE) (nxt : Nat) : Spec Try.prog 43 [.pointer (some ⟨q, 0, none⟩)] [oraw p q es nxt] (fun v L => v = .int .i64 es.length ∧ L = [oraw p q es nxt]) := by
  refine Spec.of 10 Try.func43 rfl rfl rfl ?_
  refine swp_ex fun v => ?_
  refine swp_app ?_
  refine swp_front (.there .here) ?_
  refine swp_own (fun h h0 h1 => ?_) (fun hb cap ex hv o1 o2 o3 o4 => ?_)
  all_goals
    subst v
    refine swp_seq ?_
    refine swp_region ?_
    refine s_pu (pu_assign rfl) ?_
    refine swl_sub _ (.cons (t := 0) rfl .nil) ?_
    refine swl_nil ?_
    refine then_n ?_
    refine swp_seq ?_
    refine swp_seq ?_
    refine swp_region ?_
    refine s_pu (pu_move rfl) ?_
    refine s_pu (pu_ptr_eq_nil rfl rfl) ?_
    refine swl_sub _ (.cons (t := 0) rfl (.cons (t := 4) rfl .nil)) ?_
    refine swl_nil ?_
    refine then_n ?_
    refine swp_cond (b := _) rfl (fun h4 => by cases h4) (fun h4 => ?_)
    refine swp_skip ?_
    refine then_n ?_
    refine swp_seq ?_
    refine swp_region ?_
    refine s_pu (pu_move rfl) ?_
    first | refine s_pu (pu_nilCheck rfl) ?_ | refine s_pu (pu_nilCheck_fn rfl) ?_ | refine s_pu (pu_nilCheck_if rfl) ?_
    first | refine s_pu (pu_fieldAddr0 rfl) ?_ | refine s_pu (pu_fieldAddr rfl) ?_
    refine s_rd (rd_load rfl rfl) ?_
    refine s_pu (pu_len rfl) ?_
    refine s_pu (pu_assign rfl) ?_
    refine swl_sub _ (.cons (t := 2) rfl .nil) ?_
    refine swl_nil ?_
    refine then_n ?_
    refine swp_ret ?_
  · have he : es = [] := List.eq_nil_of_length_eq_zero h0
    subst he
    exact done_retE [oraw p q [] nxt] (.tmp rfl .nil) ⟨rfl, rfl⟩ dents_nil_open
  · exact done_retE [oraw p q es nxt] (.tmp rfl .nil) ⟨rfl, rfl⟩ (oraw_close o1 o2 o4)

def hcs (p : Nat) : Option Int → List Value
  | none => [.int .i64 0, .pointer none]
  | some x => [.int .i64 x, .pointer (some ⟨p, 0, none⟩)]
theorem peek_odd0 (p q nxt : Nat) : Spec Try.prog 38 [.pointer (some ⟨q, 0, none⟩)] [oraw p q [] nxt] (fun v L => v = .tuple #[.agg (hcs p none).toArray, .bool false] ∧ L = [oraw p q [] nxt]) := by
  refine Spec.of 16 Try.func38 rfl rfl rfl ?_
  refine swp_seq ?_
  refine swp_region ?_
  refine s_ef (ef_alloc) ?_
  intro b2
  refine s_pu (pu_assign rfl) ?_
  refine swl_sub _ (.cons (t := 0) rfl (.cons (t := 2) rfl .nil)) ?_
  refine swl_nil ?_
  refine then_n ?_
  refine swp_seq ?_
  refine swp_seq ?_
  refine swp_region ?_
  refine s_pu (pu_move rfl) ?_
  refine s_ef (ef_fn (len_odd p q [] nxt) rfl rfl (by repeat (first | exact Split.nil | (apply Split.cons; (repeat (first | with_reducible exact Take.here | apply Take.there)))))) ?_
  rintro v L1 ⟨rfl, rfl⟩
  refine swl_app ?_
  refine s_pu (pu_eql rfl rfl) ?_
  refine swl_sub _ (.cons (t := 0) rfl (.cons (t := 2) rfl (.cons (t := 7) rfl .nil))) ?_
  refine swl_nil ?_
  refine then_n ?_
  refine swp_cond (b := _) rfl (fun h7 => ?_) (fun h7 => by simp at h7)
  refine swp_seq ?_
  refine swp_region ?_
  refine s_ef (ef_alloc) ?_
  intro b4
  refine swl_sub _ (.cons (t := 2) rfl (.cons (t := 4) rfl .nil)) ?_
  refine swl_nil ?_
  refine then_n ?_
  refine swp_seq ?_
  refine swp_region ?_
  first | refine s_rd (rd_loadW rfl rfl) ?_ | refine s_rd (rd_loadX rfl rfl rfl) ?_
  refine s_ef0 (ef_storeA rfl rfl rfl rfl) ?_
  refine s_pu (pu_assign rfl) ?_
  refine swl_sub _ (.cons (t := 2) rfl (.cons (t := 3) rfl .nil)) ?_
  refine swl_nil ?_
  refine then_n ?_
  refine swp_ret ?_
  refine then_r ?_
  exact done_ret [oraw p q [] nxt] (.cell rfl (ld_whole rfl) (.tmp rfl .nil)) ⟨rfl, rfl⟩ (by repeat (first | exact Split.nil | (apply Split.cons; (repeat (first | with_reducible exact Take.here | apply Take.there)))))
theorem peek_odd (p q nxt : Nat) (e : OE) (es : List OE) : Spec Try.prog 38 [.pointer (some ⟨q, 0, none⟩)] [oraw p q (e :: es) nxt] (fun v L => v = .tuple #[.agg (hcs p (some e.1)).toArray, .bool true] ∧ L = [oraw p q (e :: es) nxt]) := by
  refine Spec.of 16 Try.func38 rfl rfl rfl ?_
  refine swp_seq ?_
  refine swp_region ?_
  refine s_ef (ef_alloc) ?_
  intro b2
  refine s_pu (pu_assign rfl) ?_
  refine swl_sub _ (.cons (t := 0) rfl (.cons (t := 2) rfl .nil)) ?_
  refine swl_nil ?_
  refine then_n ?_
  refine swp_seq ?_
  refine swp_seq ?_
  refine swp_region ?_
  refine s_pu (pu_move rfl) ?_
  refine s_ef (ef_fn (len_odd p q (e :: es) nxt) rfl rfl (by repeat (first | exact Split.nil | (apply Split.cons; (repeat (first | with_reducible exact Take.here | apply Take.there)))))) ?_
  rintro v L1 ⟨rfl, rfl⟩
  refine swl_app ?_
  refine s_pu (pu_eql rfl rfl) ?_
  refine swl_sub _ (.cons (t := 0) rfl (.cons (t := 2) rfl (.cons (t := 7) rfl .nil))) ?_
  refine swl_nil ?_
  refine then_n ?_
  refine swp_cond (b := _) rfl (fun h7 => by simp at h7; omega) (fun h7 => ?_)
  refine swp_skip ?_
  refine then_n ?_
  refine swp_ex fun v => ?_
  refine swp_app ?_
  refine swp_front (.there .here) ?_
  refine swp_own (fun h h0 h1 => by simp at h0) (fun g cap ex hv o1 o2 o3 o4 => ?_)
  subst v
  refine swp_seq ?_
  refine swp_region ?_
  refine s_pu (pu_move rfl) ?_
  first | refine s_pu (pu_nilCheck rfl) ?_ | refine s_pu (pu_nilCheck_fn rfl) ?_ | refine s_pu (pu_nilCheck_if rfl) ?_
  first | refine s_pu (pu_fieldAddr0 rfl) ?_ | refine s_pu (pu_fieldAddr rfl) ?_
  refine s_rd (rd_load rfl rfl) ?_
  refine s_pu (pu_indexAddr 0 rfl rfl (by omega) (by simp) rfl) ?_
  first | refine s_pu (pu_fieldAddr0 rfl) ?_ | refine s_pu (pu_fieldAddr rfl) ?_
  refine s_rd (rd_loadA (vs := [.int .i64 e.1, .pointer (some ⟨p, 0, none⟩)]) rfl (by rfl) (flat_sub (dcs_len p) (e :: es) ex 0 e rfl [] [.int .i64 e.1, .pointer (some ⟨p, 0, none⟩)] [.int .u64 (e.2 : Nat)] rfl)) ?_
  refine s_ef0 (ef_storeA rfl rfl rfl rfl) ?_
  refine s_pu (pu_assign rfl) ?_
  refine swl_sub _ (.cons (t := 2) rfl (.cons (t := 3) rfl .nil)) ?_
  refine swl_nil ?_
  refine then_n ?_
  refine swp_ret ?_
  exact done_retE [oraw p q (e :: es) nxt] (.cell rfl (ld_whole rfl) (.tmp rfl .nil)) ⟨rfl, rfl⟩ ((Split.ent' (K := [blk g 98 (dents p (e :: es) ++ ex), blk q 96 [.slice (some ⟨g, 0, none⟩) (e :: es).length cap, .int .u64 (nxt : Nat)]]) (by repeat (first | exact Split.nil | (apply Split.cons; (repeat (first | with_reducible exact Take.here | apply Take.there)))))).trans (oraw_close o1 o2 o4))

def PopR (fs : List OE) (r : Option Int) (gs : List OE) : Prop := (fs = [] ∧ r = none ∧ gs = []) ∨ ∃ e es, fs = e :: es ∧ r = some e.1 ∧ gs.Perm es
def dzcs : List Value := [.int .i64 0, .pointer none, .int .u64 0]
theorem dents_app (p : Nat) (a b : List OE) : dents p (a ++ b) = dents p a ++ dents p b := by unfold dents; exact List.flatMap_append
theorem dents_over (p : Nat) (es : List OE) (ex : List Value) (i : Nat) (e : OE) (h : i < es.length) : over (dents p es ++ ex) (dcs p e) (i * 3) = dents p (es.set i e) ++ ex := flat_over (dcs_len p) es ex i e h
theorem dover_cut (p : Nat) (es : List OE) (ex zs : List Value) (hz : zs.length = 3) (hne : es ≠ []) : over (dents p es ++ ex) zs ((es.length - 1) * 3) = dents p es.dropLast ++ (zs ++ ex) := by
  have e := List.dropLast_concat_getLast hne
  have hl : (es.length - 1) * 3 = (dents p es.dropLast).length := by rw [dents_len, List.length_dropLast]
  have h1 : dents p es = dents p es.dropLast ++ dents p [es.getLast hne] := by rw [← dents_app, e]
  have h2 : (dents p [es.getLast hne]).length = 3 := by rw [dents_len]; rfl
  generalize dents p [es.getLast hne] = u at h1 h2
  rw [hl, h1]
  unfold over
  rw [hz, List.append_assoc (dents p es.dropLast) u ex, List.take_left, List.drop_append]
  rw [show (dents p es.dropLast).length + 3 - (dents p es.dropLast).length = 3 by omega, List.drop_append, h2]
  rw [List.drop_eq_nil_of_le (by omega : (dents p es.dropLast).length ≤ _), List.drop_eq_nil_of_le (by omega : u.length ≤ _)]
  simp
theorem cut_perm (e l : OE) (es : List OE) (hl : (e :: es)[(e :: es).length - 1]? = some l) : ((e :: es).set 0 l).dropLast.Perm es := by
  rcases List.eq_nil_or_concat es with rfl | ⟨ys, z, rfl⟩
  · simp
  · have : z = l := by simpa using hl
    subst this
    rw [List.set_cons_zero]
    have e1 : (z :: (ys.concat z)) = (z :: ys) ++ [z] := by simp
    rw [e1, List.dropLast_concat]
    simpa using (List.perm_append_singleton z ys).symm

set_option maxHeartbeats 1000000 in
theorem pop_odd (μ : PH) (p q : Nat) (bv : Value) (bits : List Bool) (c : Nat) (fs : List OE) (nxt : Nat) (hb : Row μ bv 1 bits.length (bits.flatMap bcs)) (hb1 : fs.length ≤ 1048576) (hc : c + 4 * fs.length + 4 ≤ 1099511627776) :
    Spec Try.prog 23 [.pointer (some ⟨q, 0, none⟩)] [oraw p q fs nxt, blk p 53 [bv, .int .i64 (c : Nat)], ro μ]
    (fun v L => ∃ r gs c', v = .tuple #[.agg (hcs p r).toArray, .bool r.isSome] ∧ PopR fs r gs ∧ c ≤ c' ∧ c' ≤ c + 4 * fs.length + 4 ∧ L = [oraw p q gs nxt, blk p 53 [bv, .int .i64 (c' : Nat)], ro μ]) := by
  refine Spec.of 52 Try.func23 rfl rfl rfl ?_
  refine swp_seq ?_
  refine swp_region ?_
  refine s_ef (ef_alloc) ?_
  intro b2
  refine s_pu (pu_assign rfl) ?_
  refine swl_sub _ (.cons (t := 0) rfl (.cons (t := 2) rfl .nil)) ?_
  refine swl_nil ?_
  refine then_n ?_
  cases fs with
  | nil =>
    refine swp_seq ?_
    refine swp_region ?_
    refine s_pu (pu_move rfl) ?_
    refine s_ef (ef_fn (peek_odd0 p q nxt) rfl rfl (by repeat (first | exact Split.nil | (apply Split.cons; (repeat (first | with_reducible exact Take.here | apply Take.there)))))) ?_
    rintro v L1 ⟨rfl, rfl⟩
    refine swl_app ?_
    refine s_pu (pu_move rfl) ?_
    refine s_pu (pu_extract rfl rfl) ?_
    refine s_pu (pu_extract rfl rfl) ?_
    refine s_ef (ef_alloc) ?_
    intro b4
    refine s_ef0 (ef_storeA (vs := [.int .i64 0, .pointer none]) rfl rfl rfl rfl) ?_
    refine s_pu (pu_assign rfl) ?_
    refine swl_sub _ (.cons (t := 0) rfl (.cons (t := 2) rfl (.cons (t := 4) rfl (.cons (t := 5) rfl .nil)))) ?_
    refine swl_nil ?_
    refine then_n ?_
    refine swp_seq ?_
    refine swp_seq ?_
    refine swp_region ?_
    refine s_pu (pu_move rfl) ?_
    refine s_pu (pu_not rfl) ?_
    refine swl_sub _ (.cons (t := 0) rfl (.cons (t := 2) rfl (.cons (t := 4) rfl (.cons (t := 13) rfl .nil)))) ?_
    refine swl_nil ?_
    refine then_n ?_
    refine swp_cond (b := _) rfl (fun h13 => ?_) (fun h13 => by cases h13)
    refine swp_seq ?_
    refine swp_region ?_
    first | refine s_rd (rd_loadW rfl rfl) ?_ | refine s_rd (rd_loadX rfl rfl rfl) ?_
    refine s_ef0 (ef_storeA rfl rfl rfl rfl) ?_
    refine s_pu (pu_assign rfl) ?_
    refine swl_sub _ (.cons (t := 2) rfl (.cons (t := 3) rfl .nil)) ?_
    refine swl_nil ?_
    refine then_n ?_
    refine swp_ret ?_
    refine then_r ?_
    exact done_ret [oraw p q [] nxt, blk p 53 [bv, .int .i64 (c : Nat)], ro μ] (.cell rfl (ld_whole rfl) (.tmp rfl .nil)) ⟨none, [], c, rfl, .inl ⟨rfl, rfl, rfl⟩, Nat.le_refl _, by omega, rfl⟩ (by repeat (first | exact Split.nil | (apply Split.cons; (repeat (first | with_reducible exact Take.here | apply Take.there)))))
  | cons e es =>
    refine swp_seq ?_
    refine swp_region ?_
    refine s_pu (pu_move rfl) ?_
    refine s_ef (ef_fn (peek_odd p q nxt e es) rfl rfl (by repeat (first | exact Split.nil | (apply Split.cons; (repeat (first | with_reducible exact Take.here | apply Take.there)))))) ?_
    rintro v L1 ⟨rfl, rfl⟩
    refine swl_app ?_
    refine s_pu (pu_move rfl) ?_
    refine s_pu (pu_extract rfl rfl) ?_
    refine s_pu (pu_extract rfl rfl) ?_
    refine s_ef (ef_alloc) ?_
    intro b4
    refine s_ef0 (ef_storeA (vs := [.int .i64 e.1, .pointer (some ⟨p, 0, none⟩)]) rfl rfl rfl rfl) ?_
    refine s_pu (pu_assign rfl) ?_
    refine swl_sub _ (.cons (t := 0) rfl (.cons (t := 2) rfl (.cons (t := 4) rfl (.cons (t := 5) rfl .nil)))) ?_
    refine swl_nil ?_
    refine then_n ?_
    refine swp_seq ?_
    refine swp_seq ?_
    refine swp_region ?_
    refine s_pu (pu_move rfl) ?_
    refine s_pu (pu_not rfl) ?_
    refine swl_sub _ (.cons (t := 0) rfl (.cons (t := 2) rfl (.cons (t := 4) rfl (.cons (t := 13) rfl .nil)))) ?_
    refine swl_nil ?_
    refine then_n ?_
    refine swp_cond (b := _) rfl (fun h13 => by cases h13) (fun h13 => ?_)
    refine swp_skip ?_
    refine then_n ?_
    obtain ⟨fs, hfs⟩ : ∃ fs, fs = e :: es := ⟨_, rfl⟩
    have hne : fs ≠ [] := by rw [hfs]; simp
    rw [← hfs] at hb1 hc ⊢
    have hpos : 0 < fs.length := List.length_pos_iff.2 hne
    refine swp_front (A := oraw p q fs nxt) (.there .here) ?_
    refine swp_ex fun v => ?_
    refine swp_app ?_
    refine swp_front (.there .here) ?_
    refine swp_own (fun h h0 h1 => by omega) (fun g cap ex hv o1 o2 o3 o4 => ?_)
    subst v
    refine swp_seq ?_
    refine swp_region ?_
    refine s_pu (pu_move rfl) ?_
    first | refine s_pu (pu_nilCheck rfl) ?_ | refine s_pu (pu_nilCheck_fn rfl) ?_ | refine s_pu (pu_nilCheck_if rfl) ?_
    first | refine s_pu (pu_fieldAddr0 rfl) ?_ | refine s_pu (pu_fieldAddr rfl) ?_
    refine s_rd (rd_load rfl rfl) ?_
    refine s_pu (pu_len rfl) ?_
    refine s_pu (pu_sub_as ((fs.length - 1 : Nat) : Int) rfl rfl (by omega) (by omega) (by omega)) ?_
    refine s_pu (pu_assign rfl) ?_
    refine swl_sub _ (.cons (t := 0) rfl (.cons (t := 2) rfl (.cons (t := 4) rfl (.cons (t := 6) rfl .nil)))) ?_
    refine swl_nil ?_
    refine then_n ?_
    refine swp_seq ?_
    have hel : (dents p fs).length = fs.length * 3 := dents_len p fs
    obtain ⟨l, hlast⟩ : ∃ l, fs[fs.length - 1]? = some l := ⟨_, List.getElem?_eq_getElem (by omega)⟩
    refine swp_draw [3, 7, 10] _ [] (by simp only [List.append_nil]; exact Ent.refl _) (by kernel_rfl) ?_
    refine d_pu 0 rfl (pu_move rfl) (by kernel_rfl) (by kernel_rfl) (by kernel_rfl) ?_
    first | refine d_pu 1 rfl (pu_nilCheck rfl) (by kernel_rfl) (by kernel_rfl) (by kernel_rfl) ?_ | refine d_pu 1 rfl (pu_nilCheck_fn rfl) (by kernel_rfl) (by kernel_rfl) (by kernel_rfl) ?_ | refine d_pu 1 rfl (pu_nilCheck_if rfl) (by kernel_rfl) (by kernel_rfl) (by kernel_rfl) ?_
    first | refine d_pu 2 rfl (pu_fieldAddr0 rfl) (by kernel_rfl) (by kernel_rfl) (by kernel_rfl) ?_ | refine d_pu 2 rfl (pu_fieldAddr rfl) (by kernel_rfl) (by kernel_rfl) (by kernel_rfl) ?_
    refine d_rd 3 rfl (rd_load rfl rfl) rfl (by kernel_rfl) (by kernel_rfl) (by kernel_rfl) ?_
    refine d_pu 4 rfl (pu_move rfl) (by kernel_rfl) (by kernel_rfl) (by kernel_rfl) ?_
    first | refine d_pu 5 rfl (pu_nilCheck rfl) (by kernel_rfl) (by kernel_rfl) (by kernel_rfl) ?_ | refine d_pu 5 rfl (pu_nilCheck_fn rfl) (by kernel_rfl) (by kernel_rfl) (by kernel_rfl) ?_ | refine d_pu 5 rfl (pu_nilCheck_if rfl) (by kernel_rfl) (by kernel_rfl) (by kernel_rfl) ?_
    first | refine d_pu 6 rfl (pu_fieldAddr0 rfl) (by kernel_rfl) (by kernel_rfl) (by kernel_rfl) ?_ | refine d_pu 6 rfl (pu_fieldAddr rfl) (by kernel_rfl) (by kernel_rfl) (by kernel_rfl) ?_
    refine d_rd 7 rfl (rd_load rfl rfl) rfl (by kernel_rfl) (by kernel_rfl) (by kernel_rfl) ?_
    refine d_pu 8 rfl (pu_move rfl) (by kernel_rfl) (by kernel_rfl) (by kernel_rfl) ?_
    refine d_pu 9 rfl (pu_indexAddr ((fs.length - 1) * 3) rfl rfl (by omega) (by omega) (by omega)) (by kernel_rfl) (by kernel_rfl) (by kernel_rfl) ?_
    refine d_rd 10 rfl (rd_loadA (vs := dcs p l) rfl (by rfl) (flat_get (dcs_len p) fs ex _ l hlast)) rfl (by kernel_rfl) (by kernel_rfl) (by kernel_rfl) ?_
    refine d_pu 11 rfl (pu_indexAddr (0 * 3) rfl rfl (by omega) (by omega) (by omega)) (by kernel_rfl) (by kernel_rfl) (by kernel_rfl) ?_
    first | refine d_fin0t 12 rfl (by kernel_rfl) (by kernel_rfl) (ef_storeAs (vs := dcs p l) rfl rfl (dents_over p fs ex 0 l hpos) (by rw [List.length_append, dents_len, dcs_len]; omega) rfl rfl) ?_ | refine d_fin0f 12 rfl (by kernel_rfl) (by kernel_rfl) (ef_storeAs (vs := dcs p l) rfl rfl (dents_over p fs ex 0 l hpos) (by rw [List.length_append, dents_len, dcs_len]; omega) rfl rfl) ?_
    first | refine d_nilt (by kernel_rfl) ?_ | refine d_nilf (by kernel_rfl) ?_
    refine then_n ?_
    refine swp_seq ?_
    refine swp_region ?_
    have hl2 : (fs.set 0 l).length = fs.length := List.length_set
    have hne2 : fs.set 0 l ≠ [] := by intro h; rw [h] at hl2; simp at hl2; omega
    refine s_pu (pu_move rfl) ?_
    first | refine s_pu (pu_nilCheck rfl) ?_ | refine s_pu (pu_nilCheck_fn rfl) ?_ | refine s_pu (pu_nilCheck_if rfl) ?_
    first | refine s_pu (pu_fieldAddr0 rfl) ?_ | refine s_pu (pu_fieldAddr rfl) ?_
    refine s_rd (rd_load rfl rfl) ?_
    refine s_pu (pu_move rfl) ?_
    refine s_pu (pu_bld (qs := []) rfl) ?_
    refine s_pu (pu_indexAddr (((fs.set 0 l).length - 1) * 3) rfl rfl (by omega) (by omega) (by rw [hl2]; omega)) ?_
    refine s_ef0 (ef_storeAs (vs := dzcs) rfl rfl (dover_cut p (fs.set 0 l) ex dzcs rfl hne2) (by rw [List.length_append, dents_len, hl2]; show _ + 3 ≤ _; omega) rfl rfl) ?_
    refine swl_sub _ (.cons (t := 0) rfl (.cons (t := 2) rfl (.cons (t := 4) rfl (.cons (t := 6) rfl .nil)))) ?_
    refine swl_nil ?_
    refine then_n ?_
    refine swp_seq ?_
    refine swp_region ?_
    refine s_pu (pu_move rfl) ?_
    refine s_pu (pu_move rfl) ?_
    first | refine s_pu (pu_nilCheck rfl) ?_ | refine s_pu (pu_nilCheck_fn rfl) ?_ | refine s_pu (pu_nilCheck_if rfl) ?_
    first | refine s_pu (pu_fieldAddr0 rfl) ?_ | refine s_pu (pu_fieldAddr rfl) ?_
    refine s_rd (rd_load rfl rfl) ?_
    refine s_pu (pu_move rfl) ?_
    refine s_pu (pu_slice_hi (fs.length - 1) rfl rfl rfl (by omega)) ?_
    first | refine s_pu (pu_nilCheck rfl) ?_ | refine s_pu (pu_nilCheck_fn rfl) ?_ | refine s_pu (pu_nilCheck_if rfl) ?_
    first | refine s_pu (pu_fieldAddr0 rfl) ?_ | refine s_pu (pu_fieldAddr rfl) ?_
    refine s_ef0 (ef_store rfl rfl rfl) ?_
    refine swl_sub _ (.cons (t := 0) rfl (.cons (t := 2) rfl (.cons (t := 4) rfl .nil))) ?_
    refine swl_nil ?_
    refine then_n ?_
    refine swp_seq ?_
    refine swp_region ?_
    refine s_pu (pu_move rfl) ?_
    have hl3 : (fs.set 0 l).dropLast.length = fs.length - 1 := by rw [List.length_dropLast, hl2]
    rw [← hl3]
    refine s_ef (ef_fn (sink_odd μ p q g cap _ bv bits c (fs.set 0 l).dropLast (dzcs ++ ex) hb (by omega) (by omega)) rfl rfl (by repeat (first | exact Split.nil | (apply Split.cons; (repeat (first | with_reducible exact Take.here | apply Take.there)))))) ?_
    rintro v L1 ⟨rfl, gs, c', hpm, hc1, hc2, rfl⟩
    refine swl_app ?_
    refine swl_sub _ (.cons (t := 2) rfl (.cons (t := 4) rfl .nil)) ?_
    refine swl_nil ?_
    refine then_n ?_
    refine swp_seq ?_
    refine swp_region ?_
    first | refine s_rd (rd_loadW rfl rfl) ?_ | refine s_rd (rd_loadX rfl rfl rfl) ?_
    refine s_ef0 (ef_storeA (vs := [.int .i64 e.1, .pointer (some ⟨p, 0, none⟩)]) rfl rfl rfl rfl) ?_
    refine s_pu (pu_assign rfl) ?_
    refine swl_sub _ (.cons (t := 2) rfl (.cons (t := 3) rfl .nil)) ?_
    refine swl_nil ?_
    refine then_n ?_
    refine swp_ret ?_
    have hgl : gs.length = (fs.set 0 l).dropLast.length := hpm.length_eq
    have hpe : gs.Perm es := hpm.trans (by subst hfs; exact cut_perm e l es hlast)
    rw [← hgl]
    exact done_retE [oraw p q gs nxt, blk p 53 [bv, .int .i64 (c' : Nat)], ro μ] (.cell rfl (ld_whole rfl) (.tmp rfl .nil)) ⟨some e.1, gs, c', rfl, .inr ⟨e, es, hfs, rfl, hpe⟩, hc1, by omega, rfl⟩
      ((Split.ent' (K := [blk g 98 (dents p gs ++ (dzcs ++ ex)), blk q 96 [.slice (some ⟨g, 0, none⟩) gs.length cap, .int .u64 (nxt : Nat)], blk p 53 [bv, .int .i64 (c' : Nat)], ro μ]) (by repeat (first | exact Split.nil | (apply Split.cons; (repeat (first | with_reducible exact Take.here | apply Take.there)))))).trans
        (oraw_close (by omega) o2 (by rw [List.length_append, o4, hgl, hl3]; show 3 + _ = _; omega)))
end SX
