/- A part of the proof: walks of the seat's functions, by the rules of the texts that it imports. -/
import Derived.Test.YtplekpdckcidjaaQuWH
import Derived.Test.YtplekpdckcidjaaSxRank
namespace SX.Wd
open Go Go.Proofs SX

abbrev aW := Hp.ahd ltW
def wcs (e : WI × Nat) : List Value := [wiV e.1, .int .u64 (e.2 : Nat)]
theorem wcs_len (e : WI × Nat) : (wcs e).length = 2 := rfl
def wents (es : List (WI × Nat)) : List Value := es.flatMap wcs
theorem wents_len (es : List (WI × Nat)) : (wents es).length = es.length * 2 := by unfold wents; rw [flat_length wcs_len]
theorem wents_snoc (es : List (WI × Nat)) (x : WI) (n : Nat) : wents es ++ [wiV x, .int .u64 (n : Nat)] = wents (es ++ [(x, n)]) := by simp [wents, wcs]

theorem ahead_w (a b : WI) (n1 n2 : Nat) : Spec Try.prog 28 [.agg #[wiV a, .int .u64 (n1 : Nat)], .agg #[wiV b, .int .u64 (n2 : Nat)]] []
    (fun v L => v = .bool (aW (a, n1) (b, n2)) ∧ L = []) := by
  refine Spec.of 25 Try.func28 rfl rfl rfl ?_
  refine swp_seq ?_
  refine swp_region ?_
  refine s_ef (ef_box rfl rfl) ?_
  intro b2
  refine s_ef (ef_box rfl rfl) ?_
  intro b3
  refine s_pu (pu_assign rfl) ?_
  refine swl_sub _ (.cons (t := 2) rfl (.cons (t := 3) rfl .nil)) ?_
  refine swl_nil ?_
  refine then_n ?_
  refine swp_seq ?_
  refine swp_seq ?_
  refine swp_region ?_
  first | refine s_pu (pu_fieldAddr0 rfl) ?_ | refine s_pu (pu_fieldAddr rfl) ?_
  refine s_rd (rd_load rfl rfl) ?_
  refine s_pu (pu_iface rfl) ?_
  first | refine s_pu (pu_fieldAddr0 rfl) ?_ | refine s_pu (pu_fieldAddr rfl) ?_
  refine s_rd (rd_load rfl rfl) ?_
  refine s_ef (ef_inv rfl (before_w _ _) rfl (by repeat (first | exact Split.nil | (apply Split.cons; (repeat (first | with_reducible exact Take.here | apply Take.there)))))) ?_
  rintro v L1 ⟨rfl, rfl⟩
  refine swl_app ?_
  refine swl_sub _ (.cons (t := 2) rfl (.cons (t := 3) rfl (.cons (t := 10) rfl .nil))) ?_
  refine swl_nil ?_
  refine then_n ?_
  refine swp_cond (b := _) rfl (fun h10 => ?_) (fun h10 => ?_)
  · skip   -- 10 T
    refine swp_seq ?_
    refine swp_region ?_
    refine s_pu (pu_assign rfl) ?_
    refine swl_sub _ (.cons (t := 4) rfl .nil) ?_
    refine swl_nil ?_
    refine then_n ?_
    refine swp_ret ?_
    refine then_r ?_
    exact done_ret [] (.tmp rfl .nil) ⟨by simp [resV, h10, Hp.ahd], rfl⟩ (by repeat (first | exact Split.nil | (apply Split.cons; (repeat (first | with_reducible exact Take.here | apply Take.there)))))
  · skip   -- 10 F
    refine swp_skip ?_
    refine then_n ?_
    refine swp_seq ?_
    refine swp_region ?_
    first | refine s_pu (pu_fieldAddr0 rfl) ?_ | refine s_pu (pu_fieldAddr rfl) ?_
    refine s_rd (rd_load rfl rfl) ?_
    refine s_pu (pu_iface rfl) ?_
    first | refine s_pu (pu_fieldAddr0 rfl) ?_ | refine s_pu (pu_fieldAddr rfl) ?_
    refine s_rd (rd_load rfl rfl) ?_
    refine s_ef (ef_inv rfl (before_w _ _) rfl (by repeat (first | exact Split.nil | (apply Split.cons; (repeat (first | with_reducible exact Take.here | apply Take.there)))))) ?_
    rintro v L1 ⟨rfl, rfl⟩
    refine swl_app ?_
    refine s_pu (pu_not rfl) ?_
    refine s_pu (pu_move rfl) ?_
    refine s_split 18 rfl (fun h18 => ?_) (fun h18 => ?_)
    · skip   -- 18 T
      refine s_on rfl rfl ?_
      first | refine s_pu (pu_fieldAddr0 rfl) ?_ | refine s_pu (pu_fieldAddr rfl) ?_
      refine s_on rfl rfl ?_
      refine s_rd (rd_load rfl rfl) ?_
      refine s_on rfl rfl ?_
      first | refine s_pu (pu_fieldAddr0 rfl) ?_ | refine s_pu (pu_fieldAddr rfl) ?_
      refine s_on rfl rfl ?_
      refine s_rd (rd_load rfl rfl) ?_
      refine s_on rfl rfl ?_
      refine s_pu (pu_lss rfl rfl) ?_
      first | refine s_pu (pu_pick_t rfl rfl) ?_ | refine s_pu (pu_pick_f rfl rfl) ?_
      refine s_pu (pu_assign rfl) ?_
      refine swl_sub _ (.cons (t := 4) rfl .nil) ?_
      refine swl_nil ?_
      refine then_n ?_
      refine swp_ret ?_
      exact done_ret [] (.tmp rfl .nil) ⟨by simp [resV, h10, h18, Hp.ahd], rfl⟩ (by repeat (first | exact Split.nil | (apply Split.cons; (repeat (first | with_reducible exact Take.here | apply Take.there)))))
    · skip   -- 18 F
      refine s_off rfl rfl rfl ?_
      refine s_off rfl rfl rfl ?_
      refine s_off rfl rfl rfl ?_
      refine s_off rfl rfl rfl ?_
      refine s_off rfl rfl rfl ?_
      first | refine s_pu (pu_pick_t rfl rfl) ?_ | refine s_pu (pu_pick_f rfl rfl) ?_
      refine s_pu (pu_assign rfl) ?_
      refine swl_sub _ (.cons (t := 4) rfl .nil) ?_
      refine swl_nil ?_
      refine then_n ?_
      refine swp_ret ?_
      exact done_ret [] (.tmp rfl .nil) ⟨by simp [resV, h10, h18, Hp.ahd], rfl⟩ (by repeat (first | exact Split.nil | (apply Split.cons; (repeat (first | with_reducible exact Take.here | apply Take.there)))))

/-- a queue's struct and its array -/
def wraw (q : Nat) (es : List (WI × Nat)) (nxt : Nat) : Assn := exA (fun v : Value => [blk q 82 [v, .int .u64 (nxt : Nat)], own 84 2 v es.length (wents es)])
theorem wraw_close {q g cap nxt : Nat} {es : List (WI × Nat)} {ex : List Value} {L : List Assn} (h1 : es.length ≤ cap) (h2 : cap ≤ maxLen) (h4 : ex.length = (cap - es.length) * 2) :
    Ent (blk g 84 (wents es ++ ex) :: blk q 82 [.slice (some ⟨g, 0, none⟩) es.length cap, .int .u64 (nxt : Nat)] :: L) (wraw q es nxt :: L) :=
  (own_close (wents_len es) h4 h1 h2).trans (ent_ex (F := fun v => [blk q 82 [v, .int .u64 (nxt : Nat)], own 84 2 v es.length (wents es)]) (.slice (some ⟨g, 0, none⟩) es.length cap) (by repeat (first | exact Split.nil | (apply Split.cons; (repeat (first | with_reducible exact Take.here | apply Take.there))))))
theorem wraw_nil {q nxt : Nat} {L : List Assn} : Ent (blk q 82 [.slice none 0 0, .int .u64 (nxt : Nat)] :: L) (wraw q [] nxt :: L) :=
  Ent.imp fun m hm => ⟨.slice none 0 0, m, fun _ => none, hm, ⟨fun _ => none, fun _ => none, own_nil _ _ _, trivial, by simp, by simp, by simp⟩, by simp, fun _ _ h => h, by simp⟩

set_option maxHeartbeats 1000000 in
theorem push_w (q : Nat) (es : List (WI × Nat)) (nxt : Nat) (x : WI) (hb1 : es.length ≤ 1099511627776) (hb2 : nxt ≤ 18446744073709551614) :
    Spec Try.prog 12 [.pointer (some ⟨q, 0, none⟩), wiV x] [wraw q es nxt] (fun v L => v = .tuple #[] ∧ L = [wraw q (Hp.up aW es.length (es ++ [(x, nxt)]) es.length) (nxt + 1)]) := by
  refine Spec.of 84 Try.func12 rfl rfl rfl ?_
  refine swp_ex fun v => ?_
  refine swp_app ?_
  refine swp_seq ?_
  refine swp_seq ?_
  refine swp_region ?_
  refine s_pu (pu_move rfl) ?_
  refine s_pu (pu_ptr_eq_nil rfl rfl) ?_
  refine swl_sub _ (.cons (t := 0) rfl (.cons (t := 1) rfl (.cons (t := 7) rfl .nil))) ?_
  refine swl_nil ?_
  refine then_n ?_
  refine swp_cond (b := _) rfl (fun h7 => by cases h7) (fun h7 => ?_)
  refine swp_skip ?_
  refine then_n ?_
  refine swp_seq ?_
  refine swp_draw [4, 9] _ [] (by simp only [List.append_nil]; exact Ent.refl _) (by kernel_rfl) ?_
  refine d_pu 0 rfl (pu_move rfl) (by kernel_rfl) (by kernel_rfl) (by kernel_rfl) ?_
  refine d_pu 1 rfl (pu_move rfl) (by kernel_rfl) (by kernel_rfl) (by kernel_rfl) ?_
  first | refine d_pu 2 rfl (pu_nilCheck rfl) (by kernel_rfl) (by kernel_rfl) (by kernel_rfl) ?_ | refine d_pu 2 rfl (pu_nilCheck_fn rfl) (by kernel_rfl) (by kernel_rfl) (by kernel_rfl) ?_ | refine d_pu 2 rfl (pu_nilCheck_if rfl) (by kernel_rfl) (by kernel_rfl) (by kernel_rfl) ?_
  first | refine d_pu 3 rfl (pu_fieldAddr0 rfl) (by kernel_rfl) (by kernel_rfl) (by kernel_rfl) ?_ | refine d_pu 3 rfl (pu_fieldAddr rfl) (by kernel_rfl) (by kernel_rfl) (by kernel_rfl) ?_
  refine d_rd 4 rfl (rd_load rfl rfl) rfl (by kernel_rfl) (by kernel_rfl) (by kernel_rfl) ?_
  refine d_pu 5 rfl (pu_move rfl) (by kernel_rfl) (by kernel_rfl) (by kernel_rfl) ?_
  refine d_pu 6 rfl (pu_move rfl) (by kernel_rfl) (by kernel_rfl) (by kernel_rfl) ?_
  first | refine d_pu 7 rfl (pu_nilCheck rfl) (by kernel_rfl) (by kernel_rfl) (by kernel_rfl) ?_ | refine d_pu 7 rfl (pu_nilCheck_fn rfl) (by kernel_rfl) (by kernel_rfl) (by kernel_rfl) ?_ | refine d_pu 7 rfl (pu_nilCheck_if rfl) (by kernel_rfl) (by kernel_rfl) (by kernel_rfl) ?_
  first | refine d_pu 8 rfl (pu_fieldAddr0 rfl) (by kernel_rfl) (by kernel_rfl) (by kernel_rfl) ?_ | refine d_pu 8 rfl (pu_fieldAddr rfl) (by kernel_rfl) (by kernel_rfl) (by kernel_rfl) ?_
  refine d_rd 9 rfl (rd_load rfl rfl) rfl (by kernel_rfl) (by kernel_rfl) (by kernel_rfl) ?_
  refine d_pu 10 rfl (pu_bld (qs := [(0, _), (1, _)]) rfl) (by kernel_rfl) (by kernel_rfl) (by kernel_rfl) ?_
  refine d_eft 11 rfl (by kernel_rfl) (ef_bldS (qs := [(0, _)]) rfl rfl rfl) ?_
  intro b19
  refine ⟨_, Split.ent (by repeat (first | exact Split.nil | (apply Split.cons; (repeat (first | with_reducible exact Take.here | apply Take.there))))), ?_⟩
  first | refine d_fint 12 rfl (by kernel_rfl) (by kernel_rfl) (ef_append_lit (l := es.length) (m := 1) rfl rfl (by repeat (first | exact Split.nil | (apply Split.cons; (repeat (first | with_reducible exact Take.here | apply Take.there))))) (by simp only [maxLen]; omega) (by omega)) ?_ | refine d_finf 12 rfl (by kernel_rfl) (by kernel_rfl) (ef_append_lit (l := es.length) (m := 1) rfl rfl (by repeat (first | exact Split.nil | (apply Split.cons; (repeat (first | with_reducible exact Take.here | apply Take.there))))) (by simp only [maxLen]; omega) (by omega)) ?_
  rintro v' hv'
  obtain ⟨g, cap, rfl⟩ := hv' (by decide)
  rw [wents_snoc]
  first | refine d_pu 13 rfl (pu_nilCheck rfl) (by kernel_rfl) (by kernel_rfl) (by kernel_rfl) ?_ | refine d_pu 13 rfl (pu_nilCheck_fn rfl) (by kernel_rfl) (by kernel_rfl) (by kernel_rfl) ?_ | refine d_pu 13 rfl (pu_nilCheck_if rfl) (by kernel_rfl) (by kernel_rfl) (by kernel_rfl) ?_
  first | refine d_pu 14 rfl (pu_fieldAddr0 rfl) (by kernel_rfl) (by kernel_rfl) (by kernel_rfl) ?_ | refine d_pu 14 rfl (pu_fieldAddr rfl) (by kernel_rfl) (by kernel_rfl) (by kernel_rfl) ?_
  first | refine d_fin0t 15 rfl (by kernel_rfl) (by kernel_rfl) (ef_store rfl rfl rfl) ?_ | refine d_fin0f 15 rfl (by kernel_rfl) (by kernel_rfl) (ef_store rfl rfl rfl) ?_
  refine d_sub _ (.cons (t := 0) rfl .nil) ?_
  first | refine d_nilt (by kernel_rfl) ?_ | refine d_nilf (by kernel_rfl) ?_
  refine then_n ?_
  refine swp_seq ?_
  refine swp_region ?_
  refine s_pu (pu_move rfl) ?_
  first | refine s_pu (pu_nilCheck rfl) ?_ | refine s_pu (pu_nilCheck_fn rfl) ?_ | refine s_pu (pu_nilCheck_if rfl) ?_
  first | refine s_pu (pu_fieldAddr0 rfl) ?_ | refine s_pu (pu_fieldAddr rfl) ?_
  refine s_rd (rd_load rfl rfl) ?_
  refine s_pu (pu_add_u64 ((nxt + 1 : Nat) : Int) rfl rfl (by omega) (by omega) (by omega)) ?_
  first | refine s_pu (pu_nilCheck rfl) ?_ | refine s_pu (pu_nilCheck_fn rfl) ?_ | refine s_pu (pu_nilCheck_if rfl) ?_
  first | refine s_pu (pu_fieldAddr0 rfl) ?_ | refine s_pu (pu_fieldAddr rfl) ?_
  refine s_ef0 (ef_store rfl rfl rfl) ?_
  refine swl_sub _ (.cons (t := 0) rfl .nil) ?_
  refine swl_nil ?_
  refine then_n ?_
  refine swp_seq ?_
  refine swp_region ?_
  refine s_pu (pu_move rfl) ?_
  first | refine s_pu (pu_nilCheck rfl) ?_ | refine s_pu (pu_nilCheck_fn rfl) ?_ | refine s_pu (pu_nilCheck_if rfl) ?_
  first | refine s_pu (pu_fieldAddr0 rfl) ?_ | refine s_pu (pu_fieldAddr rfl) ?_
  refine s_rd (rd_load rfl rfl) ?_
  refine s_pu (pu_len rfl) ?_
  refine s_pu (pu_sub_as (es.length : Int) rfl rfl (by omega) (by omega) (by omega)) ?_
  refine s_pu (pu_assign rfl) ?_
  refine swl_sub _ (.cons (t := 0) rfl (.cons (t := 4) rfl .nil)) ?_
  refine swl_own (by repeat (first | with_reducible exact Take.here | apply Take.there)) (fun h _ _ => by cases h) (fun hb cap' ex hv h1 h2 h3 h4 => ?_)
  cases hv
  have hlen : (es ++ [(x, nxt)]).length = es.length + 1 := by simp
  refine swl_nil ?_
  refine then_n ?_
  refine swp_block ?_
  refine swp_loop (ι := Nat × List (WI × Nat)) (fun k env L => env = [(0, .pointer (some ⟨q, 0, none⟩)), (4, .int .i64 (k.1 : Nat))] ∧
    L = [blk g 84 (wents k.2 ++ ex), blk q 82 [.slice (some ⟨g, 0, none⟩) (es.length + 1) cap, .int .u64 ((nxt + 1 : Nat) : Int)]] ∧
    k.2.length = es.length + 1 ∧ k.1 ≤ es.length ∧ Hp.up aW k.1 k.2 k.1 = Hp.up aW es.length (es ++ [(x, nxt)]) es.length) (fun k => k.1) (es.length, es ++ [(x, nxt)]) ⟨rfl, rfl, hlen, Nat.le_refl _, rfl⟩ ?_
  rintro ⟨i, fs⟩ env L ⟨rfl, rfl, hl, hi, hup⟩
  simp only [] at hl hi hup
  dsimp only
  refine swp_seq ?_
  refine swp_seq ?_
  refine swp_region ?_
  refine s_pu (pu_move rfl) ?_
  refine s_pu (pu_gtr rfl rfl) ?_
  refine swl_sub _ (.cons (t := 0) rfl (.cons (t := 4) rfl (.cons (t := 37) rfl .nil))) ?_
  refine swl_nil ?_
  refine then_n ?_
  refine swp_cond (b := _) rfl (fun h37 => ?_) (fun h37 => ?_)
  · skip   -- 37 T
    have h37' : 0 < i := by simpa using h37
    obtain ⟨ei, hei⟩ : ∃ e, fs[i]? = some e := ⟨_, List.getElem?_eq_getElem (by omega)⟩
    obtain ⟨ep, hep⟩ : ∃ e, fs[(i - 1) / 2]? = some e := ⟨_, List.getElem?_eq_getElem (by omega)⟩
    refine swp_skip ?_
    refine then_n ?_
    refine swp_block ?_
    refine swp_seq ?_
    refine swp_region ?_
    refine s_pu (pu_move rfl) ?_
    first | refine s_pu (pu_sub_in rfl rfl (by omega) (by omega)) ?_ | refine s_pu (pu_sub rfl rfl) ?_
    refine s_pu (pu_quo_as (((i - 1) / 2 : Nat) : Int) rfl rfl (by omega) (by omega) (by omega) (by omega)) ?_
    refine s_pu (pu_assign rfl) ?_
    refine swl_sub _ (.cons (t := 0) rfl (.cons (t := 4) rfl (.cons (t := 5) rfl .nil))) ?_
    refine swl_nil ?_
    refine then_n ?_
    refine swp_seq ?_
    refine swp_seq ?_
    refine swp_draw [3, 6, 10, 13] _ [] (by simp only [List.append_nil]; exact Ent.refl _) (by kernel_rfl) ?_
    refine d_pu 0 rfl (pu_move rfl) (by kernel_rfl) (by kernel_rfl) (by kernel_rfl) ?_
    first | refine d_pu 1 rfl (pu_nilCheck rfl) (by kernel_rfl) (by kernel_rfl) (by kernel_rfl) ?_ | refine d_pu 1 rfl (pu_nilCheck_fn rfl) (by kernel_rfl) (by kernel_rfl) (by kernel_rfl) ?_ | refine d_pu 1 rfl (pu_nilCheck_if rfl) (by kernel_rfl) (by kernel_rfl) (by kernel_rfl) ?_
    first | refine d_pu 2 rfl (pu_fieldAddr0 rfl) (by kernel_rfl) (by kernel_rfl) (by kernel_rfl) ?_ | refine d_pu 2 rfl (pu_fieldAddr rfl) (by kernel_rfl) (by kernel_rfl) (by kernel_rfl) ?_
    refine d_rd 3 rfl (rd_load rfl rfl) rfl (by kernel_rfl) (by kernel_rfl) (by kernel_rfl) ?_
    refine d_pu 4 rfl (pu_move rfl) (by kernel_rfl) (by kernel_rfl) (by kernel_rfl) ?_
    refine d_pu 5 rfl (pu_indexAddr (i * 2) rfl rfl (by omega) (by omega) (by simp)) (by kernel_rfl) (by kernel_rfl) (by kernel_rfl) ?_
    refine d_rd 6 rfl (rd_loadA (vs := wcs ei) rfl (by rfl) (flat_get wcs_len fs ex i ei hei)) rfl (by kernel_rfl) (by kernel_rfl) (by kernel_rfl) ?_
    refine d_pu 7 rfl (pu_move rfl) (by kernel_rfl) (by kernel_rfl) (by kernel_rfl) ?_
    first | refine d_pu 8 rfl (pu_nilCheck rfl) (by kernel_rfl) (by kernel_rfl) (by kernel_rfl) ?_ | refine d_pu 8 rfl (pu_nilCheck_fn rfl) (by kernel_rfl) (by kernel_rfl) (by kernel_rfl) ?_ | refine d_pu 8 rfl (pu_nilCheck_if rfl) (by kernel_rfl) (by kernel_rfl) (by kernel_rfl) ?_
    first | refine d_pu 9 rfl (pu_fieldAddr0 rfl) (by kernel_rfl) (by kernel_rfl) (by kernel_rfl) ?_ | refine d_pu 9 rfl (pu_fieldAddr rfl) (by kernel_rfl) (by kernel_rfl) (by kernel_rfl) ?_
    refine d_rd 10 rfl (rd_load rfl rfl) rfl (by kernel_rfl) (by kernel_rfl) (by kernel_rfl) ?_
    refine d_pu 11 rfl (pu_move rfl) (by kernel_rfl) (by kernel_rfl) (by kernel_rfl) ?_
    refine d_pu 12 rfl (pu_indexAddr ((i - 1) / 2 * 2) rfl rfl (by omega) (by omega) (by omega)) (by kernel_rfl) (by kernel_rfl) (by kernel_rfl) ?_
    refine d_rd 13 rfl (rd_loadA (vs := wcs ep) rfl (by rfl) (flat_get wcs_len fs ex ((i - 1) / 2) ep hep)) rfl (by kernel_rfl) (by kernel_rfl) (by kernel_rfl) ?_
    first | refine d_fint 14 rfl (by kernel_rfl) (by kernel_rfl) (ef_fn (ahead_w _ _ _ _) rfl rfl (by repeat (first | exact Split.nil | (apply Split.cons; (repeat (first | with_reducible exact Take.here | apply Take.there)))))) ?_ | refine d_finf 14 rfl (by kernel_rfl) (by kernel_rfl) (ef_fn (ahead_w _ _ _ _) rfl rfl (by repeat (first | exact Split.nil | (apply Split.cons; (repeat (first | with_reducible exact Take.here | apply Take.there)))))) ?_
    rintro v L1 ⟨rfl, rfl⟩
    refine swd_app ?_
    refine d_pu 15 rfl (pu_not rfl) (by kernel_rfl) (by kernel_rfl) (by kernel_rfl) ?_
    refine d_sub _ (.cons (t := 0) rfl (.cons (t := 4) rfl (.cons (t := 5) rfl (.cons (t := 56) rfl .nil)))) ?_
    first | refine d_nilt (by kernel_rfl) ?_ | refine d_nilf (by kernel_rfl) ?_
    refine then_n ?_
    refine swp_cond (b := _) rfl (fun h56 => ?_) (fun h56 => ?_)
    · skip   -- 56 T
      have hT : Hp.up aW es.length (es ++ [(x, nxt)]) es.length = fs := by
        rw [← hup]; exact Hp.up_stop hei hep (not_t h56)
      refine swp_ret ?_
      refine then_r ?_
      refine block_r ?_
      refine then_r ?_
      refine block_r ?_
      rw [hT]
      have hl' : fs.length = es.length + 1 := hl
      rw [← hl'] at h1 h4 ⊢
      first | exact done_retE [wraw q fs (nxt + 1)] .nil ⟨rfl, rfl⟩ ((Split.ent' (K := [blk g 84 (wents fs ++ ex), blk q 82 [.slice (some ⟨g, 0, none⟩) fs.length cap, .int .u64 ((nxt + 1 : Nat) : Int)]]) (by repeat (first | exact Split.nil | (apply Split.cons; (repeat (first | with_reducible exact Take.here | apply Take.there)))))).trans (wraw_close h1 h2 h4)) | exact done_endE [wraw q fs (nxt + 1)] .nil ⟨rfl, rfl⟩ ((Split.ent' (K := [blk g 84 (wents fs ++ ex), blk q 82 [.slice (some ⟨g, 0, none⟩) fs.length cap, .int .u64 ((nxt + 1 : Nat) : Int)]]) (by repeat (first | exact Split.nil | (apply Split.cons; (repeat (first | with_reducible exact Take.here | apply Take.there)))))).trans (wraw_close h1 h2 h4))
    · skip   -- 56 F
      have hel : (wents fs).length = (es.length + 1) * 2 := by rw [wents_len, hl]
      refine swp_skip ?_
      refine then_n ?_
      refine swp_seq ?_
      refine swp_draw [3, 8, 13, 16, 20, 23] _ [] (by simp only [List.append_nil]; exact Ent.refl _) (by kernel_rfl) ?_
      refine d_pu 0 rfl (pu_move rfl) (by kernel_rfl) (by kernel_rfl) (by kernel_rfl) ?_
      first | refine d_pu 1 rfl (pu_nilCheck rfl) (by kernel_rfl) (by kernel_rfl) (by kernel_rfl) ?_ | refine d_pu 1 rfl (pu_nilCheck_fn rfl) (by kernel_rfl) (by kernel_rfl) (by kernel_rfl) ?_ | refine d_pu 1 rfl (pu_nilCheck_if rfl) (by kernel_rfl) (by kernel_rfl) (by kernel_rfl) ?_
      first | refine d_pu 2 rfl (pu_fieldAddr0 rfl) (by kernel_rfl) (by kernel_rfl) (by kernel_rfl) ?_ | refine d_pu 2 rfl (pu_fieldAddr rfl) (by kernel_rfl) (by kernel_rfl) (by kernel_rfl) ?_
      refine d_rd 3 rfl (rd_load rfl rfl) rfl (by kernel_rfl) (by kernel_rfl) (by kernel_rfl) ?_
      refine d_pu 4 rfl (pu_move rfl) (by kernel_rfl) (by kernel_rfl) (by kernel_rfl) ?_
      refine d_pu 5 rfl (pu_move rfl) (by kernel_rfl) (by kernel_rfl) (by kernel_rfl) ?_
      first | refine d_pu 6 rfl (pu_nilCheck rfl) (by kernel_rfl) (by kernel_rfl) (by kernel_rfl) ?_ | refine d_pu 6 rfl (pu_nilCheck_fn rfl) (by kernel_rfl) (by kernel_rfl) (by kernel_rfl) ?_ | refine d_pu 6 rfl (pu_nilCheck_if rfl) (by kernel_rfl) (by kernel_rfl) (by kernel_rfl) ?_
      first | refine d_pu 7 rfl (pu_fieldAddr0 rfl) (by kernel_rfl) (by kernel_rfl) (by kernel_rfl) ?_ | refine d_pu 7 rfl (pu_fieldAddr rfl) (by kernel_rfl) (by kernel_rfl) (by kernel_rfl) ?_
      refine d_rd 8 rfl (rd_load rfl rfl) rfl (by kernel_rfl) (by kernel_rfl) (by kernel_rfl) ?_
      refine d_pu 9 rfl (pu_move rfl) (by kernel_rfl) (by kernel_rfl) (by kernel_rfl) ?_
      refine d_pu 10 rfl (pu_move rfl) (by kernel_rfl) (by kernel_rfl) (by kernel_rfl) ?_
      first | refine d_pu 11 rfl (pu_nilCheck rfl) (by kernel_rfl) (by kernel_rfl) (by kernel_rfl) ?_ | refine d_pu 11 rfl (pu_nilCheck_fn rfl) (by kernel_rfl) (by kernel_rfl) (by kernel_rfl) ?_ | refine d_pu 11 rfl (pu_nilCheck_if rfl) (by kernel_rfl) (by kernel_rfl) (by kernel_rfl) ?_
      first | refine d_pu 12 rfl (pu_fieldAddr0 rfl) (by kernel_rfl) (by kernel_rfl) (by kernel_rfl) ?_ | refine d_pu 12 rfl (pu_fieldAddr rfl) (by kernel_rfl) (by kernel_rfl) (by kernel_rfl) ?_
      refine d_rd 13 rfl (rd_load rfl rfl) rfl (by kernel_rfl) (by kernel_rfl) (by kernel_rfl) ?_
      refine d_pu 14 rfl (pu_move rfl) (by kernel_rfl) (by kernel_rfl) (by kernel_rfl) ?_
      refine d_pu 15 rfl (pu_indexAddr ((i - 1) / 2 * 2) rfl rfl (by omega) (by omega) (by omega)) (by kernel_rfl) (by kernel_rfl) (by kernel_rfl) ?_
      refine d_rd 16 rfl (rd_loadA (vs := wcs ep) rfl (by rfl) (flat_get wcs_len fs ex ((i - 1) / 2) ep hep)) rfl (by kernel_rfl) (by kernel_rfl) (by kernel_rfl) ?_
      refine d_pu 17 rfl (pu_move rfl) (by kernel_rfl) (by kernel_rfl) (by kernel_rfl) ?_
      first | refine d_pu 18 rfl (pu_nilCheck rfl) (by kernel_rfl) (by kernel_rfl) (by kernel_rfl) ?_ | refine d_pu 18 rfl (pu_nilCheck_fn rfl) (by kernel_rfl) (by kernel_rfl) (by kernel_rfl) ?_ | refine d_pu 18 rfl (pu_nilCheck_if rfl) (by kernel_rfl) (by kernel_rfl) (by kernel_rfl) ?_
      first | refine d_pu 19 rfl (pu_fieldAddr0 rfl) (by kernel_rfl) (by kernel_rfl) (by kernel_rfl) ?_ | refine d_pu 19 rfl (pu_fieldAddr rfl) (by kernel_rfl) (by kernel_rfl) (by kernel_rfl) ?_
      refine d_rd 20 rfl (rd_load rfl rfl) rfl (by kernel_rfl) (by kernel_rfl) (by kernel_rfl) ?_
      refine d_pu 21 rfl (pu_move rfl) (by kernel_rfl) (by kernel_rfl) (by kernel_rfl) ?_
      refine d_pu 22 rfl (pu_indexAddr (i * 2) rfl rfl (by omega) (by omega) (by omega)) (by kernel_rfl) (by kernel_rfl) (by kernel_rfl) ?_
      refine d_rd 23 rfl (rd_loadA (vs := wcs ei) rfl (by rfl) (flat_get wcs_len fs ex i ei hei)) rfl (by kernel_rfl) (by kernel_rfl) (by kernel_rfl) ?_
      refine d_pu 24 rfl (pu_indexAddr (i * 2) rfl rfl (by omega) (by omega) (by omega)) (by kernel_rfl) (by kernel_rfl) (by kernel_rfl) ?_
      first | refine d_fin0t 25 rfl (by kernel_rfl) (by kernel_rfl) (ef_storeAs (vs := wcs ep) rfl rfl (flat_over wcs_len fs ex i ep (by omega)) (by rw [List.length_append, ← wents, hel, wcs_len]; omega) rfl rfl) ?_ | refine d_fin0f 25 rfl (by kernel_rfl) (by kernel_rfl) (ef_storeAs (vs := wcs ep) rfl rfl (flat_over wcs_len fs ex i ep (by omega)) (by rw [List.length_append, ← wents, hel, wcs_len]; omega) rfl rfl) ?_
      refine d_pu 26 rfl (pu_indexAddr ((i - 1) / 2 * 2) rfl rfl (by omega) (by omega) (by omega)) (by kernel_rfl) (by kernel_rfl) (by kernel_rfl) ?_
      first | refine d_fin0t 27 rfl (by kernel_rfl) (by kernel_rfl) (ef_storeAs (vs := wcs ei) rfl rfl (flat_over wcs_len (fs.set i ep) ex ((i - 1) / 2) ei (by simp; omega)) (by rw [List.length_append, flat_length wcs_len, wcs_len, List.length_set]; omega) rfl rfl) ?_ | refine d_fin0f 27 rfl (by kernel_rfl) (by kernel_rfl) (ef_storeAs (vs := wcs ei) rfl rfl (flat_over wcs_len (fs.set i ep) ex ((i - 1) / 2) ei (by simp; omega)) (by rw [List.length_append, flat_length wcs_len, wcs_len, List.length_set]; omega) rfl rfl) ?_
      refine d_sub _ (.cons (t := 0) rfl (.cons (t := 5) rfl .nil)) ?_
      first | refine d_nilt (by kernel_rfl) ?_ | refine d_nilf (by kernel_rfl) ?_
      refine then_n ?_
      refine swp_region ?_
      refine s_pu (pu_move rfl) ?_
      refine s_pu (pu_assign rfl) ?_
      refine swl_sub _ (.cons (t := 0) rfl (.cons (t := 4) rfl .nil)) ?_
      refine swl_nil ?_
      refine block_n ?_
      refine then_n ⟨((i - 1) / 2, (fs.set i ep).set ((i - 1) / 2) ei), ⟨rfl, rfl, by simp [hl], by show (i - 1) / 2 ≤ es.length; omega, ?_⟩, by show (i - 1) / 2 < i; omega⟩
      rw [← hup, Hp.up_step h37' hei hep (not_f h56)]
  · skip   -- 37 F
    obtain rfl : i = 0 := by simp at h37; omega
    have hT : Hp.up aW es.length (es ++ [(x, nxt)]) es.length = fs := by rw [← hup]; rfl
    refine swp_exit ?_
    refine then_x ?_
    refine then_x ?_
    refine block_hit rfl ?_
    rw [hT]
    have hl' : fs.length = es.length + 1 := hl
    rw [← hl'] at h1 h4 ⊢
    first | exact done_retE [wraw q fs (nxt + 1)] .nil ⟨rfl, rfl⟩ ((Split.ent' (K := [blk g 84 (wents fs ++ ex), blk q 82 [.slice (some ⟨g, 0, none⟩) fs.length cap, .int .u64 ((nxt + 1 : Nat) : Int)]]) (by repeat (first | exact Split.nil | (apply Split.cons; (repeat (first | with_reducible exact Take.here | apply Take.there)))))).trans (wraw_close h1 h2 h4)) | exact done_endE [wraw q fs (nxt + 1)] .nil ⟨rfl, rfl⟩ ((Split.ent' (K := [blk g 84 (wents fs ++ ex), blk q 82 [.slice (some ⟨g, 0, none⟩) fs.length cap, .int .u64 ((nxt + 1 : Nat) : Int)]]) (by repeat (first | exact Split.nil | (apply Split.cons; (repeat (first | with_reducible exact Take.here | apply Take.there)))))).trans (wraw_close h1 h2 h4))
end SX.Wd
