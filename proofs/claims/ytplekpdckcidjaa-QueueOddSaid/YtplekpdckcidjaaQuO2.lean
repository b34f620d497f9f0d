/- A part of the proof: walks of the seat's functions, by the rules of the texts that it imports. -/
import Derived.Test.YtplekpdckcidjaaQuO1
namespace SX
open Go Go.Proofs

abbrev OE := Int × Nat
def dcs (p : Nat) (e : OE) : List Value := [.int .i64 e.1, .pointer (some ⟨p, 0, none⟩), .int .u64 (e.2 : Nat)]
theorem dcs_len (p : Nat) (e : OE) : (dcs p e).length = 3 := rfl
def dents (p : Nat) (es : List OE) : List Value := es.flatMap (dcs p)
def odV (p : Nat) (n : Int) : Value := .agg #[.int .i64 n, .pointer (some ⟨p, 0, none⟩)]
theorem dents_snoc (p : Nat) (es : List OE) (x : Int) (n : Nat) : dents p es ++ [.int .i64 x, .pointer (some ⟨p, 0, none⟩), .int .u64 (n : Nat)] = dents p (es ++ [(x, n)]) := by simp [dents, dcs]

/-- a queue's struct and its array -/
def oraw (p q : Nat) (es : List OE) (nxt : Nat) : Assn := exA (fun v : Value => [blk q 96 [v, .int .u64 (nxt : Nat)], own 98 3 v es.length (dents p es)])
theorem dents_len (p : Nat) (es : List OE) : (dents p es).length = es.length * 3 := by unfold dents; rw [flat_length (dcs_len p)]
theorem oraw_close {p q g cap nxt : Nat} {es : List OE} {ex : List Value} {L : List Assn} (h1 : es.length ≤ cap) (h2 : cap ≤ maxLen) (h4 : ex.length = (cap - es.length) * 3) :
    Ent (blk g 98 (dents p es ++ ex) :: blk q 96 [.slice (some ⟨g, 0, none⟩) es.length cap, .int .u64 (nxt : Nat)] :: L) (oraw p q es nxt :: L) :=
  (own_close (dents_len p es) h4 h1 h2).trans (ent_ex (F := fun v => [blk q 96 [v, .int .u64 (nxt : Nat)], own 98 3 v es.length (dents p es)]) (.slice (some ⟨g, 0, none⟩) es.length cap) (by repeat (first | exact Split.nil | (apply Split.cons; (repeat (first | with_reducible exact Take.here | apply Take.there))))))

set_option maxHeartbeats 1000000 in
theorem push_odd (μ : PH) (p q : Nat) (bv : Value) (bits : List Bool) (c : Nat) (es : List OE) (nxt : Nat) (x : Int) (hb : Row μ bv 1 bits.length (bits.flatMap bcs)) (hb1 : es.length ≤ 1048576) (hb2 : nxt ≤ 18446744073709551614) (hc : c + 2 * es.length ≤ 1099511627776) :
    Spec Try.prog 21 [.pointer (some ⟨q, 0, none⟩), odV p x] [oraw p q es nxt, blk p 53 [bv, .int .i64 (c : Nat)], ro μ]
      (fun v L => v = .tuple #[] ∧ ∃ fs c', fs.Perm (es ++ [(x, nxt)]) ∧ c ≤ c' ∧ c' ≤ c + 2 * es.length ∧ L = [oraw p q fs (nxt + 1), blk p 53 [bv, .int .i64 (c' : Nat)], ro μ]) := by
  refine Spec.of 84 Try.func21 rfl rfl rfl ?_
  refine swp_ex fun v => ?_
  refine swp_app ?_
  refine swp_seq ?_
  refine swp_region ?_
  refine s_ef (ef_box rfl rfl) ?_
  intro b3
  refine swl_sub _ (.cons (t := 0) rfl (.cons (t := 3) rfl .nil)) ?_
  refine swl_nil ?_
  refine then_n ?_
  refine swp_seq ?_
  refine swp_seq ?_
  refine swp_region ?_
  refine s_pu (pu_move rfl) ?_
  refine s_pu (pu_ptr_eq_nil rfl rfl) ?_
  refine swl_sub _ (.cons (t := 0) rfl (.cons (t := 3) rfl (.cons (t := 7) rfl .nil))) ?_
  refine swl_nil ?_
  refine then_n ?_
  refine swp_cond (b := _) rfl (fun h7 => ?_) (fun h7 => ?_)
  · cases h7
  · skip
    refine swp_skip ?_
    refine then_n ?_
    refine swp_seq ?_
    refine swp_draw [4, 5, 9] _ [] (by simp only [List.append_nil]; exact Ent.refl _) (by kernel_rfl) ?_
    refine d_pu 0 rfl (pu_move rfl) (by kernel_rfl) (by kernel_rfl) (by kernel_rfl) ?_
    refine d_pu 1 rfl (pu_move rfl) (by kernel_rfl) (by kernel_rfl) (by kernel_rfl) ?_
    first | refine d_pu 2 rfl (pu_nilCheck rfl) (by kernel_rfl) (by kernel_rfl) (by kernel_rfl) ?_ | refine d_pu 2 rfl (pu_nilCheck_fn rfl) (by kernel_rfl) (by kernel_rfl) (by kernel_rfl) ?_ | refine d_pu 2 rfl (pu_nilCheck_if rfl) (by kernel_rfl) (by kernel_rfl) (by kernel_rfl) ?_
    first | refine d_pu 3 rfl (pu_fieldAddr0 rfl) (by kernel_rfl) (by kernel_rfl) (by kernel_rfl) ?_ | refine d_pu 3 rfl (pu_fieldAddr rfl) (by kernel_rfl) (by kernel_rfl) (by kernel_rfl) ?_
    refine d_rd 4 rfl (rd_load rfl rfl) rfl (by kernel_rfl) (by kernel_rfl) (by kernel_rfl) ?_
    first | refine d_rd 5 rfl (rd_loadW rfl rfl) rfl (by kernel_rfl) (by kernel_rfl) (by kernel_rfl) ?_ | refine d_rd 5 rfl (rd_loadX rfl rfl rfl) rfl (by kernel_rfl) (by kernel_rfl) (by kernel_rfl) ?_
    refine d_pu 6 rfl (pu_move rfl) (by kernel_rfl) (by kernel_rfl) (by kernel_rfl) ?_
    first | refine d_pu 7 rfl (pu_nilCheck rfl) (by kernel_rfl) (by kernel_rfl) (by kernel_rfl) ?_ | refine d_pu 7 rfl (pu_nilCheck_fn rfl) (by kernel_rfl) (by kernel_rfl) (by kernel_rfl) ?_ | refine d_pu 7 rfl (pu_nilCheck_if rfl) (by kernel_rfl) (by kernel_rfl) (by kernel_rfl) ?_
    first | refine d_pu 8 rfl (pu_fieldAddr0 rfl) (by kernel_rfl) (by kernel_rfl) (by kernel_rfl) ?_ | refine d_pu 8 rfl (pu_fieldAddr rfl) (by kernel_rfl) (by kernel_rfl) (by kernel_rfl) ?_
    refine d_rd 9 rfl (rd_load rfl rfl) rfl (by kernel_rfl) (by kernel_rfl) (by kernel_rfl) ?_
    refine d_pu 10 rfl (pu_bld (qs := [(0, _), (1, _)]) rfl) (by kernel_rfl) (by kernel_rfl) (by kernel_rfl) ?_
    refine d_eft 11 rfl (by kernel_rfl) (ef_bldS (qs := [(0, _)]) rfl rfl rfl) ?_
    intro b19
    refine ⟨_, Split.ent (by repeat (first | exact Split.nil | (apply Split.cons; (repeat (first | with_reducible exact Take.here | apply Take.there))))), ?_⟩
    first | refine d_fint 12 rfl (by kernel_rfl) (by kernel_rfl) (ef_append_lit (l := es.length) (m := 1) rfl rfl (by repeat (first | exact Split.nil | (apply Split.cons; (repeat (first | with_reducible exact Take.here | apply Take.there))))) (by simp only [maxLen]; omega) (by omega)) ?_ | refine d_finf 12 rfl (by kernel_rfl) (by kernel_rfl) (ef_append_lit (l := es.length) (m := 1) rfl rfl (by repeat (first | exact Split.nil | (apply Split.cons; (repeat (first | with_reducible exact Take.here | apply Take.there))))) (by simp only [maxLen]; omega) (by omega)) ?_
    intro v' hv'
    obtain ⟨g, cap, rfl⟩ := hv' (by decide)
    rw [dents_snoc]
    first | refine d_pu 13 rfl (pu_nilCheck rfl) (by kernel_rfl) (by kernel_rfl) (by kernel_rfl) ?_ | refine d_pu 13 rfl (pu_nilCheck_fn rfl) (by kernel_rfl) (by kernel_rfl) (by kernel_rfl) ?_ | refine d_pu 13 rfl (pu_nilCheck_if rfl) (by kernel_rfl) (by kernel_rfl) (by kernel_rfl) ?_
    first | refine d_pu 14 rfl (pu_fieldAddr0 rfl) (by kernel_rfl) (by kernel_rfl) (by kernel_rfl) ?_ | refine d_pu 14 rfl (pu_fieldAddr rfl) (by kernel_rfl) (by kernel_rfl) (by kernel_rfl) ?_
    first | refine d_fin0t 15 rfl (by kernel_rfl) (by kernel_rfl) (ef_store rfl rfl rfl) ?_ | refine d_fin0f 15 rfl (by kernel_rfl) (by kernel_rfl) (ef_store rfl rfl rfl) ?_
    first | refine d_nilt (by kernel_rfl) ?_ | refine d_nilf (by kernel_rfl) ?_
    refine then_n ?_
    refine swp_seq ?_
    refine swp_region ?_
    refine s_pu (pu_move rfl) ?_
    first | refine s_pu (pu_nilCheck rfl) ?_ | refine s_pu (pu_nilCheck_fn rfl) ?_ | refine s_pu (pu_nilCheck_if rfl) ?_
    first | refine s_pu (pu_fieldAddr0 rfl) ?_ | refine s_pu (pu_fieldAddr rfl) ?_
    refine s_rd (rd_load rfl rfl) ?_
    refine s_pu (pu_add_u64 ((nxt + 1 : Nat) : Int) rfl rfl (by omega) (by omega) (by omega)) ?_
    first | refine s_pu (pu_nilCheck rfl) ?_ | refine s_pu (pu_nilCheck_fn rfl) ?_ | refine s_pu (pu_nilCheck_if rfl) ?_
    first | refine s_pu (pu_fieldAddr0 rfl) ?_ | refine s_pu (pu_fieldAddr rfl) ?_
    refine s_ef0 (ef_store rfl rfl rfl) ?_
    refine swl_sub _ (.cons (t := 0) rfl .nil) ?_
    refine swl_nil ?_
    refine then_n ?_
    refine swp_seq ?_
    refine swp_region ?_
    refine s_pu (pu_move rfl) ?_
    first | refine s_pu (pu_nilCheck rfl) ?_ | refine s_pu (pu_nilCheck_fn rfl) ?_ | refine s_pu (pu_nilCheck_if rfl) ?_
    first | refine s_pu (pu_fieldAddr0 rfl) ?_ | refine s_pu (pu_fieldAddr rfl) ?_
    refine s_rd (rd_load rfl rfl) ?_
    refine s_pu (pu_len rfl) ?_
    refine s_pu (pu_sub_as (es.length : Int) rfl rfl (by omega) (by omega) (by omega)) ?_
    refine s_pu (pu_assign rfl) ?_
    refine swl_sub _ (.cons (t := 0) rfl (.cons (t := 4) rfl .nil)) ?_
    refine swl_nil ?_
    refine then_n ?_
    refine swp_front .here ?_
    refine swp_own (fun h _ _ => by cases h) (fun hb cap' ex hv h1 h2 h3 h4 => ?_)
    cases hv
    have hlen : (es ++ [(x, nxt)]).length = es.length + 1 := by simp
    refine swp_block ?_
    refine swp_loop (ι := Nat × List OE × Nat) (fun k env L => env = [(0, .pointer (some ⟨q, 0, none⟩)), (4, .int .i64 (k.1 : Nat))] ∧
      L = [blk g 98 (dents p k.2.1 ++ ex), blk b3 57 [.int .i64 x, .pointer (some ⟨p, 0, none⟩)], blk q 96 [.slice (some ⟨g, 0, none⟩) (es.length + 1) cap, .int .u64 ((nxt + 1 : Nat) : Int)], blk p 53 [bv, .int .i64 (k.2.2 : Nat)], ro μ] ∧
      k.2.1.length = es.length + 1 ∧ k.1 ≤ es.length ∧ k.2.1.Perm (es ++ [(x, nxt)]) ∧ c ≤ k.2.2 ∧ k.2.2 + 2 * k.1 ≤ c + 2 * es.length) (fun k => k.1) (es.length, es ++ [(x, nxt)], c) ⟨rfl, rfl, hlen, Nat.le_refl _, List.Perm.refl _, Nat.le_refl _, Nat.le_refl _⟩ ?_
    rintro ⟨i, fs, d⟩ env L ⟨rfl, rfl, hl, hi, hup, hd1, hd2⟩
    simp only [] at hl hi hup hd1 hd2
    refine swp_seq ?_
    refine swp_seq ?_
    refine swp_region ?_
    refine s_pu (pu_move rfl) ?_
    refine s_pu (pu_gtr rfl rfl) ?_
    refine swl_sub _ (.cons (t := 0) rfl (.cons (t := 4) rfl (.cons (t := 37) rfl .nil))) ?_
    refine swl_nil ?_
    refine then_n ?_
    refine swp_cond (b := _) rfl (fun h37 => ?_) (fun h37 => ?_)
    · skip
      have h37' : 0 < i := by simpa using h37
      obtain ⟨ei, hei⟩ : ∃ e, fs[i]? = some e := ⟨_, List.getElem?_eq_getElem (by omega)⟩
      obtain ⟨ep, hep⟩ : ∃ e, fs[(i - 1) / 2]? = some e := ⟨_, List.getElem?_eq_getElem (by omega)⟩
      refine swp_skip ?_
      refine then_n ?_
      refine swp_block ?_
      refine swp_seq ?_
      refine swp_region ?_
      refine s_pu (pu_move rfl) ?_
      first | refine s_pu (pu_sub_in rfl rfl (by omega) (by omega)) ?_ | refine s_pu (pu_sub rfl rfl) ?_
      refine s_pu (pu_quo_as (((i - 1) / 2 : Nat) : Int) rfl rfl (by omega) (by omega) (by omega) (by omega)) ?_
      refine s_pu (pu_assign rfl) ?_
      refine swl_sub _ (.cons (t := 0) rfl (.cons (t := 4) rfl (.cons (t := 5) rfl .nil))) ?_
      refine swl_nil ?_
      refine then_n ?_
      refine swp_seq ?_
      refine swp_seq ?_
      refine swp_draw [3, 6, 10, 13] _ [] (by simp only [List.append_nil]; exact Ent.refl _) (by kernel_rfl) ?_
      refine d_pu 0 rfl (pu_move rfl) (by kernel_rfl) (by kernel_rfl) (by kernel_rfl) ?_
      first | refine d_pu 1 rfl (pu_nilCheck rfl) (by kernel_rfl) (by kernel_rfl) (by kernel_rfl) ?_ | refine d_pu 1 rfl (pu_nilCheck_fn rfl) (by kernel_rfl) (by kernel_rfl) (by kernel_rfl) ?_ | refine d_pu 1 rfl (pu_nilCheck_if rfl) (by kernel_rfl) (by kernel_rfl) (by kernel_rfl) ?_
      first | refine d_pu 2 rfl (pu_fieldAddr0 rfl) (by kernel_rfl) (by kernel_rfl) (by kernel_rfl) ?_ | refine d_pu 2 rfl (pu_fieldAddr rfl) (by kernel_rfl) (by kernel_rfl) (by kernel_rfl) ?_
      refine d_rd 3 rfl (rd_load rfl rfl) rfl (by kernel_rfl) (by kernel_rfl) (by kernel_rfl) ?_
      refine d_pu 4 rfl (pu_move rfl) (by kernel_rfl) (by kernel_rfl) (by kernel_rfl) ?_
      refine d_pu 5 rfl (pu_indexAddr (i * 3) rfl rfl (by omega) (by omega) (by simp)) (by kernel_rfl) (by kernel_rfl) (by kernel_rfl) ?_
      refine d_rd 6 rfl (rd_loadA (vs := dcs p ei) rfl (by rfl) (flat_get (dcs_len p) fs ex i ei hei)) rfl (by kernel_rfl) (by kernel_rfl) (by kernel_rfl) ?_
      refine d_pu 7 rfl (pu_move rfl) (by kernel_rfl) (by kernel_rfl) (by kernel_rfl) ?_
      first | refine d_pu 8 rfl (pu_nilCheck rfl) (by kernel_rfl) (by kernel_rfl) (by kernel_rfl) ?_ | refine d_pu 8 rfl (pu_nilCheck_fn rfl) (by kernel_rfl) (by kernel_rfl) (by kernel_rfl) ?_ | refine d_pu 8 rfl (pu_nilCheck_if rfl) (by kernel_rfl) (by kernel_rfl) (by kernel_rfl) ?_
      first | refine d_pu 9 rfl (pu_fieldAddr0 rfl) (by kernel_rfl) (by kernel_rfl) (by kernel_rfl) ?_ | refine d_pu 9 rfl (pu_fieldAddr rfl) (by kernel_rfl) (by kernel_rfl) (by kernel_rfl) ?_
      refine d_rd 10 rfl (rd_load rfl rfl) rfl (by kernel_rfl) (by kernel_rfl) (by kernel_rfl) ?_
      refine d_pu 11 rfl (pu_move rfl) (by kernel_rfl) (by kernel_rfl) (by kernel_rfl) ?_
      refine d_pu 12 rfl (pu_indexAddr ((i - 1) / 2 * 3) rfl rfl (by omega) (by omega) (by omega)) (by kernel_rfl) (by kernel_rfl) (by kernel_rfl) ?_
      refine d_rd 13 rfl (rd_loadA (vs := dcs p ep) rfl (by rfl) (flat_get (dcs_len p) fs ex ((i - 1) / 2) ep hep)) rfl (by kernel_rfl) (by kernel_rfl) (by kernel_rfl) ?_
      first | refine d_fint 14 rfl (by kernel_rfl) (by kernel_rfl) (ef_fn (ahead_odd μ p bv bits d _ _ _ _ hb (by omega)) rfl rfl (by repeat (first | exact Split.nil | (apply Split.cons; (repeat (first | with_reducible exact Take.here | apply Take.there)))))) ?_ | refine d_finf 14 rfl (by kernel_rfl) (by kernel_rfl) (ef_fn (ahead_odd μ p bv bits d _ _ _ _ hb (by omega)) rfl rfl (by repeat (first | exact Split.nil | (apply Split.cons; (repeat (first | with_reducible exact Take.here | apply Take.there)))))) ?_
      rintro v L1 ⟨b, d', rfl, hd3, hd4, rfl⟩
      refine swd_app ?_
      refine d_pu 15 rfl (pu_not rfl) (by kernel_rfl) (by kernel_rfl) (by kernel_rfl) ?_
      first | refine d_nilt (by kernel_rfl) ?_ | refine d_nilf (by kernel_rfl) ?_
      refine then_n ?_
      refine swp_cond (b := _) rfl (fun h56 => ?_) (fun h56 => ?_)
      · skip
        refine swp_ret ?_
        refine then_r ?_
        refine block_r ?_
        refine then_r ?_
        refine block_r ?_
        have hl' : fs.length = es.length + 1 := hl
        rw [← hl'] at h1 h4 ⊢
        exact done_retE [oraw p q fs (nxt + 1), blk p 53 [bv, .int .i64 (d' : Nat)], ro μ] .nil ⟨rfl, fs, d', hup, by omega, by omega, rfl⟩
          ((Split.ent' (K := [blk g 98 (dents p fs ++ ex), blk q 96 [.slice (some ⟨g, 0, none⟩) fs.length cap, .int .u64 ((nxt + 1 : Nat) : Int)], blk p 53 [bv, .int .i64 (d' : Nat)], ro μ]) (by repeat (first | exact Split.nil | (apply Split.cons; (repeat (first | with_reducible exact Take.here | apply Take.there)))))).trans (oraw_close h1 h2 h4))
      · skip
        refine swp_skip ?_
        refine then_n ?_
        refine swp_seq ?_
        have hel : (dents p fs).length = (es.length + 1) * 3 := by rw [dents_len, hl]
        refine swp_draw [3, 8, 13, 16, 20, 23] _ [] (by simp only [List.append_nil]; exact Ent.refl _) (by kernel_rfl) ?_
        refine d_pu 0 rfl (pu_move rfl) (by kernel_rfl) (by kernel_rfl) (by kernel_rfl) ?_
        first | refine d_pu 1 rfl (pu_nilCheck rfl) (by kernel_rfl) (by kernel_rfl) (by kernel_rfl) ?_ | refine d_pu 1 rfl (pu_nilCheck_fn rfl) (by kernel_rfl) (by kernel_rfl) (by kernel_rfl) ?_ | refine d_pu 1 rfl (pu_nilCheck_if rfl) (by kernel_rfl) (by kernel_rfl) (by kernel_rfl) ?_
        first | refine d_pu 2 rfl (pu_fieldAddr0 rfl) (by kernel_rfl) (by kernel_rfl) (by kernel_rfl) ?_ | refine d_pu 2 rfl (pu_fieldAddr rfl) (by kernel_rfl) (by kernel_rfl) (by kernel_rfl) ?_
        refine d_rd 3 rfl (rd_load rfl rfl) rfl (by kernel_rfl) (by kernel_rfl) (by kernel_rfl) ?_
        refine d_pu 4 rfl (pu_move rfl) (by kernel_rfl) (by kernel_rfl) (by kernel_rfl) ?_
        refine d_pu 5 rfl (pu_move rfl) (by kernel_rfl) (by kernel_rfl) (by kernel_rfl) ?_
        first | refine d_pu 6 rfl (pu_nilCheck rfl) (by kernel_rfl) (by kernel_rfl) (by kernel_rfl) ?_ | refine d_pu 6 rfl (pu_nilCheck_fn rfl) (by kernel_rfl) (by kernel_rfl) (by kernel_rfl) ?_ | refine d_pu 6 rfl (pu_nilCheck_if rfl) (by kernel_rfl) (by kernel_rfl) (by kernel_rfl) ?_
        first | refine d_pu 7 rfl (pu_fieldAddr0 rfl) (by kernel_rfl) (by kernel_rfl) (by kernel_rfl) ?_ | refine d_pu 7 rfl (pu_fieldAddr rfl) (by kernel_rfl) (by kernel_rfl) (by kernel_rfl) ?_
        refine d_rd 8 rfl (rd_load rfl rfl) rfl (by kernel_rfl) (by kernel_rfl) (by kernel_rfl) ?_
        refine d_pu 9 rfl (pu_move rfl) (by kernel_rfl) (by kernel_rfl) (by kernel_rfl) ?_
        refine d_pu 10 rfl (pu_move rfl) (by kernel_rfl) (by kernel_rfl) (by kernel_rfl) ?_
        first | refine d_pu 11 rfl (pu_nilCheck rfl) (by kernel_rfl) (by kernel_rfl) (by kernel_rfl) ?_ | refine d_pu 11 rfl (pu_nilCheck_fn rfl) (by kernel_rfl) (by kernel_rfl) (by kernel_rfl) ?_ | refine d_pu 11 rfl (pu_nilCheck_if rfl) (by kernel_rfl) (by kernel_rfl) (by kernel_rfl) ?_
        first | refine d_pu 12 rfl (pu_fieldAddr0 rfl) (by kernel_rfl) (by kernel_rfl) (by kernel_rfl) ?_ | refine d_pu 12 rfl (pu_fieldAddr rfl) (by kernel_rfl) (by kernel_rfl) (by kernel_rfl) ?_
        refine d_rd 13 rfl (rd_load rfl rfl) rfl (by kernel_rfl) (by kernel_rfl) (by kernel_rfl) ?_
        refine d_pu 14 rfl (pu_move rfl) (by kernel_rfl) (by kernel_rfl) (by kernel_rfl) ?_
        refine d_pu 15 rfl (pu_indexAddr ((i - 1) / 2 * 3) rfl rfl (by omega) (by omega) (by omega)) (by kernel_rfl) (by kernel_rfl) (by kernel_rfl) ?_
        refine d_rd 16 rfl (rd_loadA (vs := dcs p ep) rfl (by rfl) (flat_get (dcs_len p) fs ex ((i - 1) / 2) ep hep)) rfl (by kernel_rfl) (by kernel_rfl) (by kernel_rfl) ?_
        refine d_pu 17 rfl (pu_move rfl) (by kernel_rfl) (by kernel_rfl) (by kernel_rfl) ?_
        first | refine d_pu 18 rfl (pu_nilCheck rfl) (by kernel_rfl) (by kernel_rfl) (by kernel_rfl) ?_ | refine d_pu 18 rfl (pu_nilCheck_fn rfl) (by kernel_rfl) (by kernel_rfl) (by kernel_rfl) ?_ | refine d_pu 18 rfl (pu_nilCheck_if rfl) (by kernel_rfl) (by kernel_rfl) (by kernel_rfl) ?_
        first | refine d_pu 19 rfl (pu_fieldAddr0 rfl) (by kernel_rfl) (by kernel_rfl) (by kernel_rfl) ?_ | refine d_pu 19 rfl (pu_fieldAddr rfl) (by kernel_rfl) (by kernel_rfl) (by kernel_rfl) ?_
        refine d_rd 20 rfl (rd_load rfl rfl) rfl (by kernel_rfl) (by kernel_rfl) (by kernel_rfl) ?_
        refine d_pu 21 rfl (pu_move rfl) (by kernel_rfl) (by kernel_rfl) (by kernel_rfl) ?_
        refine d_pu 22 rfl (pu_indexAddr (i * 3) rfl rfl (by omega) (by omega) (by omega)) (by kernel_rfl) (by kernel_rfl) (by kernel_rfl) ?_
        refine d_rd 23 rfl (rd_loadA (vs := dcs p ei) rfl (by rfl) (flat_get (dcs_len p) fs ex i ei hei)) rfl (by kernel_rfl) (by kernel_rfl) (by kernel_rfl) ?_
        refine d_pu 24 rfl (pu_indexAddr (i * 3) rfl rfl (by omega) (by omega) (by omega)) (by kernel_rfl) (by kernel_rfl) (by kernel_rfl) ?_
        first | refine d_fin0t 25 rfl (by kernel_rfl) (by kernel_rfl) (ef_storeAs (vs := dcs p ep) rfl rfl (flat_over (dcs_len p) fs ex i ep (by omega)) (by rw [List.length_append, ← dents, hel, dcs_len]; omega) rfl rfl) ?_ | refine d_fin0f 25 rfl (by kernel_rfl) (by kernel_rfl) (ef_storeAs (vs := dcs p ep) rfl rfl (flat_over (dcs_len p) fs ex i ep (by omega)) (by rw [List.length_append, ← dents, hel, dcs_len]; omega) rfl rfl) ?_
        refine d_pu 26 rfl (pu_indexAddr ((i - 1) / 2 * 3) rfl rfl (by omega) (by omega) (by omega)) (by kernel_rfl) (by kernel_rfl) (by kernel_rfl) ?_
        first | refine d_fin0t 27 rfl (by kernel_rfl) (by kernel_rfl) (ef_storeAs (vs := dcs p ei) rfl rfl (flat_over (dcs_len p) (fs.set i ep) ex ((i - 1) / 2) ei (by simp; omega)) (by rw [List.length_append, flat_length (dcs_len p), dcs_len, List.length_set]; omega) rfl rfl) ?_ | refine d_fin0f 27 rfl (by kernel_rfl) (by kernel_rfl) (ef_storeAs (vs := dcs p ei) rfl rfl (flat_over (dcs_len p) (fs.set i ep) ex ((i - 1) / 2) ei (by simp; omega)) (by rw [List.length_append, flat_length (dcs_len p), dcs_len, List.length_set]; omega) rfl rfl) ?_
        first | refine d_nilt (by kernel_rfl) ?_ | refine d_nilf (by kernel_rfl) ?_
        refine then_n ?_
        refine swp_region ?_
        refine s_pu (pu_move rfl) ?_
        refine s_pu (pu_assign rfl) ?_
        refine swl_sub _ (.cons (t := 0) rfl (.cons (t := 4) rfl .nil)) ?_
        refine swl_ent (Split.ent' (K := [blk g 98 (((fs.set i ep).set ((i - 1) / 2) ei).flatMap (dcs p) ++ ex), blk b3 57 [.int .i64 x, .pointer (some ⟨p, 0, none⟩)], blk q 96 [.slice (some ⟨g, 0, none⟩) (es.length + 1) cap, .int .u64 ((nxt + 1 : Nat) : Int)], blk p 53 [bv, .int .i64 (d' : Nat)], ro μ]) (by repeat (first | exact Split.nil | (apply Split.cons; (repeat (first | with_reducible exact Take.here | apply Take.there)))))) ?_
        refine swl_nil ?_
        refine block_n ?_
        refine then_n ⟨((i - 1) / 2, (fs.set i ep).set ((i - 1) / 2) ei, d'), ⟨rfl, ?_, by simp [hl], by show (i - 1) / 2 ≤ es.length; omega, (Hp.swap_perm fs hei hep (by omega)).trans hup, by show c ≤ d'; omega, by show d' + 2 * ((i - 1) / 2) ≤ _; omega⟩, by show (i - 1) / 2 < i; omega⟩
        rfl
    · skip
      refine swp_exit ?_
      refine then_x ?_
      refine then_x ?_
      refine block_hit rfl ?_
      have hl' : fs.length = es.length + 1 := hl
      rw [← hl'] at h1 h4 ⊢
      exact done_endE [oraw p q fs (nxt + 1), blk p 53 [bv, .int .i64 (d : Nat)], ro μ] .nil ⟨rfl, fs, d, hup, by omega, by omega, rfl⟩
          ((Split.ent' (K := [blk g 98 (dents p fs ++ ex), blk q 96 [.slice (some ⟨g, 0, none⟩) fs.length cap, .int .u64 ((nxt + 1 : Nat) : Int)], blk p 53 [bv, .int .i64 (d : Nat)], ro μ]) (by repeat (first | exact Split.nil | (apply Split.cons; (repeat (first | with_reducible exact Take.here | apply Take.there)))))).trans (oraw_close h1 h2 h4))
end SX
