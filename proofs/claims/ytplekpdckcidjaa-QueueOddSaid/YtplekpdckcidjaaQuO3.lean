/- A part of the proof: walks of the seat's functions, by the rules of the texts that it imports. -/
import Derived.Test.YtplekpdckcidjaaQuO2
namespace SX
open Go Go.Proofs

set_option maxHeartbeats 2000000 in
theorem sink_odd (μ : PH) (p q g cap : Nat) (nx bv : Value) (bits : List Bool) (c : Nat) (es : List OE) (ex : List Value) (hb : Row μ bv 1 bits.length (bits.flatMap bcs)) (hb1 : es.length ≤ 1048576) (hc : c + 4 * es.length + 4 ≤ 1099511627776) :
    Spec Try.prog 39 [.pointer (some ⟨q, 0, none⟩)] [blk q 96 [.slice (some ⟨g, 0, none⟩) es.length cap, nx], blk g 98 (dents p es ++ ex), blk p 53 [bv, .int .i64 (c : Nat)], ro μ]
      (fun v L => v = .tuple #[] ∧ ∃ fs c', fs.Perm es ∧ c ≤ c' ∧ c' ≤ c + 4 * es.length + 4 ∧ L = [blk q 96 [.slice (some ⟨g, 0, none⟩) es.length cap, nx], blk g 98 (dents p fs ++ ex), blk p 53 [bv, .int .i64 (c' : Nat)], ro μ]) := by
  refine Spec.of 71 Try.func39 rfl rfl rfl ?_
  refine swp_seq ?_
  refine swp_region ?_
  refine s_pu (pu_assign rfl) ?_
  refine swl_sub _ (.cons (t := 0) rfl (.cons (t := 2) rfl .nil)) ?_
  refine swl_nil ?_
  refine then_n ?_
  refine swp_block ?_
  refine swp_loop (ι := Nat × List OE × Nat) (fun k env L => env = [(0, .pointer (some ⟨q, 0, none⟩)), (2, .int .i64 (k.1 : Nat))] ∧
      L = [blk q 96 [.slice (some ⟨g, 0, none⟩) es.length cap, nx], blk g 98 (dents p k.2.1 ++ ex), blk p 53 [bv, .int .i64 (k.2.2 : Nat)], ro μ] ∧
      k.2.1.length = es.length ∧ (k.1 < es.length ∨ k.1 = 0) ∧ k.2.1.Perm es ∧ c ≤ k.2.2 ∧ k.2.2 + 4 * (es.length - k.1) ≤ c + 4 * es.length) (fun k => es.length - k.1) (0, es, c) ⟨rfl, rfl, rfl, .inr rfl, List.Perm.refl _, Nat.le_refl _, Nat.le_refl _⟩ ?_
  rintro ⟨i, fs, d⟩ env L ⟨rfl, rfl, hl, hi, hpm, hd1, hd2⟩
  simp only [] at hl hi hpm hd1 hd2
  refine swp_block ?_
  refine swp_seq ?_
  refine swp_region ?_
  refine s_pu (pu_move rfl) ?_
  refine s_pu (pu_assign rfl) ?_
  refine swl_sub _ (.cons (t := 0) rfl (.cons (t := 2) rfl (.cons (t := 3) rfl .nil))) ?_
  refine swl_nil ?_
  refine then_n ?_
  refine swp_cut (fun env L => ∃ m d' : Nat, (m = i ∨ (i < m ∧ m < es.length)) ∧ d ≤ d' ∧ d' ≤ d + 4 ∧ env = [(0, .pointer (some ⟨q, 0, none⟩)), (2, .int .i64 (i : Nat)), (3, .int .i64 (m : Nat))] ∧ L = [blk q 96 [.slice (some ⟨g, 0, none⟩) es.length cap, nx], blk g 98 (dents p fs ++ ex), blk p 53 [bv, .int .i64 (d' : Nat)], ro μ]) ?_ ?_
  · skip
    refine swp_seq ?_
    refine swp_region ?_
    refine s_pu (pu_move rfl) ?_
    first | refine s_pu (pu_mul_in rfl rfl (by omega) (by omega)) ?_ | refine s_pu (pu_mul rfl rfl) ?_
    refine s_pu (pu_add_as ((2 * i + 1 + 0 : Nat) : Int) rfl rfl (by omega) (by omega) (by omega)) ?_
    refine s_pu (pu_assign rfl) ?_
    refine swl_sub _ (.cons (t := 0) rfl (.cons (t := 2) rfl (.cons (t := 3) rfl (.cons (t := 4) rfl .nil)))) ?_
    refine swl_nil ?_
    refine then_n ?_
    refine swp_block ?_
    refine swp_loop (ι := Nat × Nat × Nat) (fun k env L => env = [(0, .pointer (some ⟨q, 0, none⟩)), (2, .int .i64 (i : Nat)), (3, .int .i64 (k.2.1 : Nat)), (4, .int .i64 ((2 * i + 1 + k.1 : Nat) : Int))] ∧ k.1 ≤ 2 ∧ (k.2.1 = i ∨ (i < k.2.1 ∧ k.2.1 < es.length)) ∧ d ≤ k.2.2 ∧ k.2.2 ≤ d + 2 * k.1 ∧
       L = [blk q 96 [.slice (some ⟨g, 0, none⟩) es.length cap, nx], blk g 98 (dents p fs ++ ex), blk p 53 [bv, .int .i64 (k.2.2 : Nat)], ro μ]) (fun k => 2 - k.1) (0, i, d) ⟨rfl, by simp, .inl rfl, Nat.le_refl _, Nat.le_refl _, rfl⟩ ?_
    rintro ⟨j, m, d2⟩ env L ⟨rfl, hj, hm, hd3, hd4, rfl⟩
    simp only [] at hj hm hd3 hd4
    dsimp only
    refine swp_seq ?_
    refine swp_seq ?_
    refine swp_region ?_
    refine s_pu (pu_move rfl) ?_
    refine s_pu (pu_move rfl) ?_
    first | refine s_pu (pu_mul_in rfl rfl (by omega) (by omega)) ?_ | refine s_pu (pu_mul rfl rfl) ?_
    first | refine s_pu (pu_add_in rfl rfl (by omega) (by omega)) ?_ | refine s_pu (pu_add rfl rfl) ?_
    refine s_pu (pu_leq rfl rfl) ?_
    refine s_pu (pu_move rfl) ?_
    refine s_split 14 rfl (fun h14 => ?_) (fun h14 => ?_)
    · skip   -- slot 14 is True
      refine s_on rfl rfl ?_
      refine s_pu (pu_move rfl) ?_
      refine s_on rfl rfl ?_
      refine s_pu (pu_move rfl) ?_
      refine s_on rfl rfl ?_
      first | refine s_pu (pu_nilCheck rfl) ?_ | refine s_pu (pu_nilCheck_fn rfl) ?_ | refine s_pu (pu_nilCheck_if rfl) ?_
      refine s_on rfl rfl ?_
      first | refine s_pu (pu_fieldAddr0 rfl) ?_ | refine s_pu (pu_fieldAddr rfl) ?_
      refine s_on rfl rfl ?_
      refine s_rd (rd_load rfl rfl) ?_
      refine s_on rfl rfl ?_
      refine s_pu (pu_len rfl) ?_
      refine s_on rfl rfl ?_
      refine s_pu (pu_lss rfl rfl) ?_
      first | refine s_pu (pu_pick_t rfl rfl) ?_ | refine s_pu (pu_pick_f rfl rfl) ?_
      refine swl_sub _ (.cons (t := 0) rfl (.cons (t := 2) rfl (.cons (t := 3) rfl (.cons (t := 4) rfl (.cons (t := 22) rfl .nil))))) ?_
      refine swl_nil ?_
      refine then_n ?_
      have h14' : j < 2 := by simp at h14; omega
      refine swp_cond (b := _) rfl (fun h22 => ?_) (fun h22 => ?_)
      · skip
        have h22' : 2 * i + 1 + j < es.length := by simp at h22; omega
        have hml : m < fs.length := by omega
        obtain ⟨ek, hek⟩ : ∃ e, fs[2 * i + 1 + j]? = some e := ⟨_, List.getElem?_eq_getElem (by omega)⟩
        obtain ⟨ef, hef⟩ : ∃ e, fs[m]? = some e := ⟨_, List.getElem?_eq_getElem hml⟩
        refine swp_skip ?_
        refine then_n ?_
        refine swp_seq ?_
        refine swp_block ?_
        refine swp_seq ?_
        refine swp_draw [3, 6, 10, 13] _ [] (by simp only [List.append_nil]; exact Ent.refl _) (by kernel_rfl) ?_
        refine d_pu 0 rfl (pu_move rfl) (by kernel_rfl) (by kernel_rfl) (by kernel_rfl) ?_
        first | refine d_pu 1 rfl (pu_nilCheck rfl) (by kernel_rfl) (by kernel_rfl) (by kernel_rfl) ?_ | refine d_pu 1 rfl (pu_nilCheck_fn rfl) (by kernel_rfl) (by kernel_rfl) (by kernel_rfl) ?_ | refine d_pu 1 rfl (pu_nilCheck_if rfl) (by kernel_rfl) (by kernel_rfl) (by kernel_rfl) ?_
        first | refine d_pu 2 rfl (pu_fieldAddr0 rfl) (by kernel_rfl) (by kernel_rfl) (by kernel_rfl) ?_ | refine d_pu 2 rfl (pu_fieldAddr rfl) (by kernel_rfl) (by kernel_rfl) (by kernel_rfl) ?_
        refine d_rd 3 rfl (rd_load rfl rfl) rfl (by kernel_rfl) (by kernel_rfl) (by kernel_rfl) ?_
        refine d_pu 4 rfl (pu_move rfl) (by kernel_rfl) (by kernel_rfl) (by kernel_rfl) ?_
        refine d_pu 5 rfl (pu_indexAddr ((2 * i + 1 + j) * 3) rfl rfl (by omega) (by omega) (by omega)) (by kernel_rfl) (by kernel_rfl) (by kernel_rfl) ?_
        refine d_rd 6 rfl (rd_loadA (vs := dcs p ek) rfl (by rfl) (flat_get (dcs_len p) fs ex _ ek hek)) rfl (by kernel_rfl) (by kernel_rfl) (by kernel_rfl) ?_
        refine d_pu 7 rfl (pu_move rfl) (by kernel_rfl) (by kernel_rfl) (by kernel_rfl) ?_
        first | refine d_pu 8 rfl (pu_nilCheck rfl) (by kernel_rfl) (by kernel_rfl) (by kernel_rfl) ?_ | refine d_pu 8 rfl (pu_nilCheck_fn rfl) (by kernel_rfl) (by kernel_rfl) (by kernel_rfl) ?_ | refine d_pu 8 rfl (pu_nilCheck_if rfl) (by kernel_rfl) (by kernel_rfl) (by kernel_rfl) ?_
        first | refine d_pu 9 rfl (pu_fieldAddr0 rfl) (by kernel_rfl) (by kernel_rfl) (by kernel_rfl) ?_ | refine d_pu 9 rfl (pu_fieldAddr rfl) (by kernel_rfl) (by kernel_rfl) (by kernel_rfl) ?_
        refine d_rd 10 rfl (rd_load rfl rfl) rfl (by kernel_rfl) (by kernel_rfl) (by kernel_rfl) ?_
        refine d_pu 11 rfl (pu_move rfl) (by kernel_rfl) (by kernel_rfl) (by kernel_rfl) ?_
        refine d_pu 12 rfl (pu_indexAddr (m * 3) rfl rfl (by omega) (by omega) (by omega)) (by kernel_rfl) (by kernel_rfl) (by kernel_rfl) ?_
        refine d_rd 13 rfl (rd_loadA (vs := dcs p ef) rfl (by rfl) (flat_get (dcs_len p) fs ex _ ef hef)) rfl (by kernel_rfl) (by kernel_rfl) (by kernel_rfl) ?_
        first | refine d_fint 14 rfl (by kernel_rfl) (by kernel_rfl) (ef_fn (ahead_odd μ p bv bits d2 _ _ _ _ hb (by omega)) rfl rfl (by repeat (first | exact Split.nil | (apply Split.cons; (repeat (first | with_reducible exact Take.here | apply Take.there)))))) ?_ | refine d_finf 14 rfl (by kernel_rfl) (by kernel_rfl) (ef_fn (ahead_odd μ p bv bits d2 _ _ _ _ hb (by omega)) rfl rfl (by repeat (first | exact Split.nil | (apply Split.cons; (repeat (first | with_reducible exact Take.here | apply Take.there)))))) ?_
        rintro v L1 ⟨b, d3, rfl, hd5, hd6, rfl⟩
        refine swd_app ?_
        first | refine d_nilt (by kernel_rfl) ?_ | refine d_nilf (by kernel_rfl) ?_
        refine then_n ?_
        refine swp_ent (Split.ent' (K := [blk q 96 [.slice (some ⟨g, 0, none⟩) es.length cap, nx], blk g 98 (dents p fs ++ ex), blk p 53 [bv, .int .i64 (d3 : Nat)], ro μ]) (by repeat (first | exact Split.nil | (apply Split.cons; (repeat (first | with_reducible exact Take.here | apply Take.there)))))) ?_
        refine swp_cond (b := _) rfl (fun h39 => ?_) (fun h39 => ?_)
        · skip
          refine swp_region ?_
          refine s_pu (pu_move rfl) ?_
          refine s_pu (pu_assign rfl) ?_
          refine swl_sub _ (.cons (t := 0) rfl (.cons (t := 2) rfl (.cons (t := 3) rfl (.cons (t := 4) rfl .nil)))) ?_
          refine swl_nil ?_
          refine block_n ?_
          refine then_n ?_
          refine swp_region ?_
          refine s_pu (pu_move rfl) ?_
          refine s_pu (pu_add_as ((2 * i + 1 + (j + 1) : Nat) : Int) rfl rfl (by omega) (by omega) (by omega)) ?_
          refine s_pu (pu_assign rfl) ?_
          refine swl_sub _ (.cons (t := 0) rfl (.cons (t := 2) rfl (.cons (t := 3) rfl (.cons (t := 4) rfl .nil)))) ?_
          refine swl_nil ?_
          refine then_n ⟨(j + 1, 2 * i + 1 + j, d3), ⟨rfl, by show j + 1 ≤ 2; omega, .inr ⟨by show i < 2 * i + 1 + j; omega, h22'⟩, by show d ≤ d3; omega, by show d3 ≤ d + 2 * (j + 1); omega, rfl⟩, by show 2 - (j + 1) < 2 - j; omega⟩
        · skip
          refine swp_skip ?_
          refine block_n ?_
          refine then_n ?_
          refine swp_region ?_
          refine s_pu (pu_move rfl) ?_
          refine s_pu (pu_add_as ((2 * i + 1 + (j + 1) : Nat) : Int) rfl rfl (by omega) (by omega) (by omega)) ?_
          refine s_pu (pu_assign rfl) ?_
          refine swl_sub _ (.cons (t := 0) rfl (.cons (t := 2) rfl (.cons (t := 3) rfl (.cons (t := 4) rfl .nil)))) ?_
          refine swl_nil ?_
          refine then_n ⟨(j + 1, m, d3), ⟨rfl, by show j + 1 ≤ 2; omega, hm, by show d ≤ d3; omega, by show d3 ≤ d + 2 * (j + 1); omega, rfl⟩, by show 2 - (j + 1) < 2 - j; omega⟩
      · skip
        refine swp_sub _ (.cons (t := 0) rfl (.cons (t := 2) rfl (.cons (t := 3) rfl .nil))) ?_
        refine swp_exit ?_
        refine then_x ?_
        refine then_x ?_
        refine block_hit rfl ?_
        exact then_n ⟨m, d2, hm, hd3, by omega, rfl, rfl⟩
    · skip   -- slot 14 is False
      refine s_off rfl rfl rfl ?_
      refine s_off rfl rfl rfl ?_
      refine s_off rfl rfl rfl ?_
      refine s_off rfl rfl rfl ?_
      refine s_off rfl rfl rfl ?_
      refine s_off rfl rfl rfl ?_
      refine s_off rfl rfl rfl ?_
      first | refine s_pu (pu_pick_t rfl rfl) ?_ | refine s_pu (pu_pick_f rfl rfl) ?_
      refine swl_sub _ (.cons (t := 0) rfl (.cons (t := 2) rfl (.cons (t := 3) rfl (.cons (t := 4) rfl (.cons (t := 22) rfl .nil))))) ?_
      refine swl_nil ?_
      refine then_n ?_
      refine swp_cond (b := _) rfl (fun h22 => ?_) (fun h22 => ?_)
      · cases h22
      · skip
        refine swp_sub _ (.cons (t := 0) rfl (.cons (t := 2) rfl (.cons (t := 3) rfl .nil))) ?_
        refine swp_exit ?_
        refine then_x ?_
        refine then_x ?_
        refine block_hit rfl ?_
        exact then_n ⟨m, d2, hm, hd3, by omega, rfl, rfl⟩
  · rintro env L ⟨m, d', hm, hd3, hd4, rfl, rfl⟩
    refine swp_seq ?_
    refine swp_seq ?_
    refine swp_region ?_
    refine s_pu (pu_move rfl) ?_
    refine s_pu (pu_move rfl) ?_
    refine s_pu (pu_eql rfl rfl) ?_
    refine swl_sub _ (.cons (t := 0) rfl (.cons (t := 2) rfl (.cons (t := 3) rfl (.cons (t := 43) rfl .nil)))) ?_
    refine swl_nil ?_
    refine then_n ?_
    refine swp_cond (b := _) rfl (fun h43 => ?_) (fun h43 => ?_)
    · skip
      refine swp_ret ?_
      refine then_r ?_
      refine block_r ?_
      refine then_r ?_
      refine block_r ?_
      exact done_ret _ .nil ⟨rfl, fs, d', hpm, by omega, by omega, rfl⟩ (by repeat (first | exact Split.nil | (apply Split.cons; (repeat (first | with_reducible exact Take.here | apply Take.there)))))
    · skip
      have hbi : i < m ∧ m < es.length := by
        simp at h43
        rcases hm with h | h
        · omega
        · exact h
      obtain ⟨ei, hei⟩ : ∃ e, fs[i]? = some e := ⟨_, List.getElem?_eq_getElem (by omega)⟩
      obtain ⟨ep, hep⟩ : ∃ e, fs[m]? = some e := ⟨_, List.getElem?_eq_getElem (by omega)⟩
      have hel : (dents p fs).length = es.length * 3 := by rw [dents_len, hl]
      refine swp_skip ?_
      refine then_n ?_
      refine swp_seq ?_
      refine swp_draw [3, 8, 13, 16, 20, 23] _ [] (by simp only [List.append_nil]; exact Ent.refl _) (by kernel_rfl) ?_
      refine d_pu 0 rfl (pu_move rfl) (by kernel_rfl) (by kernel_rfl) (by kernel_rfl) ?_
      first | refine d_pu 1 rfl (pu_nilCheck rfl) (by kernel_rfl) (by kernel_rfl) (by kernel_rfl) ?_ | refine d_pu 1 rfl (pu_nilCheck_fn rfl) (by kernel_rfl) (by kernel_rfl) (by kernel_rfl) ?_ | refine d_pu 1 rfl (pu_nilCheck_if rfl) (by kernel_rfl) (by kernel_rfl) (by kernel_rfl) ?_
      first | refine d_pu 2 rfl (pu_fieldAddr0 rfl) (by kernel_rfl) (by kernel_rfl) (by kernel_rfl) ?_ | refine d_pu 2 rfl (pu_fieldAddr rfl) (by kernel_rfl) (by kernel_rfl) (by kernel_rfl) ?_
      refine d_rd 3 rfl (rd_load rfl rfl) rfl (by kernel_rfl) (by kernel_rfl) (by kernel_rfl) ?_
      refine d_pu 4 rfl (pu_move rfl) (by kernel_rfl) (by kernel_rfl) (by kernel_rfl) ?_
      refine d_pu 5 rfl (pu_move rfl) (by kernel_rfl) (by kernel_rfl) (by kernel_rfl) ?_
      first | refine d_pu 6 rfl (pu_nilCheck rfl) (by kernel_rfl) (by kernel_rfl) (by kernel_rfl) ?_ | refine d_pu 6 rfl (pu_nilCheck_fn rfl) (by kernel_rfl) (by kernel_rfl) (by kernel_rfl) ?_ | refine d_pu 6 rfl (pu_nilCheck_if rfl) (by kernel_rfl) (by kernel_rfl) (by kernel_rfl) ?_
      first | refine d_pu 7 rfl (pu_fieldAddr0 rfl) (by kernel_rfl) (by kernel_rfl) (by kernel_rfl) ?_ | refine d_pu 7 rfl (pu_fieldAddr rfl) (by kernel_rfl) (by kernel_rfl) (by kernel_rfl) ?_
      refine d_rd 8 rfl (rd_load rfl rfl) rfl (by kernel_rfl) (by kernel_rfl) (by kernel_rfl) ?_
      refine d_pu 9 rfl (pu_move rfl) (by kernel_rfl) (by kernel_rfl) (by kernel_rfl) ?_
      refine d_pu 10 rfl (pu_move rfl) (by kernel_rfl) (by kernel_rfl) (by kernel_rfl) ?_
      first | refine d_pu 11 rfl (pu_nilCheck rfl) (by kernel_rfl) (by kernel_rfl) (by kernel_rfl) ?_ | refine d_pu 11 rfl (pu_nilCheck_fn rfl) (by kernel_rfl) (by kernel_rfl) (by kernel_rfl) ?_ | refine d_pu 11 rfl (pu_nilCheck_if rfl) (by kernel_rfl) (by kernel_rfl) (by kernel_rfl) ?_
      first | refine d_pu 12 rfl (pu_fieldAddr0 rfl) (by kernel_rfl) (by kernel_rfl) (by kernel_rfl) ?_ | refine d_pu 12 rfl (pu_fieldAddr rfl) (by kernel_rfl) (by kernel_rfl) (by kernel_rfl) ?_
      refine d_rd 13 rfl (rd_load rfl rfl) rfl (by kernel_rfl) (by kernel_rfl) (by kernel_rfl) ?_
      refine d_pu 14 rfl (pu_move rfl) (by kernel_rfl) (by kernel_rfl) (by kernel_rfl) ?_
      refine d_pu 15 rfl (pu_indexAddr (m * 3) rfl rfl (by omega) (by omega) (by omega)) (by kernel_rfl) (by kernel_rfl) (by kernel_rfl) ?_
      refine d_rd 16 rfl (rd_loadA (vs := dcs p ep) rfl (by rfl) (flat_get (dcs_len p) fs ex m ep hep)) rfl (by kernel_rfl) (by kernel_rfl) (by kernel_rfl) ?_
      refine d_pu 17 rfl (pu_move rfl) (by kernel_rfl) (by kernel_rfl) (by kernel_rfl) ?_
      first | refine d_pu 18 rfl (pu_nilCheck rfl) (by kernel_rfl) (by kernel_rfl) (by kernel_rfl) ?_ | refine d_pu 18 rfl (pu_nilCheck_fn rfl) (by kernel_rfl) (by kernel_rfl) (by kernel_rfl) ?_ | refine d_pu 18 rfl (pu_nilCheck_if rfl) (by kernel_rfl) (by kernel_rfl) (by kernel_rfl) ?_
      first | refine d_pu 19 rfl (pu_fieldAddr0 rfl) (by kernel_rfl) (by kernel_rfl) (by kernel_rfl) ?_ | refine d_pu 19 rfl (pu_fieldAddr rfl) (by kernel_rfl) (by kernel_rfl) (by kernel_rfl) ?_
      refine d_rd 20 rfl (rd_load rfl rfl) rfl (by kernel_rfl) (by kernel_rfl) (by kernel_rfl) ?_
      refine d_pu 21 rfl (pu_move rfl) (by kernel_rfl) (by kernel_rfl) (by kernel_rfl) ?_
      refine d_pu 22 rfl (pu_indexAddr (i * 3) rfl rfl (by omega) (by omega) (by omega)) (by kernel_rfl) (by kernel_rfl) (by kernel_rfl) ?_
      refine d_rd 23 rfl (rd_loadA (vs := dcs p ei) rfl (by rfl) (flat_get (dcs_len p) fs ex i ei hei)) rfl (by kernel_rfl) (by kernel_rfl) (by kernel_rfl) ?_
      refine d_pu 24 rfl (pu_indexAddr (i * 3) rfl rfl (by omega) (by omega) (by omega)) (by kernel_rfl) (by kernel_rfl) (by kernel_rfl) ?_
      first | refine d_fin0t 25 rfl (by kernel_rfl) (by kernel_rfl) (ef_storeAs (vs := dcs p ep) rfl rfl (flat_over (dcs_len p) fs ex i ep (by omega)) (by rw [List.length_append, ← dents, hel, dcs_len]; omega) rfl rfl) ?_ | refine d_fin0f 25 rfl (by kernel_rfl) (by kernel_rfl) (ef_storeAs (vs := dcs p ep) rfl rfl (flat_over (dcs_len p) fs ex i ep (by omega)) (by rw [List.length_append, ← dents, hel, dcs_len]; omega) rfl rfl) ?_
      refine d_pu 26 rfl (pu_indexAddr (m * 3) rfl rfl (by omega) (by omega) (by omega)) (by kernel_rfl) (by kernel_rfl) (by kernel_rfl) ?_
      first | refine d_fin0t 27 rfl (by kernel_rfl) (by kernel_rfl) (ef_storeAs (vs := dcs p ei) rfl rfl (flat_over (dcs_len p) (fs.set i ep) ex m ei (by simp; omega)) (by rw [List.length_append, flat_length (dcs_len p), dcs_len, List.length_set]; omega) rfl rfl) ?_ | refine d_fin0f 27 rfl (by kernel_rfl) (by kernel_rfl) (ef_storeAs (vs := dcs p ei) rfl rfl (flat_over (dcs_len p) (fs.set i ep) ex m ei (by simp; omega)) (by rw [List.length_append, flat_length (dcs_len p), dcs_len, List.length_set]; omega) rfl rfl) ?_
      first | refine d_nilt (by kernel_rfl) ?_ | refine d_nilf (by kernel_rfl) ?_
      refine then_n ?_
      refine swp_region ?_
      refine s_pu (pu_move rfl) ?_
      refine s_pu (pu_assign rfl) ?_
      refine swl_sub _ (.cons (t := 0) rfl (.cons (t := 2) rfl .nil)) ?_
      refine swl_nil ?_
      refine block_n ?_
      exact then_n ⟨(m, (fs.set i ep).set m ei, d'), ⟨rfl, rfl, by simp [hl], .inl (by show m < es.length; omega), (Hp.swap_perm fs hei hep (by omega)).trans hpm, by show c ≤ d'; omega, by show d' + 4 * (es.length - m) ≤ _; omega⟩, by show es.length - m < es.length - i; omega⟩
end SX
