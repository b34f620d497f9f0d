/- A part of the proof: walks of the seat's functions, by the rules of the texts that it imports. -/
import Derived.Test.YtfbfmokgpdmcfaaDoorMdM16
namespace SX
open Go Go.Proofs

theorem flat_take {β : Type} {f : β → List Value} {n : Nat} (hf : ∀ e, (f e).length = n) : ∀ (l : List β) (k : Nat), (l.flatMap f).take (k * n) = (l.take k).flatMap f
  | [], k => by simp
  | a :: l, 0 => by simp
  | a :: l, k + 1 => by
    rw [List.flatMap_cons, List.take_succ_cons, List.flatMap_cons, List.take_append, hf a, List.take_of_length_le (by rw [hf a, Nat.succ_mul]; omega), show (k + 1) * n - n = k * n by rw [Nat.succ_mul]; omega, flat_take hf l k]
theorem new_e (k : Int) : Spec Tryd.prog 22 [.int .i64 k] [] (fun r L => ∃ p n, n = clampM k ∧ n ≤ 1048576 ∧ r = .pointer (some ⟨p, 0, none⟩) ∧ L = [mset p n (fun _ => false)]) :=
  Spec.mono (new_m k) (by rintro r L ⟨p, h1, h2⟩; exact ⟨p, _, rfl, by unfold clampM; omega, h1, h2⟩)
theorem rnew_e (k : Int) : Spec Tryd.prog 23 [.int .i64 k] [] (fun r L => ∃ p b n, n = clampM k ∧ r = .pointer (some ⟨p, 0, none⟩) ∧ L = [blk p 39 [.slice (some ⟨b, 0, none⟩) n n], blk b 4 (rbs n (fun _ => false))]) :=
  Spec.mono (rnew k) (by rintro r L ⟨p, b, h1, h2⟩; exact ⟨p, b, _, rfl, h1, h2⟩)
structure PS where
  p : Nat
  n : Nat
  w : Nat
  b : Nat
  S : Nat → Bool

set_option maxHeartbeats 4000000 in
theorem plays_spec (μ : PH) (a b : Int) (v : Value) (l : List (Int × Int)) (hT : RowAt μ 0 0 tabV) (hl : Row μ v 2 l.length (l.flatMap (pcs .u8 .i64))) : Spec Tryd.prog 4 [.int .i64 a, .int .i64 b, v] [ro μ] (fun v L => v = .bool true ∧ ∃ μ' R, Le μ μ' ∧ L = ro μ' :: R) := by
  obtain ⟨vt, hvt, hpt⟩ := Row.hi (P := Tryd.prog) (t := 33) hl (min l.length 200) (Nat.min_le_left _ _)
  rw [flat_take (pcs_len .u8 .i64)] at hvt
  have hcl : (l.take (min l.length 200)).length = min l.length 200 := by rw [List.length_take]; omega
  have hc2 : min l.length 200 ≤ 200 := Nat.min_le_right _ _
  obtain ⟨cc, hcc⟩ : ∃ cc, cc = min l.length 200 := ⟨_, rfl⟩
  have hmin : min (l.length : Int) 200 = (cc : Nat) := by omega
  rw [← hcc] at hvt hcl hc2 hpt
  generalize l.take cc = l' at hvt hcl
  refine Spec.of 101 Tryd.func4 rfl rfl rfl ?_
  refine swp_seq ?_
  refine swp_region ?_
  refine s_pu (pu_assign rfl) ?_
  refine swl_sub _ (.cons (t := 0) rfl (.cons (t := 1) rfl (.cons (t := 2) rfl .nil))) ?_
  refine swl_nil ?_
  refine then_n ?_
  refine swp_seq ?_
  refine swp_seq ?_
  refine swp_region ?_
  refine s_ef (ef_fn (holds_spec μ hT) rfl rfl (by repeat (first | exact Split.nil | (apply Split.cons; (repeat (first | with_reducible exact Take.here | apply Take.there)))))) ?_
  rintro v1 L1 ⟨rfl, rfl⟩
  refine swl_app ?_
  refine s_pu (pu_not rfl) ?_
  refine swl_sub _ (.cons (t := 0) rfl (.cons (t := 1) rfl (.cons (t := 2) rfl (.cons (t := 14) rfl .nil)))) ?_
  refine swl_nil ?_
  refine then_n ?_
  refine swp_cond (b := _) rfl (fun h14 => absurd h14 (by decide)) (fun h14 => ?_)
  refine swp_skip ?_
  refine then_n ?_
  refine swp_seq ?_
  refine swp_seq ?_
  refine swp_region ?_
  refine s_pu (pu_move rfl) ?_
  refine s_pu (pu_move rfl) ?_
  refine s_pu (pu_max2 rfl rfl) ?_
  refine s_pu (pu_gtr rfl rfl) ?_
  refine swl_sub _ (.cons (t := 0) rfl (.cons (t := 1) rfl (.cons (t := 2) rfl (.cons (t := 18) rfl .nil)))) ?_
  refine swl_nil ?_
  refine then_n ?_
  refine swp_cond (b := _) rfl (fun h18 => ?_) (fun h18 => ?_)
  · skip   -- 18 T
    refine swp_region ?_
    refine s_pu (pu_move rfl) ?_
    first | refine s_pu (pu_rem_in rfl rfl (by omega) (by omega)) ?_ | refine s_pu (pu_rem rfl rfl (by omega)) ?_
    refine s_pu (pu_move rfl) ?_
    first | refine s_pu (pu_rem_in rfl rfl (by omega) (by omega)) ?_ | refine s_pu (pu_rem rfl rfl (by omega)) ?_
    refine s_pu (pu_assign rfl) ?_
    refine s_pu (pu_assign rfl) ?_
    refine swl_sub _ (.cons (t := 0) rfl (.cons (t := 1) rfl (.cons (t := 2) rfl .nil))) ?_
    refine swl_nil ?_
    refine then_n ?_
    refine swp_seq ?_
    refine swp_region ?_
    refine s_pu (pu_move rfl) ?_
    refine s_ef (ef_fn (new_e _) rfl rfl (by repeat (first | exact Split.nil | (apply Split.cons; (repeat (first | with_reducible exact Take.here | apply Take.there)))))) ?_
    rintro v1 L1 ⟨ps, n, hn, hn1, rfl, rfl⟩
    refine swl_app ?_
    refine s_pu (pu_move rfl) ?_
    refine s_ef (ef_fn (new_e _) rfl rfl (by repeat (first | exact Split.nil | (apply Split.cons; (repeat (first | with_reducible exact Take.here | apply Take.there)))))) ?_
    rintro v1 L1 ⟨po, m, hm, hm1, rfl, rfl⟩
    refine swl_app ?_
    refine s_pu (pu_move rfl) ?_
    refine s_ef (ef_fn (rnew_e _) rfl rfl (by repeat (first | exact Split.nil | (apply Split.cons; (repeat (first | with_reducible exact Take.here | apply Take.there)))))) ?_
    rintro v1 L1 ⟨pw, bw, n', hn', rfl, rfl⟩
    refine swl_app ?_
    obtain rfl : n = n' := hn.trans hn'.symm
    refine s_pu (pu_move rfl) ?_
    refine s_ef (ef_fn (rnew_e _) rfl rfl (by repeat (first | exact Split.nil | (apply Split.cons; (repeat (first | with_reducible exact Take.here | apply Take.there)))))) ?_
    rintro v1 L1 ⟨px, bx, m', hm', rfl, rfl⟩
    refine swl_app ?_
    obtain rfl : m = m' := hm.trans hm'.symm
    refine s_pu (pu_assign rfl) ?_
    refine s_pu (pu_assign rfl) ?_
    refine s_pu (pu_assign rfl) ?_
    refine s_pu (pu_assign rfl) ?_
    refine swl_sub _ (.cons (t := 2) rfl (.cons (t := 7) rfl (.cons (t := 8) rfl (.cons (t := 9) rfl (.cons (t := 10) rfl .nil))))) ?_
    refine swl_nil ?_
    refine then_n ?_
    refine swp_seq ?_
    refine swp_seq ?_
    refine swp_draw [12, 22] _ [] (by simp only [List.append_nil]; exact Ent.refl _) (by kernel_rfl) ?_
    refine d_pu 0 rfl (pu_move rfl) (by kernel_rfl) (by kernel_rfl) (by kernel_rfl) ?_
    refine d_pu 1 rfl (pu_ptr_eq_nil rfl rfl) (by kernel_rfl) (by kernel_rfl) (by kernel_rfl) ?_
    refine d_pu 2 rfl (pu_move rfl) (by kernel_rfl) (by kernel_rfl) (by kernel_rfl) ?_
    refine d_pu_on 3 rfl rfl rfl (pu_move rfl) (by kernel_rfl) (by kernel_rfl) (by kernel_rfl) ?_
    refine d_pu_on 4 rfl rfl rfl (pu_ptr_eq_nil rfl rfl) (by kernel_rfl) (by kernel_rfl) (by kernel_rfl) ?_
    first | refine d_pu 5 rfl (pu_pick_t rfl rfl) (by kernel_rfl) (by kernel_rfl) (by kernel_rfl) ?_ | refine d_pu 5 rfl (pu_pick_f rfl rfl) (by kernel_rfl) (by kernel_rfl) (by kernel_rfl) ?_
    refine d_pu 6 rfl (pu_move rfl) (by kernel_rfl) (by kernel_rfl) (by kernel_rfl) ?_
    refine d_pu_on 7 rfl rfl rfl (pu_move rfl) (by kernel_rfl) (by kernel_rfl) (by kernel_rfl) ?_
    refine d_pu_on 9 rfl rfl rfl (pu_move rfl) (by kernel_rfl) (by kernel_rfl) (by kernel_rfl) ?_
    first | refine d_pu_on 10 rfl rfl rfl (pu_nilCheck rfl) (by kernel_rfl) (by kernel_rfl) (by kernel_rfl) ?_ | refine d_pu_on 10 rfl rfl rfl (pu_nilCheck_fn rfl) (by kernel_rfl) (by kernel_rfl) (by kernel_rfl) ?_ | refine d_pu_on 10 rfl rfl rfl (pu_nilCheck_if rfl) (by kernel_rfl) (by kernel_rfl) (by kernel_rfl) ?_
    first | refine d_pu_on 11 rfl rfl rfl (pu_fieldAddr0 rfl) (by kernel_rfl) (by kernel_rfl) (by kernel_rfl) ?_ | refine d_pu_on 11 rfl rfl rfl (pu_fieldAddr rfl) (by kernel_rfl) (by kernel_rfl) (by kernel_rfl) ?_
    refine d_rd_on 12 rfl rfl rfl (rd_load rfl rfl) rfl (by kernel_rfl) (by kernel_rfl) (by kernel_rfl) ?_
    refine d_pu_on 13 rfl rfl rfl (pu_len rfl) (by kernel_rfl) (by kernel_rfl) (by kernel_rfl) ?_
    refine d_amb [8] (by kernel_rfl) rfl ?_
    refine dA_ef 8 rfl (GOn.some rfl rfl) (ef_fn (size_m ps n _) rfl rfl (by repeat (first | exact Split.nil | (apply Split.cons; (repeat (first | with_reducible exact Take.here | apply Take.there)))))) ?_
    rintro v1 L1 ⟨rfl, rfl⟩
    refine ⟨_, ent_appC (Split.ent (by repeat (first | exact Split.nil | (apply Split.cons; (repeat (first | with_reducible exact Take.here | apply Take.there)))))), ?_⟩
    refine d_pu_on 14 rfl rfl rfl (pu_neq rfl rfl) (by kernel_rfl) (by kernel_rfl) (by kernel_rfl) ?_
    first | refine d_pu 15 rfl (pu_pick_t rfl rfl) (by kernel_rfl) (by kernel_rfl) (by kernel_rfl) ?_ | refine d_pu 15 rfl (pu_pick_f rfl rfl) (by kernel_rfl) (by kernel_rfl) (by kernel_rfl) ?_
    refine d_pu 16 rfl (pu_move rfl) (by kernel_rfl) (by kernel_rfl) (by kernel_rfl) ?_
    refine d_split 47 rfl (fun h47 => by simp at h47) (fun h47 => ?_)
    refine d_pu_on 17 rfl rfl rfl (pu_move rfl) (by kernel_rfl) (by kernel_rfl) (by kernel_rfl) ?_
    refine d_pu_on 19 rfl rfl rfl (pu_move rfl) (by kernel_rfl) (by kernel_rfl) (by kernel_rfl) ?_
    first | refine d_pu_on 20 rfl rfl rfl (pu_nilCheck rfl) (by kernel_rfl) (by kernel_rfl) (by kernel_rfl) ?_ | refine d_pu_on 20 rfl rfl rfl (pu_nilCheck_fn rfl) (by kernel_rfl) (by kernel_rfl) (by kernel_rfl) ?_ | refine d_pu_on 20 rfl rfl rfl (pu_nilCheck_if rfl) (by kernel_rfl) (by kernel_rfl) (by kernel_rfl) ?_
    first | refine d_pu_on 21 rfl rfl rfl (pu_fieldAddr0 rfl) (by kernel_rfl) (by kernel_rfl) (by kernel_rfl) ?_ | refine d_pu_on 21 rfl rfl rfl (pu_fieldAddr rfl) (by kernel_rfl) (by kernel_rfl) (by kernel_rfl) ?_
    refine d_rd_on 22 rfl rfl rfl (rd_load rfl rfl) rfl (by kernel_rfl) (by kernel_rfl) (by kernel_rfl) ?_
    refine d_pu_on 23 rfl rfl rfl (pu_len rfl) (by kernel_rfl) (by kernel_rfl) (by kernel_rfl) ?_
    refine d_amb [18] (by kernel_rfl) rfl ?_
    refine dA_ef 18 rfl (GOn.some rfl rfl) (ef_fn (size_m po m _) rfl rfl (by repeat (first | exact Split.nil | (apply Split.cons; (repeat (first | with_reducible exact Take.here | apply Take.there)))))) ?_
    rintro v1 L1 ⟨rfl, rfl⟩
    refine ⟨_, ent_appC (Split.ent (by repeat (first | exact Split.nil | (apply Split.cons; (repeat (first | with_reducible exact Take.here | apply Take.there)))))), ?_⟩
    refine d_pu_on 24 rfl rfl rfl (pu_neq rfl rfl) (by kernel_rfl) (by kernel_rfl) (by kernel_rfl) ?_
    first | refine d_pu 25 rfl (pu_pick_t rfl rfl) (by kernel_rfl) (by kernel_rfl) (by kernel_rfl) ?_ | refine d_pu 25 rfl (pu_pick_f rfl rfl) (by kernel_rfl) (by kernel_rfl) (by kernel_rfl) ?_
    refine d_sub _ (.cons (t := 2) rfl (.cons (t := 7) rfl (.cons (t := 8) rfl (.cons (t := 9) rfl (.cons (t := 10) rfl (.cons (t := 56) rfl .nil)))))) ?_
    first | refine d_nilt (by kernel_rfl) ?_ | refine d_nilf (by kernel_rfl) ?_
    refine then_n ?_
    refine swp_cond (b := _) rfl (fun h56 => by simp at h56) (fun h56 => ?_)
    refine swp_skip ?_
    refine then_n ?_
    refine swp_seq ?_
    refine swp_seq ?_
    refine swp_region ?_
    refine s_pu (pu_move rfl) ?_
    refine s_pu (pu_move rfl) ?_
    refine s_pu (pu_len_row hl rfl) ?_
    refine s_pu (pu_min2 rfl rfl) ?_
    refine s_pu (hpt _ _ _ _ _ rfl rfl hmin) ?_
    refine s_pu (pu_len_row hvt rfl) ?_
    refine s_pu (pu_move rfl) ?_
    refine swl_sub _ (.cons (t := 7) rfl (.cons (t := 8) rfl (.cons (t := 9) rfl (.cons (t := 10) rfl (.cons (t := 61) rfl (.cons (t := 62) rfl (.cons (t := 63) rfl .nil))))))) ?_
    refine swl_ent (Split.ent' (K := [mset ps n (fun _ => false), mset po m (fun _ => false), blk pw 39 [.slice (some ⟨bw, 0, none⟩) n n], blk bw 4 (rbs n (fun _ => false)), blk px 39 [.slice (some ⟨bx, 0, none⟩) m m], blk bx 4 (rbs m (fun _ => false)), ro μ]) (by repeat (first | exact Split.nil | (apply Split.cons; (repeat (first | with_reducible exact Take.here | apply Take.there)))))) ?_
    refine swl_nil ?_
    refine then_n ?_
    refine swp_block ?_
    refine swp_loop (ι := Nat × PS × PS) (fun k env L => env = [(7, .pointer (some ⟨k.2.1.p, 0, none⟩)), (8, .pointer (some ⟨k.2.2.p, 0, none⟩)), (9, .pointer (some ⟨k.2.1.w, 0, none⟩)), (10, .pointer (some ⟨k.2.2.w, 0, none⟩)), (61, vt), (62, .int .i64 (cc : Nat)), (63, .int .i64 (k.1 : Nat))] ∧
      L = [mset k.2.1.p k.2.1.n k.2.1.S, mset k.2.2.p k.2.2.n k.2.2.S, blk k.2.1.w 39 [.slice (some ⟨k.2.1.b, 0, none⟩) k.2.1.n k.2.1.n], blk k.2.1.b 4 (rbs k.2.1.n k.2.1.S), blk k.2.2.w 39 [.slice (some ⟨k.2.2.b, 0, none⟩) k.2.2.n k.2.2.n], blk k.2.2.b 4 (rbs k.2.2.n k.2.2.S), ro μ] ∧
      k.1 ≤ cc ∧ k.2.1.n ≤ 1048576 ∧ k.2.2.n ≤ 1048576 ∧ (∀ j, k.2.1.n ≤ j → k.2.1.S j = false) ∧ (∀ j, k.2.2.n ≤ j → k.2.2.S j = false)) (fun k => cc - k.1) (0, ⟨ps, n, pw, bw, fun _ => false⟩, ⟨po, m, px, bx, fun _ => false⟩) ⟨rfl, rfl, Nat.zero_le _, hn1, hm1, fun _ _ => rfl, fun _ _ => rfl⟩ ?_
    rintro ⟨i, ⟨p, n, w, b, S⟩, ⟨q, m, x, c, T⟩⟩ env L ⟨rfl, rfl, hi, hn1, hm1, hSz, hTz⟩
    dsimp only at hi hn1 hm1 hSz hTz ⊢
    refine swp_seq ?_
    refine swp_region ?_
    refine s_pu (pu_lss rfl rfl) ?_
    refine swl_sub _ (.cons (t := 7) rfl (.cons (t := 8) rfl (.cons (t := 9) rfl (.cons (t := 10) rfl (.cons (t := 61) rfl (.cons (t := 62) rfl (.cons (t := 63) rfl (.cons (t := 64) rfl .nil)))))))) ?_
    refine swl_nil ?_
    refine then_n ?_
    refine swp_seq ?_
    refine swp_cond (b := _) rfl (fun h64 => ?_) (fun h64 => ?_)
    · skip   -- 64 T
      have h64' : i < cc := by have := of_decide_eq_true h64; omega
      obtain ⟨gb, off, cap', rfl, c1, c2, hr⟩ := hvt.pos (by omega)
      obtain ⟨y, hy⟩ : ∃ y, l'[i]? = some y := ⟨_, List.getElem?_eq_getElem (by omega)⟩
      have hrk := hr.elem (pcs_len .u8 .i64) hy
      refine swp_skip ?_
      refine then_n ?_
      refine swp_seq ?_
      refine swp_block ?_
      refine swp_seq ?_
      refine swp_region ?_
      refine s_pu (pu_indexAddr (off + i * 2) rfl rfl (by omega) (by omega) (by rw [Int.toNat_natCast])) ?_
      refine s_rd (rd_roA (vs := [.int .u8 y.1, .int .i64 y.2]) rfl rfl hrk) ?_
      refine s_ef (ef_alloc) ?_
      intro b12
      refine s_ef0 (ef_storeA rfl rfl rfl rfl) ?_
      refine swl_sub _ (.cons (t := 7) rfl (.cons (t := 8) rfl (.cons (t := 9) rfl (.cons (t := 10) rfl (.cons (t := 12) rfl (.cons (t := 61) rfl (.cons (t := 62) rfl (.cons (t := 63) rfl .nil)))))))) ?_
      refine swl_nil ?_
      refine then_n ?_
      refine swp_seq ?_
      refine swp_seq ?_
      refine swp_draw [4, 13] ([blk b12 41 [.int .u8 y.1, .int .i64 y.2], blk w 39 [.slice (some ⟨b, 0, none⟩) n n]]) ([mset p n S, mset q m T, blk b 4 (rbs n S), blk x 39 [.slice (some ⟨c, 0, none⟩) m m], blk c 4 (rbs m T), ro μ]) (Split.ent (by repeat (first | exact Split.nil | (apply Split.cons; (repeat (first | with_reducible exact Take.here | apply Take.there)))))) (by kernel_rfl) ?_
      refine d_pu 0 rfl (pu_move rfl) (by kernel_rfl) (by kernel_rfl) (by kernel_rfl) ?_
      refine d_pu 1 rfl (pu_move rfl) (by kernel_rfl) (by kernel_rfl) (by kernel_rfl) ?_
      refine d_pu 2 rfl (pu_move rfl) (by kernel_rfl) (by kernel_rfl) (by kernel_rfl) ?_
      refine d_pu 3 rfl (pu_move rfl) (by kernel_rfl) (by kernel_rfl) (by kernel_rfl) ?_
      first | refine d_rd 4 rfl (rd_loadW rfl rfl) rfl (by kernel_rfl) (by kernel_rfl) (by kernel_rfl) ?_ | refine d_rd 4 rfl (rd_loadX rfl rfl rfl) rfl (by kernel_rfl) (by kernel_rfl) (by kernel_rfl) ?_
      refine d_eft 5 rfl (by kernel_rfl) (ef_fn (step_spec μ p n w b q m x c S T y.1 y.2 hT hn1 hm1 hSz hTz) rfl rfl (by repeat (first | exact Split.nil | (apply Split.cons; (repeat (first | with_reducible exact Take.here | apply Take.there)))))) ?_
      rintro v1 L1 ⟨rfl, S', hS', rfl⟩
      refine ⟨_, ent_appC (Split.ent (by repeat (first | exact Split.nil | (apply Split.cons; (repeat (first | with_reducible exact Take.here | apply Take.there)))))), ?_⟩
      refine d_pu 6 rfl (pu_not rfl) (by kernel_rfl) (by kernel_rfl) (by kernel_rfl) ?_
      refine d_pu 7 rfl (pu_move rfl) (by kernel_rfl) (by kernel_rfl) (by kernel_rfl) ?_
      refine d_pu_on 8 rfl rfl rfl (pu_move rfl) (by kernel_rfl) (by kernel_rfl) (by kernel_rfl) ?_
      refine d_pu_on 10 rfl rfl rfl (pu_move rfl) (by kernel_rfl) (by kernel_rfl) (by kernel_rfl) ?_
      first | refine d_pu_on 11 rfl rfl rfl (pu_nilCheck rfl) (by kernel_rfl) (by kernel_rfl) (by kernel_rfl) ?_ | refine d_pu_on 11 rfl rfl rfl (pu_nilCheck_fn rfl) (by kernel_rfl) (by kernel_rfl) (by kernel_rfl) ?_ | refine d_pu_on 11 rfl rfl rfl (pu_nilCheck_if rfl) (by kernel_rfl) (by kernel_rfl) (by kernel_rfl) ?_
      first | refine d_pu_on 12 rfl rfl rfl (pu_fieldAddr0 rfl) (by kernel_rfl) (by kernel_rfl) (by kernel_rfl) ?_ | refine d_pu_on 12 rfl rfl rfl (pu_fieldAddr rfl) (by kernel_rfl) (by kernel_rfl) (by kernel_rfl) ?_
      refine d_rd_on 13 rfl rfl rfl (rd_load rfl rfl) rfl (by kernel_rfl) (by kernel_rfl) (by kernel_rfl) ?_
      refine d_pu_on 14 rfl rfl rfl (pu_len rfl) (by kernel_rfl) (by kernel_rfl) (by kernel_rfl) ?_
      refine d_amb [9] (by kernel_rfl) rfl ?_
      refine dA_ef 9 rfl (GOn.some rfl rfl) (ef_fn (size_m p n S') rfl rfl (by repeat (first | exact Split.nil | (apply Split.cons; (repeat (first | with_reducible exact Take.here | apply Take.there)))))) ?_
      rintro v1 L1 ⟨rfl, rfl⟩
      refine ⟨_, ent_appC (Split.ent (by repeat (first | exact Split.nil | (apply Split.cons; (repeat (first | with_reducible exact Take.here | apply Take.there)))))), ?_⟩
      refine d_pu_on 15 rfl rfl rfl (pu_neq rfl rfl) (by kernel_rfl) (by kernel_rfl) (by kernel_rfl) ?_
      first | refine d_pu 16 rfl (pu_pick_t rfl rfl) (by kernel_rfl) (by kernel_rfl) (by kernel_rfl) ?_ | refine d_pu 16 rfl (pu_pick_f rfl rfl) (by kernel_rfl) (by kernel_rfl) (by kernel_rfl) ?_
      refine d_sub _ (.cons (t := 7) rfl (.cons (t := 8) rfl (.cons (t := 9) rfl (.cons (t := 10) rfl (.cons (t := 12) rfl (.cons (t := 61) rfl (.cons (t := 62) rfl (.cons (t := 63) rfl (.cons (t := 83) rfl .nil))))))))) ?_
      first | refine d_nilt (by kernel_rfl) ?_ | refine d_nilf (by kernel_rfl) ?_
      refine then_n ?_
      refine swp_cond (b := _) rfl (fun h83 => by simp at h83) (fun h83 => ?_)
      refine swp_skip ?_
      refine then_n ?_
      refine swp_seq ?_
      refine swp_region ?_
      first | refine s_pu (pu_fieldAddr0 rfl) ?_ | refine s_pu (pu_fieldAddr rfl) ?_
      refine s_rd (rd_load rfl rfl) ?_
      refine s_pu (pu_rem rfl rfl (by omega)) ?_
      refine s_pu (pu_eql rfl rfl) ?_
      refine swl_sub _ (.cons (t := 7) rfl (.cons (t := 8) rfl (.cons (t := 9) rfl (.cons (t := 10) rfl (.cons (t := 61) rfl (.cons (t := 62) rfl (.cons (t := 63) rfl (.cons (t := 87) rfl .nil)))))))) ?_
      refine swl_nil ?_
      refine then_n ?_
      refine swp_cond (b := _) rfl (fun h87 => ?_) (fun h87 => ?_)
      · skip   -- 87 T
        refine swp_region ?_
        refine s_pu (pu_move rfl) ?_
        refine s_pu (pu_move rfl) ?_
        refine s_pu (pu_move rfl) ?_
        refine s_pu (pu_move rfl) ?_
        refine s_pu (pu_assign rfl) ?_
        refine s_pu (pu_assign rfl) ?_
        refine s_pu (pu_assign rfl) ?_
        refine s_pu (pu_assign rfl) ?_
        refine swl_sub _ (.cons (t := 7) rfl (.cons (t := 8) rfl (.cons (t := 9) rfl (.cons (t := 10) rfl (.cons (t := 61) rfl (.cons (t := 62) rfl (.cons (t := 63) rfl .nil))))))) ?_
        refine swl_nil ?_
        refine block_n ?_
        refine then_n ?_
        refine swp_region ?_
        refine s_pu (pu_add_as ((i + 1 : Nat) : Int) rfl rfl (by omega) (by omega) (by omega)) ?_
        refine s_pu (pu_move rfl) ?_
        refine swl_sub _ (.cons (t := 7) rfl (.cons (t := 8) rfl (.cons (t := 9) rfl (.cons (t := 10) rfl (.cons (t := 61) rfl (.cons (t := 62) rfl (.cons (t := 63) rfl .nil))))))) ?_
        refine swl_ent (Split.ent' (K := [mset q m T, mset p n S', blk x 39 [.slice (some ⟨c, 0, none⟩) m m], blk c 4 (rbs m T), blk w 39 [.slice (some ⟨b, 0, none⟩) n n], blk b 4 (rbs n S'), ro μ]) (by repeat (first | exact Split.nil | (apply Split.cons; (repeat (first | with_reducible exact Take.here | apply Take.there)))))) ?_
        refine swl_nil ?_
        exact then_n ⟨(i + 1, ⟨q, m, x, c, T⟩, ⟨p, n, w, b, S'⟩), ⟨rfl, rfl, h64', hm1, hn1, hTz, hS'⟩, by show cc - (i + 1) < cc - i; omega⟩
      · skip   -- 87 F
        refine swp_skip ?_
        refine block_n ?_
        refine then_n ?_
        refine swp_region ?_
        refine s_pu (pu_add_as ((i + 1 : Nat) : Int) rfl rfl (by omega) (by omega) (by omega)) ?_
        refine s_pu (pu_move rfl) ?_
        refine swl_sub _ (.cons (t := 7) rfl (.cons (t := 8) rfl (.cons (t := 9) rfl (.cons (t := 10) rfl (.cons (t := 61) rfl (.cons (t := 62) rfl (.cons (t := 63) rfl .nil))))))) ?_
        refine swl_ent (Split.ent' (K := [mset p n S', mset q m T, blk w 39 [.slice (some ⟨b, 0, none⟩) n n], blk b 4 (rbs n S'), blk x 39 [.slice (some ⟨c, 0, none⟩) m m], blk c 4 (rbs m T), ro μ]) (by repeat (first | exact Split.nil | (apply Split.cons; (repeat (first | with_reducible exact Take.here | apply Take.there)))))) ?_
        refine swl_nil ?_
        exact then_n ⟨(i + 1, ⟨p, n, w, b, S'⟩, ⟨q, m, x, c, T⟩), ⟨rfl, rfl, h64', hn1, hm1, hS', hTz⟩, by show cc - (i + 1) < cc - i; omega⟩
    · skip   -- 64 F
      refine swp_exit ?_
      refine then_x ?_
      refine then_x ?_
      refine block_hit rfl ?_
      refine then_n ?_
      refine swp_seq ?_
      refine swp_region ?_
      refine s_pu (pu_move rfl) ?_
      refine s_pu (pu_move rfl) ?_
      refine s_ef (ef_fn (same_spec μ p n w b S hT hn1) rfl rfl (by repeat (first | exact Split.nil | (apply Split.cons; (repeat (first | with_reducible exact Take.here | apply Take.there)))))) ?_
      rintro v1 L1 ⟨rfl, rfl⟩
      refine swl_app ?_
      refine s_pu (pu_move rfl) ?_
      refine s_on rfl rfl ?_
      refine s_pu (pu_move rfl) ?_
      refine s_on rfl rfl ?_
      refine s_pu (pu_move rfl) ?_
      refine s_on rfl rfl ?_
      refine s_ef (ef_fn (same_spec μ q m x c T hT hm1) rfl rfl (by repeat (first | exact Split.nil | (apply Split.cons; (repeat (first | with_reducible exact Take.here | apply Take.there)))))) ?_
      rintro v1 L1 ⟨rfl, rfl⟩
      refine swl_app ?_
      first | refine s_pu (pu_pick_t rfl rfl) ?_ | refine s_pu (pu_pick_f rfl rfl) ?_
      refine s_pu (pu_assign rfl) ?_
      refine swl_sub _ (.cons (t := 6) rfl .nil) ?_
      refine swl_nil ?_
      refine then_n ?_
      refine swp_ret ?_
      exact done_ret [ro μ] (.tmp rfl .nil) ⟨rfl, μ, [], Le.refl _, rfl⟩ (by repeat (first | exact Split.nil | (apply Split.cons; (repeat (first | with_reducible exact Take.here | apply Take.there)))))
  · skip   -- 18 F
    refine swp_skip ?_
    refine then_n ?_
    refine swp_seq ?_
    refine swp_region ?_
    refine s_pu (pu_move rfl) ?_
    refine s_ef (ef_fn (new_e _) rfl rfl (by repeat (first | exact Split.nil | (apply Split.cons; (repeat (first | with_reducible exact Take.here | apply Take.there)))))) ?_
    rintro v1 L1 ⟨ps, n, hn, hn1, rfl, rfl⟩
    refine swl_app ?_
    refine s_pu (pu_move rfl) ?_
    refine s_ef (ef_fn (new_e _) rfl rfl (by repeat (first | exact Split.nil | (apply Split.cons; (repeat (first | with_reducible exact Take.here | apply Take.there)))))) ?_
    rintro v1 L1 ⟨po, m, hm, hm1, rfl, rfl⟩
    refine swl_app ?_
    refine s_pu (pu_move rfl) ?_
    refine s_ef (ef_fn (rnew_e _) rfl rfl (by repeat (first | exact Split.nil | (apply Split.cons; (repeat (first | with_reducible exact Take.here | apply Take.there)))))) ?_
    rintro v1 L1 ⟨pw, bw, n', hn', rfl, rfl⟩
    refine swl_app ?_
    obtain rfl : n = n' := hn.trans hn'.symm
    refine s_pu (pu_move rfl) ?_
    refine s_ef (ef_fn (rnew_e _) rfl rfl (by repeat (first | exact Split.nil | (apply Split.cons; (repeat (first | with_reducible exact Take.here | apply Take.there)))))) ?_
    rintro v1 L1 ⟨px, bx, m', hm', rfl, rfl⟩
    refine swl_app ?_
    obtain rfl : m = m' := hm.trans hm'.symm
    refine s_pu (pu_assign rfl) ?_
    refine s_pu (pu_assign rfl) ?_
    refine s_pu (pu_assign rfl) ?_
    refine s_pu (pu_assign rfl) ?_
    refine swl_sub _ (.cons (t := 2) rfl (.cons (t := 7) rfl (.cons (t := 8) rfl (.cons (t := 9) rfl (.cons (t := 10) rfl .nil))))) ?_
    refine swl_nil ?_
    refine then_n ?_
    refine swp_seq ?_
    refine swp_seq ?_
    refine swp_draw [12, 22] _ [] (by simp only [List.append_nil]; exact Ent.refl _) (by kernel_rfl) ?_
    refine d_pu 0 rfl (pu_move rfl) (by kernel_rfl) (by kernel_rfl) (by kernel_rfl) ?_
    refine d_pu 1 rfl (pu_ptr_eq_nil rfl rfl) (by kernel_rfl) (by kernel_rfl) (by kernel_rfl) ?_
    refine d_pu 2 rfl (pu_move rfl) (by kernel_rfl) (by kernel_rfl) (by kernel_rfl) ?_
    refine d_pu_on 3 rfl rfl rfl (pu_move rfl) (by kernel_rfl) (by kernel_rfl) (by kernel_rfl) ?_
    refine d_pu_on 4 rfl rfl rfl (pu_ptr_eq_nil rfl rfl) (by kernel_rfl) (by kernel_rfl) (by kernel_rfl) ?_
    first | refine d_pu 5 rfl (pu_pick_t rfl rfl) (by kernel_rfl) (by kernel_rfl) (by kernel_rfl) ?_ | refine d_pu 5 rfl (pu_pick_f rfl rfl) (by kernel_rfl) (by kernel_rfl) (by kernel_rfl) ?_
    refine d_pu 6 rfl (pu_move rfl) (by kernel_rfl) (by kernel_rfl) (by kernel_rfl) ?_
    refine d_pu_on 7 rfl rfl rfl (pu_move rfl) (by kernel_rfl) (by kernel_rfl) (by kernel_rfl) ?_
    refine d_pu_on 9 rfl rfl rfl (pu_move rfl) (by kernel_rfl) (by kernel_rfl) (by kernel_rfl) ?_
    first | refine d_pu_on 10 rfl rfl rfl (pu_nilCheck rfl) (by kernel_rfl) (by kernel_rfl) (by kernel_rfl) ?_ | refine d_pu_on 10 rfl rfl rfl (pu_nilCheck_fn rfl) (by kernel_rfl) (by kernel_rfl) (by kernel_rfl) ?_ | refine d_pu_on 10 rfl rfl rfl (pu_nilCheck_if rfl) (by kernel_rfl) (by kernel_rfl) (by kernel_rfl) ?_
    first | refine d_pu_on 11 rfl rfl rfl (pu_fieldAddr0 rfl) (by kernel_rfl) (by kernel_rfl) (by kernel_rfl) ?_ | refine d_pu_on 11 rfl rfl rfl (pu_fieldAddr rfl) (by kernel_rfl) (by kernel_rfl) (by kernel_rfl) ?_
    refine d_rd_on 12 rfl rfl rfl (rd_load rfl rfl) rfl (by kernel_rfl) (by kernel_rfl) (by kernel_rfl) ?_
    refine d_pu_on 13 rfl rfl rfl (pu_len rfl) (by kernel_rfl) (by kernel_rfl) (by kernel_rfl) ?_
    refine d_amb [8] (by kernel_rfl) rfl ?_
    refine dA_ef 8 rfl (GOn.some rfl rfl) (ef_fn (size_m ps n _) rfl rfl (by repeat (first | exact Split.nil | (apply Split.cons; (repeat (first | with_reducible exact Take.here | apply Take.there)))))) ?_
    rintro v1 L1 ⟨rfl, rfl⟩
    refine ⟨_, ent_appC (Split.ent (by repeat (first | exact Split.nil | (apply Split.cons; (repeat (first | with_reducible exact Take.here | apply Take.there)))))), ?_⟩
    refine d_pu_on 14 rfl rfl rfl (pu_neq rfl rfl) (by kernel_rfl) (by kernel_rfl) (by kernel_rfl) ?_
    first | refine d_pu 15 rfl (pu_pick_t rfl rfl) (by kernel_rfl) (by kernel_rfl) (by kernel_rfl) ?_ | refine d_pu 15 rfl (pu_pick_f rfl rfl) (by kernel_rfl) (by kernel_rfl) (by kernel_rfl) ?_
    refine d_pu 16 rfl (pu_move rfl) (by kernel_rfl) (by kernel_rfl) (by kernel_rfl) ?_
    refine d_split 47 rfl (fun h47 => by simp at h47) (fun h47 => ?_)
    refine d_pu_on 17 rfl rfl rfl (pu_move rfl) (by kernel_rfl) (by kernel_rfl) (by kernel_rfl) ?_
    refine d_pu_on 19 rfl rfl rfl (pu_move rfl) (by kernel_rfl) (by kernel_rfl) (by kernel_rfl) ?_
    first | refine d_pu_on 20 rfl rfl rfl (pu_nilCheck rfl) (by kernel_rfl) (by kernel_rfl) (by kernel_rfl) ?_ | refine d_pu_on 20 rfl rfl rfl (pu_nilCheck_fn rfl) (by kernel_rfl) (by kernel_rfl) (by kernel_rfl) ?_ | refine d_pu_on 20 rfl rfl rfl (pu_nilCheck_if rfl) (by kernel_rfl) (by kernel_rfl) (by kernel_rfl) ?_
    first | refine d_pu_on 21 rfl rfl rfl (pu_fieldAddr0 rfl) (by kernel_rfl) (by kernel_rfl) (by kernel_rfl) ?_ | refine d_pu_on 21 rfl rfl rfl (pu_fieldAddr rfl) (by kernel_rfl) (by kernel_rfl) (by kernel_rfl) ?_
    refine d_rd_on 22 rfl rfl rfl (rd_load rfl rfl) rfl (by kernel_rfl) (by kernel_rfl) (by kernel_rfl) ?_
    refine d_pu_on 23 rfl rfl rfl (pu_len rfl) (by kernel_rfl) (by kernel_rfl) (by kernel_rfl) ?_
    refine d_amb [18] (by kernel_rfl) rfl ?_
    refine dA_ef 18 rfl (GOn.some rfl rfl) (ef_fn (size_m po m _) rfl rfl (by repeat (first | exact Split.nil | (apply Split.cons; (repeat (first | with_reducible exact Take.here | apply Take.there)))))) ?_
    rintro v1 L1 ⟨rfl, rfl⟩
    refine ⟨_, ent_appC (Split.ent (by repeat (first | exact Split.nil | (apply Split.cons; (repeat (first | with_reducible exact Take.here | apply Take.there)))))), ?_⟩
    refine d_pu_on 24 rfl rfl rfl (pu_neq rfl rfl) (by kernel_rfl) (by kernel_rfl) (by kernel_rfl) ?_
    first | refine d_pu 25 rfl (pu_pick_t rfl rfl) (by kernel_rfl) (by kernel_rfl) (by kernel_rfl) ?_ | refine d_pu 25 rfl (pu_pick_f rfl rfl) (by kernel_rfl) (by kernel_rfl) (by kernel_rfl) ?_
    refine d_sub _ (.cons (t := 2) rfl (.cons (t := 7) rfl (.cons (t := 8) rfl (.cons (t := 9) rfl (.cons (t := 10) rfl (.cons (t := 56) rfl .nil)))))) ?_
    first | refine d_nilt (by kernel_rfl) ?_ | refine d_nilf (by kernel_rfl) ?_
    refine then_n ?_
    refine swp_cond (b := _) rfl (fun h56 => by simp at h56) (fun h56 => ?_)
    refine swp_skip ?_
    refine then_n ?_
    refine swp_seq ?_
    refine swp_seq ?_
    refine swp_region ?_
    refine s_pu (pu_move rfl) ?_
    refine s_pu (pu_move rfl) ?_
    refine s_pu (pu_len_row hl rfl) ?_
    refine s_pu (pu_min2 rfl rfl) ?_
    refine s_pu (hpt _ _ _ _ _ rfl rfl hmin) ?_
    refine s_pu (pu_len_row hvt rfl) ?_
    refine s_pu (pu_move rfl) ?_
    refine swl_sub _ (.cons (t := 7) rfl (.cons (t := 8) rfl (.cons (t := 9) rfl (.cons (t := 10) rfl (.cons (t := 61) rfl (.cons (t := 62) rfl (.cons (t := 63) rfl .nil))))))) ?_
    refine swl_ent (Split.ent' (K := [mset ps n (fun _ => false), mset po m (fun _ => false), blk pw 39 [.slice (some ⟨bw, 0, none⟩) n n], blk bw 4 (rbs n (fun _ => false)), blk px 39 [.slice (some ⟨bx, 0, none⟩) m m], blk bx 4 (rbs m (fun _ => false)), ro μ]) (by repeat (first | exact Split.nil | (apply Split.cons; (repeat (first | with_reducible exact Take.here | apply Take.there)))))) ?_
    refine swl_nil ?_
    refine then_n ?_
    refine swp_block ?_
    refine swp_loop (ι := Nat × PS × PS) (fun k env L => env = [(7, .pointer (some ⟨k.2.1.p, 0, none⟩)), (8, .pointer (some ⟨k.2.2.p, 0, none⟩)), (9, .pointer (some ⟨k.2.1.w, 0, none⟩)), (10, .pointer (some ⟨k.2.2.w, 0, none⟩)), (61, vt), (62, .int .i64 (cc : Nat)), (63, .int .i64 (k.1 : Nat))] ∧
      L = [mset k.2.1.p k.2.1.n k.2.1.S, mset k.2.2.p k.2.2.n k.2.2.S, blk k.2.1.w 39 [.slice (some ⟨k.2.1.b, 0, none⟩) k.2.1.n k.2.1.n], blk k.2.1.b 4 (rbs k.2.1.n k.2.1.S), blk k.2.2.w 39 [.slice (some ⟨k.2.2.b, 0, none⟩) k.2.2.n k.2.2.n], blk k.2.2.b 4 (rbs k.2.2.n k.2.2.S), ro μ] ∧
      k.1 ≤ cc ∧ k.2.1.n ≤ 1048576 ∧ k.2.2.n ≤ 1048576 ∧ (∀ j, k.2.1.n ≤ j → k.2.1.S j = false) ∧ (∀ j, k.2.2.n ≤ j → k.2.2.S j = false)) (fun k => cc - k.1) (0, ⟨ps, n, pw, bw, fun _ => false⟩, ⟨po, m, px, bx, fun _ => false⟩) ⟨rfl, rfl, Nat.zero_le _, hn1, hm1, fun _ _ => rfl, fun _ _ => rfl⟩ ?_
    rintro ⟨i, ⟨p, n, w, b, S⟩, ⟨q, m, x, c, T⟩⟩ env L ⟨rfl, rfl, hi, hn1, hm1, hSz, hTz⟩
    dsimp only at hi hn1 hm1 hSz hTz ⊢
    refine swp_seq ?_
    refine swp_region ?_
    refine s_pu (pu_lss rfl rfl) ?_
    refine swl_sub _ (.cons (t := 7) rfl (.cons (t := 8) rfl (.cons (t := 9) rfl (.cons (t := 10) rfl (.cons (t := 61) rfl (.cons (t := 62) rfl (.cons (t := 63) rfl (.cons (t := 64) rfl .nil)))))))) ?_
    refine swl_nil ?_
    refine then_n ?_
    refine swp_seq ?_
    refine swp_cond (b := _) rfl (fun h64 => ?_) (fun h64 => ?_)
    · skip   -- 64 T
      have h64' : i < cc := by have := of_decide_eq_true h64; omega
      obtain ⟨gb, off, cap', rfl, c1, c2, hr⟩ := hvt.pos (by omega)
      obtain ⟨y, hy⟩ : ∃ y, l'[i]? = some y := ⟨_, List.getElem?_eq_getElem (by omega)⟩
      have hrk := hr.elem (pcs_len .u8 .i64) hy
      refine swp_skip ?_
      refine then_n ?_
      refine swp_seq ?_
      refine swp_block ?_
      refine swp_seq ?_
      refine swp_region ?_
      refine s_pu (pu_indexAddr (off + i * 2) rfl rfl (by omega) (by omega) (by rw [Int.toNat_natCast])) ?_
      refine s_rd (rd_roA (vs := [.int .u8 y.1, .int .i64 y.2]) rfl rfl hrk) ?_
      refine s_ef (ef_alloc) ?_
      intro b12
      refine s_ef0 (ef_storeA rfl rfl rfl rfl) ?_
      refine swl_sub _ (.cons (t := 7) rfl (.cons (t := 8) rfl (.cons (t := 9) rfl (.cons (t := 10) rfl (.cons (t := 12) rfl (.cons (t := 61) rfl (.cons (t := 62) rfl (.cons (t := 63) rfl .nil)))))))) ?_
      refine swl_nil ?_
      refine then_n ?_
      refine swp_seq ?_
      refine swp_seq ?_
      refine swp_draw [4, 13] ([blk b12 41 [.int .u8 y.1, .int .i64 y.2], blk w 39 [.slice (some ⟨b, 0, none⟩) n n]]) ([mset p n S, mset q m T, blk b 4 (rbs n S), blk x 39 [.slice (some ⟨c, 0, none⟩) m m], blk c 4 (rbs m T), ro μ]) (Split.ent (by repeat (first | exact Split.nil | (apply Split.cons; (repeat (first | with_reducible exact Take.here | apply Take.there)))))) (by kernel_rfl) ?_
      refine d_pu 0 rfl (pu_move rfl) (by kernel_rfl) (by kernel_rfl) (by kernel_rfl) ?_
      refine d_pu 1 rfl (pu_move rfl) (by kernel_rfl) (by kernel_rfl) (by kernel_rfl) ?_
      refine d_pu 2 rfl (pu_move rfl) (by kernel_rfl) (by kernel_rfl) (by kernel_rfl) ?_
      refine d_pu 3 rfl (pu_move rfl) (by kernel_rfl) (by kernel_rfl) (by kernel_rfl) ?_
      first | refine d_rd 4 rfl (rd_loadW rfl rfl) rfl (by kernel_rfl) (by kernel_rfl) (by kernel_rfl) ?_ | refine d_rd 4 rfl (rd_loadX rfl rfl rfl) rfl (by kernel_rfl) (by kernel_rfl) (by kernel_rfl) ?_
      refine d_eft 5 rfl (by kernel_rfl) (ef_fn (step_spec μ p n w b q m x c S T y.1 y.2 hT hn1 hm1 hSz hTz) rfl rfl (by repeat (first | exact Split.nil | (apply Split.cons; (repeat (first | with_reducible exact Take.here | apply Take.there)))))) ?_
      rintro v1 L1 ⟨rfl, S', hS', rfl⟩
      refine ⟨_, ent_appC (Split.ent (by repeat (first | exact Split.nil | (apply Split.cons; (repeat (first | with_reducible exact Take.here | apply Take.there)))))), ?_⟩
      refine d_pu 6 rfl (pu_not rfl) (by kernel_rfl) (by kernel_rfl) (by kernel_rfl) ?_
      refine d_pu 7 rfl (pu_move rfl) (by kernel_rfl) (by kernel_rfl) (by kernel_rfl) ?_
      refine d_pu_on 8 rfl rfl rfl (pu_move rfl) (by kernel_rfl) (by kernel_rfl) (by kernel_rfl) ?_
      refine d_pu_on 10 rfl rfl rfl (pu_move rfl) (by kernel_rfl) (by kernel_rfl) (by kernel_rfl) ?_
      first | refine d_pu_on 11 rfl rfl rfl (pu_nilCheck rfl) (by kernel_rfl) (by kernel_rfl) (by kernel_rfl) ?_ | refine d_pu_on 11 rfl rfl rfl (pu_nilCheck_fn rfl) (by kernel_rfl) (by kernel_rfl) (by kernel_rfl) ?_ | refine d_pu_on 11 rfl rfl rfl (pu_nilCheck_if rfl) (by kernel_rfl) (by kernel_rfl) (by kernel_rfl) ?_
      first | refine d_pu_on 12 rfl rfl rfl (pu_fieldAddr0 rfl) (by kernel_rfl) (by kernel_rfl) (by kernel_rfl) ?_ | refine d_pu_on 12 rfl rfl rfl (pu_fieldAddr rfl) (by kernel_rfl) (by kernel_rfl) (by kernel_rfl) ?_
      refine d_rd_on 13 rfl rfl rfl (rd_load rfl rfl) rfl (by kernel_rfl) (by kernel_rfl) (by kernel_rfl) ?_
      refine d_pu_on 14 rfl rfl rfl (pu_len rfl) (by kernel_rfl) (by kernel_rfl) (by kernel_rfl) ?_
      refine d_amb [9] (by kernel_rfl) rfl ?_
      refine dA_ef 9 rfl (GOn.some rfl rfl) (ef_fn (size_m p n S') rfl rfl (by repeat (first | exact Split.nil | (apply Split.cons; (repeat (first | with_reducible exact Take.here | apply Take.there)))))) ?_
      rintro v1 L1 ⟨rfl, rfl⟩
      refine ⟨_, ent_appC (Split.ent (by repeat (first | exact Split.nil | (apply Split.cons; (repeat (first | with_reducible exact Take.here | apply Take.there)))))), ?_⟩
      refine d_pu_on 15 rfl rfl rfl (pu_neq rfl rfl) (by kernel_rfl) (by kernel_rfl) (by kernel_rfl) ?_
      first | refine d_pu 16 rfl (pu_pick_t rfl rfl) (by kernel_rfl) (by kernel_rfl) (by kernel_rfl) ?_ | refine d_pu 16 rfl (pu_pick_f rfl rfl) (by kernel_rfl) (by kernel_rfl) (by kernel_rfl) ?_
      refine d_sub _ (.cons (t := 7) rfl (.cons (t := 8) rfl (.cons (t := 9) rfl (.cons (t := 10) rfl (.cons (t := 12) rfl (.cons (t := 61) rfl (.cons (t := 62) rfl (.cons (t := 63) rfl (.cons (t := 83) rfl .nil))))))))) ?_
      first | refine d_nilt (by kernel_rfl) ?_ | refine d_nilf (by kernel_rfl) ?_
      refine then_n ?_
      refine swp_cond (b := _) rfl (fun h83 => by simp at h83) (fun h83 => ?_)
      refine swp_skip ?_
      refine then_n ?_
      refine swp_seq ?_
      refine swp_region ?_
      first | refine s_pu (pu_fieldAddr0 rfl) ?_ | refine s_pu (pu_fieldAddr rfl) ?_
      refine s_rd (rd_load rfl rfl) ?_
      refine s_pu (pu_rem rfl rfl (by omega)) ?_
      refine s_pu (pu_eql rfl rfl) ?_
      refine swl_sub _ (.cons (t := 7) rfl (.cons (t := 8) rfl (.cons (t := 9) rfl (.cons (t := 10) rfl (.cons (t := 61) rfl (.cons (t := 62) rfl (.cons (t := 63) rfl (.cons (t := 87) rfl .nil)))))))) ?_
      refine swl_nil ?_
      refine then_n ?_
      refine swp_cond (b := _) rfl (fun h87 => ?_) (fun h87 => ?_)
      · skip   -- 87 T
        refine swp_region ?_
        refine s_pu (pu_move rfl) ?_
        refine s_pu (pu_move rfl) ?_
        refine s_pu (pu_move rfl) ?_
        refine s_pu (pu_move rfl) ?_
        refine s_pu (pu_assign rfl) ?_
        refine s_pu (pu_assign rfl) ?_
        refine s_pu (pu_assign rfl) ?_
        refine s_pu (pu_assign rfl) ?_
        refine swl_sub _ (.cons (t := 7) rfl (.cons (t := 8) rfl (.cons (t := 9) rfl (.cons (t := 10) rfl (.cons (t := 61) rfl (.cons (t := 62) rfl (.cons (t := 63) rfl .nil))))))) ?_
        refine swl_nil ?_
        refine block_n ?_
        refine then_n ?_
        refine swp_region ?_
        refine s_pu (pu_add_as ((i + 1 : Nat) : Int) rfl rfl (by omega) (by omega) (by omega)) ?_
        refine s_pu (pu_move rfl) ?_
        refine swl_sub _ (.cons (t := 7) rfl (.cons (t := 8) rfl (.cons (t := 9) rfl (.cons (t := 10) rfl (.cons (t := 61) rfl (.cons (t := 62) rfl (.cons (t := 63) rfl .nil))))))) ?_
        refine swl_ent (Split.ent' (K := [mset q m T, mset p n S', blk x 39 [.slice (some ⟨c, 0, none⟩) m m], blk c 4 (rbs m T), blk w 39 [.slice (some ⟨b, 0, none⟩) n n], blk b 4 (rbs n S'), ro μ]) (by repeat (first | exact Split.nil | (apply Split.cons; (repeat (first | with_reducible exact Take.here | apply Take.there)))))) ?_
        refine swl_nil ?_
        exact then_n ⟨(i + 1, ⟨q, m, x, c, T⟩, ⟨p, n, w, b, S'⟩), ⟨rfl, rfl, h64', hm1, hn1, hTz, hS'⟩, by show cc - (i + 1) < cc - i; omega⟩
      · skip   -- 87 F
        refine swp_skip ?_
        refine block_n ?_
        refine then_n ?_
        refine swp_region ?_
        refine s_pu (pu_add_as ((i + 1 : Nat) : Int) rfl rfl (by omega) (by omega) (by omega)) ?_
        refine s_pu (pu_move rfl) ?_
        refine swl_sub _ (.cons (t := 7) rfl (.cons (t := 8) rfl (.cons (t := 9) rfl (.cons (t := 10) rfl (.cons (t := 61) rfl (.cons (t := 62) rfl (.cons (t := 63) rfl .nil))))))) ?_
        refine swl_ent (Split.ent' (K := [mset p n S', mset q m T, blk w 39 [.slice (some ⟨b, 0, none⟩) n n], blk b 4 (rbs n S'), blk x 39 [.slice (some ⟨c, 0, none⟩) m m], blk c 4 (rbs m T), ro μ]) (by repeat (first | exact Split.nil | (apply Split.cons; (repeat (first | with_reducible exact Take.here | apply Take.there)))))) ?_
        refine swl_nil ?_
        exact then_n ⟨(i + 1, ⟨p, n, w, b, S'⟩, ⟨q, m, x, c, T⟩), ⟨rfl, rfl, h64', hn1, hm1, hS', hTz⟩, by show cc - (i + 1) < cc - i; omega⟩
    · skip   -- 64 F
      refine swp_exit ?_
      refine then_x ?_
      refine then_x ?_
      refine block_hit rfl ?_
      refine then_n ?_
      refine swp_seq ?_
      refine swp_region ?_
      refine s_pu (pu_move rfl) ?_
      refine s_pu (pu_move rfl) ?_
      refine s_ef (ef_fn (same_spec μ p n w b S hT hn1) rfl rfl (by repeat (first | exact Split.nil | (apply Split.cons; (repeat (first | with_reducible exact Take.here | apply Take.there)))))) ?_
      rintro v1 L1 ⟨rfl, rfl⟩
      refine swl_app ?_
      refine s_pu (pu_move rfl) ?_
      refine s_on rfl rfl ?_
      refine s_pu (pu_move rfl) ?_
      refine s_on rfl rfl ?_
      refine s_pu (pu_move rfl) ?_
      refine s_on rfl rfl ?_
      refine s_ef (ef_fn (same_spec μ q m x c T hT hm1) rfl rfl (by repeat (first | exact Split.nil | (apply Split.cons; (repeat (first | with_reducible exact Take.here | apply Take.there)))))) ?_
      rintro v1 L1 ⟨rfl, rfl⟩
      refine swl_app ?_
      first | refine s_pu (pu_pick_t rfl rfl) ?_ | refine s_pu (pu_pick_f rfl rfl) ?_
      refine s_pu (pu_assign rfl) ?_
      refine swl_sub _ (.cons (t := 6) rfl .nil) ?_
      refine swl_nil ?_
      refine then_n ?_
      refine swp_ret ?_
      exact done_ret [ro μ] (.tmp rfl .nil) ⟨rfl, μ, [], Le.refl _, rfl⟩ (by repeat (first | exact Split.nil | (apply Split.cons; (repeat (first | with_reducible exact Take.here | apply Take.there)))))
end SX
