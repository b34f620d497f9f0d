/- A part of the proof: walks of the seat's functions, by the rules of the texts that it imports. -/
import Derived.Test.YtfbfmokgpdmcfaaDoorMdM3
namespace SX
open Go Go.Proofs

abbrev opr (p n : Nat) (v : Value) (ws : List (BitVec 64)) (μ : PH) : List Assn := [blk p 52 [.int .i64 (n : Nat), v], own 67 1 v ws.length (wcells ws), ro μ]
def IsNext (S : Nat → Bool) (k r : Int) : Prop := (r = -1 ∧ ∀ j : Nat, k ≤ j → S j = false) ∨ ∃ j : Nat, r = j ∧ k ≤ j ∧ S j = true ∧ ∀ i : Nat, k ≤ i → i < j → S i = false
def IsLast (S : Nat → Bool) (k r : Int) : Prop := (r = -1 ∧ ∀ j : Nat, (j : Int) ≤ k → S j = false) ∨ ∃ j : Nat, r = j ∧ (j : Int) ≤ k ∧ S j = true ∧ ∀ i : Nat, j < i → (i : Int) ≤ k → S i = false
theorem mem_ge {ws : List (BitVec 64)} {k : Nat} (h : 64 * ws.length ≤ k) : mem ws k = false := by
  unfold mem
  rw [List.getD_eq_getElem?_getD, List.getElem?_eq_none (by omega)]
  simp
theorem w_ne {w : BitVec 64} (h : (!decide ((w.toNat : Int) = 0)) = true) : w ≠ 0#64 := fun e => by subst e; simp at h
theorem w_eq {w : BitVec 64} (h : (!decide ((w.toNat : Int) = 0)) = false) : w = 0#64 := by
  have := of_decide_eq_true (not_f h)
  exact BitVec.eq_of_toNat_eq (by simpa using this)

set_option maxHeartbeats 1000000 in
theorem next_o (μ : PH) (p n : Nat) (v : Value) (ws : List (BitVec 64)) (k : Int) (hT : RowAt μ 0 0 tabV) (hl : ws.length = (n + 63) / 64) (hn : n ≤ 1048576) (hS : ∀ j, n ≤ j → mem ws j = false) :
    Spec Tryd.prog 19 [.pointer (some ⟨p, 0, none⟩), .int .i64 k] (opr p n v ws μ) (fun r L => ∃ x, r = .int .i64 x ∧ IsNext (mem ws) k x ∧ L = opr p n v ws μ) := by
  obtain ⟨m, hm⟩ : ∃ m : Nat, max k 0 = m := ⟨(max k 0).toNat, by omega⟩
  refine Spec.of 52 Tryd.func19 rfl rfl rfl ?_
  refine swp_seq ?_
  refine swp_region ?_
  refine s_pu (pu_assign rfl) ?_
  refine swl_sub _ (.cons (t := 0) rfl (.cons (t := 1) rfl .nil)) ?_
  refine swl_nil ?_
  refine then_n ?_
  refine swp_seq ?_
  refine swp_region ?_
  refine s_pu (pu_move rfl) ?_
  refine s_pu (pu_max2 rfl rfl) ?_
  refine s_pu (pu_assign rfl) ?_
  refine swl_sub _ (.cons (t := 0) rfl (.cons (t := 1) rfl .nil)) ?_
  rw [hm]
  refine swl_nil ?_
  refine then_n ?_
  refine swp_seq ?_
  refine swp_seq ?_
  refine swp_region ?_
  refine s_pu (pu_move rfl) ?_
  refine s_pu (pu_move rfl) ?_
  refine s_ef (ef_fn (size_b p n v) rfl rfl (by repeat (first | exact Split.nil | (apply Split.cons; (repeat (first | with_reducible exact Take.here | apply Take.there)))))) ?_
  rintro v1 L1 ⟨rfl, rfl⟩
  refine swl_app ?_
  refine s_pu (pu_geq rfl rfl) ?_
  refine swl_sub _ (.cons (t := 0) rfl (.cons (t := 1) rfl (.cons (t := 12) rfl .nil))) ?_
  refine swl_nil ?_
  refine then_n ?_
  refine swp_cond (b := _) rfl (fun h12 => ?_) (fun h12 => ?_)
  · skip   -- 12 T
    refine swp_seq ?_
    refine swp_region ?_
    refine s_pu (pu_assign rfl) ?_
    refine swl_sub _ (.cons (t := 4) rfl .nil) ?_
    refine swl_nil ?_
    refine then_n ?_
    refine swp_ret ?_
    refine then_r ?_
    have h12' := of_decide_eq_true h12
    exact done_ret (opr p n v ws μ) (.tmp rfl .nil) ⟨-1, rfl, .inl ⟨rfl, fun j hj => hS j (by omega)⟩, rfl⟩ (by repeat (first | exact Split.nil | (apply Split.cons; (repeat (first | with_reducible exact Take.here | apply Take.there)))))
  · skip   -- 12 F
    refine swp_skip ?_
    refine then_n ?_
    refine swp_seq ?_
    have h12' := of_decide_eq_false h12
    have hmi : m / 64 < ws.length := by omega
    obtain ⟨w0, hw0⟩ : ∃ w, ws[m / 64]? = some w := ⟨_, List.getElem?_eq_getElem hmi⟩
    refine swp_front (A := own 67 1 v ws.length (wcells ws)) (by repeat (first | with_reducible exact Take.here | apply Take.there)) ?_
    refine swp_own (fun h0 l0 _ => by omega) (fun b cap ex hv h1 h2 h3 h4 => ?_)
    subst hv
    refine swp_draw [5, 9] _ [] (by simp only [List.append_nil]; exact Ent.refl _) (by kernel_rfl) ?_
    refine d_pu 0 rfl (pu_move rfl) (by kernel_rfl) (by kernel_rfl) (by kernel_rfl) ?_
    refine d_pu 1 rfl (pu_quo_as ((m / 64 : Nat) : Int) rfl rfl (by omega) (by omega) (by omega) (by omega)) (by kernel_rfl) (by kernel_rfl) (by kernel_rfl) ?_
    refine d_pu 2 rfl (pu_move rfl) (by kernel_rfl) (by kernel_rfl) (by kernel_rfl) ?_
    first | refine d_pu 3 rfl (pu_nilCheck rfl) (by kernel_rfl) (by kernel_rfl) (by kernel_rfl) ?_ | refine d_pu 3 rfl (pu_nilCheck_fn rfl) (by kernel_rfl) (by kernel_rfl) (by kernel_rfl) ?_ | refine d_pu 3 rfl (pu_nilCheck_if rfl) (by kernel_rfl) (by kernel_rfl) (by kernel_rfl) ?_
    first | refine d_pu 4 rfl (pu_fieldAddr0 rfl) (by kernel_rfl) (by kernel_rfl) (by kernel_rfl) ?_ | refine d_pu 4 rfl (pu_fieldAddr rfl) (by kernel_rfl) (by kernel_rfl) (by kernel_rfl) ?_
    refine d_rd 5 rfl (rd_load rfl rfl) rfl (by kernel_rfl) (by kernel_rfl) (by kernel_rfl) ?_
    refine d_pu 6 rfl (pu_move rfl) (by kernel_rfl) (by kernel_rfl) (by kernel_rfl) ?_
    refine d_pu 7 rfl (pu_quo_as ((m / 64 : Nat) : Int) rfl rfl (by omega) (by omega) (by omega) (by omega)) (by kernel_rfl) (by kernel_rfl) (by kernel_rfl) ?_
    refine d_pu 8 rfl (pu_indexAddr (m / 64) rfl rfl (by omega) (by omega) (by omega)) (by kernel_rfl) (by kernel_rfl) (by kernel_rfl) ?_
    refine d_rd 9 rfl (rd_load rfl (wcells_get hw0)) rfl (by kernel_rfl) (by kernel_rfl) (by kernel_rfl) ?_
    refine d_pu 10 rfl (pu_move rfl) (by kernel_rfl) (by kernel_rfl) (by kernel_rfl) ?_
    refine d_pu 11 rfl (pu_rem_as ((m % 64 : Nat) : Int) rfl rfl (by omega) (by omega) (by omega)) (by kernel_rfl) (by kernel_rfl) (by kernel_rfl) ?_
    refine d_pu 12 rfl (pu_shr_w (a := w0) (m % 64) rfl rfl (by omega)) (by kernel_rfl) (by kernel_rfl) (by kernel_rfl) ?_
    refine d_pu 13 rfl (pu_move rfl) (by kernel_rfl) (by kernel_rfl) (by kernel_rfl) ?_
    refine d_pu 14 rfl (pu_rem_as ((m % 64 : Nat) : Int) rfl rfl (by omega) (by omega) (by omega)) (by kernel_rfl) (by kernel_rfl) (by kernel_rfl) ?_
    refine d_pu 15 rfl (pu_shl_w (a := w0 >>> (m % 64)) (m % 64) rfl rfl (by omega)) (by kernel_rfl) (by kernel_rfl) (by kernel_rfl) ?_
    refine d_pu 16 rfl (pu_assign rfl) (by kernel_rfl) (by kernel_rfl) (by kernel_rfl) ?_
    refine d_pu 17 rfl (pu_assign rfl) (by kernel_rfl) (by kernel_rfl) (by kernel_rfl) ?_
    refine d_sub _ (.cons (t := 0) rfl (.cons (t := 5) rfl (.cons (t := 6) rfl .nil))) ?_
    first | refine d_nilt (by kernel_rfl) ?_ | refine d_nilf (by kernel_rfl) ?_
    refine then_n ?_
    refine swp_block ?_
    refine swp_loop (ι := Nat × BitVec 64) (fun x env L => env = [(0, .pointer (some ⟨p, 0, none⟩)), (5, .int .i64 (x.1 : Nat)), (6, wv x.2)] ∧ L = [blk b 67 (wcells ws ++ ex), blk p 52 [.int .i64 (n : Nat), .slice (some ⟨b, 0, none⟩) ws.length cap], ro μ] ∧
      m / 64 ≤ x.1 ∧ x.1 < ws.length ∧ (∀ j, m ≤ j → j < 64 * x.1 → mem ws j = false) ∧ (∀ r, r < 64 → x.2.getLsbD r = (mem ws (64 * x.1 + r) && decide (m ≤ 64 * x.1 + r)))) (fun x => ws.length - x.1) (m / 64, (w0 >>> (m % 64)) <<< (m % 64)) ⟨rfl, rfl, Nat.le_refl _, hmi, fun j h1 h2 => by simp only at h2; omega, fun r hr => ?_⟩ ?_
    · show ((w0 >>> (m % 64)) <<< (m % 64)).getLsbD r = _
      rw [BitVec.getLsbD_shiftLeft, BitVec.getLsbD_ushiftRight, mem_at hw0 (k := 64 * (m / 64) + r) (by omega)]
      have e1 : (64 * (m / 64) + r) % 64 = r := by omega
      rw [e1]
      by_cases hrs : r < m % 64
      · have : ¬ m ≤ 64 * (m / 64) + r := by omega
        simp [hrs, this]
      · have : m ≤ 64 * (m / 64) + r := by omega
        have e2 : m % 64 + (r - m % 64) = r := by omega
        simp [hrs, this, hr, e2]
    rintro ⟨i, w⟩ env L ⟨rfl, rfl, him, hi, hlo, hbits⟩
    simp only [] at him hi hlo hbits
    dsimp only
    refine swp_seq ?_
    refine swp_block ?_
    refine swp_seq ?_
    refine swp_seq ?_
    refine swp_region ?_
    refine s_pu (pu_move rfl) ?_
    refine s_pu (pu_neq rfl rfl) ?_
    refine swl_sub _ (.cons (t := 0) rfl (.cons (t := 5) rfl (.cons (t := 6) rfl (.cons (t := 37) rfl .nil)))) ?_
    refine swl_nil ?_
    refine then_n ?_
    refine swp_cond (b := _) rfl (fun h37 => ?_) (fun h37 => ?_)
    · skip   -- 37 T
      have hw := w_ne h37
      obtain ⟨hc1, hc2, hc3⟩ := ctz_spec hw
      refine swp_seq ?_
      refine swp_region ?_
      refine s_pu (pu_move rfl) ?_
      refine s_pu (pu_mul_as ((64 * i : Nat) : Int) rfl rfl (by omega) (by omega) (by omega)) ?_
      refine s_pu (pu_move rfl) ?_
      refine s_ef (ef_fn (tz_spec μ w hT hw) rfl rfl (by repeat (first | exact Split.nil | (apply Split.cons; (repeat (first | with_reducible exact Take.here | apply Take.there)))))) ?_
      rintro v1 L1 ⟨rfl, rfl⟩
      refine swl_app ?_
      refine s_pu (pu_add_as ((64 * i + ctz w : Nat) : Int) rfl rfl (by omega) (by omega) (by omega)) ?_
      refine s_pu (pu_assign rfl) ?_
      refine swl_sub _ (.cons (t := 4) rfl .nil) ?_
      refine swl_nil ?_
      refine then_n ?_
      refine swp_ret ?_
      refine then_r ?_
      refine block_r ?_
      refine then_r ?_
      refine then_r ?_
      refine block_r ?_
      have hb := hbits _ hc1
      rw [hc2] at hb
      have hb1 := (Bool.and_eq_true_iff.1 hb.symm)
      have hb2 := of_decide_eq_true hb1.2
      refine done_retE (opr p n _ ws μ) (.tmp rfl .nil) ⟨_, rfl, .inr ⟨64 * i + ctz w, rfl, by omega, hb1.1, fun j h1 h2 => ?_⟩, rfl⟩
        ((Split.ent' (K := [blk b 67 (wcells ws ++ ex), blk p 52 [.int .i64 (n : Nat), .slice (some ⟨b, 0, none⟩) ws.length cap], ro μ]) (by repeat (first | exact Split.nil | (apply Split.cons; (repeat (first | with_reducible exact Take.here | apply Take.there)))))).trans ((wown_close h1 h2 h4).trans Ent.swap))
      rcases Nat.lt_or_ge j (64 * i) with h | h
      · exact hlo j (by omega) h
      · have hj := hbits (j - 64 * i) (by omega)
        rw [hc3 _ (by omega), show 64 * i + (j - 64 * i) = j by omega, decide_eq_true (show m ≤ j by omega), Bool.and_true] at hj
        exact hj.symm
    · skip   -- 37 F
      have hw := w_eq h37
      have hlo2 : ∀ j, m ≤ j → j < 64 * (i + 1) → mem ws j = false := fun j h1 h2 => by
        rcases Nat.lt_or_ge j (64 * i) with h | h
        · exact hlo j h1 h
        · have hj := hbits (j - 64 * i) (by omega)
          rw [hw, show 64 * i + (j - 64 * i) = j by omega, decide_eq_true h1, Bool.and_true] at hj
          rw [← hj]; simp
      refine swp_skip ?_
      refine then_n ?_
      refine swp_seq ?_
      refine swp_region ?_
      refine s_pu (pu_move rfl) ?_
      refine s_pu (pu_add_as ((i + 1 : Nat) : Int) rfl rfl (by omega) (by omega) (by omega)) ?_
      refine s_pu (pu_assign rfl) ?_
      refine swl_sub _ (.cons (t := 0) rfl (.cons (t := 5) rfl .nil)) ?_
      refine swl_nil ?_
      refine then_n ?_
      refine swp_seq ?_
      refine swp_region ?_
      refine s_pu (pu_move rfl) ?_
      refine s_pu (pu_move rfl) ?_
      first | refine s_pu (pu_nilCheck rfl) ?_ | refine s_pu (pu_nilCheck_fn rfl) ?_ | refine s_pu (pu_nilCheck_if rfl) ?_
      first | refine s_pu (pu_fieldAddr0 rfl) ?_ | refine s_pu (pu_fieldAddr rfl) ?_
      refine s_rd (rd_load rfl rfl) ?_
      refine s_pu (pu_len rfl) ?_
      refine s_pu (pu_eql rfl rfl) ?_
      refine swl_sub _ (.cons (t := 0) rfl (.cons (t := 5) rfl (.cons (t := 51) rfl .nil))) ?_
      refine swl_nil ?_
      refine then_n ?_
      refine swp_cond (b := _) rfl (fun h51 => ?_) (fun h51 => ?_)
      · skip   -- 51 T
        refine swp_seq ?_
        refine swp_region ?_
        refine s_pu (pu_assign rfl) ?_
        refine swl_sub _ (.cons (t := 4) rfl .nil) ?_
        refine swl_nil ?_
        refine then_n ?_
        refine swp_ret ?_
        refine block_r ?_
        refine then_r ?_
        refine then_r ?_
        refine block_r ?_
        have h51' := of_decide_eq_true h51
        exact done_retE (opr p n _ ws μ) (.tmp rfl .nil) ⟨_, rfl, .inl ⟨rfl, fun j hj => by
            rcases Nat.lt_or_ge j (64 * (i + 1)) with h | h
            · exact hlo2 j (by omega) h
            · exact mem_ge (by omega)⟩, rfl⟩
          ((Split.ent' (K := [blk b 67 (wcells ws ++ ex), blk p 52 [.int .i64 (n : Nat), .slice (some ⟨b, 0, none⟩) ws.length cap], ro μ]) (by repeat (first | exact Split.nil | (apply Split.cons; (repeat (first | with_reducible exact Take.here | apply Take.there)))))).trans ((wown_close h1 h2 h4).trans Ent.swap))
      · skip   -- 51 F
        have h51' := of_decide_eq_false h51
        have hi1 : i + 1 < ws.length := by omega
        obtain ⟨w1, hw1⟩ : ∃ w, ws[i + 1]? = some w := ⟨_, List.getElem?_eq_getElem hi1⟩
        refine swp_skip ?_
        refine block_n ?_
        refine then_n ?_
        refine swp_region ?_
        refine s_pu (pu_move rfl) ?_
        first | refine s_pu (pu_nilCheck rfl) ?_ | refine s_pu (pu_nilCheck_fn rfl) ?_ | refine s_pu (pu_nilCheck_if rfl) ?_
        first | refine s_pu (pu_fieldAddr0 rfl) ?_ | refine s_pu (pu_fieldAddr rfl) ?_
        refine s_rd (rd_load rfl rfl) ?_
        refine s_pu (pu_move rfl) ?_
        refine s_pu (pu_indexAddr (i + 1) rfl rfl (by omega) (by omega) (by omega)) ?_
        refine s_rd (rd_load rfl (wcells_get hw1)) ?_
        refine s_pu (pu_assign rfl) ?_
        refine swl_sub _ (.cons (t := 0) rfl (.cons (t := 5) rfl (.cons (t := 6) rfl .nil))) ?_
        refine swl_nil ?_
        refine then_n ⟨(i + 1, w1), ⟨rfl, rfl, by show m / 64 ≤ i + 1; omega, hi1, hlo2, fun r hr => ?_⟩, by show ws.length - (i + 1) < ws.length - i; omega⟩
        show w1.getLsbD r = (mem ws (64 * (i + 1) + r) && decide (m ≤ 64 * (i + 1) + r))
        rw [mem_at hw1 (k := 64 * (i + 1) + r) (by omega), show (64 * (i + 1) + r) % 64 = r by omega]
        have hmle : m ≤ 64 * (i + 1) + r := by
          rcases Nat.lt_or_ge (64 * (i + 1) + r) m with h | h
          · exact absurd h (by omega)
          · exact h
        rw [decide_eq_true hmle, Bool.and_true]
theorem next_nil (k : Int) : Spec Tryd.prog 19 [.pointer none, .int .i64 k] [] (fun r L => r = .int .i64 (-1) ∧ L = []) := by
  refine Spec.of 52 Tryd.func19 rfl rfl rfl ?_
  refine swp_seq ?_
  refine swp_region ?_
  refine s_pu (pu_assign rfl) ?_
  refine swl_sub _ (.cons (t := 0) rfl (.cons (t := 1) rfl .nil)) ?_
  refine swl_nil ?_
  refine then_n ?_
  refine swp_seq ?_
  refine swp_region ?_
  refine s_pu (pu_move rfl) ?_
  refine s_pu (pu_max2 rfl rfl) ?_
  refine s_pu (pu_assign rfl) ?_
  refine swl_sub _ (.cons (t := 0) rfl (.cons (t := 1) rfl .nil)) ?_
  refine swl_nil ?_
  refine then_n ?_
  refine swp_seq ?_
  refine swp_seq ?_
  refine swp_region ?_
  refine s_pu (pu_move rfl) ?_
  refine s_pu (pu_move rfl) ?_
  refine s_ef (ef_fn size_nil rfl rfl (by repeat (first | exact Split.nil | (apply Split.cons; (repeat (first | with_reducible exact Take.here | apply Take.there)))))) ?_
  rintro v1 L1 ⟨rfl, rfl⟩
  refine swl_app ?_
  refine s_pu (pu_geq rfl rfl) ?_
  refine swl_sub _ (.cons (t := 0) rfl (.cons (t := 1) rfl (.cons (t := 12) rfl .nil))) ?_
  refine swl_nil ?_
  refine then_n ?_
  refine swp_cond (b := _) rfl (fun h12 => ?_) (fun h12 => by have := of_decide_eq_false h12; omega)
  refine swp_seq ?_
  refine swp_region ?_
  refine s_pu (pu_assign rfl) ?_
  refine swl_sub _ (.cons (t := 4) rfl .nil) ?_
  refine swl_nil ?_
  refine then_n ?_
  refine swp_ret ?_
  refine then_r ?_
  exact done_ret [] (.tmp rfl .nil) ⟨rfl, rfl⟩ (by repeat (first | exact Split.nil | (apply Split.cons; (repeat (first | with_reducible exact Take.here | apply Take.there)))))

set_option maxHeartbeats 1000000 in
theorem last_o (p n : Nat) (v : Value) (ws : List (BitVec 64)) (k : Int) (hl : ws.length = (n + 63) / 64) (hn : n ≤ 1048576) (hS : ∀ j, n ≤ j → mem ws j = false) :
    Spec Tryd.prog 20 [.pointer (some ⟨p, 0, none⟩), .int .i64 k] (opn p n v ws) (fun r L => ∃ x, r = .int .i64 x ∧ IsLast (mem ws) k x ∧ L = opn p n v ws) := by
  refine Spec.of 51 Tryd.func20 rfl rfl rfl ?_
  refine swp_seq ?_
  refine swp_region ?_
  refine s_pu (pu_assign rfl) ?_
  refine swl_sub _ (.cons (t := 0) rfl (.cons (t := 1) rfl .nil)) ?_
  refine swl_nil ?_
  refine then_n ?_
  refine swp_seq ?_
  refine swp_region ?_
  refine s_pu (pu_move rfl) ?_
  refine s_pu (pu_move rfl) ?_
  refine s_ef (ef_fn (size_b p n v) rfl rfl (by repeat (first | exact Split.nil | (apply Split.cons; (repeat (first | with_reducible exact Take.here | apply Take.there)))))) ?_
  rintro v1 L1 ⟨rfl, rfl⟩
  refine swl_app ?_
  refine s_pu (pu_sub_as ((n : Int) - 1) rfl rfl (by omega) (by omega) (by omega)) ?_
  refine s_pu (pu_min2 rfl rfl) ?_
  refine s_pu (pu_assign rfl) ?_
  refine swl_sub _ (.cons (t := 0) rfl (.cons (t := 1) rfl .nil)) ?_
  refine swl_nil ?_
  refine then_n ?_
  refine swp_seq ?_
  refine swp_seq ?_
  refine swp_region ?_
  refine s_pu (pu_move rfl) ?_
  refine s_pu (pu_lss rfl rfl) ?_
  refine swl_sub _ (.cons (t := 0) rfl (.cons (t := 1) rfl (.cons (t := 14) rfl .nil))) ?_
  refine swl_nil ?_
  refine then_n ?_
  refine swp_cond (b := _) rfl (fun h14 => ?_) (fun h14 => ?_)
  · skip   -- 14 T
    refine swp_seq ?_
    refine swp_region ?_
    refine s_pu (pu_assign rfl) ?_
    refine swl_sub _ (.cons (t := 4) rfl .nil) ?_
    refine swl_nil ?_
    refine then_n ?_
    refine swp_ret ?_
    refine then_r ?_
    have h14' := of_decide_eq_true h14
    exact done_ret (opn p n v ws) (.tmp rfl .nil) ⟨-1, rfl, .inl ⟨rfl, fun j hj => hS j (by omega)⟩, rfl⟩ (by repeat (first | exact Split.nil | (apply Split.cons; (repeat (first | with_reducible exact Take.here | apply Take.there)))))
  · skip   -- 14 F
    refine swp_skip ?_
    refine then_n ?_
    refine swp_seq ?_
    have h14' := of_decide_eq_false h14
    obtain ⟨m, hm⟩ : ∃ m : Nat, min k ((n : Int) - 1) = m := ⟨(min k ((n : Int) - 1)).toNat, by omega⟩
    rw [hm]
    have hmi : m / 64 < ws.length := by omega
    obtain ⟨w0, hw0⟩ : ∃ w, ws[m / 64]? = some w := ⟨_, List.getElem?_eq_getElem hmi⟩
    refine swp_front (A := own 67 1 v ws.length (wcells ws)) (by repeat (first | with_reducible exact Take.here | apply Take.there)) ?_
    refine swp_own (fun h0 l0 _ => by omega) (fun b cap ex hv h1 h2 h3 h4 => ?_)
    subst hv
    refine swp_region ?_
    refine s_pu (pu_move rfl) ?_
    refine s_pu (pu_rem_as ((m % 64 : Nat) : Int) rfl rfl (by omega) (by omega) (by omega)) ?_
    refine s_pu (pu_sub_as ((63 - m % 64 : Nat) : Int) rfl rfl (by omega) (by omega) (by omega)) ?_
    refine s_pu (pu_assign rfl) ?_
    refine swl_sub _ (.cons (t := 0) rfl (.cons (t := 1) rfl (.cons (t := 5) rfl .nil))) ?_
    refine swl_nil ?_
    refine then_n ?_
    refine swp_seq ?_
    refine swp_draw [5, 9] _ [] (by simp only [List.append_nil]; exact Ent.refl _) (by kernel_rfl) ?_
    refine d_pu 0 rfl (pu_move rfl) (by kernel_rfl) (by kernel_rfl) (by kernel_rfl) ?_
    refine d_pu 1 rfl (pu_quo_as ((m / 64 : Nat) : Int) rfl rfl (by omega) (by omega) (by omega) (by omega)) (by kernel_rfl) (by kernel_rfl) (by kernel_rfl) ?_
    refine d_pu 2 rfl (pu_move rfl) (by kernel_rfl) (by kernel_rfl) (by kernel_rfl) ?_
    first | refine d_pu 3 rfl (pu_nilCheck rfl) (by kernel_rfl) (by kernel_rfl) (by kernel_rfl) ?_ | refine d_pu 3 rfl (pu_nilCheck_fn rfl) (by kernel_rfl) (by kernel_rfl) (by kernel_rfl) ?_ | refine d_pu 3 rfl (pu_nilCheck_if rfl) (by kernel_rfl) (by kernel_rfl) (by kernel_rfl) ?_
    first | refine d_pu 4 rfl (pu_fieldAddr0 rfl) (by kernel_rfl) (by kernel_rfl) (by kernel_rfl) ?_ | refine d_pu 4 rfl (pu_fieldAddr rfl) (by kernel_rfl) (by kernel_rfl) (by kernel_rfl) ?_
    refine d_rd 5 rfl (rd_load rfl rfl) rfl (by kernel_rfl) (by kernel_rfl) (by kernel_rfl) ?_
    refine d_pu 6 rfl (pu_move rfl) (by kernel_rfl) (by kernel_rfl) (by kernel_rfl) ?_
    refine d_pu 7 rfl (pu_quo_as ((m / 64 : Nat) : Int) rfl rfl (by omega) (by omega) (by omega) (by omega)) (by kernel_rfl) (by kernel_rfl) (by kernel_rfl) ?_
    refine d_pu 8 rfl (pu_indexAddr (m / 64) rfl rfl (by omega) (by omega) (by omega)) (by kernel_rfl) (by kernel_rfl) (by kernel_rfl) ?_
    refine d_rd 9 rfl (rd_load rfl (wcells_get hw0)) rfl (by kernel_rfl) (by kernel_rfl) (by kernel_rfl) ?_
    refine d_pu 10 rfl (pu_move rfl) (by kernel_rfl) (by kernel_rfl) (by kernel_rfl) ?_
    refine d_pu 11 rfl (pu_shl_w (a := w0) (63 - m % 64) rfl rfl (by omega)) (by kernel_rfl) (by kernel_rfl) (by kernel_rfl) ?_
    refine d_pu 12 rfl (pu_move rfl) (by kernel_rfl) (by kernel_rfl) (by kernel_rfl) ?_
    refine d_pu 13 rfl (pu_shr_w (a := w0 <<< (63 - m % 64)) (63 - m % 64) rfl rfl (by omega)) (by kernel_rfl) (by kernel_rfl) (by kernel_rfl) ?_
    refine d_pu 14 rfl (pu_assign rfl) (by kernel_rfl) (by kernel_rfl) (by kernel_rfl) ?_
    refine d_pu 15 rfl (pu_assign rfl) (by kernel_rfl) (by kernel_rfl) (by kernel_rfl) ?_
    refine d_sub _ (.cons (t := 0) rfl (.cons (t := 6) rfl (.cons (t := 7) rfl .nil))) ?_
    first | refine d_nilt (by kernel_rfl) ?_ | refine d_nilf (by kernel_rfl) ?_
    refine then_n ?_
    refine swp_block ?_
    refine swp_loop (ι := Nat × BitVec 64) (fun x env L => env = [(0, .pointer (some ⟨p, 0, none⟩)), (6, .int .i64 (x.1 : Nat)), (7, wv x.2)] ∧ L = [blk b 67 (wcells ws ++ ex), blk p 52 [.int .i64 (n : Nat), .slice (some ⟨b, 0, none⟩) ws.length cap]] ∧
      x.1 ≤ m / 64 ∧ x.1 < ws.length ∧ (∀ j, j ≤ m → 64 * (x.1 + 1) ≤ j → mem ws j = false) ∧ (∀ r, r < 64 → x.2.getLsbD r = (mem ws (64 * x.1 + r) && decide (64 * x.1 + r ≤ m)))) (fun x => x.1) (m / 64, (w0 <<< (63 - m % 64)) >>> (63 - m % 64)) ⟨rfl, rfl, Nat.le_refl _, hmi, fun j h1 h2 => by simp only at h2; omega, fun r hr => ?_⟩ ?_
    · show ((w0 <<< (63 - m % 64)) >>> (63 - m % 64)).getLsbD r = _
      rw [BitVec.getLsbD_ushiftRight, BitVec.getLsbD_shiftLeft, mem_at hw0 (k := 64 * (m / 64) + r) (by omega)]
      have e1 : (64 * (m / 64) + r) % 64 = r := by omega
      rw [e1]
      by_cases hrs : r ≤ m % 64
      · have : 64 * (m / 64) + r ≤ m := by omega
        have e2 : 63 - m % 64 + r - (63 - m % 64) = r := by omega
        have e3 : 63 - m % 64 + r < 64 := by omega
        have e4 : ¬ (63 - m % 64 + r < 63 - m % 64) := by omega
        simp [this, e2, e3, e4]
      · have : ¬ 64 * (m / 64) + r ≤ m := by omega
        have e3 : ¬ (63 - m % 64 + r < 64) := by omega
        simp [this, e3]
    rintro ⟨i, w⟩ env L ⟨rfl, rfl, him, hi, hlo, hbits⟩
    simp only [] at him hi hlo hbits
    dsimp only
    refine swp_seq ?_
    refine swp_block ?_
    refine swp_seq ?_
    refine swp_seq ?_
    refine swp_region ?_
    refine s_pu (pu_move rfl) ?_
    refine s_pu (pu_neq rfl rfl) ?_
    refine swl_sub _ (.cons (t := 0) rfl (.cons (t := 6) rfl (.cons (t := 7) rfl (.cons (t := 40) rfl .nil)))) ?_
    refine swl_nil ?_
    refine then_n ?_
    refine swp_cond (b := _) rfl (fun h40 => ?_) (fun h40 => ?_)
    · skip   -- 40 T
      have hw := w_ne h40
      obtain ⟨hc0, hc1, hc2, hc3⟩ := bl_spec hw
      refine swp_seq ?_
      refine swp_region ?_
      refine s_pu (pu_move rfl) ?_
      refine s_pu (pu_mul_as ((64 * i : Nat) : Int) rfl rfl (by omega) (by omega) (by omega)) ?_
      refine s_pu (pu_add_as ((64 * i + 63 : Nat) : Int) rfl rfl (by omega) (by omega) (by omega)) ?_
      refine s_pu (pu_move rfl) ?_
      refine s_ef (ef_fn (lz_spec w hw) rfl rfl (by repeat (first | exact Split.nil | (apply Split.cons; (repeat (first | with_reducible exact Take.here | apply Take.there)))))) ?_
      rintro v1 L1 ⟨rfl, rfl⟩
      refine swl_app ?_
      refine s_pu (pu_sub_as ((64 * i + (bl w.toNat - 1) : Nat) : Int) rfl rfl (by omega) (by omega) (by omega)) ?_
      refine s_pu (pu_assign rfl) ?_
      refine swl_sub _ (.cons (t := 4) rfl .nil) ?_
      refine swl_nil ?_
      refine then_n ?_
      refine swp_ret ?_
      refine then_r ?_
      refine block_r ?_
      refine then_r ?_
      refine then_r ?_
      refine block_r ?_
      have hb := hbits (bl w.toNat - 1) (by omega)
      rw [hc2] at hb
      have hb1 := (Bool.and_eq_true_iff.1 hb.symm)
      have hb2 := of_decide_eq_true hb1.2
      refine done_retE (opn p n _ ws) (.tmp rfl .nil) ⟨_, rfl, .inr ⟨64 * i + (bl w.toNat - 1), rfl, by omega, hb1.1, fun j h1 h2 => ?_⟩, rfl⟩
        ((Split.ent' (K := [blk b 67 (wcells ws ++ ex), blk p 52 [.int .i64 (n : Nat), .slice (some ⟨b, 0, none⟩) ws.length cap]]) (by repeat (first | exact Split.nil | (apply Split.cons; (repeat (first | with_reducible exact Take.here | apply Take.there)))))).trans ((wown_close h1 h2 h4).trans Ent.swap))
      by_cases hjm : j ≤ m
      · rcases Nat.lt_or_ge j (64 * (i + 1)) with h | h
        · have hj := hbits (j - 64 * i) (by omega)
          rw [hc3 _ (by omega), show 64 * i + (j - 64 * i) = j by omega, decide_eq_true hjm, Bool.and_true] at hj
          exact hj.symm
        · exact hlo j hjm h
      · exact hS j (by omega)
    · skip   -- 40 F
      have hw := w_eq h40
      have hlo2 : ∀ j, j ≤ m → 64 * i ≤ j → mem ws j = false := fun j h1 h2 => by
        rcases Nat.lt_or_ge j (64 * (i + 1)) with h | h
        · have hj := hbits (j - 64 * i) (by omega)
          rw [hw, show 64 * i + (j - 64 * i) = j by omega, decide_eq_true h1, Bool.and_true] at hj
          rw [← hj]; simp
        · exact hlo j h1 h
      refine swp_skip ?_
      refine then_n ?_
      refine swp_seq ?_
      refine swp_region ?_
      refine s_pu (pu_move rfl) ?_
      refine s_pu (pu_sub_as ((i : Int) - 1) rfl rfl rfl (by omega) (by omega)) ?_
      refine s_pu (pu_assign rfl) ?_
      refine swl_sub _ (.cons (t := 0) rfl (.cons (t := 6) rfl .nil)) ?_
      refine swl_nil ?_
      refine then_n ?_
      refine swp_seq ?_
      refine swp_region ?_
      refine s_pu (pu_move rfl) ?_
      refine s_pu (pu_lss rfl rfl) ?_
      refine swl_sub _ (.cons (t := 0) rfl (.cons (t := 6) rfl (.cons (t := 50) rfl .nil))) ?_
      refine swl_nil ?_
      refine then_n ?_
      refine swp_cond (b := _) rfl (fun h50 => ?_) (fun h50 => ?_)
      · skip   -- 50 T
        refine swp_seq ?_
        refine swp_region ?_
        refine s_pu (pu_assign rfl) ?_
        refine swl_sub _ (.cons (t := 4) rfl .nil) ?_
        refine swl_nil ?_
        refine then_n ?_
        refine swp_ret ?_
        refine block_r ?_
        refine then_r ?_
        refine then_r ?_
        refine block_r ?_
        have h50' := of_decide_eq_true h50
        exact done_retE (opn p n _ ws) (.tmp rfl .nil) ⟨_, rfl, .inl ⟨rfl, fun j hj => by
            by_cases hjm : j ≤ m
            · exact hlo2 j hjm (by omega)
            · exact hS j (by omega)⟩, rfl⟩
          ((Split.ent' (K := [blk b 67 (wcells ws ++ ex), blk p 52 [.int .i64 (n : Nat), .slice (some ⟨b, 0, none⟩) ws.length cap]]) (by repeat (first | exact Split.nil | (apply Split.cons; (repeat (first | with_reducible exact Take.here | apply Take.there)))))).trans ((wown_close h1 h2 h4).trans Ent.swap))
      · skip   -- 50 F
        have h50' := of_decide_eq_false h50
        obtain ⟨i', rfl⟩ : ∃ i', i = i' + 1 := ⟨i - 1, by omega⟩
        obtain ⟨w1, hw1⟩ : ∃ w, ws[i']? = some w := ⟨_, List.getElem?_eq_getElem (by omega)⟩
        have hie : (((i' + 1 : Nat) : Int) - 1) = (i' : Int) := by omega
        rw [hie]
        refine swp_skip ?_
        refine block_n ?_
        refine then_n ?_
        refine swp_region ?_
        refine s_pu (pu_move rfl) ?_
        first | refine s_pu (pu_nilCheck rfl) ?_ | refine s_pu (pu_nilCheck_fn rfl) ?_ | refine s_pu (pu_nilCheck_if rfl) ?_
        first | refine s_pu (pu_fieldAddr0 rfl) ?_ | refine s_pu (pu_fieldAddr rfl) ?_
        refine s_rd (rd_load rfl rfl) ?_
        refine s_pu (pu_move rfl) ?_
        refine s_pu (pu_indexAddr i' rfl rfl (by omega) (by omega) (by omega)) ?_
        refine s_rd (rd_load rfl (wcells_get hw1)) ?_
        refine s_pu (pu_assign rfl) ?_
        refine swl_sub _ (.cons (t := 0) rfl (.cons (t := 6) rfl (.cons (t := 7) rfl .nil))) ?_
        refine swl_nil ?_
        refine then_n ⟨(i', w1), ⟨rfl, rfl, by show i' ≤ m / 64; omega, by show i' < ws.length; omega, hlo2, fun r hr => ?_⟩, by show i' < i' + 1; omega⟩
        show w1.getLsbD r = (mem ws (64 * i' + r) && decide (64 * i' + r ≤ m))
        rw [mem_at hw1 (k := 64 * i' + r) (by omega), show (64 * i' + r) % 64 = r by omega]
        rcases Nat.lt_or_ge m (64 * i' + r) with h | h
        · exact absurd h (by omega)
        · rw [decide_eq_true h, Bool.and_true]
theorem last_nil (k : Int) : Spec Tryd.prog 20 [.pointer none, .int .i64 k] [] (fun r L => r = .int .i64 (-1) ∧ L = []) := by
  refine Spec.of 51 Tryd.func20 rfl rfl rfl ?_
  refine swp_seq ?_
  refine swp_region ?_
  refine s_pu (pu_assign rfl) ?_
  refine swl_sub _ (.cons (t := 0) rfl (.cons (t := 1) rfl .nil)) ?_
  refine swl_nil ?_
  refine then_n ?_
  refine swp_seq ?_
  refine swp_region ?_
  refine s_pu (pu_move rfl) ?_
  refine s_pu (pu_move rfl) ?_
  refine s_ef (ef_fn size_nil rfl rfl (by repeat (first | exact Split.nil | (apply Split.cons; (repeat (first | with_reducible exact Take.here | apply Take.there)))))) ?_
  rintro v1 L1 ⟨rfl, rfl⟩
  refine swl_app ?_
  refine s_pu (pu_sub_as (-1) rfl rfl rfl (by omega) (by omega)) ?_
  refine s_pu (pu_min2 rfl rfl) ?_
  refine s_pu (pu_assign rfl) ?_
  refine swl_sub _ (.cons (t := 0) rfl (.cons (t := 1) rfl .nil)) ?_
  refine swl_nil ?_
  refine then_n ?_
  refine swp_seq ?_
  refine swp_seq ?_
  refine swp_region ?_
  refine s_pu (pu_move rfl) ?_
  refine s_pu (pu_lss rfl rfl) ?_
  refine swl_sub _ (.cons (t := 0) rfl (.cons (t := 1) rfl (.cons (t := 14) rfl .nil))) ?_
  refine swl_nil ?_
  refine then_n ?_
  refine swp_cond (b := _) rfl (fun h14 => ?_) (fun h14 => by have := of_decide_eq_false h14; omega)
  refine swp_seq ?_
  refine swp_region ?_
  refine s_pu (pu_assign rfl) ?_
  refine swl_sub _ (.cons (t := 4) rfl .nil) ?_
  refine swl_nil ?_
  refine then_n ?_
  refine swp_ret ?_
  refine then_r ?_
  exact done_ret [] (.tmp rfl .nil) ⟨rfl, rfl⟩ (by repeat (first | exact Split.nil | (apply Split.cons; (repeat (first | with_reducible exact Take.here | apply Take.there)))))
end SX
