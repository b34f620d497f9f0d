/- A part of the proof: walks of the seat's functions, by the rules of the texts that it imports. -/
import Derived.Test.YtfbfmokgpdmcfaaDoorMdInst
namespace SX
open Go Go.Proofs

theorem ones_spec (w : BitVec 64) : Spec Tryd.prog 45 [wv w] [] (fun v L => v = .int .i64 (popc w : Nat) ∧ L = []) := by
  have hb := (onesB_eq w).2
  refine Spec.of 35 Tryd.func45 rfl rfl rfl ?_
  refine swp_seq ?_
  refine swp_region ?_
  refine s_pu (pu_assign rfl) ?_
  refine swl_sub _ (.cons (t := 0) rfl .nil) ?_
  refine swl_nil ?_
  refine then_n ?_
  refine swp_seq ?_
  refine swp_region ?_
  refine s_pu (pu_move rfl) ?_
  refine s_pu (pu_shr_w (a := w) 1 rfl rfl (by decide)) ?_
  refine s_pu (pu_and_w (b := 6148914691236517205#64) rfl rfl) ?_
  refine s_pu (pu_move rfl) ?_
  refine s_pu (pu_and_w (a := w) (b := 6148914691236517205#64) rfl rfl) ?_
  refine s_pu (pu_add_w rfl rfl) ?_
  refine s_pu (pu_assign rfl) ?_
  refine swl_sub _ (.cons (t := 0) rfl .nil) ?_
  refine swl_nil ?_
  refine then_n ?_
  refine swp_seq ?_
  refine swp_region ?_
  refine s_pu (pu_move rfl) ?_
  refine s_pu (pu_shr_w 2 rfl rfl (by omega)) ?_
  refine s_pu (pu_and_w (b := 3689348814741910323#64) rfl rfl) ?_
  refine s_pu (pu_move rfl) ?_
  refine s_pu (pu_and_w (b := 3689348814741910323#64) rfl rfl) ?_
  refine s_pu (pu_add_w rfl rfl) ?_
  refine s_pu (pu_assign rfl) ?_
  refine swl_sub _ (.cons (t := 0) rfl .nil) ?_
  refine swl_nil ?_
  refine then_n ?_
  refine swp_seq ?_
  refine swp_region ?_
  refine s_pu (pu_move rfl) ?_
  refine s_pu (pu_shr_w 4 rfl rfl (by omega)) ?_
  refine s_pu (pu_move rfl) ?_
  refine s_pu (pu_add_w rfl rfl) ?_
  refine s_pu (pu_and_w (b := 1085102592571150095#64) rfl rfl) ?_
  refine s_pu (pu_assign rfl) ?_
  refine swl_sub _ (.cons (t := 0) rfl .nil) ?_
  refine swl_nil ?_
  refine then_n ?_
  refine swp_seq ?_
  refine swp_region ?_
  refine s_pu (pu_move rfl) ?_
  refine s_pu (pu_move rfl) ?_
  refine s_pu (pu_shr_w 8 rfl rfl (by omega)) ?_
  refine s_pu (pu_add_w rfl rfl) ?_
  refine s_pu (pu_assign rfl) ?_
  refine swl_sub _ (.cons (t := 0) rfl .nil) ?_
  refine swl_nil ?_
  refine then_n ?_
  refine swp_seq ?_
  refine swp_region ?_
  refine s_pu (pu_move rfl) ?_
  refine s_pu (pu_move rfl) ?_
  refine s_pu (pu_shr_w 16 rfl rfl (by omega)) ?_
  refine s_pu (pu_add_w rfl rfl) ?_
  refine s_pu (pu_assign rfl) ?_
  refine swl_sub _ (.cons (t := 0) rfl .nil) ?_
  refine swl_nil ?_
  refine then_n ?_
  refine swp_seq ?_
  refine swp_region ?_
  refine s_pu (pu_move rfl) ?_
  refine s_pu (pu_move rfl) ?_
  refine s_pu (pu_shr_w 32 rfl rfl (by omega)) ?_
  refine s_pu (pu_add_w rfl rfl) ?_
  refine s_pu (pu_assign rfl) ?_
  refine swl_sub _ (.cons (t := 0) rfl .nil) ?_
  refine swl_nil ?_
  refine then_n ?_
  refine swp_seq ?_
  refine swp_region ?_
  refine s_pu (pu_move rfl) ?_
  refine s_pu (pu_conv_i64 (n := ((onesB w).toNat : Int)) rfl (by omega) (by omega)) ?_
  refine s_pu (pu_and_nat (onesB w).toNat 127 rfl rfl hb (by decide)) ?_
  refine s_pu (pu_assign rfl) ?_
  refine swl_sub _ (.cons (t := 2) rfl .nil) ?_
  refine swl_nil ?_
  refine then_n ?_
  refine swp_ret ?_
  exact done_ret [] (.tmp rfl .nil) ⟨by simp only [resV]; rw [(onesB_eq w).1], rfl⟩ (by repeat (first | exact Split.nil | (apply Split.cons; (repeat (first | with_reducible exact Take.here | apply Take.there)))))

/-- the table of the de Bruijn numbers lies there -/
def tabV : List Value := Lib.deBruijn64tab.map fun n => Value.int .u8 (n : Nat)
theorem tab_get {μ : PH} {g : Nat} (h : RowAt μ g 0 tabV) {j k : Nat} (hj : j < 64) (hk : Lib.deBruijn64tab.getD j 0 = k) : CellAt μ g j (.int .u8 (k : Nat)) := by
  have hlen : Lib.deBruijn64tab.length = 64 := rfl
  have := h j (.int .u8 (k : Nat)) (by
    unfold tabV
    rw [List.getElem?_map, List.getElem?_eq_getElem (by omega)]
    simp only [Option.map_some]
    rw [← hk, List.getD_eq_getElem?_getD, List.getElem?_eq_getElem (by omega)]; rfl)
  rwa [Nat.zero_add] at this

theorem tz_spec (μ : PH) (w : BitVec 64) (hT : RowAt μ 0 0 tabV) (hw : w ≠ 0#64) : Spec Tryd.prog 46 [wv w] [ro μ] (fun v L => v = .int .i64 (ctz w : Nat) ∧ L = [ro μ]) := by
  obtain ⟨h1, h2⟩ := ctz_idx hw
  have hc := tab_get hT h1 h2
  have hz := (ctz_spec hw).1
  have hn : ¬ ((w.toNat : Int) = 0) := fun e => hw (BitVec.eq_of_toNat_eq (by simpa using e))
  refine Spec.of 14 Tryd.func46 rfl rfl rfl ?_
  refine swp_seq ?_
  refine swp_region ?_
  refine s_pu (pu_assign rfl) ?_
  refine swl_sub _ (.cons (t := 0) rfl .nil) ?_
  refine swl_nil ?_
  refine then_n ?_
  refine swp_seq ?_
  refine swp_seq ?_
  refine swp_region ?_
  refine s_pu (pu_move rfl) ?_
  refine s_pu (pu_eql rfl rfl) ?_
  refine swl_sub _ (.cons (t := 0) rfl (.cons (t := 4) rfl .nil)) ?_
  refine swl_nil ?_
  refine then_n ?_
  refine swp_cond (b := _) rfl (fun h4 => absurd (of_decide_eq_true h4) hn) (fun h4 => ?_)
  refine swp_skip ?_
  refine then_n ?_
  refine swp_seq ?_
  refine swp_region ?_
  refine s_pu (pu_move rfl) ?_
  refine s_pu (pu_move rfl) ?_
  refine s_pu (pu_neg_w (a := w) rfl) ?_
  refine s_pu (pu_and_w (a := w) (b := -w) rfl rfl) ?_
  refine s_pu (pu_mul_w (a := w &&& -w) (b := 285870213051353865#64) rfl rfl) ?_
  refine s_pu (pu_shr_w (a := (w &&& -w) * 285870213051353865#64) 58 rfl rfl (by decide)) ?_
  refine s_pu (pu_indexAddr_arr (((w &&& -w) * 285870213051353865#64) >>> 58).toNat rfl rfl (by omega) (by omega) (by rw [Int.toNat_natCast]; omega)) ?_
  refine s_rd (rd_ro rfl hc) ?_
  first | refine s_pu (pu_conv_i64 rfl (by omega) (by omega)) ?_ | refine s_pu (pu_conv rfl) ?_
  refine s_pu (pu_assign rfl) ?_
  refine swl_sub _ (.cons (t := 2) rfl .nil) ?_
  refine swl_nil ?_
  refine then_n ?_
  refine swp_ret ?_
  exact done_ret [ro μ] (.tmp rfl .nil) ⟨rfl, rfl⟩ (by repeat (first | exact Split.nil | (apply Split.cons; (repeat (first | with_reducible exact Take.here | apply Take.there)))))
def len8 : ByteArray := ⟨((List.range 256).map fun i => (UInt8.ofNat (bl i))).toArray⟩
theorem len8_get (i : Nat) (h : i < 256) : len8[i]? = some (UInt8.ofNat (bl i)) := by
  show (len8.data)[i]? = _
  simp [len8, h]
theorem bl_small {i : Nat} (h : i < 256) : bl i ≤ 8 := by
  obtain ⟨h1, h2⟩ := bl_lt i
  rcases h2 with h2 | h2
  · omega
  · rcases Nat.lt_or_ge 8 (bl i) with h3 | h3
    · have : 2 ^ 8 ≤ 2 ^ (bl i - 1) := Nat.pow_le_pow_right (by decide) (by omega)
      omega
    · exact h3
theorem len64_spec (w : BitVec 64) : Spec Tryd.prog 80 [wv w] [] (fun v L => v = .int .i64 (bl w.toNat : Nat) ∧ L = []) := by
  have hlt := w.isLt
  refine Spec.of 25 Tryd.func80 rfl rfl rfl ?_
  refine swp_seq ?_
  refine swp_region ?_
  refine s_pu (pu_assign rfl) ?_
  refine swl_sub _ (.cons (t := 0) rfl (.cons (t := 2) rfl .nil)) ?_
  refine swl_nil ?_
  refine then_n ?_
  refine swp_cut (fun env L => ∃ (u : BitVec 64) (n : Nat), u.toNat < 4294967296 ∧ bl w.toNat = bl u.toNat + n ∧ n ≤ 32 ∧ env = [(0, wv u), (2, .int .i64 (n : Nat))] ∧ L = []) ?_ ?_
  · skip
    refine swp_seq ?_
    refine swp_region ?_
    refine s_pu (pu_move rfl) ?_
    refine s_pu (pu_geq rfl rfl) ?_
    refine swl_sub _ (.cons (t := 0) rfl (.cons (t := 2) rfl (.cons (t := 4) rfl .nil))) ?_
    refine swl_nil ?_
    refine then_n ?_
    refine swp_cond (b := _) rfl (fun h4 => ?_) (fun h4 => ?_)
    · skip   -- 4 T
      refine swp_seq ?_
      refine swp_region ?_
      refine s_pu (pu_move rfl) ?_
      refine s_pu (pu_shr_w (a := w) 32 rfl rfl (by decide)) ?_
      refine s_pu (pu_assign rfl) ?_
      refine swl_sub _ (.cons (t := 0) rfl .nil) ?_
      refine swl_nil ?_
      refine then_n ?_
      refine swp_region ?_
      refine s_pu (pu_assign rfl) ?_
      refine swl_sub _ (.cons (t := 0) rfl (.cons (t := 2) rfl .nil)) ?_
      refine swl_nil ?_
      refine then_n ⟨w >>> 32, 32, ?_, ?_, by decide, rfl, rfl⟩
      · rw [BitVec.toNat_ushiftRight, Nat.shiftRight_eq_div_pow]; omega
      · rw [BitVec.toNat_ushiftRight]; exact bl_shr (by have h := of_decide_eq_true h4; omega)
    · skip   -- 4 F
      refine swp_sub _ (.cons (t := 0) rfl (.cons (t := 2) rfl .nil)) ?_
      refine swp_skip ?_
      exact then_n ⟨w, 0, by have h := of_decide_eq_false h4; omega, rfl, by decide, rfl, rfl⟩
  rintro env L ⟨u1, n1, hu1, hb1, hn1, rfl, rfl⟩
  refine swp_cut (fun env L => ∃ (u : BitVec 64) (n : Nat), u.toNat < 65536 ∧ bl w.toNat = bl u.toNat + n ∧ n ≤ 48 ∧ env = [(0, wv u), (2, .int .i64 (n : Nat))] ∧ L = []) ?_ ?_
  · skip
    refine swp_seq ?_
    refine swp_region ?_
    refine s_pu (pu_move rfl) ?_
    refine s_pu (pu_geq rfl rfl) ?_
    refine swl_sub _ (.cons (t := 0) rfl (.cons (t := 2) rfl (.cons (t := 8) rfl .nil))) ?_
    refine swl_nil ?_
    refine then_n ?_
    refine swp_cond (b := _) rfl (fun h8 => ?_) (fun h8 => ?_)
    · skip   -- 8 T
      refine swp_seq ?_
      refine swp_region ?_
      refine s_pu (pu_move rfl) ?_
      refine s_pu (pu_shr_w (a := u1) 16 rfl rfl (by decide)) ?_
      refine s_pu (pu_assign rfl) ?_
      refine swl_sub _ (.cons (t := 0) rfl (.cons (t := 2) rfl .nil)) ?_
      refine swl_nil ?_
      refine then_n ?_
      refine swp_region ?_
      refine s_pu (pu_move rfl) ?_
      refine s_pu (pu_add_as ((n1 + 16 : Nat) : Int) rfl rfl (by omega) (by omega) (by omega)) ?_
      refine s_pu (pu_assign rfl) ?_
      refine swl_sub _ (.cons (t := 0) rfl (.cons (t := 2) rfl .nil)) ?_
      refine swl_nil ?_
      refine then_n ⟨u1 >>> 16, n1 + 16, ?_, ?_, by omega, rfl, rfl⟩
      · rw [BitVec.toNat_ushiftRight, Nat.shiftRight_eq_div_pow]; omega
      · rw [BitVec.toNat_ushiftRight, hb1, bl_shr (k := 16) (by have h := of_decide_eq_true h8; omega)]; omega
    · skip   -- 8 F
      refine swp_sub _ (.cons (t := 0) rfl (.cons (t := 2) rfl .nil)) ?_
      refine swp_skip ?_
      exact then_n ⟨u1, n1, by have h := of_decide_eq_false h8; omega, hb1, by omega, rfl, rfl⟩
  rintro env L ⟨u2, n2, hu2, hb2, hn2, rfl, rfl⟩
  refine swp_cut (fun env L => ∃ (u : BitVec 64) (n : Nat), u.toNat < 256 ∧ bl w.toNat = bl u.toNat + n ∧ n ≤ 56 ∧ env = [(0, wv u), (2, .int .i64 (n : Nat))] ∧ L = []) ?_ ?_
  · skip
    refine swp_seq ?_
    refine swp_region ?_
    refine s_pu (pu_move rfl) ?_
    refine s_pu (pu_geq rfl rfl) ?_
    refine swl_sub _ (.cons (t := 0) rfl (.cons (t := 2) rfl (.cons (t := 14) rfl .nil))) ?_
    refine swl_nil ?_
    refine then_n ?_
    refine swp_cond (b := _) rfl (fun h14 => ?_) (fun h14 => ?_)
    · skip   -- 14 T
      refine swp_seq ?_
      refine swp_region ?_
      refine s_pu (pu_move rfl) ?_
      refine s_pu (pu_shr_w (a := u2) 8 rfl rfl (by decide)) ?_
      refine s_pu (pu_assign rfl) ?_
      refine swl_sub _ (.cons (t := 0) rfl (.cons (t := 2) rfl .nil)) ?_
      refine swl_nil ?_
      refine then_n ?_
      refine swp_region ?_
      refine s_pu (pu_move rfl) ?_
      refine s_pu (pu_add_as ((n2 + 8 : Nat) : Int) rfl rfl (by omega) (by omega) (by omega)) ?_
      refine s_pu (pu_assign rfl) ?_
      refine swl_sub _ (.cons (t := 0) rfl (.cons (t := 2) rfl .nil)) ?_
      refine swl_nil ?_
      refine then_n ⟨u2 >>> 8, n2 + 8, ?_, ?_, by omega, rfl, rfl⟩
      · rw [BitVec.toNat_ushiftRight, Nat.shiftRight_eq_div_pow]; omega
      · rw [BitVec.toNat_ushiftRight, hb2, bl_shr (k := 8) (by have h := of_decide_eq_true h14; omega)]; omega
    · skip   -- 14 F
      refine swp_sub _ (.cons (t := 0) rfl (.cons (t := 2) rfl .nil)) ?_
      refine swp_skip ?_
      exact then_n ⟨u2, n2, by have h := of_decide_eq_false h14; omega, hb2, by omega, rfl, rfl⟩
  rintro env L ⟨u, n, hu, hb, hn, rfl, rfl⟩
  have h8 := bl_small hu
  have h9 : (UInt8.ofNat (bl u.toNat)).toNat = bl u.toNat := by rw [UInt8.toNat_ofNat']; exact Nat.mod_eq_of_lt (by omega)
  refine swp_seq ?_
  refine swp_region ?_
  refine s_pu (pu_move rfl) ?_
  refine s_pu (pu_move rfl) ?_
  refine s_pu (pu_conv_as (n := (u.toNat : Int)) rfl (by show ((u.toNat : Int)) % (2 : Int) ^ 8 = _; omega)) ?_
  refine s_pu (pu_index_str (s := len8) (by kernel_rfl) rfl (by omega) (by rw [Int.toNat_natCast]; exact len8_get _ hu)) ?_
  first | refine s_pu (pu_conv_i64 rfl (by omega) (by omega)) ?_ | refine s_pu (pu_conv rfl) ?_
  refine s_pu (pu_add_as ((bl w.toNat : Nat) : Int) rfl rfl (by rw [h9]; omega) (by omega) (by omega)) ?_
  refine s_pu (pu_assign rfl) ?_
  refine swl_sub _ (.cons (t := 2) rfl .nil) ?_
  refine swl_nil ?_
  refine then_n ?_
  refine swp_ret ?_
  exact done_ret [] (.tmp rfl .nil) ⟨rfl, rfl⟩ (by repeat (first | exact Split.nil | (apply Split.cons; (repeat (first | with_reducible exact Take.here | apply Take.there)))))
theorem lz_spec (w : BitVec 64) (hw : w ≠ 0#64) : Spec Tryd.prog 47 [wv w] [] (fun v L => v = .int .i64 ((64 - bl w.toNat : Nat) : Int) ∧ L = []) := by
  have h := bl_spec hw
  refine Spec.of 6 Tryd.func47 rfl rfl rfl ?_
  refine swp_seq ?_
  refine swp_region ?_
  refine s_pu (pu_assign rfl) ?_
  refine swl_sub _ (.cons (t := 0) rfl .nil) ?_
  refine swl_nil ?_
  refine then_n ?_
  refine swp_seq ?_
  refine swp_region ?_
  refine s_pu (pu_move rfl) ?_
  refine s_ef (ef_fn (len64_spec w) rfl rfl (by repeat (first | exact Split.nil | (apply Split.cons; (repeat (first | with_reducible exact Take.here | apply Take.there)))))) ?_
  rintro v L1 ⟨rfl, rfl⟩
  refine swl_app ?_
  refine s_pu (pu_sub_as ((64 - bl w.toNat : Nat) : Int) rfl rfl (by omega) (by omega) (by omega)) ?_
  refine s_pu (pu_assign rfl) ?_
  refine swl_sub _ (.cons (t := 2) rfl .nil) ?_
  refine swl_nil ?_
  refine then_n ?_
  refine swp_ret ?_
  exact done_ret [] (.tmp rfl .nil) ⟨rfl, rfl⟩ (by repeat (first | exact Split.nil | (apply Split.cons; (repeat (first | with_reducible exact Take.here | apply Take.there)))))
end SX
