/- A part of the proof: walks of the program's functions, and the rules by which they go. -/
import Derived.Test.YtieggbckcacihaaDoorB7a82cff9
namespace SX
open Go Go.Proofs

theorem low_mask (r i : Nat) (hr : r < 64) : (((1#64 : BitVec 64) <<< r) - 1#64).getLsbD i = decide (i < r) := by
  have hp : 2 ^ r < 2 ^ 64 := Nat.pow_lt_pow_right (by decide) hr
  have h1 : ((1#64 : BitVec 64) <<< r).toNat = 2 ^ r := by
    rw [BitVec.toNat_shiftLeft, Nat.shiftLeft_eq, show (1#64 : BitVec 64).toNat = 1 from rfl, Nat.one_mul]
    exact Nat.mod_eq_of_lt hp
  have hpos := Nat.two_pow_pos r
  have e : (((1#64 : BitVec 64) <<< r) - 1#64).toNat = 2 ^ r - 1 := by
    rw [BitVec.toNat_sub, h1, show (1#64 : BitVec 64).toNat = 1 from rfl]
    omega
  show (((1#64 : BitVec 64) <<< r) - 1#64).toNat.testBit i = _
  rw [e, Nat.testBit_two_pow_sub_one]
theorem getD_of {ws : List (BitVec 64)} {i : Nat} {w : BitVec 64} (h : ws[i]? = some w) : ws.getD i 0#64 = w := by rw [List.getD_eq_getElem?_getD, h]; rfl

/-- a word of the set itself, while its words lie open -/
theorem word_b (p n b cap : Nat) (ws : List (BitVec 64)) (ex : List Value) (i : Nat) (w : BitVec 64) (hw : ws[i]? = some w) :
    Spec Tryd.prog 94 [.pointer (some ⟨p, 0, none⟩), .int .i64 (i : Nat)] [blk b 105 (wcells ws ++ ex), blk p 113 [.int .i64 (n : Nat), .slice (some ⟨b, 0, none⟩) ws.length cap]]
      (fun r L => r = wv w ∧ L = [blk b 105 (wcells ws ++ ex), blk p 113 [.int .i64 (n : Nat), .slice (some ⟨b, 0, none⟩) ws.length cap]]) := by
  have hi : i < ws.length := (List.getElem?_eq_some_iff.1 hw).1
  refine Spec.of 23 Tryd.func94 rfl rfl rfl ?_
  refine swp_seq ?_
  refine swp_region ?_
  refine s_pu (pu_assign rfl) ?_
  refine swl_sub _ (.cons (t := 0) rfl (.cons (t := 1) rfl .nil)) ?_
  refine swl_nil ?_
  refine then_n ?_
  refine swp_seq ?_
  refine swp_seq ?_
  refine swp_region ?_
  refine s_pu (pu_move rfl) ?_
  refine s_pu (pu_ptr_eq_nil rfl rfl) ?_
  refine s_pu (pu_move rfl) ?_
  refine s_on rfl rfl ?_
  refine s_pu (pu_move rfl) ?_
  refine s_on rfl rfl ?_
  refine s_pu (pu_move rfl) ?_
  refine s_on rfl rfl ?_
  first | refine s_pu (pu_nilCheck rfl) ?_ | refine s_pu (pu_nilCheck_fn rfl) ?_ | refine s_pu (pu_nilCheck_if rfl) ?_
  refine s_on rfl rfl ?_
  first | refine s_pu (pu_fieldAddr0 rfl) ?_ | refine s_pu (pu_fieldAddr rfl) ?_
  refine s_on rfl rfl ?_
  refine s_rd (rd_load rfl rfl) ?_
  refine s_on rfl rfl ?_
  refine s_pu (pu_len rfl) ?_
  refine s_on rfl rfl ?_
  refine s_pu (pu_geq rfl rfl) ?_
  first | refine s_pu (pu_pick_t rfl rfl) ?_ | refine s_pu (pu_pick_f rfl rfl) ?_
  refine swl_sub _ (.cons (t := 0) rfl (.cons (t := 1) rfl (.cons (t := 15) rfl .nil))) ?_
  refine swl_nil ?_
  refine then_n ?_
  refine swp_cond (b := _) rfl (fun h15 => by have := of_decide_eq_true h15; omega) (fun h15 => ?_)
  refine swp_skip ?_
  refine then_n ?_
  refine swp_seq ?_
  refine swp_region ?_
  refine s_pu (pu_move rfl) ?_
  first | refine s_pu (pu_nilCheck rfl) ?_ | refine s_pu (pu_nilCheck_fn rfl) ?_ | refine s_pu (pu_nilCheck_if rfl) ?_
  first | refine s_pu (pu_fieldAddr0 rfl) ?_ | refine s_pu (pu_fieldAddr rfl) ?_
  refine s_rd (rd_load rfl rfl) ?_
  refine s_pu (pu_move rfl) ?_
  refine s_pu (pu_indexAddr i rfl rfl (by omega) (by omega) (by omega)) ?_
  refine s_rd (rd_load rfl (wcells_get hw)) ?_
  refine s_pu (pu_assign rfl) ?_
  refine swl_sub _ (.cons (t := 4) rfl .nil) ?_
  refine swl_nil ?_
  refine then_n ?_
  refine swp_ret ?_
  exact done_ret _ (.tmp rfl .nil) ⟨rfl, rfl⟩ (by repeat (first | exact Split.nil | (apply Split.cons; (repeat (first | with_reducible exact Take.here | apply Take.there)))))

set_option maxHeartbeats 1000000 in
theorem each_b (p n b cap : Nat) (ws : List (BitVec 64)) (ex : List Value) (ov : Value) (fid : Nat) [Body Tryd.prog fid] (g : BitVec 64 → BitVec 64 → BitVec 64) (o : Nat → BitVec 64) (X : Assn)
    (hl : ws.length = (n + 63) / 64) (hn : n ≤ 1048576) (hf : ∀ x y, Spec Tryd.prog fid [wv x, wv y] [] (fun r L => r = wv (g x y) ∧ L = []))
    (ho : ∀ (cur : List (BitVec 64)) (i : Nat), cur.length = ws.length → i < ws.length → cur[i]? = ws[i]? →
      Spec Tryd.prog 94 [ov, .int .i64 (i : Nat)] [blk b 105 (wcells cur ++ ex), blk p 113 [.int .i64 (n : Nat), .slice (some ⟨b, 0, none⟩) ws.length cap], X]
        (fun r L => r = wv (o i) ∧ L = [blk b 105 (wcells cur ++ ex), blk p 113 [.int .i64 (n : Nat), .slice (some ⟨b, 0, none⟩) ws.length cap], X])) :
    Spec Tryd.prog 81 [.pointer (some ⟨p, 0, none⟩), ov, .func (.func fid) #[] #[]] [blk b 105 (wcells ws ++ ex), blk p 113 [.int .i64 (n : Nat), .slice (some ⟨b, 0, none⟩) ws.length cap], X]
      (fun r L => r = .tuple #[] ∧ ∃ ws', ws'.length = ws.length ∧ (∀ k, mem ws' k = (decide (k < n) && (g (ws.getD (k / 64) 0#64) (o (k / 64))).getLsbD (k % 64))) ∧
        L = [blk b 105 (wcells ws' ++ ex), blk p 113 [.int .i64 (n : Nat), .slice (some ⟨b, 0, none⟩) ws.length cap], X]) := by
  refine Spec.of 58 Tryd.func81 rfl rfl rfl ?_
  refine swp_seq ?_
  refine swp_seq ?_
  refine swp_region ?_
  refine s_pu (pu_move rfl) ?_
  refine s_pu (pu_ptr_eq_nil rfl rfl) ?_
  refine swl_sub _ (.cons (t := 0) rfl (.cons (t := 1) rfl (.cons (t := 2) rfl (.cons (t := 10) rfl .nil)))) ?_
  refine swl_nil ?_
  refine then_n ?_
  refine swp_cond (b := _) rfl (fun h10 => by cases h10) (fun h10 => ?_)
  refine swp_skip ?_
  refine then_n ?_
  refine swp_seq ?_
  refine swp_seq ?_
  refine swp_region ?_
  refine s_pu (pu_move rfl) ?_
  first | refine s_pu (pu_nilCheck rfl) ?_ | refine s_pu (pu_nilCheck_fn rfl) ?_ | refine s_pu (pu_nilCheck_if rfl) ?_
  first | refine s_pu (pu_fieldAddr0 rfl) ?_ | refine s_pu (pu_fieldAddr rfl) ?_
  refine s_rd (rd_load rfl rfl) ?_
  refine s_pu (pu_len rfl) ?_
  refine s_pu (pu_move rfl) ?_
  refine swl_sub _ (.cons (t := 0) rfl (.cons (t := 1) rfl (.cons (t := 2) rfl (.cons (t := 14) rfl (.cons (t := 15) rfl (.cons (t := 16) rfl .nil)))))) ?_
  refine swl_nil ?_
  refine then_n ?_
  refine swp_block ?_
  refine swp_loop (ι := Nat × List (BitVec 64)) (fun k env L => env = [(0, .pointer (some ⟨p, 0, none⟩)), (1, ov), (2, .func (.func fid) #[] #[]), (14, .slice (some ⟨b, 0, none⟩) ws.length cap), (15, .int .i64 (ws.length : Nat)), (16, .int .i64 (k.1 : Nat))] ∧
    L = [blk b 105 (wcells k.2 ++ ex), blk p 113 [.int .i64 (n : Nat), .slice (some ⟨b, 0, none⟩) ws.length cap], X] ∧ k.1 ≤ ws.length ∧ k.2.length = ws.length ∧ (∀ j, j < k.1 → k.2.getD j 0#64 = g (ws.getD j 0#64) (o j)) ∧ (∀ j, k.1 ≤ j → k.2[j]? = ws[j]?)) (fun k => ws.length - k.1) (0, ws)
    ⟨rfl, rfl, Nat.zero_le _, rfl, fun j h => absurd h (Nat.not_lt_zero _), fun j _ => rfl⟩ ?_
  rintro ⟨i, cur⟩ env L ⟨rfl, rfl, hi, hcl, hlow, hup⟩
  simp only [] at hi hcl hlow hup
  dsimp only
  refine swp_seq ?_
  refine swp_region ?_
  refine s_pu (pu_lss rfl rfl) ?_
  refine swl_sub _ (.cons (t := 0) rfl (.cons (t := 1) rfl (.cons (t := 2) rfl (.cons (t := 14) rfl (.cons (t := 15) rfl (.cons (t := 16) rfl (.cons (t := 17) rfl .nil))))))) ?_
  refine swl_nil ?_
  refine then_n ?_
  refine swp_seq ?_
  refine swp_cond (b := _) rfl (fun h17 => ?_) (fun h17 => ?_)
  · skip   -- 17 T
    have h17' : i < ws.length := by have := of_decide_eq_true h17; omega
    obtain ⟨w, hw⟩ : ∃ w, ws[i]? = some w := ⟨_, List.getElem?_eq_getElem h17'⟩
    have hcw : cur[i]? = some w := by rw [hup i (Nat.le_refl _)]; exact hw
    refine swp_skip ?_
    refine then_n ?_
    refine swp_seq ?_
    refine swp_block ?_
    refine swp_seq ?_
    refine swp_region ?_
    refine s_pu (pu_move rfl) ?_
    refine s_pu (pu_indexAddr i rfl rfl (by omega) (by omega) (by omega)) ?_
    refine s_rd (rd_load rfl (wcells_get hcw)) ?_
    refine s_pu (pu_assign rfl) ?_
    refine s_pu (pu_assign rfl) ?_
    refine swl_sub _ (.cons (t := 0) rfl (.cons (t := 1) rfl (.cons (t := 2) rfl (.cons (t := 6) rfl (.cons (t := 7) rfl (.cons (t := 14) rfl (.cons (t := 15) rfl (.cons (t := 16) rfl .nil)))))))) ?_
    refine swl_nil ?_
    refine then_n ?_
    refine swp_draw [3] _ [] (by simp only [List.append_nil]; exact Ent.refl _) (by kernel_rfl) ?_
    refine d_pu 0 rfl (pu_move rfl) (by kernel_rfl) (by kernel_rfl) (by kernel_rfl) ?_
    first | refine d_pu 1 rfl (pu_nilCheck rfl) (by kernel_rfl) (by kernel_rfl) (by kernel_rfl) ?_ | refine d_pu 1 rfl (pu_nilCheck_fn rfl) (by kernel_rfl) (by kernel_rfl) (by kernel_rfl) ?_ | refine d_pu 1 rfl (pu_nilCheck_if rfl) (by kernel_rfl) (by kernel_rfl) (by kernel_rfl) ?_
    first | refine d_pu 2 rfl (pu_fieldAddr0 rfl) (by kernel_rfl) (by kernel_rfl) (by kernel_rfl) ?_ | refine d_pu 2 rfl (pu_fieldAddr rfl) (by kernel_rfl) (by kernel_rfl) (by kernel_rfl) ?_
    refine d_rd 3 rfl (rd_load rfl rfl) rfl (by kernel_rfl) (by kernel_rfl) (by kernel_rfl) ?_
    refine d_pu 4 rfl (pu_move rfl) (by kernel_rfl) (by kernel_rfl) (by kernel_rfl) ?_
    refine d_pu 5 rfl (pu_move rfl) (by kernel_rfl) (by kernel_rfl) (by kernel_rfl) ?_
    refine d_pu 6 rfl (pu_move rfl) (by kernel_rfl) (by kernel_rfl) (by kernel_rfl) ?_
    refine d_pu 7 rfl (pu_move rfl) (by kernel_rfl) (by kernel_rfl) (by kernel_rfl) ?_
    refine d_pu 8 rfl (pu_move rfl) (by kernel_rfl) (by kernel_rfl) (by kernel_rfl) ?_
    refine d_eft 9 rfl (by kernel_rfl) (ef_fn (ho cur i hcl h17' (hup i (Nat.le_refl _))) rfl rfl (by repeat (first | exact Split.nil | (apply Split.cons; (repeat (first | with_reducible exact Take.here | apply Take.there)))))) ?_
    rintro v1 L1 ⟨rfl, rfl⟩
    refine ⟨_, ent_appC (Split.ent (by repeat (first | exact Split.nil | (apply Split.cons; (repeat (first | with_reducible exact Take.here | apply Take.there)))))), ?_⟩
    refine d_eft 10 rfl (by kernel_rfl) (ef_fn (hf w (o i)) rfl rfl (by repeat (first | exact Split.nil | (apply Split.cons; (repeat (first | with_reducible exact Take.here | apply Take.there)))))) ?_
    rintro v1 L1 ⟨rfl, rfl⟩
    refine ⟨_, ent_appC (Split.ent (by repeat (first | exact Split.nil | (apply Split.cons; (repeat (first | with_reducible exact Take.here | apply Take.there)))))), ?_⟩
    refine d_pu 11 rfl (pu_indexAddr i rfl rfl (by omega) (by omega) (by omega)) (by kernel_rfl) (by kernel_rfl) (by kernel_rfl) ?_
    first | refine d_fin0t 12 rfl (by kernel_rfl) (by kernel_rfl) (ef_storeP rfl rfl rfl (by rw [List.length_append, wcells_len]; omega)) ?_ | refine d_fin0f 12 rfl (by kernel_rfl) (by kernel_rfl) (ef_storeP rfl rfl rfl (by rw [List.length_append, wcells_len]; omega)) ?_
    refine d_sub _ (.cons (t := 0) rfl (.cons (t := 1) rfl (.cons (t := 2) rfl (.cons (t := 14) rfl (.cons (t := 15) rfl (.cons (t := 16) rfl .nil)))))) ?_
    first | refine d_nilt (by kernel_rfl) ?_ | refine d_nilf (by kernel_rfl) ?_
    refine block_n ?_
    refine then_n ?_
    refine swp_region ?_
    refine s_pu (pu_add_as ((i + 1 : Nat) : Int) rfl rfl (by omega) (by omega) (by omega)) ?_
    refine s_pu (pu_move rfl) ?_
    refine swl_sub _ (.cons (t := 0) rfl (.cons (t := 1) rfl (.cons (t := 2) rfl (.cons (t := 14) rfl (.cons (t := 15) rfl (.cons (t := 16) rfl .nil)))))) ?_
    rw [wcells_set (by omega)]
    refine swl_nil ?_
    refine then_n ⟨(i + 1, cur.set i (g w (o i))), ⟨rfl, rfl, h17', by simp [hcl], fun j hj => ?_, fun j hj => ?_⟩, by show ws.length - (i + 1) < ws.length - i; omega⟩
    · show (cur.set i (g w (o i))).getD j 0#64 = _
      by_cases hji : j = i
      · subst hji
        rw [getD_of hw, List.getD_eq_getElem?_getD, List.getElem?_set_self (by omega)]; rfl
      · rw [List.getD_eq_getElem?_getD, List.getElem?_set_ne (Ne.symm hji), ← List.getD_eq_getElem?_getD]
        have hj' : j < i + 1 := hj
        exact hlow j (by omega)
    · have hj' : i + 1 ≤ j := hj
      show (cur.set i (g w (o i)))[j]? = _
      rw [List.getElem?_set_ne (by omega)]; exact hup j (by omega)
  · skip   -- 17 F
    have hin : i = ws.length := by have := of_decide_eq_false h17; omega
    subst hin
    refine swp_exit ?_
    refine then_x ?_
    refine then_x ?_
    refine block_hit rfl ?_
    refine then_n ?_
    refine swp_seq ?_
    refine swp_region ?_
    refine s_pu (pu_move rfl) ?_
    first | refine s_pu (pu_nilCheck rfl) ?_ | refine s_pu (pu_nilCheck_fn rfl) ?_ | refine s_pu (pu_nilCheck_if rfl) ?_
    first | refine s_pu (pu_fieldAddr0 rfl) ?_ | refine s_pu (pu_fieldAddr rfl) ?_
    refine s_rd (rd_load rfl rfl) ?_
    refine s_pu (pu_rem_as ((n % 64 : Nat) : Int) rfl rfl (by omega) (by omega) (by omega)) ?_
    refine s_pu (pu_assign rfl) ?_
    refine swl_sub _ (.cons (t := 0) rfl (.cons (t := 8) rfl .nil)) ?_
    refine swl_nil ?_
    refine then_n ?_
    refine swp_seq ?_
    refine swp_region ?_
    refine s_pu (pu_move rfl) ?_
    refine s_pu (pu_neq rfl rfl) ?_
    refine swl_sub _ (.cons (t := 0) rfl (.cons (t := 8) rfl (.cons (t := 40) rfl .nil))) ?_
    refine swl_nil ?_
    refine then_n ?_
    refine swp_cond (b := _) rfl (fun h40 => ?_) (fun h40 => ?_)
    · skip   -- 40 T
      have h40' : n % 64 ≠ 0 := fun e => by simp [e] at h40
      have hi1 : ws.length - 1 < cur.length := by omega
      obtain ⟨w, hw⟩ : ∃ w, cur[ws.length - 1]? = some w := ⟨_, List.getElem?_eq_getElem hi1⟩
      refine swp_draw [3, 7, 11] _ [] (by simp only [List.append_nil]; exact Ent.refl _) (by kernel_rfl) ?_
      refine d_pu 0 rfl (pu_move rfl) (by kernel_rfl) (by kernel_rfl) (by kernel_rfl) ?_
      first | refine d_pu 1 rfl (pu_nilCheck rfl) (by kernel_rfl) (by kernel_rfl) (by kernel_rfl) ?_ | refine d_pu 1 rfl (pu_nilCheck_fn rfl) (by kernel_rfl) (by kernel_rfl) (by kernel_rfl) ?_ | refine d_pu 1 rfl (pu_nilCheck_if rfl) (by kernel_rfl) (by kernel_rfl) (by kernel_rfl) ?_
      first | refine d_pu 2 rfl (pu_fieldAddr0 rfl) (by kernel_rfl) (by kernel_rfl) (by kernel_rfl) ?_ | refine d_pu 2 rfl (pu_fieldAddr rfl) (by kernel_rfl) (by kernel_rfl) (by kernel_rfl) ?_
      refine d_rd 3 rfl (rd_load rfl rfl) rfl (by kernel_rfl) (by kernel_rfl) (by kernel_rfl) ?_
      refine d_pu 4 rfl (pu_move rfl) (by kernel_rfl) (by kernel_rfl) (by kernel_rfl) ?_
      first | refine d_pu 5 rfl (pu_nilCheck rfl) (by kernel_rfl) (by kernel_rfl) (by kernel_rfl) ?_ | refine d_pu 5 rfl (pu_nilCheck_fn rfl) (by kernel_rfl) (by kernel_rfl) (by kernel_rfl) ?_ | refine d_pu 5 rfl (pu_nilCheck_if rfl) (by kernel_rfl) (by kernel_rfl) (by kernel_rfl) ?_
      first | refine d_pu 6 rfl (pu_fieldAddr0 rfl) (by kernel_rfl) (by kernel_rfl) (by kernel_rfl) ?_ | refine d_pu 6 rfl (pu_fieldAddr rfl) (by kernel_rfl) (by kernel_rfl) (by kernel_rfl) ?_
      refine d_rd 7 rfl (rd_load rfl rfl) rfl (by kernel_rfl) (by kernel_rfl) (by kernel_rfl) ?_
      refine d_pu 8 rfl (pu_len rfl) (by kernel_rfl) (by kernel_rfl) (by kernel_rfl) ?_
      refine d_pu 9 rfl (pu_sub_as ((ws.length - 1 : Nat) : Int) rfl rfl (by omega) (by omega) (by omega)) (by kernel_rfl) (by kernel_rfl) (by kernel_rfl) ?_
      refine d_pu 10 rfl (pu_indexAddr (ws.length - 1) rfl rfl (by omega) (by omega) (by omega)) (by kernel_rfl) (by kernel_rfl) (by kernel_rfl) ?_
      refine d_rd 11 rfl (rd_load rfl (wcells_get hw)) rfl (by kernel_rfl) (by kernel_rfl) (by kernel_rfl) ?_
      refine d_pu 12 rfl (pu_move rfl) (by kernel_rfl) (by kernel_rfl) (by kernel_rfl) ?_
      refine d_pu 13 rfl (pu_shl_w (a := 1#64) (n % 64) rfl rfl (by omega)) (by kernel_rfl) (by kernel_rfl) (by kernel_rfl) ?_
      refine d_pu 14 rfl (pu_sub_w (a := 1#64 <<< (n % 64)) (b := 1#64) rfl rfl) (by kernel_rfl) (by kernel_rfl) (by kernel_rfl) ?_
      refine d_pu 15 rfl (pu_and_w (a := w) (b := (1#64 <<< (n % 64)) - 1#64) rfl rfl) (by kernel_rfl) (by kernel_rfl) (by kernel_rfl) ?_
      refine d_pu 16 rfl (pu_indexAddr (ws.length - 1) rfl rfl (by omega) (by omega) (by omega)) (by kernel_rfl) (by kernel_rfl) (by kernel_rfl) ?_
      first | refine d_fin0t 17 rfl (by kernel_rfl) (by kernel_rfl) (ef_storeP rfl rfl rfl (by rw [List.length_append, wcells_len]; omega)) ?_ | refine d_fin0f 17 rfl (by kernel_rfl) (by kernel_rfl) (ef_storeP rfl rfl rfl (by rw [List.length_append, wcells_len]; omega)) ?_
      refine d_sub _ .nil ?_
      first | refine d_nilt (by kernel_rfl) ?_ | refine d_nilf (by kernel_rfl) ?_
      rw [wcells_set hi1]
      refine done_end _ .nil ⟨rfl, cur.set (ws.length - 1) (w &&& ((1#64 <<< (n % 64)) - 1#64)), by simp [hcl], fun k => ?_, rfl⟩ (by repeat (first | exact Split.nil | (apply Split.cons; (repeat (first | with_reducible exact Take.here | apply Take.there)))))
      rw [mem_set _ hi1]
      split
      · rename_i h
        rw [BitVec.getLsbD_and, low_mask _ _ (Nat.mod_lt _ (by decide)), ← getD_of hw, hlow _ (by omega), h, Bool.and_comm]
        congr 1
        by_cases hk : k < n
        · rw [decide_eq_true hk, decide_eq_true (by omega)]
        · rw [decide_eq_false hk, decide_eq_false (by omega)]
      · rename_i h
        rcases Nat.lt_or_ge (k / 64) ws.length with h5 | h5
        · rw [decide_eq_true (show k < n by omega), Bool.true_and]
          unfold mem
          rw [hlow _ h5]
        · rw [decide_eq_false (show ¬ k < n by omega), Bool.false_and]
          exact mem_ge (by omega)
    · skip   -- 40 F
      refine swp_skip ?_
      have h40' : n % 64 = 0 := by
        have := of_decide_eq_true (not_f h40)
        omega
      refine done_end _ .nil ⟨rfl, cur, hcl, fun k => ?_, rfl⟩ (by repeat (first | exact Split.nil | (apply Split.cons; (repeat (first | with_reducible exact Take.here | apply Take.there)))))
      rcases Nat.lt_or_ge (k / 64) ws.length with h5 | h5
      · rw [decide_eq_true (show k < n by omega), Bool.true_and]
        unfold mem
        rw [hlow _ h5]
      · rw [decide_eq_false (show ¬ k < n by omega), Bool.false_and]
        exact mem_ge (by omega)
theorem each_0 (p : Nat) (ov : Value) (fid : Nat) : Spec Tryd.prog 81 [.pointer (some ⟨p, 0, none⟩), ov, .func (.func fid) #[] #[]] [blk p 113 [.int .i64 0, .slice none 0 0]] (fun r L => r = .tuple #[] ∧ L = [blk p 113 [.int .i64 0, .slice none 0 0]]) := by
  refine Spec.of 58 Tryd.func81 rfl rfl rfl ?_
  refine swp_seq ?_
  refine swp_seq ?_
  refine swp_region ?_
  refine s_pu (pu_move rfl) ?_
  refine s_pu (pu_ptr_eq_nil rfl rfl) ?_
  refine swl_sub _ (.cons (t := 0) rfl (.cons (t := 1) rfl (.cons (t := 2) rfl (.cons (t := 10) rfl .nil)))) ?_
  refine swl_nil ?_
  refine then_n ?_
  refine swp_cond (b := _) rfl (fun h10 => by cases h10) (fun h10 => ?_)
  refine swp_skip ?_
  refine then_n ?_
  refine swp_seq ?_
  refine swp_seq ?_
  refine swp_region ?_
  refine s_pu (pu_move rfl) ?_
  first | refine s_pu (pu_nilCheck rfl) ?_ | refine s_pu (pu_nilCheck_fn rfl) ?_ | refine s_pu (pu_nilCheck_if rfl) ?_
  first | refine s_pu (pu_fieldAddr0 rfl) ?_ | refine s_pu (pu_fieldAddr rfl) ?_
  refine s_rd (rd_load rfl rfl) ?_
  refine s_pu (pu_len rfl) ?_
  refine s_pu (pu_move rfl) ?_
  refine swl_sub _ (.cons (t := 0) rfl (.cons (t := 1) rfl (.cons (t := 2) rfl (.cons (t := 14) rfl (.cons (t := 15) rfl (.cons (t := 16) rfl .nil)))))) ?_
  refine swl_nil ?_
  refine then_n ?_
  refine swp_block ?_
  refine swp_loop (ι := Unit) (fun _ env L => env = [(0, .pointer (some ⟨p, 0, none⟩)), (1, ov), (2, .func (.func fid) #[] #[]), (14, .slice none 0 0), (15, .int .i64 0), (16, .int .i64 0)] ∧ L = [blk p 113 [.int .i64 0, .slice none 0 0]]) (fun _ => 0) () ⟨rfl, rfl⟩ ?_
  rintro _ env L ⟨rfl, rfl⟩
  refine swp_seq ?_
  refine swp_region ?_
  refine s_pu (pu_lss rfl rfl) ?_
  refine swl_sub _ (.cons (t := 0) rfl (.cons (t := 1) rfl (.cons (t := 2) rfl (.cons (t := 14) rfl (.cons (t := 15) rfl (.cons (t := 16) rfl (.cons (t := 17) rfl .nil))))))) ?_
  refine swl_nil ?_
  refine then_n ?_
  refine swp_seq ?_
  refine swp_cond (b := _) rfl (fun h17 => by have := of_decide_eq_true h17; omega) (fun h17 => ?_)
  refine swp_exit ?_
  refine then_x ?_
  refine then_x ?_
  refine block_hit rfl ?_
  refine then_n ?_
  refine swp_seq ?_
  refine swp_region ?_
  refine s_pu (pu_move rfl) ?_
  first | refine s_pu (pu_nilCheck rfl) ?_ | refine s_pu (pu_nilCheck_fn rfl) ?_ | refine s_pu (pu_nilCheck_if rfl) ?_
  first | refine s_pu (pu_fieldAddr0 rfl) ?_ | refine s_pu (pu_fieldAddr rfl) ?_
  refine s_rd (rd_load rfl rfl) ?_
  refine s_pu (pu_rem_as 0 rfl rfl (by omega) (by omega) (by omega)) ?_
  refine s_pu (pu_assign rfl) ?_
  refine swl_sub _ (.cons (t := 0) rfl (.cons (t := 8) rfl .nil)) ?_
  refine swl_nil ?_
  refine then_n ?_
  refine swp_seq ?_
  refine swp_region ?_
  refine s_pu (pu_move rfl) ?_
  refine s_pu (pu_neq rfl rfl) ?_
  refine swl_sub _ (.cons (t := 0) rfl (.cons (t := 8) rfl (.cons (t := 40) rfl .nil))) ?_
  refine swl_nil ?_
  refine then_n ?_
  refine swp_cond (b := _) rfl (fun h40 => absurd h40 (by decide)) (fun h40 => ?_)
  refine swp_skip ?_
  exact done_end _ .nil ⟨rfl, rfl⟩ (by repeat (first | exact Split.nil | (apply Split.cons; (repeat (first | with_reducible exact Take.here | apply Take.there)))))
theorem or1 (x y : BitVec 64) : Spec Tryd.prog 88 [wv x, wv y] [] (fun r L => r = wv (x ||| y) ∧ L = []) := by
  refine Spec.of 8 Tryd.func88 rfl rfl rfl ?_
  refine swp_seq ?_
  refine swp_region ?_
  refine s_pu (pu_assign rfl) ?_
  refine swl_sub _ (.cons (t := 0) rfl (.cons (t := 1) rfl .nil)) ?_
  refine swl_nil ?_
  refine then_n ?_
  refine swp_seq ?_
  refine swp_region ?_
  refine s_pu (pu_move rfl) ?_
  refine s_pu (pu_move rfl) ?_
  refine s_pu (pu_or_w rfl rfl) ?_
  refine s_pu (pu_assign rfl) ?_
  refine swl_sub _ (.cons (t := 4) rfl .nil) ?_
  refine swl_nil ?_
  refine then_n ?_
  refine swp_ret ?_
  exact done_ret _ (.tmp rfl .nil) ⟨rfl, rfl⟩ (by repeat (first | exact Split.nil | (apply Split.cons; (repeat (first | with_reducible exact Take.here | apply Take.there)))))
theorem and1 (x y : BitVec 64) : Spec Tryd.prog 83 [wv x, wv y] [] (fun r L => r = wv (x &&& y) ∧ L = []) := by
  refine Spec.of 8 Tryd.func83 rfl rfl rfl ?_
  refine swp_seq ?_
  refine swp_region ?_
  refine s_pu (pu_assign rfl) ?_
  refine swl_sub _ (.cons (t := 0) rfl (.cons (t := 1) rfl .nil)) ?_
  refine swl_nil ?_
  refine then_n ?_
  refine swp_seq ?_
  refine swp_region ?_
  refine s_pu (pu_move rfl) ?_
  refine s_pu (pu_move rfl) ?_
  refine s_pu (pu_and_w rfl rfl) ?_
  refine s_pu (pu_assign rfl) ?_
  refine swl_sub _ (.cons (t := 4) rfl .nil) ?_
  refine swl_nil ?_
  refine then_n ?_
  refine swp_ret ?_
  exact done_ret _ (.tmp rfl .nil) ⟨rfl, rfl⟩ (by repeat (first | exact Split.nil | (apply Split.cons; (repeat (first | with_reducible exact Take.here | apply Take.there)))))
theorem less1 (x y : BitVec 64) : Spec Tryd.prog 82 [wv x, wv y] [] (fun r L => r = wv (x &&& ~~~y) ∧ L = []) := by
  refine Spec.of 8 Tryd.func82 rfl rfl rfl ?_
  refine swp_seq ?_
  refine swp_region ?_
  refine s_pu (pu_assign rfl) ?_
  refine swl_sub _ (.cons (t := 0) rfl (.cons (t := 1) rfl .nil)) ?_
  refine swl_nil ?_
  refine then_n ?_
  refine swp_seq ?_
  refine swp_region ?_
  refine s_pu (pu_move rfl) ?_
  refine s_pu (pu_move rfl) ?_
  refine s_pu (pu_andNot_w rfl rfl) ?_
  refine s_pu (pu_assign rfl) ?_
  refine swl_sub _ (.cons (t := 4) rfl .nil) ?_
  refine swl_nil ?_
  refine then_n ?_
  refine swp_ret ?_
  exact done_ret _ (.tmp rfl .nil) ⟨rfl, rfl⟩ (by repeat (first | exact Split.nil | (apply Split.cons; (repeat (first | with_reducible exact Take.here | apply Take.there)))))
end SX
namespace SX
open Go Go.Proofs

def numsI (l : List Nat) : List Int := l.map fun k : Nat => (k : Int)
def elsTo (j : Nat) (S : Nat → Bool) : List Int := numsI ((List.range j).filter S)
theorem elsTo_skip {S : Nat → Bool} {k : Nat} : ∀ {j : Nat}, k ≤ j → (∀ i, k ≤ i → i < j → S i = false) → elsTo j S = elsTo k S
  | 0, h, _ => by have : k = 0 := by omega
                  subst this; rfl
  | j + 1, h, hS => by
    rcases Nat.lt_or_ge j k with h1 | h1
    · have : k = j + 1 := by omega
      subst this; rfl
    · have e : elsTo (j + 1) S = elsTo j S := by
        unfold elsTo
        rw [List.range_succ, List.filter_append]
        simp [hS j h1 (by omega)]
      rw [e]
      exact elsTo_skip h1 (fun i a b => hS i a (by omega))
theorem elsTo_succ {S : Nat → Bool} {j : Nat} (h : S j = true) : elsTo (j + 1) S = elsTo j S ++ [(j : Int)] := by
  unfold elsTo numsI
  rw [List.range_succ, List.filter_append]
  simp [h]
theorem elsTo_len (j : Nat) (S : Nat → Bool) : (elsTo j S).length ≤ j := by
  unfold elsTo numsI
  rw [List.length_map]
  exact Nat.le_trans (List.length_filter_le _ _) (by simp)

set_option maxHeartbeats 1000000 in
theorem list_o (μ : PH) (p n : Nat) (v : Value) (ws : List (BitVec 64)) (hT : RowAt μ 0 0 tabV) (hl : ws.length = (n + 63) / 64) (hn : n ≤ 1048576) (hS : ∀ j, n ≤ j → mem ws j = false) :
    Spec Tryd.prog 54 [.pointer (some ⟨p, 0, none⟩)] (opr p n v ws μ) (fun r L => L = [own 3 1 r (elsTo n (mem ws)).length ((elsTo n (mem ws)).flatMap (icsk .i64)), blk p 113 [.int .i64 (n : Nat), v], own 105 1 v ws.length (wcells ws), ro μ]) := by
  have inv : ∀ (k : Nat) (x : Int), k ≤ n → IsNext (mem ws) (k : Int) x → (x = -1 ∧ elsTo k (mem ws) = elsTo n (mem ws)) ∨ ∃ j : Nat, x = j ∧ k ≤ j ∧ j < n ∧ mem ws j = true ∧ elsTo k (mem ws) = elsTo j (mem ws) := by
    rintro k x hk (⟨rfl, h⟩ | ⟨j, rfl, h1, h2, h3⟩)
    · exact .inl ⟨rfl, (elsTo_skip hk (fun i a _ => h i (by omega))).symm⟩
    · refine .inr ⟨j, rfl, by omega, ?_, h2, (elsTo_skip (by omega) (fun i a b => h3 i (by omega) b)).symm⟩
      rcases Nat.lt_or_ge j n with h4 | h4
      · exact h4
      · rw [hS j h4] at h2; cases h2
  refine Spec.of 18 Tryd.func54 rfl rfl rfl ?_
  refine swp_seq ?_
  refine swp_region ?_
  refine s_pu (pu_assign rfl) ?_
  refine swl_sub _ (.cons (t := 0) rfl .nil) ?_
  refine swl_nil ?_
  refine then_n ?_
  refine swp_seq ?_
  refine swp_region ?_
  refine s_pu (pu_assign rfl) ?_
  refine swl_sub _ (.cons (t := 0) rfl (.cons (t := 3) rfl .nil)) ?_
  refine swl_ent (own_nil_ent (e := 3) (n := 1)) ?_
  refine swl_nil ?_
  refine then_n ?_
  refine swp_seq ?_
  refine swp_seq ?_
  refine swp_region ?_
  refine s_pu (pu_move rfl) ?_
  refine s_ef (ef_fn (next_o μ p n v ws 0 hT hl hn hS) rfl rfl (by repeat (first | exact Split.nil | (apply Split.cons; (repeat (first | with_reducible exact Take.here | apply Take.there)))))) ?_
  rintro v1 L1 ⟨x, rfl, hx, rfl⟩
  refine swl_app ?_
  refine s_pu (pu_assign rfl) ?_
  refine swl_sub _ (.cons (t := 0) rfl (.cons (t := 3) rfl (.cons (t := 4) rfl .nil))) ?_
  refine swl_ent (Split.ent' (K := [own 3 1 (.slice none 0 0) 0 [], blk p 113 [.int .i64 (n : Nat), v], own 105 1 v ws.length (wcells ws), ro μ]) (by repeat (first | exact Split.nil | (apply Split.cons; (repeat (first | with_reducible exact Take.here | apply Take.there)))))) ?_
  refine swl_nil ?_
  refine then_n ?_
  refine swp_block ?_
  refine swp_loop (ι := Value × Int × Nat) (fun k env L => env = [(0, .pointer (some ⟨p, 0, none⟩)), (3, k.1), (4, .int .i64 k.2.1)] ∧ L = [own 3 1 k.1 (elsTo k.2.2 (mem ws)).length ((elsTo k.2.2 (mem ws)).flatMap (icsk .i64)), blk p 113 [.int .i64 (n : Nat), v], own 105 1 v ws.length (wcells ws), ro μ] ∧
    ((k.2.1 = -1 ∧ k.2.2 = n) ∨ (k.2.1 = k.2.2 ∧ k.2.2 < n ∧ mem ws k.2.2 = true))) (fun k => if k.2.1 < 0 then 0 else n + 1 - k.2.2) (.slice none 0 0, x, if x < 0 then n else x.toNat) ⟨rfl, ?_, ?_⟩ ?_
  · rcases inv 0 x (Nat.zero_le _) hx with ⟨rfl, h⟩ | ⟨j, rfl, _, _, _, h⟩
    · show [own 3 1 (.slice none 0 0) 0 [], _, _, _] = [own 3 1 (.slice none 0 0) (elsTo n (mem ws)).length ((elsTo n (mem ws)).flatMap (icsk .i64)), _, _, _]
      rw [← h]; rfl
    · have hj : ¬ ((j : Int) < 0) := by omega
      simp only [hj, if_false, Int.toNat_natCast]
      rw [← h]; rfl
  · rcases inv 0 x (Nat.zero_le _) hx with ⟨rfl, h⟩ | ⟨j, rfl, _, h2, h3, h⟩
    · exact .inl ⟨rfl, rfl⟩
    · have hj : ¬ ((j : Int) < 0) := by omega
      simp only [hj, if_false, Int.toNat_natCast]
      exact .inr ⟨trivial, h2, h3⟩
  rintro ⟨v3, x, j⟩ env L ⟨rfl, rfl, hx⟩
  simp only [] at hx
  dsimp only
  refine swp_seq ?_
  refine swp_seq ?_
  refine swp_region ?_
  refine s_pu (pu_move rfl) ?_
  refine s_pu (pu_geq rfl rfl) ?_
  refine swl_sub _ (.cons (t := 0) rfl (.cons (t := 3) rfl (.cons (t := 4) rfl (.cons (t := 8) rfl .nil)))) ?_
  refine swl_nil ?_
  refine then_n ?_
  refine swp_cond (b := _) rfl (fun h8 => ?_) (fun h8 => ?_)
  · skip   -- 8 T
    have h8' := of_decide_eq_true h8
    obtain ⟨rfl, hjn, hj⟩ : x = (j : Int) ∧ j < n ∧ mem ws j = true := by
      rcases hx with ⟨h, _⟩ | h
      · omega
      · exact h
    have hle := elsTo_len j (mem ws)
    refine swp_skip ?_
    refine then_n ?_
    refine swp_seq ?_
    refine swp_block ?_
    refine swp_region ?_
    refine s_pu (pu_move rfl) ?_
    refine s_pu (pu_move rfl) ?_
    refine s_ef (ef_bldS (qs := [(0, _)]) rfl rfl rfl) ?_
    intro b15
    refine s_ef (ef_append_lit (l := (elsTo j (mem ws)).length) (m := 1) rfl rfl (by repeat (first | exact Split.nil | (apply Split.cons; (repeat (first | with_reducible exact Take.here | apply Take.there))))) (by simp only [maxLen]; omega) (by omega)) ?_
    rintro v' hv'
    skip
    refine s_pu (pu_assign rfl) ?_
    refine swl_sub _ (.cons (t := 0) rfl (.cons (t := 3) rfl (.cons (t := 4) rfl .nil))) ?_
    have e1 : (elsTo j (mem ws)).length + 1 = (elsTo (j + 1) (mem ws)).length := by rw [elsTo_succ hj, List.length_append]; rfl
    have e2 : (elsTo j (mem ws)).flatMap (icsk .i64) ++ [.int .i64 (j : Nat)] = (elsTo (j + 1) (mem ws)).flatMap (icsk .i64) := by rw [elsTo_succ hj, List.flatMap_append]; rfl
    rw [e1, e2]
    refine swl_nil ?_
    refine block_n ?_
    refine then_n ?_
    refine swp_region ?_
    refine s_pu (pu_move rfl) ?_
    refine s_pu (pu_move rfl) ?_
    refine s_pu (pu_add_as ((j + 1 : Nat) : Int) rfl rfl (by omega) (by omega) (by omega)) ?_
    refine s_ef (ef_fn (next_o μ p n v ws ((j + 1 : Nat) : Int) hT hl hn hS) rfl rfl (by repeat (first | exact Split.nil | (apply Split.cons; (repeat (first | with_reducible exact Take.here | apply Take.there)))))) ?_
    rintro v1 L1 ⟨x, rfl, hx2, rfl⟩
    refine swl_app ?_
    refine s_pu (pu_assign rfl) ?_
    refine swl_sub _ (.cons (t := 0) rfl (.cons (t := 3) rfl (.cons (t := 4) rfl .nil))) ?_
    refine swl_ent (Split.ent' (K := [own 3 1 v' (elsTo (j + 1) (mem ws)).length ((elsTo (j + 1) (mem ws)).flatMap (icsk .i64)), blk p 113 [.int .i64 (n : Nat), v], own 105 1 v ws.length (wcells ws), ro μ]) (by repeat (first | exact Split.nil | (apply Split.cons; (repeat (first | with_reducible exact Take.here | apply Take.there)))))) ?_
    refine swl_nil ?_
    rcases inv (j + 1) x hjn hx2 with ⟨rfl, h⟩ | ⟨i, rfl, h0, h2, h3, h⟩
    · rw [h]
      exact then_n ⟨(v', -1, n), ⟨rfl, rfl, .inl ⟨rfl, rfl⟩⟩, by
        show (if (-1 : Int) < 0 then 0 else n + 1 - n) < (if (j : Int) < 0 then 0 else n + 1 - j)
        rw [if_pos (by decide), if_neg (by omega)]; omega⟩
    · rw [h]
      exact then_n ⟨(v', (i : Int), i), ⟨rfl, rfl, .inr ⟨rfl, h2, h3⟩⟩, by
        show (if (i : Int) < 0 then 0 else n + 1 - i) < (if (j : Int) < 0 then 0 else n + 1 - j)
        rw [if_neg (by omega), if_neg (by omega)]; omega⟩
  · skip   -- 8 F
    have h8' := of_decide_eq_false h8
    obtain ⟨rfl, rfl⟩ : x = -1 ∧ j = n := by
      rcases hx with h | ⟨h, _⟩
      · exact h
      · omega
    refine swp_exit ?_
    refine then_x ?_
    refine then_x ?_
    refine block_hit rfl ?_
    refine then_n ?_
    refine swp_seq ?_
    refine swp_region ?_
    refine s_pu (pu_move rfl) ?_
    refine s_pu (pu_assign rfl) ?_
    refine swl_sub _ (.cons (t := 2) rfl .nil) ?_
    refine swl_nil ?_
    refine then_n ?_
    refine swp_ret ?_
    exact done_ret [own 3 1 v3 (elsTo j (mem ws)).length ((elsTo j (mem ws)).flatMap (icsk .i64)), blk p 113 [.int .i64 (j : Nat), v], own 105 1 v ws.length (wcells ws), ro μ] (.tmp rfl .nil) rfl (by repeat (first | exact Split.nil | (apply Split.cons; (repeat (first | with_reducible exact Take.here | apply Take.there)))))
end SX
namespace SX
open Go Go.Proofs

theorem mset_elim {f : FuncId} {args : List Value} {pre : List Assn} {post : Value → List Assn → Prop} {p n : Nat} {S : Nat → Bool} (h : ∀ v ws, Wf n ws S → Spec Tryd.prog f args (blk p 113 [.int .i64 (n : Nat), v] :: own 105 1 v ws.length (wcells ws) :: pre) post) : Spec Tryd.prog f args (mset p n S :: pre) post :=
  Spec.exA' fun x => h x.1.1 x.1.2 x.2
theorem has_eq {n : Nat} {ws : List (BitVec 64)} {S : Nat → Bool} (hw : Wf n ws S) (k : Int) : (decide (0 ≤ k) && (decide (k < n) && mem ws k.toNat)) = (decide (0 ≤ k) && S k.toNat) := by
  rw [hw.2.2.1]
  by_cases h0 : 0 ≤ k
  · by_cases h : k < n
    · simp [h]
    · rw [hw.2.2.2 k.toNat (by omega)]; simp
  · simp [h0]
theorem has_m (p n : Nat) (S : Nat → Bool) (k : Int) : Spec Tryd.prog 58 [.pointer (some ⟨p, 0, none⟩), .int .i64 k] [mset p n S] (fun r L => r = .bool (decide (0 ≤ k) && S k.toNat) ∧ L = [mset p n S]) := by
  refine mset_elim fun v ws hw => ?_
  refine Spec.ent3 (has_o p n v ws k hw.1 hw.2.1) ?_
  rintro r L ⟨rfl, rfl⟩
  exact ⟨_, mset_close hw, by rw [has_eq hw], rfl⟩
theorem size_m (p n : Nat) (S : Nat → Bool) : Spec Tryd.prog 72 [.pointer (some ⟨p, 0, none⟩)] [mset p n S] (fun r L => r = .int .i64 (n : Nat) ∧ L = [mset p n S]) := by
  refine mset_elim fun v ws hw => ?_
  intro E w hh
  refine ((size_b p n v).frame (R := [own 105 1 v ws.length (wcells ws)]) hh).mono ?_
  rintro e w' ⟨r, L, he, ⟨hr, rfl⟩, h'⟩
  exact ⟨r, _, he, ⟨hr, rfl⟩, h'.ent (mset_close hw)⟩
theorem put_m (p n : Nat) (S : Nat → Bool) (k : Int) : Spec Tryd.prog 57 [.pointer (some ⟨p, 0, none⟩), .int .i64 k] [mset p n S] (fun r L => r = .bool (decide (0 ≤ k) && (decide (k < n) && !S k.toNat)) ∧ L = [mset p n (fun j => S j || (decide (0 ≤ k ∧ k < n) && decide (j = k.toNat)))]) := by
  refine mset_elim fun v ws hw => ?_
  refine Spec.ent3 (put_o p n v ws k hw.1 hw.2.1) ?_
  rintro r L ⟨rfl, ws', h1, h2, rfl⟩
  refine ⟨_, mset_close (ws := ws') ⟨by rw [h1]; exact hw.1, hw.2.1, fun j => by rw [h2, hw.2.2.1], fun j hj => ?_⟩, by rw [hw.2.2.1], rfl⟩
  rw [hw.2.2.2 j hj, Bool.false_or]
  by_cases h : 0 ≤ k ∧ k < n
  · rw [decide_eq_false (show ¬ j = k.toNat by omega), Bool.and_false]
  · simp [h]
theorem drop_m (p n : Nat) (S : Nat → Bool) (k : Int) : Spec Tryd.prog 66 [.pointer (some ⟨p, 0, none⟩), .int .i64 k] [mset p n S] (fun r L => r = .bool (decide (0 ≤ k) && S k.toNat) ∧ L = [mset p n (fun j => S j && !(decide (0 ≤ k) && decide (j = k.toNat)))]) := by
  refine mset_elim fun v ws hw => ?_
  refine Spec.ent3 (drop_o p n v ws k hw.1 hw.2.1) ?_
  rintro r L ⟨rfl, ws', h1, h2, rfl⟩
  have hkn : ∀ j, j = k.toNat → 0 ≤ k → S j = true → k < n := fun j e h0 hs => by
    rcases Int.lt_or_le k n with h | h
    · exact h
    · rw [hw.2.2.2 j (by omega)] at hs; cases hs
  refine ⟨_, mset_close (ws := ws') ⟨by rw [h1]; exact hw.1, hw.2.1, fun j => ?_, fun j hj => by rw [hw.2.2.2 j hj]; rfl⟩, ?_, rfl⟩
  · rw [h2, hw.2.2.1]
    cases hs : S j with
    | false => rfl
    | true =>
      by_cases e : j = k.toNat
      · by_cases h0 : 0 ≤ k
        · simp [e, h0, hkn j e h0 hs]
        · simp [h0]
      · simp [e]
  · rw [has_eq hw]
theorem list_m (μ : PH) (p n : Nat) (S : Nat → Bool) (hT : RowAt μ 0 0 tabV) : Spec Tryd.prog 54 [.pointer (some ⟨p, 0, none⟩)] [mset p n S, ro μ] (fun r L => L = [own 3 1 r (elsTo n S).length ((elsTo n S).flatMap (icsk .i64)), mset p n S, ro μ]) := by
  refine mset_elim fun v ws hw => ?_
  have hS : mem ws = S := funext hw.2.2.1
  refine Spec.ent3 (list_o μ p n v ws hT hw.1 hw.2.1 (fun j hj => by rw [hS]; exact hw.2.2.2 j hj)) ?_
  rintro r L rfl
  rw [hS]
  exact ⟨_, Ent.cons (mset_close hw), rfl⟩
/-- one of three: what each does with the other set's words -/
theorem each_m (p n : Nat) (S : Nat → Bool) (ov : Value) (fid : Nat) [Body Tryd.prog fid] (g : BitVec 64 → BitVec 64 → BitVec 64) (gb : Bool → Bool → Bool) (o : Nat → BitVec 64) (X : Assn) (hf : ∀ x y, Spec Tryd.prog fid [wv x, wv y] [] (fun r L => r = wv (g x y) ∧ L = []))
    (hg : ∀ x y i, i < 64 → (g x y).getLsbD i = gb (x.getLsbD i) (y.getLsbD i)) (ho : ∀ i, i ≤ 1048576 → Spec Tryd.prog 94 [ov, .int .i64 (i : Nat)] [X] (fun r L => r = wv (o i) ∧ L = [X])) :
    Spec Tryd.prog 81 [.pointer (some ⟨p, 0, none⟩), ov, .func (.func fid) #[] #[]] [mset p n S, X] (fun r L => r = .tuple #[] ∧ L = [mset p n (fun k => decide (k < n) && gb (S k) ((o (k / 64)).getLsbD (k % 64))), X]) := by
  refine mset_elim fun v ws hw => ?_
  have hS : mem ws = S := funext hw.2.2.1
  refine Spec.pre ?_ (Ent.swap (L := [X]))
  refine Spec.own_cases (fun hv l0 _ => ?_) (fun b cap ex hv h1 h2 h3 h4 => ?_)
  · subst hv
    have hn0 : n = 0 := by have := hw.1; omega
    subst hn0
    intro E w hh
    refine ((each_0 p ov fid).frame (R := [X]) hh).mono ?_
    rintro e w' ⟨r, L, he, ⟨hr, rfl⟩, h'⟩
    have hws : ws = [] := List.eq_nil_of_length_eq_zero l0
    refine ⟨r, _, he, ⟨hr, rfl⟩, h'.ent ?_⟩
    refine Ent.trans ?_ (mset_close (v := .slice none 0 0) (ws := []) ⟨rfl, by decide, fun k => by simp [mem], fun _ _ => by simp⟩)
    exact Ent.cons own_nil_ent
  · subst hv
    refine Spec.ent3 (each_b p n b cap ws ex ov fid g o X hw.1 hw.2.1 hf (fun cur i _ hi _ => ?_)) ?_
    · have h := ho i (by have := hw.1; have := hw.2.1; omega)
      intro E w hh
      have hh2 : H E w ([X] ++ [blk b 105 (wcells cur ++ ex), blk p 113 [.int .i64 (n : Nat), .slice (some ⟨b, 0, none⟩) ws.length cap]]) := hh.ent (Split.ent' (by repeat (first | exact Split.nil | (apply Split.cons; (repeat (first | with_reducible exact Take.here | apply Take.there))))))
      refine (h.frame hh2).mono ?_
      rintro e w' ⟨r, L, he, ⟨hr, rfl⟩, h'⟩
      exact ⟨r, _, he, ⟨hr, rfl⟩, h'.ent (Ent.perm (List.perm_append_comm (l₁ := [X])))⟩
    · rintro r L ⟨rfl, ws', h5, h6, rfl⟩
      have hc := wown_close (b := b) (cap := cap) (ws := ws') (ex := ex) (L := [blk p 113 [.int .i64 (n : Nat), .slice (some ⟨b, 0, none⟩) ws.length cap], X]) (by omega) h2 (by rw [h5]; exact h4)
      have hwf : Wf n ws' (fun k => decide (k < n) && gb (S k) ((o (k / 64)).getLsbD (k % 64))) := by
        refine ⟨by rw [h5]; exact hw.1, hw.2.1, fun k => ?_, fun k hk => by show (decide (k < n) && _) = false; rw [decide_eq_false (by omega)]; rfl⟩
        rw [h6, hg _ _ _ (Nat.mod_lt _ (by decide)), ← hS]
        rfl
      have hm := mset_close (p := p) (v := .slice (some ⟨b, 0, none⟩) ws.length cap) (L := [X]) hwf
      rw [h5] at hc hm
      exact ⟨_, hc.trans (Ent.swap.trans hm), rfl, rfl⟩
theorem Spec.starred {P : Program} {f : FuncId} {args : List Value} {K : List Assn} {φ : Value → Prop} (h : Spec P f args K (fun r L => φ r ∧ L = K)) (R : List Assn) : Spec P f args [star (K ++ R)] (fun r L => φ r ∧ L = [star (K ++ R)]) := by
  intro E w hh
  have h2 : H E w (K ++ R) := by
    have := hh.ent (star_ent (K := K ++ R) (L := []))
    rwa [List.append_nil] at this
  refine (h.frame h2).mono ?_
  rintro e w' ⟨r, L, he, ⟨hr, rfl⟩, h'⟩
  exact ⟨r, _, he, ⟨hr, rfl⟩, h'.ent star_close1⟩

theorem or_x (p n : Nat) (S : Nat → Bool) (ov : Value) (o : Nat → BitVec 64) (X : Assn) (ho : ∀ i, i ≤ 1048576 → Spec Tryd.prog 94 [ov, .int .i64 (i : Nat)] [X] (fun r L => r = wv (o i) ∧ L = [X])) :
    Spec Tryd.prog 73 [.pointer (some ⟨p, 0, none⟩), ov] [mset p n S, X] (fun r L => r = .tuple #[] ∧ L = [mset p n (fun k => decide (k < n) && (S k || (o (k / 64)).getLsbD (k % 64))), X]) := by
  refine Spec.of 7 Tryd.func73 rfl rfl rfl ?_
  refine swp_region ?_
  refine s_pu (pu_move rfl) ?_
  refine s_pu (pu_move rfl) ?_
  refine s_ef (ef_fn (each_m p n S ov 88 (fun x y => x ||| y) (fun a b => (a || b)) o X or1 (fun x y i hi => by simp [BitVec.getLsbD_or]) ho) rfl rfl (by repeat (first | exact Split.nil | (apply Split.cons; (repeat (first | with_reducible exact Take.here | apply Take.there)))))) ?_
  rintro v1 L1 ⟨rfl, rfl⟩
  refine swl_app ?_
  refine swl_sub _ .nil ?_
  refine swl_nil ?_
  exact done_end _ .nil ⟨rfl, rfl⟩ (by repeat (first | exact Split.nil | (apply Split.cons; (repeat (first | with_reducible exact Take.here | apply Take.there)))))
theorem or_m (p n q m : Nat) (S T : Nat → Bool) : Spec Tryd.prog 73 [.pointer (some ⟨p, 0, none⟩), .pointer (some ⟨q, 0, none⟩)] [mset p n S, mset q m T] (fun r L => r = .tuple #[] ∧ L = [mset p n (fun k => decide (k < n) && (S k || T k)), mset q m T]) := by
  refine Spec.pre ?_ Ent.swap
  refine mset_elim fun v ws hw => ?_
  refine Spec.pre ?_ (Ent.trans (L2 := star (opn q m v ws) :: [mset p n S]) (star_close (K := opn q m v ws)) Ent.swap)
  refine Spec.ent3 (or_x p n S _ (fun i => ws.getD i 0#64) (star (opn q m v ws)) (fun i hi => by have := Spec.starred (word_o q m v ws i hi) []; rwa [List.append_nil] at this)) ?_
  rintro r L ⟨rfl, rfl⟩
  refine ⟨_, ?_, rfl, rfl⟩
  have e : (fun k => decide (k < n) && (S k || (ws.getD (k / 64) 0#64).getLsbD (k % 64))) = fun k => decide (k < n) && (S k || T k) := by
    funext k
    have := hw.2.2.1 k
    unfold mem at this
    rw [this]
  rw [e]
  exact Ent.cons ((star_ent (L := [])).trans (mset_close hw))
theorem and_x (p n : Nat) (S : Nat → Bool) (ov : Value) (o : Nat → BitVec 64) (X : Assn) (ho : ∀ i, i ≤ 1048576 → Spec Tryd.prog 94 [ov, .int .i64 (i : Nat)] [X] (fun r L => r = wv (o i) ∧ L = [X])) :
    Spec Tryd.prog 63 [.pointer (some ⟨p, 0, none⟩), ov] [mset p n S, X] (fun r L => r = .tuple #[] ∧ L = [mset p n (fun k => decide (k < n) && (S k && (o (k / 64)).getLsbD (k % 64))), X]) := by
  refine Spec.of 7 Tryd.func63 rfl rfl rfl ?_
  refine swp_region ?_
  refine s_pu (pu_move rfl) ?_
  refine s_pu (pu_move rfl) ?_
  refine s_ef (ef_fn (each_m p n S ov 83 (fun x y => x &&& y) (fun a b => (a && b)) o X and1 (fun x y i hi => by simp [BitVec.getLsbD_and]) ho) rfl rfl (by repeat (first | exact Split.nil | (apply Split.cons; (repeat (first | with_reducible exact Take.here | apply Take.there)))))) ?_
  rintro v1 L1 ⟨rfl, rfl⟩
  refine swl_app ?_
  refine swl_sub _ .nil ?_
  refine swl_nil ?_
  exact done_end _ .nil ⟨rfl, rfl⟩ (by repeat (first | exact Split.nil | (apply Split.cons; (repeat (first | with_reducible exact Take.here | apply Take.there)))))
theorem and_m (p n q m : Nat) (S T : Nat → Bool) : Spec Tryd.prog 63 [.pointer (some ⟨p, 0, none⟩), .pointer (some ⟨q, 0, none⟩)] [mset p n S, mset q m T] (fun r L => r = .tuple #[] ∧ L = [mset p n (fun k => decide (k < n) && (S k && T k)), mset q m T]) := by
  refine Spec.pre ?_ Ent.swap
  refine mset_elim fun v ws hw => ?_
  refine Spec.pre ?_ (Ent.trans (L2 := star (opn q m v ws) :: [mset p n S]) (star_close (K := opn q m v ws)) Ent.swap)
  refine Spec.ent3 (and_x p n S _ (fun i => ws.getD i 0#64) (star (opn q m v ws)) (fun i hi => by have := Spec.starred (word_o q m v ws i hi) []; rwa [List.append_nil] at this)) ?_
  rintro r L ⟨rfl, rfl⟩
  refine ⟨_, ?_, rfl, rfl⟩
  have e : (fun k => decide (k < n) && (S k && (ws.getD (k / 64) 0#64).getLsbD (k % 64))) = fun k => decide (k < n) && (S k && T k) := by
    funext k
    have := hw.2.2.1 k
    unfold mem at this
    rw [this]
  rw [e]
  exact Ent.cons ((star_ent (L := [])).trans (mset_close hw))
theorem less_x (p n : Nat) (S : Nat → Bool) (ov : Value) (o : Nat → BitVec 64) (X : Assn) (ho : ∀ i, i ≤ 1048576 → Spec Tryd.prog 94 [ov, .int .i64 (i : Nat)] [X] (fun r L => r = wv (o i) ∧ L = [X])) :
    Spec Tryd.prog 59 [.pointer (some ⟨p, 0, none⟩), ov] [mset p n S, X] (fun r L => r = .tuple #[] ∧ L = [mset p n (fun k => decide (k < n) && (S k && !(o (k / 64)).getLsbD (k % 64))), X]) := by
  refine Spec.of 7 Tryd.func59 rfl rfl rfl ?_
  refine swp_region ?_
  refine s_pu (pu_move rfl) ?_
  refine s_pu (pu_move rfl) ?_
  refine s_ef (ef_fn (each_m p n S ov 82 (fun x y => x &&& ~~~y) (fun a b => (a && !b)) o X less1 (fun x y i hi => by simp [hi]) ho) rfl rfl (by repeat (first | exact Split.nil | (apply Split.cons; (repeat (first | with_reducible exact Take.here | apply Take.there)))))) ?_
  rintro v1 L1 ⟨rfl, rfl⟩
  refine swl_app ?_
  refine swl_sub _ .nil ?_
  refine swl_nil ?_
  exact done_end _ .nil ⟨rfl, rfl⟩ (by repeat (first | exact Split.nil | (apply Split.cons; (repeat (first | with_reducible exact Take.here | apply Take.there)))))
theorem less_m (p n q m : Nat) (S T : Nat → Bool) : Spec Tryd.prog 59 [.pointer (some ⟨p, 0, none⟩), .pointer (some ⟨q, 0, none⟩)] [mset p n S, mset q m T] (fun r L => r = .tuple #[] ∧ L = [mset p n (fun k => decide (k < n) && (S k && !T k)), mset q m T]) := by
  refine Spec.pre ?_ Ent.swap
  refine mset_elim fun v ws hw => ?_
  refine Spec.pre ?_ (Ent.trans (L2 := star (opn q m v ws) :: [mset p n S]) (star_close (K := opn q m v ws)) Ent.swap)
  refine Spec.ent3 (less_x p n S _ (fun i => ws.getD i 0#64) (star (opn q m v ws)) (fun i hi => by have := Spec.starred (word_o q m v ws i hi) []; rwa [List.append_nil] at this)) ?_
  rintro r L ⟨rfl, rfl⟩
  refine ⟨_, ?_, rfl, rfl⟩
  have e : (fun k => decide (k < n) && (S k && !(ws.getD (k / 64) 0#64).getLsbD (k % 64))) = fun k => decide (k < n) && (S k && !T k) := by
    funext k
    have := hw.2.2.1 k
    unfold mem at this
    rw [this]
  rw [e]
  exact Ent.cons ((star_ent (L := [])).trans (mset_close hw))
end SX
namespace SX
open Go Go.Proofs

theorem wcells_one (ws : List (BitVec 64)) : (wcells ws).all Value.oneCell' = true := by
  unfold wcells; rw [List.all_flatMap]; simp [ucs, Value.oneCell']
theorem uclone_nil : Spec Tryd.prog 84 [.slice none 0 0] [] (fun v L => v = .slice none 0 0 ∧ L = []) := by
  refine Spec.of 8 Tryd.func84 rfl rfl rfl ?_
  refine swp_seq ?_
  refine swp_region ?_
  refine s_pu (pu_assign rfl) ?_
  refine swl_sub _ (.cons (t := 0) rfl .nil) ?_
  refine swl_nil ?_
  refine then_n ?_
  refine swp_seq ?_
  refine swp_seq ?_
  refine swp_region ?_
  refine s_pu (pu_move rfl) ?_
  refine s_pu (pu_sl_eq_nil rfl rfl) ?_
  refine swl_sub _ (.cons (t := 0) rfl (.cons (t := 4) rfl .nil)) ?_
  refine swl_nil ?_
  refine then_n ?_
  refine swp_cond (b := _) rfl (fun h4 => ?_) (fun h4 => by cases h4)
  refine swp_seq ?_
  refine swp_region ?_
  refine s_pu (pu_assign rfl) ?_
  refine swl_sub _ (.cons (t := 2) rfl .nil) ?_
  refine swl_nil ?_
  refine then_n ?_
  refine swp_ret ?_
  refine then_r ?_
  exact done_ret [] (.tmp rfl .nil) ⟨rfl, rfl⟩ (by repeat (first | exact Split.nil | (apply Split.cons; (repeat (first | with_reducible exact Take.here | apply Take.there)))))
theorem uclone_blk (g cap : Nat) (es : List (BitVec 64)) (ex : List Value) (hb : es.length ≤ 1099511627776) :
    Spec Tryd.prog 84 [.slice (some ⟨g, 0, none⟩) es.length cap] [blk g 105 (wcells es ++ ex)] (fun v L => (∃ A c, v = .slice A es.length c) ∧ L = [own 105 1 v es.length (wcells es), blk g 105 (wcells es ++ ex)]) := by
  refine Spec.of 8 Tryd.func84 rfl rfl rfl ?_
  refine swp_seq ?_
  refine swp_region ?_
  refine s_pu (pu_assign rfl) ?_
  refine swl_sub _ (.cons (t := 0) rfl .nil) ?_
  refine swl_nil ?_
  refine then_n ?_
  refine swp_seq ?_
  refine swp_seq ?_
  refine swp_region ?_
  refine s_pu (pu_move rfl) ?_
  refine s_pu (pu_sl_eq_nil rfl rfl) ?_
  refine swl_sub _ (.cons (t := 0) rfl (.cons (t := 4) rfl .nil)) ?_
  refine swl_nil ?_
  refine then_n ?_
  refine swp_cond (b := _) rfl (fun h4 => by cases h4) (fun h4 => ?_)
  refine swp_skip ?_
  refine then_n ?_
  refine swp_seq ?_
  refine swp_region ?_
  refine s_ef (ef_bldS (qs := []) rfl rfl rfl) ?_
  intro b5
  refine s_pu (pu_move rfl) ?_
  refine swl_ent (own_close (n := 1) (l := 0) (cap := 0) (xs := []) (ex := []) rfl rfl (Nat.le_refl _) (by simp [maxLen])) ?_
  refine s_ef (ef_append_of (news := wcells es) rfl rfl (by repeat (first | exact Split.nil | (apply Split.cons; (repeat (first | with_reducible exact Take.here | apply Take.there))))) (by rw [wcells_len, Nat.mul_one]) (fun j u hj => by rw [Nat.zero_add, List.getElem?_append_left (List.getElem?_eq_some_iff.1 hj).1]; exact hj) (wcells_one es) (by simp only [maxLen]; omega) (by omega)) ?_
  rintro v' -
  rw [Nat.zero_add, List.nil_append]
  refine swl_fact (fun m h => own_form h) fun hform => ?_
  refine s_pu (pu_assign rfl) ?_
  refine swl_sub _ (.cons (t := 2) rfl .nil) ?_
  refine swl_nil ?_
  refine then_n ?_
  refine swp_ret ?_
  exact done_ret [own 105 1 v' es.length (wcells es), blk g 105 (wcells es ++ ex)] (.tmp rfl .nil) ⟨hform, rfl⟩ (by repeat (first | exact Split.nil | (apply Split.cons; (repeat (first | with_reducible exact Take.here | apply Take.there)))))
theorem uclone_own (v : Value) (es : List (BitVec 64)) (hb : es.length ≤ 1099511627776) :
    Spec Tryd.prog 84 [v] [own 105 1 v es.length (wcells es)] (fun v' L => (∃ A c, v' = .slice A es.length c) ∧ L = [own 105 1 v' es.length (wcells es), own 105 1 v es.length (wcells es)]) := by
  refine Spec.own_cases (fun hv l0 x0 => ?_) (fun g cap ex hv o1 o2 o3 o4 => ?_)
  · subst hv
    refine Spec.ent3 uclone_nil ?_
    rintro v L ⟨rfl, rfl⟩
    have he : es = [] := List.eq_nil_of_length_eq_zero l0
    subst he
    exact ⟨_, own_nil_ent.trans (Ent.cons own_nil_ent), ⟨_, _, rfl⟩, rfl⟩
  · subst hv
    refine Spec.ent3 (uclone_blk g cap es ex hb) ?_
    rintro v L ⟨hf, rfl⟩
    exact ⟨_, Ent.cons (own_close o3 o4 o1 o2), hf, rfl⟩
theorem copy_m (p n : Nat) (S : Nat → Bool) : Spec Tryd.prog 64 [.pointer (some ⟨p, 0, none⟩)] [mset p n S] (fun r L => ∃ q, r = .pointer (some ⟨q, 0, none⟩) ∧ L = [mset q n S, mset p n S]) := by
  refine mset_elim fun v ws hw => ?_
  have hws : ws.length ≤ 1048576 := by have := hw.1; have := hw.2.1; omega
  refine Spec.of 16 Tryd.func64 rfl rfl rfl ?_
  refine swp_front (A := own 105 1 v ws.length (wcells ws)) (by repeat (first | with_reducible exact Take.here | apply Take.there)) ?_
  refine swp_fact (fun m h => own_form h) fun ⟨A, cap, hv⟩ => ?_
  subst hv
  refine swp_seq ?_
  refine swp_region ?_
  refine s_pu (pu_assign rfl) ?_
  refine swl_sub _ (.cons (t := 0) rfl .nil) ?_
  refine swl_nil ?_
  refine then_n ?_
  refine swp_seq ?_
  refine swp_seq ?_
  refine swp_region ?_
  refine s_pu (pu_move rfl) ?_
  refine s_pu (pu_ptr_eq_nil rfl rfl) ?_
  refine swl_sub _ (.cons (t := 0) rfl (.cons (t := 4) rfl .nil)) ?_
  refine swl_nil ?_
  refine then_n ?_
  refine swp_cond (b := _) rfl (fun h4 => by cases h4) (fun h4 => ?_)
  refine swp_skip ?_
  refine then_n ?_
  refine swp_seq ?_
  refine swp_draw [3, 7] _ [] (by simp only [List.append_nil]; exact Ent.refl _) (by kernel_rfl) ?_
  refine d_pu 0 rfl (pu_move rfl) (by kernel_rfl) (by kernel_rfl) (by kernel_rfl) ?_
  first | refine d_pu 1 rfl (pu_nilCheck rfl) (by kernel_rfl) (by kernel_rfl) (by kernel_rfl) ?_ | refine d_pu 1 rfl (pu_nilCheck_fn rfl) (by kernel_rfl) (by kernel_rfl) (by kernel_rfl) ?_ | refine d_pu 1 rfl (pu_nilCheck_if rfl) (by kernel_rfl) (by kernel_rfl) (by kernel_rfl) ?_
  first | refine d_pu 2 rfl (pu_fieldAddr0 rfl) (by kernel_rfl) (by kernel_rfl) (by kernel_rfl) ?_ | refine d_pu 2 rfl (pu_fieldAddr rfl) (by kernel_rfl) (by kernel_rfl) (by kernel_rfl) ?_
  refine d_rd 3 rfl (rd_load rfl rfl) rfl (by kernel_rfl) (by kernel_rfl) (by kernel_rfl) ?_
  refine d_pu 4 rfl (pu_move rfl) (by kernel_rfl) (by kernel_rfl) (by kernel_rfl) ?_
  first | refine d_pu 5 rfl (pu_nilCheck rfl) (by kernel_rfl) (by kernel_rfl) (by kernel_rfl) ?_ | refine d_pu 5 rfl (pu_nilCheck_fn rfl) (by kernel_rfl) (by kernel_rfl) (by kernel_rfl) ?_ | refine d_pu 5 rfl (pu_nilCheck_if rfl) (by kernel_rfl) (by kernel_rfl) (by kernel_rfl) ?_
  first | refine d_pu 6 rfl (pu_fieldAddr0 rfl) (by kernel_rfl) (by kernel_rfl) (by kernel_rfl) ?_ | refine d_pu 6 rfl (pu_fieldAddr rfl) (by kernel_rfl) (by kernel_rfl) (by kernel_rfl) ?_
  refine d_rd 7 rfl (rd_load rfl rfl) rfl (by kernel_rfl) (by kernel_rfl) (by kernel_rfl) ?_
  refine d_eft 8 rfl (by kernel_rfl) (ef_fn (uclone_own _ ws (by omega)) rfl rfl (by repeat (first | exact Split.nil | (apply Split.cons; (repeat (first | with_reducible exact Take.here | apply Take.there)))))) ?_
  rintro v1 L1 ⟨⟨A', cap', rfl⟩, rfl⟩
  refine ⟨_, ent_appC (Split.ent (by repeat (first | exact Split.nil | (apply Split.cons; (repeat (first | with_reducible exact Take.here | apply Take.there)))))), ?_⟩
  refine d_pu 9 rfl (pu_bld (qs := [(0, _), (1, _)]) rfl) (by kernel_rfl) (by kernel_rfl) (by kernel_rfl) ?_
  first | refine d_fint 10 rfl (by kernel_rfl) (by kernel_rfl) (ef_box rfl rfl) ?_ | refine d_finf 10 rfl (by kernel_rfl) (by kernel_rfl) (ef_box rfl rfl) ?_
  intro b15
  refine d_pu 11 rfl (pu_assign rfl) (by kernel_rfl) (by kernel_rfl) (by kernel_rfl) ?_
  refine d_sub _ (.cons (t := 2) rfl .nil) ?_
  first | refine d_nilt (by kernel_rfl) ?_ | refine d_nilf (by kernel_rfl) ?_
  refine then_n ?_
  refine swp_ret ?_
  refine done_retE [mset b15 n S, mset p n S] (.tmp rfl .nil) ⟨_, rfl, rfl⟩ ?_
  exact (Split.ent' (K := [blk b15 113 [.int .i64 (n : Nat), .slice A' ws.length cap'], own 105 1 (.slice A' ws.length cap') ws.length (wcells ws), blk p 113 [.int .i64 (n : Nat), .slice A ws.length cap], own 105 1 (.slice A ws.length cap) ws.length (wcells ws)]) (by repeat (first | exact Split.nil | (apply Split.cons; (repeat (first | with_reducible exact Take.here | apply Take.there)))))).trans ((mset_close hw).trans (Ent.cons (mset_close hw)))
theorem each_self (p n : Nat) (S : Nat → Bool) (fid : Nat) [Body Tryd.prog fid] (g : BitVec 64 → BitVec 64 → BitVec 64) (gb : Bool → Bool → Bool) (hf : ∀ x y, Spec Tryd.prog fid [wv x, wv y] [] (fun r L => r = wv (g x y) ∧ L = []))
    (hg : ∀ x y i, i < 64 → (g x y).getLsbD i = gb (x.getLsbD i) (y.getLsbD i)) :
    Spec Tryd.prog 81 [.pointer (some ⟨p, 0, none⟩), .pointer (some ⟨p, 0, none⟩), .func (.func fid) #[] #[]] [mset p n S] (fun r L => r = .tuple #[] ∧ L = [mset p n (fun k => decide (k < n) && gb (S k) (S k))]) := by
  refine mset_elim fun v ws hw => ?_
  have hS : mem ws = S := funext hw.2.2.1
  refine Spec.pre ?_ (Ent.swap (L := []))
  refine Spec.own_cases (fun hv l0 _ => ?_) (fun b cap ex hv h1 h2 h3 h4 => ?_)
  · subst hv
    have hn0 : n = 0 := by have := hw.1; omega
    subst hn0
    refine Spec.ent3 (each_0 p _ fid) ?_
    rintro r L ⟨rfl, rfl⟩
    refine ⟨_, Ent.trans ?_ (mset_close (v := .slice none 0 0) (ws := []) ⟨rfl, by decide, fun k => by simp [mem], fun _ _ => by simp⟩), rfl, rfl⟩
    exact Ent.cons own_nil_ent
  · subst hv
    refine Spec.pre (pre := [blk b 105 (wcells ws ++ ex), blk p 113 [.int .i64 (n : Nat), .slice (some ⟨b, 0, none⟩) ws.length cap], star []]) ?_ (Ent.cons (Ent.cons (fun m h => ⟨fun _ => none, m, trivial, trivial, fun _ => .inl rfl, fun _ _ h => by (cases h), fun _ _ h => h⟩)))
    refine Spec.ent3 (each_b p n b cap ws ex _ fid g (fun i => ws.getD i 0#64) (star []) hw.1 hw.2.1 hf (fun cur i hcl hi hci => ?_)) ?_
    · have hwi : cur[i]? = some (ws.getD i 0#64) := by rw [hci, List.getD_eq_getElem?_getD, List.getElem?_eq_getElem hi]; rfl
      have h := word_b p n b cap cur ex i _ hwi
      rw [hcl] at h
      intro E w hh
      refine (h.frame (R := [star []]) hh).mono ?_
      rintro e w' ⟨r, L, he, ⟨hr, rfl⟩, h'⟩
      exact ⟨r, _, he, ⟨hr, rfl⟩, h'⟩
    · rintro r L ⟨rfl, ws', h5, h6, rfl⟩
      have hc := wown_close (b := b) (cap := cap) (ws := ws') (ex := ex) (L := [blk p 113 [.int .i64 (n : Nat), .slice (some ⟨b, 0, none⟩) ws.length cap], star []]) (by omega) h2 (by rw [h5]; exact h4)
      have hwf : Wf n ws' (fun k => decide (k < n) && gb (S k) (S k)) := by
        refine ⟨by rw [h5]; exact hw.1, hw.2.1, fun k => ?_, fun k hk => by show (decide (k < n) && _) = false; rw [decide_eq_false (by omega)]; rfl⟩
        rw [h6, hg _ _ _ (Nat.mod_lt _ (by decide)), ← hS]
        rfl
      have hm := mset_close (p := p) (v := .slice (some ⟨b, 0, none⟩) ws.length cap) (L := [star []]) hwf
      rw [h5] at hc hm
      exact ⟨_, (hc.trans (Ent.swap.trans hm)).trans Ent.one, rfl, rfl⟩

theorem or_self (p n : Nat) (S : Nat → Bool) : Spec Tryd.prog 73 [.pointer (some ⟨p, 0, none⟩), .pointer (some ⟨p, 0, none⟩)] [mset p n S] (fun r L => r = .tuple #[] ∧ L = [mset p n (fun k => decide (k < n) && (S k || S k))]) := by
  refine Spec.of 7 Tryd.func73 rfl rfl rfl ?_
  refine swp_region ?_
  refine s_pu (pu_move rfl) ?_
  refine s_pu (pu_move rfl) ?_
  refine s_ef (ef_fn (each_self p n S 88 (fun x y => x ||| y) (fun a b => (a || b)) or1 (fun x y i hi => by simp [BitVec.getLsbD_or])) rfl rfl (by repeat (first | exact Split.nil | (apply Split.cons; (repeat (first | with_reducible exact Take.here | apply Take.there)))))) ?_
  rintro v1 L1 ⟨rfl, rfl⟩
  refine swl_app ?_
  refine swl_sub _ .nil ?_
  refine swl_nil ?_
  exact done_end _ .nil ⟨rfl, rfl⟩ (by repeat (first | exact Split.nil | (apply Split.cons; (repeat (first | with_reducible exact Take.here | apply Take.there)))))

end SX
namespace SX.Wq
open Go Go.Proofs SX
abbrev WI : Type := Int
abbrev wiV (x : WI) : Value := .int .i64 x
def wiZ : WI := 0
/-- the greatest first -/
def ltW (a b : WI) : Bool := decide (b < a)
theorem ltW_ord : Hp.Ord ltW := ⟨fun a b h => by
  have h' : @LT.lt Int _ b a := of_decide_eq_true h
  exact decide_eq_false (show ¬ @LT.lt Int _ a b by omega), fun a b c h1 h2 => by
  have h1' : ¬ @LT.lt Int _ a b := of_decide_eq_false h1
  have h2' : ¬ @LT.lt Int _ b c := of_decide_eq_false h2
  exact decide_eq_false (show ¬ @LT.lt Int _ a c by omega)⟩
theorem before_w (a b : WI) : Spec Tryd.prog 117 [wiV a, wiV b] [] (fun v L => v = .bool (ltW a b) ∧ L = []) := by
  refine Spec.of 8 Tryd.func117 rfl rfl rfl ?_
  refine swp_seq ?_
  refine swp_region ?_
  refine s_pu (pu_assign rfl) ?_
  refine swl_sub _ (.cons (t := 0) rfl (.cons (t := 1) rfl .nil)) ?_
  refine swl_nil ?_
  refine then_n ?_
  refine swp_seq ?_
  refine swp_region ?_
  refine s_pu (pu_move rfl) ?_
  refine s_pu (pu_move rfl) ?_
  refine s_pu (pu_gtr rfl rfl) ?_
  refine s_pu (pu_assign rfl) ?_
  refine swl_sub _ (.cons (t := 4) rfl .nil) ?_
  refine swl_nil ?_
  refine then_n ?_
  refine swp_ret ?_
  exact done_ret [] (.tmp rfl .nil) ⟨rfl, rfl⟩ (by repeat (first | exact Split.nil | (apply Split.cons; (repeat (first | with_reducible exact Take.here | apply Take.there)))))
end SX.Wq
namespace SX.Wq
open Go Go.Proofs SX

abbrev aW := Hp.ahd ltW
def wcs (e : WI × Nat) : List Value := [wiV e.1, .int .u64 (e.2 : Nat)]
theorem wcs_len (e : WI × Nat) : (wcs e).length = 2 := rfl
def wents (es : List (WI × Nat)) : List Value := es.flatMap wcs
theorem wents_len (es : List (WI × Nat)) : (wents es).length = es.length * 2 := by unfold wents; rw [flat_length wcs_len]
theorem wents_snoc (es : List (WI × Nat)) (x : WI) (n : Nat) : wents es ++ [wiV x, .int .u64 (n : Nat)] = wents (es ++ [(x, n)]) := by simp [wents, wcs]

theorem ahead_w (a b : WI) (n1 n2 : Nat) : Spec Tryd.prog 92 [.agg #[wiV a, .int .u64 (n1 : Nat)], .agg #[wiV b, .int .u64 (n2 : Nat)]] []
    (fun v L => v = .bool (aW (a, n1) (b, n2)) ∧ L = []) := by
  refine Spec.of 25 Tryd.func92 rfl rfl rfl ?_
  refine swp_seq ?_
  refine swp_region ?_
  refine s_ef (ef_box rfl rfl) ?_
  intro b2
  refine s_ef (ef_box rfl rfl) ?_
  intro b3
  refine s_pu (pu_assign rfl) ?_
  refine swl_sub _ (.cons (t := 2) rfl (.cons (t := 3) rfl .nil)) ?_
  refine swl_nil ?_
  refine then_n ?_
  refine swp_seq ?_
  refine swp_seq ?_
  refine swp_region ?_
  first | refine s_pu (pu_fieldAddr0 rfl) ?_ | refine s_pu (pu_fieldAddr rfl) ?_
  refine s_rd (rd_load rfl rfl) ?_
  refine s_pu (pu_iface rfl) ?_
  first | refine s_pu (pu_fieldAddr0 rfl) ?_ | refine s_pu (pu_fieldAddr rfl) ?_
  refine s_rd (rd_load rfl rfl) ?_
  refine s_ef (ef_inv rfl (before_w _ _) rfl (by repeat (first | exact Split.nil | (apply Split.cons; (repeat (first | with_reducible exact Take.here | apply Take.there)))))) ?_
  rintro v L1 ⟨rfl, rfl⟩
  refine swl_app ?_
  refine swl_sub _ (.cons (t := 2) rfl (.cons (t := 3) rfl (.cons (t := 10) rfl .nil))) ?_
  refine swl_nil ?_
  refine then_n ?_
  refine swp_cond (b := _) rfl (fun h10 => ?_) (fun h10 => ?_)
  · skip   -- 10 T
    refine swp_seq ?_
    refine swp_region ?_
    refine s_pu (pu_assign rfl) ?_
    refine swl_sub _ (.cons (t := 4) rfl .nil) ?_
    refine swl_nil ?_
    refine then_n ?_
    refine swp_ret ?_
    refine then_r ?_
    exact done_ret [] (.tmp rfl .nil) ⟨by simp [resV, h10, Hp.ahd], rfl⟩ (by repeat (first | exact Split.nil | (apply Split.cons; (repeat (first | with_reducible exact Take.here | apply Take.there)))))
  · skip   -- 10 F
    refine swp_skip ?_
    refine then_n ?_
    refine swp_seq ?_
    refine swp_region ?_
    first | refine s_pu (pu_fieldAddr0 rfl) ?_ | refine s_pu (pu_fieldAddr rfl) ?_
    refine s_rd (rd_load rfl rfl) ?_
    refine s_pu (pu_iface rfl) ?_
    first | refine s_pu (pu_fieldAddr0 rfl) ?_ | refine s_pu (pu_fieldAddr rfl) ?_
    refine s_rd (rd_load rfl rfl) ?_
    refine s_ef (ef_inv rfl (before_w _ _) rfl (by repeat (first | exact Split.nil | (apply Split.cons; (repeat (first | with_reducible exact Take.here | apply Take.there)))))) ?_
    rintro v L1 ⟨rfl, rfl⟩
    refine swl_app ?_
    refine s_pu (pu_not rfl) ?_
    refine s_pu (pu_move rfl) ?_
    refine s_split 18 rfl (fun h18 => ?_) (fun h18 => ?_)
    · skip   -- 18 T
      refine s_on rfl rfl ?_
      first | refine s_pu (pu_fieldAddr0 rfl) ?_ | refine s_pu (pu_fieldAddr rfl) ?_
      refine s_on rfl rfl ?_
      refine s_rd (rd_load rfl rfl) ?_
      refine s_on rfl rfl ?_
      first | refine s_pu (pu_fieldAddr0 rfl) ?_ | refine s_pu (pu_fieldAddr rfl) ?_
      refine s_on rfl rfl ?_
      refine s_rd (rd_load rfl rfl) ?_
      refine s_on rfl rfl ?_
      refine s_pu (pu_lss rfl rfl) ?_
      first | refine s_pu (pu_pick_t rfl rfl) ?_ | refine s_pu (pu_pick_f rfl rfl) ?_
      refine s_pu (pu_assign rfl) ?_
      refine swl_sub _ (.cons (t := 4) rfl .nil) ?_
      refine swl_nil ?_
      refine then_n ?_
      refine swp_ret ?_
      exact done_ret [] (.tmp rfl .nil) ⟨by simp [resV, h10, h18, Hp.ahd], rfl⟩ (by repeat (first | exact Split.nil | (apply Split.cons; (repeat (first | with_reducible exact Take.here | apply Take.there)))))
    · skip   -- 18 F
      refine s_off rfl rfl rfl ?_
      refine s_off rfl rfl rfl ?_
      refine s_off rfl rfl rfl ?_
      refine s_off rfl rfl rfl ?_
      refine s_off rfl rfl rfl ?_
      first | refine s_pu (pu_pick_t rfl rfl) ?_ | refine s_pu (pu_pick_f rfl rfl) ?_
      refine s_pu (pu_assign rfl) ?_
      refine swl_sub _ (.cons (t := 4) rfl .nil) ?_
      refine swl_nil ?_
      refine then_n ?_
      refine swp_ret ?_
      exact done_ret [] (.tmp rfl .nil) ⟨by simp [resV, h10, h18, Hp.ahd], rfl⟩ (by repeat (first | exact Split.nil | (apply Split.cons; (repeat (first | with_reducible exact Take.here | apply Take.there)))))

/-- a queue's struct and its array -/
def wraw (q : Nat) (es : List (WI × Nat)) (nxt : Nat) : Assn := exA (fun v : Value => [blk q 107 [v, .int .u64 (nxt : Nat)], own 109 2 v es.length (wents es)])
theorem wraw_close {q g cap nxt : Nat} {es : List (WI × Nat)} {ex : List Value} {L : List Assn} (h1 : es.length ≤ cap) (h2 : cap ≤ maxLen) (h4 : ex.length = (cap - es.length) * 2) :
    Ent (blk g 109 (wents es ++ ex) :: blk q 107 [.slice (some ⟨g, 0, none⟩) es.length cap, .int .u64 (nxt : Nat)] :: L) (wraw q es nxt :: L) :=
  (own_close (wents_len es) h4 h1 h2).trans (ent_ex (F := fun v => [blk q 107 [v, .int .u64 (nxt : Nat)], own 109 2 v es.length (wents es)]) (.slice (some ⟨g, 0, none⟩) es.length cap) (by repeat (first | exact Split.nil | (apply Split.cons; (repeat (first | with_reducible exact Take.here | apply Take.there))))))
theorem wraw_nil {q nxt : Nat} {L : List Assn} : Ent (blk q 107 [.slice none 0 0, .int .u64 (nxt : Nat)] :: L) (wraw q [] nxt :: L) :=
  Ent.imp fun m hm => ⟨.slice none 0 0, m, fun _ => none, hm, ⟨fun _ => none, fun _ => none, own_nil _ _ _, trivial, by simp, by simp, by simp⟩, by simp, fun _ _ h => h, by simp⟩

set_option maxHeartbeats 1000000 in
theorem push_w (q : Nat) (es : List (WI × Nat)) (nxt : Nat) (x : WI) (hb1 : es.length ≤ 1099511627776) (hb2 : nxt ≤ 18446744073709551614) :
    Spec Tryd.prog 79 [.pointer (some ⟨q, 0, none⟩), wiV x] [wraw q es nxt] (fun v L => v = .tuple #[] ∧ L = [wraw q (Hp.up aW es.length (es ++ [(x, nxt)]) es.length) (nxt + 1)]) := by
  refine Spec.of 84 Tryd.func79 rfl rfl rfl ?_
  refine swp_ex fun v => ?_
  refine swp_app ?_
  refine swp_seq ?_
  refine swp_seq ?_
  refine swp_region ?_
  refine s_pu (pu_move rfl) ?_
  refine s_pu (pu_ptr_eq_nil rfl rfl) ?_
  refine swl_sub _ (.cons (t := 0) rfl (.cons (t := 1) rfl (.cons (t := 7) rfl .nil))) ?_
  refine swl_nil ?_
  refine then_n ?_
  refine swp_cond (b := _) rfl (fun h7 => by cases h7) (fun h7 => ?_)
  refine swp_skip ?_
  refine then_n ?_
  refine swp_seq ?_
  refine swp_draw [4, 9] _ [] (by simp only [List.append_nil]; exact Ent.refl _) (by kernel_rfl) ?_
  refine d_pu 0 rfl (pu_move rfl) (by kernel_rfl) (by kernel_rfl) (by kernel_rfl) ?_
  refine d_pu 1 rfl (pu_move rfl) (by kernel_rfl) (by kernel_rfl) (by kernel_rfl) ?_
  first | refine d_pu 2 rfl (pu_nilCheck rfl) (by kernel_rfl) (by kernel_rfl) (by kernel_rfl) ?_ | refine d_pu 2 rfl (pu_nilCheck_fn rfl) (by kernel_rfl) (by kernel_rfl) (by kernel_rfl) ?_ | refine d_pu 2 rfl (pu_nilCheck_if rfl) (by kernel_rfl) (by kernel_rfl) (by kernel_rfl) ?_
  first | refine d_pu 3 rfl (pu_fieldAddr0 rfl) (by kernel_rfl) (by kernel_rfl) (by kernel_rfl) ?_ | refine d_pu 3 rfl (pu_fieldAddr rfl) (by kernel_rfl) (by kernel_rfl) (by kernel_rfl) ?_
  refine d_rd 4 rfl (rd_load rfl rfl) rfl (by kernel_rfl) (by kernel_rfl) (by kernel_rfl) ?_
  refine d_pu 5 rfl (pu_move rfl) (by kernel_rfl) (by kernel_rfl) (by kernel_rfl) ?_
  refine d_pu 6 rfl (pu_move rfl) (by kernel_rfl) (by kernel_rfl) (by kernel_rfl) ?_
  first | refine d_pu 7 rfl (pu_nilCheck rfl) (by kernel_rfl) (by kernel_rfl) (by kernel_rfl) ?_ | refine d_pu 7 rfl (pu_nilCheck_fn rfl) (by kernel_rfl) (by kernel_rfl) (by kernel_rfl) ?_ | refine d_pu 7 rfl (pu_nilCheck_if rfl) (by kernel_rfl) (by kernel_rfl) (by kernel_rfl) ?_
  first | refine d_pu 8 rfl (pu_fieldAddr0 rfl) (by kernel_rfl) (by kernel_rfl) (by kernel_rfl) ?_ | refine d_pu 8 rfl (pu_fieldAddr rfl) (by kernel_rfl) (by kernel_rfl) (by kernel_rfl) ?_
  refine d_rd 9 rfl (rd_load rfl rfl) rfl (by kernel_rfl) (by kernel_rfl) (by kernel_rfl) ?_
  refine d_pu 10 rfl (pu_bld (qs := [(0, _), (1, _)]) rfl) (by kernel_rfl) (by kernel_rfl) (by kernel_rfl) ?_
  refine d_eft 11 rfl (by kernel_rfl) (ef_bldS (qs := [(0, _)]) rfl rfl rfl) ?_
  intro b19
  refine ⟨_, Split.ent (by repeat (first | exact Split.nil | (apply Split.cons; (repeat (first | with_reducible exact Take.here | apply Take.there))))), ?_⟩
  first | refine d_fint 12 rfl (by kernel_rfl) (by kernel_rfl) (ef_append_lit (l := es.length) (m := 1) rfl rfl (by repeat (first | exact Split.nil | (apply Split.cons; (repeat (first | with_reducible exact Take.here | apply Take.there))))) (by simp only [maxLen]; omega) (by omega)) ?_ | refine d_finf 12 rfl (by kernel_rfl) (by kernel_rfl) (ef_append_lit (l := es.length) (m := 1) rfl rfl (by repeat (first | exact Split.nil | (apply Split.cons; (repeat (first | with_reducible exact Take.here | apply Take.there))))) (by simp only [maxLen]; omega) (by omega)) ?_
  rintro v' hv'
  obtain ⟨g, cap, rfl⟩ := hv' (by decide)
  rw [wents_snoc]
  first | refine d_pu 13 rfl (pu_nilCheck rfl) (by kernel_rfl) (by kernel_rfl) (by kernel_rfl) ?_ | refine d_pu 13 rfl (pu_nilCheck_fn rfl) (by kernel_rfl) (by kernel_rfl) (by kernel_rfl) ?_ | refine d_pu 13 rfl (pu_nilCheck_if rfl) (by kernel_rfl) (by kernel_rfl) (by kernel_rfl) ?_
  first | refine d_pu 14 rfl (pu_fieldAddr0 rfl) (by kernel_rfl) (by kernel_rfl) (by kernel_rfl) ?_ | refine d_pu 14 rfl (pu_fieldAddr rfl) (by kernel_rfl) (by kernel_rfl) (by kernel_rfl) ?_
  first | refine d_fin0t 15 rfl (by kernel_rfl) (by kernel_rfl) (ef_store rfl rfl rfl) ?_ | refine d_fin0f 15 rfl (by kernel_rfl) (by kernel_rfl) (ef_store rfl rfl rfl) ?_
  refine d_sub _ (.cons (t := 0) rfl .nil) ?_
  first | refine d_nilt (by kernel_rfl) ?_ | refine d_nilf (by kernel_rfl) ?_
  refine then_n ?_
  refine swp_seq ?_
  refine swp_region ?_
  refine s_pu (pu_move rfl) ?_
  first | refine s_pu (pu_nilCheck rfl) ?_ | refine s_pu (pu_nilCheck_fn rfl) ?_ | refine s_pu (pu_nilCheck_if rfl) ?_
  first | refine s_pu (pu_fieldAddr0 rfl) ?_ | refine s_pu (pu_fieldAddr rfl) ?_
  refine s_rd (rd_load rfl rfl) ?_
  refine s_pu (pu_add_u64 ((nxt + 1 : Nat) : Int) rfl rfl (by omega) (by omega) (by omega)) ?_
  first | refine s_pu (pu_nilCheck rfl) ?_ | refine s_pu (pu_nilCheck_fn rfl) ?_ | refine s_pu (pu_nilCheck_if rfl) ?_
  first | refine s_pu (pu_fieldAddr0 rfl) ?_ | refine s_pu (pu_fieldAddr rfl) ?_
  refine s_ef0 (ef_store rfl rfl rfl) ?_
  refine swl_sub _ (.cons (t := 0) rfl .nil) ?_
  refine swl_nil ?_
  refine then_n ?_
  refine swp_seq ?_
  refine swp_region ?_
  refine s_pu (pu_move rfl) ?_
  first | refine s_pu (pu_nilCheck rfl) ?_ | refine s_pu (pu_nilCheck_fn rfl) ?_ | refine s_pu (pu_nilCheck_if rfl) ?_
  first | refine s_pu (pu_fieldAddr0 rfl) ?_ | refine s_pu (pu_fieldAddr rfl) ?_
  refine s_rd (rd_load rfl rfl) ?_
  refine s_pu (pu_len rfl) ?_
  refine s_pu (pu_sub_as (es.length : Int) rfl rfl (by omega) (by omega) (by omega)) ?_
  refine s_pu (pu_assign rfl) ?_
  refine swl_sub _ (.cons (t := 0) rfl (.cons (t := 4) rfl .nil)) ?_
  refine swl_own (by repeat (first | with_reducible exact Take.here | apply Take.there)) (fun h _ _ => by cases h) (fun hb cap' ex hv h1 h2 h3 h4 => ?_)
  cases hv
  have hlen : (es ++ [(x, nxt)]).length = es.length + 1 := by simp
  refine swl_nil ?_
  refine then_n ?_
  refine swp_block ?_
  refine swp_loop (ι := Nat × List (WI × Nat)) (fun k env L => env = [(0, .pointer (some ⟨q, 0, none⟩)), (4, .int .i64 (k.1 : Nat))] ∧
    L = [blk g 109 (wents k.2 ++ ex), blk q 107 [.slice (some ⟨g, 0, none⟩) (es.length + 1) cap, .int .u64 ((nxt + 1 : Nat) : Int)]] ∧
    k.2.length = es.length + 1 ∧ k.1 ≤ es.length ∧ Hp.up aW k.1 k.2 k.1 = Hp.up aW es.length (es ++ [(x, nxt)]) es.length) (fun k => k.1) (es.length, es ++ [(x, nxt)]) ⟨rfl, rfl, hlen, Nat.le_refl _, rfl⟩ ?_
  rintro ⟨i, fs⟩ env L ⟨rfl, rfl, hl, hi, hup⟩
  simp only [] at hl hi hup
  dsimp only
  refine swp_seq ?_
  refine swp_seq ?_
  refine swp_region ?_
  refine s_pu (pu_move rfl) ?_
  refine s_pu (pu_gtr rfl rfl) ?_
  refine swl_sub _ (.cons (t := 0) rfl (.cons (t := 4) rfl (.cons (t := 37) rfl .nil))) ?_
  refine swl_nil ?_
  refine then_n ?_
  refine swp_cond (b := _) rfl (fun h37 => ?_) (fun h37 => ?_)
  · skip   -- 37 T
    have h37' : 0 < i := by simpa using h37
    obtain ⟨ei, hei⟩ : ∃ e, fs[i]? = some e := ⟨_, List.getElem?_eq_getElem (by omega)⟩
    obtain ⟨ep, hep⟩ : ∃ e, fs[(i - 1) / 2]? = some e := ⟨_, List.getElem?_eq_getElem (by omega)⟩
    refine swp_skip ?_
    refine then_n ?_
    refine swp_block ?_
    refine swp_seq ?_
    refine swp_region ?_
    refine s_pu (pu_move rfl) ?_
    first | refine s_pu (pu_sub_in rfl rfl (by omega) (by omega)) ?_ | refine s_pu (pu_sub rfl rfl) ?_
    refine s_pu (pu_quo_as (((i - 1) / 2 : Nat) : Int) rfl rfl (by omega) (by omega) (by omega) (by omega)) ?_
    refine s_pu (pu_assign rfl) ?_
    refine swl_sub _ (.cons (t := 0) rfl (.cons (t := 4) rfl (.cons (t := 5) rfl .nil))) ?_
    refine swl_nil ?_
    refine then_n ?_
    refine swp_seq ?_
    refine swp_seq ?_
    refine swp_draw [3, 6, 10, 13] _ [] (by simp only [List.append_nil]; exact Ent.refl _) (by kernel_rfl) ?_
    refine d_pu 0 rfl (pu_move rfl) (by kernel_rfl) (by kernel_rfl) (by kernel_rfl) ?_
    first | refine d_pu 1 rfl (pu_nilCheck rfl) (by kernel_rfl) (by kernel_rfl) (by kernel_rfl) ?_ | refine d_pu 1 rfl (pu_nilCheck_fn rfl) (by kernel_rfl) (by kernel_rfl) (by kernel_rfl) ?_ | refine d_pu 1 rfl (pu_nilCheck_if rfl) (by kernel_rfl) (by kernel_rfl) (by kernel_rfl) ?_
    first | refine d_pu 2 rfl (pu_fieldAddr0 rfl) (by kernel_rfl) (by kernel_rfl) (by kernel_rfl) ?_ | refine d_pu 2 rfl (pu_fieldAddr rfl) (by kernel_rfl) (by kernel_rfl) (by kernel_rfl) ?_
    refine d_rd 3 rfl (rd_load rfl rfl) rfl (by kernel_rfl) (by kernel_rfl) (by kernel_rfl) ?_
    refine d_pu 4 rfl (pu_move rfl) (by kernel_rfl) (by kernel_rfl) (by kernel_rfl) ?_
    refine d_pu 5 rfl (pu_indexAddr (i * 2) rfl rfl (by omega) (by omega) (by simp)) (by kernel_rfl) (by kernel_rfl) (by kernel_rfl) ?_
    refine d_rd 6 rfl (rd_loadA (vs := wcs ei) rfl (by rfl) (flat_get wcs_len fs ex i ei hei)) rfl (by kernel_rfl) (by kernel_rfl) (by kernel_rfl) ?_
    refine d_pu 7 rfl (pu_move rfl) (by kernel_rfl) (by kernel_rfl) (by kernel_rfl) ?_
    first | refine d_pu 8 rfl (pu_nilCheck rfl) (by kernel_rfl) (by kernel_rfl) (by kernel_rfl) ?_ | refine d_pu 8 rfl (pu_nilCheck_fn rfl) (by kernel_rfl) (by kernel_rfl) (by kernel_rfl) ?_ | refine d_pu 8 rfl (pu_nilCheck_if rfl) (by kernel_rfl) (by kernel_rfl) (by kernel_rfl) ?_
    first | refine d_pu 9 rfl (pu_fieldAddr0 rfl) (by kernel_rfl) (by kernel_rfl) (by kernel_rfl) ?_ | refine d_pu 9 rfl (pu_fieldAddr rfl) (by kernel_rfl) (by kernel_rfl) (by kernel_rfl) ?_
    refine d_rd 10 rfl (rd_load rfl rfl) rfl (by kernel_rfl) (by kernel_rfl) (by kernel_rfl) ?_
    refine d_pu 11 rfl (pu_move rfl) (by kernel_rfl) (by kernel_rfl) (by kernel_rfl) ?_
    refine d_pu 12 rfl (pu_indexAddr ((i - 1) / 2 * 2) rfl rfl (by omega) (by omega) (by omega)) (by kernel_rfl) (by kernel_rfl) (by kernel_rfl) ?_
    refine d_rd 13 rfl (rd_loadA (vs := wcs ep) rfl (by rfl) (flat_get wcs_len fs ex ((i - 1) / 2) ep hep)) rfl (by kernel_rfl) (by kernel_rfl) (by kernel_rfl) ?_
    first | refine d_fint 14 rfl (by kernel_rfl) (by kernel_rfl) (ef_fn (ahead_w _ _ _ _) rfl rfl (by repeat (first | exact Split.nil | (apply Split.cons; (repeat (first | with_reducible exact Take.here | apply Take.there)))))) ?_ | refine d_finf 14 rfl (by kernel_rfl) (by kernel_rfl) (ef_fn (ahead_w _ _ _ _) rfl rfl (by repeat (first | exact Split.nil | (apply Split.cons; (repeat (first | with_reducible exact Take.here | apply Take.there)))))) ?_
    rintro v L1 ⟨rfl, rfl⟩
    refine swd_app ?_
    refine d_pu 15 rfl (pu_not rfl) (by kernel_rfl) (by kernel_rfl) (by kernel_rfl) ?_
    refine d_sub _ (.cons (t := 0) rfl (.cons (t := 4) rfl (.cons (t := 5) rfl (.cons (t := 56) rfl .nil)))) ?_
    first | refine d_nilt (by kernel_rfl) ?_ | refine d_nilf (by kernel_rfl) ?_
    refine then_n ?_
    refine swp_cond (b := _) rfl (fun h56 => ?_) (fun h56 => ?_)
    · skip   -- 56 T
      have hT : Hp.up aW es.length (es ++ [(x, nxt)]) es.length = fs := by
        rw [← hup]; exact Hp.up_stop hei hep (not_t h56)
      refine swp_ret ?_
      refine then_r ?_
      refine block_r ?_
      refine then_r ?_
      refine block_r ?_
      rw [hT]
      have hl' : fs.length = es.length + 1 := hl
      rw [← hl'] at h1 h4 ⊢
      first | exact done_retE [wraw q fs (nxt + 1)] .nil ⟨rfl, rfl⟩ ((Split.ent' (K := [blk g 109 (wents fs ++ ex), blk q 107 [.slice (some ⟨g, 0, none⟩) fs.length cap, .int .u64 ((nxt + 1 : Nat) : Int)]]) (by repeat (first | exact Split.nil | (apply Split.cons; (repeat (first | with_reducible exact Take.here | apply Take.there)))))).trans (wraw_close h1 h2 h4)) | exact done_endE [wraw q fs (nxt + 1)] .nil ⟨rfl, rfl⟩ ((Split.ent' (K := [blk g 109 (wents fs ++ ex), blk q 107 [.slice (some ⟨g, 0, none⟩) fs.length cap, .int .u64 ((nxt + 1 : Nat) : Int)]]) (by repeat (first | exact Split.nil | (apply Split.cons; (repeat (first | with_reducible exact Take.here | apply Take.there)))))).trans (wraw_close h1 h2 h4))
    · skip   -- 56 F
      have hel : (wents fs).length = (es.length + 1) * 2 := by rw [wents_len, hl]
      refine swp_skip ?_
      refine then_n ?_
      refine swp_seq ?_
      refine swp_draw [3, 8, 13, 16, 20, 23] _ [] (by simp only [List.append_nil]; exact Ent.refl _) (by kernel_rfl) ?_
      refine d_pu 0 rfl (pu_move rfl) (by kernel_rfl) (by kernel_rfl) (by kernel_rfl) ?_
      first | refine d_pu 1 rfl (pu_nilCheck rfl) (by kernel_rfl) (by kernel_rfl) (by kernel_rfl) ?_ | refine d_pu 1 rfl (pu_nilCheck_fn rfl) (by kernel_rfl) (by kernel_rfl) (by kernel_rfl) ?_ | refine d_pu 1 rfl (pu_nilCheck_if rfl) (by kernel_rfl) (by kernel_rfl) (by kernel_rfl) ?_
      first | refine d_pu 2 rfl (pu_fieldAddr0 rfl) (by kernel_rfl) (by kernel_rfl) (by kernel_rfl) ?_ | refine d_pu 2 rfl (pu_fieldAddr rfl) (by kernel_rfl) (by kernel_rfl) (by kernel_rfl) ?_
      refine d_rd 3 rfl (rd_load rfl rfl) rfl (by kernel_rfl) (by kernel_rfl) (by kernel_rfl) ?_
      refine d_pu 4 rfl (pu_move rfl) (by kernel_rfl) (by kernel_rfl) (by kernel_rfl) ?_
      refine d_pu 5 rfl (pu_move rfl) (by kernel_rfl) (by kernel_rfl) (by kernel_rfl) ?_
      first | refine d_pu 6 rfl (pu_nilCheck rfl) (by kernel_rfl) (by kernel_rfl) (by kernel_rfl) ?_ | refine d_pu 6 rfl (pu_nilCheck_fn rfl) (by kernel_rfl) (by kernel_rfl) (by kernel_rfl) ?_ | refine d_pu 6 rfl (pu_nilCheck_if rfl) (by kernel_rfl) (by kernel_rfl) (by kernel_rfl) ?_
      first | refine d_pu 7 rfl (pu_fieldAddr0 rfl) (by kernel_rfl) (by kernel_rfl) (by kernel_rfl) ?_ | refine d_pu 7 rfl (pu_fieldAddr rfl) (by kernel_rfl) (by kernel_rfl) (by kernel_rfl) ?_
      refine d_rd 8 rfl (rd_load rfl rfl) rfl (by kernel_rfl) (by kernel_rfl) (by kernel_rfl) ?_
      refine d_pu 9 rfl (pu_move rfl) (by kernel_rfl) (by kernel_rfl) (by kernel_rfl) ?_
      refine d_pu 10 rfl (pu_move rfl) (by kernel_rfl) (by kernel_rfl) (by kernel_rfl) ?_
      first | refine d_pu 11 rfl (pu_nilCheck rfl) (by kernel_rfl) (by kernel_rfl) (by kernel_rfl) ?_ | refine d_pu 11 rfl (pu_nilCheck_fn rfl) (by kernel_rfl) (by kernel_rfl) (by kernel_rfl) ?_ | refine d_pu 11 rfl (pu_nilCheck_if rfl) (by kernel_rfl) (by kernel_rfl) (by kernel_rfl) ?_
      first | refine d_pu 12 rfl (pu_fieldAddr0 rfl) (by kernel_rfl) (by kernel_rfl) (by kernel_rfl) ?_ | refine d_pu 12 rfl (pu_fieldAddr rfl) (by kernel_rfl) (by kernel_rfl) (by kernel_rfl) ?_
      refine d_rd 13 rfl (rd_load rfl rfl) rfl (by kernel_rfl) (by kernel_rfl) (by kernel_rfl) ?_
      refine d_pu 14 rfl (pu_move rfl) (by kernel_rfl) (by kernel_rfl) (by kernel_rfl) ?_
      refine d_pu 15 rfl (pu_indexAddr ((i - 1) / 2 * 2) rfl rfl (by omega) (by omega) (by omega)) (by kernel_rfl) (by kernel_rfl) (by kernel_rfl) ?_
      refine d_rd 16 rfl (rd_loadA (vs := wcs ep) rfl (by rfl) (flat_get wcs_len fs ex ((i - 1) / 2) ep hep)) rfl (by kernel_rfl) (by kernel_rfl) (by kernel_rfl) ?_
      refine d_pu 17 rfl (pu_move rfl) (by kernel_rfl) (by kernel_rfl) (by kernel_rfl) ?_
      first | refine d_pu 18 rfl (pu_nilCheck rfl) (by kernel_rfl) (by kernel_rfl) (by kernel_rfl) ?_ | refine d_pu 18 rfl (pu_nilCheck_fn rfl) (by kernel_rfl) (by kernel_rfl) (by kernel_rfl) ?_ | refine d_pu 18 rfl (pu_nilCheck_if rfl) (by kernel_rfl) (by kernel_rfl) (by kernel_rfl) ?_
      first | refine d_pu 19 rfl (pu_fieldAddr0 rfl) (by kernel_rfl) (by kernel_rfl) (by kernel_rfl) ?_ | refine d_pu 19 rfl (pu_fieldAddr rfl) (by kernel_rfl) (by kernel_rfl) (by kernel_rfl) ?_
      refine d_rd 20 rfl (rd_load rfl rfl) rfl (by kernel_rfl) (by kernel_rfl) (by kernel_rfl) ?_
      refine d_pu 21 rfl (pu_move rfl) (by kernel_rfl) (by kernel_rfl) (by kernel_rfl) ?_
      refine d_pu 22 rfl (pu_indexAddr (i * 2) rfl rfl (by omega) (by omega) (by omega)) (by kernel_rfl) (by kernel_rfl) (by kernel_rfl) ?_
      refine d_rd 23 rfl (rd_loadA (vs := wcs ei) rfl (by rfl) (flat_get wcs_len fs ex i ei hei)) rfl (by kernel_rfl) (by kernel_rfl) (by kernel_rfl) ?_
      refine d_pu 24 rfl (pu_indexAddr (i * 2) rfl rfl (by omega) (by omega) (by omega)) (by kernel_rfl) (by kernel_rfl) (by kernel_rfl) ?_
      first | refine d_fin0t 25 rfl (by kernel_rfl) (by kernel_rfl) (ef_storeAs (vs := wcs ep) rfl rfl (flat_over wcs_len fs ex i ep (by omega)) (by rw [List.length_append, ← wents, hel, wcs_len]; omega) rfl rfl) ?_ | refine d_fin0f 25 rfl (by kernel_rfl) (by kernel_rfl) (ef_storeAs (vs := wcs ep) rfl rfl (flat_over wcs_len fs ex i ep (by omega)) (by rw [List.length_append, ← wents, hel, wcs_len]; omega) rfl rfl) ?_
      refine d_pu 26 rfl (pu_indexAddr ((i - 1) / 2 * 2) rfl rfl (by omega) (by omega) (by omega)) (by kernel_rfl) (by kernel_rfl) (by kernel_rfl) ?_
      first | refine d_fin0t 27 rfl (by kernel_rfl) (by kernel_rfl) (ef_storeAs (vs := wcs ei) rfl rfl (flat_over wcs_len (fs.set i ep) ex ((i - 1) / 2) ei (by simp; omega)) (by rw [List.length_append, flat_length wcs_len, wcs_len, List.length_set]; omega) rfl rfl) ?_ | refine d_fin0f 27 rfl (by kernel_rfl) (by kernel_rfl) (ef_storeAs (vs := wcs ei) rfl rfl (flat_over wcs_len (fs.set i ep) ex ((i - 1) / 2) ei (by simp; omega)) (by rw [List.length_append, flat_length wcs_len, wcs_len, List.length_set]; omega) rfl rfl) ?_
      refine d_sub _ (.cons (t := 0) rfl (.cons (t := 5) rfl .nil)) ?_
      first | refine d_nilt (by kernel_rfl) ?_ | refine d_nilf (by kernel_rfl) ?_
      refine then_n ?_
      refine swp_region ?_
      refine s_pu (pu_move rfl) ?_
      refine s_pu (pu_assign rfl) ?_
      refine swl_sub _ (.cons (t := 0) rfl (.cons (t := 4) rfl .nil)) ?_
      refine swl_nil ?_
      refine block_n ?_
      refine then_n ⟨((i - 1) / 2, (fs.set i ep).set ((i - 1) / 2) ei), ⟨rfl, rfl, by simp [hl], by show (i - 1) / 2 ≤ es.length; omega, ?_⟩, by show (i - 1) / 2 < i; omega⟩
      rw [← hup, Hp.up_step h37' hei hep (not_f h56)]
  · skip   -- 37 F
    obtain rfl : i = 0 := by simp at h37; omega
    have hT : Hp.up aW es.length (es ++ [(x, nxt)]) es.length = fs := by rw [← hup]; rfl
    refine swp_exit ?_
    refine then_x ?_
    refine then_x ?_
    refine block_hit rfl ?_
    rw [hT]
    have hl' : fs.length = es.length + 1 := hl
    rw [← hl'] at h1 h4 ⊢
    first | exact done_retE [wraw q fs (nxt + 1)] .nil ⟨rfl, rfl⟩ ((Split.ent' (K := [blk g 109 (wents fs ++ ex), blk q 107 [.slice (some ⟨g, 0, none⟩) fs.length cap, .int .u64 ((nxt + 1 : Nat) : Int)]]) (by repeat (first | exact Split.nil | (apply Split.cons; (repeat (first | with_reducible exact Take.here | apply Take.there)))))).trans (wraw_close h1 h2 h4)) | exact done_endE [wraw q fs (nxt + 1)] .nil ⟨rfl, rfl⟩ ((Split.ent' (K := [blk g 109 (wents fs ++ ex), blk q 107 [.slice (some ⟨g, 0, none⟩) fs.length cap, .int .u64 ((nxt + 1 : Nat) : Int)]]) (by repeat (first | exact Split.nil | (apply Split.cons; (repeat (first | with_reducible exact Take.here | apply Take.there)))))).trans (wraw_close h1 h2 h4))
end SX.Wq
namespace SX.Wq
open Go Go.Proofs SX

/-- the best so far, behind j children -/
def bestTo (es : List (WI × Nat)) (i : Nat) : Nat → Nat
  | 0 => i
  | 1 => Hp.better aW es (2 * i + 1) i
  | _ => Hp.best aW es i
theorem bestTo_lt {es : List (WI × Nat)} {i : Nat} (hi : i < es.length) : ∀ j, bestTo es i j < es.length := by
  have hb : ∀ k m, m < es.length → Hp.better aW es k m < es.length := fun k m hm => by
    rcases Hp.better_cases (ah := aW) es k m with ⟨e, _⟩ | ⟨e, a, b, ha, _⟩
    · rw [e]; exact hm
    · rw [e]; exact (List.getElem?_eq_some_iff.1 ha).1
  intro j
  match j with
  | 0 => exact hi
  | 1 => exact hb _ _ hi
  | j + 2 => exact hb _ _ (hb _ _ hi)
theorem bestTo_succ {es : List (WI × Nat)} {i j : Nat} (hj : j < 2) : bestTo es i (j + 1) = Hp.better aW es (2 * i + 1 + j) (bestTo es i j) := by
  match j, hj with
  | 0, _ => rfl
  | 1, _ => rfl
theorem bestTo_end {es : List (WI × Nat)} {i j : Nat} (h : 2 ≤ j ∨ es.length ≤ 2 * i + 1 + j) : bestTo es i j = Hp.best aW es i := by
  have hn : ∀ k m, es.length ≤ k → Hp.better aW es k m = m := fun k m hk => by
    have : es[k]? = none := List.getElem?_eq_none_iff.2 hk
    simp [Hp.better, this]
  match j with
  | 0 =>
    have h' : es.length ≤ 2 * i + 1 := by omega
    show i = Hp.better aW es (2 * i + 2) (Hp.better aW es (2 * i + 1) i)
    rw [hn _ _ h', hn _ _ (by omega)]
  | 1 =>
    have h' : es.length ≤ 2 * i + 2 := by omega
    show Hp.better aW es (2 * i + 1) i = Hp.better aW es (2 * i + 2) (Hp.better aW es (2 * i + 1) i)
    rw [hn _ _ h']
  | j + 2 => rfl
theorem better_of {es : List (WI × Nat)} {k m : Nat} {a b : WI × Nat} (ha : es[k]? = some a) (hb : es[m]? = some b) : Hp.better aW es k m = if aW a b then k else m := by simp [Hp.better, ha, hb]

set_option maxHeartbeats 2000000 in
theorem sink_w (q g cap : Nat) (nx : Value) (es : List (WI × Nat)) (ex : List Value) (hb1 : es.length ≤ 1099511627776) :
    Spec Tryd.prog 77 [.pointer (some ⟨q, 0, none⟩)] [blk q 107 [.slice (some ⟨g, 0, none⟩) es.length cap, nx], blk g 109 (wents es ++ ex)]
      (fun v L => v = .tuple #[] ∧ L = [blk q 107 [.slice (some ⟨g, 0, none⟩) es.length cap, nx], blk g 109 (wents (Hp.down aW es.length es 0) ++ ex)]) := by
  refine Spec.of 71 Tryd.func77 rfl rfl rfl ?_
  refine swp_seq ?_
  refine swp_region ?_
  refine s_pu (pu_assign rfl) ?_
  refine swl_sub _ (.cons (t := 0) rfl (.cons (t := 2) rfl .nil)) ?_
  refine swl_nil ?_
  refine then_n ?_
  refine swp_block ?_
  refine swp_loop (ι := Nat × List (WI × Nat)) (fun k env L => env = [(0, .pointer (some ⟨q, 0, none⟩)), (2, .int .i64 (k.1 : Nat))] ∧
      L = [blk q 107 [.slice (some ⟨g, 0, none⟩) es.length cap, nx], blk g 109 (wents k.2 ++ ex)] ∧
      k.2.length = es.length ∧ (k.1 < es.length ∨ k.1 = 0) ∧ Hp.down aW es.length k.2 k.1 = Hp.down aW es.length es 0) (fun k => es.length - k.1) (0, es) ⟨rfl, rfl, rfl, .inr rfl, rfl⟩ ?_
  rintro ⟨i, fs⟩ env L ⟨rfl, rfl, hl, hi, hdn⟩
  simp only [] at hl hi hdn
  dsimp only
  refine swp_block ?_
  refine swp_seq ?_
  refine swp_region ?_
  refine s_pu (pu_move rfl) ?_
  refine s_pu (pu_assign rfl) ?_
  refine swl_sub _ (.cons (t := 0) rfl (.cons (t := 2) rfl (.cons (t := 3) rfl .nil))) ?_
  refine swl_nil ?_
  refine then_n ?_
  refine swp_cut (fun env L => env = [(0, .pointer (some ⟨q, 0, none⟩)), (2, .int .i64 (i : Nat)), (3, .int .i64 (Hp.best aW fs i : Nat))] ∧ L = [blk q 107 [.slice (some ⟨g, 0, none⟩) es.length cap, nx], blk g 109 (wents fs ++ ex)]) ?_ ?_
  · skip
    refine swp_seq ?_
    refine swp_region ?_
    refine s_pu (pu_move rfl) ?_
    first | refine s_pu (pu_mul_in rfl rfl (by omega) (by omega)) ?_ | refine s_pu (pu_mul rfl rfl) ?_
    refine s_pu (pu_add_as ((2 * i + 1 + 0 : Nat) : Int) rfl rfl (by omega) (by omega) (by omega)) ?_
    refine s_pu (pu_assign rfl) ?_
    refine swl_sub _ (.cons (t := 0) rfl (.cons (t := 2) rfl (.cons (t := 3) rfl (.cons (t := 4) rfl .nil)))) ?_
    refine swl_nil ?_
    refine then_n ?_
    refine swp_block ?_
    refine swp_loop (ι := Nat) (fun j env L => env = [(0, .pointer (some ⟨q, 0, none⟩)), (2, .int .i64 (i : Nat)), (3, .int .i64 (bestTo fs i j : Nat)), (4, .int .i64 ((2 * i + 1 + j : Nat) : Int))] ∧ j ≤ 2 ∧
       L = [blk q 107 [.slice (some ⟨g, 0, none⟩) es.length cap, nx], blk g 109 (wents fs ++ ex)]) (fun j => 2 - j) 0 ⟨rfl, by omega, rfl⟩ ?_
    rintro j env L ⟨rfl, hj, rfl⟩
    refine swp_seq ?_
    refine swp_seq ?_
    refine swp_region ?_
    refine s_pu (pu_move rfl) ?_
    refine s_pu (pu_move rfl) ?_
    first | refine s_pu (pu_mul_in rfl rfl (by omega) (by omega)) ?_ | refine s_pu (pu_mul rfl rfl) ?_
    first | refine s_pu (pu_add_in rfl rfl (by omega) (by omega)) ?_ | refine s_pu (pu_add rfl rfl) ?_
    refine s_pu (pu_leq rfl rfl) ?_
    refine s_pu (pu_move rfl) ?_
    refine s_split 14 rfl (fun h14 => ?_) (fun h14 => ?_)
    · skip   -- 14 T
      have h14' : j < 2 := by simp at h14; omega
      refine s_on rfl rfl ?_
      refine s_pu (pu_move rfl) ?_
      refine s_on rfl rfl ?_
      refine s_pu (pu_move rfl) ?_
      refine s_on rfl rfl ?_
      first | refine s_pu (pu_nilCheck rfl) ?_ | refine s_pu (pu_nilCheck_fn rfl) ?_ | refine s_pu (pu_nilCheck_if rfl) ?_
      refine s_on rfl rfl ?_
      first | refine s_pu (pu_fieldAddr0 rfl) ?_ | refine s_pu (pu_fieldAddr rfl) ?_
      refine s_on rfl rfl ?_
      refine s_rd (rd_load rfl rfl) ?_
      refine s_on rfl rfl ?_
      refine s_pu (pu_len rfl) ?_
      refine s_on rfl rfl ?_
      refine s_pu (pu_lss rfl rfl) ?_
      first | refine s_pu (pu_pick_t rfl rfl) ?_ | refine s_pu (pu_pick_f rfl rfl) ?_
      refine swl_sub _ (.cons (t := 0) rfl (.cons (t := 2) rfl (.cons (t := 3) rfl (.cons (t := 4) rfl (.cons (t := 22) rfl .nil))))) ?_
      refine swl_nil ?_
      refine then_n ?_
      refine swp_cond (b := _) rfl (fun h22 => ?_) (fun h22 => ?_)
      · skip   -- 22 T
        have h22' : 2 * i + 1 + j < es.length := by simp at h22; omega
        have hil : i < fs.length := by omega
        obtain ⟨ek, hek⟩ : ∃ e, fs[2 * i + 1 + j]? = some e := ⟨_, List.getElem?_eq_getElem (by omega)⟩
        have hfl := bestTo_lt hil j
        obtain ⟨ef, hef⟩ : ∃ e, fs[bestTo fs i j]? = some e := ⟨_, List.getElem?_eq_getElem hfl⟩
        have hsucc := bestTo_succ (es := fs) (i := i) h14'
        rw [better_of hek hef] at hsucc
        refine swp_skip ?_
        refine then_n ?_
        refine swp_seq ?_
        refine swp_block ?_
        refine swp_seq ?_
        refine swp_draw [3, 6, 10, 13] _ [] (by simp only [List.append_nil]; exact Ent.refl _) (by kernel_rfl) ?_
        refine d_pu 0 rfl (pu_move rfl) (by kernel_rfl) (by kernel_rfl) (by kernel_rfl) ?_
        first | refine d_pu 1 rfl (pu_nilCheck rfl) (by kernel_rfl) (by kernel_rfl) (by kernel_rfl) ?_ | refine d_pu 1 rfl (pu_nilCheck_fn rfl) (by kernel_rfl) (by kernel_rfl) (by kernel_rfl) ?_ | refine d_pu 1 rfl (pu_nilCheck_if rfl) (by kernel_rfl) (by kernel_rfl) (by kernel_rfl) ?_
        first | refine d_pu 2 rfl (pu_fieldAddr0 rfl) (by kernel_rfl) (by kernel_rfl) (by kernel_rfl) ?_ | refine d_pu 2 rfl (pu_fieldAddr rfl) (by kernel_rfl) (by kernel_rfl) (by kernel_rfl) ?_
        refine d_rd 3 rfl (rd_load rfl rfl) rfl (by kernel_rfl) (by kernel_rfl) (by kernel_rfl) ?_
        refine d_pu 4 rfl (pu_move rfl) (by kernel_rfl) (by kernel_rfl) (by kernel_rfl) ?_
        refine d_pu 5 rfl (pu_indexAddr ((2 * i + 1 + j) * 2) rfl rfl (by omega) (by omega) (by omega)) (by kernel_rfl) (by kernel_rfl) (by kernel_rfl) ?_
        refine d_rd 6 rfl (rd_loadA (vs := wcs ek) rfl (by rfl) (flat_get wcs_len fs ex _ ek hek)) rfl (by kernel_rfl) (by kernel_rfl) (by kernel_rfl) ?_
        refine d_pu 7 rfl (pu_move rfl) (by kernel_rfl) (by kernel_rfl) (by kernel_rfl) ?_
        first | refine d_pu 8 rfl (pu_nilCheck rfl) (by kernel_rfl) (by kernel_rfl) (by kernel_rfl) ?_ | refine d_pu 8 rfl (pu_nilCheck_fn rfl) (by kernel_rfl) (by kernel_rfl) (by kernel_rfl) ?_ | refine d_pu 8 rfl (pu_nilCheck_if rfl) (by kernel_rfl) (by kernel_rfl) (by kernel_rfl) ?_
        first | refine d_pu 9 rfl (pu_fieldAddr0 rfl) (by kernel_rfl) (by kernel_rfl) (by kernel_rfl) ?_ | refine d_pu 9 rfl (pu_fieldAddr rfl) (by kernel_rfl) (by kernel_rfl) (by kernel_rfl) ?_
        refine d_rd 10 rfl (rd_load rfl rfl) rfl (by kernel_rfl) (by kernel_rfl) (by kernel_rfl) ?_
        refine d_pu 11 rfl (pu_move rfl) (by kernel_rfl) (by kernel_rfl) (by kernel_rfl) ?_
        refine d_pu 12 rfl (pu_indexAddr (bestTo fs i j * 2) rfl rfl (by omega) (by omega) (by omega)) (by kernel_rfl) (by kernel_rfl) (by kernel_rfl) ?_
        refine d_rd 13 rfl (rd_loadA (vs := wcs ef) rfl (by rfl) (flat_get wcs_len fs ex _ ef hef)) rfl (by kernel_rfl) (by kernel_rfl) (by kernel_rfl) ?_
        first | refine d_fint 14 rfl (by kernel_rfl) (by kernel_rfl) (ef_fn (ahead_w _ _ _ _) rfl rfl (by repeat (first | exact Split.nil | (apply Split.cons; (repeat (first | with_reducible exact Take.here | apply Take.there)))))) ?_ | refine d_finf 14 rfl (by kernel_rfl) (by kernel_rfl) (ef_fn (ahead_w _ _ _ _) rfl rfl (by repeat (first | exact Split.nil | (apply Split.cons; (repeat (first | with_reducible exact Take.here | apply Take.there)))))) ?_
        rintro v L1 ⟨rfl, rfl⟩
        refine swd_app ?_
        refine d_sub _ (.cons (t := 0) rfl (.cons (t := 2) rfl (.cons (t := 3) rfl (.cons (t := 4) rfl (.cons (t := 39) rfl .nil))))) ?_
        first | refine d_nilt (by kernel_rfl) ?_ | refine d_nilf (by kernel_rfl) ?_
        refine then_n ?_
        refine swp_cond (b := _) rfl (fun h39 => ?_) (fun h39 => ?_)
        · skip   -- 39 T
          rw [if_pos h39] at hsucc
          refine swp_region ?_
          refine s_pu (pu_move rfl) ?_
          refine s_pu (pu_assign rfl) ?_
          refine swl_sub _ (.cons (t := 0) rfl (.cons (t := 2) rfl (.cons (t := 3) rfl (.cons (t := 4) rfl .nil)))) ?_
          refine swl_nil ?_
          refine block_n ?_
          refine then_n ?_
          refine swp_region ?_
          refine s_pu (pu_move rfl) ?_
          refine s_pu (pu_add_as ((2 * i + 1 + (j + 1) : Nat) : Int) rfl rfl (by omega) (by omega) (by omega)) ?_
          refine s_pu (pu_assign rfl) ?_
          refine swl_sub _ (.cons (t := 0) rfl (.cons (t := 2) rfl (.cons (t := 3) rfl (.cons (t := 4) rfl .nil)))) ?_
          refine swl_nil ?_
          refine then_n ⟨j + 1, ⟨?_, by omega, rfl⟩, by omega⟩
          rw [hsucc]
        · skip   -- 39 F
          rw [if_neg (by simp [h39])] at hsucc
          refine swp_skip ?_
          refine block_n ?_
          refine then_n ?_
          refine swp_region ?_
          refine s_pu (pu_move rfl) ?_
          refine s_pu (pu_add_as ((2 * i + 1 + (j + 1) : Nat) : Int) rfl rfl (by omega) (by omega) (by omega)) ?_
          refine s_pu (pu_assign rfl) ?_
          refine swl_sub _ (.cons (t := 0) rfl (.cons (t := 2) rfl (.cons (t := 3) rfl (.cons (t := 4) rfl .nil)))) ?_
          refine swl_nil ?_
          refine then_n ⟨j + 1, ⟨?_, by omega, rfl⟩, by omega⟩
          rw [hsucc]
      · skip   -- 22 F
        have hbe := bestTo_end (es := fs) (i := i) (j := j) (.inr (by simp at h22; omega))
        refine swp_sub _ (.cons (t := 0) rfl (.cons (t := 2) rfl (.cons (t := 3) rfl .nil))) ?_
        refine swp_exit ?_
        refine then_x ?_
        refine then_x ?_
        refine block_hit rfl ?_
        refine then_n ⟨?_, rfl⟩
        rw [hbe]
    · skip   -- 14 F
      refine s_off rfl rfl rfl ?_
      refine s_off rfl rfl rfl ?_
      refine s_off rfl rfl rfl ?_
      refine s_off rfl rfl rfl ?_
      refine s_off rfl rfl rfl ?_
      refine s_off rfl rfl rfl ?_
      refine s_off rfl rfl rfl ?_
      first | refine s_pu (pu_pick_t rfl rfl) ?_ | refine s_pu (pu_pick_f rfl rfl) ?_
      refine swl_sub _ (.cons (t := 0) rfl (.cons (t := 2) rfl (.cons (t := 3) rfl (.cons (t := 4) rfl (.cons (t := 22) rfl .nil))))) ?_
      refine swl_nil ?_
      refine then_n ?_
      refine swp_cond (b := _) rfl (fun h22 => by cases h22) (fun h22 => ?_)
      have hbe := bestTo_end (es := fs) (i := i) (j := j) (.inl (by simp at h14; omega))
      refine swp_sub _ (.cons (t := 0) rfl (.cons (t := 2) rfl (.cons (t := 3) rfl .nil))) ?_
      refine swp_exit ?_
      refine then_x ?_
      refine then_x ?_
      refine block_hit rfl ?_
      refine then_n ⟨?_, rfl⟩
      rw [hbe]
  rintro env L ⟨rfl, rfl⟩
  refine swp_seq ?_
  refine swp_seq ?_
  refine swp_region ?_
  refine s_pu (pu_move rfl) ?_
  refine s_pu (pu_move rfl) ?_
  refine s_pu (pu_eql rfl rfl) ?_
  refine swl_sub _ (.cons (t := 0) rfl (.cons (t := 2) rfl (.cons (t := 3) rfl (.cons (t := 43) rfl .nil)))) ?_
  refine swl_nil ?_
  refine then_n ?_
  refine swp_cond (b := _) rfl (fun h43 => ?_) (fun h43 => ?_)
  · skip   -- 43 T
    have hbi : Hp.best aW fs i = i := by simp at h43; omega
    refine swp_ret ?_
    refine then_r ?_
    refine block_r ?_
    refine then_r ?_
    refine block_r ?_
    rw [← hdn, Hp.down_stop hbi]
    exact done_ret _ .nil ⟨rfl, rfl⟩ (by repeat (first | exact Split.nil | (apply Split.cons; (repeat (first | with_reducible exact Take.here | apply Take.there)))))
  · skip   -- 43 F
    have hbi : Hp.best aW fs i ≠ i := by simp at h43; omega
    have hgt := Hp.best_gt hbi
    obtain ⟨ei, hei⟩ : ∃ e, fs[i]? = some e := ⟨_, List.getElem?_eq_getElem (by omega)⟩
    obtain ⟨ep, hep⟩ : ∃ e, fs[Hp.best aW fs i]? = some e := ⟨_, List.getElem?_eq_getElem hgt.2⟩
    rw [Hp.down_step (by omega) hbi hei hep] at hdn
    generalize Hp.best aW fs i = p at *
    have hel : (wents fs).length = es.length * 2 := by rw [wents_len, hl]
    refine swp_skip ?_
    refine then_n ?_
    refine swp_seq ?_
    refine swp_draw [3, 8, 13, 16, 20, 23] _ [] (by simp only [List.append_nil]; exact Ent.refl _) (by kernel_rfl) ?_
    refine d_pu 0 rfl (pu_move rfl) (by kernel_rfl) (by kernel_rfl) (by kernel_rfl) ?_
    first | refine d_pu 1 rfl (pu_nilCheck rfl) (by kernel_rfl) (by kernel_rfl) (by kernel_rfl) ?_ | refine d_pu 1 rfl (pu_nilCheck_fn rfl) (by kernel_rfl) (by kernel_rfl) (by kernel_rfl) ?_ | refine d_pu 1 rfl (pu_nilCheck_if rfl) (by kernel_rfl) (by kernel_rfl) (by kernel_rfl) ?_
    first | refine d_pu 2 rfl (pu_fieldAddr0 rfl) (by kernel_rfl) (by kernel_rfl) (by kernel_rfl) ?_ | refine d_pu 2 rfl (pu_fieldAddr rfl) (by kernel_rfl) (by kernel_rfl) (by kernel_rfl) ?_
    refine d_rd 3 rfl (rd_load rfl rfl) rfl (by kernel_rfl) (by kernel_rfl) (by kernel_rfl) ?_
    refine d_pu 4 rfl (pu_move rfl) (by kernel_rfl) (by kernel_rfl) (by kernel_rfl) ?_
    refine d_pu 5 rfl (pu_move rfl) (by kernel_rfl) (by kernel_rfl) (by kernel_rfl) ?_
    first | refine d_pu 6 rfl (pu_nilCheck rfl) (by kernel_rfl) (by kernel_rfl) (by kernel_rfl) ?_ | refine d_pu 6 rfl (pu_nilCheck_fn rfl) (by kernel_rfl) (by kernel_rfl) (by kernel_rfl) ?_ | refine d_pu 6 rfl (pu_nilCheck_if rfl) (by kernel_rfl) (by kernel_rfl) (by kernel_rfl) ?_
    first | refine d_pu 7 rfl (pu_fieldAddr0 rfl) (by kernel_rfl) (by kernel_rfl) (by kernel_rfl) ?_ | refine d_pu 7 rfl (pu_fieldAddr rfl) (by kernel_rfl) (by kernel_rfl) (by kernel_rfl) ?_
    refine d_rd 8 rfl (rd_load rfl rfl) rfl (by kernel_rfl) (by kernel_rfl) (by kernel_rfl) ?_
    refine d_pu 9 rfl (pu_move rfl) (by kernel_rfl) (by kernel_rfl) (by kernel_rfl) ?_
    refine d_pu 10 rfl (pu_move rfl) (by kernel_rfl) (by kernel_rfl) (by kernel_rfl) ?_
    first | refine d_pu 11 rfl (pu_nilCheck rfl) (by kernel_rfl) (by kernel_rfl) (by kernel_rfl) ?_ | refine d_pu 11 rfl (pu_nilCheck_fn rfl) (by kernel_rfl) (by kernel_rfl) (by kernel_rfl) ?_ | refine d_pu 11 rfl (pu_nilCheck_if rfl) (by kernel_rfl) (by kernel_rfl) (by kernel_rfl) ?_
    first | refine d_pu 12 rfl (pu_fieldAddr0 rfl) (by kernel_rfl) (by kernel_rfl) (by kernel_rfl) ?_ | refine d_pu 12 rfl (pu_fieldAddr rfl) (by kernel_rfl) (by kernel_rfl) (by kernel_rfl) ?_
    refine d_rd 13 rfl (rd_load rfl rfl) rfl (by kernel_rfl) (by kernel_rfl) (by kernel_rfl) ?_
    refine d_pu 14 rfl (pu_move rfl) (by kernel_rfl) (by kernel_rfl) (by kernel_rfl) ?_
    refine d_pu 15 rfl (pu_indexAddr (p * 2) rfl rfl (by omega) (by omega) (by omega)) (by kernel_rfl) (by kernel_rfl) (by kernel_rfl) ?_
    refine d_rd 16 rfl (rd_loadA (vs := wcs ep) rfl (by rfl) (flat_get wcs_len fs ex p ep hep)) rfl (by kernel_rfl) (by kernel_rfl) (by kernel_rfl) ?_
    refine d_pu 17 rfl (pu_move rfl) (by kernel_rfl) (by kernel_rfl) (by kernel_rfl) ?_
    first | refine d_pu 18 rfl (pu_nilCheck rfl) (by kernel_rfl) (by kernel_rfl) (by kernel_rfl) ?_ | refine d_pu 18 rfl (pu_nilCheck_fn rfl) (by kernel_rfl) (by kernel_rfl) (by kernel_rfl) ?_ | refine d_pu 18 rfl (pu_nilCheck_if rfl) (by kernel_rfl) (by kernel_rfl) (by kernel_rfl) ?_
    first | refine d_pu 19 rfl (pu_fieldAddr0 rfl) (by kernel_rfl) (by kernel_rfl) (by kernel_rfl) ?_ | refine d_pu 19 rfl (pu_fieldAddr rfl) (by kernel_rfl) (by kernel_rfl) (by kernel_rfl) ?_
    refine d_rd 20 rfl (rd_load rfl rfl) rfl (by kernel_rfl) (by kernel_rfl) (by kernel_rfl) ?_
    refine d_pu 21 rfl (pu_move rfl) (by kernel_rfl) (by kernel_rfl) (by kernel_rfl) ?_
    refine d_pu 22 rfl (pu_indexAddr (i * 2) rfl rfl (by omega) (by omega) (by omega)) (by kernel_rfl) (by kernel_rfl) (by kernel_rfl) ?_
    refine d_rd 23 rfl (rd_loadA (vs := wcs ei) rfl (by rfl) (flat_get wcs_len fs ex i ei hei)) rfl (by kernel_rfl) (by kernel_rfl) (by kernel_rfl) ?_
    refine d_pu 24 rfl (pu_indexAddr (i * 2) rfl rfl (by omega) (by omega) (by omega)) (by kernel_rfl) (by kernel_rfl) (by kernel_rfl) ?_
    first | refine d_fin0t 25 rfl (by kernel_rfl) (by kernel_rfl) (ef_storeAs (vs := wcs ep) rfl rfl (flat_over wcs_len fs ex i ep (by omega)) (by rw [List.length_append, ← wents, hel, wcs_len]; omega) rfl rfl) ?_ | refine d_fin0f 25 rfl (by kernel_rfl) (by kernel_rfl) (ef_storeAs (vs := wcs ep) rfl rfl (flat_over wcs_len fs ex i ep (by omega)) (by rw [List.length_append, ← wents, hel, wcs_len]; omega) rfl rfl) ?_
    refine d_pu 26 rfl (pu_indexAddr (p * 2) rfl rfl (by omega) (by omega) (by omega)) (by kernel_rfl) (by kernel_rfl) (by kernel_rfl) ?_
    first | refine d_fin0t 27 rfl (by kernel_rfl) (by kernel_rfl) (ef_storeAs (vs := wcs ei) rfl rfl (flat_over wcs_len (fs.set i ep) ex p ei (by simp; omega)) (by rw [List.length_append, flat_length wcs_len, wcs_len, List.length_set]; omega) rfl rfl) ?_ | refine d_fin0f 27 rfl (by kernel_rfl) (by kernel_rfl) (ef_storeAs (vs := wcs ei) rfl rfl (flat_over wcs_len (fs.set i ep) ex p ei (by simp; omega)) (by rw [List.length_append, flat_length wcs_len, wcs_len, List.length_set]; omega) rfl rfl) ?_
    refine d_sub _ (.cons (t := 0) rfl (.cons (t := 3) rfl .nil)) ?_
    first | refine d_nilt (by kernel_rfl) ?_ | refine d_nilf (by kernel_rfl) ?_
    refine then_n ?_
    refine swp_region ?_
    refine s_pu (pu_move rfl) ?_
    refine s_pu (pu_assign rfl) ?_
    refine swl_sub _ (.cons (t := 0) rfl (.cons (t := 2) rfl .nil)) ?_
    refine swl_nil ?_
    refine block_n ?_
    exact then_n ⟨(p, (fs.set i ep).set p ei), ⟨rfl, rfl, by simp [hl], .inl (by show p < es.length; omega), hdn⟩, by show es.length - p < es.length - i; omega⟩
end SX.Wq
namespace SX.Wq
open Go Go.Proofs SX

theorem wraw_fold {q nxt : Nat} {v : Value} {es : List (WI × Nat)} {L : List Assn} : Ent (blk q 107 [v, .int .u64 (nxt : Nat)] :: own 109 2 v es.length (wents es) :: L) (wraw q es nxt :: L) :=
  ent_ex (F := fun v => [blk q 107 [v, .int .u64 (nxt : Nat)], own 109 2 v es.length (wents es)]) v (by repeat (first | exact Split.nil | (apply Split.cons; (repeat (first | with_reducible exact Take.here | apply Take.there)))))
theorem len_w (q : Nat) (es : List (WI × Nat)) (nxt : Nat) : Spec Tryd.prog 91 [.pointer (some ⟨q, 0, none⟩)] [wraw q es nxt] (fun v L => v = .int .i64 es.length ∧ L = [wraw q es nxt]) := by
  refine Spec.of 10 Tryd.func91 rfl rfl rfl ?_
  refine swp_ex fun v => ?_
  refine swp_app ?_
  refine swp_front (A := own 109 2 v es.length (wents es)) (by repeat (first | with_reducible exact Take.here | apply Take.there)) ?_
  refine swp_fact (fun m h => own_form h) fun ⟨A, cap, hv⟩ => ?_
  subst hv
  refine swp_seq ?_
  refine swp_region ?_
  refine s_pu (pu_assign rfl) ?_
  refine swl_sub _ (.cons (t := 0) rfl .nil) ?_
  refine swl_nil ?_
  refine then_n ?_
  refine swp_seq ?_
  refine swp_seq ?_
  refine swp_region ?_
  refine s_pu (pu_move rfl) ?_
  refine s_pu (pu_ptr_eq_nil rfl rfl) ?_
  refine swl_sub _ (.cons (t := 0) rfl (.cons (t := 4) rfl .nil)) ?_
  refine swl_nil ?_
  refine then_n ?_
  refine swp_cond (b := _) rfl (fun h4 => by cases h4) (fun h4 => ?_)
  refine swp_skip ?_
  refine then_n ?_
  refine swp_seq ?_
  refine swp_region ?_
  refine s_pu (pu_move rfl) ?_
  first | refine s_pu (pu_nilCheck rfl) ?_ | refine s_pu (pu_nilCheck_fn rfl) ?_ | refine s_pu (pu_nilCheck_if rfl) ?_
  first | refine s_pu (pu_fieldAddr0 rfl) ?_ | refine s_pu (pu_fieldAddr rfl) ?_
  refine s_rd (rd_load rfl rfl) ?_
  refine s_pu (pu_len rfl) ?_
  refine s_pu (pu_assign rfl) ?_
  refine swl_sub _ (.cons (t := 2) rfl .nil) ?_
  refine swl_nil ?_
  refine then_n ?_
  refine swp_ret ?_
  exact done_retE [wraw q es nxt] (.tmp rfl .nil) ⟨rfl, rfl⟩ ((Split.ent' (K := [blk q 107 [.slice A es.length cap, .int .u64 (nxt : Nat)], own 109 2 (.slice A es.length cap) es.length (wents es)]) (by repeat (first | exact Split.nil | (apply Split.cons; (repeat (first | with_reducible exact Take.here | apply Take.there)))))).trans wraw_fold)
theorem peek_w0 (q nxt : Nat) : Spec Tryd.prog 76 [.pointer (some ⟨q, 0, none⟩)] [wraw q [] nxt] (fun v L => v = .tuple #[wiV wiZ, .bool false] ∧ L = [wraw q [] nxt]) := by
  refine Spec.of 16 Tryd.func76 rfl rfl rfl ?_
  refine swp_seq ?_
  refine swp_region ?_
  refine s_pu (pu_assign rfl) ?_
  refine s_pu (pu_assign rfl) ?_
  refine swl_sub _ (.cons (t := 0) rfl .nil) ?_
  refine swl_nil ?_
  refine then_n ?_
  refine swp_seq ?_
  refine swp_seq ?_
  refine swp_region ?_
  refine s_pu (pu_move rfl) ?_
  refine s_ef (ef_fn (len_w q [] nxt) rfl rfl (by repeat (first | exact Split.nil | (apply Split.cons; (repeat (first | with_reducible exact Take.here | apply Take.there)))))) ?_
  rintro v L1 ⟨rfl, rfl⟩
  refine swl_app ?_
  refine s_pu (pu_eql rfl rfl) ?_
  refine swl_sub _ (.cons (t := 0) rfl (.cons (t := 7) rfl .nil)) ?_
  refine swl_nil ?_
  refine then_n ?_
  refine swp_cond (b := _) rfl (fun h7 => ?_) (fun h7 => by simp at h7)
  refine swp_seq ?_
  refine swp_region ?_
  refine s_pu (pu_assign rfl) ?_
  refine swl_sub _ (.cons (t := 4) rfl .nil) ?_
  refine swl_nil ?_
  refine then_n ?_
  refine swp_seq ?_
  refine swp_region ?_
  refine s_pu (pu_move rfl) ?_
  refine s_pu (pu_assign rfl) ?_
  refine s_pu (pu_assign rfl) ?_
  refine swl_sub _ (.cons (t := 2) rfl (.cons (t := 3) rfl .nil)) ?_
  refine swl_nil ?_
  refine then_n ?_
  refine swp_ret ?_
  refine then_r ?_
  exact done_ret [wraw q [] nxt] (.tmp rfl (.tmp rfl .nil)) ⟨rfl, rfl⟩ (by repeat (first | exact Split.nil | (apply Split.cons; (repeat (first | with_reducible exact Take.here | apply Take.there)))))
theorem peek_w (q nxt : Nat) (e : WI × Nat) (es : List (WI × Nat)) : Spec Tryd.prog 76 [.pointer (some ⟨q, 0, none⟩)] [wraw q (e :: es) nxt] (fun v L => v = .tuple #[wiV e.1, .bool true] ∧ L = [wraw q (e :: es) nxt]) := by
  refine Spec.of 16 Tryd.func76 rfl rfl rfl ?_
  refine swp_seq ?_
  refine swp_region ?_
  refine s_pu (pu_assign rfl) ?_
  refine s_pu (pu_assign rfl) ?_
  refine swl_sub _ (.cons (t := 0) rfl .nil) ?_
  refine swl_nil ?_
  refine then_n ?_
  refine swp_seq ?_
  refine swp_seq ?_
  refine swp_region ?_
  refine s_pu (pu_move rfl) ?_
  refine s_ef (ef_fn (len_w q (e :: es) nxt) rfl rfl (by repeat (first | exact Split.nil | (apply Split.cons; (repeat (first | with_reducible exact Take.here | apply Take.there)))))) ?_
  rintro v L1 ⟨rfl, rfl⟩
  refine swl_app ?_
  refine s_pu (pu_eql rfl rfl) ?_
  refine swl_sub _ (.cons (t := 0) rfl (.cons (t := 7) rfl .nil)) ?_
  refine swl_nil ?_
  refine then_n ?_
  refine swp_cond (b := _) rfl (fun h7 => by simp at h7; omega) (fun h7 => ?_)
  refine swp_skip ?_
  refine then_n ?_
  refine swp_seq ?_
  refine swp_ex fun v => ?_
  refine swp_app ?_
  refine swp_front (A := own 109 2 v (e :: es).length (wents (e :: es))) (by repeat (first | with_reducible exact Take.here | apply Take.there)) ?_
  refine swp_own (fun h h0 h1 => by simp at h0) (fun g cap ex hv o1 o2 o3 o4 => ?_)
  subst v
  refine swp_region ?_
  refine s_pu (pu_move rfl) ?_
  first | refine s_pu (pu_nilCheck rfl) ?_ | refine s_pu (pu_nilCheck_fn rfl) ?_ | refine s_pu (pu_nilCheck_if rfl) ?_
  first | refine s_pu (pu_fieldAddr0 rfl) ?_ | refine s_pu (pu_fieldAddr rfl) ?_
  refine s_rd (rd_load rfl rfl) ?_
  refine s_pu (pu_indexAddr 0 rfl rfl (by omega) (by simp) rfl) ?_
  first | refine s_pu (pu_fieldAddr0 rfl) ?_ | refine s_pu (pu_fieldAddr rfl) ?_
  refine s_rd (rd_load (v := wiV e.1) rfl rfl) ?_
  refine s_pu (pu_assign rfl) ?_
  refine s_pu (pu_assign rfl) ?_
  refine swl_sub _ (.cons (t := 2) rfl (.cons (t := 3) rfl .nil)) ?_
  refine swl_nil ?_
  refine then_n ?_
  refine swp_ret ?_
  exact done_retE [wraw q (e :: es) nxt] (.tmp rfl (.tmp rfl .nil)) ⟨rfl, rfl⟩ ((Split.ent' (K := [blk g 109 (wents (e :: es) ++ ex), blk q 107 [.slice (some ⟨g, 0, none⟩) (e :: es).length cap, .int .u64 (nxt : Nat)]]) (by repeat (first | exact Split.nil | (apply Split.cons; (repeat (first | with_reducible exact Take.here | apply Take.there)))))).trans (wraw_close o1 o2 o4))

theorem pop_w0 (q nxt : Nat) : Spec Tryd.prog 45 [.pointer (some ⟨q, 0, none⟩)] [wraw q [] nxt] (fun v L => v = .tuple #[wiV wiZ, .bool false] ∧ L = [wraw q [] nxt]) := by
  refine Spec.of 52 Tryd.func45 rfl rfl rfl ?_
  refine swp_seq ?_
  refine swp_region ?_
  refine s_pu (pu_assign rfl) ?_
  refine s_pu (pu_assign rfl) ?_
  refine swl_sub _ (.cons (t := 0) rfl .nil) ?_
  refine swl_nil ?_
  refine then_n ?_
  refine swp_seq ?_
  refine swp_region ?_
  refine s_pu (pu_move rfl) ?_
  refine s_ef (ef_fn (peek_w0 q nxt) rfl rfl (by repeat (first | exact Split.nil | (apply Split.cons; (repeat (first | with_reducible exact Take.here | apply Take.there)))))) ?_
  rintro v L1 ⟨rfl, rfl⟩
  refine swl_app ?_
  refine s_pu (pu_move rfl) ?_
  first | refine s_pu (pu_extractL rfl) ?_ | refine s_pu (pu_extract rfl rfl) ?_
  first | refine s_pu (pu_extractL rfl) ?_ | refine s_pu (pu_extract rfl rfl) ?_
  refine s_pu (pu_assign rfl) ?_
  refine s_pu (pu_assign rfl) ?_
  refine swl_sub _ (.cons (t := 0) rfl (.cons (t := 4) rfl (.cons (t := 5) rfl .nil))) ?_
  refine swl_nil ?_
  refine then_n ?_
  refine swp_seq ?_
  refine swp_seq ?_
  refine swp_region ?_
  refine s_pu (pu_move rfl) ?_
  refine s_pu (pu_not rfl) ?_
  refine swl_sub _ (.cons (t := 0) rfl (.cons (t := 4) rfl (.cons (t := 13) rfl .nil))) ?_
  refine swl_nil ?_
  refine then_n ?_
  refine swp_cond (b := _) rfl (fun h13 => ?_) (fun h13 => by cases h13)
  refine swp_seq ?_
  refine swp_region ?_
  refine s_pu (pu_move rfl) ?_
  refine s_pu (pu_assign rfl) ?_
  refine s_pu (pu_assign rfl) ?_
  refine swl_sub _ (.cons (t := 2) rfl (.cons (t := 3) rfl .nil)) ?_
  refine swl_nil ?_
  refine then_n ?_
  refine swp_ret ?_
  refine then_r ?_
  exact done_ret [wraw q [] nxt] (.tmp rfl (.tmp rfl .nil)) ⟨rfl, rfl⟩ (by repeat (first | exact Split.nil | (apply Split.cons; (repeat (first | with_reducible exact Take.here | apply Take.there)))))

def wzcs : List Value := [wiV wiZ, .int .u64 0]
theorem wents_app (a b : List (WI × Nat)) : wents (a ++ b) = wents a ++ wents b := by unfold wents; exact List.flatMap_append
theorem wents_over (es : List (WI × Nat)) (ex : List Value) (i : Nat) (e : WI × Nat) (h : i < es.length) : over (wents es ++ ex) (wcs e) (i * 2) = wents (es.set i e) ++ ex := flat_over wcs_len es ex i e h
theorem wover_cut (es : List (WI × Nat)) (ex zs : List Value) (hz : zs.length = 2) (hne : es ≠ []) : over (wents es ++ ex) zs ((es.length - 1) * 2) = wents es.dropLast ++ (zs ++ ex) := by
  have e := List.dropLast_concat_getLast hne
  have hl : (es.length - 1) * 2 = (wents es.dropLast).length := by rw [wents_len, List.length_dropLast]
  have h1 : wents es = wents es.dropLast ++ wents [es.getLast hne] := by rw [← wents_app, e]
  have h2 : (wents [es.getLast hne]).length = 2 := by rw [wents_len]; rfl
  generalize wents [es.getLast hne] = u at h1 h2
  rw [hl, h1]
  unfold over
  rw [hz, List.append_assoc (wents es.dropLast) u ex, List.take_left, List.drop_append]
  rw [show (wents es.dropLast).length + 2 - (wents es.dropLast).length = 2 by omega, List.drop_append, h2]
  rw [List.drop_eq_nil_of_le (by omega : (wents es.dropLast).length ≤ _), List.drop_eq_nil_of_le (by omega : u.length ≤ _)]
  simp

set_option maxHeartbeats 1000000 in
theorem pop_w (q nxt : Nat) (e : WI × Nat) (es : List (WI × Nat)) (hb1 : (e :: es).length ≤ 1099511627776) : Spec Tryd.prog 45 [.pointer (some ⟨q, 0, none⟩)] [wraw q (e :: es) nxt]
    (fun v L => v = .tuple #[wiV e.1, .bool true] ∧ L = [wraw q (Hp.pop aW (e :: es)) nxt]) := by
  refine Spec.of 52 Tryd.func45 rfl rfl rfl ?_
  refine swp_seq ?_
  refine swp_region ?_
  refine s_pu (pu_assign rfl) ?_
  refine s_pu (pu_assign rfl) ?_
  refine swl_sub _ (.cons (t := 0) rfl .nil) ?_
  refine swl_nil ?_
  refine then_n ?_
  refine swp_seq ?_
  refine swp_region ?_
  refine s_pu (pu_move rfl) ?_
  refine s_ef (ef_fn (peek_w q nxt e es) rfl rfl (by repeat (first | exact Split.nil | (apply Split.cons; (repeat (first | with_reducible exact Take.here | apply Take.there)))))) ?_
  rintro v L1 ⟨rfl, rfl⟩
  refine swl_app ?_
  refine s_pu (pu_move rfl) ?_
  first | refine s_pu (pu_extractL rfl) ?_ | refine s_pu (pu_extract rfl rfl) ?_
  first | refine s_pu (pu_extractL rfl) ?_ | refine s_pu (pu_extract rfl rfl) ?_
  refine s_pu (pu_assign rfl) ?_
  refine s_pu (pu_assign rfl) ?_
  refine swl_sub _ (.cons (t := 0) rfl (.cons (t := 4) rfl (.cons (t := 5) rfl .nil))) ?_
  refine swl_nil ?_
  refine then_n ?_
  refine swp_seq ?_
  refine swp_seq ?_
  refine swp_region ?_
  refine s_pu (pu_move rfl) ?_
  refine s_pu (pu_not rfl) ?_
  refine swl_sub _ (.cons (t := 0) rfl (.cons (t := 4) rfl (.cons (t := 13) rfl .nil))) ?_
  refine swl_nil ?_
  refine then_n ?_
  refine swp_cond (b := _) rfl (fun h13 => by cases h13) (fun h13 => ?_)
  refine swp_skip ?_
  refine then_n ?_
  refine swp_seq ?_
  obtain ⟨fs, hfs⟩ : ∃ fs, fs = e :: es := ⟨_, rfl⟩
  have hne : fs ≠ [] := by rw [hfs]; simp
  rw [← hfs] at hb1 ⊢
  have hpos : 0 < fs.length := List.length_pos_iff.2 hne
  refine swp_front (A := wraw q fs nxt) (by repeat (first | with_reducible exact Take.here | apply Take.there)) ?_
  refine swp_ex fun v => ?_
  refine swp_app ?_
  refine swp_front (A := own 109 2 v fs.length (wents fs)) (by repeat (first | with_reducible exact Take.here | apply Take.there)) ?_
  refine swp_own (fun h h0 h1 => by omega) (fun g cap ex hv o1 o2 o3 o4 => ?_)
  subst v
  refine swp_region ?_
  refine s_pu (pu_move rfl) ?_
  first | refine s_pu (pu_nilCheck rfl) ?_ | refine s_pu (pu_nilCheck_fn rfl) ?_ | refine s_pu (pu_nilCheck_if rfl) ?_
  first | refine s_pu (pu_fieldAddr0 rfl) ?_ | refine s_pu (pu_fieldAddr rfl) ?_
  refine s_rd (rd_load rfl rfl) ?_
  refine s_pu (pu_len rfl) ?_
  refine s_pu (pu_sub_as ((fs.length - 1 : Nat) : Int) rfl rfl (by omega) (by omega) (by omega)) ?_
  refine s_pu (pu_assign rfl) ?_
  refine swl_sub _ (.cons (t := 0) rfl (.cons (t := 4) rfl (.cons (t := 6) rfl .nil))) ?_
  refine swl_nil ?_
  refine then_n ?_
  refine swp_seq ?_
  have hel : (wents fs).length = fs.length * 2 := wents_len fs
  obtain ⟨l, hlast⟩ : ∃ l, fs[fs.length - 1]? = some l := ⟨_, List.getElem?_eq_getElem (by omega)⟩
  refine swp_draw [3, 7, 10] _ [] (by simp only [List.append_nil]; exact Ent.refl _) (by kernel_rfl) ?_
  refine d_pu 0 rfl (pu_move rfl) (by kernel_rfl) (by kernel_rfl) (by kernel_rfl) ?_
  first | refine d_pu 1 rfl (pu_nilCheck rfl) (by kernel_rfl) (by kernel_rfl) (by kernel_rfl) ?_ | refine d_pu 1 rfl (pu_nilCheck_fn rfl) (by kernel_rfl) (by kernel_rfl) (by kernel_rfl) ?_ | refine d_pu 1 rfl (pu_nilCheck_if rfl) (by kernel_rfl) (by kernel_rfl) (by kernel_rfl) ?_
  first | refine d_pu 2 rfl (pu_fieldAddr0 rfl) (by kernel_rfl) (by kernel_rfl) (by kernel_rfl) ?_ | refine d_pu 2 rfl (pu_fieldAddr rfl) (by kernel_rfl) (by kernel_rfl) (by kernel_rfl) ?_
  refine d_rd 3 rfl (rd_load rfl rfl) rfl (by kernel_rfl) (by kernel_rfl) (by kernel_rfl) ?_
  refine d_pu 4 rfl (pu_move rfl) (by kernel_rfl) (by kernel_rfl) (by kernel_rfl) ?_
  first | refine d_pu 5 rfl (pu_nilCheck rfl) (by kernel_rfl) (by kernel_rfl) (by kernel_rfl) ?_ | refine d_pu 5 rfl (pu_nilCheck_fn rfl) (by kernel_rfl) (by kernel_rfl) (by kernel_rfl) ?_ | refine d_pu 5 rfl (pu_nilCheck_if rfl) (by kernel_rfl) (by kernel_rfl) (by kernel_rfl) ?_
  first | refine d_pu 6 rfl (pu_fieldAddr0 rfl) (by kernel_rfl) (by kernel_rfl) (by kernel_rfl) ?_ | refine d_pu 6 rfl (pu_fieldAddr rfl) (by kernel_rfl) (by kernel_rfl) (by kernel_rfl) ?_
  refine d_rd 7 rfl (rd_load rfl rfl) rfl (by kernel_rfl) (by kernel_rfl) (by kernel_rfl) ?_
  refine d_pu 8 rfl (pu_move rfl) (by kernel_rfl) (by kernel_rfl) (by kernel_rfl) ?_
  refine d_pu 9 rfl (pu_indexAddr ((fs.length - 1) * 2) rfl rfl (by omega) (by omega) (by omega)) (by kernel_rfl) (by kernel_rfl) (by kernel_rfl) ?_
  refine d_rd 10 rfl (rd_loadA (vs := wcs l) rfl (by rfl) (flat_get wcs_len fs ex _ l hlast)) rfl (by kernel_rfl) (by kernel_rfl) (by kernel_rfl) ?_
  refine d_pu 11 rfl (pu_indexAddr (0 * 2) rfl rfl (by omega) (by omega) (by omega)) (by kernel_rfl) (by kernel_rfl) (by kernel_rfl) ?_
  first | refine d_fin0t 12 rfl (by kernel_rfl) (by kernel_rfl) (ef_storeAs (vs := wcs l) rfl rfl (wents_over fs ex 0 l hpos) (by rw [List.length_append, wents_len, wcs_len]; omega) rfl rfl) ?_ | refine d_fin0f 12 rfl (by kernel_rfl) (by kernel_rfl) (ef_storeAs (vs := wcs l) rfl rfl (wents_over fs ex 0 l hpos) (by rw [List.length_append, wents_len, wcs_len]; omega) rfl rfl) ?_
  refine d_sub _ (.cons (t := 0) rfl (.cons (t := 4) rfl (.cons (t := 6) rfl .nil))) ?_
  first | refine d_nilt (by kernel_rfl) ?_ | refine d_nilf (by kernel_rfl) ?_
  refine then_n ?_
  refine swp_seq ?_
  have hl2 : (fs.set 0 l).length = fs.length := List.length_set
  have hne2 : fs.set 0 l ≠ [] := by intro h; rw [h] at hl2; simp at hl2; omega
  refine swp_region ?_
  refine s_pu (pu_move rfl) ?_
  first | refine s_pu (pu_nilCheck rfl) ?_ | refine s_pu (pu_nilCheck_fn rfl) ?_ | refine s_pu (pu_nilCheck_if rfl) ?_
  first | refine s_pu (pu_fieldAddr0 rfl) ?_ | refine s_pu (pu_fieldAddr rfl) ?_
  refine s_rd (rd_load rfl rfl) ?_
  refine s_pu (pu_move rfl) ?_
  refine s_pu (pu_bld (qs := []) rfl) ?_
  refine s_pu (pu_indexAddr (((fs.set 0 l).length - 1) * 2) rfl rfl (by omega) (by omega) (by rw [hl2]; omega)) ?_
  refine s_ef0 (ef_storeAs (vs := wzcs) rfl rfl (wover_cut (fs.set 0 l) ex wzcs rfl hne2) (by rw [List.length_append, wents_len, hl2]; show _ + 2 ≤ _; omega) rfl rfl) ?_
  refine swl_sub _ (.cons (t := 0) rfl (.cons (t := 4) rfl (.cons (t := 6) rfl .nil))) ?_
  refine swl_nil ?_
  refine then_n ?_
  refine swp_seq ?_
  refine swp_region ?_
  refine s_pu (pu_move rfl) ?_
  refine s_pu (pu_move rfl) ?_
  first | refine s_pu (pu_nilCheck rfl) ?_ | refine s_pu (pu_nilCheck_fn rfl) ?_ | refine s_pu (pu_nilCheck_if rfl) ?_
  first | refine s_pu (pu_fieldAddr0 rfl) ?_ | refine s_pu (pu_fieldAddr rfl) ?_
  refine s_rd (rd_load rfl rfl) ?_
  refine s_pu (pu_move rfl) ?_
  refine s_pu (pu_slice_hi (fs.length - 1) rfl rfl rfl (by omega)) ?_
  first | refine s_pu (pu_nilCheck rfl) ?_ | refine s_pu (pu_nilCheck_fn rfl) ?_ | refine s_pu (pu_nilCheck_if rfl) ?_
  first | refine s_pu (pu_fieldAddr0 rfl) ?_ | refine s_pu (pu_fieldAddr rfl) ?_
  refine s_ef0 (ef_store rfl rfl rfl) ?_
  refine swl_sub _ (.cons (t := 0) rfl (.cons (t := 4) rfl .nil)) ?_
  refine swl_nil ?_
  refine then_n ?_
  refine swp_seq ?_
  refine swp_region ?_
  refine s_pu (pu_move rfl) ?_
  have hl3 : (fs.set 0 l).dropLast.length = fs.length - 1 := by rw [List.length_dropLast, hl2]
  rw [← hl3]
  refine s_ef (ef_fn (sink_w q g cap _ (fs.set 0 l).dropLast (wzcs ++ ex) (by omega)) rfl rfl (by repeat (first | exact Split.nil | (apply Split.cons; (repeat (first | with_reducible exact Take.here | apply Take.there)))))) ?_
  rintro v L1 ⟨rfl, rfl⟩
  refine swl_app ?_
  refine swl_sub _ (.cons (t := 4) rfl .nil) ?_
  refine swl_nil ?_
  refine then_n ?_
  refine swp_seq ?_
  refine swp_region ?_
  refine s_pu (pu_move rfl) ?_
  refine s_pu (pu_assign rfl) ?_
  refine s_pu (pu_assign rfl) ?_
  refine swl_sub _ (.cons (t := 2) rfl (.cons (t := 3) rfl .nil)) ?_
  refine swl_nil ?_
  refine then_n ?_
  refine swp_ret ?_
  have hp : Hp.pop aW fs = Hp.down aW (fs.set 0 l).dropLast.length (fs.set 0 l).dropLast 0 := by
    have hgl : fs.getLast? = some l := by rw [List.getLast?_eq_getElem?]; exact hlast
    unfold Hp.pop
    rw [hgl]
    exact Hp.down_enough _ _ _ _ (by omega) (by omega)
  have hpl : (Hp.pop aW fs).length = (fs.set 0 l).dropLast.length := by rw [hp, Hp.down_length]
  rw [← hp, ← hpl]
  exact done_retE [wraw q (Hp.pop aW fs) nxt] (.tmp rfl (.tmp rfl .nil)) ⟨rfl, rfl⟩
    ((Split.ent' (K := [blk g 109 (wents (Hp.pop aW fs) ++ (wzcs ++ ex)), blk q 107 [.slice (some ⟨g, 0, none⟩) (Hp.pop aW fs).length cap, .int .u64 (nxt : Nat)]]) (by repeat (first | exact Split.nil | (apply Split.cons; (repeat (first | with_reducible exact Take.here | apply Take.there)))))).trans
      (wraw_close (by omega) o2 (by rw [List.length_append, o4, hpl, hl3]; show 2 + _ = _; omega)))
end SX.Wq
namespace SX.Wq
open Go Go.Proofs SX

theorem aW_trans (a b c : WI × Nat) (h1 : aW a b = true) (h2 : aW b c = true) : aW a c = true := Hp.ahd_trans ltW_ord a b c h1 h2

/-- a queue, by what comes out -/
def wa (q : Nat) (S : List (WI × Nat)) (nxt : Nat) : Assn := exA (fun es : {es : List (WI × Nat) // Hp.Rep aW es S ∧ ∀ y ∈ S, y.2 < nxt} => [wraw q es.1 nxt])
theorem wa_close {q nxt : Nat} {es S : List (WI × Nat)} {L : List Assn} (h : Hp.Rep aW es S) (h2 : ∀ y ∈ S, y.2 < nxt) : Ent (wraw q es nxt :: L) (wa q S nxt :: L) :=
  ent_ex (F := fun es : {es : List (WI × Nat) // Hp.Rep aW es S ∧ ∀ y ∈ S, y.2 < nxt} => [wraw q es.1 nxt]) ⟨es, h, h2⟩ (by repeat (first | exact Split.nil | (apply Split.cons; (repeat (first | with_reducible exact Take.here | apply Take.there)))))
theorem push_a (q : Nat) (S : List (WI × Nat)) (nxt : Nat) (x : WI) (hb1 : S.length ≤ 1099511627776) (hb2 : nxt ≤ 18446744073709551614) :
    Spec Tryd.prog 79 [.pointer (some ⟨q, 0, none⟩), wiV x] [wa q S nxt] (fun v L => v = .tuple #[] ∧ L = [wa q (Hp.ins aW (x, nxt) S) (nxt + 1)]) := by
  refine Spec.exA' fun ⟨es, hr, hn⟩ => ?_
  refine Spec.ent2 (push_w q es nxt x (by rw [hr.length]; exact hb1) hb2) (wa_close ?_ ?_)
  · refine hr.push (Hp.ahd_ord ltW_ord) aW_trans fun y hy h => Hp.ahd_total (by have := hn y hy; simp only; omega) h
  · intro y hy
    rcases Hp.mem_ins.1 hy with rfl | hy
    · simp
    · have := hn y hy; omega
theorem pop_a0 (q nxt : Nat) : Spec Tryd.prog 45 [.pointer (some ⟨q, 0, none⟩)] [wa q [] nxt] (fun v L => v = .tuple #[wiV wiZ, .bool false] ∧ L = [wa q [] nxt]) := by
  refine Spec.exA' fun ⟨es, hr, hn⟩ => ?_
  have he : es = [] := List.eq_nil_of_length_eq_zero (by rw [hr.length]; rfl)
  subst he
  exact Spec.ent2 (pop_w0 q nxt) (wa_close hr hn)
theorem pop_a (q nxt : Nat) (s : WI × Nat) (S : List (WI × Nat)) (hb : (s :: S).length ≤ 1099511627776) : Spec Tryd.prog 45 [.pointer (some ⟨q, 0, none⟩)] [wa q (s :: S) nxt] (fun v L => v = .tuple #[wiV s.1, .bool true] ∧ L = [wa q S nxt]) := by
  refine Spec.exA' fun ⟨es, hr, hn⟩ => ?_
  cases es with
  | nil => have := hr.length; simp at this
  | cons e es =>
    have hz : e = s := hr.head (Hp.ahd_ord ltW_ord) rfl
    subst hz
    exact Spec.ent2 (pop_w q nxt e es (by rw [hr.length]; exact hb)) (wa_close (hr.pop (Hp.ahd_ord ltW_ord)) fun y hy => hn y (List.mem_cons_of_mem _ hy))
theorem new_w : Spec Tryd.prog 75 [.slice none 0 0] [] (fun v L => ∃ q, v = .pointer (some ⟨q, 0, none⟩) ∧ L = [wa q [] 0]) := by
  refine Spec.of 19 Tryd.func75 rfl rfl rfl ?_
  refine swp_seq ?_
  refine swp_region ?_
  refine s_pu (pu_assign rfl) ?_
  refine swl_sub _ (.cons (t := 0) rfl .nil) ?_
  refine swl_nil ?_
  refine then_n ?_
  refine swp_seq ?_
  refine swp_region ?_
  refine s_pu (pu_bld (qs := []) rfl) ?_
  refine s_ef (ef_box rfl rfl) ?_
  intro b7
  refine s_pu (pu_assign rfl) ?_
  refine swl_sub _ (.cons (t := 0) rfl (.cons (t := 3) rfl .nil)) ?_
  refine swl_nil ?_
  refine then_n ?_
  refine swp_seq ?_
  refine swp_seq ?_
  refine swp_ent (wraw_nil (nxt := 0)) ?_
  refine swp_ent (wa_close Hp.Rep.nil (by simp)) ?_
  refine swp_region ?_
  refine s_pu (pu_move rfl) ?_
  refine s_pu (pu_len rfl) ?_
  refine s_pu (pu_move rfl) ?_
  refine swl_sub _ (.cons (t := 3) rfl (.cons (t := 8) rfl (.cons (t := 9) rfl (.cons (t := 10) rfl .nil)))) ?_
  refine swl_nil ?_
  refine then_n ?_
  refine swp_block ?_
  refine swp_loop (ι := Unit) (fun _ env L => env = [(3, _), (8, _), (9, .int .i64 0), (10, .int .i64 0)] ∧ L = [wa _ [] 0]) (fun _ => 0) () ⟨rfl, rfl⟩ ?_
  rintro _ env L ⟨rfl, rfl⟩
  refine swp_seq ?_
  refine swp_region ?_
  refine s_pu (pu_lss rfl rfl) ?_
  refine swl_sub _ (.cons (t := 3) rfl (.cons (t := 8) rfl (.cons (t := 9) rfl (.cons (t := 10) rfl (.cons (t := 11) rfl .nil))))) ?_
  refine swl_nil ?_
  refine then_n ?_
  refine swp_seq ?_
  refine swp_cond (b := _) rfl (fun h11 => by cases h11) (fun h11 => ?_)
  refine swp_exit ?_
  refine then_x ?_
  refine then_x ?_
  refine block_hit rfl ?_
  refine then_n ?_
  refine swp_seq ?_
  refine swp_region ?_
  refine s_pu (pu_move rfl) ?_
  refine s_pu (pu_assign rfl) ?_
  refine swl_sub _ (.cons (t := 2) rfl .nil) ?_
  refine swl_nil ?_
  refine then_n ?_
  refine swp_ret ?_
  exact done_ret _ (.tmp rfl .nil) ⟨_, rfl, rfl⟩ (by repeat (first | exact Split.nil | (apply Split.cons; (repeat (first | with_reducible exact Take.here | apply Take.there)))))
end SX.Wq
namespace SX.Wq
open Go Go.Proofs SX

theorem ins_fst {x nx : Nat} : ∀ {S : List (WI × Nat)} {Q : List Nat}, S.map (·.1) = Q.map (fun k : Nat => (k : Int)) → x ∉ Q → (Hp.ins aW ((x : Int), nx) S).map (·.1) = (insD x Q).map (fun k : Nat => (k : Int))
  | [], [], _, _ => rfl
  | [], _ :: _, h, _ => by simp at h
  | _ :: _, [], h, _ => by simp at h
  | s :: S, q :: Q, h, hx => by
    rw [List.map_cons, List.map_cons, List.cons.injEq] at h
    obtain ⟨h1, h2⟩ := h
    have hne : x ≠ q := fun e => hx (by rw [e]; exact List.mem_cons_self ..)
    have hA : aW ((x : Int), nx) s = decide (q < x) := by
      unfold aW Hp.ahd ltW
      rw [h1, Bool.eq_iff_iff]
      simp only [Bool.or_eq_true, Bool.and_eq_true, Bool.not_eq_true', decide_eq_true_eq, decide_eq_false_iff_not]
      show (@LT.lt Int _ q x ∨ _) ↔ _
      have e1 : (@LT.lt Int _ q x) ↔ q < x := by omega
      have e2 : (@LT.lt Int _ x q) ↔ x < q := by omega
      constructor
      · rintro (h | ⟨h, _⟩)
        · exact e1.1 h
        · have h' : ¬ @LT.lt Int _ (x : Int) (q : Int) := h
          omega
      · exact fun h => .inl (e1.2 h)
    unfold Hp.ins insD
    rw [hA]
    by_cases hq : q < x
    · rw [if_pos (decide_eq_true hq), if_pos hq, List.map_cons, List.map_cons, h1, h2]; rfl
    · rw [if_neg (by rw [decide_eq_false hq]; simp), if_neg hq, List.map_cons, List.map_cons, h1, ins_fst h2 (fun hm => hx (List.mem_cons_of_mem _ hm))]
/-- a queue of commits, by what comes out -/
def cq (q : Nat) (Q : List Nat) (nx : Nat) : Assn := exA (fun S : {S : List (WI × Nat) // S.map (·.1) = Q.map (fun k : Nat => (k : Int))} => [wa q S.1 nx])
theorem cq_close {q nx : Nat} {S : List (WI × Nat)} {Q : List Nat} {L : List Assn} (h : S.map (·.1) = Q.map (fun k : Nat => (k : Int))) : Ent (wa q S nx :: L) (cq q Q nx :: L) :=
  ent_ex (F := fun S : {S : List (WI × Nat) // S.map (·.1) = Q.map (fun k : Nat => (k : Int))} => [wa q S.1 nx]) ⟨S, h⟩ (by repeat (first | exact Split.nil | (apply Split.cons; (repeat (first | with_reducible exact Take.here | apply Take.there)))))
theorem len_fst {S : List (WI × Nat)} {Q : List Nat} (h : S.map (·.1) = Q.map (fun k : Nat => (k : Int))) : S.length = Q.length := by have := congrArg List.length h; rwa [List.length_map, List.length_map] at this
theorem push_q (q : Nat) (Q : List Nat) (nx x : Nat) (hx : x ∉ Q) (hb1 : Q.length ≤ 1099511627776) (hb2 : nx ≤ 18446744073709551614) :
    Spec Tryd.prog 79 [.pointer (some ⟨q, 0, none⟩), .int .i64 (x : Nat)] [cq q Q nx] (fun v L => v = .tuple #[] ∧ L = [cq q (insD x Q) (nx + 1)]) := by
  refine Spec.exA' fun ⟨S, hS⟩ => ?_
  exact Spec.ent2 (push_a q S nx (x : Int) (by rw [len_fst hS]; exact hb1) hb2) (cq_close (ins_fst hS hx))
theorem pop_q0 (q nx : Nat) : Spec Tryd.prog 45 [.pointer (some ⟨q, 0, none⟩)] [cq q [] nx] (fun v L => v = .tuple #[.int .i64 0, .bool false] ∧ L = [cq q [] nx]) := by
  refine Spec.exA' fun ⟨S, hS⟩ => ?_
  have he : S = [] := List.eq_nil_of_length_eq_zero (by rw [len_fst hS]; rfl)
  subst he
  exact Spec.ent2 (pop_a0 q nx) (cq_close rfl)
theorem pop_q (q nx c : Nat) (Q : List Nat) (hb : (c :: Q).length ≤ 1099511627776) : Spec Tryd.prog 45 [.pointer (some ⟨q, 0, none⟩)] [cq q (c :: Q) nx] (fun v L => v = .tuple #[.int .i64 (c : Nat), .bool true] ∧ L = [cq q Q nx]) := by
  refine Spec.exA' fun ⟨S, hS⟩ => ?_
  cases S with
  | nil => simp at hS
  | cons s S =>
    rw [List.map_cons, List.map_cons, List.cons.injEq] at hS
    have h := pop_a q nx s S (by have := len_fst hS.2; simp only [List.length_cons] at hb ⊢; omega)
    rw [hS.1] at h
    exact Spec.ent2 h (cq_close hS.2)
theorem new_q : Spec Tryd.prog 75 [.slice none 0 0] [] (fun v L => ∃ q, v = .pointer (some ⟨q, 0, none⟩) ∧ L = [cq q [] 0]) :=
  Spec.ent3 new_w fun v L ⟨q, hv, hL⟩ => ⟨_, by rw [hL]; exact cq_close rfl, q, hv, rfl⟩
end SX.Wq
namespace SX
open Go Go.Proofs

set_option maxHeartbeats 1000000 in
theorem rcheck_spec (μ : PH) (v : Value) (G : List (Value × List Int)) (hG : Graph μ v G) (hbig : G.length ≤ 1099511627776) : Spec Tryd.prog 41 [v] [ro μ] (fun r L => r = .int .i64 (chkFrom 0 (nums G)) ∧ L = [ro μ]) := by
  obtain ⟨A, cap, hv⟩ := hG.1.sl
  subst hv
  refine Spec.of 49 Tryd.func41 rfl rfl rfl ?_
  refine swp_seq ?_
  refine swp_region ?_
  refine s_pu (pu_assign rfl) ?_
  refine swl_sub _ (.cons (t := 0) rfl .nil) ?_
  refine swl_nil ?_
  refine then_n ?_
  refine swp_seq ?_
  refine swp_seq ?_
  refine swp_region ?_
  refine s_pu (pu_assign rfl) ?_
  refine swl_sub _ (.cons (t := 0) rfl (.cons (t := 3) rfl .nil)) ?_
  refine swl_nil ?_
  refine then_n ?_
  refine swp_block ?_
  refine swp_loop (ι := Nat) (fun i env L => env = [(0, .slice A G.length cap), (3, .int .i64 (i : Nat))] ∧ L = [ro μ] ∧ i ≤ G.length ∧ chkFrom i ((nums G).drop i) = chkFrom 0 (nums G)) (fun i => G.length - i) 0 ⟨rfl, rfl, Nat.zero_le _, rfl⟩ ?_
  rintro i env L ⟨rfl, rfl, hi, hch⟩
  refine swp_seq ?_
  refine swp_seq ?_
  refine swp_region ?_
  refine s_pu (pu_move rfl) ?_
  refine s_pu (pu_move rfl) ?_
  refine s_pu (pu_len rfl) ?_
  refine s_pu (pu_lss rfl rfl) ?_
  refine swl_sub _ (.cons (t := 0) rfl (.cons (t := 3) rfl (.cons (t := 10) rfl .nil))) ?_
  refine swl_nil ?_
  refine then_n ?_
  refine swp_cond (b := _) rfl (fun h10 => ?_) (fun h10 => ?_)
  · skip   -- 10 T
    have h10' : i < G.length := by have := of_decide_eq_true h10; omega
    obtain ⟨gb, off, cap', hv, c1, c2, hr⟩ := hG.1.pos (by omega)
    simp only [Value.slice.injEq, true_and] at hv
    obtain ⟨rfl, rfl⟩ := hv
    obtain ⟨x, hx⟩ : ∃ x, G[i]? = some x := ⟨_, List.getElem?_eq_getElem h10'⟩
    have hrk := hr.elem gcs_len hx
    have hxr := hG.2 x (List.mem_of_getElem? hx)
    have hxs := hxr.small
    have hci := chkFrom_at (g := nums G) (i := i) (l := x.2) (by rw [List.getElem?_map, hx]; rfl)
    rw [hch] at hci
    refine swp_skip ?_
    refine then_n ?_
    refine swp_seq ?_
    refine swp_block ?_
    refine swp_seq ?_
    refine swp_region ?_
    refine s_pu (pu_assign rfl) ?_
    refine swl_sub _ (.cons (t := 0) rfl (.cons (t := 3) rfl (.cons (t := 4) rfl .nil))) ?_
    refine swl_nil ?_
    refine then_n ?_
    refine swp_seq ?_
    refine swp_seq ?_
    refine swp_region ?_
    refine s_pu (pu_move rfl) ?_
    refine s_pu (pu_move rfl) ?_
    refine s_pu (pu_indexAddr (off + i * 1) rfl rfl (by omega) (by omega) (by rw [Int.toNat_natCast])) ?_
    refine s_rd (rd_ro rfl hrk.cell) ?_
    refine s_pu (pu_len_row hxr rfl) ?_
    refine s_pu (pu_gtr rfl rfl) ?_
    refine swl_sub _ (.cons (t := 0) rfl (.cons (t := 3) rfl (.cons (t := 4) rfl (.cons (t := 18) rfl .nil)))) ?_
    refine swl_nil ?_
    refine then_n ?_
    refine swp_cond (b := _) rfl (fun h18 => ?_) (fun h18 => ?_)
    · skip   -- 18 T
      refine swp_region ?_
      refine s_pu (pu_move rfl) ?_
      refine s_ef (ef_make1 i rfl rfl rfl (by omega) (by simp only [maxLen]; omega)) ?_
      rintro b20
      skip
      refine s_pu (pu_assign rfl) ?_
      refine swl_sub _ (.cons (t := 0) rfl (.cons (t := 3) rfl (.cons (t := 4) rfl .nil))) ?_
      refine swl_nil ?_
      refine then_n ?_
      refine swp_seq ?_
      refine swp_region ?_
      refine s_pu (pu_assign rfl) ?_
      refine swl_sub _ (.cons (t := 0) rfl (.cons (t := 3) rfl (.cons (t := 4) rfl (.cons (t := 5) rfl .nil)))) ?_
      refine swl_nil ?_
      refine then_n ?_
      refine swp_block ?_
      refine swp_loop (ι := Nat) (fun j env L => env = [(0, .slice (some ⟨gb, off, none⟩) G.length cap), (3, .int .i64 (i : Nat)), (4, .slice (some ⟨b20, 0, none⟩) i i), (5, .int .i64 (j : Nat))] ∧ L = [blk b20 4 (rbs i fun k => decide ((k : Int) ∈ x.2.take j)), ro μ] ∧ j ≤ x.2.length ∧ rowErr i (x.2.take j) (x.2.drop j) = rowErr i [] x.2) (fun j => x.2.length - j) 0 ⟨rfl, ?_, Nat.zero_le _, rfl⟩ ?_
      · have e : rbs i (fun k => decide ((k : Int) ∈ x.2.take 0)) = List.replicate i (.bool false) := by
          apply List.ext_getElem?
          intro j
          simp [rbs, List.getElem?_replicate]
          split <;> simp_all
        rw [e]
      rintro j env L ⟨rfl, rfl, hj, hre⟩
      refine swp_seq ?_
      refine swp_seq ?_
      refine swp_region ?_
      refine s_pu (pu_move rfl) ?_
      refine s_pu (pu_move rfl) ?_
      refine s_pu (pu_move rfl) ?_
      refine s_pu (pu_indexAddr (off + i * 1) rfl rfl (by omega) (by omega) (by rw [Int.toNat_natCast])) ?_
      refine s_rd (rd_ro rfl hrk.cell) ?_
      refine s_pu (pu_len_row hxr rfl) ?_
      refine s_pu (pu_lss rfl rfl) ?_
      refine swl_sub _ (.cons (t := 0) rfl (.cons (t := 3) rfl (.cons (t := 4) rfl (.cons (t := 5) rfl (.cons (t := 27) rfl .nil))))) ?_
      refine swl_nil ?_
      refine then_n ?_
      refine swp_cond (b := _) rfl (fun h27 => ?_) (fun h27 => ?_)
      · skip   -- 27 T
        have h27' : j < x.2.length := by have := of_decide_eq_true h27; omega
        obtain ⟨pb, poff, pcap, hpv, p1, p2, hpr⟩ := hxr.pos (by omega)
        obtain ⟨p, hp⟩ : ∃ p, x.2[j]? = some p := ⟨_, List.getElem?_eq_getElem h27'⟩
        have hpk := hpr.elem (icsk_len .i64) hp
        rw [rowErr_at hp] at hre
        refine swp_skip ?_
        refine then_n ?_
        refine swp_seq ?_
        refine swp_block ?_
        refine swp_seq ?_
        refine swp_region ?_
        refine s_pu (pu_move rfl) ?_
        refine s_pu (pu_move rfl) ?_
        refine s_pu (pu_indexAddr (off + i * 1) rfl rfl (by omega) (by omega) (by rw [Int.toNat_natCast])) ?_
        refine s_rd (rd_ro rfl (hpv ▸ hrk.cell)) ?_
        refine s_pu (pu_move rfl) ?_
        refine s_pu (pu_indexAddr (poff + j * 1) rfl rfl (by omega) (by omega) (by rw [Int.toNat_natCast])) ?_
        refine s_rd (rd_ro rfl hpk.cell) ?_
        refine s_pu (pu_assign rfl) ?_
        refine swl_sub _ (.cons (t := 0) rfl (.cons (t := 3) rfl (.cons (t := 4) rfl (.cons (t := 5) rfl (.cons (t := 6) rfl .nil))))) ?_
        refine swl_nil ?_
        refine then_n ?_
        refine swp_seq ?_
        refine swp_seq ?_
        refine swp_region ?_
        refine s_pu (pu_move rfl) ?_
        refine s_pu (pu_lss rfl rfl) ?_
        refine swl_sub _ (.cons (t := 0) rfl (.cons (t := 3) rfl (.cons (t := 4) rfl (.cons (t := 5) rfl (.cons (t := 6) rfl (.cons (t := 38) rfl .nil)))))) ?_
        refine swl_nil ?_
        refine then_n ?_
        refine swp_cond (b := _) rfl (fun h38 => ?_) (fun h38 => ?_)
        · skip   -- 38 T
          rw [if_pos (of_decide_eq_true h38)] at hre
          refine swp_seq ?_
          refine swp_region ?_
          refine s_pu (pu_assign rfl) ?_
          refine swl_sub _ (.cons (t := 2) rfl .nil) ?_
          refine swl_nil ?_
          refine then_n ?_
          refine swp_ret ?_
          refine then_r ?_
          refine block_r ?_
          refine then_r ?_
          refine then_r ?_
          refine block_r ?_
          refine block_r ?_
          refine then_r ?_
          refine then_r ?_
          refine block_r ?_
          refine then_r ?_
          exact done_ret [ro μ] (.tmp rfl .nil) ⟨by rw [hci, ← hre, if_neg (by decide)]; rfl, rfl⟩ (by repeat (first | exact Split.nil | (apply Split.cons; (repeat (first | with_reducible exact Take.here | apply Take.there)))))
        · skip   -- 38 F
          rw [if_neg (of_decide_eq_false h38)] at hre
          have h38' := of_decide_eq_false h38
          refine swp_skip ?_
          refine then_n ?_
          refine swp_seq ?_
          refine swp_seq ?_
          refine swp_region ?_
          refine s_pu (pu_move rfl) ?_
          refine s_pu (pu_move rfl) ?_
          refine s_pu (pu_geq rfl rfl) ?_
          refine swl_sub _ (.cons (t := 0) rfl (.cons (t := 3) rfl (.cons (t := 4) rfl (.cons (t := 5) rfl (.cons (t := 6) rfl (.cons (t := 41) rfl .nil)))))) ?_
          refine swl_nil ?_
          refine then_n ?_
          refine swp_cond (b := _) rfl (fun h41 => ?_) (fun h41 => ?_)
          · skip   -- 41 T
            rw [if_pos (of_decide_eq_true h41)] at hre
            refine swp_seq ?_
            refine swp_region ?_
            refine s_pu (pu_assign rfl) ?_
            refine swl_sub _ (.cons (t := 2) rfl .nil) ?_
            refine swl_nil ?_
            refine then_n ?_
            refine swp_ret ?_
            refine then_r ?_
            refine block_r ?_
            refine then_r ?_
            refine then_r ?_
            refine block_r ?_
            refine block_r ?_
            refine then_r ?_
            refine then_r ?_
            refine block_r ?_
            refine then_r ?_
            exact done_ret [ro μ] (.tmp rfl .nil) ⟨by rw [hci, ← hre, if_neg (by decide)]; rfl, rfl⟩ (by repeat (first | exact Split.nil | (apply Split.cons; (repeat (first | with_reducible exact Take.here | apply Take.there)))))
          · skip   -- 41 F
            rw [if_neg (of_decide_eq_false h41)] at hre
            have h41' := of_decide_eq_false h41
            obtain ⟨k, rfl⟩ : ∃ k : Nat, p = k := ⟨p.toNat, by omega⟩
            refine swp_skip ?_
            refine then_n ?_
            refine swp_seq ?_
            refine swp_seq ?_
            refine swp_region ?_
            refine s_pu (pu_move rfl) ?_
            refine s_pu (pu_move rfl) ?_
            refine s_pu (pu_indexAddr k rfl rfl (by omega) (by omega) (by omega)) ?_
            refine s_rd (rd_load rfl (rbs_get _ (by omega))) ?_
            refine swl_sub _ (.cons (t := 0) rfl (.cons (t := 3) rfl (.cons (t := 4) rfl (.cons (t := 5) rfl (.cons (t := 6) rfl (.cons (t := 45) rfl .nil)))))) ?_
            refine swl_nil ?_
            refine then_n ?_
            refine swp_cond (b := _) rfl (fun h45 => ?_) (fun h45 => ?_)
            · skip   -- 45 T
              rw [if_pos (of_decide_eq_true h45)] at hre
              refine swp_seq ?_
              refine swp_region ?_
              refine s_pu (pu_assign rfl) ?_
              refine swl_sub _ (.cons (t := 2) rfl .nil) ?_
              refine swl_nil ?_
              refine then_n ?_
              refine swp_ret ?_
              refine then_r ?_
              refine block_r ?_
              refine then_r ?_
              refine then_r ?_
              refine block_r ?_
              refine block_r ?_
              refine then_r ?_
              refine then_r ?_
              refine block_r ?_
              refine then_r ?_
              exact done_ret [ro μ] (.tmp rfl .nil) ⟨by rw [hci, ← hre, if_neg (by decide)]; rfl, rfl⟩ (by repeat (first | exact Split.nil | (apply Split.cons; (repeat (first | with_reducible exact Take.here | apply Take.there)))))
            · skip   -- 45 F
              rw [if_neg (of_decide_eq_false h45)] at hre
              refine swp_skip ?_
              refine then_n ?_
              refine swp_region ?_
              refine s_pu (pu_move rfl) ?_
              refine s_pu (pu_move rfl) ?_
              refine s_pu (pu_indexAddr k rfl rfl (by omega) (by omega) (by omega)) ?_
              refine s_ef0 (ef_storeP rfl rfl rfl (by rw [rbs_len]; omega)) ?_
              refine swl_sub _ (.cons (t := 0) rfl (.cons (t := 3) rfl (.cons (t := 4) rfl (.cons (t := 5) rfl .nil)))) ?_
              rw [rbs_set (T := fun y => decide ((y : Int) ∈ x.2.take (j + 1))) (fun y hy => by
                rw [List.take_add_one, hp]
                by_cases e : y = k
                · subst e; simp
                · have : (y : Int) ≠ k := by omega
                  simp [e, this])]
              refine swl_nil ?_
              refine block_n ?_
              refine then_n ?_
              refine swp_region ?_
              refine s_pu (pu_move rfl) ?_
              refine s_pu (pu_add_as ((j + 1 : Nat) : Int) rfl rfl (by omega) (by omega) (by omega)) ?_
              refine s_pu (pu_assign rfl) ?_
              refine swl_sub _ (.cons (t := 0) rfl (.cons (t := 3) rfl (.cons (t := 4) rfl (.cons (t := 5) rfl .nil)))) ?_
              refine swl_nil ?_
              exact then_n ⟨j + 1, ⟨rfl, rfl, h27', hre⟩, by omega⟩
      · skip   -- 27 F
        have hz : chkFrom 0 (nums G) = chkFrom (i + 1) ((nums G).drop (i + 1)) := by
          first
          | (have h27' := of_decide_eq_false h27
             obtain rfl : j = x.2.length := by omega
             rw [List.drop_length] at hre
             have hz : rowErr i [] x.2 = 0 := hre.symm
             rw [if_pos hz] at hci
             exact hci)
          | (have hz : rowErr i [] x.2 = 0 := by rw [List.eq_nil_of_length_eq_zero hx0]; rfl
             rw [if_pos hz] at hci
             exact hci)
        refine swp_exit ?_
        refine then_x ?_
        refine then_x ?_
        refine block_hit rfl ?_
        refine block_n ?_
        refine then_n ?_
        refine swp_region ?_
        refine s_pu (pu_move rfl) ?_
        refine s_pu (pu_add_as ((i + 1 : Nat) : Int) rfl rfl (by omega) (by omega) (by omega)) ?_
        refine s_pu (pu_assign rfl) ?_
        refine swl_sub _ (.cons (t := 0) rfl (.cons (t := 3) rfl .nil)) ?_
        refine swl_ent (Split.ent' (K := [ro μ]) (by repeat (first | exact Split.nil | (apply Split.cons; (repeat (first | with_reducible exact Take.here | apply Take.there)))))) ?_
        refine swl_nil ?_
        exact then_n ⟨i + 1, ⟨rfl, rfl, h10', hz.symm⟩, by omega⟩
    · skip   -- 18 F
      have h18' := of_decide_eq_false h18
      have hx0 : x.2.length = 0 := by omega
      refine swp_skip ?_
      refine then_n ?_
      refine swp_seq ?_
      refine swp_region ?_
      refine s_pu (pu_assign rfl) ?_
      refine swl_sub _ (.cons (t := 0) rfl (.cons (t := 3) rfl (.cons (t := 4) rfl (.cons (t := 5) rfl .nil)))) ?_
      refine swl_nil ?_
      refine then_n ?_
      refine swp_block ?_
      refine swp_sub _ (.cons (t := 0) rfl (.cons (t := 3) rfl (.cons (t := 4) rfl (.cons (t := 5) rfl .nil)))) ?_
      refine swp_loop (ι := Nat) (fun j env L => env = [(0, .slice (some ⟨gb, off, none⟩) G.length cap), (3, .int .i64 (i : Nat)), (4, .slice none 0 0), (5, .int .i64 0)] ∧ L = [ro μ]) (fun j => j) 0 ⟨rfl, rfl⟩ ?_
      rintro j env L ⟨rfl, rfl⟩
      refine swp_seq ?_
      refine swp_seq ?_
      refine swp_region ?_
      refine s_pu (pu_move rfl) ?_
      refine s_pu (pu_move rfl) ?_
      refine s_pu (pu_move rfl) ?_
      refine s_pu (pu_indexAddr (off + i * 1) rfl rfl (by omega) (by omega) (by rw [Int.toNat_natCast])) ?_
      refine s_rd (rd_ro rfl hrk.cell) ?_
      refine s_pu (pu_len_row hxr rfl) ?_
      refine s_pu (pu_lss rfl rfl) ?_
      refine swl_sub _ (.cons (t := 0) rfl (.cons (t := 3) rfl (.cons (t := 4) rfl (.cons (t := 5) rfl (.cons (t := 27) rfl .nil))))) ?_
      refine swl_nil ?_
      refine then_n ?_
      refine swp_cond (b := _) rfl (fun h27 => by have := of_decide_eq_true h27; omega) (fun h27 => ?_)
      have hz : chkFrom 0 (nums G) = chkFrom (i + 1) ((nums G).drop (i + 1)) := by
        first
        | (have h27' := of_decide_eq_false h27
           obtain rfl : j = x.2.length := by omega
           rw [List.drop_length] at hre
           have hz : rowErr i [] x.2 = 0 := hre.symm
           rw [if_pos hz] at hci
           exact hci)
        | (have hz : rowErr i [] x.2 = 0 := by rw [List.eq_nil_of_length_eq_zero hx0]; rfl
           rw [if_pos hz] at hci
           exact hci)
      refine swp_exit ?_
      refine then_x ?_
      refine then_x ?_
      refine block_hit rfl ?_
      refine block_n ?_
      refine then_n ?_
      refine swp_region ?_
      refine s_pu (pu_move rfl) ?_
      refine s_pu (pu_add_as ((i + 1 : Nat) : Int) rfl rfl (by omega) (by omega) (by omega)) ?_
      refine s_pu (pu_assign rfl) ?_
      refine swl_sub _ (.cons (t := 0) rfl (.cons (t := 3) rfl .nil)) ?_
      refine swl_ent (Split.ent' (K := [ro μ]) (by repeat (first | exact Split.nil | (apply Split.cons; (repeat (first | with_reducible exact Take.here | apply Take.there)))))) ?_
      refine swl_nil ?_
      exact then_n ⟨i + 1, ⟨rfl, rfl, h10', hz.symm⟩, by omega⟩
  · skip   -- 10 F
    refine swp_exit ?_
    refine then_x ?_
    refine then_x ?_
    refine block_hit rfl ?_
    refine then_n ?_
    refine swp_seq ?_
    refine swp_region ?_
    refine s_pu (pu_assign rfl) ?_
    refine swl_sub _ (.cons (t := 2) rfl .nil) ?_
    refine swl_nil ?_
    refine then_n ?_
    refine swp_ret ?_
    have h10' := of_decide_eq_false h10
    have hd : (nums G).drop i = [] := List.drop_eq_nil_of_le (by rw [List.length_map]; omega)
    rw [hd] at hch
    exact done_ret [ro μ] (.tmp rfl .nil) ⟨by rw [← hch]; rfl, rfl⟩ (by repeat (first | exact Split.nil | (apply Split.cons; (repeat (first | with_reducible exact Take.here | apply Take.there)))))
end SX
namespace SX
open Go Go.Proofs

theorem rcounts_spec (n : Int) : Spec Tryd.prog 49 [.int .i64 n] [] (fun r L => r = .int .i64 (cnt n) ∧ L = []) := by
  refine Spec.of 8 Tryd.func49 rfl rfl rfl ?_
  refine swp_seq ?_
  refine swp_region ?_
  refine s_pu (pu_assign rfl) ?_
  refine swl_sub _ (.cons (t := 0) rfl .nil) ?_
  refine swl_nil ?_
  refine then_n ?_
  refine swp_seq ?_
  refine swp_seq ?_
  refine swp_region ?_
  refine s_pu (pu_move rfl) ?_
  refine s_pu (pu_lss rfl rfl) ?_
  refine swl_sub _ (.cons (t := 0) rfl (.cons (t := 4) rfl .nil)) ?_
  refine swl_nil ?_
  refine then_n ?_
  refine swp_cond (b := _) rfl (fun h4 => ?_) (fun h4 => ?_)
  · skip   -- 4 T
    refine swp_seq ?_
    refine swp_region ?_
    refine s_pu (pu_assign rfl) ?_
    refine swl_sub _ (.cons (t := 2) rfl .nil) ?_
    refine swl_nil ?_
    refine then_n ?_
    refine swp_ret ?_
    refine then_r ?_
    have h := of_decide_eq_true h4
    exact done_ret [] (.tmp rfl .nil) ⟨congrArg (Value.int .i64) (by unfold cnt; rw [if_neg (by omega)]; omega), rfl⟩ (by repeat (first | exact Split.nil | (apply Split.cons; (repeat (first | with_reducible exact Take.here | apply Take.there)))))
  · skip   -- 4 F
    refine swp_skip ?_
    refine then_n ?_
    refine swp_seq ?_
    refine swp_seq ?_
    refine swp_region ?_
    refine s_pu (pu_move rfl) ?_
    refine s_pu (pu_gtr rfl rfl) ?_
    refine swl_sub _ (.cons (t := 0) rfl (.cons (t := 6) rfl .nil)) ?_
    refine swl_nil ?_
    refine then_n ?_
    refine swp_cond (b := _) rfl (fun h6 => ?_) (fun h6 => ?_)
    · skip   -- 6 T
      refine swp_seq ?_
      refine swp_region ?_
      refine s_pu (pu_assign rfl) ?_
      refine swl_sub _ (.cons (t := 2) rfl .nil) ?_
      refine swl_nil ?_
      refine then_n ?_
      refine swp_ret ?_
      refine then_r ?_
      have h := of_decide_eq_true h6
      exact done_ret [] (.tmp rfl .nil) ⟨congrArg (Value.int .i64) (by unfold cnt; rw [if_pos h]), rfl⟩ (by repeat (first | exact Split.nil | (apply Split.cons; (repeat (first | with_reducible exact Take.here | apply Take.there)))))
    · skip   -- 6 F
      refine swp_skip ?_
      refine then_n ?_
      refine swp_seq ?_
      refine swp_region ?_
      refine s_pu (pu_move rfl) ?_
      refine s_pu (pu_assign rfl) ?_
      refine swl_sub _ (.cons (t := 2) rfl .nil) ?_
      refine swl_nil ?_
      refine then_n ?_
      refine swp_ret ?_
      have h := of_decide_eq_false h4
      have h' := of_decide_eq_false h6
      exact done_ret [] (.tmp rfl .nil) ⟨congrArg (Value.int .i64) (by unfold cnt; rw [if_neg h']; omega), rfl⟩ (by repeat (first | exact Split.nil | (apply Split.cons; (repeat (first | with_reducible exact Take.here | apply Take.there)))))
theorem rnext_spec (v : Value) (xs : List Int) (L0 : List Assn) (hv : Ints Tryd.prog 3 L0 v xs) : Spec Tryd.prog 90 [v] L0 (fun r L => r = .int .i64 (nxt xs) ∧ L = L0) := by
  obtain ⟨A, cap, rfl, hl, ha⟩ := hv
  have hr := hiG_range xs
  refine Spec.of 26 Tryd.func90 rfl rfl rfl ?_
  refine swp_seq ?_
  refine swp_region ?_
  refine s_pu (pu_assign rfl) ?_
  refine swl_sub _ (.cons (t := 0) rfl .nil) ?_
  refine swl_nil ?_
  refine then_n ?_
  refine swp_seq ?_
  refine swp_region ?_
  refine s_pu (pu_assign rfl) ?_
  refine swl_sub _ (.cons (t := 0) rfl (.cons (t := 3) rfl .nil)) ?_
  refine swl_nil ?_
  refine then_n ?_
  refine swp_seq ?_
  refine swp_seq ?_
  refine swp_region ?_
  refine s_pu (pu_assign rfl) ?_
  refine swl_sub _ (.cons (t := 0) rfl (.cons (t := 3) rfl (.cons (t := 4) rfl .nil))) ?_
  refine swl_nil ?_
  refine then_n ?_
  refine swp_block ?_
  refine swp_loop (ι := Nat) (fun k env L => env = [(0, .slice A xs.length cap), (3, .int .i64 (hiG (xs.take k))), (4, .int .i64 (k : Nat))] ∧ L = L0 ∧ k ≤ xs.length) (fun k => xs.length - k) 0 ⟨rfl, rfl, Nat.zero_le _⟩ ?_
  rintro k env L ⟨rfl, rfl, hk⟩
  refine swp_seq ?_
  refine swp_seq ?_
  refine swp_region ?_
  refine s_pu (pu_move rfl) ?_
  refine s_pu (pu_move rfl) ?_
  refine s_pu (pu_len rfl) ?_
  refine s_pu (pu_lss rfl rfl) ?_
  refine swl_sub _ (.cons (t := 0) rfl (.cons (t := 3) rfl (.cons (t := 4) rfl (.cons (t := 8) rfl .nil)))) ?_
  refine swl_nil ?_
  refine then_n ?_
  refine swp_cond (b := _) rfl (fun h8 => ?_) (fun h8 => ?_)
  · skip   -- 8 T
    have h8' : k < xs.length := by have := of_decide_eq_true h8; omega
    obtain ⟨b, off, rfl, hld⟩ := ha (by omega)
    obtain ⟨x, hx⟩ : ∃ x, xs[k]? = some x := ⟨_, List.getElem?_eq_getElem h8'⟩
    refine swp_skip ?_
    refine then_n ?_
    refine swp_seq ?_
    refine swp_block ?_
    refine swp_region ?_
    refine s_pu (pu_move rfl) ?_
    refine s_pu (pu_move rfl) ?_
    refine s_pu (pu_move rfl) ?_
    refine s_pu (pu_indexAddr (off + k * 1) rfl rfl (by omega) (by omega) (by rw [Int.toNat_natCast])) ?_
    refine s_rd (rd_of_ld rfl (by rw [Nat.mul_one]; exact hld k x hx)) ?_
    refine s_ef (ef_fn (rcounts_spec x) rfl rfl (by repeat (first | exact Split.nil | (apply Split.cons; (repeat (first | with_reducible exact Take.here | apply Take.there)))))) ?_
    rintro v1 L1 ⟨rfl, rfl⟩
    refine swl_app ?_
    refine s_pu (pu_max2 rfl rfl) ?_
    refine s_pu (pu_assign rfl) ?_
    refine swl_sub _ (.cons (t := 0) rfl (.cons (t := 3) rfl (.cons (t := 4) rfl .nil))) ?_
    refine swl_nil ?_
    refine block_n ?_
    refine then_n ?_
    refine swp_region ?_
    refine s_pu (pu_move rfl) ?_
    refine s_pu (pu_add_as ((k + 1 : Nat) : Int) rfl rfl (by omega) (by omega) (by omega)) ?_
    refine s_pu (pu_assign rfl) ?_
    refine swl_sub _ (.cons (t := 0) rfl (.cons (t := 3) rfl (.cons (t := 4) rfl .nil))) ?_
    refine swl_nil ?_
    exact then_n ⟨k + 1, ⟨by rw [List.take_add_one, hx]; show _ = [_, (3, Value.int .i64 (hiG (xs.take k ++ [x]))), _]; rw [hiG_append], rfl, h8'⟩, by omega⟩
  · skip   -- 8 F
    have h8' := of_decide_eq_false h8
    obtain rfl : k = xs.length := by omega
    rw [List.take_length]
    refine swp_exit ?_
    refine then_x ?_
    refine then_x ?_
    refine block_hit rfl ?_
    refine then_n ?_
    refine swp_seq ?_
    refine swp_block ?_
    refine swp_seq ?_
    refine swp_region ?_
    refine s_pu (pu_move rfl) ?_
    refine s_pu (pu_eql rfl rfl) ?_
    refine s_pu (pu_assign rfl) ?_
    refine swl_sub _ (.cons (t := 3) rfl (.cons (t := 18) rfl .nil)) ?_
    refine swl_nil ?_
    refine then_n ?_
    refine swp_cond (b := _) rfl (fun h18 => ?_) (fun h18 => ?_)
    · skip   -- 18 T
      refine swp_seq ?_
      refine swp_region ?_
      refine s_pu (pu_assign rfl) ?_
      refine swl_sub _ (.cons (t := 2) rfl .nil) ?_
      refine swl_nil ?_
      refine then_n ?_
      refine swp_ret ?_
      refine block_r ?_
      refine then_r ?_
      have h := of_decide_eq_true h18
      exact done_ret _ (.tmp rfl .nil) ⟨congrArg (Value.int .i64) (by unfold nxt; rw [if_pos (by omega)]; exact h.symm), rfl⟩ Split.all
    · skip   -- 18 F
      refine swp_seq ?_
      refine swp_region ?_
      refine s_pu (pu_move rfl) ?_
      refine s_pu (pu_eql rfl rfl) ?_
      refine s_pu (pu_assign rfl) ?_
      refine swl_sub _ (.cons (t := 3) rfl (.cons (t := 21) rfl .nil)) ?_
      refine swl_nil ?_
      refine then_n ?_
      refine swp_cond (b := _) rfl (fun h21 => ?_) (fun h21 => ?_)
      · skip   -- 21 T
        refine swp_seq ?_
        refine swp_region ?_
        refine s_pu (pu_assign rfl) ?_
        refine swl_sub _ (.cons (t := 2) rfl .nil) ?_
        refine swl_nil ?_
        refine then_n ?_
        refine swp_ret ?_
        refine block_r ?_
        refine then_r ?_
        have h := of_decide_eq_true h21
        exact done_ret _ (.tmp rfl .nil) ⟨congrArg (Value.int .i64) (by unfold nxt; rw [if_pos (by omega)]; exact h.symm), rfl⟩ Split.all
      · skip   -- 21 F
        refine swp_skip ?_
        refine block_n ?_
        refine then_n ?_
        refine swp_seq ?_
        refine swp_region ?_
        refine s_pu (pu_move rfl) ?_
        first | refine s_pu (pu_add_in rfl rfl (by omega) (by omega)) ?_ | refine s_pu (pu_add rfl rfl) ?_
        refine s_pu (pu_assign rfl) ?_
        refine swl_sub _ (.cons (t := 2) rfl .nil) ?_
        refine swl_nil ?_
        refine then_n ?_
        refine swp_ret ?_
        have h := of_decide_eq_false h18
        have h' := of_decide_eq_false h21
        exact done_ret _ (.tmp rfl .nil) ⟨congrArg (Value.int .i64) (by unfold nxt; rw [if_neg (by omega)]), rfl⟩ Split.all
theorem row_at {μ : PH} {v : Value} {G : List (Value × List Int)} (hG : Graph μ v G) {i : Nat} (hi : i < G.length) : ∃ gb off cap x, v = .slice (some ⟨gb, off, none⟩) G.length cap ∧ G[i]? = some x ∧ CellAt μ gb (off + i * 1) x.1 ∧ Row μ x.1 1 x.2.length (x.2.flatMap (icsk .i64)) ∧ (nums G)[i]? = some x.2 := by
  obtain ⟨gb, off, cap, hv, _, _, hr⟩ := hG.1.pos (by omega)
  have hx : G[i]? = some G[i] := List.getElem?_eq_getElem hi
  exact ⟨gb, off, cap, G[i], hv, hx, (hr.elem gcs_len hx).cell, hG.2 _ (List.mem_of_getElem? hx), by rw [List.getElem?_map, hx]; rfl⟩
theorem icells_len' (xs : List Int) : (xs.flatMap (icsk .i64)).length = xs.length * 1 := flat_length (icsk_len .i64) xs
theorem icells_get' {xs : List Int} {k : Nat} {z : Int} (hz : xs[k]? = some z) : (xs.flatMap (icsk .i64))[k]? = some (.int .i64 z) := by
  have := flat_get (icsk_len .i64) xs [] k z hz 0 (.int .i64 z) rfl
  rwa [List.append_nil, Nat.mul_one] at this
theorem shape_len {v : Value} {l : Nat} (h : Shape v l) : ∃ A cap, v = .slice A l cap := by
  rcases h with ⟨h1, h2⟩ | ⟨b, cap, h1, _⟩
  · exact ⟨none, 0, by rw [h1, h2]⟩
  · exact ⟨_, _, h1⟩
theorem shape_pos {v : Value} {l : Nat} (h : Shape v l) (h0 : 0 < l) : ∃ b cap, v = .slice (some ⟨b, 0, none⟩) l cap := by
  rcases h with ⟨_, h2⟩ | ⟨b, cap, h1, _⟩
  · omega
  · exact ⟨b, cap, h1⟩
/-- the answer: numbers, and the error -/
def moreL (K : List Int) (g : List (List Int)) : List Int := match moreG K g with
  | some all => all.drop K.length
  | none => []
def moreE (K : List Int) (g : List (List Int)) : Int := match moreG K g with
  | some _ => 0
  | none => 1
theorem moreL_some {K a : List Int} {g : List (List Int)} (h : moreG K g = some a) : moreL K g = a.drop K.length ∧ moreE K g = 0 := by unfold moreL moreE; rw [h]; exact ⟨rfl, rfl⟩
theorem moreL_none {K : List Int} {g : List (List Int)} (h : moreG K g = none) : moreL K g = [] ∧ moreE K g = 1 := by unfold moreL moreE; rw [h]; exact ⟨rfl, rfl⟩
theorem nodup_snoc {l : List Int} {i : Nat} {y : Int} (hy : l[i]? = some y) (h : (l.take i).Nodup) : (l.take (i + 1)).Nodup ↔ y ∉ l.take i := by
  rw [List.take_add_one, hy]
  show (l.take i ++ [y]).Nodup ↔ _
  rw [List.nodup_append]
  exact ⟨fun h hm => h.2.2 y hm y (by simp) rfl, fun hn => ⟨h, by simp, fun a ha b hb e => by
    obtain rfl := List.mem_singleton.1 hb
    subst e; exact hn ha⟩⟩
set_option maxHeartbeats 1000000 in
theorem rtwice_spec (μ : PH) (v : Value) (xs : List Int) (n : Nat) (hv : Row μ v 1 xs.length (xs.flatMap (icsk .i64))) (hin : ∀ p ∈ xs, 0 ≤ p ∧ p < n) (hn : n ≤ 1099511627776) :
    Spec Tryd.prog 89 [v, .int .i64 (n : Nat)] [ro μ] (fun r L => r = .bool (!decide xs.Nodup) ∧ L = [ro μ]) := by
  have hs := hv.small
  refine Spec.of 31 Tryd.func89 rfl rfl rfl ?_
  refine swp_seq ?_
  refine swp_region ?_
  refine s_pu (pu_assign rfl) ?_
  refine swl_sub _ (.cons (t := 0) rfl (.cons (t := 1) rfl .nil)) ?_
  refine swl_nil ?_
  refine then_n ?_
  refine swp_seq ?_
  refine swp_seq ?_
  refine swp_region ?_
  refine s_pu (pu_move rfl) ?_
  refine s_pu (pu_len_row hv rfl) ?_
  refine s_pu (pu_lss rfl rfl) ?_
  refine swl_sub _ (.cons (t := 0) rfl (.cons (t := 1) rfl (.cons (t := 9) rfl .nil))) ?_
  refine swl_nil ?_
  refine then_n ?_
  refine swp_cond (b := _) rfl (fun h9 => ?_) (fun h9 => ?_)
  · skip   -- 9 T
    refine swp_seq ?_
    refine swp_region ?_
    refine s_pu (pu_assign rfl) ?_
    refine swl_sub _ (.cons (t := 4) rfl .nil) ?_
    refine swl_nil ?_
    refine then_n ?_
    refine swp_ret ?_
    refine then_r ?_
    have h9' := of_decide_eq_true h9
    have hnd : xs.Nodup := by
      match xs, h9' with
      | [], _ => exact .nil
      | [x], _ => simp
      | _ :: _ :: _, h => simp at h; omega
    exact done_ret [ro μ] (.tmp rfl .nil) ⟨by rw [decide_eq_true hnd]; rfl, rfl⟩ (by repeat (first | exact Split.nil | (apply Split.cons; (repeat (first | with_reducible exact Take.here | apply Take.there)))))
  · skip   -- 9 F
    refine swp_skip ?_
    refine then_n ?_
    refine swp_seq ?_
    refine swp_region ?_
    refine s_pu (pu_move rfl) ?_
    refine s_ef (ef_make1 n rfl rfl rfl (by omega) (by simp only [maxLen]; omega)) ?_
    rintro b11
    skip
    refine s_pu (pu_assign rfl) ?_
    refine swl_sub _ (.cons (t := 0) rfl (.cons (t := 5) rfl .nil)) ?_
    rw [rbs_false]
    refine swl_nil ?_
    refine then_n ?_
    refine swp_seq ?_
    refine swp_seq ?_
    refine swp_region ?_
    refine s_pu (pu_assign rfl) ?_
    refine swl_sub _ (.cons (t := 0) rfl (.cons (t := 5) rfl (.cons (t := 6) rfl .nil))) ?_
    refine swl_nil ?_
    refine then_n ?_
    refine swp_block ?_
    have e0 : rbs n (fun _ => false) = rbs n (fun k => decide ((k : Int) ∈ xs.take 0)) := rbs_ext fun j _ => by simp
    rw [e0]
    refine swp_sub _ (.cons (t := 0) rfl (.cons (t := 5) rfl (.cons (t := 6) rfl .nil))) ?_
    refine swp_loop (ι := Nat) (fun i env L => env = [(0, v), (5, .slice (some ⟨b11, 0, none⟩) n n), (6, .int .i64 (i : Nat))] ∧ L = [blk b11 4 (rbs n (fun k => decide ((k : Int) ∈ xs.take i))), ro μ] ∧ i ≤ xs.length ∧ (xs.take i).Nodup) (fun i => xs.length - i) 0 ⟨rfl, rfl, Nat.zero_le _, by simp⟩ ?_
    rintro i env L ⟨rfl, rfl, hi, hnd⟩
    refine swp_seq ?_
    refine swp_seq ?_
    refine swp_region ?_
    refine s_pu (pu_move rfl) ?_
    refine s_pu (pu_move rfl) ?_
    refine s_pu (pu_len_row hv rfl) ?_
    refine s_pu (pu_lss rfl rfl) ?_
    refine swl_sub _ (.cons (t := 0) rfl (.cons (t := 5) rfl (.cons (t := 6) rfl (.cons (t := 15) rfl .nil)))) ?_
    refine swl_nil ?_
    refine then_n ?_
    refine swp_cond (b := _) rfl (fun h15 => ?_) (fun h15 => ?_)
    · skip   -- 15 T
      have h15' : i < xs.length := by have := of_decide_eq_true h15; omega
      obtain ⟨y, hy⟩ : ∃ y, xs[i]? = some y := ⟨_, List.getElem?_eq_getElem h15'⟩
      obtain ⟨yb, yo, yc, hyv, hyc⟩ := hv.at_ hy
      have hyin := hin y (List.mem_of_getElem? hy)
      obtain ⟨k, rfl⟩ : ∃ k : Nat, y = k := ⟨y.toNat, by omega⟩
      have hsn := nodup_snoc hy hnd
      refine swp_skip ?_
      refine then_n ?_
      refine swp_seq ?_
      refine swp_block ?_
      refine swp_seq ?_
      refine swp_seq ?_
      refine swp_region ?_
      refine s_pu (pu_move rfl) ?_
      refine s_pu (pu_move rfl) ?_
      refine s_pu (pu_move rfl) ?_
      refine s_pu (pu_indexAddr (yo + i * 1) (congrArg some hyv) rfl (by omega) (by omega) (by rw [Int.toNat_natCast])) ?_
      refine s_rd (rd_ro rfl hyc) ?_
      refine s_pu (pu_indexAddr k rfl rfl (by omega) (by omega) (by omega)) ?_
      refine s_rd (rd_load rfl (rbs_get _ (by omega))) ?_
      refine swl_sub _ (.cons (t := 0) rfl (.cons (t := 5) rfl (.cons (t := 6) rfl (.cons (t := 24) rfl .nil)))) ?_
      refine swl_nil ?_
      refine then_n ?_
      refine swp_cond (b := _) rfl (fun h24 => ?_) (fun h24 => ?_)
      · skip   -- 24 T
        refine swp_seq ?_
        refine swp_region ?_
        refine s_pu (pu_assign rfl) ?_
        refine swl_sub _ (.cons (t := 4) rfl .nil) ?_
        refine swl_nil ?_
        refine then_n ?_
        refine swp_ret ?_
        refine then_r ?_
        refine block_r ?_
        refine then_r ?_
        refine then_r ?_
        refine block_r ?_
        refine then_r ?_
        have h24' := of_decide_eq_true h24
        have hno : ¬ xs.Nodup := fun h => hsn.1 (h.sublist (List.take_sublist ..)) h24'
        exact done_ret [ro μ] (.tmp rfl .nil) ⟨by rw [decide_eq_false hno]; rfl, rfl⟩ (by repeat (first | exact Split.nil | (apply Split.cons; (repeat (first | with_reducible exact Take.here | apply Take.there)))))
      · skip   -- 24 F
        refine swp_skip ?_
        refine then_n ?_
        refine swp_region ?_
        refine s_pu (pu_move rfl) ?_
        refine s_pu (pu_move rfl) ?_
        refine s_pu (pu_move rfl) ?_
        refine s_pu (pu_indexAddr (yo + i * 1) (congrArg some hyv) rfl (by omega) (by omega) (by rw [Int.toNat_natCast])) ?_
        refine s_rd (rd_ro rfl hyc) ?_
        refine s_pu (pu_indexAddr k rfl rfl (by omega) (by omega) (by omega)) ?_
        refine s_ef0 (ef_storeP rfl rfl rfl (by rw [rbs_len]; omega)) ?_
        refine swl_sub _ (.cons (t := 0) rfl (.cons (t := 5) rfl (.cons (t := 6) rfl .nil))) ?_
        rw [rbs_set (T := fun j => decide ((j : Int) ∈ xs.take (i + 1))) (fun j hj => by
          rw [List.take_add_one, hy]
          by_cases e : j = k
          · subst e; simp
          · have : (j : Int) ≠ k := by omega
            simp [e, this])]
        refine swl_nil ?_
        refine block_n ?_
        refine then_n ?_
        refine swp_region ?_
        refine s_pu (pu_move rfl) ?_
        refine s_pu (pu_add_as ((i + 1 : Nat) : Int) rfl rfl (by omega) (by omega) (by omega)) ?_
        refine s_pu (pu_assign rfl) ?_
        refine swl_sub _ (.cons (t := 0) rfl (.cons (t := 5) rfl (.cons (t := 6) rfl .nil))) ?_
        refine swl_nil ?_
        have h24' := of_decide_eq_false h24
        exact then_n ⟨i + 1, ⟨rfl, rfl, h15', hsn.2 h24'⟩, by omega⟩
    · skip   -- 15 F
      have h15' := of_decide_eq_false h15
      obtain rfl : i = xs.length := by omega
      rw [List.take_length] at hnd
      refine swp_exit ?_
      refine then_x ?_
      refine then_x ?_
      refine block_hit rfl ?_
      refine then_n ?_
      refine swp_seq ?_
      refine swp_region ?_
      refine s_pu (pu_assign rfl) ?_
      refine swl_sub _ (.cons (t := 4) rfl .nil) ?_
      refine swl_nil ?_
      refine then_n ?_
      refine swp_ret ?_
      exact done_ret [ro μ] (.tmp rfl .nil) ⟨by rw [decide_eq_true hnd]; rfl, rfl⟩ (by repeat (first | exact Split.nil | (apply Split.cons; (repeat (first | with_reducible exact Take.here | apply Take.there)))))
theorem pu_slice_all {P : Program} {env : Env} {t e n by_ : Nat} [h : TSl P t e n by_] {x y : Operand} {v : Value} {l : Nat} (hs : Shape v l) (hx : evalE env x = some v) (hy : evalE env y = some (.int .i64 0)) : Pu P env (.slice t x (some y) none none) v := by
  rcases hs with ⟨rfl, rfl⟩ | ⟨b, cap, rfl, h1, h2⟩
  · have := pu_slice_loA (P := P) (env := env) (t := t) 0 hx hy rfl (Nat.le_refl 0)
    exact this
  · have := pu_slice_lo (P := P) (env := env) (t := t) 0 hx hy rfl (Nat.zero_le l)
    by_cases hc : cap = 0
    · rw [if_pos hc] at this; exact this
    · rw [if_neg hc, Nat.zero_mul] at this; exact this
set_option maxHeartbeats 2000000 in
theorem rmore0_spec (μ : PH) (vg : Value) (G : List (Value × List Int)) (hG : Graph μ vg G) (hn : G.length ≤ 1048576) (hrows : ∀ x ∈ G, x.2.length ≤ 17592186043904) :
    Spec Tryd.prog 74 [.slice none 0 0, vg] [ro μ] (fun r L => ∃ rv, r = .tuple #[rv, .int .i64 (moreE [] (nums G))] ∧ L = [own 3 1 rv (moreL [] (nums G)).length ((moreL [] (nums G)).flatMap (icsk .i64)), ro μ]) := by
  have hln : (nums G).length = G.length := List.length_map _
  have hsg := hG.1.small
  have hK0 : ([] : List Int).length = 0 := rfl
  refine Spec.of 67 Tryd.func74 rfl rfl rfl ?_
  refine swp_seq ?_
  refine swp_region ?_
  refine s_pu (pu_assign rfl) ?_
  refine s_pu (pu_assign rfl) ?_
  refine swl_sub _ (.cons (t := 0) rfl (.cons (t := 1) rfl .nil)) ?_
  refine swl_nil ?_
  refine then_n ?_
  refine swp_seq ?_
  refine swp_region ?_
  refine s_ef (ef_bldS (qs := []) rfl rfl rfl) ?_
  intro b11
  refine s_pu (pu_move rfl) ?_
  refine swl_ent (own_empty (e := 3) (n := 1)) ?_
  refine s_ef (ef_append_ro (Row.nil μ 1) rfl rfl (by repeat (first | exact Split.nil | (apply Split.cons; (repeat (first | with_reducible exact Take.here | apply Take.there))))) rfl (by decide) (by decide)) ?_
  rintro v13 -
  rw [Nat.zero_add, List.nil_append]
  refine s_pu (pu_assign rfl) ?_
  refine swl_sub _ (.cons (t := 0) rfl (.cons (t := 1) rfl (.cons (t := 6) rfl .nil))) ?_
  refine swl_nil ?_
  refine then_n ?_
  refine swp_seq ?_
  refine swp_seq ?_
  refine swp_region ?_
  refine s_pu (pu_assign rfl) ?_
  refine swl_sub _ (.cons (t := 0) rfl (.cons (t := 1) rfl (.cons (t := 6) rfl (.cons (t := 7) rfl .nil)))) ?_
  refine swl_nil ?_
  refine then_n ?_
  refine swp_block ?_
  refine swp_loop (ι := Nat × Value × List Int) (fun k env L => env = [(0, .slice none 0 0), (1, vg), (6, k.2.1), (7, .int .i64 (k.1 : Nat))] ∧ L = [own 3 1 k.2.1 k.2.2.length (k.2.2.flatMap (icsk .i64)), ro μ] ∧ k.1 ≤ G.length ∧ moreG [] ((nums G).take k.1) = some k.2.2) (fun k => G.length - k.1) (0, v13, []) ⟨rfl, rfl, Nat.zero_le _, rfl⟩ ?_
  rintro ⟨i, v6, a⟩ env L ⟨rfl, rfl, hi, ha⟩
  dsimp only at hi ha ⊢
  have hal := (moreG_len ha).1
  rw [List.length_take, hln, Nat.min_eq_left hi] at hal
  refine swp_fact (fun m h => own_shape .here h) fun hsh => ?_
  have hform := shape_len hsh
  refine swp_seq ?_
  refine swp_seq ?_
  refine swp_region ?_
  refine s_pu (pu_move rfl) ?_
  refine s_pu (pu_move rfl) ?_
  refine s_pu (pu_len_row hG.1 rfl) ?_
  refine s_pu (pu_lss rfl rfl) ?_
  refine swl_sub _ (.cons (t := 0) rfl (.cons (t := 1) rfl (.cons (t := 6) rfl (.cons (t := 7) rfl (.cons (t := 17) rfl .nil))))) ?_
  refine swl_nil ?_
  refine then_n ?_
  refine swp_cond (b := _) rfl (fun h17 => ?_) (fun h17 => ?_)
  · skip   -- 17 T
    have h17' : i < G.length := by have := of_decide_eq_true h17; omega
    obtain ⟨gb, off, cap, x, hv, hx, hxc, hxr, hnx⟩ := row_at hG h17'
    have hxl := hrows x (List.mem_of_getElem? hx)
    have hxs := hxr.small
    have hnext := moreG_at ha hnx
    refine swp_skip ?_
    refine then_n ?_
    refine swp_seq ?_
    refine swp_block ?_
    refine swp_seq ?_
    refine swp_region ?_
    refine s_pu (pu_assign rfl) ?_
    refine swl_sub _ (.cons (t := 0) rfl (.cons (t := 1) rfl (.cons (t := 6) rfl (.cons (t := 7) rfl (.cons (t := 8) rfl .nil))))) ?_
    refine swl_ent (own_nil_ent (e := 3) (n := 1)) ?_
    refine swl_nil ?_
    refine then_n ?_
    refine swp_seq ?_
    refine swp_seq ?_
    refine swp_region ?_
    refine s_pu (pu_assign rfl) ?_
    refine swl_sub _ (.cons (t := 0) rfl (.cons (t := 1) rfl (.cons (t := 6) rfl (.cons (t := 7) rfl (.cons (t := 8) rfl (.cons (t := 9) rfl .nil)))))) ?_
    refine swl_nil ?_
    refine then_n ?_
    refine swp_block ?_
    refine swp_sub _ (.cons (t := 0) rfl (.cons (t := 1) rfl (.cons (t := 6) rfl (.cons (t := 7) rfl (.cons (t := 8) rfl (.cons (t := 9) rfl .nil)))))) ?_
    refine swp_loop (ι := Nat × Value) (fun k env L => env = [(0, .slice none 0 0), (1, vg), (6, v6), (7, .int .i64 (i : Nat)), (8, k.2), (9, .int .i64 (k.1 : Nat))] ∧ L = [own 3 1 k.2 k.1 ((valsG a (x.2.take k.1)).flatMap (icsk .i64)), own 3 1 v6 a.length (a.flatMap (icsk .i64)), ro μ] ∧ k.1 ≤ x.2.length ∧ ∀ p ∈ x.2.take k.1, 0 ≤ p ∧ p < a.length) (fun k => x.2.length - k.1) (0, .slice none 0 0) ⟨rfl, rfl, Nat.zero_le _, fun p hp => by simp at hp⟩ ?_
    rintro ⟨j, v9⟩ env L ⟨rfl, rfl, hj, hrg⟩
    dsimp only at hj hrg ⊢
    refine swp_seq ?_
    refine swp_seq ?_
    refine swp_region ?_
    refine s_pu (pu_move rfl) ?_
    refine s_pu (pu_move rfl) ?_
    refine s_pu (pu_move rfl) ?_
    refine s_pu (pu_indexAddr (off + i * 1) (congrArg some hv) rfl (by omega) (by omega) (by rw [Int.toNat_natCast])) ?_
    refine s_rd (rd_ro rfl hxc) ?_
    refine s_pu (pu_len_row hxr rfl) ?_
    refine s_pu (pu_lss rfl rfl) ?_
    refine swl_sub _ (.cons (t := 0) rfl (.cons (t := 1) rfl (.cons (t := 6) rfl (.cons (t := 7) rfl (.cons (t := 8) rfl (.cons (t := 9) rfl (.cons (t := 26) rfl .nil))))))) ?_
    refine swl_nil ?_
    refine then_n ?_
    refine swp_cond (b := _) rfl (fun h26 => ?_) (fun h26 => ?_)
    · skip   -- 26 T
      have h26' : j < x.2.length := by have := of_decide_eq_true h26; omega
      obtain ⟨y, hy⟩ : ∃ y, x.2[j]? = some y := ⟨_, List.getElem?_eq_getElem h26'⟩
      obtain ⟨yb, yo, yc, hyv, hyc⟩ := hxr.at_ hy
      refine swp_skip ?_
      refine then_n ?_
      refine swp_seq ?_
      refine swp_block ?_
      refine swp_seq ?_
      refine swp_region ?_
      refine s_pu (pu_move rfl) ?_
      refine s_pu (pu_move rfl) ?_
      refine s_pu (pu_indexAddr (off + i * 1) (congrArg some hv) rfl (by omega) (by omega) (by rw [Int.toNat_natCast])) ?_
      refine s_rd (rd_ro rfl hxc) ?_
      refine s_pu (pu_move rfl) ?_
      refine s_pu (pu_indexAddr (yo + j * 1) (congrArg some hyv) rfl (by omega) (by omega) (by rw [Int.toNat_natCast])) ?_
      refine s_rd (rd_ro rfl hyc) ?_
      refine s_pu (pu_assign rfl) ?_
      refine swl_sub _ (.cons (t := 0) rfl (.cons (t := 1) rfl (.cons (t := 6) rfl (.cons (t := 7) rfl (.cons (t := 8) rfl (.cons (t := 9) rfl (.cons (t := 10) rfl .nil))))))) ?_
      refine swl_nil ?_
      refine then_n ?_
      refine swp_seq ?_
      refine swp_seq ?_
      refine swp_region ?_
      refine s_pu (pu_move rfl) ?_
      refine s_pu (pu_lss rfl rfl) ?_
      refine s_pu (pu_move rfl) ?_
      refine s_split 38 rfl (fun h38 => ?_) (fun h38 => ?_)
      · skip   -- 38 T
        refine s_off rfl rfl rfl ?_
        refine s_off rfl rfl rfl ?_
        refine s_off rfl rfl rfl ?_
        refine s_off rfl rfl rfl ?_
        first | refine s_pu (pu_pick_t rfl rfl) ?_ | refine s_pu (pu_pick_f rfl rfl) ?_
        refine swl_sub _ (.cons (t := 0) rfl (.cons (t := 1) rfl (.cons (t := 6) rfl (.cons (t := 7) rfl (.cons (t := 8) rfl (.cons (t := 9) rfl (.cons (t := 10) rfl (.cons (t := 43) rfl .nil)))))))) ?_
        refine swl_nil ?_
        refine then_n ?_
        refine swp_cond (b := _) rfl (fun h43 => ?_) (fun h43 => by cases h43)
        refine swp_seq ?_
        refine swp_region ?_
        refine s_pu (pu_assign rfl) ?_
        refine s_pu (pu_assign rfl) ?_
        refine swl_sub _ (.cons (t := 4) rfl (.cons (t := 5) rfl .nil)) ?_
        refine swl_nil ?_
        refine then_n ?_
        refine swp_ret ?_
        refine then_r ?_
        refine block_r ?_
        refine then_r ?_
        refine then_r ?_
        refine block_r ?_
        refine then_r ?_
        refine block_r ?_
        refine then_r ?_
        refine then_r ?_
        refine block_r ?_
        refine then_r ?_
        have h38' := of_decide_eq_true h38
        rw [if_neg (fun h => by have := (okRow_iff.1 h).1 y (List.mem_of_getElem? hy); omega)] at hnext
        have hno := moreL_none (moreG_none hnext)
        rw [hno.1, hno.2]
        exact done_retE [own 3 1 (.slice none 0 0) 0 [], ro μ] (.tmp rfl (.tmp rfl .nil)) ⟨.slice none 0 0, rfl, rfl⟩ ((Split.ent' (K := [ro μ]) (by repeat (first | exact Split.nil | (apply Split.cons; (repeat (first | with_reducible exact Take.here | apply Take.there)))))).trans own_nil_ent)
      · skip   -- 38 F
        refine s_on rfl rfl ?_
        refine s_pu (pu_move rfl) ?_
        refine s_on rfl rfl ?_
        refine s_pu (pu_move rfl) ?_
        refine s_on rfl rfl ?_
        refine s_pu (pu_len_own hform rfl) ?_
        refine s_on rfl rfl ?_
        refine s_pu (pu_geq rfl rfl) ?_
        first | refine s_pu (pu_pick_t rfl rfl) ?_ | refine s_pu (pu_pick_f rfl rfl) ?_
        refine swl_sub _ (.cons (t := 0) rfl (.cons (t := 1) rfl (.cons (t := 6) rfl (.cons (t := 7) rfl (.cons (t := 8) rfl (.cons (t := 9) rfl (.cons (t := 10) rfl (.cons (t := 43) rfl .nil)))))))) ?_
        refine swl_nil ?_
        refine then_n ?_
        refine swp_cond (b := _) rfl (fun h43 => ?_) (fun h43 => ?_)
        · skip   -- 43 T
          refine swp_seq ?_
          refine swp_region ?_
          refine s_pu (pu_assign rfl) ?_
          refine s_pu (pu_assign rfl) ?_
          refine swl_sub _ (.cons (t := 4) rfl (.cons (t := 5) rfl .nil)) ?_
          refine swl_nil ?_
          refine then_n ?_
          refine swp_ret ?_
          refine then_r ?_
          refine block_r ?_
          refine then_r ?_
          refine then_r ?_
          refine block_r ?_
          refine then_r ?_
          refine block_r ?_
          refine then_r ?_
          refine then_r ?_
          refine block_r ?_
          refine then_r ?_
          have h43' := of_decide_eq_true h43
          rw [if_neg (fun h => by have := (okRow_iff.1 h).1 y (List.mem_of_getElem? hy); omega)] at hnext
          have hno := moreL_none (moreG_none hnext)
          rw [hno.1, hno.2]
          exact done_retE [own 3 1 (.slice none 0 0) 0 [], ro μ] (.tmp rfl (.tmp rfl .nil)) ⟨.slice none 0 0, rfl, rfl⟩ ((Split.ent' (K := [ro μ]) (by repeat (first | exact Split.nil | (apply Split.cons; (repeat (first | with_reducible exact Take.here | apply Take.there)))))).trans own_nil_ent)
        · skip   -- 43 F
          have h38' := of_decide_eq_false h38
          have h43' := of_decide_eq_false h43
          obtain ⟨ky, rfl⟩ : ∃ k : Nat, y = k := ⟨y.toNat, by omega⟩
          obtain ⟨z, hz⟩ : ∃ z, a[ky]? = some z := ⟨_, List.getElem?_eq_getElem (by omega)⟩
          obtain ⟨ab, ac, hv6⟩ := shape_pos hsh (by omega)
          subst hv6
          refine swp_skip ?_
          refine then_n ?_
          refine swp_region ?_
          refine s_pu (pu_move rfl) ?_
          refine s_pu (pu_move rfl) ?_
          refine s_pu (pu_move rfl) ?_
          refine s_pu (pu_indexAddr ky rfl rfl (by omega) (by omega) (by omega)) ?_
          refine s_rd (rd_of_ld rfl (ld_own (by repeat (first | with_reducible exact Take.here | apply Take.there)) (icells_get' hz))) ?_
          refine s_ef (ef_bldS (qs := [(0, _)]) rfl rfl rfl) ?_
          intro b49
          refine s_ef (ef_append_lit (l := j) (m := 1) rfl rfl (by repeat (first | exact Split.nil | (apply Split.cons; (repeat (first | with_reducible exact Take.here | apply Take.there))))) (by simp only [maxLen]; omega) (by omega)) ?_
          rintro v' hv'
          skip
          refine s_pu (pu_assign rfl) ?_
          refine swl_sub _ (.cons (t := 0) rfl (.cons (t := 1) rfl (.cons (t := 6) rfl (.cons (t := 7) rfl (.cons (t := 8) rfl (.cons (t := 9) rfl .nil)))))) ?_
          have e1 : (valsG a (x.2.take j)).flatMap (icsk .i64) ++ [.int .i64 z] = (valsG a (x.2.take (j + 1))).flatMap (icsk .i64) := by
            rw [List.take_add_one, hy]
            show _ = (valsG a (x.2.take j ++ [(ky : Int)])).flatMap (icsk .i64)
            rw [valsG_append, Int.toNat_natCast, List.getD_eq_getElem?_getD, hz, List.flatMap_append]; rfl
          rw [e1]
          refine swl_nil ?_
          refine block_n ?_
          refine then_n ?_
          refine swp_region ?_
          refine s_pu (pu_move rfl) ?_
          refine s_pu (pu_add_as ((j + 1 : Nat) : Int) rfl rfl (by omega) (by omega) (by omega)) ?_
          refine s_pu (pu_assign rfl) ?_
          refine swl_sub _ (.cons (t := 0) rfl (.cons (t := 1) rfl (.cons (t := 6) rfl (.cons (t := 7) rfl (.cons (t := 8) rfl (.cons (t := 9) rfl .nil)))))) ?_
          refine swl_nil ?_
          exact then_n ⟨(j + 1, v'), ⟨rfl, rfl, h26', fun p hp => by
            rw [List.take_add_one, hy] at hp
            rcases List.mem_append.1 hp with hp | hp
            · exact hrg p hp
            · obtain rfl : p = (ky : Int) := by simpa using hp
              omega⟩, by show x.2.length - (j + 1) < x.2.length - j; omega⟩
    · skip   -- 26 F
      have h26' := of_decide_eq_false h26
      obtain rfl : j = x.2.length := by omega
      rw [List.take_length] at hrg ⊢
      have hvl : (valsG a x.2).length = x.2.length := List.length_map _
      rw [← hvl]
      refine swp_fact (fun m h => own_shape .here h) fun hsh9 => ?_
      refine swp_exit ?_
      refine then_x ?_
      refine then_x ?_
      refine block_hit rfl ?_
      refine then_n ?_
      refine swp_seq ?_
      refine swp_seq ?_
      refine swp_region ?_
      refine s_pu (pu_move rfl) ?_
      refine s_pu (pu_move rfl) ?_
      refine s_pu (pu_indexAddr (off + i * 1) (congrArg some hv) rfl (by omega) (by omega) (by rw [Int.toNat_natCast])) ?_
      refine s_rd (rd_ro rfl hxc) ?_
      refine s_pu (pu_move rfl) ?_
      refine s_pu (pu_len_own hform rfl) ?_
      refine s_ef (ef_fn (rtwice_spec μ x.1 x.2 a.length hxr hrg (by omega)) rfl rfl (by repeat (first | exact Split.nil | (apply Split.cons; (repeat (first | with_reducible exact Take.here | apply Take.there)))))) ?_
      rintro v57 L1 ⟨rfl, rfl⟩
      refine swl_app ?_
      refine swl_sub _ (.cons (t := 0) rfl (.cons (t := 1) rfl (.cons (t := 6) rfl (.cons (t := 7) rfl (.cons (t := 8) rfl (.cons (t := 57) rfl .nil)))))) ?_
      refine swl_nil ?_
      refine then_n ?_
      refine swp_cond (b := _) rfl (fun h57 => ?_) (fun h57 => ?_)
      · skip   -- 57 T
        refine swp_seq ?_
        refine swp_region ?_
        refine s_pu (pu_assign rfl) ?_
        refine s_pu (pu_assign rfl) ?_
        refine swl_sub _ (.cons (t := 4) rfl (.cons (t := 5) rfl .nil)) ?_
        refine swl_nil ?_
        refine then_n ?_
        refine swp_ret ?_
        refine then_r ?_
        refine block_r ?_
        refine then_r ?_
        refine then_r ?_
        refine block_r ?_
        refine then_r ?_
        have h57' : ¬ x.2.Nodup := by simpa using h57
        rw [if_neg (fun h => h57' (okRow_iff.1 h).2)] at hnext
        have hno := moreL_none (moreG_none hnext)
        rw [hno.1, hno.2]
        exact done_retE [own 3 1 (.slice none 0 0) 0 [], ro μ] (.tmp rfl (.tmp rfl .nil)) ⟨.slice none 0 0, rfl, rfl⟩ ((Split.ent' (K := [ro μ]) (by repeat (first | exact Split.nil | (apply Split.cons; (repeat (first | with_reducible exact Take.here | apply Take.there)))))).trans own_nil_ent)
      · skip   -- 57 F
        have h57' : x.2.Nodup := by simpa using h57
        rw [if_pos (okRow_iff.2 ⟨hrg, h57'⟩)] at hnext
        refine swp_skip ?_
        refine then_n ?_
        refine swp_region ?_
        refine s_pu (pu_move rfl) ?_
        refine s_pu (pu_move rfl) ?_
        refine s_ef (ef_fn (rnext_spec v9 (valsG a x.2) [own 3 1 v9 (valsG a x.2).length ((valsG a x.2).flatMap (icsk .i64))] (ints_own hsh9 .here)) rfl rfl (by repeat (first | exact Split.nil | (apply Split.cons; (repeat (first | with_reducible exact Take.here | apply Take.there)))))) ?_
        rintro v60 L1 ⟨rfl, rfl⟩
        refine swl_app ?_
        refine s_ef (ef_bldS (qs := [(0, _)]) rfl rfl rfl) ?_
        intro b61
        refine s_ef (ef_append_lit (l := a.length) (m := 1) rfl rfl (by repeat (first | exact Split.nil | (apply Split.cons; (repeat (first | with_reducible exact Take.here | apply Take.there))))) (by simp only [maxLen]; omega) (by omega)) ?_
        rintro v62 hv62
        skip
        refine s_pu (pu_assign rfl) ?_
        refine swl_sub _ (.cons (t := 0) rfl (.cons (t := 1) rfl (.cons (t := 6) rfl (.cons (t := 7) rfl .nil)))) ?_
        rw [show a.flatMap (icsk .i64) ++ [Value.int .i64 (nxt (valsG a x.2))] = (a ++ [nxt (valsG a x.2)]).flatMap (icsk .i64) by rw [List.flatMap_append]; rfl]
        refine swl_ent (Split.ent' (K := [own 3 1 v62 (a.length + 1) ((a ++ [nxt (valsG a x.2)]).flatMap (icsk .i64)), ro μ]) (by repeat (first | exact Split.nil | (apply Split.cons; (repeat (first | with_reducible exact Take.here | apply Take.there)))))) ?_
        refine swl_nil ?_
        refine block_n ?_
        refine then_n ?_
        refine swp_region ?_
        refine s_pu (pu_move rfl) ?_
        refine s_pu (pu_add_as ((i + 1 : Nat) : Int) rfl rfl (by omega) (by omega) (by omega)) ?_
        refine s_pu (pu_assign rfl) ?_
        refine swl_sub _ (.cons (t := 0) rfl (.cons (t := 1) rfl (.cons (t := 6) rfl (.cons (t := 7) rfl .nil)))) ?_
        refine swl_nil ?_
        exact then_n ⟨(i + 1, v62, a ++ [nxt (valsG a x.2)]), ⟨rfl, by rw [List.length_append]; rfl, h17', hnext⟩, by show G.length - (i + 1) < G.length - i; omega⟩
  · skip   -- 17 F
    have h17' := of_decide_eq_false h17
    obtain rfl : i = G.length := by omega
    rw [List.take_of_length_le (by rw [hln]; exact Nat.le_refl _)] at ha
    have hyes := moreL_some ha
    refine swp_exit ?_
    refine then_x ?_
    refine then_x ?_
    refine block_hit rfl ?_
    refine then_n ?_
    refine swp_seq ?_
    refine swp_region ?_
    refine s_pu (pu_move rfl) ?_
    refine s_pu (pu_move rfl) ?_
    refine s_pu (pu_len rfl) ?_
    refine s_pu (pu_slice_all hsh rfl rfl) ?_
    refine s_pu (pu_assign rfl) ?_
    refine s_pu (pu_assign rfl) ?_
    refine swl_sub _ (.cons (t := 4) rfl (.cons (t := 5) rfl .nil)) ?_
    refine swl_nil ?_
    refine then_n ?_
    refine swp_ret ?_
    rw [hyes.1, hyes.2]
    exact done_ret [own 3 1 v6 a.length (a.flatMap (icsk .i64)), ro μ] (.tmp rfl (.tmp rfl .nil)) ⟨v6, rfl, rfl⟩ (by repeat (first | exact Split.nil | (apply Split.cons; (repeat (first | with_reducible exact Take.here | apply Take.there)))))
theorem rall_spec (μ : PH) (vg : Value) (G : List (Value × List Int)) (hG : Graph μ vg G) (hn : G.length ≤ 1048576) (hrows : ∀ x ∈ G, x.2.length ≤ 17592186043904) :
    Spec Tryd.prog 42 [vg] [ro μ] (fun r L => ∃ rv, r = .tuple #[rv, .int .i64 (moreE [] (nums G))] ∧ L = [own 3 1 rv (moreL [] (nums G)).length ((moreL [] (nums G)).flatMap (icsk .i64)), ro μ]) := by
  refine Spec.of 8 Tryd.func42 rfl rfl rfl ?_
  refine swp_seq ?_
  refine swp_region ?_
  refine s_pu (pu_assign rfl) ?_
  refine s_pu (pu_assign rfl) ?_
  refine swl_sub _ (.cons (t := 0) rfl .nil) ?_
  refine swl_nil ?_
  refine then_n ?_
  refine swp_seq ?_
  refine swp_region ?_
  refine s_pu (pu_move rfl) ?_
  refine s_ef (ef_fn (rmore0_spec μ vg G hG hn hrows) rfl rfl (by repeat (first | exact Split.nil | (apply Split.cons; (repeat (first | with_reducible exact Take.here | apply Take.there)))))) ?_
  rintro v5 L1 ⟨lv, rfl, rfl⟩
  refine swl_app ?_
  first | refine s_pu (pu_extractL rfl) ?_ | refine s_pu (pu_extract rfl rfl) ?_
  first | refine s_pu (pu_extractL rfl) ?_ | refine s_pu (pu_extract rfl rfl) ?_
  refine s_pu (pu_assign rfl) ?_
  refine s_pu (pu_assign rfl) ?_
  refine swl_sub _ (.cons (t := 2) rfl (.cons (t := 3) rfl .nil)) ?_
  refine swl_nil ?_
  refine then_n ?_
  refine swp_ret ?_
  exact done_ret [own 3 1 lv (moreL [] (nums G)).length ((moreL [] (nums G)).flatMap (icsk .i64)), ro μ] (.tmp rfl (.tmp rfl .nil)) ⟨_, rfl, rfl⟩ (by repeat (first | exact Split.nil | (apply Split.cons; (repeat (first | with_reducible exact Take.here | apply Take.there)))))
end SX
namespace SX
open Go Go.Proofs

/-- a source of a graph: how often each commit was asked for its parents -/
def askV (n : Nat) (a : Nat → Nat) : List Value := ncs n (fun j => (a j : Int))
def gA (p : Nat) (vg vn : Value) (n : Nat) (a : Nat → Nat) : Assn := exA fun va : Value => [blk p 33 [vg, vn, va], own 3 1 va n (askV n a)]
theorem gA_close {p n : Nat} {vg vn va : Value} {a : Nat → Nat} {L : List Assn} : Ent (blk p 33 [vg, vn, va] :: own 3 1 va n (askV n a) :: L) (gA p vg vn n a :: L) :=
  ent_ex (F := fun va : Value => [blk p 33 [vg, vn, va], own 3 1 va n (askV n a)]) va (by repeat (first | exact Split.nil | (apply Split.cons; (repeat (first | with_reducible exact Take.here | apply Take.there)))))
theorem gcommits_spec (p n : Nat) (vg vn : Value) (a : Nat → Nat) (hg : ∃ A c, vg = .slice A n c) : Spec Tryd.prog 114 [.pointer (some ⟨p, 0, none⟩)] [gA p vg vn n a] (fun r L => r = .int .i64 (n : Nat) ∧ L = [gA p vg vn n a]) := by
  obtain ⟨A, c, rfl⟩ := hg
  refine Spec.exA' fun va => ?_
  simp only [List.cons_append, List.nil_append]
  refine Spec.ent3 (post := fun r L => r = .int .i64 (n : Nat) ∧ L = [blk p 33 [.slice A n c, vn, va], own 3 1 va n (askV n a)]) ?_ (fun v L ⟨h1, h2⟩ => ⟨_, by rw [h2]; exact gA_close, h1, rfl⟩)
  refine Spec.of 8 Tryd.func114 rfl rfl rfl ?_
  refine swp_seq ?_
  refine swp_region ?_
  refine s_pu (pu_assign rfl) ?_
  refine swl_sub _ (.cons (t := 0) rfl .nil) ?_
  refine swl_nil ?_
  refine then_n ?_
  refine swp_seq ?_
  refine swp_region ?_
  refine s_pu (pu_move rfl) ?_
  first | refine s_pu (pu_nilCheck rfl) ?_ | refine s_pu (pu_nilCheck_fn rfl) ?_ | refine s_pu (pu_nilCheck_if rfl) ?_
  first | refine s_pu (pu_fieldAddr0 rfl) ?_ | refine s_pu (pu_fieldAddr rfl) ?_
  refine s_rd (rd_load rfl rfl) ?_
  refine s_pu (pu_len rfl) ?_
  refine s_pu (pu_assign rfl) ?_
  refine swl_sub _ (.cons (t := 2) rfl .nil) ?_
  refine swl_nil ?_
  refine then_n ?_
  refine swp_ret ?_
  exact done_ret [blk p 33 [.slice A n c, vn, va], own 3 1 va n (askV n a)] (.tmp rfl .nil) ⟨rfl, rfl⟩ (by repeat (first | exact Split.nil | (apply Split.cons; (repeat (first | with_reducible exact Take.here | apply Take.there)))))
def ask1 (a : Nat → Nat) (c : Nat) : Nat → Nat := fun j => if j = c then a j + 1 else a j
theorem gparents_spec (μ : PH) (p : Nat) (vg vn : Value) (a : Nat → Nat) (G : List (Value × List Int)) (c : Nat) (hG : Graph μ vg G) (hc : c < G.length) (ha : a c ≤ 4611686018427387904) (hr : ∀ x ∈ G, x.2.length ≤ 17592186043904) :
    Spec Tryd.prog 115 [.pointer (some ⟨p, 0, none⟩), .int .i64 (c : Nat)] [gA p vg vn G.length a, ro μ]
      (fun r L => ∃ μ', Le μ μ' ∧ Row μ' r 1 (rowOf (nums G) c).length ((rowOf (nums G) c).flatMap (icsk .i64)) ∧ L = [gA p vg vn G.length (ask1 a c), ro μ']) := by
  refine Spec.exA' fun va => ?_
  simp only [List.cons_append, List.nil_append]
  obtain ⟨gb, off, cap, x, hv, hx, hxc, hxr, hnx⟩ := row_at hG hc
  have hxl := hr x (List.mem_of_getElem? hx)
  have hrow : rowOf (nums G) c = x.2 := rowOf_at hnx
  rw [hrow]
  refine Spec.ent3 (post := fun r L => ∃ μ' va, Le μ μ' ∧ Row μ' r 1 x.2.length (x.2.flatMap (icsk .i64)) ∧ L = [blk p 33 [vg, vn, va], own 3 1 va G.length (askV G.length (ask1 a c)), ro μ']) ?_ (fun v L ⟨μ', va, h1, h2, h3⟩ => ⟨_, by rw [h3]; exact gA_close, μ', h1, h2, rfl⟩)
  refine Spec.of 34 Tryd.func115 rfl rfl rfl ?_
  refine swp_seq ?_
  refine swp_region ?_
  refine s_pu (pu_assign rfl) ?_
  refine swl_sub _ (.cons (t := 0) rfl (.cons (t := 1) rfl .nil)) ?_
  refine swl_nil ?_
  refine then_n ?_
  refine swp_seq ?_
  refine swp_seq ?_
  refine swp_region ?_
  refine s_pu (pu_move rfl) ?_
  refine s_pu (pu_lss rfl rfl) ?_
  refine s_pu (pu_move rfl) ?_
  refine s_split 7 rfl (fun h7 => by exfalso; have h7' := of_decide_eq_true h7; omega) (fun h7 => ?_)
  refine s_on rfl rfl ?_
  refine s_pu (pu_move rfl) ?_
  refine s_on rfl rfl ?_
  refine s_pu (pu_move rfl) ?_
  refine s_on rfl rfl ?_
  first | refine s_pu (pu_nilCheck rfl) ?_ | refine s_pu (pu_nilCheck_fn rfl) ?_ | refine s_pu (pu_nilCheck_if rfl) ?_
  refine s_on rfl rfl ?_
  first | refine s_pu (pu_fieldAddr0 rfl) ?_ | refine s_pu (pu_fieldAddr rfl) ?_
  refine s_on rfl rfl ?_
  refine s_rd (rd_load rfl rfl) ?_
  refine s_on rfl rfl ?_
  refine s_pu (pu_len_row hG.1 rfl) ?_
  refine s_on rfl rfl ?_
  refine s_pu (pu_geq rfl rfl) ?_
  first | refine s_pu (pu_pick_t rfl rfl) ?_ | refine s_pu (pu_pick_f rfl rfl) ?_
  refine swl_sub _ (.cons (t := 0) rfl (.cons (t := 1) rfl (.cons (t := 15) rfl .nil))) ?_
  refine swl_nil ?_
  refine then_n ?_
  refine swp_cond (b := _) rfl (fun h15 => by exfalso; have h15' := of_decide_eq_true h15; omega) (fun h15 => ?_)
  refine swp_skip ?_
  refine then_n ?_
  refine swp_seq ?_
  refine swp_ent (Split.ent' (K := [own 3 1 va G.length (askV G.length a), blk p 33 [vg, vn, va], ro μ]) (by repeat (first | exact Split.nil | (apply Split.cons; (repeat (first | with_reducible exact Take.here | apply Take.there)))))) ?_
  refine swp_own (fun _ h0 _ => by omega) (fun b1 c1 ex1 hv1 w1 w2 w3 w4 => ?_)
  subst hv1
  refine swp_region ?_
  refine s_pu (pu_move rfl) ?_
  first | refine s_pu (pu_nilCheck rfl) ?_ | refine s_pu (pu_nilCheck_fn rfl) ?_ | refine s_pu (pu_nilCheck_if rfl) ?_
  first | refine s_pu (pu_fieldAddr0 rfl) ?_ | refine s_pu (pu_fieldAddr rfl) ?_
  refine s_rd (rd_load rfl rfl) ?_
  refine s_pu (pu_move rfl) ?_
  refine s_pu (pu_indexAddr c rfl rfl (by omega) (by omega) (by omega)) ?_
  refine s_rd (rd_load rfl (by rw [List.getElem?_append_left (by unfold askV; rw [ncs_len]; exact hc)]; exact ncs_get _ hc)) ?_
  refine s_pu (pu_add_as ((a c + 1 : Nat) : Int) rfl rfl (by omega) (by omega) (by omega)) ?_
  refine s_pu (pu_indexAddr c rfl rfl (by omega) (by omega) (by omega)) ?_
  refine s_ef0 (ef_storeP rfl rfl rfl (by rw [List.length_append]; unfold askV; rw [ncs_len]; omega)) ?_
  refine swl_sub _ (.cons (t := 0) rfl (.cons (t := 1) rfl .nil)) ?_
  rw [List.set_append_left (h := by unfold askV; rw [ncs_len]; exact hc), show (askV G.length a).set c (.int .i64 ((a c + 1 : Nat) : Int)) = askV G.length (ask1 a c) from ncs_set (fun j => by
    unfold ask1
    by_cases e : j = c
    · subst e; rw [if_pos rfl, if_pos rfl]
    · rw [if_neg e, if_neg e])]
  refine swl_ent (own_close (n := 1) (by unfold askV; rw [ncs_len]; omega) w4 w1 w2) ?_
  refine swl_nil ?_
  refine then_n ?_
  refine swp_seq ?_
  refine swp_region ?_
  refine s_ef (ef_bldS (qs := []) rfl rfl rfl) ?_
  intro b25
  refine swl_ent (own_empty (e := 3) (n := 1)) ?_
  refine s_pu (pu_move rfl) ?_
  first | refine s_pu (pu_nilCheck rfl) ?_ | refine s_pu (pu_nilCheck_fn rfl) ?_ | refine s_pu (pu_nilCheck_if rfl) ?_
  first | refine s_pu (pu_fieldAddr0 rfl) ?_ | refine s_pu (pu_fieldAddr rfl) ?_
  refine s_rd (rd_load rfl rfl) ?_
  refine s_pu (pu_move rfl) ?_
  refine s_pu (pu_indexAddr (off + c * 1) (congrArg some hv) rfl (by omega) (by omega) (by rw [Int.toNat_natCast])) ?_
  refine s_rd (rd_ro rfl hxc) ?_
  refine s_ef (ef_append_ro hxr rfl rfl (by repeat (first | exact Split.nil | (apply Split.cons; (repeat (first | with_reducible exact Take.here | apply Take.there))))) (icsk_one _) (by simp only [maxLen]; omega) (by omega)) ?_
  rintro v33 -
  rw [Nat.zero_add, List.nil_append]
  refine swl_share_own (v := v33) (μ := μ) (by repeat (first | exact Split.nil | (apply Split.cons; (repeat (first | with_reducible exact Take.here | apply Take.there))))) fun μ' h' hrow' => ?_
  refine s_pu (pu_assign rfl) ?_
  refine swl_sub _ (.cons (t := 4) rfl .nil) ?_
  refine swl_nil ?_
  refine then_n ?_
  refine swp_ret ?_
  exact done_ret [blk p 33 [vg, vn, .slice (some ⟨b1, 0, none⟩) G.length c1], own 3 1 (.slice (some ⟨b1, 0, none⟩) G.length c1) G.length (askV G.length (ask1 a c)), ro μ'] (.tmp rfl .nil) ⟨μ', _, h', hrow', rfl⟩ (by repeat (first | exact Split.nil | (apply Split.cons; (repeat (first | with_reducible exact Take.here | apply Take.there)))))
end SX
