/- A part of the proof: walks of the seat's functions, by the rules of the texts that it imports. -/
import Derived.Test.YtfbfmokgpdmcfaaDoorMdM4
namespace SX
open Go Go.Proofs

theorem low_mask (r i : Nat) (hr : r < 64) : (((1#64 : BitVec 64) <<< r) - 1#64).getLsbD i = decide (i < r) := by
  have hp : 2 ^ r < 2 ^ 64 := Nat.pow_lt_pow_right (by decide) hr
  have h1 : ((1#64 : BitVec 64) <<< r).toNat = 2 ^ r := by
    rw [BitVec.toNat_shiftLeft, Nat.shiftLeft_eq, show (1#64 : BitVec 64).toNat = 1 from rfl, Nat.one_mul]
    exact Nat.mod_eq_of_lt hp
  have hpos := Nat.two_pow_pos r
  have e : (((1#64 : BitVec 64) <<< r) - 1#64).toNat = 2 ^ r - 1 := by
    rw [BitVec.toNat_sub, h1, show (1#64 : BitVec 64).toNat = 1 from rfl]
    omega
  show (((1#64 : BitVec 64) <<< r) - 1#64).toNat.testBit i = _
  rw [e, Nat.testBit_two_pow_sub_one]
theorem getD_of {ws : List (BitVec 64)} {i : Nat} {w : BitVec 64} (h : ws[i]? = some w) : ws.getD i 0#64 = w := by rw [List.getD_eq_getElem?_getD, h]; rfl

/-- a word of the set itself, while its words lie open -/
theorem word_b (p n b cap : Nat) (ws : List (BitVec 64)) (ex : List Value) (i : Nat) (w : BitVec 64) (hw : ws[i]? = some w) :
    Spec Tryd.prog 60 [.pointer (some ⟨p, 0, none⟩), .int .i64 (i : Nat)] [blk b 67 (wcells ws ++ ex), blk p 52 [.int .i64 (n : Nat), .slice (some ⟨b, 0, none⟩) ws.length cap]]
      (fun r L => r = wv w ∧ L = [blk b 67 (wcells ws ++ ex), blk p 52 [.int .i64 (n : Nat), .slice (some ⟨b, 0, none⟩) ws.length cap]]) := by
  have hi : i < ws.length := (List.getElem?_eq_some_iff.1 hw).1
  refine Spec.of 23 Tryd.func60 rfl rfl rfl ?_
  refine swp_seq ?_
  refine swp_region ?_
  refine s_pu (pu_assign rfl) ?_
  refine swl_sub _ (.cons (t := 0) rfl (.cons (t := 1) rfl .nil)) ?_
  refine swl_nil ?_
  refine then_n ?_
  refine swp_seq ?_
  refine swp_seq ?_
  refine swp_region ?_
  refine s_pu (pu_move rfl) ?_
  refine s_pu (pu_ptr_eq_nil rfl rfl) ?_
  refine s_pu (pu_move rfl) ?_
  refine s_on rfl rfl ?_
  refine s_pu (pu_move rfl) ?_
  refine s_on rfl rfl ?_
  refine s_pu (pu_move rfl) ?_
  refine s_on rfl rfl ?_
  first | refine s_pu (pu_nilCheck rfl) ?_ | refine s_pu (pu_nilCheck_fn rfl) ?_ | refine s_pu (pu_nilCheck_if rfl) ?_
  refine s_on rfl rfl ?_
  first | refine s_pu (pu_fieldAddr0 rfl) ?_ | refine s_pu (pu_fieldAddr rfl) ?_
  refine s_on rfl rfl ?_
  refine s_rd (rd_load rfl rfl) ?_
  refine s_on rfl rfl ?_
  refine s_pu (pu_len rfl) ?_
  refine s_on rfl rfl ?_
  refine s_pu (pu_geq rfl rfl) ?_
  first | refine s_pu (pu_pick_t rfl rfl) ?_ | refine s_pu (pu_pick_f rfl rfl) ?_
  refine swl_sub _ (.cons (t := 0) rfl (.cons (t := 1) rfl (.cons (t := 15) rfl .nil))) ?_
  refine swl_nil ?_
  refine then_n ?_
  refine swp_cond (b := _) rfl (fun h15 => by have := of_decide_eq_true h15; omega) (fun h15 => ?_)
  refine swp_skip ?_
  refine then_n ?_
  refine swp_seq ?_
  refine swp_region ?_
  refine s_pu (pu_move rfl) ?_
  first | refine s_pu (pu_nilCheck rfl) ?_ | refine s_pu (pu_nilCheck_fn rfl) ?_ | refine s_pu (pu_nilCheck_if rfl) ?_
  first | refine s_pu (pu_fieldAddr0 rfl) ?_ | refine s_pu (pu_fieldAddr rfl) ?_
  refine s_rd (rd_load rfl rfl) ?_
  refine s_pu (pu_move rfl) ?_
  refine s_pu (pu_indexAddr i rfl rfl (by omega) (by omega) (by omega)) ?_
  refine s_rd (rd_load rfl (wcells_get hw)) ?_
  refine s_pu (pu_assign rfl) ?_
  refine swl_sub _ (.cons (t := 4) rfl .nil) ?_
  refine swl_nil ?_
  refine then_n ?_
  refine swp_ret ?_
  exact done_ret _ (.tmp rfl .nil) ⟨rfl, rfl⟩ (by repeat (first | exact Split.nil | (apply Split.cons; (repeat (first | with_reducible exact Take.here | apply Take.there)))))

set_option maxHeartbeats 1000000 in
theorem each_b (p n b cap : Nat) (ws : List (BitVec 64)) (ex : List Value) (ov : Value) (fid : Nat) [Body Tryd.prog fid] (g : BitVec 64 → BitVec 64 → BitVec 64) (o : Nat → BitVec 64) (X : Assn)
    (hl : ws.length = (n + 63) / 64) (hn : n ≤ 1048576) (hf : ∀ x y, Spec Tryd.prog fid [wv x, wv y] [] (fun r L => r = wv (g x y) ∧ L = []))
    (ho : ∀ (cur : List (BitVec 64)) (i : Nat), cur.length = ws.length → i < ws.length → cur[i]? = ws[i]? →
      Spec Tryd.prog 60 [ov, .int .i64 (i : Nat)] [blk b 67 (wcells cur ++ ex), blk p 52 [.int .i64 (n : Nat), .slice (some ⟨b, 0, none⟩) ws.length cap], X]
        (fun r L => r = wv (o i) ∧ L = [blk b 67 (wcells cur ++ ex), blk p 52 [.int .i64 (n : Nat), .slice (some ⟨b, 0, none⟩) ws.length cap], X])) :
    Spec Tryd.prog 55 [.pointer (some ⟨p, 0, none⟩), ov, .func (.func fid) #[] #[]] [blk b 67 (wcells ws ++ ex), blk p 52 [.int .i64 (n : Nat), .slice (some ⟨b, 0, none⟩) ws.length cap], X]
      (fun r L => r = .tuple #[] ∧ ∃ ws', ws'.length = ws.length ∧ (∀ k, mem ws' k = (decide (k < n) && (g (ws.getD (k / 64) 0#64) (o (k / 64))).getLsbD (k % 64))) ∧
        L = [blk b 67 (wcells ws' ++ ex), blk p 52 [.int .i64 (n : Nat), .slice (some ⟨b, 0, none⟩) ws.length cap], X]) := by
  refine Spec.of 58 Tryd.func55 rfl rfl rfl ?_
  refine swp_seq ?_
  refine swp_seq ?_
  refine swp_region ?_
  refine s_pu (pu_move rfl) ?_
  refine s_pu (pu_ptr_eq_nil rfl rfl) ?_
  refine swl_sub _ (.cons (t := 0) rfl (.cons (t := 1) rfl (.cons (t := 2) rfl (.cons (t := 10) rfl .nil)))) ?_
  refine swl_nil ?_
  refine then_n ?_
  refine swp_cond (b := _) rfl (fun h10 => by cases h10) (fun h10 => ?_)
  refine swp_skip ?_
  refine then_n ?_
  refine swp_seq ?_
  refine swp_seq ?_
  refine swp_region ?_
  refine s_pu (pu_move rfl) ?_
  first | refine s_pu (pu_nilCheck rfl) ?_ | refine s_pu (pu_nilCheck_fn rfl) ?_ | refine s_pu (pu_nilCheck_if rfl) ?_
  first | refine s_pu (pu_fieldAddr0 rfl) ?_ | refine s_pu (pu_fieldAddr rfl) ?_
  refine s_rd (rd_load rfl rfl) ?_
  refine s_pu (pu_len rfl) ?_
  refine s_pu (pu_move rfl) ?_
  refine swl_sub _ (.cons (t := 0) rfl (.cons (t := 1) rfl (.cons (t := 2) rfl (.cons (t := 14) rfl (.cons (t := 15) rfl (.cons (t := 16) rfl .nil)))))) ?_
  refine swl_nil ?_
  refine then_n ?_
  refine swp_block ?_
  refine swp_loop (ι := Nat × List (BitVec 64)) (fun k env L => env = [(0, .pointer (some ⟨p, 0, none⟩)), (1, ov), (2, .func (.func fid) #[] #[]), (14, .slice (some ⟨b, 0, none⟩) ws.length cap), (15, .int .i64 (ws.length : Nat)), (16, .int .i64 (k.1 : Nat))] ∧
    L = [blk b 67 (wcells k.2 ++ ex), blk p 52 [.int .i64 (n : Nat), .slice (some ⟨b, 0, none⟩) ws.length cap], X] ∧ k.1 ≤ ws.length ∧ k.2.length = ws.length ∧ (∀ j, j < k.1 → k.2.getD j 0#64 = g (ws.getD j 0#64) (o j)) ∧ (∀ j, k.1 ≤ j → k.2[j]? = ws[j]?)) (fun k => ws.length - k.1) (0, ws)
    ⟨rfl, rfl, Nat.zero_le _, rfl, fun j h => absurd h (Nat.not_lt_zero _), fun j _ => rfl⟩ ?_
  rintro ⟨i, cur⟩ env L ⟨rfl, rfl, hi, hcl, hlow, hup⟩
  simp only [] at hi hcl hlow hup
  dsimp only
  refine swp_seq ?_
  refine swp_region ?_
  refine s_pu (pu_lss rfl rfl) ?_
  refine swl_sub _ (.cons (t := 0) rfl (.cons (t := 1) rfl (.cons (t := 2) rfl (.cons (t := 14) rfl (.cons (t := 15) rfl (.cons (t := 16) rfl (.cons (t := 17) rfl .nil))))))) ?_
  refine swl_nil ?_
  refine then_n ?_
  refine swp_seq ?_
  refine swp_cond (b := _) rfl (fun h17 => ?_) (fun h17 => ?_)
  · skip   -- 17 T
    have h17' : i < ws.length := by have := of_decide_eq_true h17; omega
    obtain ⟨w, hw⟩ : ∃ w, ws[i]? = some w := ⟨_, List.getElem?_eq_getElem h17'⟩
    have hcw : cur[i]? = some w := by rw [hup i (Nat.le_refl _)]; exact hw
    refine swp_skip ?_
    refine then_n ?_
    refine swp_seq ?_
    refine swp_block ?_
    refine swp_seq ?_
    refine swp_region ?_
    refine s_pu (pu_move rfl) ?_
    refine s_pu (pu_indexAddr i rfl rfl (by omega) (by omega) (by omega)) ?_
    refine s_rd (rd_load rfl (wcells_get hcw)) ?_
    refine s_pu (pu_assign rfl) ?_
    refine s_pu (pu_assign rfl) ?_
    refine swl_sub _ (.cons (t := 0) rfl (.cons (t := 1) rfl (.cons (t := 2) rfl (.cons (t := 6) rfl (.cons (t := 7) rfl (.cons (t := 14) rfl (.cons (t := 15) rfl (.cons (t := 16) rfl .nil)))))))) ?_
    refine swl_nil ?_
    refine then_n ?_
    refine swp_draw [3] _ [] (by simp only [List.append_nil]; exact Ent.refl _) (by kernel_rfl) ?_
    refine d_pu 0 rfl (pu_move rfl) (by kernel_rfl) (by kernel_rfl) (by kernel_rfl) ?_
    first | refine d_pu 1 rfl (pu_nilCheck rfl) (by kernel_rfl) (by kernel_rfl) (by kernel_rfl) ?_ | refine d_pu 1 rfl (pu_nilCheck_fn rfl) (by kernel_rfl) (by kernel_rfl) (by kernel_rfl) ?_ | refine d_pu 1 rfl (pu_nilCheck_if rfl) (by kernel_rfl) (by kernel_rfl) (by kernel_rfl) ?_
    first | refine d_pu 2 rfl (pu_fieldAddr0 rfl) (by kernel_rfl) (by kernel_rfl) (by kernel_rfl) ?_ | refine d_pu 2 rfl (pu_fieldAddr rfl) (by kernel_rfl) (by kernel_rfl) (by kernel_rfl) ?_
    refine d_rd 3 rfl (rd_load rfl rfl) rfl (by kernel_rfl) (by kernel_rfl) (by kernel_rfl) ?_
    refine d_pu 4 rfl (pu_move rfl) (by kernel_rfl) (by kernel_rfl) (by kernel_rfl) ?_
    refine d_pu 5 rfl (pu_move rfl) (by kernel_rfl) (by kernel_rfl) (by kernel_rfl) ?_
    refine d_pu 6 rfl (pu_move rfl) (by kernel_rfl) (by kernel_rfl) (by kernel_rfl) ?_
    refine d_pu 7 rfl (pu_move rfl) (by kernel_rfl) (by kernel_rfl) (by kernel_rfl) ?_
    refine d_pu 8 rfl (pu_move rfl) (by kernel_rfl) (by kernel_rfl) (by kernel_rfl) ?_
    refine d_eft 9 rfl (by kernel_rfl) (ef_fn (ho cur i hcl h17' (hup i (Nat.le_refl _))) rfl rfl (by repeat (first | exact Split.nil | (apply Split.cons; (repeat (first | with_reducible exact Take.here | apply Take.there)))))) ?_
    rintro v1 L1 ⟨rfl, rfl⟩
    refine ⟨_, ent_appC (Split.ent (by repeat (first | exact Split.nil | (apply Split.cons; (repeat (first | with_reducible exact Take.here | apply Take.there)))))), ?_⟩
    refine d_eft 10 rfl (by kernel_rfl) (ef_fn (hf w (o i)) rfl rfl (by repeat (first | exact Split.nil | (apply Split.cons; (repeat (first | with_reducible exact Take.here | apply Take.there)))))) ?_
    rintro v1 L1 ⟨rfl, rfl⟩
    refine ⟨_, ent_appC (Split.ent (by repeat (first | exact Split.nil | (apply Split.cons; (repeat (first | with_reducible exact Take.here | apply Take.there)))))), ?_⟩
    refine d_pu 11 rfl (pu_indexAddr i rfl rfl (by omega) (by omega) (by omega)) (by kernel_rfl) (by kernel_rfl) (by kernel_rfl) ?_
    first | refine d_fin0t 12 rfl (by kernel_rfl) (by kernel_rfl) (ef_storeP rfl rfl rfl (by rw [List.length_append, wcells_len]; omega)) ?_ | refine d_fin0f 12 rfl (by kernel_rfl) (by kernel_rfl) (ef_storeP rfl rfl rfl (by rw [List.length_append, wcells_len]; omega)) ?_
    refine d_sub _ (.cons (t := 0) rfl (.cons (t := 1) rfl (.cons (t := 2) rfl (.cons (t := 14) rfl (.cons (t := 15) rfl (.cons (t := 16) rfl .nil)))))) ?_
    first | refine d_nilt (by kernel_rfl) ?_ | refine d_nilf (by kernel_rfl) ?_
    refine block_n ?_
    refine then_n ?_
    refine swp_region ?_
    refine s_pu (pu_add_as ((i + 1 : Nat) : Int) rfl rfl (by omega) (by omega) (by omega)) ?_
    refine s_pu (pu_move rfl) ?_
    refine swl_sub _ (.cons (t := 0) rfl (.cons (t := 1) rfl (.cons (t := 2) rfl (.cons (t := 14) rfl (.cons (t := 15) rfl (.cons (t := 16) rfl .nil)))))) ?_
    rw [wcells_set (by omega)]
    refine swl_nil ?_
    refine then_n ⟨(i + 1, cur.set i (g w (o i))), ⟨rfl, rfl, h17', by simp [hcl], fun j hj => ?_, fun j hj => ?_⟩, by show ws.length - (i + 1) < ws.length - i; omega⟩
    · show (cur.set i (g w (o i))).getD j 0#64 = _
      by_cases hji : j = i
      · subst hji
        rw [getD_of hw, List.getD_eq_getElem?_getD, List.getElem?_set_self (by omega)]; rfl
      · rw [List.getD_eq_getElem?_getD, List.getElem?_set_ne (Ne.symm hji), ← List.getD_eq_getElem?_getD]
        have hj' : j < i + 1 := hj
        exact hlow j (by omega)
    · have hj' : i + 1 ≤ j := hj
      show (cur.set i (g w (o i)))[j]? = _
      rw [List.getElem?_set_ne (by omega)]; exact hup j (by omega)
  · skip   -- 17 F
    have hin : i = ws.length := by have := of_decide_eq_false h17; omega
    subst hin
    refine swp_exit ?_
    refine then_x ?_
    refine then_x ?_
    refine block_hit rfl ?_
    refine then_n ?_
    refine swp_seq ?_
    refine swp_region ?_
    refine s_pu (pu_move rfl) ?_
    first | refine s_pu (pu_nilCheck rfl) ?_ | refine s_pu (pu_nilCheck_fn rfl) ?_ | refine s_pu (pu_nilCheck_if rfl) ?_
    first | refine s_pu (pu_fieldAddr0 rfl) ?_ | refine s_pu (pu_fieldAddr rfl) ?_
    refine s_rd (rd_load rfl rfl) ?_
    refine s_pu (pu_rem_as ((n % 64 : Nat) : Int) rfl rfl (by omega) (by omega) (by omega)) ?_
    refine s_pu (pu_assign rfl) ?_
    refine swl_sub _ (.cons (t := 0) rfl (.cons (t := 8) rfl .nil)) ?_
    refine swl_nil ?_
    refine then_n ?_
    refine swp_seq ?_
    refine swp_region ?_
    refine s_pu (pu_move rfl) ?_
    refine s_pu (pu_neq rfl rfl) ?_
    refine swl_sub _ (.cons (t := 0) rfl (.cons (t := 8) rfl (.cons (t := 40) rfl .nil))) ?_
    refine swl_nil ?_
    refine then_n ?_
    refine swp_cond (b := _) rfl (fun h40 => ?_) (fun h40 => ?_)
    · skip   -- 40 T
      have h40' : n % 64 ≠ 0 := fun e => by simp [e] at h40
      have hi1 : ws.length - 1 < cur.length := by omega
      obtain ⟨w, hw⟩ : ∃ w, cur[ws.length - 1]? = some w := ⟨_, List.getElem?_eq_getElem hi1⟩
      refine swp_draw [3, 7, 11] _ [] (by simp only [List.append_nil]; exact Ent.refl _) (by kernel_rfl) ?_
      refine d_pu 0 rfl (pu_move rfl) (by kernel_rfl) (by kernel_rfl) (by kernel_rfl) ?_
      first | refine d_pu 1 rfl (pu_nilCheck rfl) (by kernel_rfl) (by kernel_rfl) (by kernel_rfl) ?_ | refine d_pu 1 rfl (pu_nilCheck_fn rfl) (by kernel_rfl) (by kernel_rfl) (by kernel_rfl) ?_ | refine d_pu 1 rfl (pu_nilCheck_if rfl) (by kernel_rfl) (by kernel_rfl) (by kernel_rfl) ?_
      first | refine d_pu 2 rfl (pu_fieldAddr0 rfl) (by kernel_rfl) (by kernel_rfl) (by kernel_rfl) ?_ | refine d_pu 2 rfl (pu_fieldAddr rfl) (by kernel_rfl) (by kernel_rfl) (by kernel_rfl) ?_
      refine d_rd 3 rfl (rd_load rfl rfl) rfl (by kernel_rfl) (by kernel_rfl) (by kernel_rfl) ?_
      refine d_pu 4 rfl (pu_move rfl) (by kernel_rfl) (by kernel_rfl) (by kernel_rfl) ?_
      first | refine d_pu 5 rfl (pu_nilCheck rfl) (by kernel_rfl) (by kernel_rfl) (by kernel_rfl) ?_ | refine d_pu 5 rfl (pu_nilCheck_fn rfl) (by kernel_rfl) (by kernel_rfl) (by kernel_rfl) ?_ | refine d_pu 5 rfl (pu_nilCheck_if rfl) (by kernel_rfl) (by kernel_rfl) (by kernel_rfl) ?_
      first | refine d_pu 6 rfl (pu_fieldAddr0 rfl) (by kernel_rfl) (by kernel_rfl) (by kernel_rfl) ?_ | refine d_pu 6 rfl (pu_fieldAddr rfl) (by kernel_rfl) (by kernel_rfl) (by kernel_rfl) ?_
      refine d_rd 7 rfl (rd_load rfl rfl) rfl (by kernel_rfl) (by kernel_rfl) (by kernel_rfl) ?_
      refine d_pu 8 rfl (pu_len rfl) (by kernel_rfl) (by kernel_rfl) (by kernel_rfl) ?_
      refine d_pu 9 rfl (pu_sub_as ((ws.length - 1 : Nat) : Int) rfl rfl (by omega) (by omega) (by omega)) (by kernel_rfl) (by kernel_rfl) (by kernel_rfl) ?_
      refine d_pu 10 rfl (pu_indexAddr (ws.length - 1) rfl rfl (by omega) (by omega) (by omega)) (by kernel_rfl) (by kernel_rfl) (by kernel_rfl) ?_
      refine d_rd 11 rfl (rd_load rfl (wcells_get hw)) rfl (by kernel_rfl) (by kernel_rfl) (by kernel_rfl) ?_
      refine d_pu 12 rfl (pu_move rfl) (by kernel_rfl) (by kernel_rfl) (by kernel_rfl) ?_
      refine d_pu 13 rfl (pu_shl_w (a := 1#64) (n % 64) rfl rfl (by omega)) (by kernel_rfl) (by kernel_rfl) (by kernel_rfl) ?_
      refine d_pu 14 rfl (pu_sub_w (a := 1#64 <<< (n % 64)) (b := 1#64) rfl rfl) (by kernel_rfl) (by kernel_rfl) (by kernel_rfl) ?_
      refine d_pu 15 rfl (pu_and_w (a := w) (b := (1#64 <<< (n % 64)) - 1#64) rfl rfl) (by kernel_rfl) (by kernel_rfl) (by kernel_rfl) ?_
      refine d_pu 16 rfl (pu_indexAddr (ws.length - 1) rfl rfl (by omega) (by omega) (by omega)) (by kernel_rfl) (by kernel_rfl) (by kernel_rfl) ?_
      first | refine d_fin0t 17 rfl (by kernel_rfl) (by kernel_rfl) (ef_storeP rfl rfl rfl (by rw [List.length_append, wcells_len]; omega)) ?_ | refine d_fin0f 17 rfl (by kernel_rfl) (by kernel_rfl) (ef_storeP rfl rfl rfl (by rw [List.length_append, wcells_len]; omega)) ?_
      refine d_sub _ .nil ?_
      first | refine d_nilt (by kernel_rfl) ?_ | refine d_nilf (by kernel_rfl) ?_
      rw [wcells_set hi1]
      refine done_end _ .nil ⟨rfl, cur.set (ws.length - 1) (w &&& ((1#64 <<< (n % 64)) - 1#64)), by simp [hcl], fun k => ?_, rfl⟩ (by repeat (first | exact Split.nil | (apply Split.cons; (repeat (first | with_reducible exact Take.here | apply Take.there)))))
      rw [mem_set _ hi1]
      split
      · rename_i h
        rw [BitVec.getLsbD_and, low_mask _ _ (Nat.mod_lt _ (by decide)), ← getD_of hw, hlow _ (by omega), h, Bool.and_comm]
        congr 1
        by_cases hk : k < n
        · rw [decide_eq_true hk, decide_eq_true (by omega)]
        · rw [decide_eq_false hk, decide_eq_false (by omega)]
      · rename_i h
        rcases Nat.lt_or_ge (k / 64) ws.length with h5 | h5
        · rw [decide_eq_true (show k < n by omega), Bool.true_and]
          unfold mem
          rw [hlow _ h5]
        · rw [decide_eq_false (show ¬ k < n by omega), Bool.false_and]
          exact mem_ge (by omega)
    · skip   -- 40 F
      refine swp_skip ?_
      have h40' : n % 64 = 0 := by
        have := of_decide_eq_true (not_f h40)
        omega
      refine done_end _ .nil ⟨rfl, cur, hcl, fun k => ?_, rfl⟩ (by repeat (first | exact Split.nil | (apply Split.cons; (repeat (first | with_reducible exact Take.here | apply Take.there)))))
      rcases Nat.lt_or_ge (k / 64) ws.length with h5 | h5
      · rw [decide_eq_true (show k < n by omega), Bool.true_and]
        unfold mem
        rw [hlow _ h5]
      · rw [decide_eq_false (show ¬ k < n by omega), Bool.false_and]
        exact mem_ge (by omega)
theorem each_0 (p : Nat) (ov : Value) (fid : Nat) : Spec Tryd.prog 55 [.pointer (some ⟨p, 0, none⟩), ov, .func (.func fid) #[] #[]] [blk p 52 [.int .i64 0, .slice none 0 0]] (fun r L => r = .tuple #[] ∧ L = [blk p 52 [.int .i64 0, .slice none 0 0]]) := by
  refine Spec.of 58 Tryd.func55 rfl rfl rfl ?_
  refine swp_seq ?_
  refine swp_seq ?_
  refine swp_region ?_
  refine s_pu (pu_move rfl) ?_
  refine s_pu (pu_ptr_eq_nil rfl rfl) ?_
  refine swl_sub _ (.cons (t := 0) rfl (.cons (t := 1) rfl (.cons (t := 2) rfl (.cons (t := 10) rfl .nil)))) ?_
  refine swl_nil ?_
  refine then_n ?_
  refine swp_cond (b := _) rfl (fun h10 => by cases h10) (fun h10 => ?_)
  refine swp_skip ?_
  refine then_n ?_
  refine swp_seq ?_
  refine swp_seq ?_
  refine swp_region ?_
  refine s_pu (pu_move rfl) ?_
  first | refine s_pu (pu_nilCheck rfl) ?_ | refine s_pu (pu_nilCheck_fn rfl) ?_ | refine s_pu (pu_nilCheck_if rfl) ?_
  first | refine s_pu (pu_fieldAddr0 rfl) ?_ | refine s_pu (pu_fieldAddr rfl) ?_
  refine s_rd (rd_load rfl rfl) ?_
  refine s_pu (pu_len rfl) ?_
  refine s_pu (pu_move rfl) ?_
  refine swl_sub _ (.cons (t := 0) rfl (.cons (t := 1) rfl (.cons (t := 2) rfl (.cons (t := 14) rfl (.cons (t := 15) rfl (.cons (t := 16) rfl .nil)))))) ?_
  refine swl_nil ?_
  refine then_n ?_
  refine swp_block ?_
  refine swp_loop (ι := Unit) (fun _ env L => env = [(0, .pointer (some ⟨p, 0, none⟩)), (1, ov), (2, .func (.func fid) #[] #[]), (14, .slice none 0 0), (15, .int .i64 0), (16, .int .i64 0)] ∧ L = [blk p 52 [.int .i64 0, .slice none 0 0]]) (fun _ => 0) () ⟨rfl, rfl⟩ ?_
  rintro _ env L ⟨rfl, rfl⟩
  refine swp_seq ?_
  refine swp_region ?_
  refine s_pu (pu_lss rfl rfl) ?_
  refine swl_sub _ (.cons (t := 0) rfl (.cons (t := 1) rfl (.cons (t := 2) rfl (.cons (t := 14) rfl (.cons (t := 15) rfl (.cons (t := 16) rfl (.cons (t := 17) rfl .nil))))))) ?_
  refine swl_nil ?_
  refine then_n ?_
  refine swp_seq ?_
  refine swp_cond (b := _) rfl (fun h17 => by have := of_decide_eq_true h17; omega) (fun h17 => ?_)
  refine swp_exit ?_
  refine then_x ?_
  refine then_x ?_
  refine block_hit rfl ?_
  refine then_n ?_
  refine swp_seq ?_
  refine swp_region ?_
  refine s_pu (pu_move rfl) ?_
  first | refine s_pu (pu_nilCheck rfl) ?_ | refine s_pu (pu_nilCheck_fn rfl) ?_ | refine s_pu (pu_nilCheck_if rfl) ?_
  first | refine s_pu (pu_fieldAddr0 rfl) ?_ | refine s_pu (pu_fieldAddr rfl) ?_
  refine s_rd (rd_load rfl rfl) ?_
  refine s_pu (pu_rem_as 0 rfl rfl (by omega) (by omega) (by omega)) ?_
  refine s_pu (pu_assign rfl) ?_
  refine swl_sub _ (.cons (t := 0) rfl (.cons (t := 8) rfl .nil)) ?_
  refine swl_nil ?_
  refine then_n ?_
  refine swp_seq ?_
  refine swp_region ?_
  refine s_pu (pu_move rfl) ?_
  refine s_pu (pu_neq rfl rfl) ?_
  refine swl_sub _ (.cons (t := 0) rfl (.cons (t := 8) rfl (.cons (t := 40) rfl .nil))) ?_
  refine swl_nil ?_
  refine then_n ?_
  refine swp_cond (b := _) rfl (fun h40 => absurd h40 (by decide)) (fun h40 => ?_)
  refine swp_skip ?_
  exact done_end _ .nil ⟨rfl, rfl⟩ (by repeat (first | exact Split.nil | (apply Split.cons; (repeat (first | with_reducible exact Take.here | apply Take.there)))))
theorem each_nil (ov fv : Value) : Spec Tryd.prog 55 [.pointer none, ov, fv] [] (fun r L => r = .tuple #[] ∧ L = []) := by
  refine Spec.of 58 Tryd.func55 rfl rfl rfl ?_
  refine swp_seq ?_
  refine swp_seq ?_
  refine swp_region ?_
  refine s_pu (pu_move rfl) ?_
  refine s_pu (pu_ptr_eq_nil rfl rfl) ?_
  refine swl_sub _ (.cons (t := 0) rfl (.cons (t := 1) rfl (.cons (t := 2) rfl (.cons (t := 10) rfl .nil)))) ?_
  refine swl_nil ?_
  refine then_n ?_
  refine swp_cond (b := _) rfl (fun h10 => ?_) (fun h10 => by cases h10)
  refine swp_ret ?_
  refine then_r ?_
  exact done_ret _ .nil ⟨rfl, rfl⟩ (by repeat (first | exact Split.nil | (apply Split.cons; (repeat (first | with_reducible exact Take.here | apply Take.there)))))
theorem or1 (x y : BitVec 64) : Spec Tryd.prog 56 [wv x, wv y] [] (fun r L => r = wv (x ||| y) ∧ L = []) := by
  refine Spec.of 8 Tryd.func56 rfl rfl rfl ?_
  refine swp_seq ?_
  refine swp_region ?_
  refine s_pu (pu_assign rfl) ?_
  refine swl_sub _ (.cons (t := 0) rfl (.cons (t := 1) rfl .nil)) ?_
  refine swl_nil ?_
  refine then_n ?_
  refine swp_seq ?_
  refine swp_region ?_
  refine s_pu (pu_move rfl) ?_
  refine s_pu (pu_move rfl) ?_
  refine s_pu (pu_or_w rfl rfl) ?_
  refine s_pu (pu_assign rfl) ?_
  refine swl_sub _ (.cons (t := 4) rfl .nil) ?_
  refine swl_nil ?_
  refine then_n ?_
  refine swp_ret ?_
  exact done_ret _ (.tmp rfl .nil) ⟨rfl, rfl⟩ (by repeat (first | exact Split.nil | (apply Split.cons; (repeat (first | with_reducible exact Take.here | apply Take.there)))))
theorem and1 (x y : BitVec 64) : Spec Tryd.prog 58 [wv x, wv y] [] (fun r L => r = wv (x &&& y) ∧ L = []) := by
  refine Spec.of 8 Tryd.func58 rfl rfl rfl ?_
  refine swp_seq ?_
  refine swp_region ?_
  refine s_pu (pu_assign rfl) ?_
  refine swl_sub _ (.cons (t := 0) rfl (.cons (t := 1) rfl .nil)) ?_
  refine swl_nil ?_
  refine then_n ?_
  refine swp_seq ?_
  refine swp_region ?_
  refine s_pu (pu_move rfl) ?_
  refine s_pu (pu_move rfl) ?_
  refine s_pu (pu_and_w rfl rfl) ?_
  refine s_pu (pu_assign rfl) ?_
  refine swl_sub _ (.cons (t := 4) rfl .nil) ?_
  refine swl_nil ?_
  refine then_n ?_
  refine swp_ret ?_
  exact done_ret _ (.tmp rfl .nil) ⟨rfl, rfl⟩ (by repeat (first | exact Split.nil | (apply Split.cons; (repeat (first | with_reducible exact Take.here | apply Take.there)))))
theorem less1 (x y : BitVec 64) : Spec Tryd.prog 59 [wv x, wv y] [] (fun r L => r = wv (x &&& ~~~y) ∧ L = []) := by
  refine Spec.of 8 Tryd.func59 rfl rfl rfl ?_
  refine swp_seq ?_
  refine swp_region ?_
  refine s_pu (pu_assign rfl) ?_
  refine swl_sub _ (.cons (t := 0) rfl (.cons (t := 1) rfl .nil)) ?_
  refine swl_nil ?_
  refine then_n ?_
  refine swp_seq ?_
  refine swp_region ?_
  refine s_pu (pu_move rfl) ?_
  refine s_pu (pu_move rfl) ?_
  refine s_pu (pu_andNot_w rfl rfl) ?_
  refine s_pu (pu_assign rfl) ?_
  refine swl_sub _ (.cons (t := 4) rfl .nil) ?_
  refine swl_nil ?_
  refine then_n ?_
  refine swp_ret ?_
  exact done_ret _ (.tmp rfl .nil) ⟨rfl, rfl⟩ (by repeat (first | exact Split.nil | (apply Split.cons; (repeat (first | with_reducible exact Take.here | apply Take.there)))))
end SX
