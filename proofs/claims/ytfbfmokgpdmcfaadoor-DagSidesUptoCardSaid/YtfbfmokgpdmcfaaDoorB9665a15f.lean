/- A part of the proof: walks of the program's functions, and the rules by which they go. -/
import Derived.Test.YtfbfmokgpdmcfaaDoorB1ed06f0d
namespace SX
open Go Go.Proofs

theorem low_mask (r i : Nat) (hr : r < 64) : (((1#64 : BitVec 64) <<< r) - 1#64).getLsbD i = decide (i < r) := by
  have hp : 2 ^ r < 2 ^ 64 := Nat.pow_lt_pow_right (by decide) hr
  have h1 : ((1#64 : BitVec 64) <<< r).toNat = 2 ^ r := by
    rw [BitVec.toNat_shiftLeft, Nat.shiftLeft_eq, show (1#64 : BitVec 64).toNat = 1 from rfl, Nat.one_mul]
    exact Nat.mod_eq_of_lt hp
  have hpos := Nat.two_pow_pos r
  have e : (((1#64 : BitVec 64) <<< r) - 1#64).toNat = 2 ^ r - 1 := by
    rw [BitVec.toNat_sub, h1, show (1#64 : BitVec 64).toNat = 1 from rfl]
    omega
  show (((1#64 : BitVec 64) <<< r) - 1#64).toNat.testBit i = _
  rw [e, Nat.testBit_two_pow_sub_one]
theorem getD_of {ws : List (BitVec 64)} {i : Nat} {w : BitVec 64} (h : ws[i]? = some w) : ws.getD i 0#64 = w := by rw [List.getD_eq_getElem?_getD, h]; rfl

/-- a word of the set itself, while its words lie open -/
theorem word_b (p n b cap : Nat) (ws : List (BitVec 64)) (ex : List Value) (i : Nat) (w : BitVec 64) (hw : ws[i]? = some w) :
    Spec Tryd.prog 60 [.pointer (some ⟨p, 0, none⟩), .int .i64 (i : Nat)] [blk b 67 (wcells ws ++ ex), blk p 52 [.int .i64 (n : Nat), .slice (some ⟨b, 0, none⟩) ws.length cap]]
      (fun r L => r = wv w ∧ L = [blk b 67 (wcells ws ++ ex), blk p 52 [.int .i64 (n : Nat), .slice (some ⟨b, 0, none⟩) ws.length cap]]) := by
  have hi : i < ws.length := (List.getElem?_eq_some_iff.1 hw).1
  refine Spec.of 23 Tryd.func60 rfl rfl rfl ?_
  refine swp_seq ?_
  refine swp_region ?_
  refine s_pu (pu_assign rfl) ?_
  refine swl_sub _ (.cons (t := 0) rfl (.cons (t := 1) rfl .nil)) ?_
  refine swl_nil ?_
  refine then_n ?_
  refine swp_seq ?_
  refine swp_seq ?_
  refine swp_region ?_
  refine s_pu (pu_move rfl) ?_
  refine s_pu (pu_ptr_eq_nil rfl rfl) ?_
  refine s_pu (pu_move rfl) ?_
  refine s_on rfl rfl ?_
  refine s_pu (pu_move rfl) ?_
  refine s_on rfl rfl ?_
  refine s_pu (pu_move rfl) ?_
  refine s_on rfl rfl ?_
  first | refine s_pu (pu_nilCheck rfl) ?_ | refine s_pu (pu_nilCheck_fn rfl) ?_ | refine s_pu (pu_nilCheck_if rfl) ?_
  refine s_on rfl rfl ?_
  first | refine s_pu (pu_fieldAddr0 rfl) ?_ | refine s_pu (pu_fieldAddr rfl) ?_
  refine s_on rfl rfl ?_
  refine s_rd (rd_load rfl rfl) ?_
  refine s_on rfl rfl ?_
  refine s_pu (pu_len rfl) ?_
  refine s_on rfl rfl ?_
  refine s_pu (pu_geq rfl rfl) ?_
  first | refine s_pu (pu_pick_t rfl rfl) ?_ | refine s_pu (pu_pick_f rfl rfl) ?_
  refine swl_sub _ (.cons (t := 0) rfl (.cons (t := 1) rfl (.cons (t := 15) rfl .nil))) ?_
  refine swl_nil ?_
  refine then_n ?_
  refine swp_cond (b := _) rfl (fun h15 => by have := of_decide_eq_true h15; omega) (fun h15 => ?_)
  refine swp_skip ?_
  refine then_n ?_
  refine swp_seq ?_
  refine swp_region ?_
  refine s_pu (pu_move rfl) ?_
  first | refine s_pu (pu_nilCheck rfl) ?_ | refine s_pu (pu_nilCheck_fn rfl) ?_ | refine s_pu (pu_nilCheck_if rfl) ?_
  first | refine s_pu (pu_fieldAddr0 rfl) ?_ | refine s_pu (pu_fieldAddr rfl) ?_
  refine s_rd (rd_load rfl rfl) ?_
  refine s_pu (pu_move rfl) ?_
  refine s_pu (pu_indexAddr i rfl rfl (by omega) (by omega) (by omega)) ?_
  refine s_rd (rd_load rfl (wcells_get hw)) ?_
  refine s_pu (pu_assign rfl) ?_
  refine swl_sub _ (.cons (t := 4) rfl .nil) ?_
  refine swl_nil ?_
  refine then_n ?_
  refine swp_ret ?_
  exact done_ret _ (.tmp rfl .nil) ⟨rfl, rfl⟩ (by repeat (first | exact Split.nil | (apply Split.cons; (repeat (first | with_reducible exact Take.here | apply Take.there)))))

set_option maxHeartbeats 1000000 in
theorem each_b (p n b cap : Nat) (ws : List (BitVec 64)) (ex : List Value) (ov : Value) (fid : Nat) [Body Tryd.prog fid] (g : BitVec 64 → BitVec 64 → BitVec 64) (o : Nat → BitVec 64) (X : Assn)
    (hl : ws.length = (n + 63) / 64) (hn : n ≤ 1048576) (hf : ∀ x y, Spec Tryd.prog fid [wv x, wv y] [] (fun r L => r = wv (g x y) ∧ L = []))
    (ho : ∀ (cur : List (BitVec 64)) (i : Nat), cur.length = ws.length → i < ws.length → cur[i]? = ws[i]? →
      Spec Tryd.prog 60 [ov, .int .i64 (i : Nat)] [blk b 67 (wcells cur ++ ex), blk p 52 [.int .i64 (n : Nat), .slice (some ⟨b, 0, none⟩) ws.length cap], X]
        (fun r L => r = wv (o i) ∧ L = [blk b 67 (wcells cur ++ ex), blk p 52 [.int .i64 (n : Nat), .slice (some ⟨b, 0, none⟩) ws.length cap], X])) :
    Spec Tryd.prog 55 [.pointer (some ⟨p, 0, none⟩), ov, .func (.func fid) #[] #[]] [blk b 67 (wcells ws ++ ex), blk p 52 [.int .i64 (n : Nat), .slice (some ⟨b, 0, none⟩) ws.length cap], X]
      (fun r L => r = .tuple #[] ∧ ∃ ws', ws'.length = ws.length ∧ (∀ k, mem ws' k = (decide (k < n) && (g (ws.getD (k / 64) 0#64) (o (k / 64))).getLsbD (k % 64))) ∧
        L = [blk b 67 (wcells ws' ++ ex), blk p 52 [.int .i64 (n : Nat), .slice (some ⟨b, 0, none⟩) ws.length cap], X]) := by
  refine Spec.of 58 Tryd.func55 rfl rfl rfl ?_
  refine swp_seq ?_
  refine swp_seq ?_
  refine swp_region ?_
  refine s_pu (pu_move rfl) ?_
  refine s_pu (pu_ptr_eq_nil rfl rfl) ?_
  refine swl_sub _ (.cons (t := 0) rfl (.cons (t := 1) rfl (.cons (t := 2) rfl (.cons (t := 10) rfl .nil)))) ?_
  refine swl_nil ?_
  refine then_n ?_
  refine swp_cond (b := _) rfl (fun h10 => by cases h10) (fun h10 => ?_)
  refine swp_skip ?_
  refine then_n ?_
  refine swp_seq ?_
  refine swp_seq ?_
  refine swp_region ?_
  refine s_pu (pu_move rfl) ?_
  first | refine s_pu (pu_nilCheck rfl) ?_ | refine s_pu (pu_nilCheck_fn rfl) ?_ | refine s_pu (pu_nilCheck_if rfl) ?_
  first | refine s_pu (pu_fieldAddr0 rfl) ?_ | refine s_pu (pu_fieldAddr rfl) ?_
  refine s_rd (rd_load rfl rfl) ?_
  refine s_pu (pu_len rfl) ?_
  refine s_pu (pu_move rfl) ?_
  refine swl_sub _ (.cons (t := 0) rfl (.cons (t := 1) rfl (.cons (t := 2) rfl (.cons (t := 14) rfl (.cons (t := 15) rfl (.cons (t := 16) rfl .nil)))))) ?_
  refine swl_nil ?_
  refine then_n ?_
  refine swp_block ?_
  refine swp_loop (ι := Nat × List (BitVec 64)) (fun k env L => env = [(0, .pointer (some ⟨p, 0, none⟩)), (1, ov), (2, .func (.func fid) #[] #[]), (14, .slice (some ⟨b, 0, none⟩) ws.length cap), (15, .int .i64 (ws.length : Nat)), (16, .int .i64 (k.1 : Nat))] ∧
    L = [blk b 67 (wcells k.2 ++ ex), blk p 52 [.int .i64 (n : Nat), .slice (some ⟨b, 0, none⟩) ws.length cap], X] ∧ k.1 ≤ ws.length ∧ k.2.length = ws.length ∧ (∀ j, j < k.1 → k.2.getD j 0#64 = g (ws.getD j 0#64) (o j)) ∧ (∀ j, k.1 ≤ j → k.2[j]? = ws[j]?)) (fun k => ws.length - k.1) (0, ws)
    ⟨rfl, rfl, Nat.zero_le _, rfl, fun j h => absurd h (Nat.not_lt_zero _), fun j _ => rfl⟩ ?_
  rintro ⟨i, cur⟩ env L ⟨rfl, rfl, hi, hcl, hlow, hup⟩
  simp only [] at hi hcl hlow hup
  dsimp only
  refine swp_seq ?_
  refine swp_region ?_
  refine s_pu (pu_lss rfl rfl) ?_
  refine swl_sub _ (.cons (t := 0) rfl (.cons (t := 1) rfl (.cons (t := 2) rfl (.cons (t := 14) rfl (.cons (t := 15) rfl (.cons (t := 16) rfl (.cons (t := 17) rfl .nil))))))) ?_
  refine swl_nil ?_
  refine then_n ?_
  refine swp_seq ?_
  refine swp_cond (b := _) rfl (fun h17 => ?_) (fun h17 => ?_)
  · skip   -- 17 T
    have h17' : i < ws.length := by have := of_decide_eq_true h17; omega
    obtain ⟨w, hw⟩ : ∃ w, ws[i]? = some w := ⟨_, List.getElem?_eq_getElem h17'⟩
    have hcw : cur[i]? = some w := by rw [hup i (Nat.le_refl _)]; exact hw
    refine swp_skip ?_
    refine then_n ?_
    refine swp_seq ?_
    refine swp_block ?_
    refine swp_seq ?_
    refine swp_region ?_
    refine s_pu (pu_move rfl) ?_
    refine s_pu (pu_indexAddr i rfl rfl (by omega) (by omega) (by omega)) ?_
    refine s_rd (rd_load rfl (wcells_get hcw)) ?_
    refine s_pu (pu_assign rfl) ?_
    refine s_pu (pu_assign rfl) ?_
    refine swl_sub _ (.cons (t := 0) rfl (.cons (t := 1) rfl (.cons (t := 2) rfl (.cons (t := 6) rfl (.cons (t := 7) rfl (.cons (t := 14) rfl (.cons (t := 15) rfl (.cons (t := 16) rfl .nil)))))))) ?_
    refine swl_nil ?_
    refine then_n ?_
    refine swp_draw [3] _ [] (by simp only [List.append_nil]; exact Ent.refl _) (by kernel_rfl) ?_
    refine d_pu 0 rfl (pu_move rfl) (by kernel_rfl) (by kernel_rfl) (by kernel_rfl) ?_
    first | refine d_pu 1 rfl (pu_nilCheck rfl) (by kernel_rfl) (by kernel_rfl) (by kernel_rfl) ?_ | refine d_pu 1 rfl (pu_nilCheck_fn rfl) (by kernel_rfl) (by kernel_rfl) (by kernel_rfl) ?_ | refine d_pu 1 rfl (pu_nilCheck_if rfl) (by kernel_rfl) (by kernel_rfl) (by kernel_rfl) ?_
    first | refine d_pu 2 rfl (pu_fieldAddr0 rfl) (by kernel_rfl) (by kernel_rfl) (by kernel_rfl) ?_ | refine d_pu 2 rfl (pu_fieldAddr rfl) (by kernel_rfl) (by kernel_rfl) (by kernel_rfl) ?_
    refine d_rd 3 rfl (rd_load rfl rfl) rfl (by kernel_rfl) (by kernel_rfl) (by kernel_rfl) ?_
    refine d_pu 4 rfl (pu_move rfl) (by kernel_rfl) (by kernel_rfl) (by kernel_rfl) ?_
    refine d_pu 5 rfl (pu_move rfl) (by kernel_rfl) (by kernel_rfl) (by kernel_rfl) ?_
    refine d_pu 6 rfl (pu_move rfl) (by kernel_rfl) (by kernel_rfl) (by kernel_rfl) ?_
    refine d_pu 7 rfl (pu_move rfl) (by kernel_rfl) (by kernel_rfl) (by kernel_rfl) ?_
    refine d_pu 8 rfl (pu_move rfl) (by kernel_rfl) (by kernel_rfl) (by kernel_rfl) ?_
    refine d_eft 9 rfl (by kernel_rfl) (ef_fn (ho cur i hcl h17' (hup i (Nat.le_refl _))) rfl rfl (by repeat (first | exact Split.nil | (apply Split.cons; (repeat (first | with_reducible exact Take.here | apply Take.there)))))) ?_
    rintro v1 L1 ⟨rfl, rfl⟩
    refine ⟨_, ent_appC (Split.ent (by repeat (first | exact Split.nil | (apply Split.cons; (repeat (first | with_reducible exact Take.here | apply Take.there)))))), ?_⟩
    refine d_eft 10 rfl (by kernel_rfl) (ef_fn (hf w (o i)) rfl rfl (by repeat (first | exact Split.nil | (apply Split.cons; (repeat (first | with_reducible exact Take.here | apply Take.there)))))) ?_
    rintro v1 L1 ⟨rfl, rfl⟩
    refine ⟨_, ent_appC (Split.ent (by repeat (first | exact Split.nil | (apply Split.cons; (repeat (first | with_reducible exact Take.here | apply Take.there)))))), ?_⟩
    refine d_pu 11 rfl (pu_indexAddr i rfl rfl (by omega) (by omega) (by omega)) (by kernel_rfl) (by kernel_rfl) (by kernel_rfl) ?_
    first | refine d_fin0t 12 rfl (by kernel_rfl) (by kernel_rfl) (ef_storeP rfl rfl rfl (by rw [List.length_append, wcells_len]; omega)) ?_ | refine d_fin0f 12 rfl (by kernel_rfl) (by kernel_rfl) (ef_storeP rfl rfl rfl (by rw [List.length_append, wcells_len]; omega)) ?_
    refine d_sub _ (.cons (t := 0) rfl (.cons (t := 1) rfl (.cons (t := 2) rfl (.cons (t := 14) rfl (.cons (t := 15) rfl (.cons (t := 16) rfl .nil)))))) ?_
    first | refine d_nilt (by kernel_rfl) ?_ | refine d_nilf (by kernel_rfl) ?_
    refine block_n ?_
    refine then_n ?_
    refine swp_region ?_
    refine s_pu (pu_add_as ((i + 1 : Nat) : Int) rfl rfl (by omega) (by omega) (by omega)) ?_
    refine s_pu (pu_move rfl) ?_
    refine swl_sub _ (.cons (t := 0) rfl (.cons (t := 1) rfl (.cons (t := 2) rfl (.cons (t := 14) rfl (.cons (t := 15) rfl (.cons (t := 16) rfl .nil)))))) ?_
    rw [wcells_set (by omega)]
    refine swl_nil ?_
    refine then_n ⟨(i + 1, cur.set i (g w (o i))), ⟨rfl, rfl, h17', by simp [hcl], fun j hj => ?_, fun j hj => ?_⟩, by show ws.length - (i + 1) < ws.length - i; omega⟩
    · show (cur.set i (g w (o i))).getD j 0#64 = _
      by_cases hji : j = i
      · subst hji
        rw [getD_of hw, List.getD_eq_getElem?_getD, List.getElem?_set_self (by omega)]; rfl
      · rw [List.getD_eq_getElem?_getD, List.getElem?_set_ne (Ne.symm hji), ← List.getD_eq_getElem?_getD]
        have hj' : j < i + 1 := hj
        exact hlow j (by omega)
    · have hj' : i + 1 ≤ j := hj
      show (cur.set i (g w (o i)))[j]? = _
      rw [List.getElem?_set_ne (by omega)]; exact hup j (by omega)
  · skip   -- 17 F
    have hin : i = ws.length := by have := of_decide_eq_false h17; omega
    subst hin
    refine swp_exit ?_
    refine then_x ?_
    refine then_x ?_
    refine block_hit rfl ?_
    refine then_n ?_
    refine swp_seq ?_
    refine swp_region ?_
    refine s_pu (pu_move rfl) ?_
    first | refine s_pu (pu_nilCheck rfl) ?_ | refine s_pu (pu_nilCheck_fn rfl) ?_ | refine s_pu (pu_nilCheck_if rfl) ?_
    first | refine s_pu (pu_fieldAddr0 rfl) ?_ | refine s_pu (pu_fieldAddr rfl) ?_
    refine s_rd (rd_load rfl rfl) ?_
    refine s_pu (pu_rem_as ((n % 64 : Nat) : Int) rfl rfl (by omega) (by omega) (by omega)) ?_
    refine s_pu (pu_assign rfl) ?_
    refine swl_sub _ (.cons (t := 0) rfl (.cons (t := 8) rfl .nil)) ?_
    refine swl_nil ?_
    refine then_n ?_
    refine swp_seq ?_
    refine swp_region ?_
    refine s_pu (pu_move rfl) ?_
    refine s_pu (pu_neq rfl rfl) ?_
    refine swl_sub _ (.cons (t := 0) rfl (.cons (t := 8) rfl (.cons (t := 40) rfl .nil))) ?_
    refine swl_nil ?_
    refine then_n ?_
    refine swp_cond (b := _) rfl (fun h40 => ?_) (fun h40 => ?_)
    · skip   -- 40 T
      have h40' : n % 64 ≠ 0 := fun e => by simp [e] at h40
      have hi1 : ws.length - 1 < cur.length := by omega
      obtain ⟨w, hw⟩ : ∃ w, cur[ws.length - 1]? = some w := ⟨_, List.getElem?_eq_getElem hi1⟩
      refine swp_draw [3, 7, 11] _ [] (by simp only [List.append_nil]; exact Ent.refl _) (by kernel_rfl) ?_
      refine d_pu 0 rfl (pu_move rfl) (by kernel_rfl) (by kernel_rfl) (by kernel_rfl) ?_
      first | refine d_pu 1 rfl (pu_nilCheck rfl) (by kernel_rfl) (by kernel_rfl) (by kernel_rfl) ?_ | refine d_pu 1 rfl (pu_nilCheck_fn rfl) (by kernel_rfl) (by kernel_rfl) (by kernel_rfl) ?_ | refine d_pu 1 rfl (pu_nilCheck_if rfl) (by kernel_rfl) (by kernel_rfl) (by kernel_rfl) ?_
      first | refine d_pu 2 rfl (pu_fieldAddr0 rfl) (by kernel_rfl) (by kernel_rfl) (by kernel_rfl) ?_ | refine d_pu 2 rfl (pu_fieldAddr rfl) (by kernel_rfl) (by kernel_rfl) (by kernel_rfl) ?_
      refine d_rd 3 rfl (rd_load rfl rfl) rfl (by kernel_rfl) (by kernel_rfl) (by kernel_rfl) ?_
      refine d_pu 4 rfl (pu_move rfl) (by kernel_rfl) (by kernel_rfl) (by kernel_rfl) ?_
      first | refine d_pu 5 rfl (pu_nilCheck rfl) (by kernel_rfl) (by kernel_rfl) (by kernel_rfl) ?_ | refine d_pu 5 rfl (pu_nilCheck_fn rfl) (by kernel_rfl) (by kernel_rfl) (by kernel_rfl) ?_ | refine d_pu 5 rfl (pu_nilCheck_if rfl) (by kernel_rfl) (by kernel_rfl) (by kernel_rfl) ?_
      first | refine d_pu 6 rfl (pu_fieldAddr0 rfl) (by kernel_rfl) (by kernel_rfl) (by kernel_rfl) ?_ | refine d_pu 6 rfl (pu_fieldAddr rfl) (by kernel_rfl) (by kernel_rfl) (by kernel_rfl) ?_
      refine d_rd 7 rfl (rd_load rfl rfl) rfl (by kernel_rfl) (by kernel_rfl) (by kernel_rfl) ?_
      refine d_pu 8 rfl (pu_len rfl) (by kernel_rfl) (by kernel_rfl) (by kernel_rfl) ?_
      refine d_pu 9 rfl (pu_sub_as ((ws.length - 1 : Nat) : Int) rfl rfl (by omega) (by omega) (by omega)) (by kernel_rfl) (by kernel_rfl) (by kernel_rfl) ?_
      refine d_pu 10 rfl (pu_indexAddr (ws.length - 1) rfl rfl (by omega) (by omega) (by omega)) (by kernel_rfl) (by kernel_rfl) (by kernel_rfl) ?_
      refine d_rd 11 rfl (rd_load rfl (wcells_get hw)) rfl (by kernel_rfl) (by kernel_rfl) (by kernel_rfl) ?_
      refine d_pu 12 rfl (pu_move rfl) (by kernel_rfl) (by kernel_rfl) (by kernel_rfl) ?_
      refine d_pu 13 rfl (pu_shl_w (a := 1#64) (n % 64) rfl rfl (by omega)) (by kernel_rfl) (by kernel_rfl) (by kernel_rfl) ?_
      refine d_pu 14 rfl (pu_sub_w (a := 1#64 <<< (n % 64)) (b := 1#64) rfl rfl) (by kernel_rfl) (by kernel_rfl) (by kernel_rfl) ?_
      refine d_pu 15 rfl (pu_and_w (a := w) (b := (1#64 <<< (n % 64)) - 1#64) rfl rfl) (by kernel_rfl) (by kernel_rfl) (by kernel_rfl) ?_
      refine d_pu 16 rfl (pu_indexAddr (ws.length - 1) rfl rfl (by omega) (by omega) (by omega)) (by kernel_rfl) (by kernel_rfl) (by kernel_rfl) ?_
      first | refine d_fin0t 17 rfl (by kernel_rfl) (by kernel_rfl) (ef_storeP rfl rfl rfl (by rw [List.length_append, wcells_len]; omega)) ?_ | refine d_fin0f 17 rfl (by kernel_rfl) (by kernel_rfl) (ef_storeP rfl rfl rfl (by rw [List.length_append, wcells_len]; omega)) ?_
      refine d_sub _ .nil ?_
      first | refine d_nilt (by kernel_rfl) ?_ | refine d_nilf (by kernel_rfl) ?_
      rw [wcells_set hi1]
      refine done_end _ .nil ⟨rfl, cur.set (ws.length - 1) (w &&& ((1#64 <<< (n % 64)) - 1#64)), by simp [hcl], fun k => ?_, rfl⟩ (by repeat (first | exact Split.nil | (apply Split.cons; (repeat (first | with_reducible exact Take.here | apply Take.there)))))
      rw [mem_set _ hi1]
      split
      · rename_i h
        rw [BitVec.getLsbD_and, low_mask _ _ (Nat.mod_lt _ (by decide)), ← getD_of hw, hlow _ (by omega), h, Bool.and_comm]
        congr 1
        by_cases hk : k < n
        · rw [decide_eq_true hk, decide_eq_true (by omega)]
        · rw [decide_eq_false hk, decide_eq_false (by omega)]
      · rename_i h
        rcases Nat.lt_or_ge (k / 64) ws.length with h5 | h5
        · rw [decide_eq_true (show k < n by omega), Bool.true_and]
          unfold mem
          rw [hlow _ h5]
        · rw [decide_eq_false (show ¬ k < n by omega), Bool.false_and]
          exact mem_ge (by omega)
    · skip   -- 40 F
      refine swp_skip ?_
      have h40' : n % 64 = 0 := by
        have := of_decide_eq_true (not_f h40)
        omega
      refine done_end _ .nil ⟨rfl, cur, hcl, fun k => ?_, rfl⟩ (by repeat (first | exact Split.nil | (apply Split.cons; (repeat (first | with_reducible exact Take.here | apply Take.there)))))
      rcases Nat.lt_or_ge (k / 64) ws.length with h5 | h5
      · rw [decide_eq_true (show k < n by omega), Bool.true_and]
        unfold mem
        rw [hlow _ h5]
      · rw [decide_eq_false (show ¬ k < n by omega), Bool.false_and]
        exact mem_ge (by omega)
theorem each_0 (p : Nat) (ov : Value) (fid : Nat) : Spec Tryd.prog 55 [.pointer (some ⟨p, 0, none⟩), ov, .func (.func fid) #[] #[]] [blk p 52 [.int .i64 0, .slice none 0 0]] (fun r L => r = .tuple #[] ∧ L = [blk p 52 [.int .i64 0, .slice none 0 0]]) := by
  refine Spec.of 58 Tryd.func55 rfl rfl rfl ?_
  refine swp_seq ?_
  refine swp_seq ?_
  refine swp_region ?_
  refine s_pu (pu_move rfl) ?_
  refine s_pu (pu_ptr_eq_nil rfl rfl) ?_
  refine swl_sub _ (.cons (t := 0) rfl (.cons (t := 1) rfl (.cons (t := 2) rfl (.cons (t := 10) rfl .nil)))) ?_
  refine swl_nil ?_
  refine then_n ?_
  refine swp_cond (b := _) rfl (fun h10 => by cases h10) (fun h10 => ?_)
  refine swp_skip ?_
  refine then_n ?_
  refine swp_seq ?_
  refine swp_seq ?_
  refine swp_region ?_
  refine s_pu (pu_move rfl) ?_
  first | refine s_pu (pu_nilCheck rfl) ?_ | refine s_pu (pu_nilCheck_fn rfl) ?_ | refine s_pu (pu_nilCheck_if rfl) ?_
  first | refine s_pu (pu_fieldAddr0 rfl) ?_ | refine s_pu (pu_fieldAddr rfl) ?_
  refine s_rd (rd_load rfl rfl) ?_
  refine s_pu (pu_len rfl) ?_
  refine s_pu (pu_move rfl) ?_
  refine swl_sub _ (.cons (t := 0) rfl (.cons (t := 1) rfl (.cons (t := 2) rfl (.cons (t := 14) rfl (.cons (t := 15) rfl (.cons (t := 16) rfl .nil)))))) ?_
  refine swl_nil ?_
  refine then_n ?_
  refine swp_block ?_
  refine swp_loop (ι := Unit) (fun _ env L => env = [(0, .pointer (some ⟨p, 0, none⟩)), (1, ov), (2, .func (.func fid) #[] #[]), (14, .slice none 0 0), (15, .int .i64 0), (16, .int .i64 0)] ∧ L = [blk p 52 [.int .i64 0, .slice none 0 0]]) (fun _ => 0) () ⟨rfl, rfl⟩ ?_
  rintro _ env L ⟨rfl, rfl⟩
  refine swp_seq ?_
  refine swp_region ?_
  refine s_pu (pu_lss rfl rfl) ?_
  refine swl_sub _ (.cons (t := 0) rfl (.cons (t := 1) rfl (.cons (t := 2) rfl (.cons (t := 14) rfl (.cons (t := 15) rfl (.cons (t := 16) rfl (.cons (t := 17) rfl .nil))))))) ?_
  refine swl_nil ?_
  refine then_n ?_
  refine swp_seq ?_
  refine swp_cond (b := _) rfl (fun h17 => by have := of_decide_eq_true h17; omega) (fun h17 => ?_)
  refine swp_exit ?_
  refine then_x ?_
  refine then_x ?_
  refine block_hit rfl ?_
  refine then_n ?_
  refine swp_seq ?_
  refine swp_region ?_
  refine s_pu (pu_move rfl) ?_
  first | refine s_pu (pu_nilCheck rfl) ?_ | refine s_pu (pu_nilCheck_fn rfl) ?_ | refine s_pu (pu_nilCheck_if rfl) ?_
  first | refine s_pu (pu_fieldAddr0 rfl) ?_ | refine s_pu (pu_fieldAddr rfl) ?_
  refine s_rd (rd_load rfl rfl) ?_
  refine s_pu (pu_rem_as 0 rfl rfl (by omega) (by omega) (by omega)) ?_
  refine s_pu (pu_assign rfl) ?_
  refine swl_sub _ (.cons (t := 0) rfl (.cons (t := 8) rfl .nil)) ?_
  refine swl_nil ?_
  refine then_n ?_
  refine swp_seq ?_
  refine swp_region ?_
  refine s_pu (pu_move rfl) ?_
  refine s_pu (pu_neq rfl rfl) ?_
  refine swl_sub _ (.cons (t := 0) rfl (.cons (t := 8) rfl (.cons (t := 40) rfl .nil))) ?_
  refine swl_nil ?_
  refine then_n ?_
  refine swp_cond (b := _) rfl (fun h40 => absurd h40 (by decide)) (fun h40 => ?_)
  refine swp_skip ?_
  exact done_end _ .nil ⟨rfl, rfl⟩ (by repeat (first | exact Split.nil | (apply Split.cons; (repeat (first | with_reducible exact Take.here | apply Take.there)))))
theorem each_nil (ov fv : Value) : Spec Tryd.prog 55 [.pointer none, ov, fv] [] (fun r L => r = .tuple #[] ∧ L = []) := by
  refine Spec.of 58 Tryd.func55 rfl rfl rfl ?_
  refine swp_seq ?_
  refine swp_seq ?_
  refine swp_region ?_
  refine s_pu (pu_move rfl) ?_
  refine s_pu (pu_ptr_eq_nil rfl rfl) ?_
  refine swl_sub _ (.cons (t := 0) rfl (.cons (t := 1) rfl (.cons (t := 2) rfl (.cons (t := 10) rfl .nil)))) ?_
  refine swl_nil ?_
  refine then_n ?_
  refine swp_cond (b := _) rfl (fun h10 => ?_) (fun h10 => by cases h10)
  refine swp_ret ?_
  refine then_r ?_
  exact done_ret _ .nil ⟨rfl, rfl⟩ (by repeat (first | exact Split.nil | (apply Split.cons; (repeat (first | with_reducible exact Take.here | apply Take.there)))))
theorem or1 (x y : BitVec 64) : Spec Tryd.prog 56 [wv x, wv y] [] (fun r L => r = wv (x ||| y) ∧ L = []) := by
  refine Spec.of 8 Tryd.func56 rfl rfl rfl ?_
  refine swp_seq ?_
  refine swp_region ?_
  refine s_pu (pu_assign rfl) ?_
  refine swl_sub _ (.cons (t := 0) rfl (.cons (t := 1) rfl .nil)) ?_
  refine swl_nil ?_
  refine then_n ?_
  refine swp_seq ?_
  refine swp_region ?_
  refine s_pu (pu_move rfl) ?_
  refine s_pu (pu_move rfl) ?_
  refine s_pu (pu_or_w rfl rfl) ?_
  refine s_pu (pu_assign rfl) ?_
  refine swl_sub _ (.cons (t := 4) rfl .nil) ?_
  refine swl_nil ?_
  refine then_n ?_
  refine swp_ret ?_
  exact done_ret _ (.tmp rfl .nil) ⟨rfl, rfl⟩ (by repeat (first | exact Split.nil | (apply Split.cons; (repeat (first | with_reducible exact Take.here | apply Take.there)))))
theorem and1 (x y : BitVec 64) : Spec Tryd.prog 58 [wv x, wv y] [] (fun r L => r = wv (x &&& y) ∧ L = []) := by
  refine Spec.of 8 Tryd.func58 rfl rfl rfl ?_
  refine swp_seq ?_
  refine swp_region ?_
  refine s_pu (pu_assign rfl) ?_
  refine swl_sub _ (.cons (t := 0) rfl (.cons (t := 1) rfl .nil)) ?_
  refine swl_nil ?_
  refine then_n ?_
  refine swp_seq ?_
  refine swp_region ?_
  refine s_pu (pu_move rfl) ?_
  refine s_pu (pu_move rfl) ?_
  refine s_pu (pu_and_w rfl rfl) ?_
  refine s_pu (pu_assign rfl) ?_
  refine swl_sub _ (.cons (t := 4) rfl .nil) ?_
  refine swl_nil ?_
  refine then_n ?_
  refine swp_ret ?_
  exact done_ret _ (.tmp rfl .nil) ⟨rfl, rfl⟩ (by repeat (first | exact Split.nil | (apply Split.cons; (repeat (first | with_reducible exact Take.here | apply Take.there)))))
theorem less1 (x y : BitVec 64) : Spec Tryd.prog 59 [wv x, wv y] [] (fun r L => r = wv (x &&& ~~~y) ∧ L = []) := by
  refine Spec.of 8 Tryd.func59 rfl rfl rfl ?_
  refine swp_seq ?_
  refine swp_region ?_
  refine s_pu (pu_assign rfl) ?_
  refine swl_sub _ (.cons (t := 0) rfl (.cons (t := 1) rfl .nil)) ?_
  refine swl_nil ?_
  refine then_n ?_
  refine swp_seq ?_
  refine swp_region ?_
  refine s_pu (pu_move rfl) ?_
  refine s_pu (pu_move rfl) ?_
  refine s_pu (pu_andNot_w rfl rfl) ?_
  refine s_pu (pu_assign rfl) ?_
  refine swl_sub _ (.cons (t := 4) rfl .nil) ?_
  refine swl_nil ?_
  refine then_n ?_
  refine swp_ret ?_
  exact done_ret _ (.tmp rfl .nil) ⟨rfl, rfl⟩ (by repeat (first | exact Split.nil | (apply Split.cons; (repeat (first | with_reducible exact Take.here | apply Take.there)))))
end SX
namespace SX
open Go Go.Proofs

def numsI (l : List Nat) : List Int := l.map fun k : Nat => (k : Int)
def elsTo (j : Nat) (S : Nat → Bool) : List Int := numsI ((List.range j).filter S)
theorem elsTo_skip {S : Nat → Bool} {k : Nat} : ∀ {j : Nat}, k ≤ j → (∀ i, k ≤ i → i < j → S i = false) → elsTo j S = elsTo k S
  | 0, h, _ => by have : k = 0 := by omega
                  subst this; rfl
  | j + 1, h, hS => by
    rcases Nat.lt_or_ge j k with h1 | h1
    · have : k = j + 1 := by omega
      subst this; rfl
    · have e : elsTo (j + 1) S = elsTo j S := by
        unfold elsTo
        rw [List.range_succ, List.filter_append]
        simp [hS j h1 (by omega)]
      rw [e]
      exact elsTo_skip h1 (fun i a b => hS i a (by omega))
theorem elsTo_succ {S : Nat → Bool} {j : Nat} (h : S j = true) : elsTo (j + 1) S = elsTo j S ++ [(j : Int)] := by
  unfold elsTo numsI
  rw [List.range_succ, List.filter_append]
  simp [h]
theorem elsTo_len (j : Nat) (S : Nat → Bool) : (elsTo j S).length ≤ j := by
  unfold elsTo numsI
  rw [List.length_map]
  exact Nat.le_trans (List.length_filter_le _ _) (by simp)

set_option maxHeartbeats 1000000 in
theorem list_o (μ : PH) (p n : Nat) (v : Value) (ws : List (BitVec 64)) (hT : RowAt μ 0 0 tabV) (hl : ws.length = (n + 63) / 64) (hn : n ≤ 1048576) (hS : ∀ j, n ≤ j → mem ws j = false) :
    Spec Tryd.prog 15 [.pointer (some ⟨p, 0, none⟩)] (opr p n v ws μ) (fun r L => L = [own 3 1 r (elsTo n (mem ws)).length ((elsTo n (mem ws)).flatMap (icsk .i64)), blk p 52 [.int .i64 (n : Nat), v], own 67 1 v ws.length (wcells ws), ro μ]) := by
  have inv : ∀ (k : Nat) (x : Int), k ≤ n → IsNext (mem ws) (k : Int) x → (x = -1 ∧ elsTo k (mem ws) = elsTo n (mem ws)) ∨ ∃ j : Nat, x = j ∧ k ≤ j ∧ j < n ∧ mem ws j = true ∧ elsTo k (mem ws) = elsTo j (mem ws) := by
    rintro k x hk (⟨rfl, h⟩ | ⟨j, rfl, h1, h2, h3⟩)
    · exact .inl ⟨rfl, (elsTo_skip hk (fun i a _ => h i (by omega))).symm⟩
    · refine .inr ⟨j, rfl, by omega, ?_, h2, (elsTo_skip (by omega) (fun i a b => h3 i (by omega) b)).symm⟩
      rcases Nat.lt_or_ge j n with h4 | h4
      · exact h4
      · rw [hS j h4] at h2; cases h2
  refine Spec.of 18 Tryd.func15 rfl rfl rfl ?_
  refine swp_seq ?_
  refine swp_region ?_
  refine s_pu (pu_assign rfl) ?_
  refine swl_sub _ (.cons (t := 0) rfl .nil) ?_
  refine swl_nil ?_
  refine then_n ?_
  refine swp_seq ?_
  refine swp_region ?_
  refine s_pu (pu_assign rfl) ?_
  refine swl_sub _ (.cons (t := 0) rfl (.cons (t := 3) rfl .nil)) ?_
  refine swl_ent (own_nil_ent (e := 3) (n := 1)) ?_
  refine swl_nil ?_
  refine then_n ?_
  refine swp_seq ?_
  refine swp_seq ?_
  refine swp_region ?_
  refine s_pu (pu_move rfl) ?_
  refine s_ef (ef_fn (next_o μ p n v ws 0 hT hl hn hS) rfl rfl (by repeat (first | exact Split.nil | (apply Split.cons; (repeat (first | with_reducible exact Take.here | apply Take.there)))))) ?_
  rintro v1 L1 ⟨x, rfl, hx, rfl⟩
  refine swl_app ?_
  refine s_pu (pu_assign rfl) ?_
  refine swl_sub _ (.cons (t := 0) rfl (.cons (t := 3) rfl (.cons (t := 4) rfl .nil))) ?_
  refine swl_ent (Split.ent' (K := [own 3 1 (.slice none 0 0) 0 [], blk p 52 [.int .i64 (n : Nat), v], own 67 1 v ws.length (wcells ws), ro μ]) (by repeat (first | exact Split.nil | (apply Split.cons; (repeat (first | with_reducible exact Take.here | apply Take.there)))))) ?_
  refine swl_nil ?_
  refine then_n ?_
  refine swp_block ?_
  refine swp_loop (ι := Value × Int × Nat) (fun k env L => env = [(0, .pointer (some ⟨p, 0, none⟩)), (3, k.1), (4, .int .i64 k.2.1)] ∧ L = [own 3 1 k.1 (elsTo k.2.2 (mem ws)).length ((elsTo k.2.2 (mem ws)).flatMap (icsk .i64)), blk p 52 [.int .i64 (n : Nat), v], own 67 1 v ws.length (wcells ws), ro μ] ∧
    ((k.2.1 = -1 ∧ k.2.2 = n) ∨ (k.2.1 = k.2.2 ∧ k.2.2 < n ∧ mem ws k.2.2 = true))) (fun k => if k.2.1 < 0 then 0 else n + 1 - k.2.2) (.slice none 0 0, x, if x < 0 then n else x.toNat) ⟨rfl, ?_, ?_⟩ ?_
  · rcases inv 0 x (Nat.zero_le _) hx with ⟨rfl, h⟩ | ⟨j, rfl, _, _, _, h⟩
    · show [own 3 1 (.slice none 0 0) 0 [], _, _, _] = [own 3 1 (.slice none 0 0) (elsTo n (mem ws)).length ((elsTo n (mem ws)).flatMap (icsk .i64)), _, _, _]
      rw [← h]; rfl
    · have hj : ¬ ((j : Int) < 0) := by omega
      simp only [hj, if_false, Int.toNat_natCast]
      rw [← h]; rfl
  · rcases inv 0 x (Nat.zero_le _) hx with ⟨rfl, h⟩ | ⟨j, rfl, _, h2, h3, h⟩
    · exact .inl ⟨rfl, rfl⟩
    · have hj : ¬ ((j : Int) < 0) := by omega
      simp only [hj, if_false, Int.toNat_natCast]
      exact .inr ⟨trivial, h2, h3⟩
  rintro ⟨v3, x, j⟩ env L ⟨rfl, rfl, hx⟩
  simp only [] at hx
  dsimp only
  refine swp_seq ?_
  refine swp_seq ?_
  refine swp_region ?_
  refine s_pu (pu_move rfl) ?_
  refine s_pu (pu_geq rfl rfl) ?_
  refine swl_sub _ (.cons (t := 0) rfl (.cons (t := 3) rfl (.cons (t := 4) rfl (.cons (t := 8) rfl .nil)))) ?_
  refine swl_nil ?_
  refine then_n ?_
  refine swp_cond (b := _) rfl (fun h8 => ?_) (fun h8 => ?_)
  · skip   -- 8 T
    have h8' := of_decide_eq_true h8
    obtain ⟨rfl, hjn, hj⟩ : x = (j : Int) ∧ j < n ∧ mem ws j = true := by
      rcases hx with ⟨h, _⟩ | h
      · omega
      · exact h
    have hle := elsTo_len j (mem ws)
    refine swp_skip ?_
    refine then_n ?_
    refine swp_seq ?_
    refine swp_block ?_
    refine swp_region ?_
    refine s_pu (pu_move rfl) ?_
    refine s_pu (pu_move rfl) ?_
    refine s_ef (ef_bldS (qs := [(0, _)]) rfl rfl rfl) ?_
    intro b15
    refine s_ef (ef_append_lit (l := (elsTo j (mem ws)).length) (m := 1) rfl rfl (by repeat (first | exact Split.nil | (apply Split.cons; (repeat (first | with_reducible exact Take.here | apply Take.there))))) (by simp only [maxLen]; omega) (by omega)) ?_
    rintro v' hv'
    skip
    refine s_pu (pu_assign rfl) ?_
    refine swl_sub _ (.cons (t := 0) rfl (.cons (t := 3) rfl (.cons (t := 4) rfl .nil))) ?_
    have e1 : (elsTo j (mem ws)).length + 1 = (elsTo (j + 1) (mem ws)).length := by rw [elsTo_succ hj, List.length_append]; rfl
    have e2 : (elsTo j (mem ws)).flatMap (icsk .i64) ++ [.int .i64 (j : Nat)] = (elsTo (j + 1) (mem ws)).flatMap (icsk .i64) := by rw [elsTo_succ hj, List.flatMap_append]; rfl
    rw [e1, e2]
    refine swl_nil ?_
    refine block_n ?_
    refine then_n ?_
    refine swp_region ?_
    refine s_pu (pu_move rfl) ?_
    refine s_pu (pu_move rfl) ?_
    refine s_pu (pu_add_as ((j + 1 : Nat) : Int) rfl rfl (by omega) (by omega) (by omega)) ?_
    refine s_ef (ef_fn (next_o μ p n v ws ((j + 1 : Nat) : Int) hT hl hn hS) rfl rfl (by repeat (first | exact Split.nil | (apply Split.cons; (repeat (first | with_reducible exact Take.here | apply Take.there)))))) ?_
    rintro v1 L1 ⟨x, rfl, hx2, rfl⟩
    refine swl_app ?_
    refine s_pu (pu_assign rfl) ?_
    refine swl_sub _ (.cons (t := 0) rfl (.cons (t := 3) rfl (.cons (t := 4) rfl .nil))) ?_
    refine swl_ent (Split.ent' (K := [own 3 1 v' (elsTo (j + 1) (mem ws)).length ((elsTo (j + 1) (mem ws)).flatMap (icsk .i64)), blk p 52 [.int .i64 (n : Nat), v], own 67 1 v ws.length (wcells ws), ro μ]) (by repeat (first | exact Split.nil | (apply Split.cons; (repeat (first | with_reducible exact Take.here | apply Take.there)))))) ?_
    refine swl_nil ?_
    rcases inv (j + 1) x hjn hx2 with ⟨rfl, h⟩ | ⟨i, rfl, h0, h2, h3, h⟩
    · rw [h]
      exact then_n ⟨(v', -1, n), ⟨rfl, rfl, .inl ⟨rfl, rfl⟩⟩, by
        show (if (-1 : Int) < 0 then 0 else n + 1 - n) < (if (j : Int) < 0 then 0 else n + 1 - j)
        rw [if_pos (by decide), if_neg (by omega)]; omega⟩
    · rw [h]
      exact then_n ⟨(v', (i : Int), i), ⟨rfl, rfl, .inr ⟨rfl, h2, h3⟩⟩, by
        show (if (i : Int) < 0 then 0 else n + 1 - i) < (if (j : Int) < 0 then 0 else n + 1 - j)
        rw [if_neg (by omega), if_neg (by omega)]; omega⟩
  · skip   -- 8 F
    have h8' := of_decide_eq_false h8
    obtain ⟨rfl, rfl⟩ : x = -1 ∧ j = n := by
      rcases hx with h | ⟨h, _⟩
      · exact h
      · omega
    refine swp_exit ?_
    refine then_x ?_
    refine then_x ?_
    refine block_hit rfl ?_
    refine then_n ?_
    refine swp_seq ?_
    refine swp_region ?_
    refine s_pu (pu_move rfl) ?_
    refine s_pu (pu_assign rfl) ?_
    refine swl_sub _ (.cons (t := 2) rfl .nil) ?_
    refine swl_nil ?_
    refine then_n ?_
    refine swp_ret ?_
    exact done_ret [own 3 1 v3 (elsTo j (mem ws)).length ((elsTo j (mem ws)).flatMap (icsk .i64)), blk p 52 [.int .i64 (j : Nat), v], own 67 1 v ws.length (wcells ws), ro μ] (.tmp rfl .nil) rfl (by repeat (first | exact Split.nil | (apply Split.cons; (repeat (first | with_reducible exact Take.here | apply Take.there)))))
theorem list_nil : Spec Tryd.prog 15 [.pointer none] [] (fun r L => r = .slice none 0 0 ∧ L = []) := by
  refine Spec.of 18 Tryd.func15 rfl rfl rfl ?_
  refine swp_seq ?_
  refine swp_region ?_
  refine s_pu (pu_assign rfl) ?_
  refine swl_sub _ (.cons (t := 0) rfl .nil) ?_
  refine swl_nil ?_
  refine then_n ?_
  refine swp_seq ?_
  refine swp_region ?_
  refine s_pu (pu_assign rfl) ?_
  refine swl_sub _ (.cons (t := 0) rfl (.cons (t := 3) rfl .nil)) ?_
  refine swl_nil ?_
  refine then_n ?_
  refine swp_seq ?_
  refine swp_seq ?_
  refine swp_region ?_
  refine s_pu (pu_move rfl) ?_
  refine s_ef (ef_fn (next_nil 0) rfl rfl (by repeat (first | exact Split.nil | (apply Split.cons; (repeat (first | with_reducible exact Take.here | apply Take.there)))))) ?_
  rintro v1 L1 ⟨rfl, rfl⟩
  refine swl_app ?_
  refine s_pu (pu_assign rfl) ?_
  refine swl_sub _ (.cons (t := 0) rfl (.cons (t := 3) rfl (.cons (t := 4) rfl .nil))) ?_
  refine swl_nil ?_
  refine then_n ?_
  refine swp_block ?_
  refine swp_loop (ι := Unit) (fun _ env L => env = [(0, .pointer none), (3, .slice none 0 0), (4, .int .i64 (-1))] ∧ L = []) (fun _ => 0) () ⟨rfl, rfl⟩ ?_
  rintro _ env L ⟨rfl, rfl⟩
  refine swp_seq ?_
  refine swp_seq ?_
  refine swp_region ?_
  refine s_pu (pu_move rfl) ?_
  refine s_pu (pu_geq rfl rfl) ?_
  refine swl_sub _ (.cons (t := 0) rfl (.cons (t := 3) rfl (.cons (t := 4) rfl (.cons (t := 8) rfl .nil)))) ?_
  refine swl_nil ?_
  refine then_n ?_
  refine swp_cond (b := _) rfl (fun h8 => absurd h8 (by decide)) (fun h8 => ?_)
  refine swp_exit ?_
  refine then_x ?_
  refine then_x ?_
  refine block_hit rfl ?_
  refine then_n ?_
  refine swp_seq ?_
  refine swp_region ?_
  refine s_pu (pu_move rfl) ?_
  refine s_pu (pu_assign rfl) ?_
  refine swl_sub _ (.cons (t := 2) rfl .nil) ?_
  refine swl_nil ?_
  refine then_n ?_
  refine swp_ret ?_
  exact done_ret _ (.tmp rfl .nil) ⟨rfl, rfl⟩ (by repeat (first | exact Split.nil | (apply Split.cons; (repeat (first | with_reducible exact Take.here | apply Take.there)))))

theorem count_step {ws : List (BitVec 64)} {i : Nat} {w : BitVec 64} (hw : ws[i]? = some w) : ((List.range (64 * (i + 1))).filter (mem ws)).length = ((List.range (64 * i)).filter (mem ws)).length + popc w := by
  rw [show 64 * (i + 1) = 64 * i + 64 by omega, List.range_add, List.filter_append, List.length_append]
  congr 1
  unfold popc
  rw [List.filter_map, List.length_map]
  congr 1
  apply List.filter_congr
  intro r hr
  have := List.mem_range.1 hr
  show mem ws (64 * i + r) = _
  rw [mem_at hw (by omega)]
  congr 1; omega
theorem popc_le (w : BitVec 64) : popc w ≤ 64 := Nat.le_trans (List.length_filter_le _ _) (by simp)
set_option maxHeartbeats 1000000 in
theorem count_o (p n : Nat) (v : Value) (ws : List (BitVec 64)) (hl : ws.length = (n + 63) / 64) (hn : n ≤ 1048576) (hS : ∀ j, n ≤ j → mem ws j = false) :
    Spec Tryd.prog 17 [.pointer (some ⟨p, 0, none⟩)] (opn p n v ws) (fun r L => r = .int .i64 ((elsTo n (mem ws)).length : Nat) ∧ L = opn p n v ws) := by
  have hend : ((List.range (64 * ws.length)).filter (mem ws)).length = (elsTo n (mem ws)).length := by
    have := elsTo_skip (S := mem ws) (k := n) (j := 64 * ws.length) (by omega) (fun i a _ => hS i a)
    have := congrArg List.length this
    simpa [elsTo, numsI] using this
  refine Spec.of 23 Tryd.func17 rfl rfl rfl ?_
  refine swp_seq ?_
  refine swp_region ?_
  refine s_pu (pu_assign rfl) ?_
  refine swl_sub _ (.cons (t := 0) rfl .nil) ?_
  refine swl_nil ?_
  refine then_n ?_
  refine swp_seq ?_
  refine swp_region ?_
  refine s_pu (pu_assign rfl) ?_
  refine swl_sub _ (.cons (t := 0) rfl (.cons (t := 3) rfl .nil)) ?_
  refine swl_nil ?_
  refine then_n ?_
  refine swp_seq ?_
  refine swp_seq ?_
  refine swp_region ?_
  refine s_pu (pu_move rfl) ?_
  refine s_pu (pu_ptr_ne_nil rfl rfl) ?_
  refine swl_sub _ (.cons (t := 0) rfl (.cons (t := 3) rfl (.cons (t := 7) rfl .nil))) ?_
  refine swl_nil ?_
  refine then_n ?_
  refine swp_cond (b := _) rfl (fun h7 => ?_) (fun h7 => by cases h7)
  refine swp_seq ?_
  refine swp_front (A := own 67 1 v ws.length (wcells ws)) (by repeat (first | with_reducible exact Take.here | apply Take.there)) ?_
  refine swp_fact (fun m h => own_form h) fun ⟨A, cap, hv⟩ => ?_
  subst hv
  refine swp_region ?_
  refine s_pu (pu_move rfl) ?_
  first | refine s_pu (pu_nilCheck rfl) ?_ | refine s_pu (pu_nilCheck_fn rfl) ?_ | refine s_pu (pu_nilCheck_if rfl) ?_
  first | refine s_pu (pu_fieldAddr0 rfl) ?_ | refine s_pu (pu_fieldAddr rfl) ?_
  refine s_rd (rd_load rfl rfl) ?_
  refine s_pu (pu_len rfl) ?_
  refine s_pu (pu_move rfl) ?_
  refine swl_sub _ (.cons (t := 3) rfl (.cons (t := 11) rfl (.cons (t := 12) rfl (.cons (t := 13) rfl .nil)))) ?_
  refine swl_nil ?_
  refine then_n ?_
  refine swp_block ?_
  refine swp_loop (ι := Nat) (fun i env L => env = [(3, .int .i64 (((List.range (64 * i)).filter (mem ws)).length : Nat)), (11, .slice A ws.length cap), (12, .int .i64 (ws.length : Nat)), (13, .int .i64 (i : Nat))] ∧ L = [own 67 1 (.slice A ws.length cap) ws.length (wcells ws), blk p 52 [.int .i64 (n : Nat), .slice A ws.length cap]] ∧ i ≤ ws.length) (fun i => ws.length - i) 0 ⟨rfl, rfl, Nat.zero_le _⟩ ?_
  rintro i env L ⟨rfl, rfl, hi⟩
  have hcl : ((List.range (64 * i)).filter (mem ws)).length ≤ 64 * i := Nat.le_trans (List.length_filter_le _ _) (by simp)
  refine swp_seq ?_
  refine swp_region ?_
  refine s_pu (pu_lss rfl rfl) ?_
  refine swl_sub _ (.cons (t := 3) rfl (.cons (t := 11) rfl (.cons (t := 12) rfl (.cons (t := 13) rfl (.cons (t := 14) rfl .nil))))) ?_
  refine swl_nil ?_
  refine then_n ?_
  refine swp_seq ?_
  refine swp_cond (b := _) rfl (fun h14 => ?_) (fun h14 => ?_)
  · skip   -- 14 T
    have h14' : i < ws.length := by have := of_decide_eq_true h14; omega
    obtain ⟨w, hw⟩ : ∃ w, ws[i]? = some w := ⟨_, List.getElem?_eq_getElem h14'⟩
    have hpc := popc_le w
    refine swp_skip ?_
    refine then_n ?_
    refine swp_seq ?_
    refine swp_block ?_
    refine swp_seq ?_
    refine swp_own (fun h0 l0 _ => by omega) (fun b cap' ex hv h1 h2 h3 h4 => ?_)
    cases hv
    refine swp_region ?_
    refine s_pu (pu_indexAddr i rfl rfl (by omega) (by omega) (by omega)) ?_
    refine s_rd (rd_load rfl (wcells_get hw)) ?_
    refine s_pu (pu_assign rfl) ?_
    refine swl_sub _ (.cons (t := 3) rfl (.cons (t := 5) rfl (.cons (t := 11) rfl (.cons (t := 12) rfl (.cons (t := 13) rfl .nil))))) ?_
    refine swl_nil ?_
    refine then_n ?_
    refine swp_region ?_
    refine s_pu (pu_move rfl) ?_
    refine s_pu (pu_move rfl) ?_
    refine s_ef (ef_fn (ones_spec w) rfl rfl (by repeat (first | exact Split.nil | (apply Split.cons; (repeat (first | with_reducible exact Take.here | apply Take.there)))))) ?_
    rintro v1 L1 ⟨rfl, rfl⟩
    refine swl_app ?_
    refine s_pu (pu_add_as ((((List.range (64 * (i + 1))).filter (mem ws)).length : Nat) : Int) rfl rfl (by rw [count_step hw]; omega) (by omega) (by rw [count_step hw]; omega)) ?_
    refine s_pu (pu_assign rfl) ?_
    refine swl_sub _ (.cons (t := 3) rfl (.cons (t := 11) rfl (.cons (t := 12) rfl (.cons (t := 13) rfl .nil)))) ?_
    refine swl_nil ?_
    refine block_n ?_
    refine then_n ?_
    refine swp_region ?_
    refine s_pu (pu_add_as ((i + 1 : Nat) : Int) rfl rfl (by omega) (by omega) (by omega)) ?_
    refine s_pu (pu_move rfl) ?_
    refine swl_sub _ (.cons (t := 3) rfl (.cons (t := 11) rfl (.cons (t := 12) rfl (.cons (t := 13) rfl .nil)))) ?_
    refine swl_ent ((Split.ent' (K := [blk b 67 (wcells ws ++ ex), blk p 52 [.int .i64 (n : Nat), .slice (some ⟨b, 0, none⟩) ws.length cap]]) (by repeat (first | exact Split.nil | (apply Split.cons; (repeat (first | with_reducible exact Take.here | apply Take.there)))))).trans (wown_close h1 h2 h4)) ?_
    refine swl_nil ?_
    exact then_n ⟨i + 1, ⟨rfl, rfl, h14'⟩, by omega⟩
  · skip   -- 14 F
    have hin : i = ws.length := by have := of_decide_eq_false h14; omega
    subst hin
    rw [hend]
    refine swp_exit ?_
    refine then_x ?_
    refine then_x ?_
    refine block_hit rfl ?_
    refine then_n ?_
    refine swp_seq ?_
    refine swp_region ?_
    refine s_pu (pu_move rfl) ?_
    refine s_pu (pu_assign rfl) ?_
    refine swl_sub _ (.cons (t := 2) rfl .nil) ?_
    refine swl_nil ?_
    refine then_n ?_
    refine swp_ret ?_
    exact done_ret (opn p n _ ws) (.tmp rfl .nil) ⟨rfl, rfl⟩ (by repeat (first | exact Split.nil | (apply Split.cons; (repeat (first | with_reducible exact Take.here | apply Take.there)))))
theorem count_nil : Spec Tryd.prog 17 [.pointer none] [] (fun r L => r = .int .i64 0 ∧ L = []) := by
  refine Spec.of 23 Tryd.func17 rfl rfl rfl ?_
  refine swp_seq ?_
  refine swp_region ?_
  refine s_pu (pu_assign rfl) ?_
  refine swl_sub _ (.cons (t := 0) rfl .nil) ?_
  refine swl_nil ?_
  refine then_n ?_
  refine swp_seq ?_
  refine swp_region ?_
  refine s_pu (pu_assign rfl) ?_
  refine swl_sub _ (.cons (t := 0) rfl (.cons (t := 3) rfl .nil)) ?_
  refine swl_nil ?_
  refine then_n ?_
  refine swp_seq ?_
  refine swp_seq ?_
  refine swp_region ?_
  refine s_pu (pu_move rfl) ?_
  refine s_pu (pu_ptr_ne_nil rfl rfl) ?_
  refine swl_sub _ (.cons (t := 0) rfl (.cons (t := 3) rfl (.cons (t := 7) rfl .nil))) ?_
  refine swl_nil ?_
  refine then_n ?_
  refine swp_cond (b := _) rfl (fun h7 => by cases h7) (fun h7 => ?_)
  refine swp_skip ?_
  refine then_n ?_
  refine swp_seq ?_
  refine swp_region ?_
  refine s_pu (pu_move rfl) ?_
  refine s_pu (pu_assign rfl) ?_
  refine swl_sub _ (.cons (t := 2) rfl .nil) ?_
  refine swl_nil ?_
  refine then_n ?_
  refine swp_ret ?_
  exact done_ret _ (.tmp rfl .nil) ⟨rfl, rfl⟩ (by repeat (first | exact Split.nil | (apply Split.cons; (repeat (first | with_reducible exact Take.here | apply Take.there)))))
end SX
namespace SX
open Go Go.Proofs

theorem mset_elim {f : FuncId} {args : List Value} {pre : List Assn} {post : Value → List Assn → Prop} {p n : Nat} {S : Nat → Bool} (h : ∀ v ws, Wf n ws S → Spec Tryd.prog f args (blk p 52 [.int .i64 (n : Nat), v] :: own 67 1 v ws.length (wcells ws) :: pre) post) : Spec Tryd.prog f args (mset p n S :: pre) post :=
  Spec.exA' fun x => h x.1.1 x.1.2 x.2
theorem has_eq {n : Nat} {ws : List (BitVec 64)} {S : Nat → Bool} (hw : Wf n ws S) (k : Int) : (decide (0 ≤ k) && (decide (k < n) && mem ws k.toNat)) = (decide (0 ≤ k) && S k.toNat) := by
  rw [hw.2.2.1]
  by_cases h0 : 0 ≤ k
  · by_cases h : k < n
    · simp [h]
    · rw [hw.2.2.2 k.toNat (by omega)]; simp
  · simp [h0]
theorem has_m (p n : Nat) (S : Nat → Bool) (k : Int) : Spec Tryd.prog 18 [.pointer (some ⟨p, 0, none⟩), .int .i64 k] [mset p n S] (fun r L => r = .bool (decide (0 ≤ k) && S k.toNat) ∧ L = [mset p n S]) := by
  refine mset_elim fun v ws hw => ?_
  refine Spec.ent3 (has_o p n v ws k hw.1 hw.2.1) ?_
  rintro r L ⟨rfl, rfl⟩
  exact ⟨_, mset_close hw, by rw [has_eq hw], rfl⟩
theorem size_m (p n : Nat) (S : Nat → Bool) : Spec Tryd.prog 16 [.pointer (some ⟨p, 0, none⟩)] [mset p n S] (fun r L => r = .int .i64 (n : Nat) ∧ L = [mset p n S]) := by
  refine mset_elim fun v ws hw => ?_
  intro E w hh
  refine ((size_b p n v).frame (R := [own 67 1 v ws.length (wcells ws)]) hh).mono ?_
  rintro e w' ⟨r, L, he, ⟨hr, rfl⟩, h'⟩
  exact ⟨r, _, he, ⟨hr, rfl⟩, h'.ent (mset_close hw)⟩
theorem put_m (p n : Nat) (S : Nat → Bool) (k : Int) : Spec Tryd.prog 31 [.pointer (some ⟨p, 0, none⟩), .int .i64 k] [mset p n S] (fun r L => r = .bool (decide (0 ≤ k) && (decide (k < n) && !S k.toNat)) ∧ L = [mset p n (fun j => S j || (decide (0 ≤ k ∧ k < n) && decide (j = k.toNat)))]) := by
  refine mset_elim fun v ws hw => ?_
  refine Spec.ent3 (put_o p n v ws k hw.1 hw.2.1) ?_
  rintro r L ⟨rfl, ws', h1, h2, rfl⟩
  refine ⟨_, mset_close (ws := ws') ⟨by rw [h1]; exact hw.1, hw.2.1, fun j => by rw [h2, hw.2.2.1], fun j hj => ?_⟩, by rw [hw.2.2.1], rfl⟩
  rw [hw.2.2.2 j hj, Bool.false_or]
  by_cases h : 0 ≤ k ∧ k < n
  · rw [decide_eq_false (show ¬ j = k.toNat by omega), Bool.and_false]
  · simp [h]
theorem drop_m (p n : Nat) (S : Nat → Bool) (k : Int) : Spec Tryd.prog 32 [.pointer (some ⟨p, 0, none⟩), .int .i64 k] [mset p n S] (fun r L => r = .bool (decide (0 ≤ k) && S k.toNat) ∧ L = [mset p n (fun j => S j && !(decide (0 ≤ k) && decide (j = k.toNat)))]) := by
  refine mset_elim fun v ws hw => ?_
  refine Spec.ent3 (drop_o p n v ws k hw.1 hw.2.1) ?_
  rintro r L ⟨rfl, ws', h1, h2, rfl⟩
  have hkn : ∀ j, j = k.toNat → 0 ≤ k → S j = true → k < n := fun j e h0 hs => by
    rcases Int.lt_or_le k n with h | h
    · exact h
    · rw [hw.2.2.2 j (by omega)] at hs; cases hs
  refine ⟨_, mset_close (ws := ws') ⟨by rw [h1]; exact hw.1, hw.2.1, fun j => ?_, fun j hj => by rw [hw.2.2.2 j hj]; rfl⟩, ?_, rfl⟩
  · rw [h2, hw.2.2.1]
    cases hs : S j with
    | false => rfl
    | true =>
      by_cases e : j = k.toNat
      · by_cases h0 : 0 ≤ k
        · simp [e, h0, hkn j e h0 hs]
        · simp [h0]
      · simp [e]
  · rw [has_eq hw]
theorem next_m (μ : PH) (p n : Nat) (S : Nat → Bool) (k : Int) (hT : RowAt μ 0 0 tabV) : Spec Tryd.prog 19 [.pointer (some ⟨p, 0, none⟩), .int .i64 k] [mset p n S, ro μ] (fun r L => ∃ x, r = .int .i64 x ∧ IsNext S k x ∧ L = [mset p n S, ro μ]) := by
  refine mset_elim fun v ws hw => ?_
  have hS : mem ws = S := funext hw.2.2.1
  refine Spec.ent3 (next_o μ p n v ws k hT hw.1 hw.2.1 (fun j hj => by rw [hS]; exact hw.2.2.2 j hj)) ?_
  rintro r L ⟨x, rfl, hx, rfl⟩
  rw [hS] at hx
  exact ⟨_, mset_close hw, x, rfl, hx, rfl⟩
theorem last_m (p n : Nat) (S : Nat → Bool) (k : Int) : Spec Tryd.prog 20 [.pointer (some ⟨p, 0, none⟩), .int .i64 k] [mset p n S] (fun r L => ∃ x, r = .int .i64 x ∧ IsLast S k x ∧ L = [mset p n S]) := by
  refine mset_elim fun v ws hw => ?_
  have hS : mem ws = S := funext hw.2.2.1
  refine Spec.ent3 (last_o p n v ws k hw.1 hw.2.1 (fun j hj => by rw [hS]; exact hw.2.2.2 j hj)) ?_
  rintro r L ⟨x, rfl, hx, rfl⟩
  rw [hS] at hx
  exact ⟨_, mset_close hw, x, rfl, hx, rfl⟩
theorem list_m (μ : PH) (p n : Nat) (S : Nat → Bool) (hT : RowAt μ 0 0 tabV) : Spec Tryd.prog 15 [.pointer (some ⟨p, 0, none⟩)] [mset p n S, ro μ] (fun r L => L = [own 3 1 r (elsTo n S).length ((elsTo n S).flatMap (icsk .i64)), mset p n S, ro μ]) := by
  refine mset_elim fun v ws hw => ?_
  have hS : mem ws = S := funext hw.2.2.1
  refine Spec.ent3 (list_o μ p n v ws hT hw.1 hw.2.1 (fun j hj => by rw [hS]; exact hw.2.2.2 j hj)) ?_
  rintro r L rfl
  rw [hS]
  exact ⟨_, Ent.cons (mset_close hw), rfl⟩
theorem count_m (p n : Nat) (S : Nat → Bool) : Spec Tryd.prog 17 [.pointer (some ⟨p, 0, none⟩)] [mset p n S] (fun r L => r = .int .i64 ((elsTo n S).length : Nat) ∧ L = [mset p n S]) := by
  refine mset_elim fun v ws hw => ?_
  have hS : mem ws = S := funext hw.2.2.1
  refine Spec.ent3 (count_o p n v ws hw.1 hw.2.1 (fun j hj => by rw [hS]; exact hw.2.2.2 j hj)) ?_
  rintro r L ⟨rfl, rfl⟩
  rw [hS]
  exact ⟨_, mset_close hw, rfl, rfl⟩

/-- one of three: what each does with the other set's words -/
theorem each_m (p n : Nat) (S : Nat → Bool) (ov : Value) (fid : Nat) [Body Tryd.prog fid] (g : BitVec 64 → BitVec 64 → BitVec 64) (gb : Bool → Bool → Bool) (o : Nat → BitVec 64) (X : Assn) (hf : ∀ x y, Spec Tryd.prog fid [wv x, wv y] [] (fun r L => r = wv (g x y) ∧ L = []))
    (hg : ∀ x y i, i < 64 → (g x y).getLsbD i = gb (x.getLsbD i) (y.getLsbD i)) (ho : ∀ i, i ≤ 1048576 → Spec Tryd.prog 60 [ov, .int .i64 (i : Nat)] [X] (fun r L => r = wv (o i) ∧ L = [X])) :
    Spec Tryd.prog 55 [.pointer (some ⟨p, 0, none⟩), ov, .func (.func fid) #[] #[]] [mset p n S, X] (fun r L => r = .tuple #[] ∧ L = [mset p n (fun k => decide (k < n) && gb (S k) ((o (k / 64)).getLsbD (k % 64))), X]) := by
  refine mset_elim fun v ws hw => ?_
  have hS : mem ws = S := funext hw.2.2.1
  refine Spec.pre ?_ (Ent.swap (L := [X]))
  refine Spec.own_cases (fun hv l0 _ => ?_) (fun b cap ex hv h1 h2 h3 h4 => ?_)
  · subst hv
    have hn0 : n = 0 := by have := hw.1; omega
    subst hn0
    intro E w hh
    refine ((each_0 p ov fid).frame (R := [X]) hh).mono ?_
    rintro e w' ⟨r, L, he, ⟨hr, rfl⟩, h'⟩
    have hws : ws = [] := List.eq_nil_of_length_eq_zero l0
    refine ⟨r, _, he, ⟨hr, rfl⟩, h'.ent ?_⟩
    refine Ent.trans ?_ (mset_close (v := .slice none 0 0) (ws := []) ⟨rfl, by decide, fun k => by simp [mem], fun _ _ => by simp⟩)
    exact Ent.cons own_nil_ent
  · subst hv
    refine Spec.ent3 (each_b p n b cap ws ex ov fid g o X hw.1 hw.2.1 hf (fun cur i _ hi _ => ?_)) ?_
    · have h := ho i (by have := hw.1; have := hw.2.1; omega)
      intro E w hh
      have hh2 : H E w ([X] ++ [blk b 67 (wcells cur ++ ex), blk p 52 [.int .i64 (n : Nat), .slice (some ⟨b, 0, none⟩) ws.length cap]]) := hh.ent (Split.ent' (by repeat (first | exact Split.nil | (apply Split.cons; (repeat (first | with_reducible exact Take.here | apply Take.there))))))
      refine (h.frame hh2).mono ?_
      rintro e w' ⟨r, L, he, ⟨hr, rfl⟩, h'⟩
      exact ⟨r, _, he, ⟨hr, rfl⟩, h'.ent (Ent.perm (List.perm_append_comm (l₁ := [X])))⟩
    · rintro r L ⟨rfl, ws', h5, h6, rfl⟩
      have hc := wown_close (b := b) (cap := cap) (ws := ws') (ex := ex) (L := [blk p 52 [.int .i64 (n : Nat), .slice (some ⟨b, 0, none⟩) ws.length cap], X]) (by omega) h2 (by rw [h5]; exact h4)
      have hwf : Wf n ws' (fun k => decide (k < n) && gb (S k) ((o (k / 64)).getLsbD (k % 64))) := by
        refine ⟨by rw [h5]; exact hw.1, hw.2.1, fun k => ?_, fun k hk => by show (decide (k < n) && _) = false; rw [decide_eq_false (by omega)]; rfl⟩
        rw [h6, hg _ _ _ (Nat.mod_lt _ (by decide)), ← hS]
        rfl
      have hm := mset_close (p := p) (v := .slice (some ⟨b, 0, none⟩) ws.length cap) (L := [X]) hwf
      rw [h5] at hc hm
      exact ⟨_, hc.trans (Ent.swap.trans hm), rfl, rfl⟩
theorem Spec.starred {P : Program} {f : FuncId} {args : List Value} {K : List Assn} {φ : Value → Prop} (h : Spec P f args K (fun r L => φ r ∧ L = K)) (R : List Assn) : Spec P f args [star (K ++ R)] (fun r L => φ r ∧ L = [star (K ++ R)]) := by
  intro E w hh
  have h2 : H E w (K ++ R) := by
    have := hh.ent (star_ent (K := K ++ R) (L := []))
    rwa [List.append_nil] at this
  refine (h.frame h2).mono ?_
  rintro e w' ⟨r, L, he, ⟨hr, rfl⟩, h'⟩
  exact ⟨r, _, he, ⟨hr, rfl⟩, h'.ent star_close1⟩

theorem or_x (p n : Nat) (S : Nat → Bool) (ov : Value) (o : Nat → BitVec 64) (X : Assn) (ho : ∀ i, i ≤ 1048576 → Spec Tryd.prog 60 [ov, .int .i64 (i : Nat)] [X] (fun r L => r = wv (o i) ∧ L = [X])) :
    Spec Tryd.prog 26 [.pointer (some ⟨p, 0, none⟩), ov] [mset p n S, X] (fun r L => r = .tuple #[] ∧ L = [mset p n (fun k => decide (k < n) && (S k || (o (k / 64)).getLsbD (k % 64))), X]) := by
  refine Spec.of 7 Tryd.func26 rfl rfl rfl ?_
  refine swp_region ?_
  refine s_pu (pu_move rfl) ?_
  refine s_pu (pu_move rfl) ?_
  refine s_ef (ef_fn (each_m p n S ov 56 (fun x y => x ||| y) (fun a b => (a || b)) o X or1 (fun x y i hi => by simp [BitVec.getLsbD_or]) ho) rfl rfl (by repeat (first | exact Split.nil | (apply Split.cons; (repeat (first | with_reducible exact Take.here | apply Take.there)))))) ?_
  rintro v1 L1 ⟨rfl, rfl⟩
  refine swl_app ?_
  refine swl_sub _ .nil ?_
  refine swl_nil ?_
  exact done_end _ .nil ⟨rfl, rfl⟩ (by repeat (first | exact Split.nil | (apply Split.cons; (repeat (first | with_reducible exact Take.here | apply Take.there)))))
theorem or_m (p n q m : Nat) (S T : Nat → Bool) : Spec Tryd.prog 26 [.pointer (some ⟨p, 0, none⟩), .pointer (some ⟨q, 0, none⟩)] [mset p n S, mset q m T] (fun r L => r = .tuple #[] ∧ L = [mset p n (fun k => decide (k < n) && (S k || T k)), mset q m T]) := by
  refine Spec.pre ?_ Ent.swap
  refine mset_elim fun v ws hw => ?_
  refine Spec.pre ?_ (Ent.trans (L2 := star (opn q m v ws) :: [mset p n S]) (star_close (K := opn q m v ws)) Ent.swap)
  refine Spec.ent3 (or_x p n S _ (fun i => ws.getD i 0#64) (star (opn q m v ws)) (fun i hi => by have := Spec.starred (word_o q m v ws i hi) []; rwa [List.append_nil] at this)) ?_
  rintro r L ⟨rfl, rfl⟩
  refine ⟨_, ?_, rfl, rfl⟩
  have e : (fun k => decide (k < n) && (S k || (ws.getD (k / 64) 0#64).getLsbD (k % 64))) = fun k => decide (k < n) && (S k || T k) := by
    funext k
    have := hw.2.2.1 k
    unfold mem at this
    rw [this]
  rw [e]
  exact Ent.cons ((star_ent (L := [])).trans (mset_close hw))
theorem or_none (p n : Nat) (S : Nat → Bool) : Spec Tryd.prog 26 [.pointer (some ⟨p, 0, none⟩), .pointer none] [mset p n S] (fun r L => r = .tuple #[] ∧ L = [mset p n (fun k => decide (k < n) && (S k || false))]) := by
  refine Spec.pre (pre := [mset p n S, star []]) ?_ (fun m h => by
    obtain ⟨m1, m2, a, _, c, d, e⟩ := h
    exact ⟨m1, m2, a, ⟨fun _ => none, fun _ => none, trivial, trivial, by simp, by simp, by simp⟩, c, d, e⟩)
  refine Spec.ent3 (or_x p n S _ (fun _ => 0#64) (star []) (fun i _ => by
    have := Spec.starred (word_nil i) []
    exact this)) ?_
  rintro r L ⟨rfl, rfl⟩
  refine ⟨_, Ent.one, rfl, ?_⟩
  congr 2
  funext k
  simp
theorem or_nil (ov : Value) : Spec Tryd.prog 26 [.pointer none, ov] [] (fun r L => r = .tuple #[] ∧ L = []) := by
  refine Spec.of 7 Tryd.func26 rfl rfl rfl ?_
  refine swp_region ?_
  refine s_pu (pu_move rfl) ?_
  refine s_pu (pu_move rfl) ?_
  refine s_ef (ef_fn (each_nil ov _) rfl rfl (by repeat (first | exact Split.nil | (apply Split.cons; (repeat (first | with_reducible exact Take.here | apply Take.there)))))) ?_
  rintro v1 L1 ⟨rfl, rfl⟩
  refine swl_app ?_
  refine swl_sub _ .nil ?_
  refine swl_nil ?_
  exact done_end _ .nil ⟨rfl, rfl⟩ (by repeat (first | exact Split.nil | (apply Split.cons; (repeat (first | with_reducible exact Take.here | apply Take.there)))))

theorem and_x (p n : Nat) (S : Nat → Bool) (ov : Value) (o : Nat → BitVec 64) (X : Assn) (ho : ∀ i, i ≤ 1048576 → Spec Tryd.prog 60 [ov, .int .i64 (i : Nat)] [X] (fun r L => r = wv (o i) ∧ L = [X])) :
    Spec Tryd.prog 28 [.pointer (some ⟨p, 0, none⟩), ov] [mset p n S, X] (fun r L => r = .tuple #[] ∧ L = [mset p n (fun k => decide (k < n) && (S k && (o (k / 64)).getLsbD (k % 64))), X]) := by
  refine Spec.of 7 Tryd.func28 rfl rfl rfl ?_
  refine swp_region ?_
  refine s_pu (pu_move rfl) ?_
  refine s_pu (pu_move rfl) ?_
  refine s_ef (ef_fn (each_m p n S ov 58 (fun x y => x &&& y) (fun a b => (a && b)) o X and1 (fun x y i hi => by simp [BitVec.getLsbD_and]) ho) rfl rfl (by repeat (first | exact Split.nil | (apply Split.cons; (repeat (first | with_reducible exact Take.here | apply Take.there)))))) ?_
  rintro v1 L1 ⟨rfl, rfl⟩
  refine swl_app ?_
  refine swl_sub _ .nil ?_
  refine swl_nil ?_
  exact done_end _ .nil ⟨rfl, rfl⟩ (by repeat (first | exact Split.nil | (apply Split.cons; (repeat (first | with_reducible exact Take.here | apply Take.there)))))
theorem and_m (p n q m : Nat) (S T : Nat → Bool) : Spec Tryd.prog 28 [.pointer (some ⟨p, 0, none⟩), .pointer (some ⟨q, 0, none⟩)] [mset p n S, mset q m T] (fun r L => r = .tuple #[] ∧ L = [mset p n (fun k => decide (k < n) && (S k && T k)), mset q m T]) := by
  refine Spec.pre ?_ Ent.swap
  refine mset_elim fun v ws hw => ?_
  refine Spec.pre ?_ (Ent.trans (L2 := star (opn q m v ws) :: [mset p n S]) (star_close (K := opn q m v ws)) Ent.swap)
  refine Spec.ent3 (and_x p n S _ (fun i => ws.getD i 0#64) (star (opn q m v ws)) (fun i hi => by have := Spec.starred (word_o q m v ws i hi) []; rwa [List.append_nil] at this)) ?_
  rintro r L ⟨rfl, rfl⟩
  refine ⟨_, ?_, rfl, rfl⟩
  have e : (fun k => decide (k < n) && (S k && (ws.getD (k / 64) 0#64).getLsbD (k % 64))) = fun k => decide (k < n) && (S k && T k) := by
    funext k
    have := hw.2.2.1 k
    unfold mem at this
    rw [this]
  rw [e]
  exact Ent.cons ((star_ent (L := [])).trans (mset_close hw))
theorem and_none (p n : Nat) (S : Nat → Bool) : Spec Tryd.prog 28 [.pointer (some ⟨p, 0, none⟩), .pointer none] [mset p n S] (fun r L => r = .tuple #[] ∧ L = [mset p n (fun k => decide (k < n) && (S k && false))]) := by
  refine Spec.pre (pre := [mset p n S, star []]) ?_ (fun m h => by
    obtain ⟨m1, m2, a, _, c, d, e⟩ := h
    exact ⟨m1, m2, a, ⟨fun _ => none, fun _ => none, trivial, trivial, by simp, by simp, by simp⟩, c, d, e⟩)
  refine Spec.ent3 (and_x p n S _ (fun _ => 0#64) (star []) (fun i _ => by
    have := Spec.starred (word_nil i) []
    exact this)) ?_
  rintro r L ⟨rfl, rfl⟩
  refine ⟨_, Ent.one, rfl, ?_⟩
  congr 2
  funext k
  simp
theorem and_nil (ov : Value) : Spec Tryd.prog 28 [.pointer none, ov] [] (fun r L => r = .tuple #[] ∧ L = []) := by
  refine Spec.of 7 Tryd.func28 rfl rfl rfl ?_
  refine swp_region ?_
  refine s_pu (pu_move rfl) ?_
  refine s_pu (pu_move rfl) ?_
  refine s_ef (ef_fn (each_nil ov _) rfl rfl (by repeat (first | exact Split.nil | (apply Split.cons; (repeat (first | with_reducible exact Take.here | apply Take.there)))))) ?_
  rintro v1 L1 ⟨rfl, rfl⟩
  refine swl_app ?_
  refine swl_sub _ .nil ?_
  refine swl_nil ?_
  exact done_end _ .nil ⟨rfl, rfl⟩ (by repeat (first | exact Split.nil | (apply Split.cons; (repeat (first | with_reducible exact Take.here | apply Take.there)))))

theorem less_x (p n : Nat) (S : Nat → Bool) (ov : Value) (o : Nat → BitVec 64) (X : Assn) (ho : ∀ i, i ≤ 1048576 → Spec Tryd.prog 60 [ov, .int .i64 (i : Nat)] [X] (fun r L => r = wv (o i) ∧ L = [X])) :
    Spec Tryd.prog 29 [.pointer (some ⟨p, 0, none⟩), ov] [mset p n S, X] (fun r L => r = .tuple #[] ∧ L = [mset p n (fun k => decide (k < n) && (S k && !(o (k / 64)).getLsbD (k % 64))), X]) := by
  refine Spec.of 7 Tryd.func29 rfl rfl rfl ?_
  refine swp_region ?_
  refine s_pu (pu_move rfl) ?_
  refine s_pu (pu_move rfl) ?_
  refine s_ef (ef_fn (each_m p n S ov 59 (fun x y => x &&& ~~~y) (fun a b => (a && !b)) o X less1 (fun x y i hi => by simp [hi]) ho) rfl rfl (by repeat (first | exact Split.nil | (apply Split.cons; (repeat (first | with_reducible exact Take.here | apply Take.there)))))) ?_
  rintro v1 L1 ⟨rfl, rfl⟩
  refine swl_app ?_
  refine swl_sub _ .nil ?_
  refine swl_nil ?_
  exact done_end _ .nil ⟨rfl, rfl⟩ (by repeat (first | exact Split.nil | (apply Split.cons; (repeat (first | with_reducible exact Take.here | apply Take.there)))))
theorem less_m (p n q m : Nat) (S T : Nat → Bool) : Spec Tryd.prog 29 [.pointer (some ⟨p, 0, none⟩), .pointer (some ⟨q, 0, none⟩)] [mset p n S, mset q m T] (fun r L => r = .tuple #[] ∧ L = [mset p n (fun k => decide (k < n) && (S k && !T k)), mset q m T]) := by
  refine Spec.pre ?_ Ent.swap
  refine mset_elim fun v ws hw => ?_
  refine Spec.pre ?_ (Ent.trans (L2 := star (opn q m v ws) :: [mset p n S]) (star_close (K := opn q m v ws)) Ent.swap)
  refine Spec.ent3 (less_x p n S _ (fun i => ws.getD i 0#64) (star (opn q m v ws)) (fun i hi => by have := Spec.starred (word_o q m v ws i hi) []; rwa [List.append_nil] at this)) ?_
  rintro r L ⟨rfl, rfl⟩
  refine ⟨_, ?_, rfl, rfl⟩
  have e : (fun k => decide (k < n) && (S k && !(ws.getD (k / 64) 0#64).getLsbD (k % 64))) = fun k => decide (k < n) && (S k && !T k) := by
    funext k
    have := hw.2.2.1 k
    unfold mem at this
    rw [this]
  rw [e]
  exact Ent.cons ((star_ent (L := [])).trans (mset_close hw))
theorem less_none (p n : Nat) (S : Nat → Bool) : Spec Tryd.prog 29 [.pointer (some ⟨p, 0, none⟩), .pointer none] [mset p n S] (fun r L => r = .tuple #[] ∧ L = [mset p n (fun k => decide (k < n) && (S k && !false))]) := by
  refine Spec.pre (pre := [mset p n S, star []]) ?_ (fun m h => by
    obtain ⟨m1, m2, a, _, c, d, e⟩ := h
    exact ⟨m1, m2, a, ⟨fun _ => none, fun _ => none, trivial, trivial, by simp, by simp, by simp⟩, c, d, e⟩)
  refine Spec.ent3 (less_x p n S _ (fun _ => 0#64) (star []) (fun i _ => by
    have := Spec.starred (word_nil i) []
    exact this)) ?_
  rintro r L ⟨rfl, rfl⟩
  refine ⟨_, Ent.one, rfl, ?_⟩
  congr 2
  funext k
  simp
theorem less_nil (ov : Value) : Spec Tryd.prog 29 [.pointer none, ov] [] (fun r L => r = .tuple #[] ∧ L = []) := by
  refine Spec.of 7 Tryd.func29 rfl rfl rfl ?_
  refine swp_region ?_
  refine s_pu (pu_move rfl) ?_
  refine s_pu (pu_move rfl) ?_
  refine s_ef (ef_fn (each_nil ov _) rfl rfl (by repeat (first | exact Split.nil | (apply Split.cons; (repeat (first | with_reducible exact Take.here | apply Take.there)))))) ?_
  rintro v1 L1 ⟨rfl, rfl⟩
  refine swl_app ?_
  refine swl_sub _ .nil ?_
  refine swl_nil ?_
  exact done_end _ .nil ⟨rfl, rfl⟩ (by repeat (first | exact Split.nil | (apply Split.cons; (repeat (first | with_reducible exact Take.here | apply Take.there)))))
end SX
namespace SX
open Go Go.Proofs

theorem wcells_one (ws : List (BitVec 64)) : (wcells ws).all Value.oneCell' = true := by
  unfold wcells; rw [List.all_flatMap]; simp [ucs, Value.oneCell']
theorem uclone_nil : Spec Tryd.prog 57 [.slice none 0 0] [] (fun v L => v = .slice none 0 0 ∧ L = []) := by
  refine Spec.of 8 Tryd.func57 rfl rfl rfl ?_
  refine swp_seq ?_
  refine swp_region ?_
  refine s_pu (pu_assign rfl) ?_
  refine swl_sub _ (.cons (t := 0) rfl .nil) ?_
  refine swl_nil ?_
  refine then_n ?_
  refine swp_seq ?_
  refine swp_seq ?_
  refine swp_region ?_
  refine s_pu (pu_move rfl) ?_
  refine s_pu (pu_sl_eq_nil rfl rfl) ?_
  refine swl_sub _ (.cons (t := 0) rfl (.cons (t := 4) rfl .nil)) ?_
  refine swl_nil ?_
  refine then_n ?_
  refine swp_cond (b := _) rfl (fun h4 => ?_) (fun h4 => by cases h4)
  refine swp_seq ?_
  refine swp_region ?_
  refine s_pu (pu_assign rfl) ?_
  refine swl_sub _ (.cons (t := 2) rfl .nil) ?_
  refine swl_nil ?_
  refine then_n ?_
  refine swp_ret ?_
  refine then_r ?_
  exact done_ret [] (.tmp rfl .nil) ⟨rfl, rfl⟩ (by repeat (first | exact Split.nil | (apply Split.cons; (repeat (first | with_reducible exact Take.here | apply Take.there)))))
theorem uclone_blk (g cap : Nat) (es : List (BitVec 64)) (ex : List Value) (hb : es.length ≤ 1099511627776) :
    Spec Tryd.prog 57 [.slice (some ⟨g, 0, none⟩) es.length cap] [blk g 67 (wcells es ++ ex)] (fun v L => (∃ A c, v = .slice A es.length c) ∧ L = [own 67 1 v es.length (wcells es), blk g 67 (wcells es ++ ex)]) := by
  refine Spec.of 8 Tryd.func57 rfl rfl rfl ?_
  refine swp_seq ?_
  refine swp_region ?_
  refine s_pu (pu_assign rfl) ?_
  refine swl_sub _ (.cons (t := 0) rfl .nil) ?_
  refine swl_nil ?_
  refine then_n ?_
  refine swp_seq ?_
  refine swp_seq ?_
  refine swp_region ?_
  refine s_pu (pu_move rfl) ?_
  refine s_pu (pu_sl_eq_nil rfl rfl) ?_
  refine swl_sub _ (.cons (t := 0) rfl (.cons (t := 4) rfl .nil)) ?_
  refine swl_nil ?_
  refine then_n ?_
  refine swp_cond (b := _) rfl (fun h4 => by cases h4) (fun h4 => ?_)
  refine swp_skip ?_
  refine then_n ?_
  refine swp_seq ?_
  refine swp_region ?_
  refine s_ef (ef_bldS (qs := []) rfl rfl rfl) ?_
  intro b5
  refine s_pu (pu_move rfl) ?_
  refine swl_ent (own_close (n := 1) (l := 0) (cap := 0) (xs := []) (ex := []) rfl rfl (Nat.le_refl _) (by simp [maxLen])) ?_
  refine s_ef (ef_append_of (news := wcells es) rfl rfl (by repeat (first | exact Split.nil | (apply Split.cons; (repeat (first | with_reducible exact Take.here | apply Take.there))))) (by rw [wcells_len, Nat.mul_one]) (fun j u hj => by rw [Nat.zero_add, List.getElem?_append_left (List.getElem?_eq_some_iff.1 hj).1]; exact hj) (wcells_one es) (by simp only [maxLen]; omega) (by omega)) ?_
  rintro v' -
  rw [Nat.zero_add, List.nil_append]
  refine swl_fact (fun m h => own_form h) fun hform => ?_
  refine s_pu (pu_assign rfl) ?_
  refine swl_sub _ (.cons (t := 2) rfl .nil) ?_
  refine swl_nil ?_
  refine then_n ?_
  refine swp_ret ?_
  exact done_ret [own 67 1 v' es.length (wcells es), blk g 67 (wcells es ++ ex)] (.tmp rfl .nil) ⟨hform, rfl⟩ (by repeat (first | exact Split.nil | (apply Split.cons; (repeat (first | with_reducible exact Take.here | apply Take.there)))))
theorem uclone_own (v : Value) (es : List (BitVec 64)) (hb : es.length ≤ 1099511627776) :
    Spec Tryd.prog 57 [v] [own 67 1 v es.length (wcells es)] (fun v' L => (∃ A c, v' = .slice A es.length c) ∧ L = [own 67 1 v' es.length (wcells es), own 67 1 v es.length (wcells es)]) := by
  refine Spec.own_cases (fun hv l0 x0 => ?_) (fun g cap ex hv o1 o2 o3 o4 => ?_)
  · subst hv
    refine Spec.ent3 uclone_nil ?_
    rintro v L ⟨rfl, rfl⟩
    have he : es = [] := List.eq_nil_of_length_eq_zero l0
    subst he
    exact ⟨_, own_nil_ent.trans (Ent.cons own_nil_ent), ⟨_, _, rfl⟩, rfl⟩
  · subst hv
    refine Spec.ent3 (uclone_blk g cap es ex hb) ?_
    rintro v L ⟨hf, rfl⟩
    exact ⟨_, Ent.cons (own_close o3 o4 o1 o2), hf, rfl⟩
theorem copy_m (p n : Nat) (S : Nat → Bool) : Spec Tryd.prog 27 [.pointer (some ⟨p, 0, none⟩)] [mset p n S] (fun r L => ∃ q, r = .pointer (some ⟨q, 0, none⟩) ∧ L = [mset q n S, mset p n S]) := by
  refine mset_elim fun v ws hw => ?_
  have hws : ws.length ≤ 1048576 := by have := hw.1; have := hw.2.1; omega
  refine Spec.of 16 Tryd.func27 rfl rfl rfl ?_
  refine swp_front (A := own 67 1 v ws.length (wcells ws)) (by repeat (first | with_reducible exact Take.here | apply Take.there)) ?_
  refine swp_fact (fun m h => own_form h) fun ⟨A, cap, hv⟩ => ?_
  subst hv
  refine swp_seq ?_
  refine swp_region ?_
  refine s_pu (pu_assign rfl) ?_
  refine swl_sub _ (.cons (t := 0) rfl .nil) ?_
  refine swl_nil ?_
  refine then_n ?_
  refine swp_seq ?_
  refine swp_seq ?_
  refine swp_region ?_
  refine s_pu (pu_move rfl) ?_
  refine s_pu (pu_ptr_eq_nil rfl rfl) ?_
  refine swl_sub _ (.cons (t := 0) rfl (.cons (t := 4) rfl .nil)) ?_
  refine swl_nil ?_
  refine then_n ?_
  refine swp_cond (b := _) rfl (fun h4 => by cases h4) (fun h4 => ?_)
  refine swp_skip ?_
  refine then_n ?_
  refine swp_seq ?_
  refine swp_draw [3, 7] _ [] (by simp only [List.append_nil]; exact Ent.refl _) (by kernel_rfl) ?_
  refine d_pu 0 rfl (pu_move rfl) (by kernel_rfl) (by kernel_rfl) (by kernel_rfl) ?_
  first | refine d_pu 1 rfl (pu_nilCheck rfl) (by kernel_rfl) (by kernel_rfl) (by kernel_rfl) ?_ | refine d_pu 1 rfl (pu_nilCheck_fn rfl) (by kernel_rfl) (by kernel_rfl) (by kernel_rfl) ?_ | refine d_pu 1 rfl (pu_nilCheck_if rfl) (by kernel_rfl) (by kernel_rfl) (by kernel_rfl) ?_
  first | refine d_pu 2 rfl (pu_fieldAddr0 rfl) (by kernel_rfl) (by kernel_rfl) (by kernel_rfl) ?_ | refine d_pu 2 rfl (pu_fieldAddr rfl) (by kernel_rfl) (by kernel_rfl) (by kernel_rfl) ?_
  refine d_rd 3 rfl (rd_load rfl rfl) rfl (by kernel_rfl) (by kernel_rfl) (by kernel_rfl) ?_
  refine d_pu 4 rfl (pu_move rfl) (by kernel_rfl) (by kernel_rfl) (by kernel_rfl) ?_
  first | refine d_pu 5 rfl (pu_nilCheck rfl) (by kernel_rfl) (by kernel_rfl) (by kernel_rfl) ?_ | refine d_pu 5 rfl (pu_nilCheck_fn rfl) (by kernel_rfl) (by kernel_rfl) (by kernel_rfl) ?_ | refine d_pu 5 rfl (pu_nilCheck_if rfl) (by kernel_rfl) (by kernel_rfl) (by kernel_rfl) ?_
  first | refine d_pu 6 rfl (pu_fieldAddr0 rfl) (by kernel_rfl) (by kernel_rfl) (by kernel_rfl) ?_ | refine d_pu 6 rfl (pu_fieldAddr rfl) (by kernel_rfl) (by kernel_rfl) (by kernel_rfl) ?_
  refine d_rd 7 rfl (rd_load rfl rfl) rfl (by kernel_rfl) (by kernel_rfl) (by kernel_rfl) ?_
  refine d_eft 8 rfl (by kernel_rfl) (ef_fn (uclone_own _ ws (by omega)) rfl rfl (by repeat (first | exact Split.nil | (apply Split.cons; (repeat (first | with_reducible exact Take.here | apply Take.there)))))) ?_
  rintro v1 L1 ⟨⟨A', cap', rfl⟩, rfl⟩
  refine ⟨_, ent_appC (Split.ent (by repeat (first | exact Split.nil | (apply Split.cons; (repeat (first | with_reducible exact Take.here | apply Take.there)))))), ?_⟩
  refine d_pu 9 rfl (pu_bld (qs := [(0, _), (1, _)]) rfl) (by kernel_rfl) (by kernel_rfl) (by kernel_rfl) ?_
  first | refine d_fint 10 rfl (by kernel_rfl) (by kernel_rfl) (ef_box rfl rfl) ?_ | refine d_finf 10 rfl (by kernel_rfl) (by kernel_rfl) (ef_box rfl rfl) ?_
  intro b15
  refine d_pu 11 rfl (pu_assign rfl) (by kernel_rfl) (by kernel_rfl) (by kernel_rfl) ?_
  refine d_sub _ (.cons (t := 2) rfl .nil) ?_
  first | refine d_nilt (by kernel_rfl) ?_ | refine d_nilf (by kernel_rfl) ?_
  refine then_n ?_
  refine swp_ret ?_
  refine done_retE [mset b15 n S, mset p n S] (.tmp rfl .nil) ⟨_, rfl, rfl⟩ ?_
  exact (Split.ent' (K := [blk b15 52 [.int .i64 (n : Nat), .slice A' ws.length cap'], own 67 1 (.slice A' ws.length cap') ws.length (wcells ws), blk p 52 [.int .i64 (n : Nat), .slice A ws.length cap], own 67 1 (.slice A ws.length cap) ws.length (wcells ws)]) (by repeat (first | exact Split.nil | (apply Split.cons; (repeat (first | with_reducible exact Take.here | apply Take.there)))))).trans ((mset_close hw).trans (Ent.cons (mset_close hw)))
theorem copy_nil : Spec Tryd.prog 27 [.pointer none] [] (fun r L => r = .pointer none ∧ L = []) := by
  refine Spec.of 16 Tryd.func27 rfl rfl rfl ?_
  refine swp_seq ?_
  refine swp_region ?_
  refine s_pu (pu_assign rfl) ?_
  refine swl_sub _ (.cons (t := 0) rfl .nil) ?_
  refine swl_nil ?_
  refine then_n ?_
  refine swp_seq ?_
  refine swp_seq ?_
  refine swp_region ?_
  refine s_pu (pu_move rfl) ?_
  refine s_pu (pu_ptr_eq_nil rfl rfl) ?_
  refine swl_sub _ (.cons (t := 0) rfl (.cons (t := 4) rfl .nil)) ?_
  refine swl_nil ?_
  refine then_n ?_
  refine swp_cond (b := _) rfl (fun h4 => ?_) (fun h4 => by cases h4)
  refine swp_seq ?_
  refine swp_region ?_
  refine s_pu (pu_assign rfl) ?_
  refine swl_sub _ (.cons (t := 2) rfl .nil) ?_
  refine swl_nil ?_
  refine then_n ?_
  refine swp_ret ?_
  refine then_r ?_
  exact done_ret [] (.tmp rfl .nil) ⟨rfl, rfl⟩ (by repeat (first | exact Split.nil | (apply Split.cons; (repeat (first | with_reducible exact Take.here | apply Take.there)))))

/-- what can be asked of a set, nil or not, that X holds -/
structure View (ov : Value) (X : Assn) (n : Nat) (o : Nat → BitVec 64) : Prop where
  size : Spec Tryd.prog 16 [ov] [X] (fun r L => r = .int .i64 (n : Nat) ∧ L = [X])
  word : ∀ i, i ≤ 1048576 → Spec Tryd.prog 60 [ov, .int .i64 (i : Nat)] [X] (fun r L => r = wv (o i) ∧ L = [X])
set_option maxHeartbeats 1000000 in
theorem same_x {ov1 ov2 : Value} {X : Assn} {n1 n2 : Nat} {o1 o2 : Nat → BitVec 64} (h1 : View ov1 X n1 o1) (h2 : View ov2 X n2 o2) (hn1 : n1 ≤ 1048576) (hn2 : n2 ≤ 1048576) :
    Spec Tryd.prog 30 [ov1, ov2] [X] (fun r L => ∃ b, r = .bool b ∧ (b = true ↔ ∀ i, i < (max n1 n2 + 63) / 64 → o1 i = o2 i) ∧ L = [X]) := by
  refine Spec.of 26 Tryd.func30 rfl rfl rfl ?_
  refine swp_seq ?_
  refine swp_region ?_
  refine s_pu (pu_assign rfl) ?_
  refine swl_sub _ (.cons (t := 0) rfl (.cons (t := 1) rfl .nil)) ?_
  refine swl_nil ?_
  refine then_n ?_
  refine swp_seq ?_
  refine swp_region ?_
  refine s_pu (pu_move rfl) ?_
  refine s_ef (ef_fn h1.size rfl rfl (by repeat (first | exact Split.nil | (apply Split.cons; (repeat (first | with_reducible exact Take.here | apply Take.there)))))) ?_
  rintro v1 L1 ⟨rfl, rfl⟩
  refine swl_app ?_
  refine s_pu (pu_move rfl) ?_
  refine s_ef (ef_fn h2.size rfl rfl (by repeat (first | exact Split.nil | (apply Split.cons; (repeat (first | with_reducible exact Take.here | apply Take.there)))))) ?_
  rintro v1 L1 ⟨rfl, rfl⟩
  refine swl_app ?_
  refine s_pu (pu_max2 rfl rfl) ?_
  refine s_pu (pu_add_as ((max n1 n2 + 63 : Nat) : Int) rfl rfl (by omega) (by omega) (by omega)) ?_
  refine s_pu (pu_quo_as (((max n1 n2 + 63) / 64 : Nat) : Int) rfl rfl (by omega) (by omega) (by omega) (by omega)) ?_
  refine s_pu (pu_assign rfl) ?_
  refine swl_sub _ (.cons (t := 0) rfl (.cons (t := 1) rfl (.cons (t := 5) rfl .nil))) ?_
  refine swl_nil ?_
  refine then_n ?_
  refine swp_seq ?_
  refine swp_seq ?_
  refine swp_region ?_
  refine s_pu (pu_move rfl) ?_
  refine s_pu (pu_move rfl) ?_
  refine swl_sub _ (.cons (t := 0) rfl (.cons (t := 1) rfl (.cons (t := 14) rfl (.cons (t := 15) rfl .nil)))) ?_
  refine swl_nil ?_
  refine then_n ?_
  refine swp_block ?_
  refine swp_loop (ι := Nat) (fun i env L => env = [(0, ov1), (1, ov2), (14, .int .i64 (((max n1 n2 + 63) / 64 : Nat) : Int)), (15, .int .i64 (i : Nat))] ∧ L = [X] ∧ i ≤ (max n1 n2 + 63) / 64 ∧ ∀ j, j < i → o1 j = o2 j) (fun i => (max n1 n2 + 63) / 64 - i) 0 ⟨rfl, rfl, Nat.zero_le _, fun j h => absurd h (Nat.not_lt_zero _)⟩ ?_
  rintro i env L ⟨rfl, rfl, hi, hlo⟩
  refine swp_seq ?_
  refine swp_region ?_
  refine s_pu (pu_lss rfl rfl) ?_
  refine swl_sub _ (.cons (t := 0) rfl (.cons (t := 1) rfl (.cons (t := 14) rfl (.cons (t := 15) rfl (.cons (t := 16) rfl .nil))))) ?_
  refine swl_nil ?_
  refine then_n ?_
  refine swp_seq ?_
  refine swp_cond (b := _) rfl (fun h16 => ?_) (fun h16 => ?_)
  · skip   -- 16 T
    have h16' : i < (max n1 n2 + 63) / 64 := by have := of_decide_eq_true h16; omega
    refine swp_skip ?_
    refine then_n ?_
    refine swp_seq ?_
    refine swp_block ?_
    refine swp_seq ?_
    refine swp_region ?_
    refine s_pu (pu_move rfl) ?_
    refine s_pu (pu_assign rfl) ?_
    refine swl_sub _ (.cons (t := 0) rfl (.cons (t := 1) rfl (.cons (t := 6) rfl (.cons (t := 14) rfl (.cons (t := 15) rfl .nil))))) ?_
    refine swl_nil ?_
    refine then_n ?_
    refine swp_seq ?_
    refine swp_region ?_
    refine s_pu (pu_move rfl) ?_
    refine s_pu (pu_move rfl) ?_
    refine s_ef (ef_fn (h1.word i (by omega)) rfl rfl (by repeat (first | exact Split.nil | (apply Split.cons; (repeat (first | with_reducible exact Take.here | apply Take.there)))))) ?_
    rintro v1 L1 ⟨rfl, rfl⟩
    refine swl_app ?_
    refine s_pu (pu_move rfl) ?_
    refine s_pu (pu_move rfl) ?_
    refine s_ef (ef_fn (h2.word i (by omega)) rfl rfl (by repeat (first | exact Split.nil | (apply Split.cons; (repeat (first | with_reducible exact Take.here | apply Take.there)))))) ?_
    rintro v1 L1 ⟨rfl, rfl⟩
    refine swl_app ?_
    refine s_pu (pu_neq rfl rfl) ?_
    refine swl_sub _ (.cons (t := 0) rfl (.cons (t := 1) rfl (.cons (t := 14) rfl (.cons (t := 15) rfl (.cons (t := 24) rfl .nil))))) ?_
    refine swl_nil ?_
    refine then_n ?_
    refine swp_cond (b := _) rfl (fun h24 => ?_) (fun h24 => ?_)
    · skip   -- 24 T
      refine swp_seq ?_
      refine swp_region ?_
      refine s_pu (pu_assign rfl) ?_
      refine swl_sub _ (.cons (t := 4) rfl .nil) ?_
      refine swl_nil ?_
      refine then_n ?_
      refine swp_ret ?_
      refine block_r ?_
      refine then_r ?_
      refine then_r ?_
      refine block_r ?_
      refine then_r ?_
      have h24' := of_decide_eq_false (not_t h24)
      exact done_ret [X] (.tmp rfl .nil) ⟨false, rfl, ⟨fun h => (by cases h), fun h => absurd (by rw [h i h16']) h24'⟩, rfl⟩ (by repeat (first | exact Split.nil | (apply Split.cons; (repeat (first | with_reducible exact Take.here | apply Take.there)))))
    · skip   -- 24 F
      refine swp_skip ?_
      refine block_n ?_
      refine then_n ?_
      refine swp_region ?_
      refine s_pu (pu_add_as ((i + 1 : Nat) : Int) rfl rfl (by omega) (by omega) (by omega)) ?_
      refine s_pu (pu_move rfl) ?_
      refine swl_sub _ (.cons (t := 0) rfl (.cons (t := 1) rfl (.cons (t := 14) rfl (.cons (t := 15) rfl .nil)))) ?_
      refine swl_nil ?_
      have h24' := of_decide_eq_true (not_f h24)
      refine then_n ⟨i + 1, ⟨rfl, rfl, h16', fun j hj => ?_⟩, by omega⟩
      by_cases e : j = i
      · subst e; exact BitVec.eq_of_toNat_eq (by omega)
      · exact hlo j (by omega)
  · skip   -- 16 F
    have h16' : i = (max n1 n2 + 63) / 64 := by have := of_decide_eq_false h16; omega
    refine swp_exit ?_
    refine then_x ?_
    refine then_x ?_
    refine block_hit rfl ?_
    refine then_n ?_
    refine swp_seq ?_
    refine swp_region ?_
    refine s_pu (pu_assign rfl) ?_
    refine swl_sub _ (.cons (t := 4) rfl .nil) ?_
    refine swl_nil ?_
    refine then_n ?_
    refine swp_ret ?_
    exact done_ret [X] (.tmp rfl .nil) ⟨true, rfl, ⟨fun _ j hj => hlo j (by omega), fun _ => rfl⟩, rfl⟩ (by repeat (first | exact Split.nil | (apply Split.cons; (repeat (first | with_reducible exact Take.here | apply Take.there)))))
theorem spec_any {f : FuncId} {args : List Value} {u : Value} (h : Spec Tryd.prog f args [] (fun r L => r = u ∧ L = [])) (X : Assn) : Spec Tryd.prog f args [X] (fun r L => r = u ∧ L = [X]) := fun E w hw => by
  refine (h.frame (R := [X]) hw).mono ?_
  rintro e w' ⟨r, L, he, ⟨hr, rfl⟩, h'⟩
  exact ⟨r, _, he, ⟨hr, rfl⟩, h'⟩
theorem view_nil (X : Assn) : View (.pointer none) X 0 (fun _ => 0#64) := ⟨spec_any size_nil X, fun i _ => spec_any (word_nil i) X⟩
theorem words_eq {n1 n2 : Nat} {ws us : List (BitVec 64)} {S T : Nat → Bool} (h1 : ∀ k, (ws.getD (k / 64) 0#64).getLsbD (k % 64) = S k) (h2 : ∀ k, (us.getD (k / 64) 0#64).getLsbD (k % 64) = T k) (z1 : ∀ k, n1 ≤ k → S k = false) (z2 : ∀ k, n2 ≤ k → T k = false) :
    (∀ i, i < (max n1 n2 + 63) / 64 → ws.getD i 0#64 = us.getD i 0#64) ↔ ∀ k, S k = T k := by
  constructor
  · intro h k
    by_cases hk : k / 64 < (max n1 n2 + 63) / 64
    · rw [← h1, ← h2, h _ hk]
    · rw [z1 k (by omega), z2 k (by omega)]
  · intro h i _
    apply BitVec.eq_of_getLsbD_eq
    intro r hr
    have e1 := h1 (64 * i + r)
    have e2 := h2 (64 * i + r)
    rw [show (64 * i + r) / 64 = i by omega, show (64 * i + r) % 64 = r by omega] at e1 e2
    rw [e1, e2, h]
theorem view_a (p n : Nat) (v : Value) (ws : List (BitVec 64)) (R : List Assn) : View (.pointer (some ⟨p, 0, none⟩)) (star (opn p n v ws ++ R)) n (fun i => ws.getD i 0#64) := by
  refine ⟨?_, fun i hi => Spec.starred (word_o p n v ws i hi) R⟩
  have := Spec.starred (size_b p n v) (own 67 1 v ws.length (wcells ws) :: R)
  exact this
theorem same_m (p n q m : Nat) (S T : Nat → Bool) : Spec Tryd.prog 30 [.pointer (some ⟨p, 0, none⟩), .pointer (some ⟨q, 0, none⟩)] [mset p n S, mset q m T] (fun r L => ∃ b, r = .bool b ∧ (b = true ↔ ∀ k, S k = T k) ∧ L = [mset p n S, mset q m T]) := by
  refine mset_elim fun v ws hw => ?_
  refine Spec.pre ?_ (Ent.trans (Ent.cons Ent.swap) Ent.swap)
  refine mset_elim fun v2 us hu => ?_
  have hv2 : View (.pointer (some ⟨q, 0, none⟩)) (star (opn p n v ws ++ opn q m v2 us)) m (fun i => us.getD i 0#64) := by
    have h := view_a q m v2 us (opn p n v ws)
    have e1 : Ent [star (opn p n v ws ++ opn q m v2 us)] [star (opn q m v2 us ++ opn p n v ws)] := ((star_ent (L := [])).trans (by rw [List.append_nil]; exact Ent.perm List.perm_append_comm)).trans star_close1
    have e2 : Ent [star (opn q m v2 us ++ opn p n v ws)] [star (opn p n v ws ++ opn q m v2 us)] := ((star_ent (L := [])).trans (by rw [List.append_nil]; exact Ent.perm List.perm_append_comm)).trans star_close1
    exact ⟨Spec.ent2 (Spec.pre h.size e1) e2, fun i hi => Spec.ent2 (Spec.pre (h.word i hi) e1) e2⟩
  refine Spec.pre (pre := [star (opn p n v ws ++ opn q m v2 us)]) ?_ ((Split.ent' (K := opn p n v ws ++ opn q m v2 us) (by repeat (first | exact Split.nil | (apply Split.cons; (repeat (first | with_reducible exact Take.here | apply Take.there)))))).trans star_close1)
  refine Spec.ent3 (same_x (view_a p n v ws (opn q m v2 us)) hv2 hw.2.1 hu.2.1) ?_
  rintro r L ⟨b, rfl, hb, rfl⟩
  refine ⟨_, ((star_ent (L := [])).trans ?_), b, rfl, hb.trans (words_eq (fun k => hw.2.2.1 k) (fun k => hu.2.2.1 k) hw.2.2.2 hu.2.2.2), rfl⟩
  exact (mset_close hw).trans (Ent.cons (mset_close hu))
theorem same_mn (p n : Nat) (S : Nat → Bool) : Spec Tryd.prog 30 [.pointer (some ⟨p, 0, none⟩), .pointer none] [mset p n S] (fun r L => ∃ b, r = .bool b ∧ (b = true ↔ ∀ k, S k = false) ∧ L = [mset p n S]) := by
  refine mset_elim fun v ws hw => ?_
  refine Spec.pre (pre := [star (opn p n v ws ++ [])]) ?_ star_close1
  refine Spec.ent3 (same_x (view_a p n v ws []) (view_nil _) hw.2.1 (Nat.zero_le _)) ?_
  rintro r L ⟨b, rfl, hb, rfl⟩
  refine ⟨_, ((star_ent (L := [])).trans (mset_close hw)), b, rfl, hb.trans ?_, rfl⟩
  have := words_eq (n1 := n) (n2 := 0) (us := []) (T := fun _ => false) (fun k => hw.2.2.1 k) (fun k => by simp) hw.2.2.2 (fun _ _ => rfl)
  simpa using this
theorem same_nn (X : Assn) : Spec Tryd.prog 30 [.pointer none, .pointer none] [X] (fun r L => ∃ b, r = .bool b ∧ (b = true ↔ True) ∧ L = [X]) := by
  refine Spec.mono (same_x (view_nil X) (view_nil X) (Nat.zero_le _) (Nat.zero_le _)) ?_
  rintro r L ⟨b, rfl, hb, rfl⟩
  exact ⟨b, rfl, hb.trans ⟨fun _ => trivial, fun _ _ _ => rfl⟩, rfl⟩

theorem each_self (p n : Nat) (S : Nat → Bool) (fid : Nat) [Body Tryd.prog fid] (g : BitVec 64 → BitVec 64 → BitVec 64) (gb : Bool → Bool → Bool) (hf : ∀ x y, Spec Tryd.prog fid [wv x, wv y] [] (fun r L => r = wv (g x y) ∧ L = []))
    (hg : ∀ x y i, i < 64 → (g x y).getLsbD i = gb (x.getLsbD i) (y.getLsbD i)) :
    Spec Tryd.prog 55 [.pointer (some ⟨p, 0, none⟩), .pointer (some ⟨p, 0, none⟩), .func (.func fid) #[] #[]] [mset p n S] (fun r L => r = .tuple #[] ∧ L = [mset p n (fun k => decide (k < n) && gb (S k) (S k))]) := by
  refine mset_elim fun v ws hw => ?_
  have hS : mem ws = S := funext hw.2.2.1
  refine Spec.pre ?_ (Ent.swap (L := []))
  refine Spec.own_cases (fun hv l0 _ => ?_) (fun b cap ex hv h1 h2 h3 h4 => ?_)
  · subst hv
    have hn0 : n = 0 := by have := hw.1; omega
    subst hn0
    refine Spec.ent3 (each_0 p _ fid) ?_
    rintro r L ⟨rfl, rfl⟩
    refine ⟨_, Ent.trans ?_ (mset_close (v := .slice none 0 0) (ws := []) ⟨rfl, by decide, fun k => by simp [mem], fun _ _ => by simp⟩), rfl, rfl⟩
    exact Ent.cons own_nil_ent
  · subst hv
    refine Spec.pre (pre := [blk b 67 (wcells ws ++ ex), blk p 52 [.int .i64 (n : Nat), .slice (some ⟨b, 0, none⟩) ws.length cap], star []]) ?_ (Ent.cons (Ent.cons (fun m h => ⟨fun _ => none, m, trivial, trivial, fun _ => .inl rfl, fun _ _ h => by (cases h), fun _ _ h => h⟩)))
    refine Spec.ent3 (each_b p n b cap ws ex _ fid g (fun i => ws.getD i 0#64) (star []) hw.1 hw.2.1 hf (fun cur i hcl hi hci => ?_)) ?_
    · have hwi : cur[i]? = some (ws.getD i 0#64) := by rw [hci, List.getD_eq_getElem?_getD, List.getElem?_eq_getElem hi]; rfl
      have h := word_b p n b cap cur ex i _ hwi
      rw [hcl] at h
      intro E w hh
      refine (h.frame (R := [star []]) hh).mono ?_
      rintro e w' ⟨r, L, he, ⟨hr, rfl⟩, h'⟩
      exact ⟨r, _, he, ⟨hr, rfl⟩, h'⟩
    · rintro r L ⟨rfl, ws', h5, h6, rfl⟩
      have hc := wown_close (b := b) (cap := cap) (ws := ws') (ex := ex) (L := [blk p 52 [.int .i64 (n : Nat), .slice (some ⟨b, 0, none⟩) ws.length cap], star []]) (by omega) h2 (by rw [h5]; exact h4)
      have hwf : Wf n ws' (fun k => decide (k < n) && gb (S k) (S k)) := by
        refine ⟨by rw [h5]; exact hw.1, hw.2.1, fun k => ?_, fun k hk => by show (decide (k < n) && _) = false; rw [decide_eq_false (by omega)]; rfl⟩
        rw [h6, hg _ _ _ (Nat.mod_lt _ (by decide)), ← hS]
        rfl
      have hm := mset_close (p := p) (v := .slice (some ⟨b, 0, none⟩) ws.length cap) (L := [star []]) hwf
      rw [h5] at hc hm
      exact ⟨_, (hc.trans (Ent.swap.trans hm)).trans Ent.one, rfl, rfl⟩

theorem or_self (p n : Nat) (S : Nat → Bool) : Spec Tryd.prog 26 [.pointer (some ⟨p, 0, none⟩), .pointer (some ⟨p, 0, none⟩)] [mset p n S] (fun r L => r = .tuple #[] ∧ L = [mset p n (fun k => decide (k < n) && (S k || S k))]) := by
  refine Spec.of 7 Tryd.func26 rfl rfl rfl ?_
  refine swp_region ?_
  refine s_pu (pu_move rfl) ?_
  refine s_pu (pu_move rfl) ?_
  refine s_ef (ef_fn (each_self p n S 56 (fun x y => x ||| y) (fun a b => (a || b)) or1 (fun x y i hi => by simp [BitVec.getLsbD_or])) rfl rfl (by repeat (first | exact Split.nil | (apply Split.cons; (repeat (first | with_reducible exact Take.here | apply Take.there)))))) ?_
  rintro v1 L1 ⟨rfl, rfl⟩
  refine swl_app ?_
  refine swl_sub _ .nil ?_
  refine swl_nil ?_
  exact done_end _ .nil ⟨rfl, rfl⟩ (by repeat (first | exact Split.nil | (apply Split.cons; (repeat (first | with_reducible exact Take.here | apply Take.there)))))

theorem and_self (p n : Nat) (S : Nat → Bool) : Spec Tryd.prog 28 [.pointer (some ⟨p, 0, none⟩), .pointer (some ⟨p, 0, none⟩)] [mset p n S] (fun r L => r = .tuple #[] ∧ L = [mset p n (fun k => decide (k < n) && (S k && S k))]) := by
  refine Spec.of 7 Tryd.func28 rfl rfl rfl ?_
  refine swp_region ?_
  refine s_pu (pu_move rfl) ?_
  refine s_pu (pu_move rfl) ?_
  refine s_ef (ef_fn (each_self p n S 58 (fun x y => x &&& y) (fun a b => (a && b)) and1 (fun x y i hi => by simp [BitVec.getLsbD_and])) rfl rfl (by repeat (first | exact Split.nil | (apply Split.cons; (repeat (first | with_reducible exact Take.here | apply Take.there)))))) ?_
  rintro v1 L1 ⟨rfl, rfl⟩
  refine swl_app ?_
  refine swl_sub _ .nil ?_
  refine swl_nil ?_
  exact done_end _ .nil ⟨rfl, rfl⟩ (by repeat (first | exact Split.nil | (apply Split.cons; (repeat (first | with_reducible exact Take.here | apply Take.there)))))

theorem less_self (p n : Nat) (S : Nat → Bool) : Spec Tryd.prog 29 [.pointer (some ⟨p, 0, none⟩), .pointer (some ⟨p, 0, none⟩)] [mset p n S] (fun r L => r = .tuple #[] ∧ L = [mset p n (fun k => decide (k < n) && (S k && !S k))]) := by
  refine Spec.of 7 Tryd.func29 rfl rfl rfl ?_
  refine swp_region ?_
  refine s_pu (pu_move rfl) ?_
  refine s_pu (pu_move rfl) ?_
  refine s_ef (ef_fn (each_self p n S 59 (fun x y => x &&& ~~~y) (fun a b => (a && !b)) less1 (fun x y i hi => by simp [hi])) rfl rfl (by repeat (first | exact Split.nil | (apply Split.cons; (repeat (first | with_reducible exact Take.here | apply Take.there)))))) ?_
  rintro v1 L1 ⟨rfl, rfl⟩
  refine swl_app ?_
  refine swl_sub _ .nil ?_
  refine swl_nil ?_
  exact done_end _ .nil ⟨rfl, rfl⟩ (by repeat (first | exact Split.nil | (apply Split.cons; (repeat (first | with_reducible exact Take.here | apply Take.there)))))
end SX
namespace SX
open Go Go.Proofs

theorem Row.form' {μ : PH} {v : Value} {n l : Nat} {xs : List Value} (h : Row μ v n l xs) : ∃ A cap, v = .slice A l cap := by
  obtain ⟨_, A, cap, e, _⟩ := h; exact ⟨A, cap, e⟩
theorem isNext_uniq {S : Nat → Bool} {k x y : Int} (h1 : IsNext S k x) (h2 : IsNext S k y) : x = y := by
  rcases h1 with ⟨rfl, a⟩ | ⟨i, rfl, a, b, c⟩ <;> rcases h2 with ⟨rfl, a'⟩ | ⟨j, rfl, a', b', c'⟩
  · rfl
  · rw [a j a'] at b'; cases b'
  · rw [a' i a] at b; cases b
  · rcases Nat.lt_trichotomy i j with h | h | h
    · rw [c' i a h] at b; cases b
    · rw [h]
    · rw [c j a' h] at b'; cases b'
theorem isLast_uniq {S : Nat → Bool} {k x y : Int} (h1 : IsLast S k x) (h2 : IsLast S k y) : x = y := by
  rcases h1 with ⟨rfl, a⟩ | ⟨i, rfl, a, b, c⟩ <;> rcases h2 with ⟨rfl, a'⟩ | ⟨j, rfl, a', b', c'⟩
  · rfl
  · rw [a j a'] at b'; cases b'
  · rw [a' i a] at b; cases b
  · rcases Nat.lt_trichotomy i j with h | h | h
    · rw [c j h a'] at b'; cases b'
    · rw [h]
    · rw [c' i h a] at b; cases b
theorem put_c (p n : Nat) (S T : Nat → Bool) (k : Nat) (b : Bool) (hk : k < n) (hb : S k = b) (hT : ∀ j, T j = (S j || decide (j = k))) : Spec Tryd.prog 31 [.pointer (some ⟨p, 0, none⟩), .int .i64 (k : Nat)] [mset p n S] (fun r L => r = .bool (!b) ∧ L = [mset p n T]) := by
  refine Spec.mono (put_m p n S k) ?_
  rintro r L ⟨rfl, rfl⟩
  constructor
  · rw [Int.toNat_natCast, hb, decide_eq_true (show (0 : Int) ≤ k by omega), decide_eq_true (show (k : Int) < n by omega)]; simp
  · congr 2
    funext j
    rw [hT, Int.toNat_natCast, decide_eq_true (show (0 : Int) ≤ k ∧ (k : Int) < n by omega), Bool.true_and]
theorem put_out (p n : Nat) (S : Nat → Bool) (k : Int) (hk : k < 0 ∨ (n : Int) ≤ k) : Spec Tryd.prog 31 [.pointer (some ⟨p, 0, none⟩), .int .i64 k] [mset p n S] (fun r L => r = .bool false ∧ L = [mset p n S]) := by
  refine Spec.mono (put_m p n S k) ?_
  rintro r L ⟨rfl, rfl⟩
  constructor
  · rcases hk with hk | hk
    · rw [decide_eq_false (by omega)]; rfl
    · rw [decide_eq_false (show ¬ k < n by omega), Bool.false_and, Bool.and_false]
  · congr 2
    funext j
    rw [decide_eq_false (show ¬ (0 ≤ k ∧ k < n) by omega), Bool.false_and, Bool.or_false]
theorem has_c (p n : Nat) (S : Nat → Bool) (k : Nat) (b : Bool) (hb : S k = b) : Spec Tryd.prog 18 [.pointer (some ⟨p, 0, none⟩), .int .i64 (k : Nat)] [mset p n S] (fun r L => r = .bool b ∧ L = [mset p n S]) := by
  refine Spec.mono (has_m p n S k) ?_
  rintro r L ⟨rfl, rfl⟩
  refine ⟨?_, rfl⟩
  rw [Int.toNat_natCast, hb, decide_eq_true (by omega), Bool.true_and]
theorem new_c (k n : Nat) (hk : k = n) (hn : n ≤ 1048576) : Spec Tryd.prog 22 [.int .i64 (k : Nat)] [] (fun r L => ∃ p, r = .pointer (some ⟨p, 0, none⟩) ∧ L = [mset p n (fun _ => false)]) := by
  have h := new_m (k : Int)
  have e : clampM (k : Int) = n := by unfold clampM; omega
  rwa [e] at h

def hT3 : Nat → Bool := fun j => decide (j = 3)
def hT64 : Nat → Bool := fun j => decide (j = 3) || decide (j = 64)
set_option maxHeartbeats 1000000 in
theorem holds_spec (μ : PH) (hT : RowAt μ 0 0 tabV) : Spec Tryd.prog 13 [] [ro μ] (fun r L => r = .bool true ∧ L = [ro μ]) := by
  refine Spec.of 50 Tryd.func13 rfl rfl rfl ?_
  refine swp_seq ?_
  refine swp_region ?_
  refine s_pu (pu_assign rfl) ?_
  refine swl_sub _ .nil ?_
  refine swl_nil ?_
  refine then_n ?_
  refine swp_seq ?_
  refine swp_region ?_
  refine s_ef (ef_fn (new_c 100 100 rfl (by decide)) rfl rfl (by repeat (first | exact Split.nil | (apply Split.cons; (repeat (first | with_reducible exact Take.here | apply Take.there)))))) ?_
  rintro v1 L1 ⟨p, rfl, rfl⟩
  refine swl_app ?_
  refine s_pu (pu_assign rfl) ?_
  refine swl_sub _ (.cons (t := 1) rfl .nil) ?_
  refine swl_nil ?_
  refine then_n ?_
  refine swp_seq ?_
  refine swp_seq ?_
  refine swp_region ?_
  refine s_pu (pu_move rfl) ?_
  refine s_pu (pu_ptr_eq_nil rfl rfl) ?_
  refine s_pu (pu_move rfl) ?_
  refine s_on rfl rfl ?_
  refine s_pu (pu_move rfl) ?_
  refine s_on rfl rfl ?_
  refine s_ef (ef_fn (put_c p 100 (fun _ => false) hT3 3 false (by decide) rfl (fun j => by simp [hT3])) rfl rfl (by repeat (first | exact Split.nil | (apply Split.cons; (repeat (first | with_reducible exact Take.here | apply Take.there)))))) ?_
  rintro v1 L1 ⟨rfl, rfl⟩
  refine swl_app ?_
  refine s_on rfl rfl ?_
  refine s_pu (pu_not rfl) ?_
  first | refine s_pu (pu_pick_t rfl rfl) ?_ | refine s_pu (pu_pick_f rfl rfl) ?_
  refine s_pu (pu_move rfl) ?_
  refine s_on rfl rfl ?_
  refine s_pu (pu_move rfl) ?_
  refine s_on rfl rfl ?_
  refine s_ef (ef_fn (put_c p 100 hT3 hT3 3 true (by decide) rfl (fun j => by simp [hT3])) rfl rfl (by repeat (first | exact Split.nil | (apply Split.cons; (repeat (first | with_reducible exact Take.here | apply Take.there)))))) ?_
  rintro v1 L1 ⟨rfl, rfl⟩
  refine swl_app ?_
  first | refine s_pu (pu_pick_t rfl rfl) ?_ | refine s_pu (pu_pick_f rfl rfl) ?_
  refine s_pu (pu_move rfl) ?_
  refine s_on rfl rfl ?_
  refine s_pu (pu_move rfl) ?_
  refine s_on rfl rfl ?_
  refine s_ef (ef_fn (put_out p 100 hT3 100 (.inr (by decide))) rfl rfl (by repeat (first | exact Split.nil | (apply Split.cons; (repeat (first | with_reducible exact Take.here | apply Take.there)))))) ?_
  rintro v1 L1 ⟨rfl, rfl⟩
  refine swl_app ?_
  first | refine s_pu (pu_pick_t rfl rfl) ?_ | refine s_pu (pu_pick_f rfl rfl) ?_
  refine s_pu (pu_move rfl) ?_
  refine s_on rfl rfl ?_
  refine s_pu (pu_move rfl) ?_
  refine s_on rfl rfl ?_
  refine s_ef (ef_fn (put_c p 100 hT3 hT64 64 false (by decide) rfl (fun j => rfl)) rfl rfl (by repeat (first | exact Split.nil | (apply Split.cons; (repeat (first | with_reducible exact Take.here | apply Take.there)))))) ?_
  rintro v1 L1 ⟨rfl, rfl⟩
  refine swl_app ?_
  refine s_on rfl rfl ?_
  refine s_pu (pu_not rfl) ?_
  first | refine s_pu (pu_pick_t rfl rfl) ?_ | refine s_pu (pu_pick_f rfl rfl) ?_
  refine swl_sub _ (.cons (t := 1) rfl (.cons (t := 22) rfl .nil)) ?_
  refine swl_nil ?_
  refine then_n ?_
  refine swp_cond (b := _) rfl (fun h22 => absurd h22 (by decide)) (fun h22 => ?_)
  refine swp_skip ?_
  refine then_n ?_
  refine swp_seq ?_
  refine swp_region ?_
  refine s_pu (pu_move rfl) ?_
  refine s_ef (ef_fn (count_m p 100 hT64) rfl rfl (by repeat (first | exact Split.nil | (apply Split.cons; (repeat (first | with_reducible exact Take.here | apply Take.there)))))) ?_
  rintro v1 L1 ⟨rfl, rfl⟩
  refine swl_app ?_
  rw [show (elsTo 100 hT64).length = 2 by decide +kernel]
  refine s_pu (pu_eql rfl rfl) ?_
  refine s_pu (pu_move rfl) ?_
  refine s_on rfl rfl ?_
  refine s_pu (pu_move rfl) ?_
  refine s_on rfl rfl ?_
  refine s_ef (ef_fn (next_m μ p 100 hT64 4 hT) rfl rfl (by repeat (first | exact Split.nil | (apply Split.cons; (repeat (first | with_reducible exact Take.here | apply Take.there)))))) ?_
  rintro v1 L1 ⟨x, rfl, hx, rfl⟩
  refine swl_app ?_
  obtain rfl : x = 64 := isNext_uniq hx (.inr ⟨64, rfl, by decide, by decide, fun i h1 h2 => by
    have h3 : i ≠ 3 := by omega
    have h4 : i ≠ 64 := by omega
    simp [hT64, h3, h4]⟩)
  refine s_on rfl rfl ?_
  refine s_pu (pu_eql rfl rfl) ?_
  first | refine s_pu (pu_pick_t rfl rfl) ?_ | refine s_pu (pu_pick_f rfl rfl) ?_
  refine s_pu (pu_move rfl) ?_
  refine s_on rfl rfl ?_
  refine s_pu (pu_move rfl) ?_
  refine s_on rfl rfl ?_
  refine s_ef (ef_fn (next_m μ p 100 hT64 65 hT) rfl rfl (by repeat (first | exact Split.nil | (apply Split.cons; (repeat (first | with_reducible exact Take.here | apply Take.there)))))) ?_
  rintro v1 L1 ⟨x, rfl, hx, rfl⟩
  refine swl_app ?_
  obtain rfl : x = -1 := isNext_uniq hx (.inl ⟨rfl, fun i h1 => by
    have h3 : i ≠ 3 := by omega
    have h4 : i ≠ 64 := by omega
    simp [hT64, h3, h4]⟩)
  refine s_on rfl rfl ?_
  refine s_pu (pu_eql rfl rfl) ?_
  first | refine s_pu (pu_pick_t rfl rfl) ?_ | refine s_pu (pu_pick_f rfl rfl) ?_
  refine s_pu (pu_move rfl) ?_
  refine s_on rfl rfl ?_
  refine s_pu (pu_move rfl) ?_
  refine s_on rfl rfl ?_
  refine s_ef (ef_fn (last_m p 100 hT64 63) rfl rfl (by repeat (first | exact Split.nil | (apply Split.cons; (repeat (first | with_reducible exact Take.here | apply Take.there)))))) ?_
  rintro v1 L1 ⟨x, rfl, hx, rfl⟩
  refine swl_app ?_
  obtain rfl : x = 3 := isLast_uniq hx (.inr ⟨3, rfl, by decide, by decide, fun i h1 h2 => by
    have h3 : i ≠ 3 := by omega
    have h4 : i ≠ 64 := by omega
    simp [hT64, h3, h4]⟩)
  refine s_on rfl rfl ?_
  refine s_pu (pu_eql rfl rfl) ?_
  first | refine s_pu (pu_pick_t rfl rfl) ?_ | refine s_pu (pu_pick_f rfl rfl) ?_
  refine s_pu (pu_move rfl) ?_
  refine s_on rfl rfl ?_
  refine s_pu (pu_move rfl) ?_
  refine s_on rfl rfl ?_
  refine s_ef (ef_fn (has_c p 100 hT64 64 true (by decide)) rfl rfl (by repeat (first | exact Split.nil | (apply Split.cons; (repeat (first | with_reducible exact Take.here | apply Take.there)))))) ?_
  rintro v1 L1 ⟨rfl, rfl⟩
  refine swl_app ?_
  first | refine s_pu (pu_pick_t rfl rfl) ?_ | refine s_pu (pu_pick_f rfl rfl) ?_
  refine s_pu (pu_move rfl) ?_
  refine s_on rfl rfl ?_
  refine s_pu (pu_move rfl) ?_
  refine s_on rfl rfl ?_
  refine s_ef (ef_fn (has_c p 100 hT64 65 false (by decide)) rfl rfl (by repeat (first | exact Split.nil | (apply Split.cons; (repeat (first | with_reducible exact Take.here | apply Take.there)))))) ?_
  rintro v1 L1 ⟨rfl, rfl⟩
  refine swl_app ?_
  refine s_on rfl rfl ?_
  refine s_pu (pu_not rfl) ?_
  first | refine s_pu (pu_pick_t rfl rfl) ?_ | refine s_pu (pu_pick_f rfl rfl) ?_
  refine s_pu (pu_assign rfl) ?_
  refine swl_sub _ (.cons (t := 0) rfl .nil) ?_
  refine swl_nil ?_
  refine then_n ?_
  refine swp_ret ?_
  exact done_ret [ro μ] (.tmp rfl .nil) ⟨rfl, rfl⟩ (by repeat (first | exact Split.nil | (apply Split.cons; (repeat (first | with_reducible exact Take.here | apply Take.there)))))

/-- the numbers of a list that a set of n may have -/
def inL (l : List Int) (n : Nat) (j : Nat) : Bool := decide (j < n) && decide ((j : Int) ∈ l)
theorem inL_snoc (l : List Int) (n : Nat) (x : Int) (j : Nat) : inL (l ++ [x]) n j = (inL l n j || (decide (0 ≤ x ∧ x < n) && decide (j = x.toNat))) := by
  unfold inL
  rw [Bool.eq_iff_iff]
  simp only [Bool.and_eq_true, Bool.or_eq_true, decide_eq_true_eq, List.mem_append, List.mem_singleton]
  constructor
  · rintro ⟨h, h1 | h1⟩
    · exact .inl ⟨h, h1⟩
    · exact .inr (by omega)
  · rintro (⟨h, h1⟩ | h)
    · exact ⟨h, .inl h1⟩
    · exact ⟨by omega, .inr (by omega)⟩
theorem of_spec (μ : PH) (lv : Value) (l : List Int) (k : Int) (hl : Row μ lv 1 l.length (l.flatMap (icsk .i64))) : Spec Tryd.prog 14 [.int .i64 k, lv] [ro μ]
    (fun r L => ∃ p, r = .pointer (some ⟨p, 0, none⟩) ∧ L = [mset p (clampM k) (inL l (clampM k)), ro μ]) := by
  have hb : l.length ≤ maxLen := by obtain ⟨_, _, _, _, h1, h2, _⟩ := hl; omega
  simp only [maxLen] at hb
  obtain ⟨A, cap, hlv⟩ := hl.form'
  subst hlv
  refine Spec.of 21 Tryd.func14 rfl rfl rfl ?_
  refine swp_seq ?_
  refine swp_region ?_
  refine s_pu (pu_assign rfl) ?_
  refine swl_sub _ (.cons (t := 0) rfl (.cons (t := 1) rfl .nil)) ?_
  refine swl_nil ?_
  refine then_n ?_
  refine swp_seq ?_
  refine swp_region ?_
  refine s_pu (pu_move rfl) ?_
  refine s_ef (ef_fn (new_m k) rfl rfl (by repeat (first | exact Split.nil | (apply Split.cons; (repeat (first | with_reducible exact Take.here | apply Take.there)))))) ?_
  rintro v1 L1 ⟨p, rfl, rfl⟩
  refine swl_app ?_
  refine s_pu (pu_assign rfl) ?_
  refine swl_sub _ (.cons (t := 1) rfl (.cons (t := 5) rfl .nil)) ?_
  refine swl_nil ?_
  refine then_n ?_
  refine swp_seq ?_
  refine swp_seq ?_
  refine swp_region ?_
  refine s_pu (pu_move rfl) ?_
  refine s_pu (pu_len rfl) ?_
  refine s_pu (pu_move rfl) ?_
  refine swl_sub _ (.cons (t := 5) rfl (.cons (t := 10) rfl (.cons (t := 11) rfl (.cons (t := 12) rfl .nil)))) ?_
  refine swl_nil ?_
  refine then_n ?_
  refine swp_block ?_
  refine swp_loop (ι := Nat) (fun i env L => env = [(5, .pointer (some ⟨p, 0, none⟩)), (10, .slice A l.length cap), (11, .int .i64 (l.length : Nat)), (12, .int .i64 (i : Nat))] ∧ L = [mset p (clampM k) (inL (l.take i) (clampM k)), ro μ] ∧ i ≤ l.length) (fun i => l.length - i) 0 ⟨rfl, ?_, Nat.zero_le _⟩ ?_
  · have e : inL (l.take 0) (clampM k) = fun _ => false := by funext j; simp [inL]
    rw [e]
  rintro i env L ⟨rfl, rfl, hi⟩
  refine swp_seq ?_
  refine swp_region ?_
  refine s_pu (pu_lss rfl rfl) ?_
  refine swl_sub _ (.cons (t := 5) rfl (.cons (t := 10) rfl (.cons (t := 11) rfl (.cons (t := 12) rfl (.cons (t := 13) rfl .nil))))) ?_
  refine swl_nil ?_
  refine then_n ?_
  refine swp_seq ?_
  refine swp_cond (b := _) rfl (fun h13 => ?_) (fun h13 => ?_)
  · skip   -- 13 T
    have h13' : i < l.length := by have := of_decide_eq_true h13; omega
    obtain ⟨gb, off, cap', hv, c1, c2, hr⟩ := hl.pos (by omega)
    simp only [Value.slice.injEq, true_and] at hv
    obtain ⟨rfl, rfl⟩ := hv
    obtain ⟨x, hx⟩ : ∃ x, l[i]? = some x := ⟨_, List.getElem?_eq_getElem h13'⟩
    have hrk := hr.elem (icsk_len .i64) hx
    refine swp_skip ?_
    refine then_n ?_
    refine swp_seq ?_
    refine swp_block ?_
    refine swp_seq ?_
    refine swp_region ?_
    refine s_pu (pu_indexAddr (off + i * 1) rfl rfl (by omega) (by omega) (by rw [Int.toNat_natCast])) ?_
    refine s_rd (rd_ro rfl hrk.cell) ?_
    refine s_pu (pu_assign rfl) ?_
    refine swl_sub _ (.cons (t := 5) rfl (.cons (t := 7) rfl (.cons (t := 10) rfl (.cons (t := 11) rfl (.cons (t := 12) rfl .nil))))) ?_
    refine swl_nil ?_
    refine then_n ?_
    refine swp_region ?_
    refine s_pu (pu_move rfl) ?_
    refine s_pu (pu_move rfl) ?_
    refine s_ef (ef_fn (put_m p (clampM k) _ x) rfl rfl (by repeat (first | exact Split.nil | (apply Split.cons; (repeat (first | with_reducible exact Take.here | apply Take.there)))))) ?_
    rintro v1 L1 ⟨rfl, rfl⟩
    refine swl_app ?_
    refine swl_sub _ (.cons (t := 5) rfl (.cons (t := 10) rfl (.cons (t := 11) rfl (.cons (t := 12) rfl .nil)))) ?_
    refine swl_nil ?_
    refine block_n ?_
    refine then_n ?_
    refine swp_region ?_
    refine s_pu (pu_add_as ((i + 1 : Nat) : Int) rfl rfl (by omega) (by omega) (by omega)) ?_
    refine s_pu (pu_move rfl) ?_
    refine swl_sub _ (.cons (t := 5) rfl (.cons (t := 10) rfl (.cons (t := 11) rfl (.cons (t := 12) rfl .nil)))) ?_
    refine swl_nil ?_
    refine then_n ⟨i + 1, ⟨rfl, ?_, h13'⟩, by omega⟩
    have e : l.take (i + 1) = l.take i ++ [x] := by rw [List.take_add_one, hx]; rfl
    rw [e]
    congr 2
    funext j
    exact (inL_snoc _ _ _ _).symm
  · skip   -- 13 F
    have h13' : i = l.length := by have := of_decide_eq_false h13; omega
    subst h13'
    rw [List.take_length]
    refine swp_exit ?_
    refine then_x ?_
    refine then_x ?_
    refine block_hit rfl ?_
    refine then_n ?_
    refine swp_seq ?_
    refine swp_region ?_
    refine s_pu (pu_move rfl) ?_
    refine s_pu (pu_assign rfl) ?_
    refine swl_sub _ (.cons (t := 4) rfl .nil) ?_
    refine swl_nil ?_
    refine then_n ?_
    refine swp_ret ?_
    exact done_ret [mset p (clampM k) (inL l (clampM k)), ro μ] (.tmp rfl .nil) ⟨p, rfl, rfl⟩ (by repeat (first | exact Split.nil | (apply Split.cons; (repeat (first | with_reducible exact Take.here | apply Take.there)))))
end SX
namespace SX
open Go Go.Proofs

theorem mset_fact {p n : Nat} {S : Nat → Bool} {L : List Assn} {m : PH} (h : Sat (mset p n S :: L) m) : n ≤ 1048576 ∧ ∀ k, n ≤ k → S k = false := by
  obtain ⟨x, hx⟩ := exA_open h
  exact ⟨x.2.2.1, x.2.2.2.2⟩
theorem spec_same {f : FuncId} {args : List Value} {p n : Nat} {S T U : Nat → Bool} {R : List Assn} (h : Spec Tryd.prog f args (mset p n S :: R) (fun r L => r = .tuple #[] ∧ L = mset p n T :: R)) (hU : (∀ k, n ≤ k → S k = false) → ∀ k, T k = U k) : Spec Tryd.prog f args (mset p n S :: R) (fun r L => r = .tuple #[] ∧ L = mset p n U :: R) := by
  refine Spec.fact' (fun m hm => (mset_fact hm).2) fun hz => Spec.mono h ?_
  rintro r L ⟨rfl, rfl⟩
  rw [show T = U from funext (hU hz)]
  exact ⟨rfl, rfl⟩
theorem cut_out {n : Nat} {S : Nat → Bool} (hz : ∀ k, n ≤ k → S k = false) (b : Bool) (k : Nat) : (decide (k < n) && (S k && b)) = (S k && b) := by
  by_cases h : k < n
  · simp [h]
  · rw [hz k (by omega)]; simp
theorem cut_id {n : Nat} {S : Nat → Bool} (hz : ∀ k, n ≤ k → S k = false) (k : Nat) : (decide (k < n) && S k) = S k := by
  have := cut_out hz true k; rwa [Bool.and_true] at this
theorem or_none' (p n : Nat) (S : Nat → Bool) : Spec Tryd.prog 26 [.pointer (some ⟨p, 0, none⟩), .pointer none] [mset p n S] (fun r L => r = .tuple #[] ∧ L = [mset p n S]) := spec_same (or_none p n S) (fun hz k => by rw [Bool.or_false, cut_id hz])
theorem less_none' (p n : Nat) (S : Nat → Bool) : Spec Tryd.prog 29 [.pointer (some ⟨p, 0, none⟩), .pointer none] [mset p n S] (fun r L => r = .tuple #[] ∧ L = [mset p n S]) := spec_same (less_none p n S) (fun hz k => by rw [Bool.not_false, Bool.and_true, cut_id hz])
theorem and_none' (p n : Nat) (S : Nat → Bool) : Spec Tryd.prog 28 [.pointer (some ⟨p, 0, none⟩), .pointer none] [mset p n S] (fun r L => r = .tuple #[] ∧ L = [mset p n (fun _ => false)]) := spec_same (and_none p n S) (fun _ k => by simp)
theorem and_m' (p n q m : Nat) (S T : Nat → Bool) : Spec Tryd.prog 28 [.pointer (some ⟨p, 0, none⟩), .pointer (some ⟨q, 0, none⟩)] [mset p n S, mset q m T] (fun r L => r = .tuple #[] ∧ L = [mset p n (fun k => S k && T k), mset q m T]) := spec_same (and_m p n q m S T) (fun hz k => cut_out hz _ k)
theorem less_m' (p n q m : Nat) (S T : Nat → Bool) : Spec Tryd.prog 29 [.pointer (some ⟨p, 0, none⟩), .pointer (some ⟨q, 0, none⟩)] [mset p n S, mset q m T] (fun r L => r = .tuple #[] ∧ L = [mset p n (fun k => S k && !T k), mset q m T]) := spec_same (less_m p n q m S T) (fun hz k => cut_out hz _ k)
theorem or_self' (p n : Nat) (S : Nat → Bool) : Spec Tryd.prog 26 [.pointer (some ⟨p, 0, none⟩), .pointer (some ⟨p, 0, none⟩)] [mset p n S] (fun r L => r = .tuple #[] ∧ L = [mset p n S]) := spec_same (or_self p n S) (fun hz k => by rw [Bool.or_self, cut_id hz])
theorem and_self' (p n : Nat) (S : Nat → Bool) : Spec Tryd.prog 28 [.pointer (some ⟨p, 0, none⟩), .pointer (some ⟨p, 0, none⟩)] [mset p n S] (fun r L => r = .tuple #[] ∧ L = [mset p n S]) := spec_same (and_self p n S) (fun hz k => by rw [Bool.and_self, cut_id hz])
theorem less_self' (p n : Nat) (S : Nat → Bool) : Spec Tryd.prog 29 [.pointer (some ⟨p, 0, none⟩), .pointer (some ⟨p, 0, none⟩)] [mset p n S] (fun r L => r = .tuple #[] ∧ L = [mset p n (fun _ => false)]) := spec_same (less_self p n S) (fun _ k => by simp)

theorem elsTo_false (n : Nat) : elsTo n (fun _ => false) = [] := by unfold elsTo; simp [numsI]
theorem elsTo_zero {n : Nat} {S : Nat → Bool} (hz : ∀ k, n ≤ k → S k = false) : (elsTo n S).length = 0 ↔ ∀ k, S k = false := by
  constructor
  · intro h k
    by_cases hk : k < n
    · cases hs : S k with
      | false => rfl
      | true =>
        have h1 : k ∈ (List.range n).filter S := List.mem_filter.2 ⟨List.mem_range.2 hk, hs⟩
        have h2 : (List.range n).filter S = [] := by
          have := List.eq_nil_of_length_eq_zero h
          unfold elsTo numsI at this
          exact List.map_eq_nil_iff.1 this
        rw [h2] at h1; cases h1
    · exact hz k (by omega)
  · intro h
    have : S = fun _ => false := funext h
    rw [this, elsTo_false]; rfl
theorem inL_out (l : List Int) (n : Nat) (k : Nat) (h : n ≤ k) : inL l n k = false := by
  unfold inL; rw [decide_eq_false (by omega)]; rfl
theorem mset_zero {b : Nat} {L : List Assn} : Ent (blk b 52 [.int .i64 0, .slice none 0 0] :: L) (mset b 0 (fun _ => false) :: L) :=
  (Ent.cons own_nil_ent).trans (mset_close (n := 0) (v := .slice none 0 0) (ws := []) ⟨rfl, by decide, fun k => by simp [mem], fun _ _ => rfl⟩)
theorem bool_iff {b c : Bool} {p : Prop} (h1 : b = true ↔ p) (h2 : c = true ↔ p) : b = c := by
  cases b <;> cases c <;> simp_all

set_option maxHeartbeats 2000000 in
theorem none_spec (μ : PH) (n : Int) (lv : Value) (l : List Int) (hT : RowAt μ 0 0 tabV) (hl : Row μ lv 1 l.length (l.flatMap (icsk .i64))) : Spec Tryd.prog 7 [.int .i64 n, lv] [ro μ] (fun v L => v = .bool true ∧ ∃ μ' R, Le μ μ' ∧ L = ro μ' :: R) := by
  have hc : clampM ((500 : Nat) : Int) = 500 := by decide
  have hof := of_spec μ lv l ((500 : Nat) : Int) hl
  rw [hc] at hof
  have hz0 := elsTo_zero (inL_out l 500)
  refine Spec.of 122 Tryd.func7 rfl rfl rfl ?_
  refine swp_seq ?_
  refine swp_region ?_
  refine s_pu (pu_assign rfl) ?_
  refine swl_sub _ (.cons (t := 0) rfl (.cons (t := 1) rfl .nil)) ?_
  refine swl_nil ?_
  refine then_n ?_
  refine swp_seq ?_
  refine swp_seq ?_
  refine swp_region ?_
  refine s_ef (ef_fn (holds_spec μ hT) rfl rfl (by repeat (first | exact Split.nil | (apply Split.cons; (repeat (first | with_reducible exact Take.here | apply Take.there)))))) ?_
  rintro v1 L1 ⟨rfl, rfl⟩
  refine swl_app ?_
  refine s_pu (pu_not rfl) ?_
  refine swl_sub _ (.cons (t := 0) rfl (.cons (t := 1) rfl (.cons (t := 10) rfl .nil))) ?_
  refine swl_nil ?_
  refine then_n ?_
  refine swp_cond (b := _) rfl (fun h10 => absurd h10 (by decide)) (fun h10 => ?_)
  refine swp_skip ?_
  refine then_n ?_
  refine swp_seq ?_
  refine swp_region ?_
  refine s_pu (pu_assign rfl) ?_
  refine swl_sub _ (.cons (t := 0) rfl (.cons (t := 1) rfl (.cons (t := 5) rfl .nil))) ?_
  refine swl_nil ?_
  refine then_n ?_
  refine swp_seq ?_
  refine swp_region ?_
  refine s_pu (pu_move rfl) ?_
  refine s_ef (ef_fn hof rfl rfl (by repeat (first | exact Split.nil | (apply Split.cons; (repeat (first | with_reducible exact Take.here | apply Take.there)))))) ?_
  rintro v1 L1 ⟨p, rfl, rfl⟩
  refine swl_app ?_
  refine s_pu (pu_bld (qs := []) rfl) ?_
  refine s_ef (ef_box rfl rfl) ?_
  intro b14
  refine s_pu (pu_assign rfl) ?_
  refine s_pu (pu_assign rfl) ?_
  refine swl_sub _ (.cons (t := 0) rfl (.cons (t := 5) rfl (.cons (t := 6) rfl (.cons (t := 7) rfl .nil)))) ?_
  refine swl_ent (mset_zero (b := b14)) ?_
  refine swl_nil ?_
  refine then_n ?_
  refine swp_seq ?_
  refine swp_region ?_
  refine s_pu (pu_move rfl) ?_
  refine s_ef (ef_fn (count_m p 500 (inL l 500)) rfl rfl (by repeat (first | exact Split.nil | (apply Split.cons; (repeat (first | with_reducible exact Take.here | apply Take.there)))))) ?_
  rintro v1 L1 ⟨rfl, rfl⟩
  refine swl_app ?_
  refine s_pu (pu_assign rfl) ?_
  refine swl_sub _ (.cons (t := 0) rfl (.cons (t := 5) rfl (.cons (t := 6) rfl (.cons (t := 7) rfl (.cons (t := 8) rfl .nil))))) ?_
  refine swl_nil ?_
  refine then_n ?_
  refine swp_seq ?_
  refine swp_region ?_
  refine s_pu (pu_move rfl) ?_
  refine s_pu (pu_move rfl) ?_
  refine s_ef (ef_fn (or_none' p 500 (inL l 500)) rfl rfl (by repeat (first | exact Split.nil | (apply Split.cons; (repeat (first | with_reducible exact Take.here | apply Take.there)))))) ?_
  rintro v1 L1 ⟨rfl, rfl⟩
  refine swl_app ?_
  refine swl_sub _ (.cons (t := 0) rfl (.cons (t := 5) rfl (.cons (t := 6) rfl (.cons (t := 7) rfl (.cons (t := 8) rfl .nil))))) ?_
  refine swl_nil ?_
  refine then_n ?_
  refine swp_seq ?_
  refine swp_region ?_
  refine s_pu (pu_move rfl) ?_
  refine s_pu (pu_move rfl) ?_
  refine s_ef (ef_fn (less_none' p 500 (inL l 500)) rfl rfl (by repeat (first | exact Split.nil | (apply Split.cons; (repeat (first | with_reducible exact Take.here | apply Take.there)))))) ?_
  rintro v1 L1 ⟨rfl, rfl⟩
  refine swl_app ?_
  refine swl_sub _ (.cons (t := 0) rfl (.cons (t := 5) rfl (.cons (t := 6) rfl (.cons (t := 7) rfl (.cons (t := 8) rfl .nil))))) ?_
  refine swl_nil ?_
  refine then_n ?_
  refine swp_seq ?_
  refine swp_seq ?_
  refine swp_region ?_
  refine s_pu (pu_move rfl) ?_
  refine s_ef (ef_fn (count_m p 500 (inL l 500)) rfl rfl (by repeat (first | exact Split.nil | (apply Split.cons; (repeat (first | with_reducible exact Take.here | apply Take.there)))))) ?_
  rintro v1 L1 ⟨rfl, rfl⟩
  refine swl_app ?_
  refine s_pu (pu_move rfl) ?_
  refine s_pu (pu_neq rfl rfl) ?_
  refine s_pu (pu_move rfl) ?_
  refine s_split 27 rfl (fun h27 => by simp at h27) (fun h27 => ?_)
  refine s_on rfl rfl ?_
  refine s_pu (pu_move rfl) ?_
  refine s_on rfl rfl ?_
  refine s_ef (ef_fn size_nil rfl rfl (by repeat (first | exact Split.nil | (apply Split.cons; (repeat (first | with_reducible exact Take.here | apply Take.there)))))) ?_
  rintro v1 L1 ⟨rfl, rfl⟩
  refine swl_app ?_
  refine s_on rfl rfl ?_
  refine s_pu (pu_neq rfl rfl) ?_
  first | refine s_pu (pu_pick_t rfl rfl) ?_ | refine s_pu (pu_pick_f rfl rfl) ?_
  refine s_pu (pu_move rfl) ?_
  refine s_on rfl rfl ?_
  refine s_pu (pu_move rfl) ?_
  refine s_on rfl rfl ?_
  refine s_pu (pu_move rfl) ?_
  refine s_on rfl rfl ?_
  refine s_ef (ef_fn (put_nil n) rfl rfl (by repeat (first | exact Split.nil | (apply Split.cons; (repeat (first | with_reducible exact Take.here | apply Take.there)))))) ?_
  rintro v1 L1 ⟨rfl, rfl⟩
  refine swl_app ?_
  first | refine s_pu (pu_pick_t rfl rfl) ?_ | refine s_pu (pu_pick_f rfl rfl) ?_
  refine s_pu (pu_move rfl) ?_
  refine s_on rfl rfl ?_
  refine s_pu (pu_move rfl) ?_
  refine s_on rfl rfl ?_
  refine s_pu (pu_move rfl) ?_
  refine s_on rfl rfl ?_
  refine s_ef (ef_fn (drop_nil n) rfl rfl (by repeat (first | exact Split.nil | (apply Split.cons; (repeat (first | with_reducible exact Take.here | apply Take.there)))))) ?_
  rintro v1 L1 ⟨rfl, rfl⟩
  refine swl_app ?_
  first | refine s_pu (pu_pick_t rfl rfl) ?_ | refine s_pu (pu_pick_f rfl rfl) ?_
  refine s_pu (pu_move rfl) ?_
  refine s_on rfl rfl ?_
  refine s_pu (pu_move rfl) ?_
  refine s_on rfl rfl ?_
  refine s_pu (pu_move rfl) ?_
  refine s_on rfl rfl ?_
  refine s_ef (ef_fn (has_nil n) rfl rfl (by repeat (first | exact Split.nil | (apply Split.cons; (repeat (first | with_reducible exact Take.here | apply Take.there)))))) ?_
  rintro v1 L1 ⟨rfl, rfl⟩
  refine swl_app ?_
  first | refine s_pu (pu_pick_t rfl rfl) ?_ | refine s_pu (pu_pick_f rfl rfl) ?_
  refine s_pu (pu_move rfl) ?_
  refine s_on rfl rfl ?_
  refine s_pu (pu_move rfl) ?_
  refine s_on rfl rfl ?_
  refine s_ef (ef_fn count_nil rfl rfl (by repeat (first | exact Split.nil | (apply Split.cons; (repeat (first | with_reducible exact Take.here | apply Take.there)))))) ?_
  rintro v1 L1 ⟨rfl, rfl⟩
  refine swl_app ?_
  refine s_on rfl rfl ?_
  refine s_pu (pu_neq rfl rfl) ?_
  first | refine s_pu (pu_pick_t rfl rfl) ?_ | refine s_pu (pu_pick_f rfl rfl) ?_
  refine s_pu (pu_move rfl) ?_
  refine s_on rfl rfl ?_
  refine s_pu (pu_move rfl) ?_
  refine s_on rfl rfl ?_
  refine s_pu (pu_move rfl) ?_
  refine s_on rfl rfl ?_
  refine s_ef (ef_fn (next_nil n) rfl rfl (by repeat (first | exact Split.nil | (apply Split.cons; (repeat (first | with_reducible exact Take.here | apply Take.there)))))) ?_
  rintro v1 L1 ⟨rfl, rfl⟩
  refine swl_app ?_
  refine s_on rfl rfl ?_
  refine s_pu (pu_neq rfl rfl) ?_
  first | refine s_pu (pu_pick_t rfl rfl) ?_ | refine s_pu (pu_pick_f rfl rfl) ?_
  refine s_pu (pu_move rfl) ?_
  refine s_on rfl rfl ?_
  refine s_pu (pu_move rfl) ?_
  refine s_on rfl rfl ?_
  refine s_pu (pu_move rfl) ?_
  refine s_on rfl rfl ?_
  refine s_ef (ef_fn (last_nil n) rfl rfl (by repeat (first | exact Split.nil | (apply Split.cons; (repeat (first | with_reducible exact Take.here | apply Take.there)))))) ?_
  rintro v1 L1 ⟨rfl, rfl⟩
  refine swl_app ?_
  refine s_on rfl rfl ?_
  refine s_pu (pu_neq rfl rfl) ?_
  first | refine s_pu (pu_pick_t rfl rfl) ?_ | refine s_pu (pu_pick_f rfl rfl) ?_
  refine s_pu (pu_move rfl) ?_
  refine s_on rfl rfl ?_
  refine s_pu (pu_move rfl) ?_
  refine s_on rfl rfl ?_
  refine s_ef (ef_fn list_nil rfl rfl (by repeat (first | exact Split.nil | (apply Split.cons; (repeat (first | with_reducible exact Take.here | apply Take.there)))))) ?_
  rintro v1 L1 ⟨rfl, rfl⟩
  refine swl_app ?_
  refine s_on rfl rfl ?_
  refine s_pu (pu_len rfl) ?_
  refine s_on rfl rfl ?_
  refine s_pu (pu_neq rfl rfl) ?_
  first | refine s_pu (pu_pick_t rfl rfl) ?_ | refine s_pu (pu_pick_f rfl rfl) ?_
  refine s_pu (pu_move rfl) ?_
  refine s_on rfl rfl ?_
  refine s_pu (pu_move rfl) ?_
  refine s_on rfl rfl ?_
  refine s_ef (ef_fn copy_nil rfl rfl (by repeat (first | exact Split.nil | (apply Split.cons; (repeat (first | with_reducible exact Take.here | apply Take.there)))))) ?_
  rintro v1 L1 ⟨rfl, rfl⟩
  refine swl_app ?_
  refine s_on rfl rfl ?_
  refine s_pu (pu_ptr_ne_nil rfl rfl) ?_
  first | refine s_pu (pu_pick_t rfl rfl) ?_ | refine s_pu (pu_pick_f rfl rfl) ?_
  refine swl_sub _ (.cons (t := 0) rfl (.cons (t := 5) rfl (.cons (t := 6) rfl (.cons (t := 7) rfl (.cons (t := 8) rfl (.cons (t := 74) rfl .nil)))))) ?_
  refine swl_nil ?_
  refine then_n ?_
  refine swp_cond (b := _) rfl (fun h74 => absurd h74 (by decide)) (fun h74 => ?_)
  refine swp_skip ?_
  refine then_n ?_
  refine swp_seq ?_
  refine swp_region ?_
  refine s_pu (pu_move rfl) ?_
  refine s_pu (pu_move rfl) ?_
  refine s_ef (ef_fn (or_nil _) rfl rfl (by repeat (first | exact Split.nil | (apply Split.cons; (repeat (first | with_reducible exact Take.here | apply Take.there)))))) ?_
  rintro v1 L1 ⟨rfl, rfl⟩
  refine swl_app ?_
  refine swl_sub _ (.cons (t := 0) rfl (.cons (t := 5) rfl (.cons (t := 6) rfl (.cons (t := 7) rfl (.cons (t := 8) rfl .nil))))) ?_
  refine swl_nil ?_
  refine then_n ?_
  refine swp_seq ?_
  refine swp_region ?_
  refine s_pu (pu_move rfl) ?_
  refine s_pu (pu_move rfl) ?_
  refine s_ef (ef_fn (and_nil _) rfl rfl (by repeat (first | exact Split.nil | (apply Split.cons; (repeat (first | with_reducible exact Take.here | apply Take.there)))))) ?_
  rintro v1 L1 ⟨rfl, rfl⟩
  refine swl_app ?_
  refine swl_sub _ (.cons (t := 0) rfl (.cons (t := 5) rfl (.cons (t := 6) rfl (.cons (t := 7) rfl (.cons (t := 8) rfl .nil))))) ?_
  refine swl_nil ?_
  refine then_n ?_
  refine swp_seq ?_
  refine swp_region ?_
  refine s_pu (pu_move rfl) ?_
  refine s_pu (pu_move rfl) ?_
  refine s_ef (ef_fn (less_nil _) rfl rfl (by repeat (first | exact Split.nil | (apply Split.cons; (repeat (first | with_reducible exact Take.here | apply Take.there)))))) ?_
  rintro v1 L1 ⟨rfl, rfl⟩
  refine swl_app ?_
  refine swl_sub _ (.cons (t := 0) rfl (.cons (t := 5) rfl (.cons (t := 6) rfl (.cons (t := 7) rfl (.cons (t := 8) rfl .nil))))) ?_
  refine swl_nil ?_
  refine then_n ?_
  refine swp_seq ?_
  refine swp_seq ?_
  refine swp_region ?_
  refine s_pu (pu_move rfl) ?_
  refine s_pu (pu_move rfl) ?_
  refine s_ef (ef_fn (put_out b14 0 (fun _ => false) n (by omega)) rfl rfl (by repeat (first | exact Split.nil | (apply Split.cons; (repeat (first | with_reducible exact Take.here | apply Take.there)))))) ?_
  rintro v1 L1 ⟨rfl, rfl⟩
  refine swl_app ?_
  refine s_pu (pu_move rfl) ?_
  refine s_on rfl rfl ?_
  refine s_pu (pu_move rfl) ?_
  refine s_on rfl rfl ?_
  refine s_ef (ef_fn (size_m b14 0 (fun _ => false)) rfl rfl (by repeat (first | exact Split.nil | (apply Split.cons; (repeat (first | with_reducible exact Take.here | apply Take.there)))))) ?_
  rintro v1 L1 ⟨rfl, rfl⟩
  refine swl_app ?_
  refine s_on rfl rfl ?_
  refine s_pu (pu_neq rfl rfl) ?_
  first | refine s_pu (pu_pick_t rfl rfl) ?_ | refine s_pu (pu_pick_f rfl rfl) ?_
  refine s_pu (pu_move rfl) ?_
  refine s_on rfl rfl ?_
  refine s_pu (pu_move rfl) ?_
  refine s_on rfl rfl ?_
  refine s_pu (pu_move rfl) ?_
  refine s_on rfl rfl ?_
  refine s_ef (ef_fn (next_m μ b14 0 (fun _ => false) n hT) rfl rfl (by repeat (first | exact Split.nil | (apply Split.cons; (repeat (first | with_reducible exact Take.here | apply Take.there)))))) ?_
  rintro v1 L1 ⟨x, rfl, hx, rfl⟩
  refine swl_app ?_
  obtain rfl : x = -1 := isNext_uniq hx (.inl ⟨rfl, fun _ _ => rfl⟩)
  refine s_on rfl rfl ?_
  refine s_pu (pu_neq rfl rfl) ?_
  first | refine s_pu (pu_pick_t rfl rfl) ?_ | refine s_pu (pu_pick_f rfl rfl) ?_
  refine s_pu (pu_move rfl) ?_
  refine s_on rfl rfl ?_
  refine s_pu (pu_move rfl) ?_
  refine s_on rfl rfl ?_
  refine s_pu (pu_move rfl) ?_
  refine s_on rfl rfl ?_
  refine s_ef (ef_fn (same_mn b14 0 (fun _ => false)) rfl rfl (by repeat (first | exact Split.nil | (apply Split.cons; (repeat (first | with_reducible exact Take.here | apply Take.there)))))) ?_
  rintro v1 L1 ⟨b, rfl, hb, rfl⟩
  refine swl_app ?_
  obtain rfl : b = true := hb.2 (fun _ => rfl)
  refine s_on rfl rfl ?_
  refine s_pu (pu_not rfl) ?_
  first | refine s_pu (pu_pick_t rfl rfl) ?_ | refine s_pu (pu_pick_f rfl rfl) ?_
  refine s_pu (pu_move rfl) ?_
  refine s_on rfl rfl ?_
  refine s_pu (pu_move rfl) ?_
  refine s_on rfl rfl ?_
  refine s_pu (pu_move rfl) ?_
  refine s_on rfl rfl ?_
  refine s_ef (ef_fn (same_mn p 500 (inL l 500)) rfl rfl (by repeat (first | exact Split.nil | (apply Split.cons; (repeat (first | with_reducible exact Take.here | apply Take.there)))))) ?_
  rintro v1 L1 ⟨b, rfl, hb, rfl⟩
  refine swl_app ?_
  have hbe : b = decide (((elsTo 500 (inL l 500)).length : Int) = 0) := bool_iff hb (by rw [decide_eq_true_eq, ← hz0]; omega)
  refine s_on rfl rfl ?_
  refine s_pu (pu_move rfl) ?_
  refine s_on rfl rfl ?_
  refine s_pu (pu_eql rfl rfl) ?_
  refine s_on rfl rfl ?_
  refine s_pu (pu_bool_ne rfl rfl) ?_
  first | refine s_pu (pu_pick_t rfl rfl) ?_ | refine s_pu (pu_pick_f rfl rfl) ?_
  refine s_pu (pu_move rfl) ?_
  refine s_split 112 rfl (fun h112 => by rw [hbe, beq_self_eq_true] at h112; cases h112) (fun h112 => ?_)
  refine s_on rfl rfl ?_
  refine s_ef (ef_fn (same_nn (mset b14 0 (fun _ => false))) rfl rfl (by repeat (first | exact Split.nil | (apply Split.cons; (repeat (first | with_reducible exact Take.here | apply Take.there)))))) ?_
  rintro v1 L1 ⟨b, rfl, hb, rfl⟩
  refine swl_app ?_
  obtain rfl : b = true := hb.2 trivial
  refine s_on rfl rfl ?_
  refine s_pu (pu_not rfl) ?_
  first | refine s_pu (pu_pick_t rfl rfl) ?_ | refine s_pu (pu_pick_f rfl rfl) ?_
  refine swl_sub _ (.cons (t := 5) rfl (.cons (t := 6) rfl (.cons (t := 115) rfl .nil))) ?_
  refine swl_nil ?_
  refine then_n ?_
  refine swp_cond (b := _) rfl (fun h115 => absurd h115 (by decide)) (fun h115 => ?_)
  refine swp_skip ?_
  refine then_n ?_
  refine swp_seq ?_
  refine swp_region ?_
  refine s_pu (pu_move rfl) ?_
  refine s_pu (pu_move rfl) ?_
  refine s_ef (ef_fn (and_none' p 500 (inL l 500)) rfl rfl (by repeat (first | exact Split.nil | (apply Split.cons; (repeat (first | with_reducible exact Take.here | apply Take.there)))))) ?_
  rintro v1 L1 ⟨rfl, rfl⟩
  refine swl_app ?_
  refine swl_sub _ (.cons (t := 6) rfl .nil) ?_
  refine swl_nil ?_
  refine then_n ?_
  refine swp_seq ?_
  refine swp_region ?_
  refine s_pu (pu_move rfl) ?_
  refine s_ef (ef_fn (count_m p 500 (fun _ => false)) rfl rfl (by repeat (first | exact Split.nil | (apply Split.cons; (repeat (first | with_reducible exact Take.here | apply Take.there)))))) ?_
  rintro v1 L1 ⟨rfl, rfl⟩
  refine swl_app ?_
  refine s_pu (pu_eql rfl rfl) ?_
  refine s_pu (pu_assign rfl) ?_
  refine swl_sub _ (.cons (t := 4) rfl .nil) ?_
  refine swl_nil ?_
  refine then_n ?_
  refine swp_ret ?_
  exact done_ret [ro μ] (.tmp rfl .nil) ⟨by rw [elsTo_false]; rfl, μ, [], Le.refl _, rfl⟩ (by repeat (first | exact Split.nil | (apply Split.cons; (repeat (first | with_reducible exact Take.here | apply Take.there)))))
end SX
namespace SX
open Go Go.Proofs

/-- the bools of a set of n -/
def rbs (n : Nat) (S : Nat → Bool) : List Value := (List.range n).map fun k => .bool (S k)
theorem rbs_len (n : Nat) (S : Nat → Bool) : (rbs n S).length = n := by simp [rbs]
theorem rbs_get {n k : Nat} (S : Nat → Bool) (h : k < n) : (rbs n S)[k]? = some (.bool (S k)) := by simp [rbs, h]
/-- the document's set, laid open -/
abbrev rop (p b n : Nat) (S : Nat → Bool) : List Assn := [blk p 39 [.slice (some ⟨b, 0, none⟩) n n], blk b 4 (rbs n S)]
theorem rnew (k : Int) : Spec Tryd.prog 23 [.int .i64 k] [] (fun r L => ∃ p b, r = .pointer (some ⟨p, 0, none⟩) ∧ L = rop p b (clampM k) (fun _ => false)) := by
  have hc : min (max k 0) 1048576 = ((clampM k : Nat) : Int) := by unfold clampM; omega
  have hle : clampM k ≤ 1048576 := by unfold clampM; omega
  generalize clampM k = n at hc hle
  have hr : rbs n (fun _ => false) = List.replicate n (.bool false) := by
    apply List.ext_getElem?
    intro j
    simp [rbs, List.getElem?_replicate]
    split <;> simp_all
  refine Spec.of 11 Tryd.func23 rfl rfl rfl ?_
  refine swp_seq ?_
  refine swp_region ?_
  refine s_pu (pu_assign rfl) ?_
  refine swl_sub _ (.cons (t := 0) rfl .nil) ?_
  refine swl_nil ?_
  refine then_n ?_
  refine swp_seq ?_
  refine swp_seq ?_
  refine swp_region ?_
  refine s_pu (pu_move rfl) ?_
  refine s_pu (pu_lss rfl rfl) ?_
  refine swl_sub _ (.cons (t := 0) rfl (.cons (t := 4) rfl .nil)) ?_
  refine swl_nil ?_
  refine then_n ?_
  refine swp_cond (b := _) rfl (fun h4 => ?_) (fun h4 => ?_)
  · skip   -- 4 T
    refine swp_region ?_
    refine s_pu (pu_assign rfl) ?_
    refine swl_sub _ (.cons (t := 0) rfl .nil) ?_
    refine swl_nil ?_
    refine then_n ?_
    refine swp_seq ?_
    refine swp_seq ?_
    refine swp_region ?_
    refine s_pu (pu_move rfl) ?_
    refine s_pu (pu_gtr rfl rfl) ?_
    refine swl_sub _ (.cons (t := 0) rfl (.cons (t := 6) rfl .nil)) ?_
    refine swl_nil ?_
    refine then_n ?_
    refine swp_cond (b := _) rfl (fun h6 => ?_) (fun h6 => ?_)
    · skip   -- 6 T
      refine swp_region ?_
      refine s_pu (pu_assign rfl) ?_
      refine swl_sub _ (.cons (t := 0) rfl .nil) ?_
      refine swl_nil ?_
      refine then_n ?_
      refine swp_seq ?_
      refine swp_region ?_
      refine s_pu (pu_move rfl) ?_
      refine s_ef (ef_make1 n rfl rfl (by have a4 := h4; have a6 := h6; simp only [decide_eq_true_eq, decide_eq_false_iff_not] at a4 a6; omega) (by omega) (by simp only [maxLen]; omega)) ?_
      rintro b
      skip
      refine s_pu (pu_bld (qs := [(0, _)]) rfl) ?_
      refine s_ef (ef_box rfl rfl) ?_
      intro b10
      refine s_pu (pu_assign rfl) ?_
      refine swl_sub _ (.cons (t := 2) rfl .nil) ?_
      refine swl_nil ?_
      refine then_n ?_
      refine swp_ret ?_
      rw [← hr]
      exact done_ret (rop b10 b n (fun _ => false)) (.tmp rfl .nil) ⟨b10, b, rfl, rfl⟩ (by repeat (first | exact Split.nil | (apply Split.cons; (repeat (first | with_reducible exact Take.here | apply Take.there)))))
    · skip   -- 6 F
      refine swp_skip ?_
      refine then_n ?_
      refine swp_seq ?_
      refine swp_region ?_
      refine s_pu (pu_move rfl) ?_
      refine s_ef (ef_make1 n rfl rfl (by have a4 := h4; have a6 := h6; simp only [decide_eq_true_eq, decide_eq_false_iff_not] at a4 a6; omega) (by omega) (by simp only [maxLen]; omega)) ?_
      rintro b
      skip
      refine s_pu (pu_bld (qs := [(0, _)]) rfl) ?_
      refine s_ef (ef_box rfl rfl) ?_
      intro b10
      refine s_pu (pu_assign rfl) ?_
      refine swl_sub _ (.cons (t := 2) rfl .nil) ?_
      refine swl_nil ?_
      refine then_n ?_
      refine swp_ret ?_
      rw [← hr]
      exact done_ret (rop b10 b n (fun _ => false)) (.tmp rfl .nil) ⟨b10, b, rfl, rfl⟩ (by repeat (first | exact Split.nil | (apply Split.cons; (repeat (first | with_reducible exact Take.here | apply Take.there)))))
  · skip   -- 4 F
    refine swp_skip ?_
    refine then_n ?_
    refine swp_seq ?_
    refine swp_seq ?_
    refine swp_region ?_
    refine s_pu (pu_move rfl) ?_
    refine s_pu (pu_gtr rfl rfl) ?_
    refine swl_sub _ (.cons (t := 0) rfl (.cons (t := 6) rfl .nil)) ?_
    refine swl_nil ?_
    refine then_n ?_
    refine swp_cond (b := _) rfl (fun h6 => ?_) (fun h6 => ?_)
    · skip   -- 6 T
      refine swp_region ?_
      refine s_pu (pu_assign rfl) ?_
      refine swl_sub _ (.cons (t := 0) rfl .nil) ?_
      refine swl_nil ?_
      refine then_n ?_
      refine swp_seq ?_
      refine swp_region ?_
      refine s_pu (pu_move rfl) ?_
      refine s_ef (ef_make1 n rfl rfl (by have a4 := h4; have a6 := h6; simp only [decide_eq_true_eq, decide_eq_false_iff_not] at a4 a6; omega) (by omega) (by simp only [maxLen]; omega)) ?_
      rintro b
      skip
      refine s_pu (pu_bld (qs := [(0, _)]) rfl) ?_
      refine s_ef (ef_box rfl rfl) ?_
      intro b10
      refine s_pu (pu_assign rfl) ?_
      refine swl_sub _ (.cons (t := 2) rfl .nil) ?_
      refine swl_nil ?_
      refine then_n ?_
      refine swp_ret ?_
      rw [← hr]
      exact done_ret (rop b10 b n (fun _ => false)) (.tmp rfl .nil) ⟨b10, b, rfl, rfl⟩ (by repeat (first | exact Split.nil | (apply Split.cons; (repeat (first | with_reducible exact Take.here | apply Take.there)))))
    · skip   -- 6 F
      refine swp_skip ?_
      refine then_n ?_
      refine swp_seq ?_
      refine swp_region ?_
      refine s_pu (pu_move rfl) ?_
      refine s_ef (ef_make1 n rfl rfl (by have a4 := h4; have a6 := h6; simp only [decide_eq_true_eq, decide_eq_false_iff_not] at a4 a6; omega) (by omega) (by simp only [maxLen]; omega)) ?_
      rintro b
      skip
      refine s_pu (pu_bld (qs := [(0, _)]) rfl) ?_
      refine s_ef (ef_box rfl rfl) ?_
      intro b10
      refine s_pu (pu_assign rfl) ?_
      refine swl_sub _ (.cons (t := 2) rfl .nil) ?_
      refine swl_nil ?_
      refine then_n ?_
      refine swp_ret ?_
      rw [← hr]
      exact done_ret (rop b10 b n (fun _ => false)) (.tmp rfl .nil) ⟨b10, b, rfl, rfl⟩ (by repeat (first | exact Split.nil | (apply Split.cons; (repeat (first | with_reducible exact Take.here | apply Take.there)))))

/-- how many of a set -/
theorem cnt_eq {n : Nat} {S : Nat → Bool} (hz : ∀ k, n ≤ k → S k = false) {B : Nat} (hB : n ≤ B) : (elsTo n S).length = (List.range B).countP S := by
  have h0 : (elsTo n S).length = (List.range n).countP S := by unfold elsTo numsI; rw [List.length_map, List.countP_eq_length_filter]
  rw [h0]
  obtain ⟨d, rfl⟩ : ∃ d, B = n + d := ⟨B - n, by omega⟩
  rw [List.range_add, List.countP_append]
  have : ((List.range d).map (n + ·)).countP S = 0 := by
    rw [List.countP_eq_zero]
    intro x hx
    obtain ⟨y, _, rfl⟩ := List.mem_map.1 hx
    rw [hz _ (by omega)]; decide
  omega
theorem countP_split (S T : Nat → Bool) : ∀ l : List Nat, l.countP S = l.countP (fun k => S k && T k) + l.countP (fun k => S k && !T k)
  | [] => rfl
  | a :: l => by
    simp only [List.countP_cons, countP_split S T l]
    cases S a <;> cases T a <;> simp <;> omega
theorem countP_union (S T : Nat → Bool) : ∀ l : List Nat, l.countP (fun k => S k || T k) + l.countP (fun k => S k && T k) = l.countP S + l.countP T
  | [] => rfl
  | a :: l => by
    have h := countP_union S T l
    simp only [List.countP_cons]
    cases S a <;> cases T a <;> simp <;> omega
theorem countP_same {S T : Nat → Bool} {l : List Nat} (hs : ∀ k, S k = true → T k = true) (h : l.countP S = l.countP T) : ∀ k ∈ l, S k = T k := by
  have h1 := countP_split T S l
  have h2 : (fun k => T k && S k) = S := funext fun k => by
    cases e : S k with
    | false => simp
    | true => simp [hs k e]
  rw [h2] at h1
  have h3 : l.countP (fun k => T k && !S k) = 0 := by omega
  rw [List.countP_eq_zero] at h3
  intro k hk
  have h4 := h3 k hk
  cases e : S k with
  | true => exact (hs k e).symm
  | false => rw [e] at h4; simpa using h4
theorem cnt_same {n m : Nat} {S T : Nat → Bool} (hs : ∀ k, S k = true → T k = true) (hz : ∀ k, n ≤ k → S k = false) (hy : ∀ k, m ≤ k → T k = false) : (∀ k, S k = T k) ↔ (elsTo n S).length = (elsTo m T).length := by
  rw [cnt_eq hz (Nat.le_max_left n m), cnt_eq hy (Nat.le_max_right n m)]
  constructor
  · intro h; rw [show S = T from funext h]
  · intro h k
    by_cases hk : k < max n m
    · exact countP_same hs h k (List.mem_range.2 hk)
    · rw [hz k (by omega), hy k (by omega)]
theorem cnt_less {n m : Nat} {S T : Nat → Bool} (hs : ∀ k, S k = true → T k = true) (hz : ∀ k, n ≤ k → S k = false) (hy : ∀ k, m ≤ k → T k = false) : (elsTo m (fun k => T k && !S k)).length + (elsTo n S).length = (elsTo m T).length := by
  have h1 := countP_split T S (List.range (max n m))
  have h2 : (fun k => T k && S k) = S := funext fun k => by
    cases e : S k with
    | false => simp
    | true => simp [hs k e]
  rw [h2] at h1
  rw [cnt_eq hz (Nat.le_max_left n m), cnt_eq hy (Nat.le_max_right n m), cnt_eq (n := m) (fun k hk => by rw [hy k hk]; rfl) (Nat.le_max_right n m)]
  omega
end SX
namespace SX
open Go Go.Proofs

theorem rbs_ext {n : Nat} {S T : Nat → Bool} (h : ∀ j, j < n → S j = T j) : rbs n S = rbs n T := by
  unfold rbs
  apply List.map_congr_left
  intro k hk
  rw [h k (List.mem_range.1 hk)]
theorem rbs_set {n i : Nat} {S T : Nat → Bool} {c : Bool} (h : ∀ j, j < n → T j = if j = i then c else S j) : (rbs n S).set i (.bool c) = rbs n T := by
  apply List.ext_getElem?
  intro j
  rw [List.getElem?_set, rbs_len]
  rcases Nat.lt_or_ge j n with hj | hj
  · rw [rbs_get T hj, rbs_get S hj, h j hj]
    by_cases e : i = j
    · subst e; simp [hj]
    · simp [e, Ne.symm e]
  · rw [List.getElem?_eq_none (l := rbs n S) (by rw [rbs_len]; exact hj), List.getElem?_eq_none (l := rbs n T) (by rw [rbs_len]; exact hj)]
    split
    · rw [if_neg (by omega)]
    · rfl

theorem rop_ext {p b n : Nat} {S T : Nat → Bool} (h : ∀ j, j < n → S j = T j) : rop p b n S = rop p b n T := by
  show [_, blk b 4 (rbs n S)] = [_, blk b 4 (rbs n T)]
  rw [rbs_ext h]
theorem rhas (p b n : Nat) (S : Nat → Bool) (k : Int) (hn : n ≤ 1048576) : Spec Tryd.prog 50 [.pointer (some ⟨p, 0, none⟩), .int .i64 k] (rop p b n S) (fun r L => r = .bool (decide (0 ≤ k) && (decide (k < n) && S k.toNat)) ∧ L = rop p b n S) := by
  refine Spec.of 25 Tryd.func50 rfl rfl rfl ?_
  refine swp_seq ?_
  refine swp_region ?_
  refine s_pu (pu_assign rfl) ?_
  refine swl_sub _ (.cons (t := 0) rfl (.cons (t := 1) rfl .nil)) ?_
  refine swl_nil ?_
  refine then_n ?_
  refine swp_seq ?_
  refine swp_region ?_
  refine s_pu (pu_move rfl) ?_
  refine s_pu (pu_geq rfl rfl) ?_
  refine s_pu (pu_move rfl) ?_
  refine s_split 7 rfl (fun h7 => ?_) (fun h7 => ?_)
  · skip   -- 7 T
    refine s_on rfl rfl ?_
    refine s_pu (pu_move rfl) ?_
    refine s_on rfl rfl ?_
    refine s_pu (pu_move rfl) ?_
    refine s_on rfl rfl ?_
    first | refine s_pu (pu_nilCheck rfl) ?_ | refine s_pu (pu_nilCheck_fn rfl) ?_ | refine s_pu (pu_nilCheck_if rfl) ?_
    refine s_on rfl rfl ?_
    first | refine s_pu (pu_fieldAddr0 rfl) ?_ | refine s_pu (pu_fieldAddr rfl) ?_
    refine s_on rfl rfl ?_
    refine s_rd (rd_load rfl rfl) ?_
    refine s_on rfl rfl ?_
    refine s_pu (pu_len rfl) ?_
    refine s_on rfl rfl ?_
    refine s_pu (pu_lss rfl rfl) ?_
    first | refine s_pu (pu_pick_t rfl rfl) ?_ | refine s_pu (pu_pick_f rfl rfl) ?_
    refine s_pu (pu_move rfl) ?_
    refine s_split 16 rfl (fun h16 => ?_) (fun h16 => ?_)
    · skip   -- 16 T
      have h7' := of_decide_eq_true h7
      have h16' := of_decide_eq_true h16
      obtain ⟨i, rfl⟩ : ∃ i : Nat, k = i := ⟨k.toNat, by omega⟩
      refine s_on rfl rfl ?_
      refine s_pu (pu_move rfl) ?_
      refine s_on rfl rfl ?_
      first | refine s_pu (pu_nilCheck rfl) ?_ | refine s_pu (pu_nilCheck_fn rfl) ?_ | refine s_pu (pu_nilCheck_if rfl) ?_
      refine s_on rfl rfl ?_
      first | refine s_pu (pu_fieldAddr0 rfl) ?_ | refine s_pu (pu_fieldAddr rfl) ?_
      refine s_on rfl rfl ?_
      refine s_rd (rd_load rfl rfl) ?_
      refine s_on rfl rfl ?_
      refine s_pu (pu_move rfl) ?_
      refine s_on rfl rfl ?_
      refine s_pu (pu_indexAddr i rfl rfl (by omega) (by omega) (by omega)) ?_
      refine s_on rfl rfl ?_
      refine s_rd (rd_load rfl (rbs_get S (by omega))) ?_
      first | refine s_pu (pu_pick_t rfl rfl) ?_ | refine s_pu (pu_pick_f rfl rfl) ?_
      refine s_pu (pu_assign rfl) ?_
      refine swl_sub _ (.cons (t := 4) rfl .nil) ?_
      refine swl_nil ?_
      refine then_n ?_
      refine swp_ret ?_
      exact done_ret (rop p b n S) (.tmp rfl .nil) ⟨by first | (simp_all [resV]; done) | (simp_all [resV]; intros; omega), rfl⟩ (by repeat (first | exact Split.nil | (apply Split.cons; (repeat (first | with_reducible exact Take.here | apply Take.there)))))
    · skip   -- 16 F
      refine s_off rfl rfl rfl ?_
      refine s_off rfl rfl rfl ?_
      refine s_off rfl rfl rfl ?_
      refine s_off rfl rfl rfl ?_
      refine s_off rfl rfl rfl ?_
      refine s_off rfl rfl rfl ?_
      refine s_off rfl rfl rfl ?_
      first | refine s_pu (pu_pick_t rfl rfl) ?_ | refine s_pu (pu_pick_f rfl rfl) ?_
      refine s_pu (pu_assign rfl) ?_
      refine swl_sub _ (.cons (t := 4) rfl .nil) ?_
      refine swl_nil ?_
      refine then_n ?_
      refine swp_ret ?_
      exact done_ret (rop p b n S) (.tmp rfl .nil) ⟨by first | (simp_all [resV]; done) | (simp_all [resV]; intros; omega), rfl⟩ (by repeat (first | exact Split.nil | (apply Split.cons; (repeat (first | with_reducible exact Take.here | apply Take.there)))))
  · skip   -- 7 F
    refine s_off rfl rfl rfl ?_
    refine s_off rfl rfl rfl ?_
    refine s_off rfl rfl rfl ?_
    refine s_off rfl rfl rfl ?_
    refine s_off rfl rfl rfl ?_
    refine s_off rfl rfl rfl ?_
    refine s_off rfl rfl rfl ?_
    first | refine s_pu (pu_pick_t rfl rfl) ?_ | refine s_pu (pu_pick_f rfl rfl) ?_
    refine s_pu (pu_move rfl) ?_
    refine s_off rfl rfl rfl ?_
    refine s_off rfl rfl rfl ?_
    refine s_off rfl rfl rfl ?_
    refine s_off rfl rfl rfl ?_
    refine s_off rfl rfl rfl ?_
    refine s_off rfl rfl rfl ?_
    refine s_off rfl rfl rfl ?_
    first | refine s_pu (pu_pick_t rfl rfl) ?_ | refine s_pu (pu_pick_f rfl rfl) ?_
    refine s_pu (pu_assign rfl) ?_
    refine swl_sub _ (.cons (t := 4) rfl .nil) ?_
    refine swl_nil ?_
    refine then_n ?_
    refine swp_ret ?_
    exact done_ret (rop p b n S) (.tmp rfl .nil) ⟨by first | (simp_all [resV]; done) | (simp_all [resV]; intros; omega), rfl⟩ (by repeat (first | exact Split.nil | (apply Split.cons; (repeat (first | with_reducible exact Take.here | apply Take.there)))))
theorem rput (p b n : Nat) (S : Nat → Bool) (k : Int) (hn : n ≤ 1048576) : Spec Tryd.prog 48 [.pointer (some ⟨p, 0, none⟩), .int .i64 k] (rop p b n S) (fun r L => r = .bool (decide (0 ≤ k) && (decide (k < n) && !S k.toNat)) ∧ L = rop p b n (fun j => S j || (decide (0 ≤ k ∧ k < n) && decide (j = k.toNat)))) := by
  refine Spec.of 31 Tryd.func48 rfl rfl rfl ?_
  refine swp_seq ?_
  refine swp_region ?_
  refine s_pu (pu_assign rfl) ?_
  refine swl_sub _ (.cons (t := 0) rfl (.cons (t := 1) rfl .nil)) ?_
  refine swl_nil ?_
  refine then_n ?_
  refine swp_seq ?_
  refine swp_seq ?_
  refine swp_region ?_
  refine s_pu (pu_move rfl) ?_
  refine s_pu (pu_lss rfl rfl) ?_
  refine s_pu (pu_move rfl) ?_
  refine s_split 7 rfl (fun h7 => ?_) (fun h7 => ?_)
  · skip   -- 7 T
    refine s_off rfl rfl rfl ?_
    refine s_off rfl rfl rfl ?_
    refine s_off rfl rfl rfl ?_
    refine s_off rfl rfl rfl ?_
    refine s_off rfl rfl rfl ?_
    refine s_off rfl rfl rfl ?_
    refine s_off rfl rfl rfl ?_
    first | refine s_pu (pu_pick_t rfl rfl) ?_ | refine s_pu (pu_pick_f rfl rfl) ?_
    refine s_pu (pu_move rfl) ?_
    refine s_off rfl rfl rfl ?_
    refine s_off rfl rfl rfl ?_
    refine s_off rfl rfl rfl ?_
    refine s_off rfl rfl rfl ?_
    refine s_off rfl rfl rfl ?_
    refine s_off rfl rfl rfl ?_
    refine s_off rfl rfl rfl ?_
    first | refine s_pu (pu_pick_t rfl rfl) ?_ | refine s_pu (pu_pick_f rfl rfl) ?_
    refine swl_sub _ (.cons (t := 0) rfl (.cons (t := 1) rfl (.cons (t := 24) rfl .nil))) ?_
    refine swl_nil ?_
    refine then_n ?_
    refine swp_cond (b := _) rfl (fun h24 => ?_) (fun h24 => by cases h24)
    refine swp_seq ?_
    refine swp_region ?_
    refine s_pu (pu_assign rfl) ?_
    refine swl_sub _ (.cons (t := 4) rfl .nil) ?_
    refine swl_nil ?_
    refine then_n ?_
    refine swp_ret ?_
    refine then_r ?_
    have h7' := of_decide_eq_true h7
    have e : rop p b n S = rop p b n (fun j => S j || (decide (0 ≤ k ∧ k < n) && decide (j = k.toNat))) := rop_ext fun j hj => by simp; omega
    rw [e]
    exact done_ret (rop p b n _) (.tmp rfl .nil) ⟨by rw [decide_eq_false (show ¬ 0 ≤ k by omega)]; rfl, rfl⟩ (by repeat (first | exact Split.nil | (apply Split.cons; (repeat (first | with_reducible exact Take.here | apply Take.there)))))
  · skip   -- 7 F
    refine s_on rfl rfl ?_
    refine s_pu (pu_move rfl) ?_
    refine s_on rfl rfl ?_
    refine s_pu (pu_move rfl) ?_
    refine s_on rfl rfl ?_
    first | refine s_pu (pu_nilCheck rfl) ?_ | refine s_pu (pu_nilCheck_fn rfl) ?_ | refine s_pu (pu_nilCheck_if rfl) ?_
    refine s_on rfl rfl ?_
    first | refine s_pu (pu_fieldAddr0 rfl) ?_ | refine s_pu (pu_fieldAddr rfl) ?_
    refine s_on rfl rfl ?_
    refine s_rd (rd_load rfl rfl) ?_
    refine s_on rfl rfl ?_
    refine s_pu (pu_len rfl) ?_
    refine s_on rfl rfl ?_
    refine s_pu (pu_geq rfl rfl) ?_
    first | refine s_pu (pu_pick_t rfl rfl) ?_ | refine s_pu (pu_pick_f rfl rfl) ?_
    refine s_pu (pu_move rfl) ?_
    refine s_split 16 rfl (fun h16 => ?_) (fun h16 => ?_)
    · skip   -- 16 T
      refine s_off rfl rfl rfl ?_
      refine s_off rfl rfl rfl ?_
      refine s_off rfl rfl rfl ?_
      refine s_off rfl rfl rfl ?_
      refine s_off rfl rfl rfl ?_
      refine s_off rfl rfl rfl ?_
      refine s_off rfl rfl rfl ?_
      first | refine s_pu (pu_pick_t rfl rfl) ?_ | refine s_pu (pu_pick_f rfl rfl) ?_
      refine swl_sub _ (.cons (t := 0) rfl (.cons (t := 1) rfl (.cons (t := 24) rfl .nil))) ?_
      refine swl_nil ?_
      refine then_n ?_
      refine swp_cond (b := _) rfl (fun h24 => ?_) (fun h24 => by cases h24)
      refine swp_seq ?_
      refine swp_region ?_
      refine s_pu (pu_assign rfl) ?_
      refine swl_sub _ (.cons (t := 4) rfl .nil) ?_
      refine swl_nil ?_
      refine then_n ?_
      refine swp_ret ?_
      refine then_r ?_
      have h16' := of_decide_eq_true h16
      have e : rop p b n S = rop p b n (fun j => S j || (decide (0 ≤ k ∧ k < n) && decide (j = k.toNat))) := rop_ext fun j hj => by simp; omega
      rw [e]
      exact done_ret (rop p b n _) (.tmp rfl .nil) ⟨by rw [decide_eq_false (show ¬ k < n by omega), Bool.false_and, Bool.and_false]; rfl, rfl⟩ (by repeat (first | exact Split.nil | (apply Split.cons; (repeat (first | with_reducible exact Take.here | apply Take.there)))))
    · skip   -- 16 F
      have h7' := of_decide_eq_false h7
      have h16' := of_decide_eq_false h16
      obtain ⟨i, rfl⟩ : ∃ i : Nat, k = i := ⟨k.toNat, by omega⟩
      refine s_on rfl rfl ?_
      refine s_pu (pu_move rfl) ?_
      refine s_on rfl rfl ?_
      first | refine s_pu (pu_nilCheck rfl) ?_ | refine s_pu (pu_nilCheck_fn rfl) ?_ | refine s_pu (pu_nilCheck_if rfl) ?_
      refine s_on rfl rfl ?_
      first | refine s_pu (pu_fieldAddr0 rfl) ?_ | refine s_pu (pu_fieldAddr rfl) ?_
      refine s_on rfl rfl ?_
      refine s_rd (rd_load rfl rfl) ?_
      refine s_on rfl rfl ?_
      refine s_pu (pu_move rfl) ?_
      refine s_on rfl rfl ?_
      refine s_pu (pu_indexAddr i rfl rfl (by omega) (by omega) (by omega)) ?_
      refine s_on rfl rfl ?_
      refine s_rd (rd_load rfl (rbs_get S (by omega))) ?_
      first | refine s_pu (pu_pick_t rfl rfl) ?_ | refine s_pu (pu_pick_f rfl rfl) ?_
      refine swl_sub _ (.cons (t := 0) rfl (.cons (t := 1) rfl (.cons (t := 24) rfl .nil))) ?_
      refine swl_nil ?_
      refine then_n ?_
      refine swp_cond (b := _) rfl (fun h24 => ?_) (fun h24 => ?_)
      · skip   -- 24 T
        refine swp_seq ?_
        refine swp_region ?_
        refine s_pu (pu_assign rfl) ?_
        refine swl_sub _ (.cons (t := 4) rfl .nil) ?_
        refine swl_nil ?_
        refine then_n ?_
        refine swp_ret ?_
        refine then_r ?_
        have e : rop p b n S = rop p b n (fun j => S j || (decide (0 ≤ (i : Int) ∧ (i : Int) < n) && decide (j = (i : Int).toNat))) := rop_ext fun j hj => by
          by_cases e : j = i
          · subst e; simp [h24]
          · simp [e]
        rw [e]
        exact done_ret (rop p b n _) (.tmp rfl .nil) ⟨by simp [resV, h24], rfl⟩ (by repeat (first | exact Split.nil | (apply Split.cons; (repeat (first | with_reducible exact Take.here | apply Take.there)))))
      · skip   -- 24 F
        refine swp_skip ?_
        refine then_n ?_
        refine swp_seq ?_
        refine swp_region ?_
        refine s_pu (pu_move rfl) ?_
        first | refine s_pu (pu_nilCheck rfl) ?_ | refine s_pu (pu_nilCheck_fn rfl) ?_ | refine s_pu (pu_nilCheck_if rfl) ?_
        first | refine s_pu (pu_fieldAddr0 rfl) ?_ | refine s_pu (pu_fieldAddr rfl) ?_
        refine s_rd (rd_load rfl rfl) ?_
        refine s_pu (pu_move rfl) ?_
        refine s_pu (pu_indexAddr i rfl rfl (by omega) (by omega) (by omega)) ?_
        refine s_ef0 (ef_storeP rfl rfl rfl (by rw [rbs_len]; omega)) ?_
        refine swl_sub _ .nil ?_
        rw [rbs_set (T := fun j => S j || (decide (0 ≤ (i : Int) ∧ (i : Int) < n) && decide (j = (i : Int).toNat))) (fun j hj => by
          by_cases e : j = i
          · subst e; simp; omega
          · simp [e])]
        refine swl_nil ?_
        refine then_n ?_
        refine swp_seq ?_
        refine swp_region ?_
        refine s_pu (pu_assign rfl) ?_
        refine swl_sub _ (.cons (t := 4) rfl .nil) ?_
        refine swl_nil ?_
        refine then_n ?_
        refine swp_ret ?_
        exact done_ret (rop p b n _) (.tmp rfl .nil) ⟨by rw [decide_eq_true (show (0 : Int) ≤ i by omega), decide_eq_true (show (i : Int) < n by omega), Int.toNat_natCast, h24]; rfl, rfl⟩ (by repeat (first | exact Split.nil | (apply Split.cons; (repeat (first | with_reducible exact Take.here | apply Take.there)))))
theorem rdrop (p b n : Nat) (S : Nat → Bool) (k : Int) (hn : n ≤ 1048576) (hz : ∀ j, n ≤ j → S j = false) : Spec Tryd.prog 49 [.pointer (some ⟨p, 0, none⟩), .int .i64 k] (rop p b n S) (fun r L => r = .bool (decide (0 ≤ k) && S k.toNat) ∧ L = rop p b n (fun j => S j && !(decide (0 ≤ k) && decide (j = k.toNat)))) := by
  have hkk : (decide (0 ≤ k) && (decide (k < n) && S k.toNat)) = (decide (0 ≤ k) && S k.toNat) := by
    by_cases h : k < n
    · simp [h]
    · rw [hz k.toNat (by omega)]; simp
  refine Spec.of 15 Tryd.func49 rfl rfl rfl ?_
  refine swp_seq ?_
  refine swp_region ?_
  refine s_pu (pu_assign rfl) ?_
  refine swl_sub _ (.cons (t := 0) rfl (.cons (t := 1) rfl .nil)) ?_
  refine swl_nil ?_
  refine then_n ?_
  refine swp_seq ?_
  refine swp_seq ?_
  refine swp_region ?_
  refine s_pu (pu_move rfl) ?_
  refine s_pu (pu_move rfl) ?_
  refine s_ef (ef_fn (rhas p b n S k hn) rfl rfl (by repeat (first | exact Split.nil | (apply Split.cons; (repeat (first | with_reducible exact Take.here | apply Take.there)))))) ?_
  rintro v1 L1 ⟨rfl, rfl⟩
  refine swl_app ?_
  refine s_pu (pu_not rfl) ?_
  refine swl_sub _ (.cons (t := 0) rfl (.cons (t := 1) rfl (.cons (t := 8) rfl .nil))) ?_
  refine swl_nil ?_
  refine then_n ?_
  refine swp_cond (b := _) rfl (fun h8 => ?_) (fun h8 => ?_)
  · skip   -- 8 T
    refine swp_seq ?_
    refine swp_region ?_
    refine s_pu (pu_assign rfl) ?_
    refine swl_sub _ (.cons (t := 4) rfl .nil) ?_
    refine swl_nil ?_
    refine then_n ?_
    refine swp_ret ?_
    refine then_r ?_
    rw [hkk] at h8
    have e : rbs n S = rbs n (fun j => S j && !(decide (0 ≤ k) && decide (j = k.toNat))) := rbs_ext fun j hj => by
      by_cases e : j = k.toNat
      · subst e
        by_cases h0 : 0 ≤ k
        · simp [h0] at h8; rw [h8]; rfl
        · simp [h0]
      · simp [e]
    rw [e]
    exact done_ret (rop p b n _) (.tmp rfl .nil) ⟨by simp only [Bool.not_eq_true'] at h8; rw [h8]; rfl, rfl⟩ (by repeat (first | exact Split.nil | (apply Split.cons; (repeat (first | with_reducible exact Take.here | apply Take.there)))))
  · skip   -- 8 F
    rw [hkk] at h8
    simp only [Bool.not_eq_false', Bool.and_eq_true, decide_eq_true_eq] at h8
    obtain ⟨i, rfl⟩ : ∃ i : Nat, k = i := ⟨k.toNat, by omega⟩
    rw [Int.toNat_natCast] at h8
    have hin : i < n := by
      rcases Nat.lt_or_ge i n with h | h
      · exact h
      · rw [hz i h] at h8; cases h8.2
    refine swp_skip ?_
    refine then_n ?_
    refine swp_seq ?_
    refine swp_region ?_
    refine s_pu (pu_move rfl) ?_
    first | refine s_pu (pu_nilCheck rfl) ?_ | refine s_pu (pu_nilCheck_fn rfl) ?_ | refine s_pu (pu_nilCheck_if rfl) ?_
    first | refine s_pu (pu_fieldAddr0 rfl) ?_ | refine s_pu (pu_fieldAddr rfl) ?_
    refine s_rd (rd_load rfl rfl) ?_
    refine s_pu (pu_move rfl) ?_
    refine s_pu (pu_indexAddr i rfl rfl (by omega) (by omega) (by omega)) ?_
    refine s_ef0 (ef_storeP rfl rfl rfl (by rw [rbs_len]; omega)) ?_
    refine swl_sub _ .nil ?_
    rw [rbs_set (T := fun j => S j && !(decide (0 ≤ (i : Int)) && decide (j = (i : Int).toNat))) (fun j hj => by
      by_cases e : j = i
      · subst e; simp
      · simp [e])]
    refine swl_nil ?_
    refine then_n ?_
    refine swp_seq ?_
    refine swp_region ?_
    refine s_pu (pu_assign rfl) ?_
    refine swl_sub _ (.cons (t := 4) rfl .nil) ?_
    refine swl_nil ?_
    refine then_n ?_
    refine swp_ret ?_
    exact done_ret (rop p b n _) (.tmp rfl .nil) ⟨by simp [resV, h8.2], rfl⟩ (by repeat (first | exact Split.nil | (apply Split.cons; (repeat (first | with_reducible exact Take.here | apply Take.there)))))
theorem rnext (p b n : Nat) (S : Nat → Bool) (k : Int) (hn : n ≤ 1048576) (hz : ∀ j, n ≤ j → S j = false) : Spec Tryd.prog 51 [.pointer (some ⟨p, 0, none⟩), .int .i64 k] (rop p b n S) (fun r L => ∃ x, r = .int .i64 x ∧ IsNext S k x ∧ L = rop p b n S) := by
  obtain ⟨K, hK⟩ : ∃ K : Int, K = k := ⟨_, rfl⟩
  obtain ⟨m0, hm0⟩ : ∃ m0 : Nat, (m0 : Int) = max K 0 := ⟨(max K 0).toNat, by omega⟩
  refine Spec.of 24 Tryd.func51 rfl rfl rfl ?_
  refine swp_seq ?_
  refine swp_region ?_
  refine s_pu (pu_assign rfl) ?_
  refine swl_sub _ (.cons (t := 0) rfl (.cons (t := 1) rfl .nil)) ?_
  refine swl_nil ?_
  refine then_n ?_
  refine swp_seq ?_
  refine swp_seq ?_
  refine swp_region ?_
  refine s_pu (pu_move rfl) ?_
  refine s_pu (pu_lss rfl rfl) ?_
  refine swl_sub _ (.cons (t := 0) rfl (.cons (t := 1) rfl (.cons (t := 6) rfl .nil))) ?_
  refine swl_nil ?_
  refine then_n ?_
  refine swp_cond (b := _) rfl (fun h6 => ?_) (fun h6 => ?_)
  · skip   -- 6 T
    have h6' := of_decide_eq_true h6
    obtain rfl : m0 = 0 := by omega
    refine swp_region ?_
    refine s_pu (pu_assign rfl) ?_
    refine swl_sub _ (.cons (t := 0) rfl (.cons (t := 1) rfl .nil)) ?_
    refine swl_nil ?_
    refine then_n ?_
    refine swp_seq ?_
    refine swp_block ?_
    refine swp_loop (ι := Nat) (fun m env L => env = [(0, .pointer (some ⟨p, 0, none⟩)), (1, .int .i64 (m : Nat))] ∧ L = rop p b n S ∧ K ≤ m ∧ ∀ j : Nat, K ≤ j → j < m → S j = false) (fun m => n - m) 0 ⟨rfl, rfl, by omega, fun j h1 h2 => by omega⟩ ?_
    rintro m env L ⟨rfl, rfl, hKm, hlo⟩
    refine swp_seq ?_
    refine swp_seq ?_
    refine swp_region ?_
    refine s_pu (pu_move rfl) ?_
    refine s_pu (pu_move rfl) ?_
    first | refine s_pu (pu_nilCheck rfl) ?_ | refine s_pu (pu_nilCheck_fn rfl) ?_ | refine s_pu (pu_nilCheck_if rfl) ?_
    first | refine s_pu (pu_fieldAddr0 rfl) ?_ | refine s_pu (pu_fieldAddr rfl) ?_
    refine s_rd (rd_load rfl rfl) ?_
    refine s_pu (pu_len rfl) ?_
    refine s_pu (pu_lss rfl rfl) ?_
    refine swl_sub _ (.cons (t := 0) rfl (.cons (t := 1) rfl (.cons (t := 13) rfl .nil))) ?_
    refine swl_nil ?_
    refine then_n ?_
    refine swp_cond (b := _) rfl (fun h13 => ?_) (fun h13 => ?_)
    · skip   -- 13 T
      have h13' : m < n := by have := of_decide_eq_true h13; omega
      refine swp_skip ?_
      refine then_n ?_
      refine swp_block ?_
      refine swp_seq ?_
      refine swp_seq ?_
      refine swp_region ?_
      refine s_pu (pu_move rfl) ?_
      first | refine s_pu (pu_nilCheck rfl) ?_ | refine s_pu (pu_nilCheck_fn rfl) ?_ | refine s_pu (pu_nilCheck_if rfl) ?_
      first | refine s_pu (pu_fieldAddr0 rfl) ?_ | refine s_pu (pu_fieldAddr rfl) ?_
      refine s_rd (rd_load rfl rfl) ?_
      refine s_pu (pu_move rfl) ?_
      refine s_pu (pu_indexAddr m rfl rfl (by omega) (by omega) (by omega)) ?_
      refine s_rd (rd_load rfl (rbs_get S (by omega))) ?_
      refine swl_sub _ (.cons (t := 0) rfl (.cons (t := 1) rfl (.cons (t := 20) rfl .nil))) ?_
      refine swl_nil ?_
      refine then_n ?_
      refine swp_cond (b := _) rfl (fun h20 => ?_) (fun h20 => ?_)
      · skip   -- 20 T
        refine swp_seq ?_
        refine swp_region ?_
        refine s_pu (pu_move rfl) ?_
        refine s_pu (pu_assign rfl) ?_
        refine swl_sub _ (.cons (t := 4) rfl .nil) ?_
        refine swl_nil ?_
        refine then_n ?_
        refine swp_ret ?_
        refine then_r ?_
        refine block_r ?_
        refine then_r ?_
        refine block_r ?_
        refine then_r ?_
        exact done_ret (rop p b n S) (.tmp rfl .nil) ⟨_, rfl, hK ▸ .inr ⟨m, rfl, hKm, h20, fun i h1 h2 => hlo i h1 h2⟩, rfl⟩ (by repeat (first | exact Split.nil | (apply Split.cons; (repeat (first | with_reducible exact Take.here | apply Take.there)))))
      · skip   -- 20 F
        refine swp_skip ?_
        refine then_n ?_
        refine swp_region ?_
        refine s_pu (pu_move rfl) ?_
        refine s_pu (pu_add_as ((m + 1 : Nat) : Int) rfl rfl (by omega) (by omega) (by omega)) ?_
        refine s_pu (pu_assign rfl) ?_
        refine swl_sub _ (.cons (t := 0) rfl (.cons (t := 1) rfl .nil)) ?_
        refine swl_nil ?_
        refine block_n ?_
        exact then_n ⟨m + 1, ⟨rfl, rfl, by omega, fun j h1 h2 => by
          rcases Nat.lt_or_ge j m with h | h
          · exact hlo j h1 h
          · obtain rfl : j = m := by omega
            exact h20⟩, by omega⟩
    · skip   -- 13 F
      have h13' : n ≤ m := by have := of_decide_eq_false h13; omega
      refine swp_exit ?_
      refine then_x ?_
      refine then_x ?_
      refine block_hit rfl ?_
      refine then_n ?_
      refine swp_seq ?_
      refine swp_region ?_
      refine s_pu (pu_assign rfl) ?_
      refine swl_sub _ (.cons (t := 4) rfl .nil) ?_
      refine swl_nil ?_
      refine then_n ?_
      refine swp_ret ?_
      exact done_ret (rop p b n S) (.tmp rfl .nil) ⟨_, rfl, hK ▸ .inl ⟨rfl, fun j h1 => by
        rcases Nat.lt_or_ge j m with h | h
        · exact hlo j h1 h
        · exact hz j (by omega)⟩, rfl⟩ (by repeat (first | exact Split.nil | (apply Split.cons; (repeat (first | with_reducible exact Take.here | apply Take.there)))))
  · skip   -- 6 F
    have h6' := of_decide_eq_false h6
    obtain rfl : k = (m0 : Int) := by omega
    refine swp_skip ?_
    refine then_n ?_
    refine swp_seq ?_
    refine swp_block ?_
    refine swp_sub _ (.cons (t := 0) rfl (.cons (t := 1) rfl .nil)) ?_
    refine swp_loop (ι := Nat) (fun m env L => env = [(0, .pointer (some ⟨p, 0, none⟩)), (1, .int .i64 (m : Nat))] ∧ L = rop p b n S ∧ K ≤ m ∧ ∀ j : Nat, K ≤ j → j < m → S j = false) (fun m => n - m) m0 ⟨rfl, rfl, by omega, fun j h1 h2 => by omega⟩ ?_
    rintro m env L ⟨rfl, rfl, hKm, hlo⟩
    refine swp_seq ?_
    refine swp_seq ?_
    refine swp_region ?_
    refine s_pu (pu_move rfl) ?_
    refine s_pu (pu_move rfl) ?_
    first | refine s_pu (pu_nilCheck rfl) ?_ | refine s_pu (pu_nilCheck_fn rfl) ?_ | refine s_pu (pu_nilCheck_if rfl) ?_
    first | refine s_pu (pu_fieldAddr0 rfl) ?_ | refine s_pu (pu_fieldAddr rfl) ?_
    refine s_rd (rd_load rfl rfl) ?_
    refine s_pu (pu_len rfl) ?_
    refine s_pu (pu_lss rfl rfl) ?_
    refine swl_sub _ (.cons (t := 0) rfl (.cons (t := 1) rfl (.cons (t := 13) rfl .nil))) ?_
    refine swl_nil ?_
    refine then_n ?_
    refine swp_cond (b := _) rfl (fun h13 => ?_) (fun h13 => ?_)
    · skip   -- 13 T
      have h13' : m < n := by have := of_decide_eq_true h13; omega
      refine swp_skip ?_
      refine then_n ?_
      refine swp_block ?_
      refine swp_seq ?_
      refine swp_seq ?_
      refine swp_region ?_
      refine s_pu (pu_move rfl) ?_
      first | refine s_pu (pu_nilCheck rfl) ?_ | refine s_pu (pu_nilCheck_fn rfl) ?_ | refine s_pu (pu_nilCheck_if rfl) ?_
      first | refine s_pu (pu_fieldAddr0 rfl) ?_ | refine s_pu (pu_fieldAddr rfl) ?_
      refine s_rd (rd_load rfl rfl) ?_
      refine s_pu (pu_move rfl) ?_
      refine s_pu (pu_indexAddr m rfl rfl (by omega) (by omega) (by omega)) ?_
      refine s_rd (rd_load rfl (rbs_get S (by omega))) ?_
      refine swl_sub _ (.cons (t := 0) rfl (.cons (t := 1) rfl (.cons (t := 20) rfl .nil))) ?_
      refine swl_nil ?_
      refine then_n ?_
      refine swp_cond (b := _) rfl (fun h20 => ?_) (fun h20 => ?_)
      · skip   -- 20 T
        refine swp_seq ?_
        refine swp_region ?_
        refine s_pu (pu_move rfl) ?_
        refine s_pu (pu_assign rfl) ?_
        refine swl_sub _ (.cons (t := 4) rfl .nil) ?_
        refine swl_nil ?_
        refine then_n ?_
        refine swp_ret ?_
        refine then_r ?_
        refine block_r ?_
        refine then_r ?_
        refine block_r ?_
        refine then_r ?_
        exact done_ret (rop p b n S) (.tmp rfl .nil) ⟨_, rfl, hK ▸ .inr ⟨m, rfl, hKm, h20, fun i h1 h2 => hlo i h1 h2⟩, rfl⟩ (by repeat (first | exact Split.nil | (apply Split.cons; (repeat (first | with_reducible exact Take.here | apply Take.there)))))
      · skip   -- 20 F
        refine swp_skip ?_
        refine then_n ?_
        refine swp_region ?_
        refine s_pu (pu_move rfl) ?_
        refine s_pu (pu_add_as ((m + 1 : Nat) : Int) rfl rfl (by omega) (by omega) (by omega)) ?_
        refine s_pu (pu_assign rfl) ?_
        refine swl_sub _ (.cons (t := 0) rfl (.cons (t := 1) rfl .nil)) ?_
        refine swl_nil ?_
        refine block_n ?_
        exact then_n ⟨m + 1, ⟨rfl, rfl, by omega, fun j h1 h2 => by
          rcases Nat.lt_or_ge j m with h | h
          · exact hlo j h1 h
          · obtain rfl : j = m := by omega
            exact h20⟩, by omega⟩
    · skip   -- 13 F
      have h13' : n ≤ m := by have := of_decide_eq_false h13; omega
      refine swp_exit ?_
      refine then_x ?_
      refine then_x ?_
      refine block_hit rfl ?_
      refine then_n ?_
      refine swp_seq ?_
      refine swp_region ?_
      refine s_pu (pu_assign rfl) ?_
      refine swl_sub _ (.cons (t := 4) rfl .nil) ?_
      refine swl_nil ?_
      refine then_n ?_
      refine swp_ret ?_
      exact done_ret (rop p b n S) (.tmp rfl .nil) ⟨_, rfl, hK ▸ .inl ⟨rfl, fun j h1 => by
        rcases Nat.lt_or_ge j m with h | h
        · exact hlo j h1 h
        · exact hz j (by omega)⟩, rfl⟩ (by repeat (first | exact Split.nil | (apply Split.cons; (repeat (first | with_reducible exact Take.here | apply Take.there)))))
theorem rlast (p b n : Nat) (S : Nat → Bool) (k : Int) (hn : n ≤ 1048576) (hz : ∀ j, n ≤ j → S j = false) : Spec Tryd.prog 52 [.pointer (some ⟨p, 0, none⟩), .int .i64 k] (rop p b n S) (fun r L => ∃ x, r = .int .i64 x ∧ IsLast S k x ∧ L = rop p b n S) := by
  obtain ⟨K, hK⟩ : ∃ K : Int, K = k := ⟨_, rfl⟩
  obtain ⟨x0, hx0⟩ : ∃ x0 : Int, x0 = min K ((n : Int) - 1) := ⟨_, rfl⟩
  refine Spec.of 30 Tryd.func52 rfl rfl rfl ?_
  refine swp_seq ?_
  refine swp_region ?_
  refine s_pu (pu_assign rfl) ?_
  refine swl_sub _ (.cons (t := 0) rfl (.cons (t := 1) rfl .nil)) ?_
  refine swl_nil ?_
  refine then_n ?_
  refine swp_seq ?_
  refine swp_seq ?_
  refine swp_region ?_
  refine s_pu (pu_move rfl) ?_
  refine s_pu (pu_move rfl) ?_
  first | refine s_pu (pu_nilCheck rfl) ?_ | refine s_pu (pu_nilCheck_fn rfl) ?_ | refine s_pu (pu_nilCheck_if rfl) ?_
  first | refine s_pu (pu_fieldAddr0 rfl) ?_ | refine s_pu (pu_fieldAddr rfl) ?_
  refine s_rd (rd_load rfl rfl) ?_
  refine s_pu (pu_len rfl) ?_
  refine s_pu (pu_geq rfl rfl) ?_
  refine swl_sub _ (.cons (t := 0) rfl (.cons (t := 1) rfl (.cons (t := 11) rfl .nil))) ?_
  refine swl_nil ?_
  refine then_n ?_
  refine swp_cond (b := _) rfl (fun h11 => ?_) (fun h11 => ?_)
  · skip   -- 11 T
    have h11' := of_decide_eq_true h11
    obtain hx1 : x0 = (n : Int) - 1 := by omega
    refine swp_region ?_
    refine s_pu (pu_move rfl) ?_
    first | refine s_pu (pu_nilCheck rfl) ?_ | refine s_pu (pu_nilCheck_fn rfl) ?_ | refine s_pu (pu_nilCheck_if rfl) ?_
    first | refine s_pu (pu_fieldAddr0 rfl) ?_ | refine s_pu (pu_fieldAddr rfl) ?_
    refine s_rd (rd_load rfl rfl) ?_
    refine s_pu (pu_len rfl) ?_
    refine s_pu (pu_sub_as ((n : Int) - 1) rfl rfl (by omega) (by omega) (by omega)) ?_
    refine s_pu (pu_assign rfl) ?_
    refine swl_sub _ (.cons (t := 0) rfl (.cons (t := 1) rfl .nil)) ?_
    refine swl_nil ?_
    refine then_n ?_
    refine swp_seq ?_
    refine swp_block ?_
    refine swp_loop (ι := Int) (fun m env L => env = [(0, .pointer (some ⟨p, 0, none⟩)), (1, .int .i64 m)] ∧ L = rop p b n S ∧ m ≤ K ∧ m < n ∧ ∀ j : Nat, j ≤ K → m < j → S j = false) (fun m => (m + 1).toNat) ((n : Int) - 1) ⟨rfl, rfl, by omega, by omega, fun j h1 h2 => hz j (by omega)⟩ ?_
    rintro x env L ⟨rfl, rfl, hKm, hmn, hlo⟩
    refine swp_seq ?_
    refine swp_seq ?_
    refine swp_region ?_
    refine s_pu (pu_move rfl) ?_
    refine s_pu (pu_geq rfl rfl) ?_
    refine swl_sub _ (.cons (t := 0) rfl (.cons (t := 1) rfl (.cons (t := 19) rfl .nil))) ?_
    refine swl_nil ?_
    refine then_n ?_
    refine swp_cond (b := _) rfl (fun h19 => ?_) (fun h19 => ?_)
    · skip   -- 19 T
      have h19' := of_decide_eq_true h19
      obtain ⟨m, rfl⟩ : ∃ m : Nat, x = m := ⟨x.toNat, by omega⟩
      refine swp_skip ?_
      refine then_n ?_
      refine swp_block ?_
      refine swp_seq ?_
      refine swp_seq ?_
      refine swp_region ?_
      refine s_pu (pu_move rfl) ?_
      first | refine s_pu (pu_nilCheck rfl) ?_ | refine s_pu (pu_nilCheck_fn rfl) ?_ | refine s_pu (pu_nilCheck_if rfl) ?_
      first | refine s_pu (pu_fieldAddr0 rfl) ?_ | refine s_pu (pu_fieldAddr rfl) ?_
      refine s_rd (rd_load rfl rfl) ?_
      refine s_pu (pu_move rfl) ?_
      refine s_pu (pu_indexAddr m rfl rfl (by omega) (by omega) (by omega)) ?_
      refine s_rd (rd_load rfl (rbs_get S (by omega))) ?_
      refine swl_sub _ (.cons (t := 0) rfl (.cons (t := 1) rfl (.cons (t := 26) rfl .nil))) ?_
      refine swl_nil ?_
      refine then_n ?_
      refine swp_cond (b := _) rfl (fun h26 => ?_) (fun h26 => ?_)
      · skip   -- 26 T
        refine swp_seq ?_
        refine swp_region ?_
        refine s_pu (pu_move rfl) ?_
        refine s_pu (pu_assign rfl) ?_
        refine swl_sub _ (.cons (t := 4) rfl .nil) ?_
        refine swl_nil ?_
        refine then_n ?_
        refine swp_ret ?_
        refine then_r ?_
        refine block_r ?_
        refine then_r ?_
        refine block_r ?_
        refine then_r ?_
        exact done_ret (rop p b n S) (.tmp rfl .nil) ⟨_, rfl, hK ▸ .inr ⟨m, rfl, hKm, h26, fun i h1 h2 => hlo i h2 (by omega)⟩, rfl⟩ (by repeat (first | exact Split.nil | (apply Split.cons; (repeat (first | with_reducible exact Take.here | apply Take.there)))))
      · skip   -- 26 F
        refine swp_skip ?_
        refine then_n ?_
        refine swp_region ?_
        refine s_pu (pu_move rfl) ?_
        refine s_pu (pu_sub_as ((m : Int) - 1) rfl rfl (by omega) (by omega) (by omega)) ?_
        refine s_pu (pu_assign rfl) ?_
        refine swl_sub _ (.cons (t := 0) rfl (.cons (t := 1) rfl .nil)) ?_
        refine swl_nil ?_
        refine block_n ?_
        exact then_n ⟨(m : Int) - 1, ⟨rfl, rfl, by omega, by omega, fun j h1 h2 => by
          by_cases h : (m : Int) < j
          · exact hlo j h1 h
          · obtain rfl : j = m := by omega
            exact h26⟩, by omega⟩
    · skip   -- 19 F
      have h19' := of_decide_eq_false h19
      refine swp_exit ?_
      refine then_x ?_
      refine then_x ?_
      refine block_hit rfl ?_
      refine then_n ?_
      refine swp_seq ?_
      refine swp_region ?_
      refine s_pu (pu_assign rfl) ?_
      refine swl_sub _ (.cons (t := 4) rfl .nil) ?_
      refine swl_nil ?_
      refine then_n ?_
      refine swp_ret ?_
      exact done_ret (rop p b n S) (.tmp rfl .nil) ⟨_, rfl, hK ▸ .inl ⟨rfl, fun j h1 => hlo j h1 (by omega)⟩, rfl⟩ (by repeat (first | exact Split.nil | (apply Split.cons; (repeat (first | with_reducible exact Take.here | apply Take.there)))))
  · skip   -- 11 F
    have h11' := of_decide_eq_false h11
    obtain rfl : k = x0 := by omega
    refine swp_skip ?_
    refine then_n ?_
    refine swp_seq ?_
    refine swp_block ?_
    refine swp_sub _ (.cons (t := 0) rfl (.cons (t := 1) rfl .nil)) ?_
    refine swp_loop (ι := Int) (fun m env L => env = [(0, .pointer (some ⟨p, 0, none⟩)), (1, .int .i64 m)] ∧ L = rop p b n S ∧ m ≤ K ∧ m < n ∧ ∀ j : Nat, j ≤ K → m < j → S j = false) (fun m => (m + 1).toNat) k ⟨rfl, rfl, by omega, by omega, fun j h1 h2 => by omega⟩ ?_
    rintro x env L ⟨rfl, rfl, hKm, hmn, hlo⟩
    refine swp_seq ?_
    refine swp_seq ?_
    refine swp_region ?_
    refine s_pu (pu_move rfl) ?_
    refine s_pu (pu_geq rfl rfl) ?_
    refine swl_sub _ (.cons (t := 0) rfl (.cons (t := 1) rfl (.cons (t := 19) rfl .nil))) ?_
    refine swl_nil ?_
    refine then_n ?_
    refine swp_cond (b := _) rfl (fun h19 => ?_) (fun h19 => ?_)
    · skip   -- 19 T
      have h19' := of_decide_eq_true h19
      obtain ⟨m, rfl⟩ : ∃ m : Nat, x = m := ⟨x.toNat, by omega⟩
      refine swp_skip ?_
      refine then_n ?_
      refine swp_block ?_
      refine swp_seq ?_
      refine swp_seq ?_
      refine swp_region ?_
      refine s_pu (pu_move rfl) ?_
      first | refine s_pu (pu_nilCheck rfl) ?_ | refine s_pu (pu_nilCheck_fn rfl) ?_ | refine s_pu (pu_nilCheck_if rfl) ?_
      first | refine s_pu (pu_fieldAddr0 rfl) ?_ | refine s_pu (pu_fieldAddr rfl) ?_
      refine s_rd (rd_load rfl rfl) ?_
      refine s_pu (pu_move rfl) ?_
      refine s_pu (pu_indexAddr m rfl rfl (by omega) (by omega) (by omega)) ?_
      refine s_rd (rd_load rfl (rbs_get S (by omega))) ?_
      refine swl_sub _ (.cons (t := 0) rfl (.cons (t := 1) rfl (.cons (t := 26) rfl .nil))) ?_
      refine swl_nil ?_
      refine then_n ?_
      refine swp_cond (b := _) rfl (fun h26 => ?_) (fun h26 => ?_)
      · skip   -- 26 T
        refine swp_seq ?_
        refine swp_region ?_
        refine s_pu (pu_move rfl) ?_
        refine s_pu (pu_assign rfl) ?_
        refine swl_sub _ (.cons (t := 4) rfl .nil) ?_
        refine swl_nil ?_
        refine then_n ?_
        refine swp_ret ?_
        refine then_r ?_
        refine block_r ?_
        refine then_r ?_
        refine block_r ?_
        refine then_r ?_
        exact done_ret (rop p b n S) (.tmp rfl .nil) ⟨_, rfl, hK ▸ .inr ⟨m, rfl, hKm, h26, fun i h1 h2 => hlo i h2 (by omega)⟩, rfl⟩ (by repeat (first | exact Split.nil | (apply Split.cons; (repeat (first | with_reducible exact Take.here | apply Take.there)))))
      · skip   -- 26 F
        refine swp_skip ?_
        refine then_n ?_
        refine swp_region ?_
        refine s_pu (pu_move rfl) ?_
        refine s_pu (pu_sub_as ((m : Int) - 1) rfl rfl (by omega) (by omega) (by omega)) ?_
        refine s_pu (pu_assign rfl) ?_
        refine swl_sub _ (.cons (t := 0) rfl (.cons (t := 1) rfl .nil)) ?_
        refine swl_nil ?_
        refine block_n ?_
        exact then_n ⟨(m : Int) - 1, ⟨rfl, rfl, by omega, by omega, fun j h1 h2 => by
          by_cases h : (m : Int) < j
          · exact hlo j h1 h
          · obtain rfl : j = m := by omega
            exact h26⟩, by omega⟩
    · skip   -- 19 F
      have h19' := of_decide_eq_false h19
      refine swp_exit ?_
      refine then_x ?_
      refine then_x ?_
      refine block_hit rfl ?_
      refine then_n ?_
      refine swp_seq ?_
      refine swp_region ?_
      refine s_pu (pu_assign rfl) ?_
      refine swl_sub _ (.cons (t := 4) rfl .nil) ?_
      refine swl_nil ?_
      refine then_n ?_
      refine swp_ret ?_
      exact done_ret (rop p b n S) (.tmp rfl .nil) ⟨_, rfl, hK ▸ .inl ⟨rfl, fun j h1 => hlo j h1 (by omega)⟩, rfl⟩ (by repeat (first | exact Split.nil | (apply Split.cons; (repeat (first | with_reducible exact Take.here | apply Take.there)))))
theorem rlist (p b n : Nat) (S : Nat → Bool) (hn : n ≤ 1048576) : Spec Tryd.prog 54 [.pointer (some ⟨p, 0, none⟩)] (rop p b n S) (fun r L => L = own 3 1 r (elsTo n S).length ((elsTo n S).flatMap (icsk .i64)) :: rop p b n S) := by
  refine Spec.of 26 Tryd.func54 rfl rfl rfl ?_
  refine swp_seq ?_
  refine swp_region ?_
  refine s_pu (pu_assign rfl) ?_
  refine swl_sub _ (.cons (t := 0) rfl .nil) ?_
  refine swl_nil ?_
  refine then_n ?_
  refine swp_seq ?_
  refine swp_region ?_
  refine s_pu (pu_assign rfl) ?_
  refine swl_sub _ (.cons (t := 0) rfl (.cons (t := 3) rfl .nil)) ?_
  refine swl_ent (own_nil_ent (e := 3) (n := 1)) ?_
  refine swl_nil ?_
  refine then_n ?_
  refine swp_seq ?_
  refine swp_seq ?_
  refine swp_region ?_
  refine s_pu (pu_assign rfl) ?_
  refine swl_sub _ (.cons (t := 0) rfl (.cons (t := 3) rfl (.cons (t := 4) rfl .nil))) ?_
  refine swl_nil ?_
  refine then_n ?_
  refine swp_block ?_
  refine swp_loop (ι := Value × Nat) (fun k env L => env = [(0, .pointer (some ⟨p, 0, none⟩)), (3, k.1), (4, .int .i64 (k.2 : Nat))] ∧ L = own 3 1 k.1 (elsTo k.2 S).length ((elsTo k.2 S).flatMap (icsk .i64)) :: rop p b n S ∧ k.2 ≤ n) (fun k => n - k.2) (.slice none 0 0, 0) ⟨rfl, rfl, Nat.zero_le _⟩ ?_
  rintro ⟨v3, j⟩ env L ⟨rfl, rfl, hj⟩
  dsimp only at hj ⊢
  refine swp_seq ?_
  refine swp_seq ?_
  refine swp_region ?_
  refine s_pu (pu_move rfl) ?_
  refine s_pu (pu_move rfl) ?_
  first | refine s_pu (pu_nilCheck rfl) ?_ | refine s_pu (pu_nilCheck_fn rfl) ?_ | refine s_pu (pu_nilCheck_if rfl) ?_
  first | refine s_pu (pu_fieldAddr0 rfl) ?_ | refine s_pu (pu_fieldAddr rfl) ?_
  refine s_rd (rd_load rfl rfl) ?_
  refine s_pu (pu_len rfl) ?_
  refine s_pu (pu_lss rfl rfl) ?_
  refine swl_sub _ (.cons (t := 0) rfl (.cons (t := 3) rfl (.cons (t := 4) rfl (.cons (t := 11) rfl .nil)))) ?_
  refine swl_nil ?_
  refine then_n ?_
  refine swp_cond (b := _) rfl (fun h11 => ?_) (fun h11 => ?_)
  · skip   -- 11 T
    have h11' : j < n := by have := of_decide_eq_true h11; omega
    refine swp_skip ?_
    refine then_n ?_
    refine swp_seq ?_
    refine swp_block ?_
    refine swp_seq ?_
    refine swp_region ?_
    refine s_pu (pu_move rfl) ?_
    first | refine s_pu (pu_nilCheck rfl) ?_ | refine s_pu (pu_nilCheck_fn rfl) ?_ | refine s_pu (pu_nilCheck_if rfl) ?_
    first | refine s_pu (pu_fieldAddr0 rfl) ?_ | refine s_pu (pu_fieldAddr rfl) ?_
    refine s_rd (rd_load rfl rfl) ?_
    refine s_pu (pu_move rfl) ?_
    refine s_pu (pu_indexAddr j rfl rfl (by omega) (by omega) (by omega)) ?_
    refine s_rd (rd_load rfl (rbs_get S (by omega))) ?_
    refine swl_sub _ (.cons (t := 0) rfl (.cons (t := 3) rfl (.cons (t := 4) rfl (.cons (t := 20) rfl .nil)))) ?_
    refine swl_nil ?_
    refine then_n ?_
    refine swp_cond (b := _) rfl (fun h20 => ?_) (fun h20 => ?_)
    · skip   -- 20 T
      have hle := elsTo_len j S
      refine swp_region ?_
      refine s_pu (pu_move rfl) ?_
      refine s_pu (pu_move rfl) ?_
      refine s_ef (ef_bldS (qs := [(0, _)]) rfl rfl rfl) ?_
      intro b23
      refine s_ef (ef_append_lit (l := (elsTo j S).length) (m := 1) rfl rfl (by repeat (first | exact Split.nil | (apply Split.cons; (repeat (first | with_reducible exact Take.here | apply Take.there))))) (by simp only [maxLen]; omega) (by omega)) ?_
      rintro v' hv'
      skip
      refine s_pu (pu_assign rfl) ?_
      refine swl_sub _ (.cons (t := 0) rfl (.cons (t := 3) rfl (.cons (t := 4) rfl .nil))) ?_
      have e1 : (elsTo j S).length + 1 = (elsTo (j + 1) S).length := by rw [elsTo_succ h20, List.length_append]; rfl
      have e2 : (elsTo j S).flatMap (icsk .i64) ++ [.int .i64 (j : Nat)] = (elsTo (j + 1) S).flatMap (icsk .i64) := by rw [elsTo_succ h20, List.flatMap_append]; rfl
      rw [e1, e2]
      refine swl_nil ?_
      refine block_n ?_
      refine then_n ?_
      refine swp_region ?_
      refine s_pu (pu_move rfl) ?_
      refine s_pu (pu_add_as ((j + 1 : Nat) : Int) rfl rfl (by omega) (by omega) (by omega)) ?_
      refine s_pu (pu_assign rfl) ?_
      refine swl_sub _ (.cons (t := 0) rfl (.cons (t := 3) rfl (.cons (t := 4) rfl .nil))) ?_
      refine swl_nil ?_
      exact then_n ⟨(_, j + 1), ⟨rfl, rfl, by omega⟩, by show n - (j + 1) < n - j; omega⟩
    · skip   -- 20 F
      have e0 : elsTo (j + 1) S = elsTo j S := elsTo_skip (by omega) (fun i h1 h2 => by rw [show i = j by omega]; exact h20)
      rw [← e0]
      refine swp_skip ?_
      refine block_n ?_
      refine then_n ?_
      refine swp_region ?_
      refine s_pu (pu_move rfl) ?_
      refine s_pu (pu_add_as ((j + 1 : Nat) : Int) rfl rfl (by omega) (by omega) (by omega)) ?_
      refine s_pu (pu_assign rfl) ?_
      refine swl_sub _ (.cons (t := 0) rfl (.cons (t := 3) rfl (.cons (t := 4) rfl .nil))) ?_
      refine swl_nil ?_
      exact then_n ⟨(_, j + 1), ⟨rfl, rfl, by omega⟩, by show n - (j + 1) < n - j; omega⟩
  · skip   -- 11 F
    have h11' := of_decide_eq_false h11
    obtain rfl : j = n := by omega
    refine swp_exit ?_
    refine then_x ?_
    refine then_x ?_
    refine block_hit rfl ?_
    refine then_n ?_
    refine swp_seq ?_
    refine swp_region ?_
    refine s_pu (pu_move rfl) ?_
    refine s_pu (pu_assign rfl) ?_
    refine swl_sub _ (.cons (t := 2) rfl .nil) ?_
    refine swl_nil ?_
    refine then_n ?_
    refine swp_ret ?_
    exact done_ret (own 3 1 v3 (elsTo j S).length ((elsTo j S).flatMap (icsk .i64)) :: rop p b j S) (.tmp rfl .nil) rfl (by repeat (first | exact Split.nil | (apply Split.cons; (repeat (first | with_reducible exact Take.here | apply Take.there)))))
end SX
