/- A part of the proof: walks of the program's functions, and the rules by which they go. -/
import Derived.Test.YtllgakmdhjgmoaaBfc69139d
import Derived.Shelf.Slices.Turned
import Derived.Ground.Names2Prog
import Derived.Shelf.Slices.Clone
import Derived.Test.YtllgakmdhjgmoaaProg
import Derived.Test.YtllgakmdhjgmoaaBa19f5909
namespace SX
open Go Go.Proofs
instance : TZero Try.prog 139 (List.replicate 256 (.int .u32 0)) := ⟨by kernel_rfl⟩
/-- the table, its first k places filled -/
def tabK (k : Nat) : List Value := (List.range 256).map fun i => if i < k then .int .u32 ((rowW i).toNat : Nat) else .int .u32 0
def tabC : List Value := (List.range 256).map fun i => .int .u32 ((rowW i).toNat : Nat)
theorem tabK_len (k : Nat) : (tabK k).length = 256 := by unfold tabK; rw [List.length_map, List.length_range]
theorem tabK_all : tabK 256 = tabC := by
  unfold tabK tabC
  refine List.map_congr_left fun i hi => ?_
  rw [if_pos (List.mem_range.1 hi)]
theorem tabK_zero : tabK 0 = List.replicate 256 (.int .u32 0) := by
  unfold tabK
  apply List.ext_getElem?
  intro i
  rw [List.getElem?_map, List.getElem?_replicate]
  by_cases h : i < 256
  · rw [List.getElem?_range h, if_pos h]; simp
  · rw [List.getElem?_eq_none (by simp; omega), if_neg h]; rfl
theorem tabK_get (k i : Nat) (hi : i < 256) : (tabK k)[i]? = some (if i < k then .int .u32 ((rowW i).toNat : Nat) else .int .u32 0) := by
  unfold tabK; rw [List.getElem?_map, List.getElem?_range hi]; rfl
theorem tabK_set {k : Nat} (hk : k < 256) : (tabK k).set k (.int .u32 ((rowW k).toNat : Nat)) = tabK (k + 1) := by
  apply List.ext_getElem?
  intro i
  rw [List.getElem?_set, tabK_len]
  by_cases hi : i < 256
  · rw [tabK_get _ _ hi, tabK_get _ _ hi]
    by_cases h : k = i
    · subst h; rw [if_pos rfl, if_pos hk, if_pos (by omega)]
    · rw [if_neg h]
      by_cases h2 : i < k
      · rw [if_pos h2, if_pos (by omega)]
      · rw [if_neg h2, if_neg (by omega)]
  · rw [if_neg (by omega), List.getElem?_eq_none (by rw [tabK_len]; omega), List.getElem?_eq_none (by rw [tabK_len]; omega)]
theorem ent_roh {L : List Assn} : Ent L (ro (fun _ => none) :: L) := fun m h => ⟨fun _ => none, m, (fun k x hk => by cases hk), h, (fun _ => .inl rfl), (fun _ _ h => by cases h), (fun _ _ h => h)⟩
theorem tabC_get {i : Nat} (hi : i < 256) : tabC[i]? = some (.int .u32 ((rowW i).toNat : Nat)) := by
  unfold tabC; rw [List.getElem?_map, List.getElem?_range hi]; rfl
theorem tabC_len : tabC.length = 256 := by unfold tabC; rw [List.length_map, List.length_range]
theorem tabC_one : tabC.all Value.oneCell' = true := by
  rw [List.all_eq_true]; intro v hv; unfold tabC at hv; obtain ⟨i, _, rfl⟩ := List.mem_map.1 hv; rfl
theorem wv_small {n : Nat} (h : n < 4294967296) : ((n : Nat) : Int) = ((BitVec.ofNat 32 n).toNat : Int) := by rw [BitVec.toNat_ofNat, Nat.mod_eq_of_lt (by omega)]
set_option maxHeartbeats 1000000 in
theorem rows_spec : Spec Try.prog 94 [] [] (fun v L => v = .agg tabC.toArray ∧ L = []) := by
  refine Spec.of 19 Try.func94 rfl rfl rfl ?_
  refine swp_seq ?_
  refine swp_region ?_
  refine s_ef (ef_alloc) ?_
  intro b0
  refine swl_sub _ (.cons (t := 0) rfl .nil) ?_
  refine swl_nil ?_
  refine then_n ?_
  refine swp_seq ?_
  refine swp_region ?_
  refine s_ef (ef_alloc) ?_
  intro b1
  refine swl_sub _ (.cons (t := 0) rfl (.cons (t := 1) rfl .nil)) ?_
  refine swl_nil ?_
  refine then_n ?_
  refine swp_seq ?_
  refine swp_seq ?_
  refine swp_region ?_
  refine s_pu (pu_move rfl) ?_
  refine swl_sub _ (.cons (t := 0) rfl (.cons (t := 1) rfl (.cons (t := 4) rfl .nil))) ?_
  rw [← tabK_zero]
  refine swl_nil ?_
  refine then_n ?_
  refine swp_block ?_
  refine swp_loop (ι := Nat) (fun k env L => Sub env [(0, .pointer (some ⟨b0, 0, none⟩)), (1, .pointer (some ⟨b1, 0, none⟩)), (4, .int .i64 (k : Nat))] ∧ L = [blk b1 139 (tabK k), blk b0 139 (tabK 0)] ∧ k ≤ 256) (fun k => 256 - k) 0 ⟨⟨rfl, rfl, rfl, trivial⟩, rfl, Nat.zero_le _⟩ ?_
  rintro k env L ⟨hsub, rfl, hk⟩
  refine swp_sub _ hsub ?_
  clear hsub env
  refine swp_seq ?_
  refine swp_region ?_
  refine s_pu (pu_lss rfl rfl) ?_
  refine swl_sub _ (.cons (t := 0) rfl (.cons (t := 1) rfl (.cons (t := 4) rfl (.cons (t := 5) rfl .nil)))) ?_
  refine swl_nil ?_
  refine then_n ?_
  refine swp_seq ?_
  refine swp_cond (b := _) rfl (fun h5 => ?_) (fun h5 => ?_)
  · skip   -- 5 T
    have h5' : k < 256 := by have := of_decide_eq_true h5; omega
    refine swp_skip ?_
    refine then_n ?_
    refine swp_seq ?_
    refine swp_block ?_
    refine swp_seq ?_
    refine swp_region ?_
    refine s_pu (pu_move rfl) ?_
    refine s_pu (pu_assign rfl) ?_
    refine swl_sub _ (.cons (t := 0) rfl (.cons (t := 1) rfl (.cons (t := 2) rfl (.cons (t := 4) rfl .nil)))) ?_
    refine swl_nil ?_
    refine then_n ?_
    refine swp_seq ?_
    refine swp_region ?_
    refine s_pu (pu_move rfl) ?_
    refine s_pu (pu_conv_as (k' := .u32) (n := ((BitVec.ofNat 32 k).toNat : Int)) (by rw [← wv_small (by omega)]; rfl) (wrap_word32 _)) ?_
    refine s_pu (pu_assign rfl) ?_
    refine swl_sub _ (.cons (t := 0) rfl (.cons (t := 1) rfl (.cons (t := 2) rfl (.cons (t := 3) rfl (.cons (t := 4) rfl .nil))))) ?_
    refine swl_nil ?_
    refine then_n ?_
    refine swp_seq ?_
    refine swp_seq ?_
    refine swp_region ?_
    refine s_pu (pu_move rfl) ?_
    refine swl_sub _ (.cons (t := 0) rfl (.cons (t := 1) rfl (.cons (t := 2) rfl (.cons (t := 3) rfl (.cons (t := 4) rfl (.cons (t := 9) rfl .nil)))))) ?_
    refine swl_nil ?_
    refine then_n ?_
    refine swp_block ?_
    refine swp_loop (ι := Nat) (fun j env L => Sub env [(0, .pointer (some ⟨b0, 0, none⟩)), (1, .pointer (some ⟨b1, 0, none⟩)), (2, .int .i64 (k : Nat)), (3, .int .u32 ((turnsW j (BitVec.ofNat 32 k)).toNat : Nat)), (4, .int .i64 (k : Nat)), (9, .int .i64 (j : Nat))] ∧ L = [blk b1 139 (tabK k), blk b0 139 (tabK 0)] ∧ j ≤ 8) (fun j => 8 - j) 0 ⟨⟨rfl, rfl, rfl, rfl, rfl, rfl, trivial⟩, rfl, Nat.zero_le _⟩ ?_
    rintro j env L ⟨hsub, rfl, hj⟩
    refine swp_sub _ hsub ?_
    clear hsub env
    refine swp_seq ?_
    refine swp_region ?_
    refine s_pu (pu_lss rfl rfl) ?_
    refine swl_sub _ (.cons (t := 0) rfl (.cons (t := 1) rfl (.cons (t := 2) rfl (.cons (t := 3) rfl (.cons (t := 4) rfl (.cons (t := 9) rfl (.cons (t := 10) rfl .nil))))))) ?_
    refine swl_nil ?_
    refine then_n ?_
    refine swp_seq ?_
    refine swp_cond (b := _) rfl (fun h10 => ?_) (fun h10 => ?_)
    · skip   -- 10 T
      have h10' : j < 8 := by have := of_decide_eq_true h10; omega
      refine swp_skip ?_
      refine then_n ?_
      refine swp_seq ?_
      refine swp_block ?_
      refine swp_region ?_
      refine s_pu (pu_move rfl) ?_
      refine s_ef (ef_fn (turn_spec _) rfl rfl (by repeat (first | exact Split.nil | (apply Split.cons; (repeat (first | with_reducible exact Take.here | apply Take.there)))))) ?_
      rintro v12 L1 ⟨rfl, rfl⟩
      refine swl_app ?_
      refine s_pu (pu_assign rfl) ?_
      refine swl_sub _ (.cons (t := 0) rfl (.cons (t := 1) rfl (.cons (t := 2) rfl (.cons (t := 3) rfl (.cons (t := 4) rfl (.cons (t := 9) rfl .nil)))))) ?_
      refine swl_nil ?_
      refine block_n ?_
      refine then_n ?_
      refine swp_region ?_
      refine s_pu (pu_add_as ((j + 1 : Nat) : Int) rfl rfl (by omega) (by omega) (by omega)) ?_
      refine s_pu (pu_move rfl) ?_
      refine swl_sub _ (.cons (t := 0) rfl (.cons (t := 1) rfl (.cons (t := 2) rfl (.cons (t := 3) rfl (.cons (t := 4) rfl (.cons (t := 9) rfl .nil)))))) ?_
      refine swl_nil ?_
      refine then_n ⟨j + 1, ⟨⟨rfl, rfl, rfl, by rw [turns_succ]; rfl, rfl, rfl, trivial⟩, rfl, h10'⟩, by omega⟩
    · skip   -- 10 F
      have h10' := of_decide_eq_false h10
      obtain rfl : j = 8 := by omega
      refine swp_exit ?_
      refine then_x ?_
      refine then_x ?_
      refine block_hit rfl ?_
      refine then_n ?_
      refine swp_region ?_
      refine s_pu (pu_move rfl) ?_
      refine s_pu (pu_move rfl) ?_
      refine s_pu (pu_indexAddr_arr k rfl rfl (by omega) (by omega) (by rw [Int.toNat_natCast]; omega)) ?_
      refine s_ef0 (ef_storeP rfl rfl rfl (by rw [tabK_len]; omega)) ?_
      refine swl_sub _ (.cons (t := 0) rfl (.cons (t := 1) rfl (.cons (t := 4) rfl .nil))) ?_
      refine swl_nil ?_
      refine block_n ?_
      refine then_n ?_
      refine swp_region ?_
      refine s_pu (pu_add_as ((k + 1 : Nat) : Int) rfl rfl (by omega) (by omega) (by omega)) ?_
      refine s_pu (pu_move rfl) ?_
      refine swl_sub _ (.cons (t := 0) rfl (.cons (t := 1) rfl (.cons (t := 4) rfl .nil))) ?_
      refine swl_nil ?_
      exact then_n ⟨k + 1, ⟨⟨rfl, rfl, rfl, trivial⟩, by rw [← tabK_set h5']; rfl, h5'⟩, by omega⟩
  · skip   -- 5 F
    have h5' := of_decide_eq_false h5
    obtain rfl : k = 256 := by omega
    rw [tabK_all]
    refine swp_exit ?_
    refine then_x ?_
    refine then_x ?_
    refine block_hit rfl ?_
    refine then_n ?_
    refine swp_seq ?_
    refine swp_region ?_
    refine s_rd (rd_of_ld rfl (ld_whole tabC_len)) ?_
    refine s_ef0 (ef_storeAs rfl rfl (cs' := tabC) (by unfold over; rw [List.take_zero, List.nil_append, List.drop_eq_nil_of_le (by rw [tabK_len, tabC_len]; decide), List.append_nil]) (by rw [tabK_len, tabC_len]; decide) tabC_len tabC_one) ?_
    refine swl_sub _ (.cons (t := 0) rfl .nil) ?_
    refine swl_nil ?_
    refine then_n ?_
    refine swp_ret ?_
    exact done_ret [] (.cell rfl (ld_whole tabC_len) .nil) ⟨rfl, rfl⟩ (by repeat (first | exact Split.nil | (apply Split.cons; (repeat (first | with_reducible exact Take.here | apply Take.there)))))
set_option maxHeartbeats 1000000 in
theorem take_spec (c : W32) (t : Nat) (s : ByteArray) (hs : s.size ≤ 1073741824) : Spec Try.prog 95 [.pointer (some ⟨t, 0, none⟩), .int .u32 (c.toNat : Nat), .string s] [blk t 139 tabC] (fun v L => v = .int .u32 ((crcW c s.data.toList).toNat : Nat) ∧ L = [blk t 139 tabC]) := by
  have hl : s.data.toList.length = s.size := by rw [Array.length_toList]; rfl
  refine Spec.of 29 Try.func95 rfl rfl rfl ?_
  refine swp_seq ?_
  refine swp_region ?_
  refine s_pu (pu_assign rfl) ?_
  refine swl_sub _ (.cons (t := 0) rfl (.cons (t := 1) rfl (.cons (t := 2) rfl .nil))) ?_
  refine swl_nil ?_
  refine then_n ?_
  refine swp_seq ?_
  refine swp_seq ?_
  refine swp_region ?_
  refine s_pu (pu_move rfl) ?_
  refine s_ef (ef_bytes (e := 5) rfl (by simp only [maxLen]; omega)) ?_
  rintro g cap cs fr hc1 hc2 hcs
  skip
  refine s_pu (pu_len rfl) ?_
  refine s_pu (pu_move rfl) ?_
  refine swl_sub _ (.cons (t := 0) rfl (.cons (t := 1) rfl (.cons (t := 10) rfl (.cons (t := 11) rfl (.cons (t := 12) rfl .nil))))) ?_
  refine swl_nil ?_
  refine then_n ?_
  refine swp_block ?_
  refine swp_ent ent_roh ?_
  refine swp_share1 (b := g) (μ := fun _ => none) (by repeat (first | exact Split.nil | (apply Split.cons; (repeat (first | with_reducible exact Take.here | apply Take.there))))) fun μ _ hg => ?_
  have hrow := row_bytes hc1 hc2 hcs hg
  refine swp_loop (ι := Nat) (fun i env L => Sub env [(0, .pointer (some ⟨t, 0, none⟩)), (1, .int .u32 (((s.data.toList.take i).foldl takeW c).toNat : Nat)), (10, .slice (some ⟨g, 0, none⟩) s.size cap), (11, .int .i64 (s.size : Nat)), (12, .int .i64 (i : Nat))] ∧ L = [ro μ, blk t 139 tabC] ∧ i ≤ s.size) (fun i => s.size - i) 0 ⟨⟨rfl, rfl, rfl, rfl, rfl, trivial⟩, rfl, Nat.zero_le _⟩ ?_
  rintro i env L ⟨hsub, rfl, hi⟩
  refine swp_sub _ hsub ?_
  clear hsub env
  generalize hd : (s.data.toList.take i).foldl takeW c = d
  refine swp_seq ?_
  refine swp_region ?_
  refine s_pu (pu_lss rfl rfl) ?_
  refine swl_sub _ (.cons (t := 0) rfl (.cons (t := 1) rfl (.cons (t := 10) rfl (.cons (t := 11) rfl (.cons (t := 12) rfl (.cons (t := 13) rfl .nil)))))) ?_
  refine swl_nil ?_
  refine then_n ?_
  refine swp_seq ?_
  refine swp_cond (b := _) rfl (fun h13 => ?_) (fun h13 => ?_)
  · skip   -- 13 T
    have h13' : i < s.size := by have := of_decide_eq_true h13; omega
    obtain ⟨b, hb⟩ : ∃ b, s.data.toList[i]? = some b := ⟨_, List.getElem?_eq_getElem (by omega)⟩
    obtain ⟨g', off, cap', hv, _, _, hr⟩ := hrow.pos (by omega)
    have hre := hr.elem (f := bc1) (n := 1) (fun _ => rfl) hb
    injection hv with e1 e2 e3
    injection e1 with e1
    injection e1 with e4 e5
    subst e4 e5
    have hidx : (d.setWidth 8 ^^^ b.toBitVec).toNat < 256 := (d.setWidth 8 ^^^ b.toBitVec).isLt
    refine swp_skip ?_
    refine then_n ?_
    refine swp_seq ?_
    refine swp_block ?_
    refine swp_seq ?_
    refine swp_region ?_
    refine s_pu (pu_indexAddr (0 + i * 1) rfl rfl (by omega) (by omega) (by rw [Int.toNat_natCast])) ?_
    refine s_rd (rd_ro rfl hre.cell) ?_
    refine s_pu (pu_assign rfl) ?_
    refine swl_sub _ (.cons (t := 0) rfl (.cons (t := 1) rfl (.cons (t := 8) rfl (.cons (t := 10) rfl (.cons (t := 11) rfl (.cons (t := 12) rfl .nil)))))) ?_
    refine swl_nil ?_
    refine then_n ?_
    refine swp_region ?_
    refine s_pu (pu_move rfl) ?_
    refine s_pu (pu_move rfl) ?_
    refine s_pu (pu_low8 d (by decide) rfl rfl) ?_
    refine s_pu (pu_move rfl) ?_
    refine s_pu (pu_xor_w8 (b := b.toBitVec) rfl rfl) ?_
    first | refine s_pu (pu_nilCheck rfl) ?_ | refine s_pu (pu_nilCheck_fn rfl) ?_ | refine s_pu (pu_nilCheck_if rfl) ?_
    refine s_pu (pu_indexAddr_arr (d.setWidth 8 ^^^ b.toBitVec).toNat rfl rfl (by omega) (by omega) (by rw [Int.toNat_natCast]; omega)) ?_
    refine s_rd (rd_load rfl (tabC_get hidx)) ?_
    refine s_pu (pu_move rfl) ?_
    refine s_pu (pu_shr_w32 8 rfl rfl (by decide)) ?_
    refine s_pu (pu_xor_w32 rfl rfl) ?_
    refine s_pu (pu_assign rfl) ?_
    refine swl_sub _ (.cons (t := 0) rfl (.cons (t := 1) rfl (.cons (t := 10) rfl (.cons (t := 11) rfl (.cons (t := 12) rfl .nil))))) ?_
    refine swl_nil ?_
    refine block_n ?_
    refine then_n ?_
    refine swp_region ?_
    refine s_pu (pu_add_as ((i + 1 : Nat) : Int) rfl rfl (by omega) (by omega) (by omega)) ?_
    refine s_pu (pu_move rfl) ?_
    refine swl_sub _ (.cons (t := 0) rfl (.cons (t := 1) rfl (.cons (t := 10) rfl (.cons (t := 11) rfl (.cons (t := 12) rfl .nil))))) ?_
    refine swl_nil ?_
    refine then_n ⟨i + 1, ⟨⟨rfl, ?_, rfl, rfl, rfl, trivial⟩, rfl, h13'⟩, by omega⟩
    rw [List.take_add_one, hb, List.foldl_append, hd]; rfl
  · skip   -- 13 F
    have h13' := of_decide_eq_false h13
    obtain rfl : i = s.size := by omega
    rw [← hl, List.take_length, crc_take] at hd
    refine swp_exit ?_
    refine then_x ?_
    refine then_x ?_
    refine block_hit rfl ?_
    refine then_n ?_
    refine swp_seq ?_
    refine swp_region ?_
    refine s_pu (pu_move rfl) ?_
    refine s_pu (pu_assign rfl) ?_
    refine swl_sub _ (.cons (t := 6) rfl .nil) ?_
    refine swl_nil ?_
    refine then_n ?_
    refine swp_ret ?_
    exact done_ret [blk t 139 tabC] (.tmp rfl .nil) ⟨by rw [hd]; rfl, rfl⟩ (by repeat (first | exact Split.nil | (apply Split.cons; (repeat (first | with_reducible exact Take.here | apply Take.there)))))
set_option maxHeartbeats 1000000 in
theorem sum_spec (g cap : Nat) (s : ByteArray) (hs : s.size ≤ 1073741824) : Spec Try.prog 82 [.slice (some ⟨g, 0, none⟩) 1 cap] [blk g 9 [.string s]] (fun v L => v = .int .u32 ((sumW s.data.toList).toNat : Nat) ∧ L = []) := by
  refine Spec.of 20 Try.func82 rfl rfl rfl ?_
  refine swp_seq ?_
  refine swp_region ?_
  refine s_pu (pu_assign rfl) ?_
  refine swl_sub _ (.cons (t := 0) rfl .nil) ?_
  refine swl_nil ?_
  refine then_n ?_
  refine swp_seq ?_
  refine swp_region ?_
  refine s_ef (ef_fn rows_spec rfl rfl (by repeat (first | exact Split.nil | (apply Split.cons; (repeat (first | with_reducible exact Take.here | apply Take.there)))))) ?_
  rintro v7 L1 ⟨rfl, rfl⟩
  refine swl_app ?_
  refine s_ef (ef_alloc) ?_
  intro b3
  refine s_ef0 (ef_storeAs rfl rfl (cs' := tabC) (by unfold over; rw [List.take_zero, List.nil_append, List.drop_eq_nil_of_le (by rw [List.length_replicate, tabC_len]; decide), List.append_nil]) (by rw [List.length_replicate, tabC_len]; decide) tabC_len tabC_one) ?_
  refine swl_sub _ (.cons (t := 0) rfl (.cons (t := 3) rfl .nil)) ?_
  refine swl_nil ?_
  refine then_n ?_
  refine swp_seq ?_
  refine swp_region ?_
  refine s_pu (pu_assign rfl) ?_
  refine swl_sub _ (.cons (t := 0) rfl (.cons (t := 3) rfl (.cons (t := 4) rfl .nil))) ?_
  refine swl_nil ?_
  refine then_n ?_
  refine swp_seq ?_
  refine swp_seq ?_
  refine swp_region ?_
  refine s_pu (pu_move rfl) ?_
  refine s_pu (pu_len rfl) ?_
  refine s_pu (pu_move rfl) ?_
  refine swl_sub _ (.cons (t := 3) rfl (.cons (t := 4) rfl (.cons (t := 8) rfl (.cons (t := 9) rfl (.cons (t := 10) rfl .nil))))) ?_
  refine swl_nil ?_
  refine then_n ?_
  refine swp_block ?_
  refine swp_loop (ι := Nat) (fun i env L => Sub env [(3, .pointer (some ⟨b3, 0, none⟩)), (4, .int .u32 ((if i = 0 then (~~~ 0#32) else crcW (~~~ 0#32) s.data.toList).toNat : Nat)), (8, .slice (some ⟨g, 0, none⟩) 1 cap), (9, .int .i64 1), (10, .int .i64 (i : Nat))] ∧ L = [blk b3 139 tabC, blk g 9 [.string s]] ∧ i ≤ 1) (fun i => 1 - i) 0 ⟨⟨rfl, rfl, rfl, rfl, rfl, trivial⟩, rfl, Nat.zero_le _⟩ ?_
  rintro i env L ⟨hsub, rfl, hi⟩
  refine swp_sub _ hsub ?_
  clear hsub env
  refine swp_seq ?_
  refine swp_region ?_
  refine s_pu (pu_lss rfl rfl) ?_
  refine swl_sub _ (.cons (t := 3) rfl (.cons (t := 4) rfl (.cons (t := 8) rfl (.cons (t := 9) rfl (.cons (t := 10) rfl (.cons (t := 11) rfl .nil)))))) ?_
  refine swl_nil ?_
  refine then_n ?_
  refine swp_seq ?_
  refine swp_cond (b := _) rfl (fun h11 => ?_) (fun h11 => ?_)
  · skip   -- 11 T
    have h11' : i < 1 := by have := of_decide_eq_true h11; omega
    obtain rfl : i = 0 := by omega
    refine swp_skip ?_
    refine then_n ?_
    refine swp_seq ?_
    refine swp_block ?_
    refine swp_seq ?_
    refine swp_region ?_
    refine s_pu (pu_indexAddr 0 rfl rfl (by omega) (by omega) (by decide)) ?_
    refine s_rd (rd_load rfl rfl) ?_
    refine s_pu (pu_assign rfl) ?_
    refine swl_sub _ (.cons (t := 3) rfl (.cons (t := 4) rfl (.cons (t := 6) rfl (.cons (t := 8) rfl (.cons (t := 9) rfl (.cons (t := 10) rfl .nil)))))) ?_
    refine swl_nil ?_
    refine then_n ?_
    refine swp_region ?_
    refine s_pu (pu_move rfl) ?_
    refine s_pu (pu_move rfl) ?_
    refine s_ef (ef_fn (take_spec (~~~ 0#32) b3 s hs) rfl rfl (by repeat (first | exact Split.nil | (apply Split.cons; (repeat (first | with_reducible exact Take.here | apply Take.there)))))) ?_
    rintro v16 L1 ⟨rfl, rfl⟩
    refine swl_app ?_
    refine s_pu (pu_assign rfl) ?_
    refine swl_sub _ (.cons (t := 3) rfl (.cons (t := 4) rfl (.cons (t := 8) rfl (.cons (t := 9) rfl (.cons (t := 10) rfl .nil))))) ?_
    refine swl_nil ?_
    refine block_n ?_
    refine then_n ?_
    refine swp_region ?_
    refine s_pu (pu_add_as ((1 : Nat) : Int) rfl rfl (by omega) (by omega) (by omega)) ?_
    refine s_pu (pu_move rfl) ?_
    refine swl_sub _ (.cons (t := 3) rfl (.cons (t := 4) rfl (.cons (t := 8) rfl (.cons (t := 9) rfl (.cons (t := 10) rfl .nil))))) ?_
    refine swl_nil ?_
    exact then_n ⟨1, ⟨⟨rfl, rfl, rfl, rfl, rfl, trivial⟩, rfl, Nat.le_refl _⟩, by decide⟩
  · skip   -- 11 F
    have h11' := of_decide_eq_false h11
    obtain rfl : i = 1 := by omega
    refine swp_exit ?_
    refine then_x ?_
    refine then_x ?_
    refine block_hit rfl ?_
    refine then_n ?_
    refine swp_seq ?_
    refine swp_region ?_
    refine s_pu (pu_move rfl) ?_
    refine s_pu (pu_not_w32 rfl) ?_
    refine s_pu (pu_assign rfl) ?_
    refine swl_sub _ (.cons (t := 2) rfl .nil) ?_
    refine swl_nil ?_
    refine then_n ?_
    refine swp_ret ?_
    exact done_ret [] (.tmp rfl .nil) ⟨rfl, rfl⟩ (by repeat (first | exact Split.nil | (apply Split.cons; (repeat (first | with_reducible exact Take.here | apply Take.there)))))
end SX
namespace SX
open Go Go.Proofs
theorem bcs_app (a b : List UInt8) : bcs (a ++ b) = bcs a ++ bcs b := List.flatMap_append
set_option maxHeartbeats 1000000 in
theorem fixed_spec (p : Nat) (v : Value) (x : BitVec 64) (n : Nat) (bs : List UInt8) (hn : n ≤ 8) (hb : bs.length ≤ 1073741824) :
    Spec Try.prog 81 [.pointer (some ⟨p, 0, none⟩), .int .u64 (x.toNat : Nat), .int .i64 (n : Nat)] [blk p 122 [v], own 5 1 v bs.length (bcs bs)] (fun r L => r = .tuple #[] ∧ ∃ v', L = [blk p 122 [v'], own 5 1 v' (bs ++ bigW x n).length (bcs (bs ++ bigW x n))]) := by
  refine Spec.of 28 Try.func81 rfl rfl rfl ?_
  refine swp_seq ?_
  refine swp_seq ?_
  refine swp_region ?_
  refine s_pu (pu_move rfl) ?_
  refine s_pu (pu_ptr_eq_nil rfl rfl) ?_
  refine swl_sub _ (.cons (t := 0) rfl (.cons (t := 1) rfl (.cons (t := 2) rfl (.cons (t := 7) rfl .nil)))) ?_
  refine swl_nil ?_
  refine then_n ?_
  refine swp_cond (b := _) rfl (fun h7 => by cases h7) (fun h7 => ?_)
  refine swp_skip ?_
  refine then_n ?_
  refine swp_seq ?_
  refine swp_region ?_
  refine s_pu (pu_move rfl) ?_
  refine s_pu (pu_sub_as ((n : Int) - 1) rfl rfl (by omega) (by omega) (by omega)) ?_
  refine s_pu (pu_assign rfl) ?_
  refine swl_sub _ (.cons (t := 0) rfl (.cons (t := 1) rfl (.cons (t := 2) rfl .nil))) ?_
  refine swl_nil ?_
  refine then_n ?_
  refine swp_block ?_
  refine swp_loop (ι := Nat × Value) (fun k env L => Sub env [(0, .pointer (some ⟨p, 0, none⟩)), (1, .int .u64 (x.toNat : Nat)), (2, .int .i64 ((k.1 : Int) - 1))] ∧ Ent L [blk p 122 [k.2], own 5 1 k.2 (bs ++ (bigW x n).take (n - k.1)).length (bcs (bs ++ (bigW x n).take (n - k.1)))] ∧ k.1 ≤ n) (fun k => k.1) (n, v) ⟨⟨rfl, rfl, rfl, trivial⟩, by show Ent _ [blk p 122 [v], own 5 1 v (bs ++ (bigW x n).take (n - n)).length (bcs (bs ++ (bigW x n).take (n - n)))]; rw [Nat.sub_self, List.take_zero, List.append_nil]; exact Ent.refl _, Nat.le_refl _⟩ ?_
  rintro ⟨r, v1⟩ env L ⟨hsub, hE, hr⟩
  simp only [] at hsub hE hr
  refine swp_sub _ hsub ?_
  refine swp_ent hE ?_
  clear hsub hE env L
  dsimp only
  have hlen : (bs ++ (bigW x n).take (n - r)).length = bs.length + (n - r) := by rw [List.length_append, List.length_take, bigW_len]; omega
  refine swp_seq ?_
  refine swp_seq ?_
  refine swp_region ?_
  refine s_pu (pu_move rfl) ?_
  refine s_pu (pu_geq rfl rfl) ?_
  refine swl_sub _ (.cons (t := 0) rfl (.cons (t := 1) rfl (.cons (t := 2) rfl (.cons (t := 11) rfl .nil)))) ?_
  refine swl_nil ?_
  refine then_n ?_
  refine swp_cond (b := _) rfl (fun h11 => ?_) (fun h11 => ?_)
  · skip   -- 11 T
    have h11' : 1 ≤ r := by have := of_decide_eq_true h11; omega
    refine swp_skip ?_
    refine then_n ?_
    refine swp_seq ?_
    refine swp_block ?_
    refine swp_draw [4] _ [] (by simp only [List.append_nil]; exact Ent.refl _) (by kernel_rfl) ?_
    refine d_pu 0 rfl (pu_move rfl) (by kernel_rfl) (by kernel_rfl) (by kernel_rfl) ?_
    refine d_pu 1 rfl (pu_move rfl) (by kernel_rfl) (by kernel_rfl) (by kernel_rfl) ?_
    first | refine d_pu 2 rfl (pu_nilCheck rfl) (by kernel_rfl) (by kernel_rfl) (by kernel_rfl) ?_ | refine d_pu 2 rfl (pu_nilCheck_fn rfl) (by kernel_rfl) (by kernel_rfl) (by kernel_rfl) ?_ | refine d_pu 2 rfl (pu_nilCheck_if rfl) (by kernel_rfl) (by kernel_rfl) (by kernel_rfl) ?_
    first | refine d_pu 3 rfl (pu_fieldAddr0 rfl) (by kernel_rfl) (by kernel_rfl) (by kernel_rfl) ?_ | refine d_pu 3 rfl (pu_fieldAddr rfl) (by kernel_rfl) (by kernel_rfl) (by kernel_rfl) ?_
    refine d_rd 4 rfl (rd_load rfl rfl) rfl (by kernel_rfl) (by kernel_rfl) (by kernel_rfl) ?_
    refine d_pu 5 rfl (pu_move rfl) (by kernel_rfl) (by kernel_rfl) (by kernel_rfl) ?_
    refine d_pu 6 rfl (pu_move rfl) (by kernel_rfl) (by kernel_rfl) (by kernel_rfl) ?_
    refine d_pu 7 rfl (pu_mul_as ((8 * (r - 1) : Nat) : Int) rfl rfl (by omega) (by omega) (by omega)) (by kernel_rfl) (by kernel_rfl) (by kernel_rfl) ?_
    refine d_pu 8 rfl (pu_shr_w (8 * (r - 1)) rfl rfl (by omega)) (by kernel_rfl) (by kernel_rfl) (by kernel_rfl) ?_
    refine d_pu 9 rfl (pu_low8 (x >>> (8 * (r - 1))) (by decide) rfl rfl) (by kernel_rfl) (by kernel_rfl) (by kernel_rfl) ?_
    refine d_eft 10 rfl (by kernel_rfl) (ef_bldS (qs := [(0, _)]) rfl rfl rfl) ?_
    intro b24
    refine ⟨_, Split.ent (by repeat (first | exact Split.nil | (apply Split.cons; (repeat (first | with_reducible exact Take.here | apply Take.there))))), ?_⟩
    first | refine d_fint 11 rfl (by kernel_rfl) (by kernel_rfl) (ef_append_lit (m := 1) rfl rfl (by repeat (first | exact Split.nil | (apply Split.cons; (repeat (first | with_reducible exact Take.here | apply Take.there))))) (by rw [hlen]; simp only [maxLen]; omega) (by rw [hlen]; omega)) ?_ | refine d_finf 11 rfl (by kernel_rfl) (by kernel_rfl) (ef_append_lit (m := 1) rfl rfl (by repeat (first | exact Split.nil | (apply Split.cons; (repeat (first | with_reducible exact Take.here | apply Take.there))))) (by rw [hlen]; simp only [maxLen]; omega) (by rw [hlen]; omega)) ?_
    rintro v25 hv25
    obtain ⟨g25, c25, rfl⟩ := hv25 (by decide)
    first | refine d_pu 12 rfl (pu_nilCheck rfl) (by kernel_rfl) (by kernel_rfl) (by kernel_rfl) ?_ | refine d_pu 12 rfl (pu_nilCheck_fn rfl) (by kernel_rfl) (by kernel_rfl) (by kernel_rfl) ?_ | refine d_pu 12 rfl (pu_nilCheck_if rfl) (by kernel_rfl) (by kernel_rfl) (by kernel_rfl) ?_
    first | refine d_pu 13 rfl (pu_fieldAddr0 rfl) (by kernel_rfl) (by kernel_rfl) (by kernel_rfl) ?_ | refine d_pu 13 rfl (pu_fieldAddr rfl) (by kernel_rfl) (by kernel_rfl) (by kernel_rfl) ?_
    first | refine d_fin0t 14 rfl (by kernel_rfl) (by kernel_rfl) (ef_store rfl rfl rfl) ?_ | refine d_fin0f 14 rfl (by kernel_rfl) (by kernel_rfl) (ef_store rfl rfl rfl) ?_
    refine d_sub _ (.cons (t := 0) rfl (.cons (t := 1) rfl (.cons (t := 2) rfl .nil))) ?_
    first | refine d_nilt (by kernel_rfl) ?_ | refine d_nilf (by kernel_rfl) ?_
    refine block_n ?_
    refine then_n ?_
    refine swp_region ?_
    refine s_pu (pu_move rfl) ?_
    refine s_pu (pu_sub_as (((r - 1 : Nat) : Int) - 1) rfl rfl (by omega) (by omega) (by omega)) ?_
    refine s_pu (pu_assign rfl) ?_
    refine swl_sub _ (.cons (t := 0) rfl (.cons (t := 1) rfl (.cons (t := 2) rfl .nil))) ?_
    refine swl_nil ?_
    have hge := bigW_get x (n := n) (i := n - r) (by omega)
    have e1 : n - (r - 1) = n - r + 1 := by omega
    have e2 : n - 1 - (n - r) = r - 1 := by omega
    rw [e2] at hge
    have e3 : bs ++ (bigW x n).take (n - (r - 1)) = (bs ++ (bigW x n).take (n - r)) ++ [UInt8.ofBitVec ((x >>> (8 * (r - 1))).setWidth 8)] := by
      rw [e1, List.take_add_one, hge, List.append_assoc]; rfl
    refine then_n ⟨(r - 1, (.slice (some ⟨g25, 0, none⟩) ((bs ++ (bigW x n).take (n - r)).length + 1) c25)), ⟨⟨rfl, rfl, rfl, trivial⟩, ?_, by show r - 1 ≤ n; omega⟩, by show r - 1 < r; omega⟩
    show Ent _ [blk p 122 [(.slice (some ⟨g25, 0, none⟩) ((bs ++ (bigW x n).take (n - r)).length + 1) c25)], own 5 1 (.slice (some ⟨g25, 0, none⟩) ((bs ++ (bigW x n).take (n - r)).length + 1) c25) (bs ++ (bigW x n).take (n - (r - 1))).length (bcs (bs ++ (bigW x n).take (n - (r - 1))))]
    have e4 : ((bs ++ (bigW x n).take (n - r)) ++ [UInt8.ofBitVec ((x >>> (8 * (r - 1))).setWidth 8)]).length = (bs ++ (bigW x n).take (n - r)).length + 1 := by generalize bs ++ (bigW x n).take (n - r) = q; rw [List.length_append]; rfl
    have e5 : bcs ((bs ++ (bigW x n).take (n - r)) ++ [UInt8.ofBitVec ((x >>> (8 * (r - 1))).setWidth 8)]) = bcs (bs ++ (bigW x n).take (n - r)) ++ [.int .u8 (((x >>> (8 * (r - 1))).setWidth 8).toNat : Nat)] := by generalize bs ++ (bigW x n).take (n - r) = q; rw [bcs_app]; rfl
    rw [e3, e4, e5]
    exact Split.ent' (by repeat (first | exact Split.nil | (apply Split.cons; (repeat (first | with_reducible exact Take.here | apply Take.there)))))
  · skip   -- 11 F
    have h11' := of_decide_eq_false h11
    obtain rfl : r = 0 := by omega
    rw [Nat.sub_zero, List.take_of_length_le (by rw [bigW_len]; exact Nat.le_refl _)]
    refine swp_exit ?_
    refine then_x ?_
    refine then_x ?_
    refine block_hit rfl ?_
    exact done_ret [blk p 122 [v1], own 5 1 v1 (bs ++ bigW x n).length (bcs (bs ++ bigW x n))] .nil ⟨rfl, v1, rfl⟩ (by repeat (first | exact Split.nil | (apply Split.cons; (repeat (first | with_reducible exact Take.here | apply Take.there)))))
theorem newW_spec : Spec Try.prog 58 [] [] (fun r L => ∃ p, r = .pointer (some ⟨p, 0, none⟩) ∧ L = [blk p 122 [.slice none 0 0]]) := by
  refine Spec.of 3 Try.func58 rfl rfl rfl ?_
  refine swp_seq ?_
  refine swp_region ?_
  refine s_pu (pu_assign rfl) ?_
  refine swl_sub _ .nil ?_
  refine swl_nil ?_
  refine then_n ?_
  refine swp_seq ?_
  refine swp_region ?_
  refine s_pu (pu_bld (qs := []) rfl) ?_
  refine s_ef (ef_box rfl rfl) ?_
  intro b2
  refine s_pu (pu_assign rfl) ?_
  refine swl_sub _ (.cons (t := 0) rfl .nil) ?_
  refine swl_nil ?_
  refine then_n ?_
  refine swp_ret ?_
  exact done_ret [blk b2 122 [.slice none 0 0]] (.tmp rfl .nil) ⟨b2, rfl, rfl⟩ (by repeat (first | exact Split.nil | (apply Split.cons; (repeat (first | with_reducible exact Take.here | apply Take.there)))))
end SX
namespace SX
open Go Go.Proofs
/-! the writer -/
def wrA (p : Nat) (bs : List UInt8) : Assn := exA fun v : Value => [blk p 122 [v], own 5 1 v bs.length (bcs bs)]
theorem wr_close {p : Nat} {v : Value} {bs : List UInt8} {L : List Assn} : Ent (blk p 122 [v] :: own 5 1 v bs.length (bcs bs) :: L) (wrA p bs :: L) :=
  ent_ex (F := fun v : Value => [blk p 122 [v], own 5 1 v bs.length (bcs bs)]) v (by repeat (first | exact Split.nil | (apply Split.cons; (repeat (first | with_reducible exact Take.here | apply Take.there)))))
instance zvU8T : TZv Try.prog 5 (.int .u8 0) := ⟨by kernel_rfl⟩
theorem wNew_spec : Spec Try.prog 58 [] [] (fun r L => ∃ p, r = .pointer (some ⟨p, 0, none⟩) ∧ L = [wrA p []]) :=
  Spec.ent3 newW_spec fun r L ⟨p, h1, h2⟩ => ⟨[wrA p []], by
    rw [h2]
    exact (show Ent [blk p 122 [.slice none 0 0]] (own 5 1 (.slice none 0 0) 0 [] :: [blk p 122 [.slice none 0 0]]) from own_nil_ent).trans (Ent.swap.trans (wr_close (p := p) (v := .slice none 0 0) (bs := []))), p, h1, rfl⟩
theorem wFixed_spec (p n k : Nat) (bs : List UInt8) (hk : k ≤ 8) (hn : n < 18446744073709551616) (hb : bs.length ≤ 1073741824) : Spec Try.prog 81 [.pointer (some ⟨p, 0, none⟩), .int .u64 (n : Nat), .int .i64 (k : Nat)] [wrA p bs] (fun r L => r = .tuple #[] ∧ L = [wrA p (bs ++ numB k n)]) := by
  refine Spec.exA' fun v => ?_
  simp only [List.cons_append, List.nil_append]
  have e : (BitVec.ofNat 64 n).toNat = n := by rw [BitVec.toNat_ofNat]; exact Nat.mod_eq_of_lt hn
  have h := fixed_spec p v (BitVec.ofNat 64 n) k bs hk hb
  rw [e] at h
  exact Spec.ent3 h fun r L ⟨h1, v', h2⟩ => ⟨[wrA p (bs ++ numB k n)], by rw [h2]; exact wr_close, h1, rfl⟩
theorem wU8_spec (p n : Nat) (bs : List UInt8) (hn : n < 256) (hb : bs.length ≤ 1073741824) : Spec Try.prog 61 [.pointer (some ⟨p, 0, none⟩), .int .u8 (n : Nat)] [wrA p bs] (fun r L => r = .tuple #[] ∧ L = [wrA p (bs ++ numB 1 n)]) := by
  refine Spec.of 8 Try.func61 rfl rfl rfl ?_
  refine swp_region ?_
  refine s_pu (pu_move rfl) ?_
  refine s_pu (pu_move rfl) ?_
  refine s_pu (pu_conv_u64 rfl (by omega) (by omega)) ?_
  refine s_ef (ef_fn (wFixed_spec p n 1 bs (by decide) (by omega) hb) rfl rfl (by repeat (first | exact Split.nil | (apply Split.cons; (repeat (first | with_reducible exact Take.here | apply Take.there)))))) ?_
  rintro v7 L1 ⟨rfl, rfl⟩
  refine swl_app ?_
  refine swl_sub _ .nil ?_
  refine swl_nil ?_
  exact done_ret [wrA p (bs ++ numB 1 n)] .nil ⟨rfl, rfl⟩ (by repeat (first | exact Split.nil | (apply Split.cons; (repeat (first | with_reducible exact Take.here | apply Take.there)))))
theorem wU16_spec (p n : Nat) (bs : List UInt8) (hn : n < 65536) (hb : bs.length ≤ 1073741824) : Spec Try.prog 59 [.pointer (some ⟨p, 0, none⟩), .int .u16 (n : Nat)] [wrA p bs] (fun r L => r = .tuple #[] ∧ L = [wrA p (bs ++ numB 2 n)]) := by
  refine Spec.of 8 Try.func59 rfl rfl rfl ?_
  refine swp_region ?_
  refine s_pu (pu_move rfl) ?_
  refine s_pu (pu_move rfl) ?_
  refine s_pu (pu_conv_u64 rfl (by omega) (by omega)) ?_
  refine s_ef (ef_fn (wFixed_spec p n 2 bs (by decide) (by omega) hb) rfl rfl (by repeat (first | exact Split.nil | (apply Split.cons; (repeat (first | with_reducible exact Take.here | apply Take.there)))))) ?_
  rintro v7 L1 ⟨rfl, rfl⟩
  refine swl_app ?_
  refine swl_sub _ .nil ?_
  refine swl_nil ?_
  exact done_ret [wrA p (bs ++ numB 2 n)] .nil ⟨rfl, rfl⟩ (by repeat (first | exact Split.nil | (apply Split.cons; (repeat (first | with_reducible exact Take.here | apply Take.there)))))
theorem wU32_spec (p n : Nat) (bs : List UInt8) (hn : n < 4294967296) (hb : bs.length ≤ 1073741824) : Spec Try.prog 63 [.pointer (some ⟨p, 0, none⟩), .int .u32 (n : Nat)] [wrA p bs] (fun r L => r = .tuple #[] ∧ L = [wrA p (bs ++ numB 4 n)]) := by
  refine Spec.of 8 Try.func63 rfl rfl rfl ?_
  refine swp_region ?_
  refine s_pu (pu_move rfl) ?_
  refine s_pu (pu_move rfl) ?_
  refine s_pu (pu_conv_u64 rfl (by omega) (by omega)) ?_
  refine s_ef (ef_fn (wFixed_spec p n 4 bs (by decide) (by omega) hb) rfl rfl (by repeat (first | exact Split.nil | (apply Split.cons; (repeat (first | with_reducible exact Take.here | apply Take.there)))))) ?_
  rintro v7 L1 ⟨rfl, rfl⟩
  refine swl_app ?_
  refine swl_sub _ .nil ?_
  refine swl_nil ?_
  exact done_ret [wrA p (bs ++ numB 4 n)] .nil ⟨rfl, rfl⟩ (by repeat (first | exact Split.nil | (apply Split.cons; (repeat (first | with_reducible exact Take.here | apply Take.there)))))
theorem wRaw_spec (p : Nat) (bs s : List UInt8) (hb : bs.length ≤ 1073741824) (hs : s.length ≤ 1073741824) : Spec Try.prog 62 [.pointer (some ⟨p, 0, none⟩), .string (str s)] [wrA p bs] (fun r L => r = .tuple #[] ∧ L = [wrA p (bs ++ s)]) := by
  refine Spec.exA' fun v => ?_
  simp only [List.cons_append, List.nil_append]
  refine Spec.ent3 (post := fun r L => r = .tuple #[] ∧ ∃ v', L = [blk p 122 [v'], own 5 1 v' (bs ++ s).length (bcs (bs ++ s))]) ?_ (fun r L ⟨h1, v', h2⟩ => ⟨[wrA p (bs ++ s)], by rw [h2]; exact wr_close, h1, rfl⟩)
  refine Spec.of 15 Try.func62 rfl rfl rfl ?_
  refine swp_seq ?_
  refine swp_region ?_
  refine s_pu (pu_move rfl) ?_
  refine s_pu (pu_ptr_ne_nil rfl rfl) ?_
  refine swl_sub _ (.cons (t := 0) rfl (.cons (t := 1) rfl (.cons (t := 5) rfl .nil))) ?_
  refine swl_nil ?_
  refine then_n ?_
  refine swp_cond (b := _) rfl (fun h5 => ?_) (fun h5 => by cases h5)
  refine swp_region ?_
  refine s_pu (pu_move rfl) ?_
  refine s_pu (pu_move rfl) ?_
  first | refine s_pu (pu_nilCheck rfl) ?_ | refine s_pu (pu_nilCheck_fn rfl) ?_ | refine s_pu (pu_nilCheck_if rfl) ?_
  first | refine s_pu (pu_fieldAddr0 rfl) ?_ | refine s_pu (pu_fieldAddr rfl) ?_
  refine s_rd (rd_load rfl rfl) ?_
  refine s_pu (pu_move rfl) ?_
  refine s_ef (ef_append_str rfl rfl (by repeat (first | exact Split.nil | (apply Split.cons; (repeat (first | with_reducible exact Take.here | apply Take.there))))) (by rw [str_len]; omega)) ?_
  rintro v12 c12
  have e1 : bs.length + (str s).size = (bs ++ s).length := by rw [str_len, List.length_append]
  have e2 : bcs bs ++ bcs (str s).data.toList = bcs (bs ++ s) := by rw [bcs_app]
  rw [e1, e2]
  first | refine s_pu (pu_nilCheck rfl) ?_ | refine s_pu (pu_nilCheck_fn rfl) ?_ | refine s_pu (pu_nilCheck_if rfl) ?_
  first | refine s_pu (pu_fieldAddr0 rfl) ?_ | refine s_pu (pu_fieldAddr rfl) ?_
  refine s_ef0 (ef_store rfl rfl rfl) ?_
  refine swl_sub _ .nil ?_
  refine swl_nil ?_
  exact done_ret [blk p 122 [.slice v12 (bs ++ s).length c12], own 5 1 (.slice v12 (bs ++ s).length c12) (bs ++ s).length (bcs (bs ++ s))] .nil ⟨rfl, _, rfl⟩ (by repeat (first | exact Split.nil | (apply Split.cons; (repeat (first | with_reducible exact Take.here | apply Take.there)))))
theorem wBytes_spec (p : Nat) (bs : List UInt8) (_ : bs ≠ []) : Spec Try.prog 64 [.pointer (some ⟨p, 0, none⟩)] [wrA p bs] (fun r L => r = .string (str bs) ∧ L = [wrA p bs]) := by
  refine Spec.exA' fun v => ?_
  simp only [List.cons_append, List.nil_append]
  refine Spec.ent3 (post := fun r L => r = .string (str bs) ∧ L = [blk p 122 [v], own 5 1 v bs.length (bcs bs)]) ?_ (fun r L ⟨h1, h2⟩ => ⟨[wrA p bs], by rw [h2]; exact wr_close, h1, rfl⟩)
  refine Spec.of 10 Try.func64 rfl rfl rfl ?_
  refine swp_seq ?_
  refine swp_region ?_
  refine s_pu (pu_assign rfl) ?_
  refine swl_sub _ (.cons (t := 0) rfl .nil) ?_
  refine swl_nil ?_
  refine then_n ?_
  refine swp_seq ?_
  refine swp_seq ?_
  refine swp_region ?_
  refine s_pu (pu_move rfl) ?_
  refine s_pu (pu_ptr_eq_nil rfl rfl) ?_
  refine swl_sub _ (.cons (t := 0) rfl (.cons (t := 4) rfl .nil)) ?_
  refine swl_nil ?_
  refine then_n ?_
  refine swp_cond (b := _) rfl (fun h4 => by cases h4) (fun h4 => ?_)
  refine swp_skip ?_
  refine then_n ?_
  refine swp_seq ?_
  refine swp_region ?_
  refine s_pu (pu_move rfl) ?_
  first | refine s_pu (pu_nilCheck rfl) ?_ | refine s_pu (pu_nilCheck_fn rfl) ?_ | refine s_pu (pu_nilCheck_if rfl) ?_
  first | refine s_pu (pu_fieldAddr0 rfl) ?_ | refine s_pu (pu_fieldAddr rfl) ?_
  refine s_rd (rd_load rfl rfl) ?_
  refine s_rd (rd_bytes_own bs rfl (by repeat (first | with_reducible exact Take.here | apply Take.there))) ?_
  refine s_pu (pu_assign rfl) ?_
  refine swl_sub _ (.cons (t := 2) rfl .nil) ?_
  refine swl_nil ?_
  refine then_n ?_
  refine swp_ret ?_
  exact done_ret [blk p 122 [v], own 5 1 v bs.length (bcs bs)] (.tmp rfl .nil) ⟨rfl, rfl⟩ (by repeat (first | exact Split.nil | (apply Split.cons; (repeat (first | with_reducible exact Take.here | apply Take.there)))))
/-! the document's reader -/
end SX
namespace Go.Proofs
open Go.Shelf
end Go.Proofs
namespace SX
open Go Go.Proofs
theorem tree_at {μ : PH} {v : Value} {l : List En} (h : Row μ v 2 l.length (ens l)) {i : Nat} {e : En} (hi : l[i]? = some e) : ∃ b off cap, v = .slice (some ⟨b, off, none⟩) l.length cap ∧ RowAt μ b (off + i * 2) (enc1 e) ∧ CellAt μ b (off + i * 2) (.string e.1) ∧ CellAt μ b (off + i * 2 + 1) (.int .u32 e.2) := by
  have hl := (List.getElem?_eq_some_iff.1 hi).1
  obtain ⟨b, off, cap, hv, _, _, hr⟩ := h.pos (by omega)
  have hr' := hr.elem enc1_len hi
  exact ⟨b, off, cap, hv, hr', by have := hr' 0 _ rfl; rwa [Nat.add_zero] at this, hr' 1 _ rfl⟩
end SX
namespace SX
open Go Go.Proofs
end SX
namespace SX
open Go Go.Proofs
end SX
namespace SX
open Go Go.Proofs
/-- what is wrong with entry i -/
def wrongE (t : List En) (i : Nat) : Int :=
  match t[i]? with
  | none => 0
  | some e => if 255 < e.1.size then 5 else if e.2 = 0 then 1 else
    match (if i = 0 then none else t[i - 1]?) with
    | none => 0
    | some d => if strEq e.1 d.1 then 11 else if strLt e.1 d.1 then 10 else 0
/-- Check: the first thing that is wrong -/
def checkE (t : List En) : Int := ((List.range t.length).map (wrongE t)).find? (· ≠ 0) |>.getD 0
theorem checkE_at {t : List En} {i : Nat} (hi : i < t.length) (h1 : ∀ j < i, wrongE t j = 0) (h2 : wrongE t i ≠ 0) : checkE t = wrongE t i := by
  unfold checkE
  have : ((List.range t.length).map (wrongE t)).find? (· ≠ 0) = some (wrongE t i) := by
    rw [List.find?_eq_some_iff_getElem]
    refine ⟨by simpa using h2, i, by simpa using hi, by simp, fun j hj => ?_⟩
    simp [h1 j hj]
  rw [this]; rfl
theorem checkE_ok {t : List En} (h1 : ∀ j < t.length, wrongE t j = 0) : checkE t = 0 := by
  unfold checkE
  have : ((List.range t.length).map (wrongE t)).find? (· ≠ 0) = none := by
    rw [List.find?_eq_none]
    intro x hx
    obtain ⟨j, hj, rfl⟩ := List.mem_map.1 hx
    simp [h1 j (List.mem_range.1 hj)]
  rw [this]; rfl
end SX
namespace SX
open Go Go.Proofs
theorem str_at {l : List UInt8} {i : Nat} {b : UInt8} (h : l[i]? = some b) : (str l).data.toList[i]? = some b := h
set_option maxHeartbeats 1000000 in
theorem alike_spec (a b : List UInt8) (ha : a.length ≤ 1073741824) (_ : b.length ≤ 1073741824) : Spec Try.prog 60 [.string (str a), .string (str b)] [] (fun v L => v = .int .i64 (lcp a b : Nat) ∧ L = []) := by
  refine Spec.of 25 Try.func60 rfl rfl rfl ?_
  refine swp_seq ?_
  refine swp_region ?_
  refine s_pu (pu_assign rfl) ?_
  refine swl_sub _ (.cons (t := 0) rfl (.cons (t := 1) rfl .nil)) ?_
  refine swl_nil ?_
  refine then_n ?_
  refine swp_seq ?_
  refine swp_region ?_
  refine s_pu (pu_assign rfl) ?_
  refine swl_sub _ (.cons (t := 0) rfl (.cons (t := 1) rfl (.cons (t := 5) rfl .nil))) ?_
  refine swl_nil ?_
  refine then_n ?_
  refine swp_seq ?_
  refine swp_block ?_
  refine swp_loop (ι := Nat) (fun i env L => Sub env [(0, .string (str a)), (1, .string (str b)), (5, .int .i64 (i : Nat))] ∧ L = [] ∧ i ≤ a.length ∧ i ≤ b.length ∧ a.take i = b.take i) (fun i => a.length - i) 0 ⟨⟨rfl, rfl, rfl, trivial⟩, rfl, Nat.zero_le _, Nat.zero_le _, rfl⟩ ?_
  rintro i env L ⟨hsub, rfl, hi, hj, he⟩
  refine swp_sub _ hsub ?_
  clear hsub env
  refine swp_seq ?_
  refine swp_seq ?_
  refine swp_draw [] _ [] (by simp only [List.append_nil]; exact Ent.refl _) (by kernel_rfl) ?_
  refine d_pu 0 rfl (pu_move rfl) (by kernel_rfl) (by kernel_rfl) (by kernel_rfl) ?_
  refine d_pu 1 rfl (pu_move rfl) (by kernel_rfl) (by kernel_rfl) (by kernel_rfl) ?_
  refine d_pu 2 rfl (pu_strln rfl) (by kernel_rfl) (by kernel_rfl) (by kernel_rfl) ?_
  refine d_pu 3 rfl (pu_move rfl) (by kernel_rfl) (by kernel_rfl) (by kernel_rfl) ?_
  refine d_pu 4 rfl (pu_strln rfl) (by kernel_rfl) (by kernel_rfl) (by kernel_rfl) ?_
  refine d_pu 5 rfl (pu_min2 rfl rfl) (by kernel_rfl) (by kernel_rfl) (by kernel_rfl) ?_
  refine d_pu 6 rfl (pu_lss rfl rfl) (by kernel_rfl) (by kernel_rfl) (by kernel_rfl) ?_
  refine d_pu 7 rfl (pu_move rfl) (by kernel_rfl) (by kernel_rfl) (by kernel_rfl) ?_
  refine d_split 13 rfl (fun h13 => ?_) (fun h13 => ?_)
  · skip   -- 13 T
    have h13' : i < a.length ∧ i < b.length := by have := of_decide_eq_true h13; omega
    obtain ⟨x, hx⟩ : ∃ x, a[i]? = some x := ⟨_, List.getElem?_eq_getElem h13'.1⟩
    obtain ⟨y, hy⟩ : ∃ y, b[i]? = some y := ⟨_, List.getElem?_eq_getElem h13'.2⟩
    refine d_pu_on 8 rfl rfl rfl (pu_move rfl) (by kernel_rfl) (by kernel_rfl) (by kernel_rfl) ?_
    refine d_pu_on 9 rfl rfl rfl (pu_move rfl) (by kernel_rfl) (by kernel_rfl) (by kernel_rfl) ?_
    refine d_pu_on 10 rfl rfl rfl (pu_str_index (j := i) rfl rfl rfl (str_at hx)) (by kernel_rfl) (by kernel_rfl) (by kernel_rfl) ?_
    refine d_pu_on 11 rfl rfl rfl (pu_move rfl) (by kernel_rfl) (by kernel_rfl) (by kernel_rfl) ?_
    refine d_pu_on 12 rfl rfl rfl (pu_move rfl) (by kernel_rfl) (by kernel_rfl) (by kernel_rfl) ?_
    refine d_pu_on 13 rfl rfl rfl (pu_str_index (j := i) rfl rfl rfl (str_at hy)) (by kernel_rfl) (by kernel_rfl) (by kernel_rfl) ?_
    refine d_pu_on 14 rfl rfl rfl (pu_eql rfl rfl) (by kernel_rfl) (by kernel_rfl) (by kernel_rfl) ?_
    first | refine d_pu 15 rfl (pu_pick_t rfl rfl) (by kernel_rfl) (by kernel_rfl) (by kernel_rfl) ?_ | refine d_pu 15 rfl (pu_pick_f rfl rfl) (by kernel_rfl) (by kernel_rfl) (by kernel_rfl) ?_
    refine d_sub _ (.cons (t := 0) rfl (.cons (t := 1) rfl (.cons (t := 5) rfl (.cons (t := 21) rfl .nil)))) ?_
    first | refine d_nilt (by kernel_rfl) ?_ | refine d_nilf (by kernel_rfl) ?_
    refine then_n ?_
    refine swp_cond (b := _) rfl (fun h21 => ?_) (fun h21 => ?_)
    · skip   -- 21 T
      refine swp_skip ?_
      refine then_n ?_
      refine swp_block ?_
      refine swp_region ?_
      refine s_pu (pu_move rfl) ?_
      refine s_pu (pu_add_as ((i + 1 : Nat) : Int) rfl rfl (by omega) (by omega) (by omega)) ?_
      refine s_pu (pu_assign rfl) ?_
      refine swl_sub _ (.cons (t := 0) rfl (.cons (t := 1) rfl (.cons (t := 5) rfl .nil))) ?_
      refine swl_nil ?_
      refine block_n ?_
      have hxy : x = y := by have := of_decide_eq_true h21; exact UInt8.toNat_inj.1 (by omega)
      refine then_n ⟨i + 1, ⟨⟨rfl, rfl, rfl, trivial⟩, rfl, h13'.1, h13'.2, ?_⟩, by omega⟩
      rw [List.take_add_one, List.take_add_one, hx, hy, he, hxy]
    · skip   -- 21 F
      refine swp_exit ?_
      refine then_x ?_
      refine then_x ?_
      refine block_hit rfl ?_
      refine then_n ?_
      refine swp_seq ?_
      refine swp_region ?_
      refine s_pu (pu_move rfl) ?_
      refine s_pu (pu_assign rfl) ?_
      refine swl_sub _ (.cons (t := 4) rfl .nil) ?_
      refine swl_nil ?_
      refine then_n ?_
      refine swp_ret ?_
      have hne : a[i]? ≠ b[i]? := fun e => by
        rw [hx, hy] at e
        cases e
        rw [decide_eq_true rfl] at h21; cases h21
      rw [lcp_at hi hj he (.inr (.inr hne))]
      exact done_ret [] (.tmp rfl .nil) ⟨rfl, rfl⟩ (by repeat (first | exact Split.nil | (apply Split.cons; (repeat (first | with_reducible exact Take.here | apply Take.there)))))
  · skip   -- 13 F
    refine d_off 8 rfl rfl rfl rfl (by kernel_rfl) (by kernel_rfl) (by kernel_rfl) ?_
    refine d_off 9 rfl rfl rfl rfl (by kernel_rfl) (by kernel_rfl) (by kernel_rfl) ?_
    refine d_off 10 rfl rfl rfl rfl (by kernel_rfl) (by kernel_rfl) (by kernel_rfl) ?_
    refine d_off 11 rfl rfl rfl rfl (by kernel_rfl) (by kernel_rfl) (by kernel_rfl) ?_
    refine d_off 12 rfl rfl rfl rfl (by kernel_rfl) (by kernel_rfl) (by kernel_rfl) ?_
    refine d_off 13 rfl rfl rfl rfl (by kernel_rfl) (by kernel_rfl) (by kernel_rfl) ?_
    refine d_off 14 rfl rfl rfl rfl (by kernel_rfl) (by kernel_rfl) (by kernel_rfl) ?_
    first | refine d_pu 15 rfl (pu_pick_t rfl rfl) (by kernel_rfl) (by kernel_rfl) (by kernel_rfl) ?_ | refine d_pu 15 rfl (pu_pick_f rfl rfl) (by kernel_rfl) (by kernel_rfl) (by kernel_rfl) ?_
    refine d_sub _ (.cons (t := 0) rfl (.cons (t := 1) rfl (.cons (t := 5) rfl (.cons (t := 21) rfl .nil)))) ?_
    first | refine d_nilt (by kernel_rfl) ?_ | refine d_nilf (by kernel_rfl) ?_
    refine then_n ?_
    refine swp_cond (b := _) rfl (fun h21 => by cases h21) (fun h21 => ?_)
    refine swp_exit ?_
    refine then_x ?_
    refine then_x ?_
    refine block_hit rfl ?_
    refine then_n ?_
    refine swp_seq ?_
    refine swp_region ?_
    refine s_pu (pu_move rfl) ?_
    refine s_pu (pu_assign rfl) ?_
    refine swl_sub _ (.cons (t := 4) rfl .nil) ?_
    refine swl_nil ?_
    refine then_n ?_
    refine swp_ret ?_
    have h13' : i = a.length ∨ i = b.length := by have := of_decide_eq_false h13; omega
    rw [lcp_at hi hj he (h13'.imp id .inl)]
    exact done_ret [] (.tmp rfl .nil) ⟨rfl, rfl⟩ (by repeat (first | exact Split.nil | (apply Split.cons; (repeat (first | with_reducible exact Take.here | apply Take.there)))))
end SX
namespace SX
open Go Go.Proofs
theorem wrongE_at {t : List En} {i : Nat} {e : En} (he : t[i]? = some e) : (255 < e.1.size → wrongE t i = 5) ∧ (¬ 255 < e.1.size → e.2 = 0 → wrongE t i = 1) ∧ (¬ 255 < e.1.size → ¬ e.2 = 0 → i = 0 → wrongE t i = 0) ∧
    ∀ d, ¬ 255 < e.1.size → ¬ e.2 = 0 → 0 < i → t[i - 1]? = some d → wrongE t i = if strEq e.1 d.1 = true then 11 else if strLt e.1 d.1 = true then 10 else 0 := by
  refine ⟨fun h1 => ?_, fun h1 h2 => ?_, fun h1 h2 h3 => ?_, fun d h1 h2 h3 h4 => ?_⟩
  · unfold wrongE; rw [he]; simp only [if_pos h1]
  · unfold wrongE; rw [he]; simp only [if_neg h1, if_pos h2]
  · unfold wrongE; rw [he]; simp only [if_neg h1, if_neg h2, if_pos h3]
  · unfold wrongE; rw [he]; simp only [if_neg h1, if_neg h2, if_neg (Nat.ne_of_gt h3), h4]
set_option maxHeartbeats 2000000 in
theorem tcheck_spec (μ : PH) (v : Value) (t : List En) (h : Row μ v 2 t.length (ens t)) (hsz : t.length ≤ 1048576) : Spec Try.prog 57 [v] [ro μ] (fun r L => r = .int .i64 (checkE t) ∧ L = [ro μ]) := by
  refine Spec.of 50 Try.func57 rfl rfl rfl ?_
  refine swp_seq ?_
  refine swp_region ?_
  refine s_pu (pu_assign rfl) ?_
  refine swl_sub _ (.cons (t := 0) rfl .nil) ?_
  refine swl_nil ?_
  refine then_n ?_
  refine swp_seq ?_
  refine swp_seq ?_
  refine swp_region ?_
  refine s_pu (pu_move rfl) ?_
  refine s_pu (pu_len_row h rfl) ?_
  refine s_pu (pu_move rfl) ?_
  refine swl_sub _ (.cons (t := 0) rfl (.cons (t := 5) rfl (.cons (t := 6) rfl (.cons (t := 7) rfl .nil)))) ?_
  refine swl_nil ?_
  refine then_n ?_
  refine swp_block ?_
  refine swp_loop (ι := Nat) (fun i env L => Sub env [(0, v), (5, v), (6, .int .i64 (t.length : Nat)), (7, .int .i64 (i : Nat))] ∧ Ent L [ro μ] ∧ i ≤ t.length ∧ ∀ j < i, wrongE t j = 0) (fun i => t.length - i) 0 ⟨⟨rfl, rfl, rfl, rfl, trivial⟩, Ent.refl _, Nat.zero_le _, fun j hj => by omega⟩ ?_
  rintro i env L ⟨hsub, hE, hi, hw⟩
  refine swp_sub _ hsub ?_
  refine swp_ent hE ?_
  clear hsub hE env L
  refine swp_seq ?_
  refine swp_region ?_
  refine s_pu (pu_lss rfl rfl) ?_
  refine swl_sub _ (.cons (t := 0) rfl (.cons (t := 5) rfl (.cons (t := 6) rfl (.cons (t := 7) rfl (.cons (t := 8) rfl .nil))))) ?_
  refine swl_nil ?_
  refine then_n ?_
  refine swp_seq ?_
  refine swp_cond (b := _) rfl (fun h8 => ?_) (fun h8 => ?_)
  · skip   -- 8 T
    have h8' : i < t.length := by have := of_decide_eq_true h8; omega
    obtain ⟨e, he⟩ : ∃ e, t[i]? = some e := ⟨_, List.getElem?_eq_getElem h8'⟩
    obtain ⟨gb, off, cap, hv, hra, hc0, hc1⟩ := tree_at h he
    obtain ⟨w1, w2, w3, w4⟩ := wrongE_at he
    refine swp_skip ?_
    refine then_n ?_
    refine swp_seq ?_
    refine swp_block ?_
    refine swp_seq ?_
    refine swp_region ?_
    refine s_pu (pu_move rfl) ?_
    refine s_pu (pu_indexAddr (off + i * 2) (congrArg some hv) rfl (by omega) (by omega) (by rw [Int.toNat_natCast])) ?_
    refine s_rd (rd_roA rfl rfl hra) ?_
    refine s_ef (ef_alloc) ?_
    intro b4
    refine s_pu (pu_assign rfl) ?_
    refine s_ef0 (ef_storeA rfl rfl rfl rfl) ?_
    refine swl_sub _ (.cons (t := 0) rfl (.cons (t := 3) rfl (.cons (t := 4) rfl (.cons (t := 5) rfl (.cons (t := 6) rfl (.cons (t := 7) rfl .nil)))))) ?_
    refine swl_nil ?_
    refine then_n ?_
    refine swp_block ?_
    refine swp_seq ?_
    refine swp_region ?_
    first | refine s_pu (pu_fieldAddr0 rfl) ?_ | refine s_pu (pu_fieldAddr rfl) ?_
    refine s_rd (rd_load rfl rfl) ?_
    refine s_pu (pu_strlen rfl) ?_
    refine s_pu (pu_gtr rfl rfl) ?_
    refine s_pu (pu_assign rfl) ?_
    refine swl_sub _ (.cons (t := 0) rfl (.cons (t := 3) rfl (.cons (t := 4) rfl (.cons (t := 5) rfl (.cons (t := 6) rfl (.cons (t := 7) rfl (.cons (t := 12) rfl .nil))))))) ?_
    refine swl_nil ?_
    refine then_n ?_
    refine swp_cond (b := _) rfl (fun h12 => ?_) (fun h12 => ?_)
    · skip   -- 12 T
      have h12' : 255 < e.1.size := by have := of_decide_eq_true h12; omega
      have hwe := w1 h12'
      refine swp_seq ?_
      refine swp_region ?_
      refine s_pu (pu_assign rfl) ?_
      refine swl_sub _ (.cons (t := 2) rfl .nil) ?_
      refine swl_nil ?_
      refine then_n ?_
      refine swp_ret ?_
      refine block_r ?_
      refine block_r ?_
      refine then_r ?_
      refine then_r ?_
      refine block_r ?_
      refine then_r ?_
      rw [checkE_at h8' hw (by rw [hwe]; decide), hwe]
      exact done_ret [ro μ] (.tmp rfl .nil) ⟨rfl, rfl⟩ (by repeat (first | exact Split.nil | (apply Split.cons; (repeat (first | with_reducible exact Take.here | apply Take.there)))))
    · skip   -- 12 F
      have h12' : ¬ 255 < e.1.size := by have := of_decide_eq_false h12; omega
      refine swp_seq ?_
      refine swp_region ?_
      first | refine s_pu (pu_fieldAddr0 rfl) ?_ | refine s_pu (pu_fieldAddr rfl) ?_
      refine s_rd (rd_load rfl rfl) ?_
      refine s_pu (pu_eql rfl rfl) ?_
      refine s_pu (pu_assign rfl) ?_
      refine swl_sub _ (.cons (t := 0) rfl (.cons (t := 3) rfl (.cons (t := 4) rfl (.cons (t := 5) rfl (.cons (t := 6) rfl (.cons (t := 7) rfl (.cons (t := 17) rfl .nil))))))) ?_
      refine swl_nil ?_
      refine then_n ?_
      refine swp_cond (b := _) rfl (fun h17 => ?_) (fun h17 => ?_)
      · skip   -- 17 T
        have h17' : e.2 = 0 := of_decide_eq_true h17
        have hwe := w2 h12' h17'
        refine swp_seq ?_
        refine swp_region ?_
        refine s_pu (pu_assign rfl) ?_
        refine swl_sub _ (.cons (t := 2) rfl .nil) ?_
        refine swl_nil ?_
        refine then_n ?_
        refine swp_ret ?_
        refine block_r ?_
        refine block_r ?_
        refine then_r ?_
        refine then_r ?_
        refine block_r ?_
        refine then_r ?_
        rw [checkE_at h8' hw (by rw [hwe]; decide), hwe]
        exact done_ret [ro μ] (.tmp rfl .nil) ⟨rfl, rfl⟩ (by repeat (first | exact Split.nil | (apply Split.cons; (repeat (first | with_reducible exact Take.here | apply Take.there)))))
      · skip   -- 17 F
        have h17' : ¬ e.2 = 0 := of_decide_eq_false h17
        refine swp_seq ?_
        refine swp_draw [4, 10] _ [] (by simp only [List.append_nil]; exact Ent.refl _) (by kernel_rfl) ?_
        refine d_pu 0 rfl (pu_move rfl) (by kernel_rfl) (by kernel_rfl) (by kernel_rfl) ?_
        refine d_pu 1 rfl (pu_gtr rfl rfl) (by kernel_rfl) (by kernel_rfl) (by kernel_rfl) ?_
        refine d_pu 2 rfl (pu_move rfl) (by kernel_rfl) (by kernel_rfl) (by kernel_rfl) ?_
        refine d_split 24 rfl (fun h24 => ?_) (fun h24 => ?_)
        · skip   -- 24 T
          have hi0 : 0 < i := by have := of_decide_eq_true h24; omega
          obtain ⟨d, hd⟩ : ∃ d, t[i - 1]? = some d := ⟨_, List.getElem?_eq_getElem (by omega)⟩
          obtain ⟨gb', off', cap', hv', hra', hd0, hd1⟩ := tree_at h hd
          have hwe := w4 d h12' h17' hi0 hd
          first | refine d_pu_on 3 rfl rfl rfl (pu_fieldAddr0 rfl) (by kernel_rfl) (by kernel_rfl) (by kernel_rfl) ?_ | refine d_pu_on 3 rfl rfl rfl (pu_fieldAddr rfl) (by kernel_rfl) (by kernel_rfl) (by kernel_rfl) ?_
          refine d_rd_on 4 rfl rfl rfl (rd_load rfl rfl) rfl (by kernel_rfl) (by kernel_rfl) (by kernel_rfl) ?_
          refine d_pu_on 5 rfl rfl rfl (pu_move rfl) (by kernel_rfl) (by kernel_rfl) (by kernel_rfl) ?_
          refine d_pu_on 6 rfl rfl rfl (pu_move rfl) (by kernel_rfl) (by kernel_rfl) (by kernel_rfl) ?_
          refine d_pu_on 7 rfl rfl rfl (pu_sub_as ((i - 1 : Nat) : Int) rfl rfl (by omega) (by omega) (by omega)) (by kernel_rfl) (by kernel_rfl) (by kernel_rfl) ?_
          refine d_pu_on 8 rfl rfl rfl (pu_indexAddr (off' + (i - 1) * 2) (congrArg some hv') rfl (by omega) (by omega) (by rw [Int.toNat_natCast])) (by kernel_rfl) (by kernel_rfl) (by kernel_rfl) ?_
          first | refine d_pu_on 9 rfl rfl rfl (pu_fieldAddr0 rfl) (by kernel_rfl) (by kernel_rfl) (by kernel_rfl) ?_ | refine d_pu_on 9 rfl rfl rfl (pu_fieldAddr rfl) (by kernel_rfl) (by kernel_rfl) (by kernel_rfl) ?_
          refine d_rd_on 10 rfl rfl rfl (rd_ro rfl hd0) rfl (by kernel_rfl) (by kernel_rfl) (by kernel_rfl) ?_
          refine d_pu_on 11 rfl rfl rfl (pu_str_eql rfl rfl) (by kernel_rfl) (by kernel_rfl) (by kernel_rfl) ?_
          first | refine d_pu 12 rfl (pu_pick_t rfl rfl) (by kernel_rfl) (by kernel_rfl) (by kernel_rfl) ?_ | refine d_pu 12 rfl (pu_pick_f rfl rfl) (by kernel_rfl) (by kernel_rfl) (by kernel_rfl) ?_
          refine d_pu 13 rfl (pu_assign rfl) (by kernel_rfl) (by kernel_rfl) (by kernel_rfl) ?_
          refine d_sub _ (.cons (t := 0) rfl (.cons (t := 3) rfl (.cons (t := 4) rfl (.cons (t := 5) rfl (.cons (t := 6) rfl (.cons (t := 7) rfl (.cons (t := 21) rfl .nil))))))) ?_
          first | refine d_nilt (by kernel_rfl) ?_ | refine d_nilf (by kernel_rfl) ?_
          refine then_n ?_
          refine swp_cond (b := _) rfl (fun h21 => ?_) (fun h21 => ?_)
          · skip   -- 21 T
            refine swp_seq ?_
            refine swp_region ?_
            refine s_pu (pu_assign rfl) ?_
            refine swl_sub _ (.cons (t := 2) rfl .nil) ?_
            refine swl_nil ?_
            refine then_n ?_
            refine swp_ret ?_
            refine block_r ?_
            refine block_r ?_
            refine then_r ?_
            refine then_r ?_
            refine block_r ?_
            refine then_r ?_
            rw [if_pos h21] at hwe
            rw [checkE_at h8' hw (by rw [hwe]; decide), hwe]
            exact done_ret [ro μ] (.tmp rfl .nil) ⟨rfl, rfl⟩ (by repeat (first | exact Split.nil | (apply Split.cons; (repeat (first | with_reducible exact Take.here | apply Take.there)))))
          · skip   -- 21 F
            refine swp_seq ?_
            refine swp_draw [4, 10] _ [] (by simp only [List.append_nil]; exact Ent.refl _) (by kernel_rfl) ?_
            refine d_pu 0 rfl (pu_move rfl) (by kernel_rfl) (by kernel_rfl) (by kernel_rfl) ?_
            refine d_pu 1 rfl (pu_gtr rfl rfl) (by kernel_rfl) (by kernel_rfl) (by kernel_rfl) ?_
            refine d_pu 2 rfl (pu_move rfl) (by kernel_rfl) (by kernel_rfl) (by kernel_rfl) ?_
            refine d_split 38 rfl (fun h38 => ?_) (fun h38 => by exfalso; have := of_decide_eq_false h38; omega)
            first | refine d_pu_on 3 rfl rfl rfl (pu_fieldAddr0 rfl) (by kernel_rfl) (by kernel_rfl) (by kernel_rfl) ?_ | refine d_pu_on 3 rfl rfl rfl (pu_fieldAddr rfl) (by kernel_rfl) (by kernel_rfl) (by kernel_rfl) ?_
            refine d_rd_on 4 rfl rfl rfl (rd_load rfl rfl) rfl (by kernel_rfl) (by kernel_rfl) (by kernel_rfl) ?_
            refine d_pu_on 5 rfl rfl rfl (pu_move rfl) (by kernel_rfl) (by kernel_rfl) (by kernel_rfl) ?_
            refine d_pu_on 6 rfl rfl rfl (pu_move rfl) (by kernel_rfl) (by kernel_rfl) (by kernel_rfl) ?_
            refine d_pu_on 7 rfl rfl rfl (pu_sub_as ((i - 1 : Nat) : Int) rfl rfl (by omega) (by omega) (by omega)) (by kernel_rfl) (by kernel_rfl) (by kernel_rfl) ?_
            refine d_pu_on 8 rfl rfl rfl (pu_indexAddr (off' + (i - 1) * 2) (congrArg some hv') rfl (by omega) (by omega) (by rw [Int.toNat_natCast])) (by kernel_rfl) (by kernel_rfl) (by kernel_rfl) ?_
            first | refine d_pu_on 9 rfl rfl rfl (pu_fieldAddr0 rfl) (by kernel_rfl) (by kernel_rfl) (by kernel_rfl) ?_ | refine d_pu_on 9 rfl rfl rfl (pu_fieldAddr rfl) (by kernel_rfl) (by kernel_rfl) (by kernel_rfl) ?_
            refine d_rd_on 10 rfl rfl rfl (rd_ro rfl hd0) rfl (by kernel_rfl) (by kernel_rfl) (by kernel_rfl) ?_
            refine d_pu_on 11 rfl rfl rfl (pu_str_lss rfl rfl) (by kernel_rfl) (by kernel_rfl) (by kernel_rfl) ?_
            first | refine d_pu 12 rfl (pu_pick_t rfl rfl) (by kernel_rfl) (by kernel_rfl) (by kernel_rfl) ?_ | refine d_pu 12 rfl (pu_pick_f rfl rfl) (by kernel_rfl) (by kernel_rfl) (by kernel_rfl) ?_
            refine d_pu 13 rfl (pu_assign rfl) (by kernel_rfl) (by kernel_rfl) (by kernel_rfl) ?_
            refine d_sub _ (.cons (t := 0) rfl (.cons (t := 5) rfl (.cons (t := 6) rfl (.cons (t := 7) rfl (.cons (t := 35) rfl .nil))))) ?_
            first | refine d_nilt (by kernel_rfl) ?_ | refine d_nilf (by kernel_rfl) ?_
            refine then_n ?_
            refine swp_cond (b := _) rfl (fun h35 => ?_) (fun h35 => ?_)
            · skip   -- 35 T
              refine swp_seq ?_
              refine swp_region ?_
              refine s_pu (pu_assign rfl) ?_
              refine swl_sub _ (.cons (t := 2) rfl .nil) ?_
              refine swl_nil ?_
              refine then_n ?_
              refine swp_ret ?_
              refine block_r ?_
              refine block_r ?_
              refine then_r ?_
              refine then_r ?_
              refine block_r ?_
              refine then_r ?_
              rw [if_neg (by rw [h21]; exact Bool.false_ne_true), if_pos h35] at hwe
              rw [checkE_at h8' hw (by rw [hwe]; decide), hwe]
              exact done_ret [ro μ] (.tmp rfl .nil) ⟨rfl, rfl⟩ (by repeat (first | exact Split.nil | (apply Split.cons; (repeat (first | with_reducible exact Take.here | apply Take.there)))))
            · skip   -- 35 F
              refine swp_skip ?_
              refine block_n ?_
              refine block_n ?_
              refine then_n ?_
              refine swp_region ?_
              refine s_pu (pu_add_as ((i + 1 : Nat) : Int) rfl rfl (by omega) (by omega) (by omega)) ?_
              refine s_pu (pu_move rfl) ?_
              refine swl_sub _ (.cons (t := 0) rfl (.cons (t := 5) rfl (.cons (t := 6) rfl (.cons (t := 7) rfl .nil)))) ?_
              refine swl_nil ?_
              rw [if_neg (by rw [h21]; exact Bool.false_ne_true), if_neg (by rw [h35]; exact Bool.false_ne_true)] at hwe
              refine then_n ⟨i + 1, ⟨⟨rfl, rfl, rfl, rfl, trivial⟩, Split.ent' (by repeat (first | exact Split.nil | (apply Split.cons; (repeat (first | with_reducible exact Take.here | apply Take.there))))), h8', fun j hj => ?_⟩, by omega⟩
              by_cases e1 : j = i
              · subst e1; exact hwe
              · exact hw j (by omega)
        · skip   -- 24 F
          have hi0 : i = 0 := by have := of_decide_eq_false h24; omega
          have hwe := w3 h12' h17' hi0
          refine d_off 3 rfl rfl rfl rfl (by kernel_rfl) (by kernel_rfl) (by kernel_rfl) ?_
          refine d_off 4 rfl rfl rfl rfl (by kernel_rfl) (by kernel_rfl) (by kernel_rfl) ?_
          refine d_off 5 rfl rfl rfl rfl (by kernel_rfl) (by kernel_rfl) (by kernel_rfl) ?_
          refine d_off 6 rfl rfl rfl rfl (by kernel_rfl) (by kernel_rfl) (by kernel_rfl) ?_
          refine d_off 7 rfl rfl rfl rfl (by kernel_rfl) (by kernel_rfl) (by kernel_rfl) ?_
          refine d_off 8 rfl rfl rfl rfl (by kernel_rfl) (by kernel_rfl) (by kernel_rfl) ?_
          refine d_off 9 rfl rfl rfl rfl (by kernel_rfl) (by kernel_rfl) (by kernel_rfl) ?_
          refine d_off 10 rfl rfl rfl rfl (by kernel_rfl) (by kernel_rfl) (by kernel_rfl) ?_
          refine d_off 11 rfl rfl rfl rfl (by kernel_rfl) (by kernel_rfl) (by kernel_rfl) ?_
          first | refine d_pu 12 rfl (pu_pick_t rfl rfl) (by kernel_rfl) (by kernel_rfl) (by kernel_rfl) ?_ | refine d_pu 12 rfl (pu_pick_f rfl rfl) (by kernel_rfl) (by kernel_rfl) (by kernel_rfl) ?_
          refine d_pu 13 rfl (pu_assign rfl) (by kernel_rfl) (by kernel_rfl) (by kernel_rfl) ?_
          refine d_sub _ (.cons (t := 0) rfl (.cons (t := 3) rfl (.cons (t := 4) rfl (.cons (t := 5) rfl (.cons (t := 6) rfl (.cons (t := 7) rfl (.cons (t := 21) rfl .nil))))))) ?_
          first | refine d_nilt (by kernel_rfl) ?_ | refine d_nilf (by kernel_rfl) ?_
          refine then_n ?_
          refine swp_cond (b := _) rfl (fun h21 => by cases h21) (fun h21 => ?_)
          refine swp_seq ?_
          refine swp_draw [4, 10] _ [] (by simp only [List.append_nil]; exact Ent.refl _) (by kernel_rfl) ?_
          refine d_pu 0 rfl (pu_move rfl) (by kernel_rfl) (by kernel_rfl) (by kernel_rfl) ?_
          refine d_pu 1 rfl (pu_gtr rfl rfl) (by kernel_rfl) (by kernel_rfl) (by kernel_rfl) ?_
          refine d_pu 2 rfl (pu_move rfl) (by kernel_rfl) (by kernel_rfl) (by kernel_rfl) ?_
          refine d_split 38 rfl (fun h38 => by exfalso; have := of_decide_eq_true h38; omega) (fun h38 => ?_)
          refine d_off 3 rfl rfl rfl rfl (by kernel_rfl) (by kernel_rfl) (by kernel_rfl) ?_
          refine d_off 4 rfl rfl rfl rfl (by kernel_rfl) (by kernel_rfl) (by kernel_rfl) ?_
          refine d_off 5 rfl rfl rfl rfl (by kernel_rfl) (by kernel_rfl) (by kernel_rfl) ?_
          refine d_off 6 rfl rfl rfl rfl (by kernel_rfl) (by kernel_rfl) (by kernel_rfl) ?_
          refine d_off 7 rfl rfl rfl rfl (by kernel_rfl) (by kernel_rfl) (by kernel_rfl) ?_
          refine d_off 8 rfl rfl rfl rfl (by kernel_rfl) (by kernel_rfl) (by kernel_rfl) ?_
          refine d_off 9 rfl rfl rfl rfl (by kernel_rfl) (by kernel_rfl) (by kernel_rfl) ?_
          refine d_off 10 rfl rfl rfl rfl (by kernel_rfl) (by kernel_rfl) (by kernel_rfl) ?_
          refine d_off 11 rfl rfl rfl rfl (by kernel_rfl) (by kernel_rfl) (by kernel_rfl) ?_
          first | refine d_pu 12 rfl (pu_pick_t rfl rfl) (by kernel_rfl) (by kernel_rfl) (by kernel_rfl) ?_ | refine d_pu 12 rfl (pu_pick_f rfl rfl) (by kernel_rfl) (by kernel_rfl) (by kernel_rfl) ?_
          refine d_pu 13 rfl (pu_assign rfl) (by kernel_rfl) (by kernel_rfl) (by kernel_rfl) ?_
          refine d_sub _ (.cons (t := 0) rfl (.cons (t := 5) rfl (.cons (t := 6) rfl (.cons (t := 7) rfl (.cons (t := 35) rfl .nil))))) ?_
          first | refine d_nilt (by kernel_rfl) ?_ | refine d_nilf (by kernel_rfl) ?_
          refine then_n ?_
          refine swp_cond (b := _) rfl (fun h35 => by cases h35) (fun h35 => ?_)
          refine swp_skip ?_
          refine block_n ?_
          refine block_n ?_
          refine then_n ?_
          refine swp_region ?_
          refine s_pu (pu_add_as ((i + 1 : Nat) : Int) rfl rfl (by omega) (by omega) (by omega)) ?_
          refine s_pu (pu_move rfl) ?_
          refine swl_sub _ (.cons (t := 0) rfl (.cons (t := 5) rfl (.cons (t := 6) rfl (.cons (t := 7) rfl .nil)))) ?_
          refine swl_nil ?_
          refine then_n ⟨i + 1, ⟨⟨rfl, rfl, rfl, rfl, trivial⟩, Split.ent' (by repeat (first | exact Split.nil | (apply Split.cons; (repeat (first | with_reducible exact Take.here | apply Take.there))))), h8', fun j hj => ?_⟩, by omega⟩
          by_cases e1 : j = i
          · subst e1; exact hwe
          · exact hw j (by omega)
  · skip   -- 8 F
    have h8' := of_decide_eq_false h8
    refine swp_exit ?_
    refine then_x ?_
    refine then_x ?_
    refine block_hit rfl ?_
    refine then_n ?_
    refine swp_seq ?_
    refine swp_region ?_
    refine s_pu (pu_assign rfl) ?_
    refine swl_sub _ (.cons (t := 2) rfl .nil) ?_
    refine swl_nil ?_
    refine then_n ?_
    refine swp_ret ?_
    rw [checkE_ok fun j hj => hw j (by omega)]
    exact done_ret [ro μ] (.tmp rfl .nil) ⟨rfl, rfl⟩ (by repeat (first | exact Split.nil | (apply Split.cons; (repeat (first | with_reducible exact Take.here | apply Take.there)))))
end SX
namespace SX
open Go Go.Proofs
def encErr (t : List En) : Int := if 1024 < t.length then 5 else checkE t
def encV (t : List En) : List UInt8 := if encErr t = 0 then encT t else []
theorem wrongE_all {t : List En} (h : checkE t = 0) : ∀ i, i < t.length → wrongE t i = 0 := fun i hi => by
  unfold checkE at h
  cases hf : ((List.range t.length).map (wrongE t)).find? (· ≠ 0) with
  | none =>
    have := (List.find?_eq_none.1 hf) (wrongE t i) (List.mem_map.2 ⟨i, List.mem_range.2 hi, rfl⟩)
    simpa using this
  | some x =>
    rw [hf] at h
    have := List.find?_some hf
    simp at this
    exact absurd h this
theorem check_paths {t : List En} (h : checkE t = 0) : ∀ e ∈ t, (bts e).length ≤ 255 ∧ e.2 ≠ 0 := fun e he => by
  obtain ⟨i, hi⟩ := List.getElem?_of_mem he
  have hl := (List.getElem?_eq_some_iff.1 hi).1
  have hz := wrongE_all h i hl
  obtain ⟨w1, w2, _, _⟩ := wrongE_at hi
  refine ⟨?_, fun h0 => ?_⟩
  · refine Nat.le_of_not_lt fun k => ?_
    rw [w1 k] at hz; cases hz
  · by_cases k : 255 < e.1.size
    · rw [w1 k] at hz; cases hz
    · rw [w2 k h0] at hz; cases hz
set_option maxHeartbeats 4000000 in
theorem tenc_spec (μ : PH) (v : Value) (t : List En) (h : Row μ v 2 t.length (ens t)) (hu : U32s t) : Spec Try.prog 35 [v] [ro μ] (fun r L => r = .tuple #[.string (str (encV t)), .int .i64 (encErr t)] ∧ L = [ro μ]) := by
  refine Spec.of 61 Try.func35 rfl rfl rfl ?_
  refine swp_seq ?_
  refine swp_region ?_
  refine s_pu (pu_assign rfl) ?_
  refine s_pu (pu_assign rfl) ?_
  refine swl_sub _ (.cons (t := 0) rfl .nil) ?_
  refine swl_nil ?_
  refine then_n ?_
  refine swp_seq ?_
  refine swp_seq ?_
  refine swp_region ?_
  refine s_pu (pu_move rfl) ?_
  refine s_pu (pu_len_row h rfl) ?_
  refine s_pu (pu_gtr rfl rfl) ?_
  refine swl_sub _ (.cons (t := 0) rfl (.cons (t := 12) rfl .nil)) ?_
  refine swl_nil ?_
  refine then_n ?_
  refine swp_cond (b := _) rfl (fun h12 => ?_) (fun h12 => ?_)
  · skip   -- 12 T
    refine swp_seq ?_
    refine swp_region ?_
    refine s_pu (pu_assign rfl) ?_
    refine s_pu (pu_assign rfl) ?_
    refine swl_sub _ (.cons (t := 2) rfl (.cons (t := 3) rfl .nil)) ?_
    refine swl_nil ?_
    refine then_n ?_
    refine swp_ret ?_
    refine then_r ?_
    have h12' : 1024 < t.length := by have := of_decide_eq_true h12; omega
    have e1 : encErr t = 5 := by unfold encErr; rw [if_pos h12']
    have e2 : encV t = [] := by unfold encV; rw [e1]; rfl
    rw [e1, e2]
    exact done_ret [ro μ] (.tmp rfl (.tmp rfl .nil)) ⟨rfl, rfl⟩ (by repeat (first | exact Split.nil | (apply Split.cons; (repeat (first | with_reducible exact Take.here | apply Take.there)))))
  · skip   -- 12 F
    have h12' : t.length ≤ 1024 := by have := of_decide_eq_false h12; omega
    have hsz : t.length ≤ 1048576 := by omega
    have e1 : encErr t = checkE t := by unfold encErr; rw [if_neg (by omega)]
    refine swp_skip ?_
    refine then_n ?_
    refine swp_seq ?_
    refine swp_seq ?_
    refine swp_region ?_
    refine s_pu (pu_move rfl) ?_
    refine s_ef (ef_fn (tcheck_spec μ v t h hsz) rfl rfl (by repeat (first | exact Split.nil | (apply Split.cons; (repeat (first | with_reducible exact Take.here | apply Take.there)))))) ?_
    rintro v14 L1 ⟨rfl, rfl⟩
    refine swl_app ?_
    refine s_pu (pu_assign rfl) ?_
    refine swl_sub _ (.cons (t := 0) rfl (.cons (t := 4) rfl .nil)) ?_
    refine swl_nil ?_
    refine then_n ?_
    refine swp_seq ?_
    refine swp_region ?_
    refine s_pu (pu_move rfl) ?_
    refine s_pu (pu_neq rfl rfl) ?_
    refine swl_sub _ (.cons (t := 0) rfl (.cons (t := 4) rfl (.cons (t := 16) rfl .nil))) ?_
    refine swl_nil ?_
    refine then_n ?_
    refine swp_cond (b := _) rfl (fun h16 => ?_) (fun h16 => ?_)
    · skip   -- 16 T
      refine swp_seq ?_
      refine swp_region ?_
      refine s_pu (pu_move rfl) ?_
      refine s_pu (pu_assign rfl) ?_
      refine s_pu (pu_assign rfl) ?_
      refine swl_sub _ (.cons (t := 2) rfl (.cons (t := 3) rfl .nil)) ?_
      refine swl_nil ?_
      refine then_n ?_
      refine swp_ret ?_
      refine then_r ?_
      have h16' : checkE t ≠ 0 := fun e => by rw [e] at h16; exact absurd h16 (by decide)
      have e2 : encV t = [] := by unfold encV; rw [e1, if_neg h16']
      rw [e1, e2]
      exact done_ret [ro μ] (.tmp rfl (.tmp rfl .nil)) ⟨rfl, rfl⟩ (by repeat (first | exact Split.nil | (apply Split.cons; (repeat (first | with_reducible exact Take.here | apply Take.there)))))
    · skip   -- 16 F
      have h16' : checkE t = 0 := by
        by_cases e : checkE t = 0
        · exact e
        · rw [decide_eq_false e] at h16; cases h16
      have hp := check_paths h16'
      have e2 : encV t = encT t := by unfold encV; rw [e1, if_pos h16']
      rw [e1, e2, h16']
      refine swp_skip ?_
      refine then_n ?_
      refine swp_seq ?_
      refine swp_region ?_
      refine s_ef (ef_fn wNew_spec rfl rfl (by repeat (first | exact Split.nil | (apply Split.cons; (repeat (first | with_reducible exact Take.here | apply Take.there)))))) ?_
      rintro v18 L1 ⟨p, rfl, rfl⟩
      refine swl_app ?_
      refine s_pu (pu_assign rfl) ?_
      refine swl_sub _ (.cons (t := 0) rfl (.cons (t := 5) rfl .nil)) ?_
      refine swl_nil ?_
      refine then_n ?_
      refine swp_seq ?_
      refine swp_region ?_
      refine s_pu (pu_move rfl) ?_
      refine s_pu (pu_move rfl) ?_
      refine s_pu (pu_len_row h rfl) ?_
      refine s_pu (pu_conv_as rfl (wrap_lt16 (by omega))) ?_
      refine s_ef (ef_fn (wU16_spec p t.length [] (by omega) (by decide)) rfl rfl (by repeat (first | exact Split.nil | (apply Split.cons; (repeat (first | with_reducible exact Take.here | apply Take.there)))))) ?_
      rintro v23 L1 ⟨rfl, rfl⟩
      rw [List.nil_append]
      refine swl_app ?_
      refine swl_sub _ (.cons (t := 0) rfl (.cons (t := 5) rfl .nil)) ?_
      refine swl_nil ?_
      refine then_n ?_
      refine swp_seq ?_
      refine swp_region ?_
      refine s_pu (pu_assign rfl) ?_
      refine swl_sub _ (.cons (t := 0) rfl (.cons (t := 5) rfl (.cons (t := 6) rfl .nil))) ?_
      refine swl_nil ?_
      refine then_n ?_
      refine swp_seq ?_
      refine swp_seq ?_
      refine swp_region ?_
      refine s_pu (pu_move rfl) ?_
      refine s_pu (pu_len_row h rfl) ?_
      refine s_pu (pu_move rfl) ?_
      refine swl_sub _ (.cons (t := 5) rfl (.cons (t := 6) rfl (.cons (t := 24) rfl (.cons (t := 25) rfl (.cons (t := 26) rfl .nil))))) ?_
      refine swl_nil ?_
      refine then_n ?_
      refine swp_block ?_
      refine swp_loop (ι := Nat) (fun i env L => Sub env [(5, .pointer (some ⟨p, 0, none⟩)), (6, .string (str (lastT t i))), (24, v), (25, .int .i64 (t.length : Nat)), (26, .int .i64 (i : Nat))] ∧ Ent L [wrA p (numB 2 t.length ++ encEs [] (t.take i)), ro μ] ∧ i ≤ t.length) (fun i => t.length - i) 0 ⟨⟨rfl, rfl, rfl, rfl, rfl, trivial⟩, by show Ent _ [wrA p (numB 2 t.length ++ []), ro μ]; rw [List.append_nil]; exact Split.ent' (by repeat (first | exact Split.nil | (apply Split.cons; (repeat (first | with_reducible exact Take.here | apply Take.there))))), Nat.zero_le _⟩ ?_
      rintro i env L ⟨hsub, hE, hi⟩
      refine swp_sub _ hsub ?_
      refine swp_ent hE ?_
      clear hsub hE env L
      refine swp_seq ?_
      refine swp_region ?_
      refine s_pu (pu_lss rfl rfl) ?_
      refine swl_sub _ (.cons (t := 5) rfl (.cons (t := 6) rfl (.cons (t := 24) rfl (.cons (t := 25) rfl (.cons (t := 26) rfl (.cons (t := 27) rfl .nil)))))) ?_
      refine swl_nil ?_
      refine then_n ?_
      refine swp_seq ?_
      refine swp_cond (b := _) rfl (fun h27 => ?_) (fun h27 => ?_)
      · skip   -- 27 T
        have h27' : i < t.length := by have := of_decide_eq_true h27; omega
        obtain ⟨e, he⟩ : ∃ e, t[i]? = some e := ⟨_, List.getElem?_eq_getElem h27'⟩
        obtain ⟨gb, off, cap, hv, hra, hc0, hc1⟩ := tree_at h he
        have hem := List.mem_of_getElem? he
        have hpl := (hp e hem).1
        obtain ⟨q, hq⟩ : ∃ q : Nat, e.2 = (q : Int) := ⟨e.2.toNat, by have := (hu e hem).1; omega⟩
        have hq2 : q < 4294967296 := by have := (hu e hem).2; omega
        have hbl : (encEs [] (t.take i)).length ≤ 261 * 1024 := Nat.le_trans (encEs_len _ _ fun x hx => (hp x (List.mem_of_mem_take hx)).1) (by rw [List.length_take]; omega)
        have hsucc := encEs_succ he
        have hlsucc := lastT_succ he
        have hll : (lastT t i).length ≤ 255 := lastT_len fun x hx => (hp x hx).1
        have henc : encE1 (lastT t i) e = numB 1 (lcp (lastT t i) (bts e)) ++ numB 1 ((bts e).length - lcp (lastT t i) (bts e)) ++ (bts e).drop (lcp (lastT t i) (bts e)) ++ numB 4 q := by unfold encE1; rw [hq]; rfl
        have hlr := lcp_right (lastT t i) (bts e)
        generalize hbsd : numB 2 t.length ++ encEs [] (t.take i) = bs
        have hbs : bs.length ≤ 300000 := by rw [← hbsd, List.length_append, numB_len]; omega
        generalize hnd : lcp (lastT t i) (bts e) = n at *
        refine swp_skip ?_
        refine then_n ?_
        refine swp_seq ?_
        refine swp_block ?_
        refine swp_seq ?_
        refine swp_region ?_
        refine s_pu (pu_indexAddr (off + i * 2) (congrArg some hv) rfl (by omega) (by omega) (by rw [Int.toNat_natCast])) ?_
        refine s_rd (rd_roA rfl rfl hra) ?_
        refine s_ef (ef_alloc) ?_
        intro b8
        refine s_ef0 (ef_storeA rfl rfl rfl rfl) ?_
        refine swl_sub _ (.cons (t := 5) rfl (.cons (t := 6) rfl (.cons (t := 8) rfl (.cons (t := 24) rfl (.cons (t := 25) rfl (.cons (t := 26) rfl .nil)))))) ?_
        refine swl_nil ?_
        refine then_n ?_
        refine swp_seq ?_
        refine swp_region ?_
        refine s_pu (pu_move rfl) ?_
        first | refine s_pu (pu_fieldAddr0 rfl) ?_ | refine s_pu (pu_fieldAddr rfl) ?_
        refine s_rd (rd_load rfl rfl) ?_
        refine s_ef (ef_fn (alike_spec (lastT t i) (bts e) (by omega) (by omega)) rfl rfl (by repeat (first | exact Split.nil | (apply Split.cons; (repeat (first | with_reducible exact Take.here | apply Take.there)))))) ?_
        rintro v33 L1 ⟨rfl, rfl⟩
        rw [hnd]
        refine swl_app ?_
        refine s_pu (pu_assign rfl) ?_
        refine swl_sub _ (.cons (t := 5) rfl (.cons (t := 8) rfl (.cons (t := 9) rfl (.cons (t := 24) rfl (.cons (t := 25) rfl (.cons (t := 26) rfl .nil)))))) ?_
        refine swl_nil ?_
        refine then_n ?_
        refine swp_seq ?_
        refine swp_region ?_
        refine s_pu (pu_move rfl) ?_
        refine s_pu (pu_move rfl) ?_
        refine s_pu (pu_conv_as rfl (wrap_lt8 (by omega))) ?_
        refine s_ef (ef_fn (wU8_spec p n bs (by omega) (by omega)) rfl rfl (by repeat (first | exact Split.nil | (apply Split.cons; (repeat (first | with_reducible exact Take.here | apply Take.there)))))) ?_
        rintro v37 L1 ⟨rfl, rfl⟩
        refine swl_app ?_
        refine swl_sub _ (.cons (t := 5) rfl (.cons (t := 8) rfl (.cons (t := 9) rfl (.cons (t := 24) rfl (.cons (t := 25) rfl (.cons (t := 26) rfl .nil)))))) ?_
        refine swl_nil ?_
        refine then_n ?_
        refine swp_seq ?_
        refine swp_region ?_
        refine s_pu (pu_move rfl) ?_
        first | refine s_pu (pu_fieldAddr0 rfl) ?_ | refine s_pu (pu_fieldAddr rfl) ?_
        refine s_rd (rd_load rfl rfl) ?_
        refine s_pu (pu_strln (l := bts e) rfl) ?_
        refine s_pu (pu_move rfl) ?_
        refine s_pu (pu_sub_as (((bts e).length - n : Nat) : Int) rfl rfl (by omega) (by omega) (by omega)) ?_
        refine s_pu (pu_conv_as rfl (wrap_lt8 (by omega))) ?_
        refine s_ef (ef_fn (wU8_spec p ((bts e).length - n) (bs ++ numB 1 n) (by omega) (by rw [List.length_append, numB_len]; omega)) rfl rfl (by repeat (first | exact Split.nil | (apply Split.cons; (repeat (first | with_reducible exact Take.here | apply Take.there)))))) ?_
        rintro v45 L1 ⟨rfl, rfl⟩
        refine swl_app ?_
        refine swl_sub _ (.cons (t := 5) rfl (.cons (t := 8) rfl (.cons (t := 9) rfl (.cons (t := 24) rfl (.cons (t := 25) rfl (.cons (t := 26) rfl .nil)))))) ?_
        refine swl_nil ?_
        refine then_n ?_
        refine swp_seq ?_
        refine swp_region ?_
        refine s_pu (pu_move rfl) ?_
        first | refine s_pu (pu_fieldAddr0 rfl) ?_ | refine s_pu (pu_fieldAddr rfl) ?_
        refine s_rd (rd_load rfl rfl) ?_
        refine s_pu (pu_move rfl) ?_
        refine s_pu (pu_strlo (l := bts e) n rfl rfl rfl hlr) ?_
        refine s_ef (ef_fn (wRaw_spec p (bs ++ numB 1 n ++ numB 1 ((bts e).length - n)) ((bts e).drop n) (by simp only [List.length_append, numB_len]; omega) (by rw [List.length_drop]; omega)) rfl rfl (by repeat (first | exact Split.nil | (apply Split.cons; (repeat (first | with_reducible exact Take.here | apply Take.there)))))) ?_
        rintro v51 L1 ⟨rfl, rfl⟩
        refine swl_app ?_
        refine swl_sub _ (.cons (t := 5) rfl (.cons (t := 8) rfl (.cons (t := 24) rfl (.cons (t := 25) rfl (.cons (t := 26) rfl .nil))))) ?_
        refine swl_nil ?_
        refine then_n ?_
        refine swp_seq ?_
        refine swp_region ?_
        refine s_pu (pu_move rfl) ?_
        first | refine s_pu (pu_fieldAddr0 rfl) ?_ | refine s_pu (pu_fieldAddr rfl) ?_
        refine s_rd (rd_load rfl (show _ = some (Value.int .u32 (q : Nat)) by rw [← hq]; rfl)) ?_
        refine s_ef (ef_fn (wU32_spec p q (bs ++ numB 1 n ++ numB 1 ((bts e).length - n) ++ (bts e).drop n) hq2 (by simp only [List.length_append, numB_len, List.length_drop]; omega)) rfl rfl (by repeat (first | exact Split.nil | (apply Split.cons; (repeat (first | with_reducible exact Take.here | apply Take.there)))))) ?_
        rintro v55 L1 ⟨rfl, rfl⟩
        refine swl_app ?_
        refine swl_sub _ (.cons (t := 5) rfl (.cons (t := 8) rfl (.cons (t := 24) rfl (.cons (t := 25) rfl (.cons (t := 26) rfl .nil))))) ?_
        refine swl_nil ?_
        refine then_n ?_
        refine swp_region ?_
        first | refine s_pu (pu_fieldAddr0 rfl) ?_ | refine s_pu (pu_fieldAddr rfl) ?_
        refine s_rd (rd_load rfl rfl) ?_
        refine s_pu (pu_assign rfl) ?_
        refine swl_sub _ (.cons (t := 5) rfl (.cons (t := 6) rfl (.cons (t := 24) rfl (.cons (t := 25) rfl (.cons (t := 26) rfl .nil))))) ?_
        refine swl_nil ?_
        refine block_n ?_
        refine then_n ?_
        refine swp_region ?_
        refine s_pu (pu_add_as ((i + 1 : Nat) : Int) rfl rfl (by omega) (by omega) (by omega)) ?_
        refine s_pu (pu_move rfl) ?_
        refine swl_sub _ (.cons (t := 5) rfl (.cons (t := 6) rfl (.cons (t := 24) rfl (.cons (t := 25) rfl (.cons (t := 26) rfl .nil))))) ?_
        refine swl_nil ?_
        refine then_n ⟨i + 1, ⟨⟨rfl, by rw [hlsucc]; rfl, rfl, rfl, rfl, trivial⟩, ?_, h27'⟩, by omega⟩
        rw [hsucc, henc, ← List.append_assoc, hbsd]
        simp only [← List.append_assoc]
        exact Split.ent' (by repeat (first | exact Split.nil | (apply Split.cons; (repeat (first | with_reducible exact Take.here | apply Take.there)))))
      · skip   -- 27 F
        have h27' := of_decide_eq_false h27
        obtain rfl : i = t.length := by omega
        rw [List.take_length]
        refine swp_exit ?_
        refine then_x ?_
        refine then_x ?_
        refine block_hit rfl ?_
        refine then_n ?_
        refine swp_seq ?_
        refine swp_region ?_
        refine s_pu (pu_move rfl) ?_
        refine s_ef (ef_fn (wBytes_spec p (numB 2 t.length ++ encEs [] t) (fun e => by have := congrArg List.length e; rw [List.length_append, numB_len] at this; simp at this)) rfl rfl (by repeat (first | exact Split.nil | (apply Split.cons; (repeat (first | with_reducible exact Take.here | apply Take.there)))))) ?_
        rintro v60 L1 ⟨rfl, rfl⟩
        refine swl_app ?_
        refine s_pu (pu_assign rfl) ?_
        refine s_pu (pu_assign rfl) ?_
        refine swl_sub _ (.cons (t := 2) rfl (.cons (t := 3) rfl .nil)) ?_
        refine swl_nil ?_
        refine then_n ?_
        refine swp_ret ?_
        exact done_ret [ro μ] (.tmp rfl (.tmp rfl .nil)) ⟨rfl, rfl⟩ (by repeat (first | exact Split.nil | (apply Split.cons; (repeat (first | with_reducible exact Take.here | apply Take.there)))))
end SX
namespace SX
open Go Go.Proofs
theorem rawR_ok {s : List UInt8} {n pos : Nat} (h : pos + n ≤ s.length) : rawR s n (pos, 0) = (pos + n, 0) ∧ rawV s n (pos, 0) = (s.drop pos).take n := by
  constructor
  · unfold rawR; rw [if_neg (fun k => k rfl), if_neg (by show ¬ s.length < pos + n; omega)]
  · unfold rawV; rw [if_neg (by rintro (k | k); exact k rfl; exact absurd k (by show ¬ s.length < pos + n; omega))]
theorem rawR_no {s : List UInt8} {n pos : Nat} (h : s.length < pos + n) : rawR s n (pos, 0) = (pos, 2) ∧ rawV s n (pos, 0) = [] := by
  constructor
  · unfold rawR; rw [if_neg (fun k => k rfl), if_pos h]
  · unfold rawV; rw [if_pos (.inr h)]
theorem rawR_err {s : List UInt8} {n : Nat} {r : RS} (h : r.2 ≠ 0) : rawR s n r = r ∧ rawV s n r = [] := by
  constructor
  · unfold rawR; rw [if_pos h]
  · unfold rawV; rw [if_pos (.inl h)]
theorem raw_e0 {s : List UInt8} {n pos : Nat} (h : (rawR s n (pos, 0)).2 = 0) : pos + n ≤ s.length := by
  refine Nat.le_of_not_lt fun k => ?_
  rw [(rawR_no k).1] at h
  exact absurd h (by show ¬ (2 : Int) = 0; decide)
theorem raw_e1 {s : List UInt8} {n pos : Nat} (h : (rawR s n (pos, 0)).2 ≠ 0) : s.length < pos + n := by
  refine Nat.lt_of_not_le fun k => ?_
  rw [(rawR_ok k).1] at h
  exact h rfl
theorem entP_short {s : List UInt8} {first : Bool} {last : List UInt8} {pos : Nat} (h : s.length < pos + 2) : entP s first last pos = none := by
  unfold entP; rw [if_pos h]
theorem entP_far {s : List UInt8} {first : Bool} {last : List UInt8} {pos : Nat} (h : last.length < valB ((s.drop pos).take 1)) : entP s first last pos = none := by
  unfold entP
  split
  · rfl
  · first | rfl | rw [if_pos h]
theorem entP_rest {s : List UInt8} {first : Bool} {last : List UInt8} {pos k : Nat} (h : valB ((s.drop (pos + 1)).take 1) = k) (h2 : s.length < pos + 2 + k) : entP s first last pos = none := by
  unfold entP
  rw [h]
  split
  · rfl
  · split
    · rfl
    · first | rfl | rw [if_pos h2]
theorem entP_form {s : List UInt8} {first : Bool} {last path : List UInt8} {pos n k : Nat} (hn : valB ((s.drop pos).take 1) = n) (h : valB ((s.drop (pos + 1)).take 1) = k) (hp : last.take n ++ (s.drop (pos + 2)).take k = path)
    (h2 : 255 < path.length ∨ lcp last path ≠ n ∨ (first = false ∧ strLt (str last) (str path) = false)) : entP s first last pos = none := by
  unfold entP
  rw [h, hn, hp]
  split
  · rfl
  · split
    · rfl
    · split
      · rfl
      · first | rfl | rw [if_pos h2]
theorem entP_blob {s : List UInt8} {first : Bool} {last : List UInt8} {pos k : Nat} (h : valB ((s.drop (pos + 1)).take 1) = k) (h2 : s.length < pos + 2 + k + 4 ∨ valB ((s.drop (pos + 2 + k)).take 4) = 0) : entP s first last pos = none := by
  unfold entP
  rw [h]
  split
  · rfl
  · split
    · rfl
    · split
      · rfl
      · split
        · rfl
        · split
          · rfl
          · rw [if_pos (h2.resolve_left (by assumption))]
theorem entP_some {s : List UInt8} {first : Bool} {last path : List UInt8} {pos n k : Nat} (hn : valB ((s.drop pos).take 1) = n) (h : valB ((s.drop (pos + 1)).take 1) = k) (hp : last.take n ++ (s.drop (pos + 2)).take k = path)
    (hN : n ≤ last.length) (h1 : path.length ≤ 255) (h2 : lcp last path = n) (h3 : first = false → strLt (str last) (str path) = true) (h4 : pos + 2 + k + 4 ≤ s.length) (h5 : valB ((s.drop (pos + 2 + k)).take 4) ≠ 0) :
    entP s first last pos = some ((path, valB ((s.drop (pos + 2 + k)).take 4)), pos + 2 + k + 4) := by
  unfold entP
  rw [h, hn, hp, if_neg (by omega), if_neg (by omega), if_neg (by omega), if_neg, if_neg (by omega), if_neg h5]
  rintro (q | q | ⟨q, q'⟩)
  · omega
  · exact q h2
  · rw [h3 q] at q'; cases q'
theorem leq_T {a b : ByteArray} (h : (strLt a b || strEq a b) = true) : strLt b a = false := by
  rcases Bool.or_eq_true_iff.1 h with h | h
  · exact strLt_asym h
  · rw [strEq_iff.1 h]; exact strLt_irrefl _
theorem leq_F {a b : ByteArray} (h : (strLt a b || strEq a b) = false) : strLt b a = true := by
  obtain ⟨h1, h2⟩ := Bool.or_eq_false_iff.1 h
  rcases strLt_total a b with k | k | k
  · rw [k] at h1; cases h1
  · rw [k, strEq_refl] at h2; cases h2
  · exact k
/-- what entry leaves -/
def EntQ (s : List UInt8) (first : Bool) (last : List UInt8) (pos : Nat) (x : List UInt8 × Nat) (e : Int) (r : RS) : Prop :=
  (e = 0 ∧ r.2 = 0 ∧ entP s first last pos = some (x, r.1)) ∨ (e ≠ 0 ∧ entP s first last pos = none ∧ r.1 ≤ s.length)
set_option maxHeartbeats 4000000 in
theorem entry_spec (p : Nat) (s last : List UInt8) (first : Bool) (pos : Nat) (hs : s.length ≤ 1073741824) (hpos : pos ≤ s.length) (hl : last.length ≤ 255) :
    Spec Try.prog 92 [.pointer (some ⟨p, 0, none⟩), .bool first, .string (str last)] [rdB p s (pos, 0)] (fun v L => ∃ x e r, v = .tuple #[.agg #[.string (str x.1), .int .u32 (x.2 : Nat)], .int .i64 e] ∧ L = [rdB p s r] ∧ EntQ s first last pos x e r) := by
  refine Spec.of 87 Try.func92 rfl rfl rfl ?_
  refine swp_seq ?_
  refine swp_region ?_
  refine s_ef (ef_alloc) ?_
  intro b6
  refine s_pu (pu_assign rfl) ?_
  refine swl_sub _ (.cons (t := 0) rfl (.cons (t := 1) rfl (.cons (t := 2) rfl (.cons (t := 6) rfl .nil)))) ?_
  refine swl_nil ?_
  refine then_n ?_
  refine swp_seq ?_
  refine swp_region ?_
  refine s_pu (pu_move rfl) ?_
  refine s_ef (ef_fn (rdU8_spec p s (pos, 0) hs hpos) rfl rfl (by repeat (first | exact Split.nil | (apply Split.cons; (repeat (first | with_reducible exact Take.here | apply Take.there)))))) ?_
  rintro v17 L1 ⟨rfl, rfl⟩
  refine swl_app ?_
  refine s_pu (pu_move rfl) ?_
  first | refine s_pu (pu_extractL rfl) ?_ | refine s_pu (pu_extract rfl rfl) ?_
  first | refine s_pu (pu_extractL rfl) ?_ | refine s_pu (pu_extract rfl rfl) ?_
  refine s_pu (pu_assign rfl) ?_
  refine s_pu (pu_assign rfl) ?_
  refine swl_sub _ (.cons (t := 0) rfl (.cons (t := 1) rfl (.cons (t := 2) rfl (.cons (t := 6) rfl (.cons (t := 8) rfl (.cons (t := 9) rfl .nil)))))) ?_
  refine swl_nil ?_
  refine then_n ?_
  refine swp_seq ?_
  refine swp_seq ?_
  refine swp_region ?_
  refine s_pu (pu_move rfl) ?_
  refine s_pu (pu_eql rfl rfl) ?_
  refine s_pu (pu_move rfl) ?_
  refine s_split 22 rfl (fun h22 => ?_) (fun h22 => ?_)
  · skip   -- 22 T
    have hA : pos + 1 ≤ s.length := raw_e0 (of_decide_eq_true h22)
    rw [(rawR_ok hA).1, (rawR_ok hA).2]
    have hn := valB_lt1 (l := (s.drop pos).take 1) (by rw [List.length_take]; exact Nat.min_le_left _ _)
    generalize hN : valB ((s.drop pos).take 1) = n at *
    refine s_on rfl rfl ?_
    refine s_pu (pu_move rfl) ?_
    refine s_on rfl rfl ?_
    refine s_pu (pu_conv_i64 rfl (by omega) (by omega)) ?_
    refine s_on rfl rfl ?_
    refine s_pu (pu_move rfl) ?_
    refine s_on rfl rfl ?_
    refine s_pu (pu_strln rfl) ?_
    refine s_on rfl rfl ?_
    refine s_pu (pu_gtr rfl rfl) ?_
    first | refine s_pu (pu_pick_t rfl rfl) ?_ | refine s_pu (pu_pick_f rfl rfl) ?_
    refine swl_sub _ (.cons (t := 0) rfl (.cons (t := 1) rfl (.cons (t := 2) rfl (.cons (t := 6) rfl (.cons (t := 8) rfl (.cons (t := 28) rfl .nil)))))) ?_
    refine swl_nil ?_
    refine then_n ?_
    refine swp_cond (b := _) rfl (fun h28 => ?_) (fun h28 => ?_)
    · skip   -- 28 T
      refine swp_seq ?_
      refine swp_region ?_
      refine s_pu (pu_bld (qs := []) rfl) ?_
      refine s_ef0 (ef_storeA rfl rfl rfl rfl) ?_
      refine s_pu (pu_assign rfl) ?_
      refine swl_sub _ (.cons (t := 6) rfl (.cons (t := 7) rfl .nil)) ?_
      refine swl_nil ?_
      refine then_n ?_
      refine swp_ret ?_
      refine then_r ?_
      have hB : last.length < n := by have := of_decide_eq_true h28; omega
      exact done_ret [rdB p s (pos + 1, 0)] (.cell rfl (ld_whole rfl) (.tmp rfl .nil)) ⟨([], 0), 3, _, rfl, rfl, .inr ⟨by decide, entP_far (by rw [hN]; exact hB), hA⟩⟩ (by repeat (first | exact Split.nil | (apply Split.cons; (repeat (first | with_reducible exact Take.here | apply Take.there)))))
    · skip   -- 28 F
      have hB : n ≤ last.length := by have := of_decide_eq_false h28; omega
      refine swp_skip ?_
      refine then_n ?_
      refine swp_seq ?_
      refine swp_region ?_
      refine s_pu (pu_move rfl) ?_
      refine s_ef (ef_fn (rdU8_spec p s (pos + 1, 0) hs hA) rfl rfl (by repeat (first | exact Split.nil | (apply Split.cons; (repeat (first | with_reducible exact Take.here | apply Take.there)))))) ?_
      rintro v32 L1 ⟨rfl, rfl⟩
      have hk := valB_lt1 (l := rawV s 1 (pos + 1, 0)) (rawV_len _ _ _)
      have hr2 := rawR_le (n := 1) (r := (pos + 1, 0)) hA
      refine swl_app ?_
      refine s_pu (pu_move rfl) ?_
      first | refine s_pu (pu_extractL rfl) ?_ | refine s_pu (pu_extract rfl rfl) ?_
      first | refine s_pu (pu_extractL rfl) ?_ | refine s_pu (pu_extract rfl rfl) ?_
      refine s_pu (pu_assign rfl) ?_
      refine s_pu (pu_assign rfl) ?_
      refine swl_sub _ (.cons (t := 0) rfl (.cons (t := 1) rfl (.cons (t := 2) rfl (.cons (t := 6) rfl (.cons (t := 8) rfl (.cons (t := 10) rfl .nil)))))) ?_
      refine swl_nil ?_
      refine then_n ?_
      refine swp_seq ?_
      refine swp_region ?_
      refine s_pu (pu_move rfl) ?_
      refine s_pu (pu_move rfl) ?_
      refine s_pu (pu_conv_i64 rfl (by first | omega | decide) (by first | omega | decide)) ?_
      refine s_ef (ef_fn (rdRaw_spec p s (rawR s 1 (pos + 1, 0)) (valB (rawV s 1 (pos + 1, 0))) hs hr2 (by omega)) rfl rfl (by repeat (first | exact Split.nil | (apply Split.cons; (repeat (first | with_reducible exact Take.here | apply Take.there)))))) ?_
      rintro v39 L1 ⟨rfl, rfl⟩
      refine swl_app ?_
      refine s_pu (pu_move rfl) ?_
      first | refine s_pu (pu_extractL rfl) ?_ | refine s_pu (pu_extract rfl rfl) ?_
      first | refine s_pu (pu_extractL rfl) ?_ | refine s_pu (pu_extract rfl rfl) ?_
      refine s_pu (pu_assign rfl) ?_
      refine s_pu (pu_assign rfl) ?_
      refine swl_sub _ (.cons (t := 0) rfl (.cons (t := 1) rfl (.cons (t := 2) rfl (.cons (t := 6) rfl (.cons (t := 8) rfl (.cons (t := 9) rfl (.cons (t := 12) rfl .nil))))))) ?_
      refine swl_nil ?_
      refine then_n ?_
      refine swp_seq ?_
      refine swp_seq ?_
      refine swp_region ?_
      refine s_pu (pu_move rfl) ?_
      refine s_pu (pu_neq rfl rfl) ?_
      refine swl_sub _ (.cons (t := 0) rfl (.cons (t := 1) rfl (.cons (t := 2) rfl (.cons (t := 6) rfl (.cons (t := 8) rfl (.cons (t := 9) rfl (.cons (t := 12) rfl (.cons (t := 43) rfl .nil)))))))) ?_
      refine swl_nil ?_
      refine then_n ?_
      refine swp_cond (b := _) rfl (fun h43 => ?_) (fun h43 => ?_)
      · skip   -- 43 T
        refine swp_seq ?_
        refine swp_region ?_
        refine s_pu (pu_bld (qs := []) rfl) ?_
        refine s_pu (pu_move rfl) ?_
        refine s_ef0 (ef_storeA rfl rfl rfl rfl) ?_
        refine s_pu (pu_assign rfl) ?_
        refine swl_sub _ (.cons (t := 6) rfl (.cons (t := 7) rfl .nil)) ?_
        refine swl_nil ?_
        refine then_n ?_
        refine swp_ret ?_
        refine then_r ?_
        have h43' : (rawR s (valB (rawV s 1 (pos + 1, 0))) (rawR s 1 (pos + 1, 0))).2 ≠ 0 := by simpa using h43
        refine done_ret [rdB p s _] (.cell rfl (ld_whole rfl) (.tmp rfl .nil)) ⟨([], 0), _, _, rfl, rfl, .inr ⟨h43', ?_, rawR_le hr2⟩⟩ (by repeat (first | exact Split.nil | (apply Split.cons; (repeat (first | with_reducible exact Take.here | apply Take.there)))))
        by_cases hC : s.length < pos + 2
        · exact entP_short hC
        · rw [(rawR_ok (s := s) (n := 1) (pos := pos + 1) (by omega)).1, (rawR_ok (s := s) (n := 1) (pos := pos + 1) (by omega)).2] at h43'
          exact entP_rest rfl (raw_e1 h43')
      · skip   -- 43 F
        have h43' : (rawR s (valB (rawV s 1 (pos + 1, 0))) (rawR s 1 (pos + 1, 0))).2 = 0 := by simpa using h43
        have hC : pos + 1 + 1 ≤ s.length := by
          refine Nat.le_of_not_lt fun k => ?_
          rw [(rawR_no (s := s) (n := 1) (pos := pos + 1) k).1, (rawR_err (s := s) (r := (pos + 1, 2)) (by show ¬ (2 : Int) = 0; decide)).1] at h43'
          exact absurd h43' (by show ¬ (2 : Int) = 0; decide)
        rw [(rawR_ok hC).1, (rawR_ok hC).2] at *
        have hD := raw_e0 h43'
        rw [(rawR_ok hD).1, (rawR_ok hD).2]
        generalize hK : valB ((s.drop (pos + 1)).take 1) = k at *
        generalize hP : last.take n ++ (s.drop (pos + 1 + 1)).take k = path
        refine swp_skip ?_
        refine then_n ?_
        refine swp_seq ?_
        refine swp_region ?_
        refine s_pu (pu_move rfl) ?_
        refine s_pu (pu_move rfl) ?_
        refine s_pu (pu_strhi n rfl rfl rfl hB) ?_
        refine s_pu (pu_move rfl) ?_
        refine s_pu (pu_strcat rfl rfl (by rw [List.length_take, List.length_take]; omega)) ?_
        refine s_pu (pu_assign rfl) ?_
        refine swl_sub _ (.cons (t := 0) rfl (.cons (t := 1) rfl (.cons (t := 2) rfl (.cons (t := 6) rfl (.cons (t := 8) rfl (.cons (t := 13) rfl .nil)))))) ?_
        refine swl_nil ?_
        refine then_n ?_
        refine swp_seq ?_
        refine swp_seq ?_
        rw [hP]
        refine swp_region ?_
        refine s_pu (pu_move rfl) ?_
        refine s_pu (pu_strln rfl) ?_
        refine s_pu (pu_gtr rfl rfl) ?_
        refine s_pu (pu_move rfl) ?_
        refine s_split 54 rfl (fun h54 => ?_) (fun h54 => ?_)
        · skip   -- 54 T
          have hF : 255 < path.length := by have := of_decide_eq_true h54; omega
          refine s_off rfl rfl rfl ?_
          refine s_off rfl rfl rfl ?_
          refine s_off rfl rfl rfl ?_
          refine s_off rfl rfl rfl ?_
          refine s_off rfl rfl rfl ?_
          refine s_off rfl rfl rfl ?_
          first | refine s_pu (pu_pick_t rfl rfl) ?_ | refine s_pu (pu_pick_f rfl rfl) ?_
          refine s_pu (pu_move rfl) ?_
          refine s_split 62 rfl (fun h62 => ?_) (fun h62 => by cases h62)
          refine s_off rfl rfl rfl ?_
          refine s_off rfl rfl rfl ?_
          refine s_off rfl rfl rfl ?_
          refine s_off rfl rfl rfl ?_
          refine s_off rfl rfl rfl ?_
          refine s_off rfl rfl rfl ?_
          refine s_off rfl rfl rfl ?_
          first | refine s_pu (pu_pick_t rfl rfl) ?_ | refine s_pu (pu_pick_f rfl rfl) ?_
          refine swl_sub _ (.cons (t := 0) rfl (.cons (t := 6) rfl (.cons (t := 13) rfl (.cons (t := 70) rfl .nil)))) ?_
          refine swl_nil ?_
          refine then_n ?_
          refine swp_cond (b := _) rfl (fun h70 => ?_) (fun h70 => by cases h70)
          refine swp_seq ?_
          refine swp_region ?_
          refine s_pu (pu_bld (qs := []) rfl) ?_
          refine s_ef0 (ef_storeA rfl rfl rfl rfl) ?_
          refine s_pu (pu_assign rfl) ?_
          refine swl_sub _ (.cons (t := 6) rfl (.cons (t := 7) rfl .nil)) ?_
          refine swl_nil ?_
          refine then_n ?_
          refine swp_ret ?_
          refine then_r ?_
          exact done_ret [rdB p s _] (.cell rfl (ld_whole rfl) (.tmp rfl .nil)) ⟨([], 0), 3, _, rfl, rfl, .inr ⟨by decide, entP_form hN hK hP (.inl hF), hD⟩⟩ (by repeat (first | exact Split.nil | (apply Split.cons; (repeat (first | with_reducible exact Take.here | apply Take.there)))))
        · skip   -- 54 F
          have hF : path.length ≤ 255 := by have := of_decide_eq_false h54; omega
          refine s_on rfl rfl ?_
          refine s_pu (pu_move rfl) ?_
          refine s_on rfl rfl ?_
          refine s_pu (pu_move rfl) ?_
          refine s_on rfl rfl ?_
          refine s_ef (ef_fn (alike_spec last path (by omega) (by omega)) rfl rfl (by repeat (first | exact Split.nil | (apply Split.cons; (repeat (first | with_reducible exact Take.here | apply Take.there)))))) ?_
          rintro v57 L1 ⟨rfl, rfl⟩
          refine swl_app ?_
          refine s_on rfl rfl ?_
          refine s_pu (pu_move rfl) ?_
          refine s_on rfl rfl ?_
          refine s_pu (pu_conv_i64 rfl (by omega) (by omega)) ?_
          refine s_on rfl rfl ?_
          refine s_pu (pu_neq rfl rfl) ?_
          first | refine s_pu (pu_pick_t rfl rfl) ?_ | refine s_pu (pu_pick_f rfl rfl) ?_
          refine s_pu (pu_move rfl) ?_
          refine s_split 62 rfl (fun h62 => ?_) (fun h62 => ?_)
          · skip   -- 62 T
            have hG : lcp last path ≠ n := fun e => by rw [e] at h62; simp at h62
            refine s_off rfl rfl rfl ?_
            refine s_off rfl rfl rfl ?_
            refine s_off rfl rfl rfl ?_
            refine s_off rfl rfl rfl ?_
            refine s_off rfl rfl rfl ?_
            refine s_off rfl rfl rfl ?_
            refine s_off rfl rfl rfl ?_
            first | refine s_pu (pu_pick_t rfl rfl) ?_ | refine s_pu (pu_pick_f rfl rfl) ?_
            refine swl_sub _ (.cons (t := 0) rfl (.cons (t := 6) rfl (.cons (t := 13) rfl (.cons (t := 70) rfl .nil)))) ?_
            refine swl_nil ?_
            refine then_n ?_
            refine swp_cond (b := _) rfl (fun h70 => ?_) (fun h70 => by cases h70)
            refine swp_seq ?_
            refine swp_region ?_
            refine s_pu (pu_bld (qs := []) rfl) ?_
            refine s_ef0 (ef_storeA rfl rfl rfl rfl) ?_
            refine s_pu (pu_assign rfl) ?_
            refine swl_sub _ (.cons (t := 6) rfl (.cons (t := 7) rfl .nil)) ?_
            refine swl_nil ?_
            refine then_n ?_
            refine swp_ret ?_
            refine then_r ?_
            exact done_ret [rdB p s _] (.cell rfl (ld_whole rfl) (.tmp rfl .nil)) ⟨([], 0), 3, _, rfl, rfl, .inr ⟨by decide, entP_form hN hK hP (.inr (.inl hG)), hD⟩⟩ (by repeat (first | exact Split.nil | (apply Split.cons; (repeat (first | with_reducible exact Take.here | apply Take.there)))))
          · skip   -- 62 F
            have hG : lcp last path = n := by
              have h62' : ((lcp last path : Nat) : Int) = (n : Nat) := by simpa using h62
              omega
            refine s_on rfl rfl ?_
            refine s_pu (pu_move rfl) ?_
            refine s_on rfl rfl ?_
            refine s_pu (pu_not rfl) ?_
            refine s_on rfl rfl ?_
            refine s_pu (pu_move rfl) ?_
            refine s_split 65 rfl (fun h65 => ?_) (fun h65 => ?_)
            · skip   -- 65 T
              have hH : first = false := by simpa using h65
              refine s_on rfl rfl ?_
              refine s_pu (pu_move rfl) ?_
              refine s_on rfl rfl ?_
              refine s_pu (pu_move rfl) ?_
              refine s_on rfl rfl ?_
              refine s_pu (pu_str_leq rfl rfl) ?_
              refine s_on rfl rfl ?_
              first | refine s_pu (pu_pick_t rfl rfl) ?_ | refine s_pu (pu_pick_f rfl rfl) ?_
              first | refine s_pu (pu_pick_t rfl rfl) ?_ | refine s_pu (pu_pick_f rfl rfl) ?_
              refine swl_sub _ (.cons (t := 0) rfl (.cons (t := 6) rfl (.cons (t := 13) rfl (.cons (t := 70) rfl .nil)))) ?_
              refine swl_nil ?_
              refine then_n ?_
              refine swp_cond (b := _) rfl (fun h70 => ?_) (fun h70 => ?_)
              · skip   -- 70 T
                have hI : strLt (str last) (str path) = false := leq_T h70
                refine swp_seq ?_
                refine swp_region ?_
                refine s_pu (pu_bld (qs := []) rfl) ?_
                refine s_ef0 (ef_storeA rfl rfl rfl rfl) ?_
                refine s_pu (pu_assign rfl) ?_
                refine swl_sub _ (.cons (t := 6) rfl (.cons (t := 7) rfl .nil)) ?_
                refine swl_nil ?_
                refine then_n ?_
                refine swp_ret ?_
                refine then_r ?_
                exact done_ret [rdB p s _] (.cell rfl (ld_whole rfl) (.tmp rfl .nil)) ⟨([], 0), 3, _, rfl, rfl, .inr ⟨by decide, entP_form hN hK hP (.inr (.inr ⟨hH, hI⟩)), hD⟩⟩ (by repeat (first | exact Split.nil | (apply Split.cons; (repeat (first | with_reducible exact Take.here | apply Take.there)))))
              · skip   -- 70 F
                have hI : strLt (str last) (str path) = true := leq_F h70
                have hJ : first = false → strLt (str last) (str path) = true := fun _ => hI
                refine swp_skip ?_
                refine then_n ?_
                refine swp_seq ?_
                refine swp_region ?_
                refine s_pu (pu_move rfl) ?_
                refine s_ef (ef_fn (rdU32_spec p s (pos + 1 + 1 + k, 0) hs hD) rfl rfl (by repeat (first | exact Split.nil | (apply Split.cons; (repeat (first | with_reducible exact Take.here | apply Take.there)))))) ?_
                rintro v74 L1 ⟨rfl, rfl⟩
                refine swl_app ?_
                refine s_pu (pu_move rfl) ?_
                first | refine s_pu (pu_extractL rfl) ?_ | refine s_pu (pu_extract rfl rfl) ?_
                first | refine s_pu (pu_extractL rfl) ?_ | refine s_pu (pu_extract rfl rfl) ?_
                refine s_pu (pu_assign rfl) ?_
                refine s_pu (pu_assign rfl) ?_
                refine swl_sub _ (.cons (t := 6) rfl (.cons (t := 9) rfl (.cons (t := 13) rfl (.cons (t := 14) rfl .nil)))) ?_
                refine swl_nil ?_
                refine then_n ?_
                refine swp_seq ?_
                refine swp_seq ?_
                refine swp_region ?_
                refine s_pu (pu_move rfl) ?_
                refine s_pu (pu_eql rfl rfl) ?_
                refine s_pu (pu_move rfl) ?_
                refine s_split 79 rfl (fun h79 => ?_) (fun h79 => ?_)
                · skip   -- 79 T
                  refine s_on rfl rfl ?_
                  refine s_pu (pu_move rfl) ?_
                  refine s_on rfl rfl ?_
                  refine s_pu (pu_eql rfl rfl) ?_
                  first | refine s_pu (pu_pick_t rfl rfl) ?_ | refine s_pu (pu_pick_f rfl rfl) ?_
                  refine swl_sub _ (.cons (t := 6) rfl (.cons (t := 9) rfl (.cons (t := 13) rfl (.cons (t := 14) rfl (.cons (t := 82) rfl .nil))))) ?_
                  refine swl_nil ?_
                  refine then_n ?_
                  refine swp_cond (b := _) rfl (fun h82 => ?_) (fun h82 => ?_)
                  · skip   -- 82 T
                    refine swp_region ?_
                    refine s_pu (pu_assign rfl) ?_
                    refine swl_sub _ (.cons (t := 6) rfl (.cons (t := 9) rfl (.cons (t := 13) rfl (.cons (t := 14) rfl .nil)))) ?_
                    refine swl_nil ?_
                    refine then_n ?_
                    refine swp_seq ?_
                    refine swp_region ?_
                    refine s_pu (pu_move rfl) ?_
                    refine s_pu (pu_move rfl) ?_
                    refine s_pu (pu_bld (qs := [(0, _), (1, _)]) rfl) ?_
                    refine s_pu (pu_move rfl) ?_
                    refine s_ef0 (ef_storeA rfl rfl rfl rfl) ?_
                    refine s_pu (pu_assign rfl) ?_
                    refine swl_sub _ (.cons (t := 6) rfl (.cons (t := 7) rfl .nil)) ?_
                    refine swl_nil ?_
                    refine then_n ?_
                    refine swp_ret ?_
                    have hE := raw_e0 (of_decide_eq_true h79)
                    rw [(rawR_ok hE).1, (rawR_ok hE).2] at *
                    have h82' : valB ((s.drop (pos + 1 + 1 + k)).take 4) = 0 := by have := of_decide_eq_true h82; omega
                    exact done_ret [rdB p s _] (.cell rfl (ld_whole rfl) (.tmp rfl .nil)) ⟨(path, _), 3, _, rfl, rfl, .inr ⟨by decide, entP_blob hK (.inr h82'), hE⟩⟩ (by repeat (first | exact Split.nil | (apply Split.cons; (repeat (first | with_reducible exact Take.here | apply Take.there)))))
                  · skip   -- 82 F
                    refine swp_skip ?_
                    refine then_n ?_
                    refine swp_seq ?_
                    refine swp_region ?_
                    refine s_pu (pu_move rfl) ?_
                    refine s_pu (pu_move rfl) ?_
                    refine s_pu (pu_bld (qs := [(0, _), (1, _)]) rfl) ?_
                    refine s_pu (pu_move rfl) ?_
                    refine s_ef0 (ef_storeA rfl rfl rfl rfl) ?_
                    refine s_pu (pu_assign rfl) ?_
                    refine swl_sub _ (.cons (t := 6) rfl (.cons (t := 7) rfl .nil)) ?_
                    refine swl_nil ?_
                    refine then_n ?_
                    refine swp_ret ?_
                    have h79' := of_decide_eq_true h79
                    have hE := raw_e0 h79'
                    rw [(rawR_ok hE).1, (rawR_ok hE).2] at *
                    have h82' : valB ((s.drop (pos + 1 + 1 + k)).take 4) ≠ 0 := by have := of_decide_eq_false h82; omega
                    exact done_ret [rdB p s _] (.cell rfl (ld_whole rfl) (.tmp rfl .nil)) ⟨(path, valB ((s.drop (pos + 1 + 1 + k)).take 4)), 0, (pos + 1 + 1 + k + 4, 0), rfl, rfl, .inl ⟨rfl, rfl, entP_some hN hK hP hB hF hG hJ hE h82'⟩⟩ (by repeat (first | exact Split.nil | (apply Split.cons; (repeat (first | with_reducible exact Take.here | apply Take.there)))))
                · skip   -- 79 F
                  refine s_off rfl rfl rfl ?_
                  refine s_off rfl rfl rfl ?_
                  first | refine s_pu (pu_pick_t rfl rfl) ?_ | refine s_pu (pu_pick_f rfl rfl) ?_
                  refine swl_sub _ (.cons (t := 6) rfl (.cons (t := 9) rfl (.cons (t := 13) rfl (.cons (t := 14) rfl (.cons (t := 82) rfl .nil))))) ?_
                  refine swl_nil ?_
                  refine then_n ?_
                  refine swp_cond (b := _) rfl (fun h82 => by cases h82) (fun h82 => ?_)
                  refine swp_skip ?_
                  refine then_n ?_
                  refine swp_seq ?_
                  refine swp_region ?_
                  refine s_pu (pu_move rfl) ?_
                  refine s_pu (pu_move rfl) ?_
                  refine s_pu (pu_bld (qs := [(0, _), (1, _)]) rfl) ?_
                  refine s_pu (pu_move rfl) ?_
                  refine s_ef0 (ef_storeA rfl rfl rfl rfl) ?_
                  refine s_pu (pu_assign rfl) ?_
                  refine swl_sub _ (.cons (t := 6) rfl (.cons (t := 7) rfl .nil)) ?_
                  refine swl_nil ?_
                  refine then_n ?_
                  refine swp_ret ?_
                  have h79' := of_decide_eq_false h79
                  exact done_ret [rdB p s _] (.cell rfl (ld_whole rfl) (.tmp rfl .nil)) ⟨(path, _), _, _, rfl, rfl, .inr ⟨h79', entP_blob hK (.inl (raw_e1 h79')), rawR_le hD⟩⟩ (by repeat (first | exact Split.nil | (apply Split.cons; (repeat (first | with_reducible exact Take.here | apply Take.there)))))
            · skip   -- 65 F
              have hH : first = true := by simpa using h65
              have hJ : first = false → strLt (str last) (str path) = true := fun e => by rw [hH] at e; cases e
              refine s_off rfl rfl rfl ?_
              refine s_off rfl rfl rfl ?_
              refine s_off rfl rfl rfl ?_
              refine s_on rfl rfl ?_
              first | refine s_pu (pu_pick_t rfl rfl) ?_ | refine s_pu (pu_pick_f rfl rfl) ?_
              first | refine s_pu (pu_pick_t rfl rfl) ?_ | refine s_pu (pu_pick_f rfl rfl) ?_
              refine swl_sub _ (.cons (t := 0) rfl (.cons (t := 6) rfl (.cons (t := 13) rfl (.cons (t := 70) rfl .nil)))) ?_
              refine swl_nil ?_
              refine then_n ?_
              refine swp_cond (b := _) rfl (fun h70 => by cases h70) (fun h70 => ?_)
              refine swp_skip ?_
              refine then_n ?_
              refine swp_seq ?_
              refine swp_region ?_
              refine s_pu (pu_move rfl) ?_
              refine s_ef (ef_fn (rdU32_spec p s (pos + 1 + 1 + k, 0) hs hD) rfl rfl (by repeat (first | exact Split.nil | (apply Split.cons; (repeat (first | with_reducible exact Take.here | apply Take.there)))))) ?_
              rintro v74 L1 ⟨rfl, rfl⟩
              refine swl_app ?_
              refine s_pu (pu_move rfl) ?_
              first | refine s_pu (pu_extractL rfl) ?_ | refine s_pu (pu_extract rfl rfl) ?_
              first | refine s_pu (pu_extractL rfl) ?_ | refine s_pu (pu_extract rfl rfl) ?_
              refine s_pu (pu_assign rfl) ?_
              refine s_pu (pu_assign rfl) ?_
              refine swl_sub _ (.cons (t := 6) rfl (.cons (t := 9) rfl (.cons (t := 13) rfl (.cons (t := 14) rfl .nil)))) ?_
              refine swl_nil ?_
              refine then_n ?_
              refine swp_seq ?_
              refine swp_seq ?_
              refine swp_region ?_
              refine s_pu (pu_move rfl) ?_
              refine s_pu (pu_eql rfl rfl) ?_
              refine s_pu (pu_move rfl) ?_
              refine s_split 79 rfl (fun h79 => ?_) (fun h79 => ?_)
              · skip   -- 79 T
                refine s_on rfl rfl ?_
                refine s_pu (pu_move rfl) ?_
                refine s_on rfl rfl ?_
                refine s_pu (pu_eql rfl rfl) ?_
                first | refine s_pu (pu_pick_t rfl rfl) ?_ | refine s_pu (pu_pick_f rfl rfl) ?_
                refine swl_sub _ (.cons (t := 6) rfl (.cons (t := 9) rfl (.cons (t := 13) rfl (.cons (t := 14) rfl (.cons (t := 82) rfl .nil))))) ?_
                refine swl_nil ?_
                refine then_n ?_
                refine swp_cond (b := _) rfl (fun h82 => ?_) (fun h82 => ?_)
                · skip   -- 82 T
                  refine swp_region ?_
                  refine s_pu (pu_assign rfl) ?_
                  refine swl_sub _ (.cons (t := 6) rfl (.cons (t := 9) rfl (.cons (t := 13) rfl (.cons (t := 14) rfl .nil)))) ?_
                  refine swl_nil ?_
                  refine then_n ?_
                  refine swp_seq ?_
                  refine swp_region ?_
                  refine s_pu (pu_move rfl) ?_
                  refine s_pu (pu_move rfl) ?_
                  refine s_pu (pu_bld (qs := [(0, _), (1, _)]) rfl) ?_
                  refine s_pu (pu_move rfl) ?_
                  refine s_ef0 (ef_storeA rfl rfl rfl rfl) ?_
                  refine s_pu (pu_assign rfl) ?_
                  refine swl_sub _ (.cons (t := 6) rfl (.cons (t := 7) rfl .nil)) ?_
                  refine swl_nil ?_
                  refine then_n ?_
                  refine swp_ret ?_
                  have hE := raw_e0 (of_decide_eq_true h79)
                  rw [(rawR_ok hE).1, (rawR_ok hE).2] at *
                  have h82' : valB ((s.drop (pos + 1 + 1 + k)).take 4) = 0 := by have := of_decide_eq_true h82; omega
                  exact done_ret [rdB p s _] (.cell rfl (ld_whole rfl) (.tmp rfl .nil)) ⟨(path, _), 3, _, rfl, rfl, .inr ⟨by decide, entP_blob hK (.inr h82'), hE⟩⟩ (by repeat (first | exact Split.nil | (apply Split.cons; (repeat (first | with_reducible exact Take.here | apply Take.there)))))
                · skip   -- 82 F
                  refine swp_skip ?_
                  refine then_n ?_
                  refine swp_seq ?_
                  refine swp_region ?_
                  refine s_pu (pu_move rfl) ?_
                  refine s_pu (pu_move rfl) ?_
                  refine s_pu (pu_bld (qs := [(0, _), (1, _)]) rfl) ?_
                  refine s_pu (pu_move rfl) ?_
                  refine s_ef0 (ef_storeA rfl rfl rfl rfl) ?_
                  refine s_pu (pu_assign rfl) ?_
                  refine swl_sub _ (.cons (t := 6) rfl (.cons (t := 7) rfl .nil)) ?_
                  refine swl_nil ?_
                  refine then_n ?_
                  refine swp_ret ?_
                  have h79' := of_decide_eq_true h79
                  have hE := raw_e0 h79'
                  rw [(rawR_ok hE).1, (rawR_ok hE).2] at *
                  have h82' : valB ((s.drop (pos + 1 + 1 + k)).take 4) ≠ 0 := by have := of_decide_eq_false h82; omega
                  exact done_ret [rdB p s _] (.cell rfl (ld_whole rfl) (.tmp rfl .nil)) ⟨(path, valB ((s.drop (pos + 1 + 1 + k)).take 4)), 0, (pos + 1 + 1 + k + 4, 0), rfl, rfl, .inl ⟨rfl, rfl, entP_some hN hK hP hB hF hG hJ hE h82'⟩⟩ (by repeat (first | exact Split.nil | (apply Split.cons; (repeat (first | with_reducible exact Take.here | apply Take.there)))))
              · skip   -- 79 F
                refine s_off rfl rfl rfl ?_
                refine s_off rfl rfl rfl ?_
                first | refine s_pu (pu_pick_t rfl rfl) ?_ | refine s_pu (pu_pick_f rfl rfl) ?_
                refine swl_sub _ (.cons (t := 6) rfl (.cons (t := 9) rfl (.cons (t := 13) rfl (.cons (t := 14) rfl (.cons (t := 82) rfl .nil))))) ?_
                refine swl_nil ?_
                refine then_n ?_
                refine swp_cond (b := _) rfl (fun h82 => by cases h82) (fun h82 => ?_)
                refine swp_skip ?_
                refine then_n ?_
                refine swp_seq ?_
                refine swp_region ?_
                refine s_pu (pu_move rfl) ?_
                refine s_pu (pu_move rfl) ?_
                refine s_pu (pu_bld (qs := [(0, _), (1, _)]) rfl) ?_
                refine s_pu (pu_move rfl) ?_
                refine s_ef0 (ef_storeA rfl rfl rfl rfl) ?_
                refine s_pu (pu_assign rfl) ?_
                refine swl_sub _ (.cons (t := 6) rfl (.cons (t := 7) rfl .nil)) ?_
                refine swl_nil ?_
                refine then_n ?_
                refine swp_ret ?_
                have h79' := of_decide_eq_false h79
                exact done_ret [rdB p s _] (.cell rfl (ld_whole rfl) (.tmp rfl .nil)) ⟨(path, _), _, _, rfl, rfl, .inr ⟨h79', entP_blob hK (.inl (raw_e1 h79')), rawR_le hD⟩⟩ (by repeat (first | exact Split.nil | (apply Split.cons; (repeat (first | with_reducible exact Take.here | apply Take.there)))))
  · skip   -- 22 F
    have hZ := raw_e1 (of_decide_eq_false h22)
    rw [(rawR_no hZ).1, (rawR_no hZ).2]
    have hr2 : ((pos, 2) : RS).2 ≠ 0 := by show ¬ (2 : Int) = 0; decide
    refine s_off rfl rfl rfl ?_
    refine s_off rfl rfl rfl ?_
    refine s_off rfl rfl rfl ?_
    refine s_off rfl rfl rfl ?_
    refine s_off rfl rfl rfl ?_
    first | refine s_pu (pu_pick_t rfl rfl) ?_ | refine s_pu (pu_pick_f rfl rfl) ?_
    refine swl_sub _ (.cons (t := 0) rfl (.cons (t := 1) rfl (.cons (t := 2) rfl (.cons (t := 6) rfl (.cons (t := 8) rfl (.cons (t := 28) rfl .nil)))))) ?_
    refine swl_nil ?_
    refine then_n ?_
    refine swp_cond (b := _) rfl (fun h28 => by cases h28) (fun h28 => ?_)
    refine swp_skip ?_
    refine then_n ?_
    refine swp_seq ?_
    refine swp_region ?_
    refine s_pu (pu_move rfl) ?_
    refine s_ef (ef_fn (rdU8_spec p s (pos, 2) hs hpos) rfl rfl (by repeat (first | exact Split.nil | (apply Split.cons; (repeat (first | with_reducible exact Take.here | apply Take.there)))))) ?_
    rintro v32 L1 ⟨rfl, rfl⟩
    rw [(rawR_err hr2).1, (rawR_err hr2).2]
    refine swl_app ?_
    refine s_pu (pu_move rfl) ?_
    first | refine s_pu (pu_extractL rfl) ?_ | refine s_pu (pu_extract rfl rfl) ?_
    first | refine s_pu (pu_extractL rfl) ?_ | refine s_pu (pu_extract rfl rfl) ?_
    refine s_pu (pu_assign rfl) ?_
    refine s_pu (pu_assign rfl) ?_
    refine swl_sub _ (.cons (t := 0) rfl (.cons (t := 1) rfl (.cons (t := 2) rfl (.cons (t := 6) rfl (.cons (t := 8) rfl (.cons (t := 10) rfl .nil)))))) ?_
    refine swl_nil ?_
    refine then_n ?_
    refine swp_seq ?_
    refine swp_region ?_
    refine s_pu (pu_move rfl) ?_
    refine s_pu (pu_move rfl) ?_
    refine s_pu (pu_conv_i64 rfl (by first | omega | decide) (by first | omega | decide)) ?_
    refine s_ef (ef_fn (rdRaw_spec p s (pos, 2) 0 hs hpos (by omega)) rfl rfl (by repeat (first | exact Split.nil | (apply Split.cons; (repeat (first | with_reducible exact Take.here | apply Take.there)))))) ?_
    rintro v39 L1 ⟨rfl, rfl⟩
    rw [(rawR_err hr2).1, (rawR_err hr2).2]
    refine swl_app ?_
    refine s_pu (pu_move rfl) ?_
    first | refine s_pu (pu_extractL rfl) ?_ | refine s_pu (pu_extract rfl rfl) ?_
    first | refine s_pu (pu_extractL rfl) ?_ | refine s_pu (pu_extract rfl rfl) ?_
    refine s_pu (pu_assign rfl) ?_
    refine s_pu (pu_assign rfl) ?_
    refine swl_sub _ (.cons (t := 0) rfl (.cons (t := 1) rfl (.cons (t := 2) rfl (.cons (t := 6) rfl (.cons (t := 8) rfl (.cons (t := 9) rfl (.cons (t := 12) rfl .nil))))))) ?_
    refine swl_nil ?_
    refine then_n ?_
    refine swp_seq ?_
    refine swp_seq ?_
    refine swp_region ?_
    refine s_pu (pu_move rfl) ?_
    refine s_pu (pu_neq rfl rfl) ?_
    refine swl_sub _ (.cons (t := 0) rfl (.cons (t := 1) rfl (.cons (t := 2) rfl (.cons (t := 6) rfl (.cons (t := 8) rfl (.cons (t := 9) rfl (.cons (t := 12) rfl (.cons (t := 43) rfl .nil)))))))) ?_
    refine swl_nil ?_
    refine then_n ?_
    refine swp_cond (b := _) rfl (fun h43 => ?_) (fun h43 => by cases h43)
    refine swp_seq ?_
    refine swp_region ?_
    refine s_pu (pu_bld (qs := []) rfl) ?_
    refine s_pu (pu_move rfl) ?_
    refine s_ef0 (ef_storeA rfl rfl rfl rfl) ?_
    refine s_pu (pu_assign rfl) ?_
    refine swl_sub _ (.cons (t := 6) rfl (.cons (t := 7) rfl .nil)) ?_
    refine swl_nil ?_
    refine then_n ?_
    refine swp_ret ?_
    refine then_r ?_
    exact done_ret [rdB p s (pos, 2)] (.cell rfl (ld_whole rfl) (.tmp rfl .nil)) ⟨([], 0), 2, (pos, 2), rfl, rfl, .inr ⟨by decide, entP_short (by omega), hpos⟩⟩ (by repeat (first | exact Split.nil | (apply Split.cons; (repeat (first | with_reducible exact Take.here | apply Take.there)))))
end SX
namespace SX
open Go Go.Proofs
def restD (s : List UInt8) (k : Nat) (first : Bool) (last : List UInt8) (pos : Nat) (acc : List En) : Option (List En) :=
  match decL s k first last pos with
  | none => none
  | some (l, q) => if q = s.length then some (acc ++ l) else none
theorem restD_zero {s : List UInt8} {first : Bool} {last : List UInt8} {pos : Nat} {acc : List En} : restD s 0 first last pos acc = if pos = s.length then some acc else none := by
  unfold restD decL
  simp only [List.append_nil]
theorem restD_none {s : List UInt8} {first : Bool} {last : List UInt8} {pos k : Nat} {acc : List En} (h : entP s first last pos = none) : restD s (k + 1) first last pos acc = none := by
  unfold restD decL
  rw [h]
theorem restD_some {s : List UInt8} {first : Bool} {last : List UInt8} {pos k : Nat} {acc : List En} {x : List UInt8 × Nat} {q : Nat} (h : entP s first last pos = some (x, q)) : restD s (k + 1) first last pos acc = restD s k false x.1 q (acc ++ [enOf x]) := by
  unfold restD
  rw [decL, h]
  show (match (match decL s k false x.1 q with | none => none | some (l, q) => some (enOf x :: l, q)) with | none => none | some (l, q) => if q = s.length then some (acc ++ l) else none) = _
  cases decL s k false x.1 q with
  | none => rfl
  | some lq =>
    obtain ⟨l, q'⟩ := lq
    show (if q' = s.length then some (acc ++ enOf x :: l) else none) = if q' = s.length then some (acc ++ [enOf x] ++ l) else none
    rw [List.append_assoc]
    rfl
theorem decT_rest {s : List UInt8} {n : Nat} (h : 2 ≤ s.length) (hn : valB (s.take 2) = n) (h2 : n ≤ 1024) : decT s = restD s n true [] 2 [] := by
  unfold decT restD
  rw [if_neg (by omega), hn, if_neg (by omega)]
  cases decL s n true [] 2 with
  | none => rfl
  | some lq => rfl
theorem decT_short {s : List UInt8} (h : s.length < 2) : decT s = none := by unfold decT; rw [if_pos h]
theorem decT_long {s : List UInt8} (h : 1024 < valB (s.take 2)) : decT s = none := by
  unfold decT
  split
  · rfl
  · first | rfl | rw [if_pos h]
theorem endE_zero {s : List UInt8} {pos : Nat} (hp : pos ≤ s.length) : (endE s (pos, 0) = 0 → pos = s.length) ∧ (endE s (pos, 0) ≠ 0 → pos ≠ s.length) := by
  unfold endE
  rw [if_neg (fun k => k rfl)]
  by_cases h : pos < s.length
  · rw [if_pos h]; exact ⟨fun k => (absurd k (by decide)), fun _ => by omega⟩
  · rw [if_neg h]; exact ⟨fun _ => by omega, fun k => absurd rfl k⟩
/-- what a decoder of trees answers -/
def DecT (s : List UInt8) (tv : Value) (e : Int) (L : List Assn) : Prop :=
  (e = 0 ∧ ∃ t, decT s = some t ∧ L = [own 44 2 tv t.length (ens t)]) ∨ (e ≠ 0 ∧ decT s = none ∧ tv = .slice none 0 0 ∧ L = [])
structure DI where
  i : Nat
  r : RS
  last : List UInt8
  acc : List En
  v7 : Value
  e : Int
set_option maxHeartbeats 4000000 in
theorem tdec_spec (s : List UInt8) (hs : s.length ≤ 1073741824) : Spec Try.prog 75 [.string (str s)] [] (fun v L => ∃ tv e, v = .tuple #[tv, .int .i64 e] ∧ DecT s tv e L) := by
  refine Spec.of 58 Try.func75 rfl rfl rfl ?_
  refine swp_seq ?_
  refine swp_region ?_
  refine s_pu (pu_assign rfl) ?_
  refine s_pu (pu_assign rfl) ?_
  refine swl_sub _ (.cons (t := 0) rfl .nil) ?_
  refine swl_nil ?_
  refine then_n ?_
  refine swp_seq ?_
  refine swp_region ?_
  refine s_pu (pu_move rfl) ?_
  refine s_ef (ef_fn (newR_spec s) rfl rfl (by repeat (first | exact Split.nil | (apply Split.cons; (repeat (first | with_reducible exact Take.here | apply Take.there)))))) ?_
  rintro v12 L1 ⟨p, rfl, rfl⟩
  refine swl_app ?_
  refine s_pu (pu_assign rfl) ?_
  refine swl_sub _ (.cons (t := 4) rfl .nil) ?_
  refine swl_nil ?_
  refine then_n ?_
  refine swp_seq ?_
  refine swp_region ?_
  refine s_pu (pu_move rfl) ?_
  refine s_ef (ef_fn (rdU16_spec p s (0, 0) hs (Nat.zero_le _)) rfl rfl (by repeat (first | exact Split.nil | (apply Split.cons; (repeat (first | with_reducible exact Take.here | apply Take.there)))))) ?_
  rintro v15 L1 ⟨rfl, rfl⟩
  refine swl_app ?_
  refine s_pu (pu_move rfl) ?_
  first | refine s_pu (pu_extractL rfl) ?_ | refine s_pu (pu_extract rfl rfl) ?_
  first | refine s_pu (pu_extractL rfl) ?_ | refine s_pu (pu_extract rfl rfl) ?_
  refine s_pu (pu_assign rfl) ?_
  refine s_pu (pu_assign rfl) ?_
  refine swl_sub _ (.cons (t := 4) rfl (.cons (t := 5) rfl (.cons (t := 6) rfl .nil))) ?_
  refine swl_nil ?_
  refine then_n ?_
  refine swp_cut (fun env L => ∃ e : Int, Sub env [(4, .pointer (some ⟨p, 0, none⟩)), (5, .int .u16 (valB (rawV s 2 (0, 0)) : Nat)), (6, .int .i64 e)] ∧ Ent L [rdB p s (rawR s 2 (0, 0))] ∧ ((e = 0 ∧ 2 ≤ s.length ∧ valB (s.take 2) ≤ 1024) ∨ (e ≠ 0 ∧ decT s = none))) ?_ ?_
  · skip
    refine swp_seq ?_
    refine swp_region ?_
    refine s_pu (pu_move rfl) ?_
    refine s_pu (pu_eql rfl rfl) ?_
    refine s_pu (pu_move rfl) ?_
    refine s_split 20 rfl (fun h20 => ?_) (fun h20 => ?_)
    · skip   -- 20 T
      refine s_on rfl rfl ?_
      refine s_pu (pu_move rfl) ?_
      refine s_on rfl rfl ?_
      refine s_pu (pu_gtr rfl rfl) ?_
      first | refine s_pu (pu_pick_t rfl rfl) ?_ | refine s_pu (pu_pick_f rfl rfl) ?_
      refine swl_sub _ (.cons (t := 4) rfl (.cons (t := 5) rfl (.cons (t := 6) rfl (.cons (t := 23) rfl .nil)))) ?_
      refine swl_nil ?_
      refine then_n ?_
      refine swp_cond (b := _) rfl (fun h23 => ?_) (fun h23 => ?_)
      · skip   -- 23 T
        refine swp_region ?_
        refine s_pu (pu_assign rfl) ?_
        refine swl_sub _ (.cons (t := 4) rfl (.cons (t := 5) rfl (.cons (t := 6) rfl .nil))) ?_
        refine swl_nil ?_
        have hA : 0 + 2 ≤ s.length := raw_e0 (of_decide_eq_true h20)
        have hv : rawV s 2 (0, 0) = s.take 2 := (rawR_ok hA).2
        have h23' : 1024 < valB (s.take 2) := by rw [hv] at h23; have := of_decide_eq_true h23; omega
        exact then_n ⟨3, ⟨rfl, rfl, rfl, trivial⟩, Split.ent' (by repeat (first | exact Split.nil | (apply Split.cons; (repeat (first | with_reducible exact Take.here | apply Take.there))))), .inr ⟨by decide, decT_long h23'⟩⟩
      · skip   -- 23 F
        refine swp_skip ?_
        have hA : 0 + 2 ≤ s.length := raw_e0 (of_decide_eq_true h20)
        have hv : rawV s 2 (0, 0) = s.take 2 := (rawR_ok hA).2
        have h23' : valB (s.take 2) ≤ 1024 := by rw [hv] at h23; have := of_decide_eq_false h23; omega
        exact then_n ⟨_, ⟨rfl, rfl, rfl, trivial⟩, Split.ent' (by repeat (first | exact Split.nil | (apply Split.cons; (repeat (first | with_reducible exact Take.here | apply Take.there))))), .inl ⟨of_decide_eq_true h20, by omega, h23'⟩⟩
    · skip   -- 20 F
      refine s_off rfl rfl rfl ?_
      refine s_off rfl rfl rfl ?_
      first | refine s_pu (pu_pick_t rfl rfl) ?_ | refine s_pu (pu_pick_f rfl rfl) ?_
      refine swl_sub _ (.cons (t := 4) rfl (.cons (t := 5) rfl (.cons (t := 6) rfl (.cons (t := 23) rfl .nil)))) ?_
      refine swl_nil ?_
      refine then_n ?_
      refine swp_cond (b := _) rfl (fun h23 => by cases h23) (fun h23 => ?_)
      refine swp_skip ?_
      have h20' := of_decide_eq_false h20
      exact then_n ⟨_, ⟨rfl, rfl, rfl, trivial⟩, Split.ent' (by repeat (first | exact Split.nil | (apply Split.cons; (repeat (first | with_reducible exact Take.here | apply Take.there))))), .inr ⟨h20', decT_short (by have := raw_e1 h20'; omega)⟩⟩
  rintro env L ⟨e, hsub, hE, hcase⟩
  refine swp_sub _ hsub ?_
  refine swp_ent hE ?_
  clear hsub hE env L
  obtain ⟨n, hn, hr, hcase'⟩ : ∃ n, valB (rawV s 2 (0, 0)) = n ∧ (rawR s 2 (0, 0)).1 ≤ s.length ∧ ((e = 0 ∧ n ≤ 1024 ∧ (rawR s 2 (0, 0)).2 = 0 ∧ decT s = restD s n true [] (rawR s 2 (0, 0)).1 []) ∨ (e ≠ 0 ∧ decT s = none)) := by
    refine ⟨_, rfl, rawR_le (Nat.zero_le _), ?_⟩
    rcases hcase with ⟨h1, h2, h3⟩ | h
    · have hA : 0 + 2 ≤ s.length := by omega
      rw [(rawR_ok hA).1, (rawR_ok hA).2]
      exact .inl ⟨h1, h3, rfl, decT_rest h2 rfl h3⟩
    · exact .inr h
  rw [hn]
  generalize rawR s 2 (0, 0) = r0 at *
  have hn2 : n < 65536 := by rw [← hn]; exact valB_lt2 (rawV_len _ _ _)
  refine swp_seq ?_
  refine swp_region ?_
  refine s_pu (pu_assign rfl) ?_
  refine swl_sub _ (.cons (t := 4) rfl (.cons (t := 5) rfl (.cons (t := 6) rfl (.cons (t := 7) rfl .nil)))) ?_
  refine swl_nil ?_
  refine then_n ?_
  refine swp_seq ?_
  refine swp_region ?_
  refine s_pu (pu_assign rfl) ?_
  refine swl_sub _ (.cons (t := 4) rfl (.cons (t := 5) rfl (.cons (t := 6) rfl (.cons (t := 7) rfl (.cons (t := 8) rfl .nil))))) ?_
  refine swl_nil ?_
  refine then_n ?_
  refine swp_seq ?_
  refine swp_seq ?_
  refine swp_region ?_
  refine s_pu (pu_assign rfl) ?_
  refine swl_sub _ (.cons (t := 4) rfl (.cons (t := 5) rfl (.cons (t := 6) rfl (.cons (t := 7) rfl (.cons (t := 8) rfl (.cons (t := 9) rfl .nil)))))) ?_
  refine swl_nil ?_
  refine then_n ?_
  refine swp_block ?_
  refine swp_ent (own_nil_ent (e := 44) (n := 2)) ?_
  refine swp_loop (ι := DI) (fun x env L => Sub env [(4, .pointer (some ⟨p, 0, none⟩)), (5, .int .u16 (n : Nat)), (6, .int .i64 x.e), (7, x.v7), (8, .string (str x.last)), (9, .int .i64 (x.i : Nat))] ∧ Ent L [own 44 2 x.v7 x.acc.length (ens x.acc), rdB p s x.r] ∧
    x.last.length ≤ 255 ∧ x.r.1 ≤ s.length ∧ x.i ≤ n ∧ x.acc.length ≤ x.i ∧ ((x.e = 0 ∧ n ≤ 1024 ∧ x.r.2 = 0 ∧ decT s = restD s (n - x.i) (decide (x.i = 0)) x.last x.r.1 x.acc) ∨ (x.e ≠ 0 ∧ decT s = none))) (fun x => if x.e = 0 then n + 1 - x.i else 0) ⟨0, r0, [], [], .slice none 0 0, e⟩ ⟨⟨rfl, rfl, rfl, rfl, rfl, rfl, trivial⟩, by show Ent _ [own 44 2 (.slice none 0 0) 0 [], rdB p s r0]; exact Ent.refl _, Nat.zero_le _, hr, Nat.zero_le _, Nat.le_refl _, hcase'⟩ ?_
  clear hcase hcase' hr hn r0 e
  rintro ⟨i, r, last, acc, v7, e⟩ env L ⟨hsub, hE, hl, hr, hi, ha, hc⟩
  dsimp only at hsub hE hl hr hi ha hc
  refine swp_sub _ hsub ?_
  refine swp_ent hE ?_
  clear hsub hE env L
  dsimp only
  refine swp_seq ?_
  refine swp_seq ?_
  refine swp_region ?_
  refine s_pu (pu_move rfl) ?_
  refine s_pu (pu_eql rfl rfl) ?_
  refine s_pu (pu_move rfl) ?_
  refine s_split 26 rfl (fun h26 => ?_) (fun h26 => ?_)
  · skip   -- 26 T
    obtain ⟨e0, hn1, hr0, hd⟩ : e = 0 ∧ n ≤ 1024 ∧ r.2 = 0 ∧ decT s = restD s (n - i) (decide (i = 0)) last r.1 acc := hc.resolve_right fun k => k.1 (of_decide_eq_true h26)
    obtain ⟨pos, re⟩ := r
    dsimp only at hr hr0 hd
    subst hr0 e0
    clear hc
    refine s_on rfl rfl ?_
    refine s_pu (pu_move rfl) ?_
    refine s_on rfl rfl ?_
    refine s_pu (pu_move rfl) ?_
    refine s_on rfl rfl ?_
    refine s_pu (pu_conv_i64 rfl (by omega) (by omega)) ?_
    refine s_on rfl rfl ?_
    refine s_pu (pu_lss rfl rfl) ?_
    first | refine s_pu (pu_pick_t rfl rfl) ?_ | refine s_pu (pu_pick_f rfl rfl) ?_
    refine swl_sub _ (.cons (t := 4) rfl (.cons (t := 5) rfl (.cons (t := 6) rfl (.cons (t := 7) rfl (.cons (t := 8) rfl (.cons (t := 9) rfl (.cons (t := 31) rfl .nil))))))) ?_
    refine swl_nil ?_
    refine then_n ?_
    refine swp_cond (b := _) rfl (fun h31 => ?_) (fun h31 => ?_)
    · skip   -- 31 T
      have hin : i < n := by have := of_decide_eq_true h31; omega
      rw [show n - i = (n - (i + 1)) + 1 by omega] at hd
      have hf : decide (((i : Nat) : Int) = 0) = decide (i = 0) := by
        by_cases k : i = 0
        · rw [decide_eq_true k, decide_eq_true (by omega)]
        · rw [decide_eq_false k, decide_eq_false (by omega)]
      refine swp_skip ?_
      refine then_n ?_
      refine swp_seq ?_
      refine swp_block ?_
      refine swp_seq ?_
      refine swp_region ?_
      refine s_ef (ef_alloc) ?_
      intro b10
      refine swl_sub _ (.cons (t := 4) rfl (.cons (t := 5) rfl (.cons (t := 7) rfl (.cons (t := 8) rfl (.cons (t := 9) rfl (.cons (t := 10) rfl .nil)))))) ?_
      refine swl_nil ?_
      refine then_n ?_
      refine swp_seq ?_
      refine swp_region ?_
      refine s_pu (pu_move rfl) ?_
      refine s_pu (pu_move rfl) ?_
      refine s_pu (pu_eql rfl rfl) ?_
      refine s_pu (pu_move rfl) ?_
      refine s_ef (ef_fn (entry_spec p s last (decide (((i : Nat) : Int) = 0)) pos hs hr hl) rfl rfl (by repeat (first | exact Split.nil | (apply Split.cons; (repeat (first | with_reducible exact Take.here | apply Take.there)))))) ?_
      rintro v39 L1 ⟨x, e', r', rfl, rfl, hq⟩
      rw [hf] at hq
      refine swl_app ?_
      refine s_pu (pu_move rfl) ?_
      first | refine s_pu (pu_extractL rfl) ?_ | refine s_pu (pu_extract rfl rfl) ?_
      first | refine s_pu (pu_extractL rfl) ?_ | refine s_pu (pu_extract rfl rfl) ?_
      refine s_ef0 (ef_storeA rfl rfl rfl rfl) ?_
      refine s_pu (pu_assign rfl) ?_
      refine swl_sub _ (.cons (t := 4) rfl (.cons (t := 5) rfl (.cons (t := 6) rfl (.cons (t := 7) rfl (.cons (t := 8) rfl (.cons (t := 9) rfl (.cons (t := 10) rfl .nil))))))) ?_
      refine swl_nil ?_
      refine then_n ?_
      refine swp_seq ?_
      refine swp_region ?_
      refine s_pu (pu_move rfl) ?_
      refine s_pu (pu_eql rfl rfl) ?_
      refine swl_sub _ (.cons (t := 4) rfl (.cons (t := 5) rfl (.cons (t := 6) rfl (.cons (t := 7) rfl (.cons (t := 8) rfl (.cons (t := 9) rfl (.cons (t := 10) rfl (.cons (t := 43) rfl .nil)))))))) ?_
      refine swl_nil ?_
      refine then_n ?_
      refine swp_cond (b := _) rfl (fun h43 => ?_) (fun h43 => ?_)
      · skip   -- 43 T
        have h43' : e' = 0 := of_decide_eq_true h43
        obtain ⟨hr2, hx⟩ : r'.2 = 0 ∧ entP s (decide (i = 0)) last pos = some (x, r'.1) := by
          rcases hq with ⟨_, h2, h3⟩ | ⟨h1, _⟩
          · exact ⟨h2, h3⟩
          · exact absurd h43' h1
        rw [restD_some hx] at hd
        obtain ⟨q1, q2, q3, q4, q5⟩ := entP_pos hx
        refine swp_seq ?_
        refine swp_region ?_
        refine s_pu (pu_move rfl) ?_
        first | refine s_rd (rd_loadW rfl rfl) ?_ | refine s_rd (rd_loadX rfl rfl rfl) ?_
        refine s_ef (ef_bldS (qs := [(0, _)]) rfl rfl rfl) ?_
        intro b46
        refine s_ef (ef_append_lit (l := acc.length) (m := 1) rfl rfl (by repeat (first | exact Split.nil | (apply Split.cons; (repeat (first | with_reducible exact Take.here | apply Take.there))))) (by simp only [maxLen]; omega) (by omega)) ?_
        rintro v47 -
        skip
        refine s_pu (pu_assign rfl) ?_
        refine swl_sub _ (.cons (t := 4) rfl (.cons (t := 5) rfl (.cons (t := 6) rfl (.cons (t := 7) rfl (.cons (t := 9) rfl (.cons (t := 10) rfl .nil)))))) ?_
        refine swl_nil ?_
        refine then_n ?_
        refine swp_region ?_
        first | refine s_pu (pu_fieldAddr0 rfl) ?_ | refine s_pu (pu_fieldAddr rfl) ?_
        refine s_rd (rd_load rfl rfl) ?_
        refine s_pu (pu_assign rfl) ?_
        refine swl_sub _ (.cons (t := 4) rfl (.cons (t := 5) rfl (.cons (t := 6) rfl (.cons (t := 7) rfl (.cons (t := 8) rfl (.cons (t := 9) rfl .nil)))))) ?_
        refine swl_nil ?_
        refine block_n ?_
        refine then_n ?_
        refine swp_region ?_
        refine s_pu (pu_move rfl) ?_
        refine s_pu (pu_add_as ((i + 1 : Nat) : Int) rfl rfl (by omega) (by omega) (by omega)) ?_
        refine s_pu (pu_assign rfl) ?_
        refine swl_sub _ (.cons (t := 4) rfl (.cons (t := 5) rfl (.cons (t := 6) rfl (.cons (t := 7) rfl (.cons (t := 8) rfl (.cons (t := 9) rfl .nil)))))) ?_
        refine swl_nil ?_
        refine then_n ⟨⟨i + 1, r', x.1, acc ++ [enOf x], v47, e'⟩, ⟨⟨rfl, rfl, rfl, rfl, rfl, rfl, trivial⟩, ?_, q3, q1, hin, by show (acc ++ [enOf x]).length ≤ i + 1; rw [List.length_append, List.length_singleton]; omega, .inl ⟨h43', hn1, hr2, ?_⟩⟩, ?_⟩
        · show Ent _ [own 44 2 v47 (acc ++ [enOf x]).length (ens (acc ++ [enOf x])), rdB p s r']
          rw [List.length_append, List.length_singleton, show ens (acc ++ [enOf x]) = ens acc ++ [.string (str x.1), .int .u32 (x.2 : Nat)] by simp [ens, enOf]]
          exact Split.ent' (by repeat (first | exact Split.nil | (apply Split.cons; (repeat (first | with_reducible exact Take.here | apply Take.there)))))
        · rw [hd, decide_eq_false (by show ¬ i + 1 = 0; omega)]
        · show (if e' = 0 then n + 1 - (i + 1) else 0) < if (0 : Int) = 0 then n + 1 - i else 0
          rw [if_pos h43', if_pos rfl]
          omega
      · skip   -- 43 F
        have h43' : e' ≠ 0 := of_decide_eq_false h43
        obtain ⟨hx, hr2⟩ : entP s (decide (i = 0)) last pos = none ∧ r'.1 ≤ s.length := by
          rcases hq with ⟨h1, _⟩ | ⟨_, h2⟩
          · exact absurd h1 h43'
          · exact h2
        rw [restD_none hx] at hd
        refine swp_skip ?_
        refine block_n ?_
        refine then_n ?_
        refine swp_region ?_
        refine s_pu (pu_move rfl) ?_
        refine s_pu (pu_add_as ((i + 1 : Nat) : Int) rfl rfl (by omega) (by omega) (by omega)) ?_
        refine s_pu (pu_assign rfl) ?_
        refine swl_sub _ (.cons (t := 4) rfl (.cons (t := 5) rfl (.cons (t := 6) rfl (.cons (t := 7) rfl (.cons (t := 8) rfl (.cons (t := 9) rfl .nil)))))) ?_
        refine swl_nil ?_
        refine then_n ⟨⟨i + 1, r', last, acc, v7, e'⟩, ⟨⟨rfl, rfl, rfl, rfl, rfl, rfl, trivial⟩, by show Ent _ [own 44 2 v7 acc.length (ens acc), rdB p s r']; exact Split.ent' (by repeat (first | exact Split.nil | (apply Split.cons; (repeat (first | with_reducible exact Take.here | apply Take.there))))), hl, hr2, hin, by show acc.length ≤ i + 1; omega, .inr ⟨h43', hd⟩⟩, ?_⟩
        show (if e' = 0 then n + 1 - (i + 1) else 0) < if (0 : Int) = 0 then n + 1 - i else 0
        rw [if_neg h43', if_pos rfl]
        omega
    · skip   -- 31 F
      have hin : n ≤ i := by have := of_decide_eq_false h31; omega
      rw [show n - i = 0 by omega, restD_zero] at hd
      refine swp_exit ?_
      refine then_x ?_
      refine then_x ?_
      refine block_hit rfl ?_
      refine then_n ?_
      refine swp_seq ?_
      refine swp_seq ?_
      refine swp_region ?_
      refine s_pu (pu_move rfl) ?_
      refine s_pu (pu_eql rfl rfl) ?_
      refine swl_sub _ (.cons (t := 4) rfl (.cons (t := 6) rfl (.cons (t := 7) rfl (.cons (t := 51) rfl .nil)))) ?_
      refine swl_nil ?_
      refine then_n ?_
      refine swp_cond (b := _) rfl (fun h51 => ?_) (fun h51 => by exact absurd rfl (of_decide_eq_false h51))
      refine swp_region ?_
      refine s_pu (pu_move rfl) ?_
      refine s_ef (ef_fn (rdEnd_spec p s (pos, 0) hs hr) rfl rfl (by repeat (first | exact Split.nil | (apply Split.cons; (repeat (first | with_reducible exact Take.here | apply Take.there)))))) ?_
      rintro v53 L1 ⟨rfl, rfl⟩
      refine swl_app ?_
      refine s_pu (pu_assign rfl) ?_
      refine swl_sub _ (.cons (t := 6) rfl (.cons (t := 7) rfl .nil)) ?_
      refine swl_nil ?_
      refine then_n ?_
      refine swp_seq ?_
      refine swp_seq ?_
      refine swp_region ?_
      refine s_pu (pu_move rfl) ?_
      refine s_pu (pu_neq rfl rfl) ?_
      refine swl_sub _ (.cons (t := 6) rfl (.cons (t := 7) rfl (.cons (t := 55) rfl .nil))) ?_
      refine swl_nil ?_
      refine then_n ?_
      refine swp_cond (b := _) rfl (fun h55 => ?_) (fun h55 => ?_)
      · skip   -- 55 T
        refine swp_seq ?_
        refine swp_region ?_
        refine s_pu (pu_move rfl) ?_
        refine s_pu (pu_assign rfl) ?_
        refine s_pu (pu_assign rfl) ?_
        refine swl_sub _ (.cons (t := 2) rfl (.cons (t := 3) rfl .nil)) ?_
        refine swl_nil ?_
        refine then_n ?_
        refine swp_ret ?_
        refine then_r ?_
        have h55' : endE s (pos, 0) ≠ 0 := by simpa using h55
        rw [if_neg ((endE_zero hr).2 h55')] at hd
        exact done_ret [] (.tmp rfl (.tmp rfl .nil)) ⟨.slice none 0 0, _, rfl, .inr ⟨h55', hd, rfl, rfl⟩⟩ (by repeat (first | exact Split.nil | (apply Split.cons; (repeat (first | with_reducible exact Take.here | apply Take.there)))))
      · skip   -- 55 F
        refine swp_skip ?_
        refine then_n ?_
        refine swp_seq ?_
        refine swp_region ?_
        refine s_pu (pu_move rfl) ?_
        refine s_pu (pu_assign rfl) ?_
        refine s_pu (pu_assign rfl) ?_
        refine swl_sub _ (.cons (t := 2) rfl (.cons (t := 3) rfl .nil)) ?_
        refine swl_nil ?_
        refine then_n ?_
        refine swp_ret ?_
        have h55' : endE s (pos, 0) = 0 := by simpa using h55
        rw [if_pos ((endE_zero hr).1 h55')] at hd
        exact done_ret [own 44 2 v7 acc.length (ens acc)] (.tmp rfl (.tmp rfl .nil)) ⟨v7, 0, rfl, .inl ⟨rfl, acc, hd, rfl⟩⟩ (by repeat (first | exact Split.nil | (apply Split.cons; (repeat (first | with_reducible exact Take.here | apply Take.there)))))
  · skip   -- 26 F
    have h26' : e ≠ 0 := of_decide_eq_false h26
    have hd : decT s = none := by
      rcases hc with ⟨h, _⟩ | ⟨_, h⟩
      · exact absurd h h26'
      · exact h
    refine s_off rfl rfl rfl ?_
    refine s_off rfl rfl rfl ?_
    refine s_off rfl rfl rfl ?_
    refine s_off rfl rfl rfl ?_
    first | refine s_pu (pu_pick_t rfl rfl) ?_ | refine s_pu (pu_pick_f rfl rfl) ?_
    refine swl_sub _ (.cons (t := 4) rfl (.cons (t := 5) rfl (.cons (t := 6) rfl (.cons (t := 7) rfl (.cons (t := 8) rfl (.cons (t := 9) rfl (.cons (t := 31) rfl .nil))))))) ?_
    refine swl_nil ?_
    refine then_n ?_
    refine swp_cond (b := _) rfl (fun h31 => by cases h31) (fun h31 => ?_)
    refine swp_exit ?_
    refine then_x ?_
    refine then_x ?_
    refine block_hit rfl ?_
    refine then_n ?_
    refine swp_seq ?_
    refine swp_seq ?_
    refine swp_region ?_
    refine s_pu (pu_move rfl) ?_
    refine s_pu (pu_eql rfl rfl) ?_
    refine swl_sub _ (.cons (t := 4) rfl (.cons (t := 6) rfl (.cons (t := 7) rfl (.cons (t := 51) rfl .nil)))) ?_
    refine swl_nil ?_
    refine then_n ?_
    refine swp_cond (b := _) rfl (fun h51 => by exact absurd (of_decide_eq_true h51) h26') (fun h51 => ?_)
    refine swp_skip ?_
    refine then_n ?_
    refine swp_seq ?_
    refine swp_seq ?_
    refine swp_region ?_
    refine s_pu (pu_move rfl) ?_
    refine s_pu (pu_neq rfl rfl) ?_
    refine swl_sub _ (.cons (t := 6) rfl (.cons (t := 7) rfl (.cons (t := 55) rfl .nil))) ?_
    refine swl_nil ?_
    refine then_n ?_
    refine swp_cond (b := _) rfl (fun h55 => ?_) (fun h55 => by exact absurd h55 (by simpa using h26'))
    refine swp_seq ?_
    refine swp_region ?_
    refine s_pu (pu_move rfl) ?_
    refine s_pu (pu_assign rfl) ?_
    refine s_pu (pu_assign rfl) ?_
    refine swl_sub _ (.cons (t := 2) rfl (.cons (t := 3) rfl .nil)) ?_
    refine swl_nil ?_
    refine then_n ?_
    refine swp_ret ?_
    refine then_r ?_
    exact done_ret [] (.tmp rfl (.tmp rfl .nil)) ⟨.slice none 0 0, _, rfl, .inr ⟨h26', hd, rfl, rfl⟩⟩ (by repeat (first | exact Split.nil | (apply Split.cons; (repeat (first | with_reducible exact Take.here | apply Take.there)))))
end SX
namespace SX
open Go Go.Proofs
end SX
namespace SX
open Go Go.Proofs
theorem in_spec (n : Int) : Spec Try.prog 83 [.int .i64 n] [] (fun r L => r = .bool (inO n) ∧ L = []) := by
  refine Spec.of 9 Try.func83 rfl rfl rfl ?_
  refine swp_seq ?_
  refine swp_region ?_
  refine s_pu (pu_assign rfl) ?_
  refine swl_sub _ (.cons (t := 0) rfl .nil) ?_
  refine swl_nil ?_
  refine then_n ?_
  refine swp_seq ?_
  refine swp_region ?_
  refine s_pu (pu_move rfl) ?_
  refine s_pu (pu_leq rfl rfl) ?_
  refine s_pu (pu_move rfl) ?_
  refine s_split 5 rfl (fun h5 => ?_) (fun h5 => ?_)
  · skip   -- 5 T
    refine s_on rfl rfl ?_
    refine s_pu (pu_move rfl) ?_
    refine s_on rfl rfl ?_
    refine s_pu (pu_lss rfl rfl) ?_
    first | refine s_pu (pu_pick_t rfl rfl) ?_ | refine s_pu (pu_pick_f rfl rfl) ?_
    refine s_pu (pu_assign rfl) ?_
    refine swl_sub _ (.cons (t := 2) rfl .nil) ?_
    refine swl_nil ?_
    refine then_n ?_
    refine swp_ret ?_
    refine done_ret [] (.tmp rfl .nil) ⟨?_, rfl⟩ (by repeat (first | exact Split.nil | (apply Split.cons; (repeat (first | with_reducible exact Take.here | apply Take.there)))))
    unfold inO; rw [h5]; rfl
  · skip   -- 5 F
    refine s_off rfl rfl rfl ?_
    refine s_off rfl rfl rfl ?_
    first | refine s_pu (pu_pick_t rfl rfl) ?_ | refine s_pu (pu_pick_f rfl rfl) ?_
    refine s_pu (pu_assign rfl) ?_
    refine swl_sub _ (.cons (t := 2) rfl .nil) ?_
    refine swl_nil ?_
    refine then_n ?_
    refine swp_ret ?_
    refine done_ret [] (.tmp rfl .nil) ⟨?_, rfl⟩ (by repeat (first | exact Split.nil | (apply Split.cons; (repeat (first | with_reducible exact Take.here | apply Take.there)))))
    unfold inO; rw [h5]; rfl
theorem int_at {μ : PH} {v : Value} {xs : List Int} (h : Row μ v 1 xs.length (xs.flatMap (icsk .i64))) {i : Nat} {p : Int} (hi : xs[i]? = some p) : ∃ b off cap, v = .slice (some ⟨b, off, none⟩) xs.length cap ∧ CellAt μ b (off + i * 1) (.int .i64 p) := by
  have hl := (List.getElem?_eq_some_iff.1 hi).1
  obtain ⟨b, off, cap, hv, _, _, hr⟩ := h.pos (by omega)
  exact ⟨b, off, cap, hv, (hr.elem (icsk_len .i64) hi).cell⟩
theorem tidx_spec (μ : PH) (v : Value) (xs : List Int) (x : Int) (h : Row μ v 1 xs.length (xs.flatMap (icsk .i64))) : Spec Try.prog 96 [v, .int .i64 x] [ro μ] (fun r L => (∃ k : Int, r = .int .i64 k ∧ decide (0 ≤ k) = xs.contains x) ∧ L = [ro μ]) := by
  have hsm := h.small
  refine Spec.of 19 Try.func96 rfl rfl rfl ?_
  refine swp_seq ?_
  refine swp_region ?_
  refine s_pu (pu_assign rfl) ?_
  refine swl_sub _ (.cons (t := 0) rfl (.cons (t := 1) rfl .nil)) ?_
  refine swl_nil ?_
  refine then_n ?_
  refine swp_seq ?_
  refine swp_seq ?_
  refine swp_region ?_
  refine s_pu (pu_move rfl) ?_
  refine s_pu (pu_len_row h rfl) ?_
  refine s_pu (pu_move rfl) ?_
  refine swl_sub _ (.cons (t := 0) rfl (.cons (t := 1) rfl (.cons (t := 7) rfl (.cons (t := 8) rfl .nil)))) ?_
  refine swl_nil ?_
  refine then_n ?_
  refine swp_block ?_
  refine swp_loop (ι := Nat) (fun i env L => Sub env [(0, v), (1, .int .i64 x), (7, .int .i64 (xs.length : Nat)), (8, .int .i64 (i : Nat))] ∧ L = [ro μ] ∧ i ≤ xs.length ∧ x ∉ xs.take i) (fun i => xs.length - i) 0 ⟨⟨rfl, rfl, rfl, rfl, trivial⟩, rfl, Nat.zero_le _, by simp⟩ ?_
  rintro i env L ⟨hsub, rfl, hi, hno⟩
  refine swp_sub _ hsub ?_
  clear hsub env
  refine swp_seq ?_
  refine swp_region ?_
  refine s_pu (pu_lss rfl rfl) ?_
  refine swl_sub _ (.cons (t := 0) rfl (.cons (t := 1) rfl (.cons (t := 7) rfl (.cons (t := 8) rfl (.cons (t := 9) rfl .nil))))) ?_
  refine swl_nil ?_
  refine then_n ?_
  refine swp_seq ?_
  refine swp_cond (b := _) rfl (fun h9 => ?_) (fun h9 => ?_)
  · skip   -- 9 T
    have h9' : i < xs.length := by have := of_decide_eq_true h9; omega
    obtain ⟨p, hp⟩ : ∃ p, xs[i]? = some p := ⟨_, List.getElem?_eq_getElem h9'⟩
    obtain ⟨b, off, cap, hv, hc⟩ := int_at h hp
    refine swp_skip ?_
    refine then_n ?_
    refine swp_seq ?_
    refine swp_block ?_
    refine swp_seq ?_
    refine swp_region ?_
    refine s_pu (pu_move rfl) ?_
    refine s_pu (pu_assign rfl) ?_
    refine swl_sub _ (.cons (t := 0) rfl (.cons (t := 1) rfl (.cons (t := 5) rfl (.cons (t := 7) rfl (.cons (t := 8) rfl .nil))))) ?_
    refine swl_nil ?_
    refine then_n ?_
    refine swp_seq ?_
    refine swp_region ?_
    refine s_pu (pu_move rfl) ?_
    refine s_pu (pu_move rfl) ?_
    refine s_pu (pu_move rfl) ?_
    refine s_pu (pu_indexAddr (off + i * 1) (congrArg some hv) rfl (by omega) (by omega) (by rw [Int.toNat_natCast])) ?_
    refine s_rd (rd_ro rfl hc) ?_
    refine s_pu (pu_eql rfl rfl) ?_
    refine swl_sub _ (.cons (t := 0) rfl (.cons (t := 1) rfl (.cons (t := 5) rfl (.cons (t := 7) rfl (.cons (t := 8) rfl (.cons (t := 16) rfl .nil)))))) ?_
    refine swl_nil ?_
    refine then_n ?_
    refine swp_cond (b := _) rfl (fun h16 => ?_) (fun h16 => ?_)
    · skip   -- 16 T
      refine swp_seq ?_
      refine swp_region ?_
      refine s_pu (pu_move rfl) ?_
      refine s_pu (pu_assign rfl) ?_
      refine swl_sub _ (.cons (t := 4) rfl .nil) ?_
      refine swl_nil ?_
      refine then_n ?_
      refine swp_ret ?_
      refine block_r ?_
      refine then_r ?_
      refine then_r ?_
      refine block_r ?_
      refine then_r ?_
      have hx : x = p := of_decide_eq_true h16
      refine done_ret [ro μ] (.tmp rfl .nil) ⟨⟨_, rfl, ?_⟩, rfl⟩ (by repeat (first | exact Split.nil | (apply Split.cons; (repeat (first | with_reducible exact Take.here | apply Take.there)))))
      rw [decide_eq_true (by omega)]
      symm
      rw [List.contains_iff_mem, hx]
      exact List.mem_of_getElem? hp
    · skip   -- 16 F
      refine swp_skip ?_
      refine block_n ?_
      refine then_n ?_
      refine swp_region ?_
      refine s_pu (pu_add_as ((i + 1 : Nat) : Int) rfl rfl (by omega) (by omega) (by omega)) ?_
      refine s_pu (pu_move rfl) ?_
      refine swl_sub _ (.cons (t := 0) rfl (.cons (t := 1) rfl (.cons (t := 7) rfl (.cons (t := 8) rfl .nil)))) ?_
      refine swl_nil ?_
      refine then_n ⟨i + 1, ⟨⟨rfl, rfl, rfl, rfl, trivial⟩, rfl, h9', ?_⟩, by omega⟩
      rw [List.take_add_one, hp]
      intro hm
      rcases List.mem_append.1 hm with hm | hm
      · exact hno hm
      · have : x = p := by simpa using hm
        exact of_decide_eq_false h16 this
  · skip   -- 9 F
    have h9' := of_decide_eq_false h9
    obtain rfl : i = xs.length := by omega
    rw [List.take_length] at hno
    refine swp_exit ?_
    refine then_x ?_
    refine then_x ?_
    refine block_hit rfl ?_
    refine then_n ?_
    refine swp_seq ?_
    refine swp_region ?_
    refine s_pu (pu_assign rfl) ?_
    refine swl_sub _ (.cons (t := 4) rfl .nil) ?_
    refine swl_nil ?_
    refine then_n ?_
    refine swp_ret ?_
    refine done_ret [ro μ] (.tmp rfl .nil) ⟨⟨-1, rfl, ?_⟩, rfl⟩ (by repeat (first | exact Split.nil | (apply Split.cons; (repeat (first | with_reducible exact Take.here | apply Take.there)))))
    rw [decide_eq_false (by omega)]
    symm
    rw [← Bool.not_eq_true, List.contains_iff_mem]
    exact hno
theorem has_spec (μ : PH) (v : Value) (xs : List Int) (x : Int) (h : Row μ v 1 xs.length (xs.flatMap (icsk .i64))) : Spec Try.prog 84 [v, .int .i64 x] [ro μ] (fun r L => r = .bool (xs.contains x) ∧ L = [ro μ]) := by
  refine Spec.of 9 Try.func84 rfl rfl rfl ?_
  refine swp_seq ?_
  refine swp_region ?_
  refine s_pu (pu_assign rfl) ?_
  refine swl_sub _ (.cons (t := 0) rfl (.cons (t := 1) rfl .nil)) ?_
  refine swl_nil ?_
  refine then_n ?_
  refine swp_seq ?_
  refine swp_region ?_
  refine s_pu (pu_move rfl) ?_
  refine s_pu (pu_move rfl) ?_
  refine s_ef (ef_fn (tidx_spec μ v xs x h) rfl rfl (by repeat (first | exact Split.nil | (apply Split.cons; (repeat (first | with_reducible exact Take.here | apply Take.there)))))) ?_
  rintro v7 L1 ⟨⟨k, rfl, hk⟩, rfl⟩
  refine swl_app ?_
  refine s_pu (pu_geq rfl rfl) ?_
  refine s_pu (pu_assign rfl) ?_
  refine swl_sub _ (.cons (t := 4) rfl .nil) ?_
  refine swl_nil ?_
  refine then_n ?_
  refine swp_ret ?_
  exact done_ret [ro μ] (.tmp rfl .nil) ⟨by rw [← hk]; rfl, rfl⟩ (by repeat (first | exact Split.nil | (apply Split.cons; (repeat (first | with_reducible exact Take.here | apply Take.there)))))
end SX
namespace SX
open Go Go.Proofs
/-- a commit as a value -/
abbrev cmV (pv : Value) (t : Int) : Value := .agg #[pv, .int .i64 t]
theorem checkC_long {c : Cm} (h : 16 < c.1.length) : checkC c = 5 := by unfold checkC; rw [if_pos h]
theorem checkC_arg {c : Cm} (h : ¬ 16 < c.1.length) (h2 : inO c.2 = false) : checkC c = 1 := by unfold checkC; rw [if_neg h, if_pos h2]
theorem checkC_in {c : Cm} (h : ¬ 16 < c.1.length) (h2 : inO c.2 = true) : checkC c = firstNZ (wrongP c.1) c.1.length := by unfold checkC; rw [if_neg h, if_neg (by rw [h2]; decide)]
set_option maxHeartbeats 2000000 in
theorem cchk_spec (μ : PH) (pv : Value) (c : Cm) (h : Row μ pv 1 c.1.length (c.1.flatMap (icsk .i64))) : Spec Try.prog 69 [cmV pv c.2] [ro μ] (fun r L => r = .int .i64 (checkC c) ∧ L = [ro μ]) := by
  have hsm := h.small
  refine Spec.of 35 Try.func69 rfl rfl rfl ?_
  refine swp_seq ?_
  refine swp_region ?_
  refine s_ef (ef_box rfl rfl) ?_
  intro b1
  refine s_pu (pu_assign rfl) ?_
  refine swl_sub _ (.cons (t := 1) rfl .nil) ?_
  refine swl_nil ?_
  refine then_n ?_
  refine swp_seq ?_
  refine swp_block ?_
  refine swp_seq ?_
  refine swp_region ?_
  first | refine s_pu (pu_fieldAddr0 rfl) ?_ | refine s_pu (pu_fieldAddr rfl) ?_
  refine s_rd (rd_load rfl rfl) ?_
  refine s_pu (pu_len_row h rfl) ?_
  refine s_pu (pu_gtr rfl rfl) ?_
  refine s_pu (pu_assign rfl) ?_
  refine swl_sub _ (.cons (t := 1) rfl (.cons (t := 5) rfl .nil)) ?_
  refine swl_nil ?_
  refine then_n ?_
  refine swp_cond (b := _) rfl (fun h5 => ?_) (fun h5 => ?_)
  · skip   -- 5 T
    refine swp_seq ?_
    refine swp_region ?_
    refine s_pu (pu_assign rfl) ?_
    refine swl_sub _ (.cons (t := 2) rfl .nil) ?_
    refine swl_nil ?_
    refine then_n ?_
    refine swp_ret ?_
    refine block_r ?_
    refine then_r ?_
    have h5' : 16 < c.1.length := by have := of_decide_eq_true h5; omega
    rw [checkC_long h5']
    exact done_ret [ro μ] (.tmp rfl .nil) ⟨rfl, rfl⟩ (by repeat (first | exact Split.nil | (apply Split.cons; (repeat (first | with_reducible exact Take.here | apply Take.there)))))
  · skip   -- 5 F
    have h5' : ¬ 16 < c.1.length := by have := of_decide_eq_false h5; omega
    refine swp_seq ?_
    refine swp_region ?_
    first | refine s_pu (pu_fieldAddr0 rfl) ?_ | refine s_pu (pu_fieldAddr rfl) ?_
    refine s_rd (rd_load rfl rfl) ?_
    refine s_ef (ef_fn (in_spec c.2) rfl rfl (by repeat (first | exact Split.nil | (apply Split.cons; (repeat (first | with_reducible exact Take.here | apply Take.there)))))) ?_
    rintro v13 L1 ⟨rfl, rfl⟩
    refine swl_app ?_
    refine s_pu (pu_not rfl) ?_
    refine s_pu (pu_assign rfl) ?_
    refine swl_sub _ (.cons (t := 1) rfl (.cons (t := 10) rfl .nil)) ?_
    refine swl_nil ?_
    refine then_n ?_
    refine swp_cond (b := _) rfl (fun h10 => ?_) (fun h10 => ?_)
    · skip   -- 10 T
      refine swp_seq ?_
      refine swp_region ?_
      refine s_pu (pu_assign rfl) ?_
      refine swl_sub _ (.cons (t := 2) rfl .nil) ?_
      refine swl_nil ?_
      refine then_n ?_
      refine swp_ret ?_
      refine block_r ?_
      refine then_r ?_
      have h10' : inO c.2 = false := by simpa using h10
      rw [checkC_arg h5' h10']
      exact done_ret [ro μ] (.tmp rfl .nil) ⟨rfl, rfl⟩ (by repeat (first | exact Split.nil | (apply Split.cons; (repeat (first | with_reducible exact Take.here | apply Take.there)))))
    · skip   -- 10 F
      have h10' : inO c.2 = true := by simpa using h10
      rw [checkC_in h5' h10']
      refine swp_skip ?_
      refine block_n ?_
      refine then_n ?_
      refine swp_seq ?_
      refine swp_seq ?_
      refine swp_region ?_
      first | refine s_pu (pu_fieldAddr0 rfl) ?_ | refine s_pu (pu_fieldAddr rfl) ?_
      refine s_rd (rd_load rfl rfl) ?_
      refine s_pu (pu_len_row h rfl) ?_
      refine s_pu (pu_move rfl) ?_
      refine swl_sub _ (.cons (t := 1) rfl (.cons (t := 16) rfl (.cons (t := 17) rfl (.cons (t := 18) rfl .nil)))) ?_
      refine swl_nil ?_
      refine then_n ?_
      refine swp_block ?_
      refine swp_loop (ι := Nat) (fun i env L => Sub env [(1, .pointer (some ⟨b1, 0, none⟩)), (16, pv), (17, .int .i64 (c.1.length : Nat)), (18, .int .i64 (i : Nat))] ∧ Ent L [blk b1 48 [pv, .int .i64 c.2], ro μ] ∧ i ≤ c.1.length ∧ ∀ j < i, wrongP c.1 j = 0) (fun i => c.1.length - i) 0 ⟨⟨rfl, rfl, rfl, rfl, trivial⟩, Split.ent' (by repeat (first | exact Split.nil | (apply Split.cons; (repeat (first | with_reducible exact Take.here | apply Take.there))))), Nat.zero_le _, fun j hj => by omega⟩ ?_
      rintro i env L ⟨hsub, hE, hi, hw⟩
      refine swp_sub _ hsub ?_
      refine swp_ent hE ?_
      clear hsub hE env L
      refine swp_seq ?_
      refine swp_region ?_
      refine s_pu (pu_lss rfl rfl) ?_
      refine swl_sub _ (.cons (t := 1) rfl (.cons (t := 16) rfl (.cons (t := 17) rfl (.cons (t := 18) rfl (.cons (t := 19) rfl .nil))))) ?_
      refine swl_nil ?_
      refine then_n ?_
      refine swp_seq ?_
      refine swp_cond (b := _) rfl (fun h19 => ?_) (fun h19 => ?_)
      · skip   -- 19 T
        have h19' : i < c.1.length := by have := of_decide_eq_true h19; omega
        obtain ⟨p, hp⟩ : ∃ p, c.1[i]? = some p := ⟨_, List.getElem?_eq_getElem h19'⟩
        obtain ⟨gb, off, cap, hv, hc⟩ := int_at h hp
        have hwe := wrongP_at hp
        obtain ⟨vhi, hhi1, hhi2⟩ := Row.hi (P := Try.prog) (t := 46) h i hi
        have hhi3 : Row μ vhi 1 (c.1.take i).length ((c.1.take i).flatMap (icsk .i64)) := by
          rw [List.length_take, Nat.min_eq_left hi]
          have e : (c.1.flatMap (icsk .i64)).take (i * 1) = (c.1.take i).flatMap (icsk .i64) := by
            rw [icsk_map, icsk_map, Nat.mul_one, List.map_take]
          rw [← e]; exact hhi1
        refine swp_skip ?_
        refine then_n ?_
        refine swp_seq ?_
        refine swp_block ?_
        refine swp_seq ?_
        refine swp_region ?_
        refine s_pu (pu_move rfl) ?_
        refine s_pu (pu_indexAddr (off + i * 1) (congrArg some hv) rfl (by omega) (by omega) (by rw [Int.toNat_natCast])) ?_
        refine s_rd (rd_ro rfl hc) ?_
        refine s_pu (pu_assign rfl) ?_
        refine s_pu (pu_assign rfl) ?_
        refine swl_sub _ (.cons (t := 1) rfl (.cons (t := 3) rfl (.cons (t := 4) rfl (.cons (t := 16) rfl (.cons (t := 17) rfl (.cons (t := 18) rfl .nil)))))) ?_
        refine swl_nil ?_
        refine then_n ?_
        refine swp_block ?_
        refine swp_seq ?_
        refine swp_region ?_
        refine s_pu (pu_move rfl) ?_
        refine s_ef (ef_fn (in_spec p) rfl rfl (by repeat (first | exact Split.nil | (apply Split.cons; (repeat (first | with_reducible exact Take.here | apply Take.there)))))) ?_
        rintro v25 L1 ⟨rfl, rfl⟩
        refine swl_app ?_
        refine s_pu (pu_not rfl) ?_
        refine s_pu (pu_assign rfl) ?_
        refine swl_sub _ (.cons (t := 1) rfl (.cons (t := 3) rfl (.cons (t := 4) rfl (.cons (t := 16) rfl (.cons (t := 17) rfl (.cons (t := 18) rfl (.cons (t := 23) rfl .nil))))))) ?_
        refine swl_nil ?_
        refine then_n ?_
        refine swp_cond (b := _) rfl (fun h23 => ?_) (fun h23 => ?_)
        · skip   -- 23 T
          refine swp_seq ?_
          refine swp_region ?_
          refine s_pu (pu_assign rfl) ?_
          refine swl_sub _ (.cons (t := 2) rfl .nil) ?_
          refine swl_nil ?_
          refine then_n ?_
          refine swp_ret ?_
          refine block_r ?_
          refine block_r ?_
          refine then_r ?_
          refine then_r ?_
          refine block_r ?_
          refine then_r ?_
          have h23' : inO p = false := by simpa using h23
          rw [if_pos h23'] at hwe
          rw [firstNZ_at h19' hw (by rw [hwe]; decide), hwe]
          exact done_ret [ro μ] (.tmp rfl .nil) ⟨rfl, rfl⟩ (by repeat (first | exact Split.nil | (apply Split.cons; (repeat (first | with_reducible exact Take.here | apply Take.there)))))
        · skip   -- 23 F
          have h23' : ¬ inO p = false := by rw [Bool.not_eq_false']at h23; rw [h23]; decide
          rw [if_neg h23'] at hwe
          refine swp_seq ?_
          refine swp_region ?_
          first | refine s_pu (pu_fieldAddr0 rfl) ?_ | refine s_pu (pu_fieldAddr rfl) ?_
          refine s_rd (rd_load rfl rfl) ?_
          refine s_pu (pu_move rfl) ?_
          refine s_pu (hhi2 _ _ _ _ _ rfl rfl rfl) ?_
          refine s_pu (pu_move rfl) ?_
          refine s_ef (ef_fn (has_spec μ vhi (c.1.take i) p hhi3) rfl rfl (by repeat (first | exact Split.nil | (apply Split.cons; (repeat (first | with_reducible exact Take.here | apply Take.there)))))) ?_
          rintro v33 L1 ⟨rfl, rfl⟩
          refine swl_app ?_
          refine s_pu (pu_assign rfl) ?_
          refine swl_sub _ (.cons (t := 1) rfl (.cons (t := 16) rfl (.cons (t := 17) rfl (.cons (t := 18) rfl (.cons (t := 27) rfl .nil))))) ?_
          refine swl_nil ?_
          refine then_n ?_
          refine swp_cond (b := _) rfl (fun h27 => ?_) (fun h27 => ?_)
          · skip   -- 27 T
            refine swp_seq ?_
            refine swp_region ?_
            refine s_pu (pu_assign rfl) ?_
            refine swl_sub _ (.cons (t := 2) rfl .nil) ?_
            refine swl_nil ?_
            refine then_n ?_
            refine swp_ret ?_
            refine block_r ?_
            refine block_r ?_
            refine then_r ?_
            refine then_r ?_
            refine block_r ?_
            refine then_r ?_
            rw [if_pos h27] at hwe
            rw [firstNZ_at h19' hw (by rw [hwe]; decide), hwe]
            exact done_ret [ro μ] (.tmp rfl .nil) ⟨rfl, rfl⟩ (by repeat (first | exact Split.nil | (apply Split.cons; (repeat (first | with_reducible exact Take.here | apply Take.there)))))
          · skip   -- 27 F
            refine swp_skip ?_
            refine block_n ?_
            refine block_n ?_
            refine then_n ?_
            refine swp_region ?_
            refine s_pu (pu_add_as ((i + 1 : Nat) : Int) rfl rfl (by omega) (by omega) (by omega)) ?_
            refine s_pu (pu_move rfl) ?_
            refine swl_sub _ (.cons (t := 1) rfl (.cons (t := 16) rfl (.cons (t := 17) rfl (.cons (t := 18) rfl .nil)))) ?_
            refine swl_nil ?_
            rw [if_neg (by rw [h27]; decide)] at hwe
            refine then_n ⟨i + 1, ⟨⟨rfl, rfl, rfl, rfl, trivial⟩, Split.ent' (by repeat (first | exact Split.nil | (apply Split.cons; (repeat (first | with_reducible exact Take.here | apply Take.there))))), h19', fun j hj => ?_⟩, by omega⟩
            by_cases e1 : j = i
            · subst e1; exact hwe
            · exact hw j (by omega)
      · skip   -- 19 F
        have h19' := of_decide_eq_false h19
        refine swp_exit ?_
        refine then_x ?_
        refine then_x ?_
        refine block_hit rfl ?_
        refine then_n ?_
        refine swp_seq ?_
        refine swp_region ?_
        refine s_pu (pu_assign rfl) ?_
        refine swl_sub _ (.cons (t := 2) rfl .nil) ?_
        refine swl_nil ?_
        refine then_n ?_
        refine swp_ret ?_
        rw [firstNZ_ok fun j hj => hw j (by omega)]
        exact done_ret [ro μ] (.tmp rfl .nil) ⟨rfl, rfl⟩ (by repeat (first | exact Split.nil | (apply Split.cons; (repeat (first | with_reducible exact Take.here | apply Take.there)))))
end SX
namespace SX
open Go Go.Proofs
set_option maxHeartbeats 4000000 in
theorem cenc_spec (μ : PH) (pv : Value) (c : Cm) (h : Row μ pv 1 c.1.length (c.1.flatMap (icsk .i64))) : Spec Try.prog 42 [cmV pv c.2] [ro μ] (fun r L => r = .tuple #[.string (str (comV c)), .int .i64 (checkC c)] ∧ L = [ro μ]) := by
  have hsm := h.small
  refine Spec.of 39 Try.func42 rfl rfl rfl ?_
  refine swp_seq ?_
  refine swp_region ?_
  refine s_ef (ef_box rfl rfl) ?_
  intro b1
  refine s_pu (pu_assign rfl) ?_
  refine s_pu (pu_assign rfl) ?_
  refine swl_sub _ (.cons (t := 1) rfl .nil) ?_
  refine swl_nil ?_
  refine then_n ?_
  refine swp_seq ?_
  refine swp_seq ?_
  refine swp_region ?_
  first | refine s_rd (rd_loadW rfl rfl) ?_ | refine s_rd (rd_loadX rfl rfl rfl) ?_
  refine s_ef (ef_fn (cchk_spec μ pv c h) rfl rfl (by repeat (first | exact Split.nil | (apply Split.cons; (repeat (first | with_reducible exact Take.here | apply Take.there)))))) ?_
  rintro v9 L1 ⟨rfl, rfl⟩
  refine swl_app ?_
  refine s_pu (pu_assign rfl) ?_
  refine swl_sub _ (.cons (t := 1) rfl (.cons (t := 4) rfl .nil)) ?_
  refine swl_nil ?_
  refine then_n ?_
  refine swp_seq ?_
  refine swp_region ?_
  refine s_pu (pu_move rfl) ?_
  refine s_pu (pu_neq rfl rfl) ?_
  refine swl_sub _ (.cons (t := 1) rfl (.cons (t := 4) rfl (.cons (t := 11) rfl .nil))) ?_
  refine swl_nil ?_
  refine then_n ?_
  refine swp_cond (b := _) rfl (fun h11 => ?_) (fun h11 => ?_)
  · skip   -- 11 T
    refine swp_seq ?_
    refine swp_region ?_
    refine s_pu (pu_move rfl) ?_
    refine s_pu (pu_assign rfl) ?_
    refine s_pu (pu_assign rfl) ?_
    refine swl_sub _ (.cons (t := 2) rfl (.cons (t := 3) rfl .nil)) ?_
    refine swl_nil ?_
    refine then_n ?_
    refine swp_ret ?_
    refine then_r ?_
    have h11' : checkC c ≠ 0 := by simpa using h11
    have e2 : comV c = [] := by unfold comV; rw [if_neg h11']
    rw [e2]
    exact done_ret [ro μ] (.tmp rfl (.tmp rfl .nil)) ⟨rfl, rfl⟩ (by repeat (first | exact Split.nil | (apply Split.cons; (repeat (first | with_reducible exact Take.here | apply Take.there)))))
  · skip   -- 11 F
    have h11' : checkC c = 0 := by simpa using h11
    have e2 : comV c = encC' c := by unfold comV; rw [if_pos h11']
    rw [e2, h11']
    obtain ⟨k1, k2, k3⟩ := checkC_ok h11'
    obtain ⟨tq, htq⟩ : ∃ q : Nat, c.2 = (q : Int) := ⟨c.2.toNat, by omega⟩
    refine swp_skip ?_
    refine then_n ?_
    refine swp_seq ?_
    refine swp_region ?_
    refine s_ef (ef_fn wNew_spec rfl rfl (by repeat (first | exact Split.nil | (apply Split.cons; (repeat (first | with_reducible exact Take.here | apply Take.there)))))) ?_
    rintro v13 L1 ⟨p, rfl, rfl⟩
    refine swl_app ?_
    refine s_pu (pu_assign rfl) ?_
    refine swl_sub _ (.cons (t := 1) rfl (.cons (t := 5) rfl .nil)) ?_
    refine swl_nil ?_
    refine then_n ?_
    refine swp_seq ?_
    refine swp_region ?_
    refine s_pu (pu_move rfl) ?_
    first | refine s_pu (pu_fieldAddr0 rfl) ?_ | refine s_pu (pu_fieldAddr rfl) ?_
    refine s_rd (rd_load rfl (show _ = some (Value.int .i64 (tq : Nat)) by rw [← htq]; rfl)) ?_
    refine s_pu (pu_conv_as rfl (wrap_lt32 (by omega))) ?_
    refine s_ef (ef_fn (wU32_spec p tq [] (by omega) (by decide)) rfl rfl (by repeat (first | exact Split.nil | (apply Split.cons; (repeat (first | with_reducible exact Take.here | apply Take.there)))))) ?_
    rintro v18 L1 ⟨rfl, rfl⟩
    rw [List.nil_append]
    refine swl_app ?_
    refine swl_sub _ (.cons (t := 1) rfl (.cons (t := 5) rfl .nil)) ?_
    refine swl_nil ?_
    refine then_n ?_
    refine swp_seq ?_
    refine swp_region ?_
    refine s_pu (pu_move rfl) ?_
    first | refine s_pu (pu_fieldAddr0 rfl) ?_ | refine s_pu (pu_fieldAddr rfl) ?_
    refine s_rd (rd_load rfl rfl) ?_
    refine s_pu (pu_len_row h rfl) ?_
    refine s_pu (pu_conv_as rfl (wrap_lt8 (by omega))) ?_
    refine s_ef (ef_fn (wU8_spec p c.1.length (numB 4 tq) (by omega) (by rw [numB_len]; decide)) rfl rfl (by repeat (first | exact Split.nil | (apply Split.cons; (repeat (first | with_reducible exact Take.here | apply Take.there)))))) ?_
    rintro v24 L1 ⟨rfl, rfl⟩
    refine swl_app ?_
    refine swl_sub _ (.cons (t := 1) rfl (.cons (t := 5) rfl .nil)) ?_
    refine swl_nil ?_
    refine then_n ?_
    refine swp_seq ?_
    refine swp_seq ?_
    refine swp_region ?_
    first | refine s_pu (pu_fieldAddr0 rfl) ?_ | refine s_pu (pu_fieldAddr rfl) ?_
    refine s_rd (rd_load rfl rfl) ?_
    refine s_pu (pu_len_row h rfl) ?_
    refine s_pu (pu_move rfl) ?_
    refine swl_sub _ (.cons (t := 5) rfl (.cons (t := 26) rfl (.cons (t := 27) rfl (.cons (t := 28) rfl .nil)))) ?_
    refine swl_nil ?_
    refine then_n ?_
    refine swp_block ?_
    refine swp_loop (ι := Nat) (fun i env L => Sub env [(5, .pointer (some ⟨p, 0, none⟩)), (26, pv), (27, .int .i64 (c.1.length : Nat)), (28, .int .i64 (i : Nat))] ∧ Ent L [wrA p (numB 4 tq ++ numB 1 c.1.length ++ encPs (c.1.take i)), ro μ] ∧ i ≤ c.1.length) (fun i => c.1.length - i) 0 ⟨⟨rfl, rfl, rfl, rfl, trivial⟩, by show Ent _ [wrA p (numB 4 tq ++ numB 1 c.1.length ++ []), ro μ]; rw [List.append_nil]; exact Split.ent' (by repeat (first | exact Split.nil | (apply Split.cons; (repeat (first | with_reducible exact Take.here | apply Take.there))))), Nat.zero_le _⟩ ?_
    rintro i env L ⟨hsub, hE, hi⟩
    refine swp_sub _ hsub ?_
    refine swp_ent hE ?_
    clear hsub hE env L
    refine swp_seq ?_
    refine swp_region ?_
    refine s_pu (pu_lss rfl rfl) ?_
    refine swl_sub _ (.cons (t := 5) rfl (.cons (t := 26) rfl (.cons (t := 27) rfl (.cons (t := 28) rfl (.cons (t := 29) rfl .nil))))) ?_
    refine swl_nil ?_
    refine then_n ?_
    refine swp_seq ?_
    refine swp_cond (b := _) rfl (fun h29 => ?_) (fun h29 => ?_)
    · skip   -- 29 T
      have h29' : i < c.1.length := by have := of_decide_eq_true h29; omega
      obtain ⟨x, hx⟩ : ∃ x, c.1[i]? = some x := ⟨_, List.getElem?_eq_getElem h29'⟩
      obtain ⟨gb, off, cap, hv, hc⟩ := int_at h hx
      have hxb := k3 x (List.mem_of_getElem? hx)
      obtain ⟨q, hq⟩ : ∃ q : Nat, x = (q : Int) := ⟨x.toNat, by omega⟩
      have hsucc := encPs_succ hx
      rw [hq] at hc hsucc
      have hq2 : q < 4294967296 := by omega
      have hpl := encPs_len (c.1.take i)
      rw [List.length_take, Nat.min_eq_left hi] at hpl
      generalize hbsd : numB 4 tq ++ numB 1 c.1.length ++ encPs (c.1.take i) = bs
      have hbs : bs.length ≤ 300000 := by rw [← hbsd]; simp only [List.length_append, numB_len, hpl]; omega
      refine swp_skip ?_
      refine then_n ?_
      refine swp_seq ?_
      refine swp_block ?_
      refine swp_seq ?_
      refine swp_region ?_
      refine s_pu (pu_indexAddr (off + i * 1) (congrArg some hv) rfl (by omega) (by omega) (by rw [Int.toNat_natCast])) ?_
      refine s_rd (rd_ro rfl hc) ?_
      refine s_pu (pu_assign rfl) ?_
      refine swl_sub _ (.cons (t := 5) rfl (.cons (t := 7) rfl (.cons (t := 26) rfl (.cons (t := 27) rfl (.cons (t := 28) rfl .nil))))) ?_
      refine swl_nil ?_
      refine then_n ?_
      refine swp_region ?_
      refine s_pu (pu_move rfl) ?_
      refine s_pu (pu_move rfl) ?_
      refine s_pu (pu_conv_as rfl (wrap_lt32 hq2)) ?_
      refine s_ef (ef_fn (wU32_spec p q bs hq2 (by omega)) rfl rfl (by repeat (first | exact Split.nil | (apply Split.cons; (repeat (first | with_reducible exact Take.here | apply Take.there)))))) ?_
      rintro v35 L1 ⟨rfl, rfl⟩
      refine swl_app ?_
      refine swl_sub _ (.cons (t := 5) rfl (.cons (t := 26) rfl (.cons (t := 27) rfl (.cons (t := 28) rfl .nil)))) ?_
      refine swl_nil ?_
      refine block_n ?_
      refine then_n ?_
      refine swp_region ?_
      refine s_pu (pu_add_as ((i + 1 : Nat) : Int) rfl rfl (by omega) (by omega) (by omega)) ?_
      refine s_pu (pu_move rfl) ?_
      refine swl_sub _ (.cons (t := 5) rfl (.cons (t := 26) rfl (.cons (t := 27) rfl (.cons (t := 28) rfl .nil)))) ?_
      refine swl_nil ?_
      refine then_n ⟨i + 1, ⟨⟨rfl, rfl, rfl, rfl, trivial⟩, ?_, h29'⟩, by omega⟩
      rw [hsucc, ← List.append_assoc, hbsd, show (q : Int).toNat = q from rfl]
      exact Split.ent' (by repeat (first | exact Split.nil | (apply Split.cons; (repeat (first | with_reducible exact Take.here | apply Take.there)))))
    · skip   -- 29 F
      have h29' := of_decide_eq_false h29
      obtain rfl : i = c.1.length := by omega
      rw [List.take_length]
      have e3 : encC' c = numB 4 tq ++ numB 1 c.1.length ++ encPs c.1 := by unfold encC'; rw [htq]; rfl
      rw [e3]
      refine swp_exit ?_
      refine then_x ?_
      refine then_x ?_
      refine block_hit rfl ?_
      refine then_n ?_
      refine swp_seq ?_
      refine swp_region ?_
      refine s_pu (pu_move rfl) ?_
      refine s_ef (ef_fn (wBytes_spec p (numB 4 tq ++ numB 1 c.1.length ++ encPs c.1) (fun e => by have := congrArg List.length e; simp only [List.length_append, numB_len, List.length_nil] at this; omega)) rfl rfl (by repeat (first | exact Split.nil | (apply Split.cons; (repeat (first | with_reducible exact Take.here | apply Take.there)))))) ?_
      rintro v38 L1 ⟨rfl, rfl⟩
      refine swl_app ?_
      refine s_pu (pu_assign rfl) ?_
      refine s_pu (pu_assign rfl) ?_
      refine swl_sub _ (.cons (t := 2) rfl (.cons (t := 3) rfl .nil)) ?_
      refine swl_nil ?_
      refine then_n ?_
      refine swp_ret ?_
      exact done_ret [ro μ] (.tmp rfl (.tmp rfl .nil)) ⟨rfl, rfl⟩ (by repeat (first | exact Split.nil | (apply Split.cons; (repeat (first | with_reducible exact Take.here | apply Take.there)))))
end SX
namespace SX
open Go Go.Proofs
theorem pu_add_u8 {P : Program} {env : Env} {t u : TypeId} {x y : Operand} {a b : Int} (c : Nat) (hx : evalE env x = some (.int .u8 a)) (hy : evalE env y = some (.int .u8 b)) (hc : a + b = (c : Int)) (h2 : c < 256) : Pu P env (.binOp .add t x y u) (.int .u8 (c : Nat)) := by
  have := pu_add (P := P) (t := t) (u := u) hx hy
  rw [hc, wrap_lt8 h2] at this
  exact this
/-- what a decoder of commits answers -/
def DecC (s : List UInt8) (μ : PH) (cv : Value) (e : Int) : Prop :=
  (e = 0 ∧ ∃ c pv, decC s = some c ∧ cv = cmV pv c.2 ∧ Row μ pv 1 c.1.length (c.1.flatMap (icsk .i64))) ∨ (e ≠ 0 ∧ decC s = none ∧ cv = cmV (.slice none 0 0) 0)
structure CI where
  i : Nat
  r : RS
  acc : List Int
  v : Value
/-- where a reader of numbers stands -/
def CIn (s : List UInt8) (n i : Nat) (r : RS) (acc : List Int) : Prop :=
  (r = (5 + 4 * i, 0) ∧ 5 + 4 * i ≤ s.length ∧ acc = numsAt s i 5) ∨ (r.2 ≠ 0 ∧ r.1 ≤ s.length ∧ s.length ≠ 5 + 4 * n)
theorem CIn.step {s : List UInt8} {n i : Nat} {r : RS} {acc : List Int} (h : CIn s n i r acc) (hi : i < n) : CIn s n (i + 1) (rawR s 4 r) (acc ++ [((valB (rawV s 4 r) : Nat) : Int)]) := by
  rcases h with ⟨h1, h2, h3⟩ | ⟨h1, h2, h3⟩
  · subst h1
    by_cases hk : 5 + 4 * i + 4 ≤ s.length
    · rw [(rawR_ok hk).1, (rawR_ok hk).2]
      exact .inl ⟨by rw [show 5 + 4 * i + 4 = 5 + 4 * (i + 1) by omega], by omega, by rw [numsAt_snoc, h3]⟩
    · rw [(rawR_no (by omega)).1]
      exact .inr ⟨by show ¬ (2 : Int) = 0; decide, h2, by omega⟩
  · rw [(rawR_err h1).1]
    exact .inr ⟨h1, h2, h3⟩
theorem CIn.le {s : List UInt8} {n i : Nat} {r : RS} {acc : List Int} (h : CIn s n i r acc) : r.1 ≤ s.length := by
  rcases h with ⟨h1, h2, _⟩ | ⟨_, h2, _⟩
  · subst h1; exact h2
  · exact h2
theorem decC_short {s : List UInt8} (h : s.length < 5) : decC s = none := by unfold decC; rw [if_pos h]
theorem decC_long {s : List UInt8} (h : 16 < valB ((s.drop 4).take 1)) : decC s = none := by
  unfold decC
  split
  · rfl
  · first | rfl | rw [if_pos h]
theorem decC_len {s : List UInt8} {n : Nat} (hn : valB ((s.drop 4).take 1) = n) (h : s.length ≠ 5 + 4 * n) : decC s = none := by
  unfold decC
  rw [hn]
  split
  · rfl
  · split
    · rfl
    · first | rfl | rw [if_pos h]
theorem decC_chk {s : List UInt8} {n : Nat} (hn : valB ((s.drop 4).take 1) = n) (h : s.length = 5 + 4 * n) (hN : n ≤ 16) : decC s = if checkC (numsAt s n 5, ((valB (s.take 4) : Nat) : Int)) ≠ 0 then none else some (numsAt s n 5, ((valB (s.take 4) : Nat) : Int)) := by
  unfold decC
  rw [hn, if_neg (by omega), if_neg (by omega), if_neg (fun k => k h)]
/-- the end of a reader of numbers -/
theorem CIn.ends {s : List UInt8} {n : Nat} {r : RS} {acc : List Int} (h : CIn s n n r acc) : (endE s r = 0 → s.length = 5 + 4 * n ∧ acc = numsAt s n 5) ∧ (endE s r ≠ 0 → s.length ≠ 5 + 4 * n) := by
  rcases h with ⟨h1, h2, h3⟩ | ⟨h1, h2, h3⟩
  · subst h1
    exact ⟨fun k => ⟨((endE_zero h2).1 k).symm, h3⟩, fun k => fun e => (endE_zero h2).2 k e.symm⟩
  · have : endE s r = r.2 := by unfold endE; rw [if_pos h1]
    rw [this]
    exact ⟨fun k => absurd k h1, fun _ => h3⟩
/-- the beginning of a commit's bytes -/
theorem head5 (s : List UInt8) : (s.length < 5 ∧ (rawR s 1 (rawR s 4 (0, 0))).2 ≠ 0 ∧ (rawR s 1 (rawR s 4 (0, 0))).1 ≤ s.length ∧ valB (rawV s 1 (rawR s 4 (0, 0))) = 0) ∨
    (5 ≤ s.length ∧ rawR s 1 (rawR s 4 (0, 0)) = (5, 0) ∧ rawV s 4 (0, 0) = s.take 4 ∧ rawV s 1 (rawR s 4 (0, 0)) = (s.drop 4).take 1) := by
  by_cases h4 : 0 + 4 ≤ s.length
  · rw [(rawR_ok h4).1, (rawR_ok h4).2]
    by_cases h5 : 0 + 4 + 1 ≤ s.length
    · rw [(rawR_ok h5).1, (rawR_ok h5).2]
      exact .inr ⟨by omega, rfl, rfl, rfl⟩
    · rw [(rawR_no (by omega)).1, (rawR_no (by omega)).2]
      exact .inl ⟨by omega, by show ¬ (2 : Int) = 0; decide, h4, rfl⟩
  · rw [(rawR_no (by omega)).1]
    have hr2 : ((0, 2) : RS).2 ≠ 0 := by show ¬ (2 : Int) = 0; decide
    rw [(rawR_err hr2).1, (rawR_err hr2).2]
    exact .inl ⟨by omega, hr2, Nat.zero_le _, rfl⟩
theorem head_cin {s : List UInt8} (h : (rawR s 1 (rawR s 4 (0, 0))).2 ≠ 0 ∨ valB (rawV s 1 (rawR s 4 (0, 0))) ≤ 16) : valB (rawV s 1 (rawR s 4 (0, 0))) ≤ 16 ∧ CIn s (valB (rawV s 1 (rawR s 4 (0, 0)))) 0 (rawR s 1 (rawR s 4 (0, 0))) [] ∧
    (5 ≤ s.length → valB ((s.drop 4).take 1) = valB (rawV s 1 (rawR s 4 (0, 0))) ∧ valB (s.take 4) = valB (rawV s 4 (0, 0))) ∧ (s.length < 5 → valB (rawV s 1 (rawR s 4 (0, 0))) = 0) := by
  rcases head5 s with ⟨h1, h2, h3, h4⟩ | ⟨h1, h2, h3, h4⟩
  · rw [h4]
    exact ⟨Nat.zero_le _, .inr ⟨h2, h3, by omega⟩, fun k => absurd h1 (by omega), fun _ => rfl⟩
  · rw [h2, h4] at h
    rw [h2, h4, h3]
    refine ⟨?_, .inl ⟨rfl, h1, rfl⟩, fun _ => ⟨rfl, rfl⟩, fun k => absurd h1 (by omega)⟩
    rcases h with h | h
    · exact absurd rfl h
    · exact h
set_option maxHeartbeats 4000000 in
theorem cdec_spec (μ : PH) (s : List UInt8) (hs : s.length ≤ 1073741824) : Spec Try.prog 76 [.string (str s)] [ro μ] (fun v L => ∃ cv e μ', v = .tuple #[cv, .int .i64 e] ∧ L = [ro μ'] ∧ Le μ μ' ∧ DecC s μ' cv e) := by
  have hh := head5 s
  have hr1 := rawR_le (s := s) (n := 4) (r := (0, 0)) (Nat.zero_le _)
  refine Spec.of 62 Try.func76 rfl rfl rfl ?_
  refine swp_seq ?_
  refine swp_region ?_
  refine s_ef (ef_alloc) ?_
  intro b2
  refine s_pu (pu_assign rfl) ?_
  refine swl_sub _ (.cons (t := 0) rfl (.cons (t := 2) rfl .nil)) ?_
  refine swl_nil ?_
  refine then_n ?_
  refine swp_seq ?_
  refine swp_region ?_
  refine s_pu (pu_move rfl) ?_
  refine s_ef (ef_fn (newR_spec s) rfl rfl (by repeat (first | exact Split.nil | (apply Split.cons; (repeat (first | with_reducible exact Take.here | apply Take.there)))))) ?_
  rintro v14 L1 ⟨p, rfl, rfl⟩
  refine swl_app ?_
  refine s_pu (pu_assign rfl) ?_
  refine swl_sub _ (.cons (t := 2) rfl (.cons (t := 4) rfl .nil)) ?_
  refine swl_nil ?_
  refine then_n ?_
  refine swp_seq ?_
  refine swp_region ?_
  refine s_pu (pu_move rfl) ?_
  refine s_ef (ef_fn (rdU32_spec p s (0, 0) hs (Nat.zero_le _)) rfl rfl (by repeat (first | exact Split.nil | (apply Split.cons; (repeat (first | with_reducible exact Take.here | apply Take.there)))))) ?_
  rintro v17 L1 ⟨rfl, rfl⟩
  refine swl_app ?_
  refine s_pu (pu_move rfl) ?_
  first | refine s_pu (pu_extractL rfl) ?_ | refine s_pu (pu_extract rfl rfl) ?_
  first | refine s_pu (pu_extractL rfl) ?_ | refine s_pu (pu_extract rfl rfl) ?_
  refine s_pu (pu_assign rfl) ?_
  refine s_pu (pu_assign rfl) ?_
  refine swl_sub _ (.cons (t := 2) rfl (.cons (t := 4) rfl (.cons (t := 5) rfl .nil))) ?_
  refine swl_nil ?_
  refine then_n ?_
  refine swp_seq ?_
  refine swp_region ?_
  refine s_pu (pu_move rfl) ?_
  refine s_ef (ef_fn (rdU8_spec p s (rawR s 4 (0, 0)) hs hr1) rfl rfl (by repeat (first | exact Split.nil | (apply Split.cons; (repeat (first | with_reducible exact Take.here | apply Take.there)))))) ?_
  rintro v22 L1 ⟨rfl, rfl⟩
  refine swl_app ?_
  refine s_pu (pu_move rfl) ?_
  first | refine s_pu (pu_extractL rfl) ?_ | refine s_pu (pu_extract rfl rfl) ?_
  first | refine s_pu (pu_extractL rfl) ?_ | refine s_pu (pu_extract rfl rfl) ?_
  refine s_pu (pu_assign rfl) ?_
  refine s_pu (pu_assign rfl) ?_
  refine swl_sub _ (.cons (t := 2) rfl (.cons (t := 4) rfl (.cons (t := 5) rfl (.cons (t := 7) rfl (.cons (t := 8) rfl .nil))))) ?_
  refine swl_nil ?_
  refine then_n ?_
  refine swp_cut (fun env L => ∃ (n : Nat) (r : RS) (tq : Nat), Sub env [(2, .pointer (some ⟨b2, 0, none⟩)), (4, .pointer (some ⟨p, 0, none⟩)), (5, .int .u32 (tq : Nat)), (7, .int .u8 (n : Nat))] ∧ Ent L [blk b2 48 [.slice none 0 0, .int .i64 0], rdB p s r, ro μ] ∧ n ≤ 16 ∧ tq < 4294967296 ∧ CIn s n 0 r [] ∧ (5 ≤ s.length → valB ((s.drop 4).take 1) = n ∧ valB (s.take 4) = tq) ∧ (s.length < 5 → n = 0)) ?_ ?_
  · skip
    refine swp_seq ?_
    refine swp_region ?_
    refine s_pu (pu_move rfl) ?_
    refine s_pu (pu_eql rfl rfl) ?_
    refine s_pu (pu_move rfl) ?_
    refine s_split 27 rfl (fun h27 => ?_) (fun h27 => ?_)
    · skip   -- 27 T
      refine s_on rfl rfl ?_
      refine s_pu (pu_move rfl) ?_
      refine s_on rfl rfl ?_
      refine s_pu (pu_gtr rfl rfl) ?_
      first | refine s_pu (pu_pick_t rfl rfl) ?_ | refine s_pu (pu_pick_f rfl rfl) ?_
      refine swl_sub _ (.cons (t := 2) rfl (.cons (t := 4) rfl (.cons (t := 5) rfl (.cons (t := 7) rfl (.cons (t := 30) rfl .nil))))) ?_
      refine swl_nil ?_
      refine then_n ?_
      refine swp_cond (b := _) rfl (fun h30 => ?_) (fun h30 => ?_)
      · skip   -- 30 T
        refine swp_seq ?_
        refine swp_region ?_
        refine s_pu (pu_bld (qs := []) rfl) ?_
        refine s_ef0 (ef_storeA rfl rfl rfl rfl) ?_
        refine s_pu (pu_assign rfl) ?_
        refine swl_sub _ (.cons (t := 2) rfl (.cons (t := 3) rfl .nil)) ?_
        refine swl_nil ?_
        refine then_n ?_
        refine swp_ret ?_
        refine then_r ?_
        have h27' := of_decide_eq_true h27
        have h30' : 16 < valB (rawV s 1 (rawR s 4 (0, 0))) := by have := of_decide_eq_true h30; omega
        have hd : decC s = none := by
          rcases hh with ⟨h1, _⟩ | ⟨_, _, _, h4⟩
          · exact decC_short h1
          · rw [h4] at h30'; exact decC_long h30'
        exact done_ret [ro μ] (.cell rfl (ld_whole rfl) (.tmp rfl .nil)) ⟨_, 3, μ, rfl, rfl, Le.refl _, .inr ⟨by decide, hd, rfl⟩⟩ (by repeat (first | exact Split.nil | (apply Split.cons; (repeat (first | with_reducible exact Take.here | apply Take.there)))))
      · skip   -- 30 F
        refine swp_skip ?_
        obtain ⟨q1, q2, q3⟩ := head_cin (s := s) (.inr (by have := of_decide_eq_false h30; omega))
        exact then_n ⟨_, _, _, ⟨rfl, rfl, rfl, rfl, trivial⟩, Split.ent' (by repeat (first | exact Split.nil | (apply Split.cons; (repeat (first | with_reducible exact Take.here | apply Take.there))))), q1, valB_lt4 (rawV_len _ _ _), q2, q3⟩
    · skip   -- 27 F
      refine s_off rfl rfl rfl ?_
      refine s_off rfl rfl rfl ?_
      first | refine s_pu (pu_pick_t rfl rfl) ?_ | refine s_pu (pu_pick_f rfl rfl) ?_
      refine swl_sub _ (.cons (t := 2) rfl (.cons (t := 4) rfl (.cons (t := 5) rfl (.cons (t := 7) rfl (.cons (t := 30) rfl .nil))))) ?_
      refine swl_nil ?_
      refine then_n ?_
      refine swp_cond (b := _) rfl (fun h30 => by cases h30) (fun h30 => ?_)
      refine swp_skip ?_
      obtain ⟨q1, q2, q3⟩ := head_cin (s := s) (.inl (of_decide_eq_false h27))
      exact then_n ⟨_, _, _, ⟨rfl, rfl, rfl, rfl, trivial⟩, Split.ent' (by repeat (first | exact Split.nil | (apply Split.cons; (repeat (first | with_reducible exact Take.here | apply Take.there))))), q1, valB_lt4 (rawV_len _ _ _), q2, q3⟩
  rintro env L ⟨n, r0, tq, hsub, hE, hn, htq, hin, h5, h50⟩
  refine swp_sub _ hsub ?_
  refine swp_ent hE ?_
  clear hsub hE env L hh hr1
  refine swp_seq ?_
  refine swp_region ?_
  refine s_pu (pu_move rfl) ?_
  refine s_pu (pu_conv_i64 rfl (by omega) (by omega)) ?_
  refine s_pu (pu_bld (qs := [(1, _)]) rfl) ?_
  refine s_ef (ef_alloc) ?_
  intro b9
  refine s_ef0 (ef_storeA rfl rfl rfl rfl) ?_
  refine swl_sub _ (.cons (t := 2) rfl (.cons (t := 4) rfl (.cons (t := 7) rfl (.cons (t := 9) rfl .nil)))) ?_
  refine swl_nil ?_
  refine then_n ?_
  refine swp_seq ?_
  refine swp_seq ?_
  refine swp_region ?_
  refine s_pu (pu_move rfl) ?_
  refine s_pu (pu_move rfl) ?_
  refine swl_sub _ (.cons (t := 2) rfl (.cons (t := 4) rfl (.cons (t := 9) rfl (.cons (t := 35) rfl (.cons (t := 36) rfl .nil))))) ?_
  refine swl_nil ?_
  refine then_n ?_
  refine swp_block ?_
  refine swp_ent (own_nil_ent (e := 3) (n := 1)) ?_
  refine swp_loop (ι := CI) (fun x env L => Sub env [(2, .pointer (some ⟨b2, 0, none⟩)), (4, .pointer (some ⟨p, 0, none⟩)), (9, .pointer (some ⟨b9, 0, none⟩)), (35, .int .u8 (n : Nat)), (36, .int .u8 (x.i : Nat))] ∧ Ent L [blk b9 48 [x.v, .int .i64 (tq : Nat)], own 3 1 x.v x.i (x.acc.flatMap (icsk .i64)), blk b2 48 [.slice none 0 0, .int .i64 0], rdB p s x.r, ro μ] ∧ x.i ≤ n ∧ x.acc.length = x.i ∧ CIn s n x.i x.r x.acc) (fun x => n - x.i) ⟨0, r0, [], .slice none 0 0⟩ ⟨⟨rfl, rfl, rfl, rfl, rfl, trivial⟩, by show Ent _ [blk b9 48 [.slice none 0 0, .int .i64 (tq : Nat)], own 3 1 (.slice none 0 0) 0 [], blk b2 48 [.slice none 0 0, .int .i64 0], rdB p s r0, ro μ]; exact Split.ent' (by repeat (first | exact Split.nil | (apply Split.cons; (repeat (first | with_reducible exact Take.here | apply Take.there))))), Nat.zero_le _, rfl, hin⟩ ?_
  clear hin r0
  rintro ⟨i, r, acc, v⟩ env L ⟨hsub, hE, hi, hacc, hin⟩
  dsimp only at hsub hE hi hacc hin
  refine swp_sub _ hsub ?_
  refine swp_ent hE ?_
  clear hsub hE env L
  dsimp only
  refine swp_seq ?_
  refine swp_region ?_
  refine s_pu (pu_lss rfl rfl) ?_
  refine swl_sub _ (.cons (t := 2) rfl (.cons (t := 4) rfl (.cons (t := 9) rfl (.cons (t := 35) rfl (.cons (t := 36) rfl (.cons (t := 37) rfl .nil)))))) ?_
  refine swl_nil ?_
  refine then_n ?_
  refine swp_seq ?_
  refine swp_cond (b := _) rfl (fun h37 => ?_) (fun h37 => ?_)
  · skip   -- 37 T
    have h37' : i < n := by have := of_decide_eq_true h37; omega
    refine swp_skip ?_
    refine then_n ?_
    refine swp_seq ?_
    refine swp_block ?_
    refine swp_seq ?_
    refine swp_region ?_
    refine s_pu (pu_move rfl) ?_
    refine s_ef (ef_fn (rdU32_spec p s r hs hin.le) rfl rfl (by repeat (first | exact Split.nil | (apply Split.cons; (repeat (first | with_reducible exact Take.here | apply Take.there)))))) ?_
    rintro v40 L1 ⟨rfl, rfl⟩
    refine swl_app ?_
    refine s_pu (pu_move rfl) ?_
    first | refine s_pu (pu_extractL rfl) ?_ | refine s_pu (pu_extract rfl rfl) ?_
    first | refine s_pu (pu_extractL rfl) ?_ | refine s_pu (pu_extract rfl rfl) ?_
    refine s_pu (pu_assign rfl) ?_
    refine s_pu (pu_assign rfl) ?_
    refine swl_sub _ (.cons (t := 2) rfl (.cons (t := 4) rfl (.cons (t := 9) rfl (.cons (t := 10) rfl (.cons (t := 35) rfl (.cons (t := 36) rfl .nil)))))) ?_
    refine swl_nil ?_
    refine then_n ?_
    refine swp_region ?_
    first | refine s_pu (pu_fieldAddr0 rfl) ?_ | refine s_pu (pu_fieldAddr rfl) ?_
    refine s_rd (rd_load rfl rfl) ?_
    refine s_pu (pu_move rfl) ?_
    refine s_pu (pu_conv_i64 rfl (by omega) (by have := valB_lt4 (rawV_len s 4 r); omega)) ?_
    refine s_ef (ef_bldS (qs := [(0, _)]) rfl rfl rfl) ?_
    intro b47
    refine s_ef (ef_append_lit (l := i) (m := 1) rfl rfl (by repeat (first | exact Split.nil | (apply Split.cons; (repeat (first | with_reducible exact Take.here | apply Take.there))))) (by simp only [maxLen]; omega) (by omega)) ?_
    rintro v48 -
    refine swl_fact (fun m h => own_form h) fun ⟨A48, cap48, hv48⟩ => ?_
    subst hv48
    first | refine s_pu (pu_fieldAddr0 rfl) ?_ | refine s_pu (pu_fieldAddr rfl) ?_
    refine s_ef0 (ef_store rfl rfl rfl) ?_
    refine swl_sub _ (.cons (t := 2) rfl (.cons (t := 4) rfl (.cons (t := 9) rfl (.cons (t := 35) rfl (.cons (t := 36) rfl .nil))))) ?_
    refine swl_nil ?_
    refine block_n ?_
    refine then_n ?_
    refine swp_region ?_
    refine s_pu (pu_add_u8 (i + 1) rfl rfl (by omega) (by omega)) ?_
    refine s_pu (pu_move rfl) ?_
    refine swl_sub _ (.cons (t := 2) rfl (.cons (t := 4) rfl (.cons (t := 9) rfl (.cons (t := 35) rfl (.cons (t := 36) rfl .nil))))) ?_
    refine swl_nil ?_
    refine then_n ⟨⟨i + 1, rawR s 4 r, acc ++ [((valB (rawV s 4 r) : Nat) : Int)], .slice A48 (i + 1) cap48⟩, ⟨⟨rfl, rfl, rfl, rfl, rfl, trivial⟩, ?_, h37', by show (acc ++ [_]).length = i + 1; rw [List.length_append, List.length_singleton, hacc], hin.step h37'⟩, by show n - (i + 1) < n - i; omega⟩
    show Ent _ [blk b9 48 [.slice A48 (i + 1) cap48, .int .i64 (tq : Nat)], own 3 1 (.slice A48 (i + 1) cap48) (i + 1) ((acc ++ [((valB (rawV s 4 r) : Nat) : Int)]).flatMap (icsk .i64)), blk b2 48 [.slice none 0 0, .int .i64 0], rdB p s (rawR s 4 r), ro μ]
    rw [show (acc ++ [((valB (rawV s 4 r) : Nat) : Int)]).flatMap (icsk .i64) = acc.flatMap (icsk .i64) ++ [.int .i64 ((valB (rawV s 4 r) : Nat) : Int)] by rw [List.flatMap_append]; rfl]
    exact Split.ent' (by repeat (first | exact Split.nil | (apply Split.cons; (repeat (first | with_reducible exact Take.here | apply Take.there)))))
  · skip   -- 37 F
    have h37' := of_decide_eq_false h37
    obtain rfl : i = n := by omega
    obtain ⟨hk1, hk2⟩ := hin.ends
    refine swp_exit ?_
    refine then_x ?_
    refine then_x ?_
    refine block_hit rfl ?_
    refine then_n ?_
    refine swp_seq ?_
    refine swp_seq ?_
    refine swp_region ?_
    refine s_pu (pu_move rfl) ?_
    refine s_ef (ef_fn (rdEnd_spec p s r hs hin.le) rfl rfl (by repeat (first | exact Split.nil | (apply Split.cons; (repeat (first | with_reducible exact Take.here | apply Take.there)))))) ?_
    rintro v52 L1 ⟨rfl, rfl⟩
    refine swl_app ?_
    refine s_pu (pu_assign rfl) ?_
    refine swl_sub _ (.cons (t := 2) rfl (.cons (t := 9) rfl (.cons (t := 12) rfl .nil))) ?_
    refine swl_nil ?_
    refine then_n ?_
    refine swp_seq ?_
    refine swp_region ?_
    refine s_pu (pu_move rfl) ?_
    refine s_pu (pu_neq rfl rfl) ?_
    refine swl_sub _ (.cons (t := 2) rfl (.cons (t := 9) rfl (.cons (t := 12) rfl (.cons (t := 54) rfl .nil)))) ?_
    refine swl_nil ?_
    refine then_n ?_
    refine swp_cond (b := _) rfl (fun h54 => ?_) (fun h54 => ?_)
    · skip   -- 54 T
      refine swp_seq ?_
      refine swp_region ?_
      refine s_pu (pu_bld (qs := []) rfl) ?_
      refine s_pu (pu_move rfl) ?_
      refine s_ef0 (ef_storeA rfl rfl rfl rfl) ?_
      refine s_pu (pu_assign rfl) ?_
      refine swl_sub _ (.cons (t := 2) rfl (.cons (t := 3) rfl .nil)) ?_
      refine swl_nil ?_
      refine then_n ?_
      refine swp_ret ?_
      refine then_r ?_
      have h54' : endE s r ≠ 0 := by simpa using h54
      have hd : decC s = none := by
        by_cases h : s.length < 5
        · exact decC_short h
        · exact decC_len (h5 (by omega)).1 (hk2 h54')
      exact done_ret [ro μ] (.cell rfl (ld_whole rfl) (.tmp rfl .nil)) ⟨_, _, μ, rfl, rfl, Le.refl _, .inr ⟨h54', hd, rfl⟩⟩ (by repeat (first | exact Split.nil | (apply Split.cons; (repeat (first | with_reducible exact Take.here | apply Take.there)))))
    · skip   -- 54 F
      have h54' : endE s r = 0 := by simpa using h54
      obtain ⟨hk3, hk4⟩ := hk1 h54'
      obtain ⟨hn5, ht5⟩ := h5 (by omega)
      have hd := decC_chk hn5 hk3 hn
      rw [ht5, ← hk4] at hd
      refine swp_skip ?_
      refine then_n ?_
      refine swp_seq ?_
      refine swp_seq ?_
      subst hacc
      refine swp_share_own (μ := μ) (v := v) (by repeat (first | exact Split.nil | (apply Split.cons; (repeat (first | with_reducible exact Take.here | apply Take.there))))) fun μ' hle hrow => ?_
      obtain ⟨A9, cap9, rfl⟩ := hrow.sl
      refine swp_region ?_
      first | refine s_rd (rd_loadW rfl rfl) ?_ | refine s_rd (rd_loadX rfl rfl rfl) ?_
      refine s_ef (ef_fn (cchk_spec μ' (.slice A9 acc.length cap9) (acc, (tq : Nat)) hrow) rfl rfl (by repeat (first | exact Split.nil | (apply Split.cons; (repeat (first | with_reducible exact Take.here | apply Take.there)))))) ?_
      rintro v58 L1 ⟨rfl, rfl⟩
      refine swl_app ?_
      refine s_pu (pu_neq rfl rfl) ?_
      refine swl_sub _ (.cons (t := 2) rfl (.cons (t := 9) rfl (.cons (t := 59) rfl .nil))) ?_
      refine swl_nil ?_
      refine then_n ?_
      refine swp_cond (b := _) rfl (fun h59 => ?_) (fun h59 => ?_)
      · skip   -- 59 T
        refine swp_seq ?_
        refine swp_region ?_
        refine s_pu (pu_bld (qs := []) rfl) ?_
        refine s_ef0 (ef_storeA rfl rfl rfl rfl) ?_
        refine s_pu (pu_assign rfl) ?_
        refine swl_sub _ (.cons (t := 2) rfl (.cons (t := 3) rfl .nil)) ?_
        refine swl_nil ?_
        refine then_n ?_
        refine swp_ret ?_
        refine then_r ?_
        have h59' : checkC (acc, ((tq : Nat) : Int)) ≠ 0 := by simpa using h59
        rw [if_pos h59'] at hd
        exact done_ret [ro μ'] (.cell rfl (ld_whole rfl) (.tmp rfl .nil)) ⟨_, 3, μ', rfl, rfl, hle, .inr ⟨by decide, hd, rfl⟩⟩ (by repeat (first | exact Split.nil | (apply Split.cons; (repeat (first | with_reducible exact Take.here | apply Take.there)))))
      · skip   -- 59 F
        refine swp_skip ?_
        refine then_n ?_
        refine swp_seq ?_
        refine swp_region ?_
        first | refine s_rd (rd_loadW rfl rfl) ?_ | refine s_rd (rd_loadX rfl rfl rfl) ?_
        refine s_ef0 (ef_storeA rfl rfl rfl rfl) ?_
        refine s_pu (pu_assign rfl) ?_
        refine swl_sub _ (.cons (t := 2) rfl (.cons (t := 3) rfl .nil)) ?_
        refine swl_nil ?_
        refine then_n ?_
        refine swp_ret ?_
        have h59' : checkC (acc, ((tq : Nat) : Int)) = 0 := by simpa using h59
        rw [if_neg (not_not_intro h59')] at hd
        exact done_ret [ro μ'] (.cell rfl (ld_whole rfl) (.tmp rfl .nil)) ⟨_, 0, μ', rfl, rfl, hle, .inl ⟨rfl, _, _, hd, rfl, hrow⟩⟩ (by repeat (first | exact Split.nil | (apply Split.cons; (repeat (first | with_reducible exact Take.here | apply Take.there)))))
end SX
namespace SX
open Go Go.Proofs
end SX
