/- A part of the proof: walks of the program's functions, and the rules by which they go. -/
import Derived.Test.YtkldhmbmahgnjaaDoorB06a2a5ea
import Derived.Shelf.Small.Bits
import Derived.Shelf.Small.Strs
import Derived.Shelf.Strconv.Itoa0
import Derived.Shelf.Sort.Plain
import Derived.Shelf.Slices.CompactS
import Derived.Shelf.Slices.Cells
import Derived.Shelf.Slices.In.SortNone
import Derived.Test.YtkldhmbmahgnjaaDoorProg
import Derived.Test.YtkldhmbmahgnjaaDoorB2fe6d66a
import Derived.Test.YtkldhmbmahgnjaaDoorB5c872605
import Derived.Test.YtkldhmbmahgnjaaDoorB9028228d
namespace SX
open Go Go.Proofs
instance : TZero Tryd.prog 153 (List.replicate 256 (.int .u32 0)) := ⟨by kernel_rfl⟩
/-- the table, its first k places filled -/
def tabK (k : Nat) : List Value := (List.range 256).map fun i => if i < k then .int .u32 ((rowW i).toNat : Nat) else .int .u32 0
def tabC : List Value := (List.range 256).map fun i => .int .u32 ((rowW i).toNat : Nat)
theorem tabK_len (k : Nat) : (tabK k).length = 256 := by unfold tabK; rw [List.length_map, List.length_range]
theorem tabK_all : tabK 256 = tabC := by
  unfold tabK tabC
  refine List.map_congr_left fun i hi => ?_
  rw [if_pos (List.mem_range.1 hi)]
theorem tabK_zero : tabK 0 = List.replicate 256 (.int .u32 0) := by
  unfold tabK
  apply List.ext_getElem?
  intro i
  rw [List.getElem?_map, List.getElem?_replicate]
  by_cases h : i < 256
  · rw [List.getElem?_range h, if_pos h]; simp
  · rw [List.getElem?_eq_none (by simp; omega), if_neg h]; rfl
theorem tabK_get (k i : Nat) (hi : i < 256) : (tabK k)[i]? = some (if i < k then .int .u32 ((rowW i).toNat : Nat) else .int .u32 0) := by
  unfold tabK; rw [List.getElem?_map, List.getElem?_range hi]; rfl
theorem tabK_set {k : Nat} (hk : k < 256) : (tabK k).set k (.int .u32 ((rowW k).toNat : Nat)) = tabK (k + 1) := by
  apply List.ext_getElem?
  intro i
  rw [List.getElem?_set, tabK_len]
  by_cases hi : i < 256
  · rw [tabK_get _ _ hi, tabK_get _ _ hi]
    by_cases h : k = i
    · subst h; rw [if_pos rfl, if_pos hk, if_pos (by omega)]
    · rw [if_neg h]
      by_cases h2 : i < k
      · rw [if_pos h2, if_pos (by omega)]
      · rw [if_neg h2, if_neg (by omega)]
  · rw [if_neg (by omega), List.getElem?_eq_none (by rw [tabK_len]; omega), List.getElem?_eq_none (by rw [tabK_len]; omega)]
theorem ent_ro0 {L : List Assn} : Ent L (ro (fun _ => none) :: L) := fun m h => ⟨fun _ => none, m, (fun k x hk => by cases hk), h, (fun _ => .inl rfl), (fun _ _ h => by cases h), (fun _ _ h => h)⟩
theorem tabC_get {i : Nat} (hi : i < 256) : tabC[i]? = some (.int .u32 ((rowW i).toNat : Nat)) := by
  unfold tabC; rw [List.getElem?_map, List.getElem?_range hi]; rfl
theorem tabC_len : tabC.length = 256 := by unfold tabC; rw [List.length_map, List.length_range]
theorem tabC_one : tabC.all Value.oneCell' = true := by
  rw [List.all_eq_true]; intro v hv; unfold tabC at hv; obtain ⟨i, _, rfl⟩ := List.mem_map.1 hv; rfl
theorem wv_small {n : Nat} (h : n < 4294967296) : ((n : Nat) : Int) = ((BitVec.ofNat 32 n).toNat : Int) := by rw [BitVec.toNat_ofNat, Nat.mod_eq_of_lt (by omega)]
set_option maxHeartbeats 1000000 in
theorem rows_spec : Spec Tryd.prog 62 [] [] (fun v L => v = .agg tabC.toArray ∧ L = []) := by
 refine Spec.of 19 Tryd.func62 rfl rfl rfl ?_
 refine swp_seq ?_
 refine swp_region ?_
 refine s_ef (ef_alloc) ?_
 intro b0
 refine swl_sub _ (.cons (t := 0) rfl .nil) ?_
 refine swl_nil ?_
 refine then_n ?_
 refine swp_seq ?_
 refine swp_region ?_
 refine s_ef (ef_alloc) ?_
 intro b1
 refine swl_sub _ (.cons (t := 0) rfl (.cons (t := 1) rfl .nil)) ?_
 refine swl_nil ?_
 refine then_n ?_
 refine swp_seq ?_
 refine swp_seq ?_
 refine swp_region ?_
 refine s_pu (pu_move rfl) ?_
 refine swl_sub _ (.cons (t := 0) rfl (.cons (t := 1) rfl (.cons (t := 4) rfl .nil))) ?_
 rw [← tabK_zero]
 refine swl_nil ?_
 refine then_n ?_
 refine swp_block ?_
 refine swp_loop (ι := Nat) (fun k env L => Sub env [(0, .pointer (some ⟨b0, 0, none⟩)), (1, .pointer (some ⟨b1, 0, none⟩)), (4, .int .i64 (k : Nat))] ∧ L = [blk b1 153 (tabK k), blk b0 153 (tabK 0)] ∧ k ≤ 256) (fun k => 256 - k) 0 ⟨⟨rfl, rfl, rfl, trivial⟩, rfl, Nat.zero_le _⟩ ?_
 rintro k env L ⟨hsub, rfl, hk⟩
 refine swp_sub _ hsub ?_
 clear hsub env
 refine swp_seq ?_
 refine swp_region ?_
 refine s_pu (pu_lss rfl rfl) ?_
 refine swl_sub _ (.cons (t := 0) rfl (.cons (t := 1) rfl (.cons (t := 4) rfl (.cons (t := 5) rfl .nil)))) ?_
 refine swl_nil ?_
 refine then_n ?_
 refine swp_seq ?_
 refine swp_cond (b := _) rfl (fun h5 => ?_) (fun h5 => ?_)
 ·skip
  have h5' : k < 256 := by have := of_decide_eq_true h5; omega
  refine swp_skip ?_
  refine then_n ?_
  refine swp_seq ?_
  refine swp_block ?_
  refine swp_seq ?_
  refine swp_region ?_
  refine s_pu (pu_move rfl) ?_
  refine s_pu (pu_assign rfl) ?_
  refine swl_sub _ (.cons (t := 0) rfl (.cons (t := 1) rfl (.cons (t := 2) rfl (.cons (t := 4) rfl .nil)))) ?_
  refine swl_nil ?_
  refine then_n ?_
  refine swp_seq ?_
  refine swp_region ?_
  refine s_pu (pu_move rfl) ?_
  refine s_pu (pu_conv_as (k' := .u32) (n := ((BitVec.ofNat 32 k).toNat : Int)) (by rw [← wv_small (by omega)]; rfl) (wrap_word32 _)) ?_
  refine s_pu (pu_assign rfl) ?_
  refine swl_sub _ (.cons (t := 0) rfl (.cons (t := 1) rfl (.cons (t := 2) rfl (.cons (t := 3) rfl (.cons (t := 4) rfl .nil))))) ?_
  refine swl_nil ?_
  refine then_n ?_
  refine swp_seq ?_
  refine swp_seq ?_
  refine swp_region ?_
  refine s_pu (pu_move rfl) ?_
  refine swl_sub _ (.cons (t := 0) rfl (.cons (t := 1) rfl (.cons (t := 2) rfl (.cons (t := 3) rfl (.cons (t := 4) rfl (.cons (t := 9) rfl .nil)))))) ?_
  refine swl_nil ?_
  refine then_n ?_
  refine swp_block ?_
  refine swp_loop (ι := Nat) (fun j env L => Sub env [(0, .pointer (some ⟨b0, 0, none⟩)), (1, .pointer (some ⟨b1, 0, none⟩)), (2, .int .i64 (k : Nat)), (3, .int .u32 ((turnsW j (BitVec.ofNat 32 k)).toNat : Nat)), (4, .int .i64 (k : Nat)), (9, .int .i64 (j : Nat))] ∧ L = [blk b1 153 (tabK k), blk b0 153 (tabK 0)] ∧ j ≤ 8) (fun j => 8 - j) 0 ⟨⟨rfl, rfl, rfl, rfl, rfl, rfl, trivial⟩, rfl, Nat.zero_le _⟩ ?_
  rintro j env L ⟨hsub, rfl, hj⟩
  refine swp_sub _ hsub ?_
  clear hsub env
  refine swp_seq ?_
  refine swp_region ?_
  refine s_pu (pu_lss rfl rfl) ?_
  refine swl_sub _ (.cons (t := 0) rfl (.cons (t := 1) rfl (.cons (t := 2) rfl (.cons (t := 3) rfl (.cons (t := 4) rfl (.cons (t := 9) rfl (.cons (t := 10) rfl .nil))))))) ?_
  refine swl_nil ?_
  refine then_n ?_
  refine swp_seq ?_
  refine swp_cond (b := _) rfl (fun h10 => ?_) (fun h10 => ?_)
  ·skip
   have h10' : j < 8 := by have := of_decide_eq_true h10; omega
   refine swp_skip ?_
   refine then_n ?_
   refine swp_seq ?_
   refine swp_block ?_
   refine swp_region ?_
   refine s_pu (pu_move rfl) ?_
   refine s_ef (ef_fn (turn_spec _) rfl rfl (by repeat (first | exact Split.nil | (apply Split.cons; (repeat (first | with_reducible exact Take.here | apply Take.there)))))) ?_
   rintro v12 L1 ⟨rfl, rfl⟩
   refine swl_app ?_
   refine s_pu (pu_assign rfl) ?_
   refine swl_sub _ (.cons (t := 0) rfl (.cons (t := 1) rfl (.cons (t := 2) rfl (.cons (t := 3) rfl (.cons (t := 4) rfl (.cons (t := 9) rfl .nil)))))) ?_
   refine swl_nil ?_
   refine block_n ?_
   refine then_n ?_
   refine swp_region ?_
   refine s_pu (pu_add_as ((j + 1 : Nat) : Int) rfl rfl (by omega) (by omega) (by omega)) ?_
   refine s_pu (pu_move rfl) ?_
   refine swl_sub _ (.cons (t := 0) rfl (.cons (t := 1) rfl (.cons (t := 2) rfl (.cons (t := 3) rfl (.cons (t := 4) rfl (.cons (t := 9) rfl .nil)))))) ?_
   refine swl_nil ?_
   refine then_n ⟨j + 1, ⟨⟨rfl, rfl, rfl, by rw [turns_succ]; rfl, rfl, rfl, trivial⟩, rfl, h10'⟩, by omega⟩
  ·skip
   have h10' := of_decide_eq_false h10
   obtain rfl : j = 8 := by omega
   refine swp_exit ?_
   refine then_x ?_
   refine then_x ?_
   refine block_hit rfl ?_
   refine then_n ?_
   refine swp_region ?_
   refine s_pu (pu_move rfl) ?_
   refine s_pu (pu_move rfl) ?_
   refine s_pu (pu_indexAddr_arr k rfl rfl (by omega) (by omega) (by rw [Int.toNat_natCast]; omega)) ?_
   refine s_ef0 (ef_storeP rfl rfl rfl (by rw [tabK_len]; omega)) ?_
   refine swl_sub _ (.cons (t := 0) rfl (.cons (t := 1) rfl (.cons (t := 4) rfl .nil))) ?_
   refine swl_nil ?_
   refine block_n ?_
   refine then_n ?_
   refine swp_region ?_
   refine s_pu (pu_add_as ((k + 1 : Nat) : Int) rfl rfl (by omega) (by omega) (by omega)) ?_
   refine s_pu (pu_move rfl) ?_
   refine swl_sub _ (.cons (t := 0) rfl (.cons (t := 1) rfl (.cons (t := 4) rfl .nil))) ?_
   refine swl_nil ?_
   exact then_n ⟨k + 1, ⟨⟨rfl, rfl, rfl, trivial⟩, by rw [← tabK_set h5']; rfl, h5'⟩, by omega⟩
 ·skip
  have h5' := of_decide_eq_false h5
  obtain rfl : k = 256 := by omega
  rw [tabK_all]
  refine swp_exit ?_
  refine then_x ?_
  refine then_x ?_
  refine block_hit rfl ?_
  refine then_n ?_
  refine swp_seq ?_
  refine swp_region ?_
  refine s_rd (rd_of_ld rfl (ld_whole tabC_len)) ?_
  refine s_ef0 (ef_storeAs rfl rfl (cs' := tabC) (by unfold over; rw [List.take_zero, List.nil_append, List.drop_eq_nil_of_le (by rw [tabK_len, tabC_len]; decide), List.append_nil]) (by rw [tabK_len, tabC_len]; decide) tabC_len tabC_one) ?_
  refine swl_sub _ (.cons (t := 0) rfl .nil) ?_
  refine swl_nil ?_
  refine then_n ?_
  refine swp_ret ?_
  exact done_ret [] (.cell rfl (ld_whole tabC_len) .nil) ⟨rfl, rfl⟩ (by repeat (first | exact Split.nil | (apply Split.cons; (repeat (first | with_reducible exact Take.here | apply Take.there)))))
set_option maxHeartbeats 1000000 in
theorem take_spec (c : W32) (t : Nat) (s : ByteArray) (hs : s.size ≤ 1048576) : Spec Tryd.prog 63 [.pointer (some ⟨t, 0, none⟩), .int .u32 (c.toNat : Nat), .string s] [blk t 153 tabC] (fun v L => v = .int .u32 ((crcW c s.data.toList).toNat : Nat) ∧ L = [blk t 153 tabC]) := by
 have hl : s.data.toList.length = s.size := by rw [Array.length_toList]; rfl
 refine Spec.of 29 Tryd.func63 rfl rfl rfl ?_
 refine swp_seq ?_
 refine swp_region ?_
 refine s_pu (pu_assign rfl) ?_
 refine swl_sub _ (.cons (t := 0) rfl (.cons (t := 1) rfl (.cons (t := 2) rfl .nil))) ?_
 refine swl_nil ?_
 refine then_n ?_
 refine swp_seq ?_
 refine swp_seq ?_
 refine swp_region ?_
 refine s_pu (pu_move rfl) ?_
 refine s_ef (ef_bytes (e := 5) rfl (by simp only [maxLen]; omega)) ?_
 rintro g cap cs fr hc1 hc2 hcs
 skip
 refine s_pu (pu_len rfl) ?_
 refine s_pu (pu_move rfl) ?_
 refine swl_sub _ (.cons (t := 0) rfl (.cons (t := 1) rfl (.cons (t := 10) rfl (.cons (t := 11) rfl (.cons (t := 12) rfl .nil))))) ?_
 refine swl_nil ?_
 refine then_n ?_
 refine swp_block ?_
 refine swp_ent ent_ro0 ?_
 refine swp_share1 (b := g) (μ := fun _ => none) (by repeat (first | exact Split.nil | (apply Split.cons; (repeat (first | with_reducible exact Take.here | apply Take.there))))) fun μ _ hg => ?_
 have hrow := row_bytes hc1 hc2 hcs hg
 refine swp_loop (ι := Nat) (fun i env L => Sub env [(0, .pointer (some ⟨t, 0, none⟩)), (1, .int .u32 (((s.data.toList.take i).foldl takeW c).toNat : Nat)), (10, .slice (some ⟨g, 0, none⟩) s.size cap), (11, .int .i64 (s.size : Nat)), (12, .int .i64 (i : Nat))] ∧ L = [ro μ, blk t 153 tabC] ∧ i ≤ s.size) (fun i => s.size - i) 0 ⟨⟨rfl, rfl, rfl, rfl, rfl, trivial⟩, rfl, Nat.zero_le _⟩ ?_
 rintro i env L ⟨hsub, rfl, hi⟩
 refine swp_sub _ hsub ?_
 clear hsub env
 generalize hd : (s.data.toList.take i).foldl takeW c = d
 refine swp_seq ?_
 refine swp_region ?_
 refine s_pu (pu_lss rfl rfl) ?_
 refine swl_sub _ (.cons (t := 0) rfl (.cons (t := 1) rfl (.cons (t := 10) rfl (.cons (t := 11) rfl (.cons (t := 12) rfl (.cons (t := 13) rfl .nil)))))) ?_
 refine swl_nil ?_
 refine then_n ?_
 refine swp_seq ?_
 refine swp_cond (b := _) rfl (fun h13 => ?_) (fun h13 => ?_)
 ·skip
  have h13' : i < s.size := by have := of_decide_eq_true h13; omega
  obtain ⟨b, hb⟩ : ∃ b, s.data.toList[i]? = some b := ⟨_, List.getElem?_eq_getElem (by omega)⟩
  obtain ⟨g', off, cap', hv, _, _, hr⟩ := hrow.pos (by omega)
  have hre := hr.elem (f := bc1) (n := 1) (fun _ => rfl) hb
  injection hv with e1 e2 e3
  injection e1 with e1
  injection e1 with e4 e5
  subst e4 e5
  have hidx : (d.setWidth 8 ^^^ b.toBitVec).toNat < 256 := (d.setWidth 8 ^^^ b.toBitVec).isLt
  refine swp_skip ?_
  refine then_n ?_
  refine swp_seq ?_
  refine swp_block ?_
  refine swp_seq ?_
  refine swp_region ?_
  refine s_pu (pu_indexAddr (0 + i * 1) rfl rfl (by omega) (by omega) (by rw [Int.toNat_natCast])) ?_
  refine s_rd (rd_ro rfl hre.cell) ?_
  refine s_pu (pu_assign rfl) ?_
  refine swl_sub _ (.cons (t := 0) rfl (.cons (t := 1) rfl (.cons (t := 8) rfl (.cons (t := 10) rfl (.cons (t := 11) rfl (.cons (t := 12) rfl .nil)))))) ?_
  refine swl_nil ?_
  refine then_n ?_
  refine swp_region ?_
  refine s_pu (pu_move rfl) ?_
  refine s_pu (pu_move rfl) ?_
  refine s_pu (pu_low8 d (by decide) rfl rfl) ?_
  refine s_pu (pu_move rfl) ?_
  refine s_pu (pu_xor_w8 (b := b.toBitVec) rfl rfl) ?_
  first | refine s_pu (pu_nilCheck rfl) ?_ | refine s_pu (pu_nilCheck_fn rfl) ?_ | refine s_pu (pu_nilCheck_if rfl) ?_
  refine s_pu (pu_indexAddr_arr (d.setWidth 8 ^^^ b.toBitVec).toNat rfl rfl (by omega) (by omega) (by rw [Int.toNat_natCast]; omega)) ?_
  refine s_rd (rd_load rfl (tabC_get hidx)) ?_
  refine s_pu (pu_move rfl) ?_
  refine s_pu (pu_shr_w32 8 rfl rfl (by decide)) ?_
  refine s_pu (pu_xor_w32 rfl rfl) ?_
  refine s_pu (pu_assign rfl) ?_
  refine swl_sub _ (.cons (t := 0) rfl (.cons (t := 1) rfl (.cons (t := 10) rfl (.cons (t := 11) rfl (.cons (t := 12) rfl .nil))))) ?_
  refine swl_nil ?_
  refine block_n ?_
  refine then_n ?_
  refine swp_region ?_
  refine s_pu (pu_add_as ((i + 1 : Nat) : Int) rfl rfl (by omega) (by omega) (by omega)) ?_
  refine s_pu (pu_move rfl) ?_
  refine swl_sub _ (.cons (t := 0) rfl (.cons (t := 1) rfl (.cons (t := 10) rfl (.cons (t := 11) rfl (.cons (t := 12) rfl .nil))))) ?_
  refine swl_nil ?_
  refine then_n ⟨i + 1, ⟨⟨rfl, ?_, rfl, rfl, rfl, trivial⟩, rfl, h13'⟩, by omega⟩
  rw [List.take_add_one, hb, List.foldl_append, hd]; rfl
 ·skip
  have h13' := of_decide_eq_false h13
  obtain rfl : i = s.size := by omega
  rw [← hl, List.take_length, crc_take] at hd
  refine swp_exit ?_
  refine then_x ?_
  refine then_x ?_
  refine block_hit rfl ?_
  refine then_n ?_
  refine swp_seq ?_
  refine swp_region ?_
  refine s_pu (pu_move rfl) ?_
  refine s_pu (pu_assign rfl) ?_
  refine swl_sub _ (.cons (t := 6) rfl .nil) ?_
  refine swl_nil ?_
  refine then_n ?_
  refine swp_ret ?_
  exact done_ret [blk t 153 tabC] (.tmp rfl .nil) ⟨by rw [hd]; rfl, rfl⟩ (by repeat (first | exact Split.nil | (apply Split.cons; (repeat (first | with_reducible exact Take.here | apply Take.there)))))
set_option maxHeartbeats 1000000 in
theorem sum_spec (g cap : Nat) (s : ByteArray) (hs : s.size ≤ 1048576) : Spec Tryd.prog 46 [.slice (some ⟨g, 0, none⟩) 1 cap] [blk g 9 [.string s]] (fun v L => v = .int .u32 ((sumW s.data.toList).toNat : Nat) ∧ L = []) := by
 refine Spec.of 20 Tryd.func46 rfl rfl rfl ?_
 refine swp_seq ?_
 refine swp_region ?_
 refine s_pu (pu_assign rfl) ?_
 refine swl_sub _ (.cons (t := 0) rfl .nil) ?_
 refine swl_nil ?_
 refine then_n ?_
 refine swp_seq ?_
 refine swp_region ?_
 refine s_ef (ef_fn rows_spec rfl rfl (by repeat (first | exact Split.nil | (apply Split.cons; (repeat (first | with_reducible exact Take.here | apply Take.there)))))) ?_
 rintro v7 L1 ⟨rfl, rfl⟩
 refine swl_app ?_
 refine s_ef (ef_alloc) ?_
 intro b3
 refine s_ef0 (ef_storeAs rfl rfl (cs' := tabC) (by unfold over; rw [List.take_zero, List.nil_append, List.drop_eq_nil_of_le (by rw [List.length_replicate, tabC_len]; decide), List.append_nil]) (by rw [List.length_replicate, tabC_len]; decide) tabC_len tabC_one) ?_
 refine swl_sub _ (.cons (t := 0) rfl (.cons (t := 3) rfl .nil)) ?_
 refine swl_nil ?_
 refine then_n ?_
 refine swp_seq ?_
 refine swp_region ?_
 refine s_pu (pu_assign rfl) ?_
 refine swl_sub _ (.cons (t := 0) rfl (.cons (t := 3) rfl (.cons (t := 4) rfl .nil))) ?_
 refine swl_nil ?_
 refine then_n ?_
 refine swp_seq ?_
 refine swp_seq ?_
 refine swp_region ?_
 refine s_pu (pu_move rfl) ?_
 refine s_pu (pu_len rfl) ?_
 refine s_pu (pu_move rfl) ?_
 refine swl_sub _ (.cons (t := 3) rfl (.cons (t := 4) rfl (.cons (t := 8) rfl (.cons (t := 9) rfl (.cons (t := 10) rfl .nil))))) ?_
 refine swl_nil ?_
 refine then_n ?_
 refine swp_block ?_
 refine swp_loop (ι := Nat) (fun i env L => Sub env [(3, .pointer (some ⟨b3, 0, none⟩)), (4, .int .u32 ((if i = 0 then (~~~ 0#32) else crcW (~~~ 0#32) s.data.toList).toNat : Nat)), (8, .slice (some ⟨g, 0, none⟩) 1 cap), (9, .int .i64 1), (10, .int .i64 (i : Nat))] ∧ L = [blk b3 153 tabC, blk g 9 [.string s]] ∧ i ≤ 1) (fun i => 1 - i) 0 ⟨⟨rfl, rfl, rfl, rfl, rfl, trivial⟩, rfl, Nat.zero_le _⟩ ?_
 rintro i env L ⟨hsub, rfl, hi⟩
 refine swp_sub _ hsub ?_
 clear hsub env
 refine swp_seq ?_
 refine swp_region ?_
 refine s_pu (pu_lss rfl rfl) ?_
 refine swl_sub _ (.cons (t := 3) rfl (.cons (t := 4) rfl (.cons (t := 8) rfl (.cons (t := 9) rfl (.cons (t := 10) rfl (.cons (t := 11) rfl .nil)))))) ?_
 refine swl_nil ?_
 refine then_n ?_
 refine swp_seq ?_
 refine swp_cond (b := _) rfl (fun h11 => ?_) (fun h11 => ?_)
 ·skip
  have h11' : i < 1 := by have := of_decide_eq_true h11; omega
  obtain rfl : i = 0 := by omega
  refine swp_skip ?_
  refine then_n ?_
  refine swp_seq ?_
  refine swp_block ?_
  refine swp_seq ?_
  refine swp_region ?_
  refine s_pu (pu_indexAddr 0 rfl rfl (by omega) (by omega) (by decide)) ?_
  refine s_rd (rd_load rfl rfl) ?_
  refine s_pu (pu_assign rfl) ?_
  refine swl_sub _ (.cons (t := 3) rfl (.cons (t := 4) rfl (.cons (t := 6) rfl (.cons (t := 8) rfl (.cons (t := 9) rfl (.cons (t := 10) rfl .nil)))))) ?_
  refine swl_nil ?_
  refine then_n ?_
  refine swp_region ?_
  refine s_pu (pu_move rfl) ?_
  refine s_pu (pu_move rfl) ?_
  refine s_ef (ef_fn (take_spec (~~~ 0#32) b3 s hs) rfl rfl (by repeat (first | exact Split.nil | (apply Split.cons; (repeat (first | with_reducible exact Take.here | apply Take.there)))))) ?_
  rintro v16 L1 ⟨rfl, rfl⟩
  refine swl_app ?_
  refine s_pu (pu_assign rfl) ?_
  refine swl_sub _ (.cons (t := 3) rfl (.cons (t := 4) rfl (.cons (t := 8) rfl (.cons (t := 9) rfl (.cons (t := 10) rfl .nil))))) ?_
  refine swl_nil ?_
  refine block_n ?_
  refine then_n ?_
  refine swp_region ?_
  refine s_pu (pu_add_as ((1 : Nat) : Int) rfl rfl (by omega) (by omega) (by omega)) ?_
  refine s_pu (pu_move rfl) ?_
  refine swl_sub _ (.cons (t := 3) rfl (.cons (t := 4) rfl (.cons (t := 8) rfl (.cons (t := 9) rfl (.cons (t := 10) rfl .nil))))) ?_
  refine swl_nil ?_
  exact then_n ⟨1, ⟨⟨rfl, rfl, rfl, rfl, rfl, trivial⟩, rfl, Nat.le_refl _⟩, by decide⟩
 ·skip
  have h11' := of_decide_eq_false h11
  obtain rfl : i = 1 := by omega
  refine swp_exit ?_
  refine then_x ?_
  refine then_x ?_
  refine block_hit rfl ?_
  refine then_n ?_
  refine swp_seq ?_
  refine swp_region ?_
  refine s_pu (pu_move rfl) ?_
  refine s_pu (pu_not_w32 rfl) ?_
  refine s_pu (pu_assign rfl) ?_
  refine swl_sub _ (.cons (t := 2) rfl .nil) ?_
  refine swl_nil ?_
  refine then_n ?_
  refine swp_ret ?_
  exact done_ret [] (.tmp rfl .nil) ⟨rfl, rfl⟩ (by repeat (first | exact Split.nil | (apply Split.cons; (repeat (first | with_reducible exact Take.here | apply Take.there)))))
end SX
namespace SX
open Go Go.Proofs
theorem bcs_app (a b : List UInt8) : bcs (a ++ b) = bcs a ++ bcs b := List.flatMap_append
set_option maxHeartbeats 1000000 in
theorem fixed_spec (p : Nat) (v : Value) (x : BitVec 64) (n : Nat) (bs : List UInt8) (hn : n ≤ 8) (hb : bs.length ≤ 1048576) :
  Spec Tryd.prog 61 [.pointer (some ⟨p, 0, none⟩), .int .u64 (x.toNat : Nat), .int .i64 (n : Nat)] [blk p 151 [v], own 5 1 v bs.length (bcs bs)] (fun r L => r = .tuple #[] ∧ ∃ v', L = [blk p 151 [v'], own 5 1 v' (bs ++ bigW x n).length (bcs (bs ++ bigW x n))]) := by
 refine Spec.of 28 Tryd.func61 rfl rfl rfl ?_
 refine swp_seq ?_
 refine swp_seq ?_
 refine swp_region ?_
 refine s_pu (pu_move rfl) ?_
 refine s_pu (pu_ptr_eq_nil rfl rfl) ?_
 refine swl_sub _ (.cons (t := 0) rfl (.cons (t := 1) rfl (.cons (t := 2) rfl (.cons (t := 7) rfl .nil)))) ?_
 refine swl_nil ?_
 refine then_n ?_
 refine swp_cond (b := _) rfl (fun h7 => by cases h7) (fun h7 => ?_)
 refine swp_skip ?_
 refine then_n ?_
 refine swp_seq ?_
 refine swp_region ?_
 refine s_pu (pu_move rfl) ?_
 refine s_pu (pu_sub_as ((n : Int) - 1) rfl rfl (by omega) (by omega) (by omega)) ?_
 refine s_pu (pu_assign rfl) ?_
 refine swl_sub _ (.cons (t := 0) rfl (.cons (t := 1) rfl (.cons (t := 2) rfl .nil))) ?_
 refine swl_nil ?_
 refine then_n ?_
 refine swp_block ?_
 refine swp_loop (ι := Nat × Value) (fun k env L => Sub env [(0, .pointer (some ⟨p, 0, none⟩)), (1, .int .u64 (x.toNat : Nat)), (2, .int .i64 ((k.1 : Int) - 1))] ∧ Ent L [blk p 151 [k.2], own 5 1 k.2 (bs ++ (bigW x n).take (n - k.1)).length (bcs (bs ++ (bigW x n).take (n - k.1)))] ∧ k.1 ≤ n) (fun k => k.1) (n, v) ⟨⟨rfl, rfl, rfl, trivial⟩, by show Ent _ [blk p 151 [v], own 5 1 v (bs ++ (bigW x n).take (n - n)).length (bcs (bs ++ (bigW x n).take (n - n)))]; rw [Nat.sub_self, List.take_zero, List.append_nil]; exact Ent.refl _, Nat.le_refl _⟩ ?_
 rintro ⟨r, v1⟩ env L ⟨hsub, hE, hr⟩
 simp only [] at hsub hE hr
 refine swp_sub _ hsub ?_
 refine swp_ent hE ?_
 clear hsub hE env L
 dsimp only
 have hlen : (bs ++ (bigW x n).take (n - r)).length = bs.length + (n - r) := by rw [List.length_append, List.length_take, bigW_len]; omega
 refine swp_seq ?_
 refine swp_seq ?_
 refine swp_region ?_
 refine s_pu (pu_move rfl) ?_
 refine s_pu (pu_geq rfl rfl) ?_
 refine swl_sub _ (.cons (t := 0) rfl (.cons (t := 1) rfl (.cons (t := 2) rfl (.cons (t := 11) rfl .nil)))) ?_
 refine swl_nil ?_
 refine then_n ?_
 refine swp_cond (b := _) rfl (fun h11 => ?_) (fun h11 => ?_)
 ·skip
  have h11' : 1 ≤ r := by have := of_decide_eq_true h11; omega
  refine swp_skip ?_
  refine then_n ?_
  refine swp_seq ?_
  refine swp_block ?_
  refine swp_draw [4] _ [] (by simp only [List.append_nil]; exact Ent.refl _) (by kernel_rfl) ?_
  refine d_pu 0 rfl (pu_move rfl) (by kernel_rfl) (by kernel_rfl) (by kernel_rfl) ?_
  refine d_pu 1 rfl (pu_move rfl) (by kernel_rfl) (by kernel_rfl) (by kernel_rfl) ?_
  first | refine d_pu 2 rfl (pu_nilCheck rfl) (by kernel_rfl) (by kernel_rfl) (by kernel_rfl) ?_ | refine d_pu 2 rfl (pu_nilCheck_fn rfl) (by kernel_rfl) (by kernel_rfl) (by kernel_rfl) ?_ | refine d_pu 2 rfl (pu_nilCheck_if rfl) (by kernel_rfl) (by kernel_rfl) (by kernel_rfl) ?_
  first | refine d_pu 3 rfl (pu_fieldAddr0 rfl) (by kernel_rfl) (by kernel_rfl) (by kernel_rfl) ?_ | refine d_pu 3 rfl (pu_fieldAddr rfl) (by kernel_rfl) (by kernel_rfl) (by kernel_rfl) ?_
  refine d_rd 4 rfl (rd_load rfl rfl) rfl (by kernel_rfl) (by kernel_rfl) (by kernel_rfl) ?_
  refine d_pu 5 rfl (pu_move rfl) (by kernel_rfl) (by kernel_rfl) (by kernel_rfl) ?_
  refine d_pu 6 rfl (pu_move rfl) (by kernel_rfl) (by kernel_rfl) (by kernel_rfl) ?_
  refine d_pu 7 rfl (pu_mul_as ((8 * (r - 1) : Nat) : Int) rfl rfl (by omega) (by omega) (by omega)) (by kernel_rfl) (by kernel_rfl) (by kernel_rfl) ?_
  refine d_pu 8 rfl (pu_shr_w (8 * (r - 1)) rfl rfl (by omega)) (by kernel_rfl) (by kernel_rfl) (by kernel_rfl) ?_
  refine d_pu 9 rfl (pu_low8 (x >>> (8 * (r - 1))) (by decide) rfl rfl) (by kernel_rfl) (by kernel_rfl) (by kernel_rfl) ?_
  refine d_eft 10 rfl (by kernel_rfl) (ef_bldS (qs := [(0, _)]) rfl rfl rfl) ?_
  intro b24
  refine ⟨_, Split.ent (by repeat (first | exact Split.nil | (apply Split.cons; (repeat (first | with_reducible exact Take.here | apply Take.there))))), ?_⟩
  first | refine d_fint 11 rfl (by kernel_rfl) (by kernel_rfl) (ef_append_lit (m := 1) rfl rfl (by repeat (first | exact Split.nil | (apply Split.cons; (repeat (first | with_reducible exact Take.here | apply Take.there))))) (by rw [hlen]; simp only [maxLen]; omega) (by rw [hlen]; omega)) ?_ | refine d_finf 11 rfl (by kernel_rfl) (by kernel_rfl) (ef_append_lit (m := 1) rfl rfl (by repeat (first | exact Split.nil | (apply Split.cons; (repeat (first | with_reducible exact Take.here | apply Take.there))))) (by rw [hlen]; simp only [maxLen]; omega) (by rw [hlen]; omega)) ?_
  rintro v25 hv25
  obtain ⟨g25, c25, rfl⟩ := hv25 (by decide)
  first | refine d_pu 12 rfl (pu_nilCheck rfl) (by kernel_rfl) (by kernel_rfl) (by kernel_rfl) ?_ | refine d_pu 12 rfl (pu_nilCheck_fn rfl) (by kernel_rfl) (by kernel_rfl) (by kernel_rfl) ?_ | refine d_pu 12 rfl (pu_nilCheck_if rfl) (by kernel_rfl) (by kernel_rfl) (by kernel_rfl) ?_
  first | refine d_pu 13 rfl (pu_fieldAddr0 rfl) (by kernel_rfl) (by kernel_rfl) (by kernel_rfl) ?_ | refine d_pu 13 rfl (pu_fieldAddr rfl) (by kernel_rfl) (by kernel_rfl) (by kernel_rfl) ?_
  first | refine d_fin0t 14 rfl (by kernel_rfl) (by kernel_rfl) (ef_store rfl rfl rfl) ?_ | refine d_fin0f 14 rfl (by kernel_rfl) (by kernel_rfl) (ef_store rfl rfl rfl) ?_
  refine d_sub _ (.cons (t := 0) rfl (.cons (t := 1) rfl (.cons (t := 2) rfl .nil))) ?_
  first | refine d_nilt (by kernel_rfl) ?_ | refine d_nilf (by kernel_rfl) ?_
  refine block_n ?_
  refine then_n ?_
  refine swp_region ?_
  refine s_pu (pu_move rfl) ?_
  refine s_pu (pu_sub_as (((r - 1 : Nat) : Int) - 1) rfl rfl (by omega) (by omega) (by omega)) ?_
  refine s_pu (pu_assign rfl) ?_
  refine swl_sub _ (.cons (t := 0) rfl (.cons (t := 1) rfl (.cons (t := 2) rfl .nil))) ?_
  refine swl_nil ?_
  have hge := bigW_get x (n := n) (i := n - r) (by omega)
  have e1 : n - (r - 1) = n - r + 1 := by omega
  have e2 : n - 1 - (n - r) = r - 1 := by omega
  rw [e2] at hge
  have e3 : bs ++ (bigW x n).take (n - (r - 1)) = (bs ++ (bigW x n).take (n - r)) ++ [UInt8.ofBitVec ((x >>> (8 * (r - 1))).setWidth 8)] := by
   rw [e1, List.take_add_one, hge, List.append_assoc]; rfl
  refine then_n ⟨(r - 1, (.slice (some ⟨g25, 0, none⟩) ((bs ++ (bigW x n).take (n - r)).length + 1) c25)), ⟨⟨rfl, rfl, rfl, trivial⟩, ?_, by show r - 1 ≤ n; omega⟩, by show r - 1 < r; omega⟩
  show Ent _ [blk p 151 [(.slice (some ⟨g25, 0, none⟩) ((bs ++ (bigW x n).take (n - r)).length + 1) c25)], own 5 1 (.slice (some ⟨g25, 0, none⟩) ((bs ++ (bigW x n).take (n - r)).length + 1) c25) (bs ++ (bigW x n).take (n - (r - 1))).length (bcs (bs ++ (bigW x n).take (n - (r - 1))))]
  have e4 : ((bs ++ (bigW x n).take (n - r)) ++ [UInt8.ofBitVec ((x >>> (8 * (r - 1))).setWidth 8)]).length = (bs ++ (bigW x n).take (n - r)).length + 1 := by generalize bs ++ (bigW x n).take (n - r) = q; rw [List.length_append]; rfl
  have e5 : bcs ((bs ++ (bigW x n).take (n - r)) ++ [UInt8.ofBitVec ((x >>> (8 * (r - 1))).setWidth 8)]) = bcs (bs ++ (bigW x n).take (n - r)) ++ [.int .u8 (((x >>> (8 * (r - 1))).setWidth 8).toNat : Nat)] := by generalize bs ++ (bigW x n).take (n - r) = q; rw [bcs_app]; rfl
  rw [e3, e4, e5]
  exact Split.ent' (by repeat (first | exact Split.nil | (apply Split.cons; (repeat (first | with_reducible exact Take.here | apply Take.there)))))
 ·skip
  have h11' := of_decide_eq_false h11
  obtain rfl : r = 0 := by omega
  rw [Nat.sub_zero, List.take_of_length_le (by rw [bigW_len]; exact Nat.le_refl _)]
  refine swp_exit ?_
  refine then_x ?_
  refine then_x ?_
  refine block_hit rfl ?_
  exact done_ret [blk p 151 [v1], own 5 1 v1 (bs ++ bigW x n).length (bcs (bs ++ bigW x n))] .nil ⟨rfl, v1, rfl⟩ (by repeat (first | exact Split.nil | (apply Split.cons; (repeat (first | with_reducible exact Take.here | apply Take.there)))))
theorem wide64 (b : W32) : ((b.toNat : Nat) : Int) = ((b.setWidth 64).toNat : Int) := by
  rw [BitVec.toNat_setWidth, Nat.mod_eq_of_lt (by have := b.isLt; omega)]
theorem u32_spec (p : Nat) (v : Value) (b : W32) (bs : List UInt8) (hb : bs.length ≤ 1048576) :
  Spec Tryd.prog 45 [.pointer (some ⟨p, 0, none⟩), .int .u32 (b.toNat : Nat)] [blk p 151 [v], own 5 1 v bs.length (bcs bs)] (fun r L => r = .tuple #[] ∧ ∃ v', L = [blk p 151 [v'], own 5 1 v' (bs ++ four b).length (bcs (bs ++ four b))]) := by
 refine Spec.of 8 Tryd.func45 rfl rfl rfl ?_
 refine swp_region ?_
 refine s_pu (pu_move rfl) ?_
 refine s_pu (pu_move rfl) ?_
 refine s_pu (pu_conv_as (k' := .u64) (n := ((b.setWidth 64).toNat : Int)) (by rw [← wide64]; rfl) (wrap_word _)) ?_
 refine s_ef (ef_fn (fixed_spec p v (b.setWidth 64) 4 bs (by decide) hb) rfl rfl (by repeat (first | exact Split.nil | (apply Split.cons; (repeat (first | with_reducible exact Take.here | apply Take.there)))))) ?_
 rintro v7 L1 ⟨rfl, v', rfl⟩
 refine swl_app ?_
 refine swl_sub _ .nil ?_
 refine swl_nil ?_
 exact done_ret [blk p 151 [v'], own 5 1 v' (bs ++ four b).length (bcs (bs ++ four b))] .nil ⟨rfl, v', rfl⟩ (by repeat (first | exact Split.nil | (apply Split.cons; (repeat (first | with_reducible exact Take.here | apply Take.there)))))
theorem newW_spec : Spec Tryd.prog 44 [] [] (fun r L => ∃ p, r = .pointer (some ⟨p, 0, none⟩) ∧ L = [blk p 151 [.slice none 0 0]]) := by
 refine Spec.of 3 Tryd.func44 rfl rfl rfl ?_
 refine swp_seq ?_
 refine swp_region ?_
 refine s_pu (pu_assign rfl) ?_
 refine swl_sub _ .nil ?_
 refine swl_nil ?_
 refine then_n ?_
 refine swp_seq ?_
 refine swp_region ?_
 refine s_pu (pu_bld (qs := []) rfl) ?_
 refine s_ef (ef_box rfl rfl) ?_
 intro b2
 refine s_pu (pu_assign rfl) ?_
 refine swl_sub _ (.cons (t := 0) rfl .nil) ?_
 refine swl_nil ?_
 refine then_n ?_
 refine swp_ret ?_
 exact done_ret [blk b2 151 [.slice none 0 0]] (.tmp rfl .nil) ⟨b2, rfl, rfl⟩ (by repeat (first | exact Split.nil | (apply Split.cons; (repeat (first | with_reducible exact Take.here | apply Take.there)))))
theorem bytes_spec (p : Nat) (v : Value) (bs : List UInt8) (h0 : bs ≠ []) : Spec Tryd.prog 47 [.pointer (some ⟨p, 0, none⟩)] [own 5 1 v bs.length (bcs bs), blk p 151 [v]] (fun r L => r = .string ⟨bs.toArray⟩ ∧ L = []) := by
 refine Spec.own_cases (fun hv l0 x0 => ?_) (fun g cap ex hv o1 o2 o3 o4 => ?_)
 ·exact absurd (List.eq_nil_of_length_eq_zero l0) h0
 subst hv
 refine Spec.of 10 Tryd.func47 rfl rfl rfl ?_
 refine swp_seq ?_
 refine swp_region ?_
 refine s_pu (pu_assign rfl) ?_
 refine swl_sub _ (.cons (t := 0) rfl .nil) ?_
 refine swl_nil ?_
 refine then_n ?_
 refine swp_seq ?_
 refine swp_seq ?_
 refine swp_region ?_
 refine s_pu (pu_move rfl) ?_
 refine s_pu (pu_ptr_eq_nil rfl rfl) ?_
 refine swl_sub _ (.cons (t := 0) rfl (.cons (t := 4) rfl .nil)) ?_
 refine swl_nil ?_
 refine then_n ?_
 refine swp_cond (b := _) rfl (fun h4 => by cases h4) (fun h4 => ?_)
 refine swp_skip ?_
 refine then_n ?_
 refine swp_seq ?_
 refine swp_region ?_
 refine s_pu (pu_move rfl) ?_
 first | refine s_pu (pu_nilCheck rfl) ?_ | refine s_pu (pu_nilCheck_fn rfl) ?_ | refine s_pu (pu_nilCheck_if rfl) ?_
 first | refine s_pu (pu_fieldAddr0 rfl) ?_ | refine s_pu (pu_fieldAddr rfl) ?_
 refine s_rd (rd_load rfl rfl) ?_
 refine s_rd (rd_bytes bs rfl (by exact .here)) ?_
 refine s_pu (pu_assign rfl) ?_
 refine swl_sub _ (.cons (t := 2) rfl .nil) ?_
 refine swl_nil ?_
 refine then_n ?_
 refine swp_ret ?_
 exact done_ret [] (.tmp rfl .nil) ⟨rfl, rfl⟩ (by repeat (first | exact Split.nil | (apply Split.cons; (repeat (first | with_reducible exact Take.here | apply Take.there)))))
theorem four_ne (b : W32) (l : List UInt8) : l ++ four b ≠ [] := by
  intro e
  have := congrArg List.length e
  rw [List.length_append, four_len] at this
  simp at this
set_option maxHeartbeats 1000000 in
theorem mark_spec (b o t : W32) : Spec Tryd.prog 29 [.int .u32 (b.toNat : Nat), .int .u32 (o.toNat : Nat), .int .u32 (t.toNat : Nat)] [] (fun r L => r = .int .u32 ((markW b o t).toNat : Nat) ∧ L = []) := by
 refine Spec.of 23 Tryd.func29 rfl rfl rfl ?_
 refine swp_seq ?_
 refine swp_region ?_
 refine s_pu (pu_assign rfl) ?_
 refine swl_sub _ (.cons (t := 0) rfl (.cons (t := 1) rfl (.cons (t := 2) rfl .nil))) ?_
 refine swl_nil ?_
 refine then_n ?_
 refine swp_seq ?_
 refine swp_region ?_
 refine s_ef (ef_fn newW_spec rfl rfl (by repeat (first | exact Split.nil | (apply Split.cons; (repeat (first | with_reducible exact Take.here | apply Take.there)))))) ?_
 rintro v8 L1 ⟨p, rfl, rfl⟩
 refine swl_app ?_
 refine s_pu (pu_assign rfl) ?_
 refine swl_sub _ (.cons (t := 0) rfl (.cons (t := 1) rfl (.cons (t := 2) rfl (.cons (t := 7) rfl .nil)))) ?_
 refine swl_nil ?_
 refine then_n ?_
 refine swp_seq ?_
 refine swp_ent (show Ent _ (own 5 1 (.slice none 0 0) ([] : List UInt8).length (bcs []) :: _) from own_nil_ent) ?_
 refine swp_region ?_
 refine s_pu (pu_move rfl) ?_
 refine s_pu (pu_move rfl) ?_
 refine s_ef (ef_fn (u32_spec p (.slice none 0 0) b [] (by decide)) rfl rfl (by repeat (first | exact Split.nil | (apply Split.cons; (repeat (first | with_reducible exact Take.here | apply Take.there)))))) ?_
 rintro v11 L1 ⟨rfl, w1, rfl⟩
 refine swl_app ?_
 refine swl_sub _ (.cons (t := 1) rfl (.cons (t := 2) rfl (.cons (t := 7) rfl .nil))) ?_
 refine swl_nil ?_
 refine then_n ?_
 refine swp_seq ?_
 refine swp_region ?_
 refine s_pu (pu_move rfl) ?_
 refine s_pu (pu_move rfl) ?_
 refine s_ef (ef_fn (u32_spec p w1 o ([] ++ four b) (by rw [List.nil_append, four_len]; decide)) rfl rfl (by repeat (first | exact Split.nil | (apply Split.cons; (repeat (first | with_reducible exact Take.here | apply Take.there)))))) ?_
 rintro v14 L1 ⟨rfl, w2, rfl⟩
 refine swl_app ?_
 refine swl_sub _ (.cons (t := 2) rfl (.cons (t := 7) rfl .nil)) ?_
 refine swl_nil ?_
 refine then_n ?_
 refine swp_seq ?_
 refine swp_region ?_
 refine s_pu (pu_move rfl) ?_
 refine s_pu (pu_move rfl) ?_
 refine s_ef (ef_fn (u32_spec p w2 t ([] ++ four b ++ four o) (by rw [List.nil_append, List.length_append, four_len, four_len]; decide)) rfl rfl (by repeat (first | exact Split.nil | (apply Split.cons; (repeat (first | with_reducible exact Take.here | apply Take.there)))))) ?_
 rintro v17 L1 ⟨rfl, w3, rfl⟩
 refine swl_app ?_
 refine swl_sub _ (.cons (t := 7) rfl .nil) ?_
 refine swl_nil ?_
 refine then_n ?_
 refine swp_seq ?_
 refine swp_region ?_
 refine s_pu (pu_move rfl) ?_
 refine s_ef (ef_fn (bytes_spec p w3 ([] ++ four b ++ four o ++ four t) (four_ne _ _)) rfl rfl (by repeat (first | exact Split.nil | (apply Split.cons; (repeat (first | with_reducible exact Take.here | apply Take.there)))))) ?_
 rintro v19 L1 ⟨rfl, rfl⟩
 refine swl_app ?_
 refine s_ef (ef_bldS (qs := [(0, _)]) rfl rfl rfl) ?_
 intro b20
 refine s_ef (ef_fn (sum_spec b20 1 ⟨([] ++ four b ++ four o ++ four t).toArray⟩ (by show ([] ++ four b ++ four o ++ four t).toArray.size ≤ _; rw [List.size_toArray, List.nil_append, List.length_append, List.length_append, four_len, four_len, four_len]; decide)) rfl rfl (by repeat (first | exact Split.nil | (apply Split.cons; (repeat (first | with_reducible exact Take.here | apply Take.there)))))) ?_
 rintro v21 L1 ⟨rfl, rfl⟩
 refine swl_app ?_
 refine s_pu (pu_or_w32 (b := 2147483648#32) rfl rfl) ?_
 refine s_pu (pu_assign rfl) ?_
 refine swl_sub _ (.cons (t := 6) rfl .nil) ?_
 refine swl_nil ?_
 refine then_n ?_
 refine swp_ret ?_
 exact done_ret [] (.tmp rfl .nil) ⟨rfl, rfl⟩ (by repeat (first | exact Split.nil | (apply Split.cons; (repeat (first | with_reducible exact Take.here | apply Take.there)))))
end SX
namespace Go.Proofs
open Go.Shelf
def Tryd.lays106_ren : Go.Shelf.Ren := ⟨fun | 106 => 60 | 213 => 83 | 265 => 94 | n => n, fun | 9 => 9 | 3 => 3 | n => n, fun | n => n⟩
theorem Tryd.lays106 : Go.Proofs.Lays.n106 Tryd.prog Tryd.lays106_ren := {
  mixed := by kernel_rfl
  f106 := Tryd.func60.trans (congrArg some (by kernel_rfl))
  f213 := Tryd.func83.trans (congrArg some (by kernel_rfl))
  f265 := Tryd.func94.trans (congrArg some (by kernel_rfl))
  t3 := Tryd.underlying3
  a3 := Tryd.isAgg3
  z3 := Tryd.sizeOf3
  v3 := Tryd.zeroValue3
  t9 := Tryd.underlying9
  a9 := Tryd.isAgg9
  z9 := Tryd.sizeOf9
  v9 := Tryd.zeroValue9 }
open Go.RowKit in
/-- strings.Compare: "Compare returns an integer comparing two strings lexicographically. The result will be 0 if a == b, -1 if a < b, and +1 if a > b.": IT RETURNS 'Lib.compareBytes a b'; the world is as it was. (LAID: no walk: one application.) -/
theorem Tryd.strings_Compare (a b : ByteArray) (w : World) :
    Calls Tryd.prog 60 #[.string a, .string b] w fun e w' => e = .returned (.int .i64 (Lib.compareBytes a.data.toList b.data.toList)) ∧ w' = w := Any.strings_Compare Tryd.lays106 a b w
def Tryd.lays190_ren : Go.Shelf.Ren := ⟨fun | 190 => 40 | 125 => 59 | 258 => 58 | 128 => 81 | 129 => 82 | 302 => 72 | 303 => 73 | 304 => 74 | 305 => 75 | 306 => 76 | 307 => 77 | 308 => 78 | 309 => 79 | 310 => 80 | 333 => 88 | 329 => 89 | 330 => 90 | 334 => 91 | 335 => 92 | 336 => 93 | 344 => 95 | n => n, fun | 31 => 91 | 9 => 9 | 3 => 3 | 46 => 148 | 0 => 0 | 51 => 24 | 53 => 136 | 4 => 4 | 183 => 169 | 182 => 168 | 131 => 121 | 5 => 5 | 218 => 179 | 222 => 183 | 228 => 187 | 229 => 188 | n => n, fun | n => n⟩
theorem Tryd.lays190 : Go.Proofs.Lays.n190 Tryd.prog Tryd.lays190_ren := {
  mixed := by kernel_rfl
  f125 := Tryd.func59.trans (congrArg some (by kernel_rfl))
  f128 := Tryd.func81.trans (congrArg some (by kernel_rfl))
  f129 := Tryd.func82.trans (congrArg some (by kernel_rfl))
  f190 := Tryd.func40.trans (congrArg some (by kernel_rfl))
  f258 := Tryd.func58.trans (congrArg some (by kernel_rfl))
  f302 := Tryd.func72.trans (congrArg some (by kernel_rfl))
  f303 := Tryd.func73.trans (congrArg some (by kernel_rfl))
  f304 := Tryd.func74.trans (congrArg some (by kernel_rfl))
  f305 := Tryd.func75.trans (congrArg some (by kernel_rfl))
  f306 := Tryd.func76.trans (congrArg some (by kernel_rfl))
  f307 := Tryd.func77.trans (congrArg some (by kernel_rfl))
  f308 := Tryd.func78.trans (congrArg some (by kernel_rfl))
  f309 := Tryd.func79.trans (congrArg some (by kernel_rfl))
  f310 := Tryd.func80.trans (congrArg some (by kernel_rfl))
  f329 := Tryd.func89.trans (congrArg some (by kernel_rfl))
  f330 := Tryd.func90.trans (congrArg some (by kernel_rfl))
  f333 := Tryd.func88.trans (congrArg some (by kernel_rfl))
  f334 := Tryd.func91.trans (congrArg some (by kernel_rfl))
  f335 := Tryd.func92.trans (congrArg some (by kernel_rfl))
  f336 := Tryd.func93.trans (congrArg some (by kernel_rfl))
  f344 := Tryd.func95.trans (congrArg some (by kernel_rfl))
  t0 := Tryd.underlying0
  a0 := Tryd.isAgg0
  z0 := Tryd.sizeOf0
  v0 := Tryd.zeroValue0
  t3 := Tryd.underlying3
  a3 := Tryd.isAgg3
  z3 := Tryd.sizeOf3
  v3 := Tryd.zeroValue3
  t4 := Tryd.underlying4
  a4 := Tryd.isAgg4
  z4 := Tryd.sizeOf4
  v4 := Tryd.zeroValue4
  t5 := Tryd.underlying5
  a5 := Tryd.isAgg5
  z5 := Tryd.sizeOf5
  v5 := Tryd.zeroValue5
  t9 := Tryd.underlying9
  a9 := Tryd.isAgg9
  z9 := Tryd.sizeOf9
  v9 := Tryd.zeroValue9
  t31 := Tryd.underlying91
  a31 := Tryd.isAgg91
  z31 := Tryd.sizeOf91
  v31 := Tryd.zeroValue91
  t46 := Tryd.underlying148
  a46 := Tryd.isAgg148
  z46 := Tryd.sizeOf148
  v46 := Tryd.zeroValue148
  t51 := Tryd.underlying24
  a51 := Tryd.isAgg24
  z51 := Tryd.sizeOf24
  v51 := Tryd.zeroValue24
  t53 := Tryd.underlying136
  a53 := Tryd.isAgg136
  z53 := Tryd.sizeOf136
  v53 := Tryd.zeroValue136
  t131 := Tryd.underlying121
  a131 := Tryd.isAgg121
  z131 := Tryd.sizeOf121
  v131 := Tryd.zeroValue121
  t182 := Tryd.underlying168
  a182 := Tryd.isAgg168
  z182 := Tryd.sizeOf168
  v182 := Tryd.zeroValue168
  t183 := Tryd.underlying169
  a183 := Tryd.isAgg169
  z183 := Tryd.sizeOf169
  v183 := Tryd.zeroValue169
  t218 := Tryd.underlying179
  a218 := Tryd.isAgg179
  z218 := Tryd.sizeOf179
  v218 := Tryd.zeroValue179
  t222 := Tryd.underlying183
  a222 := Tryd.isAgg183
  z222 := Tryd.sizeOf183
  v222 := Tryd.zeroValue183
  t228 := Tryd.underlying187
  a228 := Tryd.isAgg187
  z228 := Tryd.sizeOf187
  v228 := Tryd.zeroValue187
  t229 := Tryd.underlying188
  a229 := Tryd.isAgg188
  z229 := Tryd.sizeOf188
  v229 := Tryd.zeroValue188 }
open Go.Sort Go.RowKit in
theorem Tryd.slices_Sort_string (blk off cap : Nat) (ss : List (List UInt8)) (w : World) (hH : Holds encStr w blk off ss.toArray) (hblk : blk < w.heap.size) (hsz : ss.length < 4611686018427387904) :
    Calls Tryd.prog 40 #[.slice (some ⟨blk, off, none⟩) ss.length cap] w fun e w' =>
      e = .returned (.tuple #[]) ∧ ∃ n os, w' = grow (putRow encStr (Sort.ahead w n) blk off (ss.mergeSort fun x y => decide (x ≤ y)).toArray) os := Any.slices_Sort_string Tryd.lays190 blk off cap ss w hH hblk hsz
def Tryd.lays194_ren : Go.Shelf.Ren := ⟨fun | 194 => 41 | n => n, fun | 31 => 91 | 9 => 9 | 3 => 3 | 4 => 4 | 0 => 0 | n => n, fun | n => n⟩
theorem Tryd.lays194 : Go.Proofs.Lays.n194 Tryd.prog Tryd.lays194_ren := {
  mixed := by kernel_rfl
  f194 := Tryd.func41.trans (congrArg some (by kernel_rfl))
  t0 := Tryd.underlying0
  a0 := Tryd.isAgg0
  z0 := Tryd.sizeOf0
  v0 := Tryd.zeroValue0
  t3 := Tryd.underlying3
  a3 := Tryd.isAgg3
  z3 := Tryd.sizeOf3
  v3 := Tryd.zeroValue3
  t4 := Tryd.underlying4
  a4 := Tryd.isAgg4
  z4 := Tryd.sizeOf4
  v4 := Tryd.zeroValue4
  t9 := Tryd.underlying9
  a9 := Tryd.isAgg9
  z9 := Tryd.sizeOf9
  v9 := Tryd.zeroValue9
  t31 := Tryd.underlying91
  a31 := Tryd.isAgg91
  z31 := Tryd.sizeOf91
  v31 := Tryd.zeroValue91 }
open Go.RowKit Go.Lib Go.Sort in
/-- slices.Compact at []string: "Compact replaces consecutive runs of equal elements with a single copy. This is like the uniq command found on Unix. Compact modifies the contents of the slice s and returns the modified slice, which may have a smaller length. Compact zeroes the elements between the new length and the original length. The result preserves the nilness of s.": IT RETURNS THE SLICE CUT TO 'Lib.compact zs'; ITS CELLS HOLD 'Lib.compact zs', THEN ZERO VALUES up to the old length; all else is as it was, but for the count of draws. IN THE WORDS OF slices.Sort's CONTRACT ('Holds', 'putRow'): so the everyday 'slices.Sort(xs); xs = slices.Compact(xs)' goes from the one contract to the other. It asks 'zs.length ≤ cap' (every slice's: the reslicing 's[:k]' looks at it). Length 0, nil: '.._empty'. (LAID: no walk: one application.) -/
theorem Tryd.slices_Compact_string (blk off cap : Nat) (zs : List (List UInt8)) (w : World) (hH : Holds encStr w blk off zs.toArray) (hsz : zs.length ≤ 9223372036854775807) (hcap : zs.length ≤ cap) :
    Calls Tryd.prog 41 #[.slice (some ⟨blk, off, none⟩) zs.length cap] w fun e w' => e = .returned (.slice (some ⟨blk, off, none⟩) (Lib.compact zs).length cap) ∧ ∃ q, w' = putRow encStr (Sort.ahead w q) blk off (Lib.compact zs ++ List.replicate (zs.length - (Lib.compact zs).length) []).toArray := Any.slices_Compact_string Tryd.lays194 blk off cap zs w hH hsz hcap
open Go.RowKit Go.Lib Go.Sort in
/-- The same at a slice of length 0, a nil one too: it comes back as it is. (LAID: no walk: one application.) -/
theorem Tryd.slices_Compact_string_empty (a : Option Addr) (cap : Nat) (w : World) :
    Calls Tryd.prog 41 #[.slice a 0 cap] w fun e w' => e = .returned (.slice a 0 cap) ∧ w' = w := Any.slices_Compact_string_empty Tryd.lays194 a cap w
open Go.RowKit Go.Sort in
/-- .. and plain. (LAID: no walk: one application.) -/
theorem Tryd.slices_Sort_string_none (p : Option Addr) (cap : Nat) (w : World) :
    Calls Tryd.prog 40 #[.slice p 0 cap] w fun e w' => e = .returned (.tuple #[]) ∧ w' = w := Any.slices_Sort_string_none Tryd.lays190 p cap w
end Go.Proofs
namespace SX
open Go Go.Proofs
theorem Spec.ofCalls {f : FuncId} {args : List Value} {v : Value} (h : ∀ w, Calls Tryd.prog f args.toArray w fun e w' => e = .returned v ∧ w' = w) : Spec Tryd.prog f args [] (fun r L => r = v ∧ L = []) := fun _ w hw =>
  (h w).mono fun _ _ ⟨e1, e2⟩ => ⟨v, [], e1, ⟨rfl, rfl⟩, e2 ▸ hw⟩
theorem cmp_spec (a b : ByteArray) : Spec Tryd.prog 60 [.string a, .string b] [] (fun v L => v = .int .i64 (cmpS a b) ∧ L = []) := Spec.ofCalls fun w => Tryd.strings_Compare a b w
theorem bypath_spec (e : En) (p : ByteArray) : Spec Tryd.prog 43 [.agg (enc1 e).toArray, .string p] [] (fun v L => v = .int .i64 (cmpS e.1 p) ∧ L = []) := by
 refine Spec.of 9 Tryd.func43 rfl rfl rfl ?_
 refine swp_seq ?_
 refine swp_region ?_
 refine s_ef (ef_box rfl rfl) ?_
 intro b2
 refine s_pu (pu_assign rfl) ?_
 refine swl_sub _ (.cons (t := 1) rfl (.cons (t := 2) rfl .nil)) ?_
 refine swl_nil ?_
 refine then_n ?_
 refine swp_seq ?_
 refine swp_region ?_
 first | refine s_pu (pu_fieldAddr0 rfl) ?_ | refine s_pu (pu_fieldAddr rfl) ?_
 refine s_rd (rd_load rfl rfl) ?_
 refine s_pu (pu_move rfl) ?_
 refine s_ef (ef_fn (cmp_spec _ _) rfl rfl (by repeat (first | exact Split.nil | (apply Split.cons; (repeat (first | with_reducible exact Take.here | apply Take.there)))))) ?_
 rintro v L1 ⟨rfl, rfl⟩
 refine swl_app ?_
 refine s_pu (pu_assign rfl) ?_
 refine swl_sub _ (.cons (t := 4) rfl .nil) ?_
 refine swl_nil ?_
 refine then_n ?_
 refine swp_ret ?_
 exact done_ret [] (.tmp rfl .nil) ⟨rfl, rfl⟩ (by repeat (first | exact Split.nil | (apply Split.cons; (repeat (first | with_reducible exact Take.here | apply Take.there)))))
theorem pu_half {t u : TypeId} {x y : Operand} {ky : IntKind} {n : Nat} {env : Env} (hx : evalE env x = some (.int .u64 (n : Nat))) (hy : evalE env y = some (.int ky ((1 : Nat) : Int))) (hn : n < 18446744073709551616) : Pu Tryd.prog env (.binOp .shr t x y u) (.int .u64 ((n / 2 : Nat) : Int)) := by
  have hw := wv_ofNat n hn
  have := pu_shr_w (P := Tryd.prog) (t := t) (u := u) (a := BitVec.ofNat 64 n) (n := 1) (by rw [hw]; exact hx) hy (by decide)
  rw [BitVec.toNat_ushiftRight, BitVec.toNat_ofNat, Nat.mod_eq_of_lt (by simpa using hn), Nat.shiftRight_eq_div_pow] at this
  exact this
theorem tree_at {μ : PH} {v : Value} {l : List En} (h : Row μ v 2 l.length (ens l)) {i : Nat} {e : En} (hi : l[i]? = some e) : ∃ b off cap, v = .slice (some ⟨b, off, none⟩) l.length cap ∧ RowAt μ b (off + i * 2) (enc1 e) ∧ CellAt μ b (off + i * 2) (.string e.1) ∧ CellAt μ b (off + i * 2 + 1) (.int .u32 e.2) := by
  have hl := (List.getElem?_eq_some_iff.1 hi).1
  obtain ⟨b, off, cap, hv, _, _, hr⟩ := h.pos (by omega)
  have hr' := hr.elem enc1_len hi
  exact ⟨b, off, cap, hv, hr', by have := hr' 0 _ rfl; rwa [Nat.add_zero] at this, hr' 1 _ rfl⟩
set_option maxHeartbeats 1000000 in
theorem bin_spec (μ : PH) (v : Value) (l : List En) (p : ByteArray) (h : Row μ v 2 l.length (ens l)) (hsz : l.length ≤ 1048576) : Spec Tryd.prog 42 [v, .string p, .func (.func 43) #[] #[]] [ro μ] (fun r L => r = .tuple #[.int .i64 (bsB l p : Nat), .bool (match l[bsB l p]? with | some e => strEq e.1 p | none => false)] ∧ L = [ro μ]) := by
 have hsm := h.small
 refine Spec.of 49 Tryd.func42 rfl rfl rfl ?_
 refine swp_seq ?_
 refine swp_region ?_
 refine s_pu (pu_assign rfl) ?_
 refine s_pu (pu_assign rfl) ?_
 refine swl_sub _ (.cons (t := 0) rfl (.cons (t := 1) rfl (.cons (t := 2) rfl .nil))) ?_
 refine swl_nil ?_
 refine then_n ?_
 refine swp_seq ?_
 refine swp_region ?_
 refine s_pu (pu_move rfl) ?_
 refine s_pu (pu_len_row h rfl) ?_
 refine s_pu (pu_assign rfl) ?_
 refine swl_sub _ (.cons (t := 0) rfl (.cons (t := 1) rfl (.cons (t := 2) rfl (.cons (t := 8) rfl .nil)))) ?_
 refine swl_nil ?_
 refine then_n ?_
 refine swp_seq ?_
 refine swp_region ?_
 refine s_pu (pu_move rfl) ?_
 refine s_pu (pu_assign rfl) ?_
 refine s_pu (pu_assign rfl) ?_
 refine swl_sub _ (.cons (t := 0) rfl (.cons (t := 1) rfl (.cons (t := 2) rfl (.cons (t := 8) rfl (.cons (t := 9) rfl (.cons (t := 10) rfl .nil)))))) ?_
 refine swl_nil ?_
 refine then_n ?_
 refine swp_seq ?_
 refine swp_block ?_
 refine swp_loop (ι := Nat × Nat) (fun k env L => env = [(0, v), (1, .string p), (2, .func (.func 43) #[] #[]), (8, .int .i64 (l.length : Nat)), (9, .int .i64 (k.1 : Nat)), (10, .int .i64 (k.2 : Nat))] ∧ L = [ro μ] ∧ k.1 ≤ k.2 ∧ k.2 ≤ l.length ∧ bsF l p k.1 k.2 = bsB l p) (fun k => k.2 - k.1) (0, l.length) ⟨rfl, rfl, Nat.zero_le _, Nat.le_refl _, rfl⟩ ?_
 rintro ⟨i, j⟩ env L ⟨rfl, rfl, hij, hj, hbs⟩
 simp only [] at hij hj hbs
 dsimp only
 refine swp_seq ?_
 refine swp_seq ?_
 refine swp_region ?_
 refine s_pu (pu_move rfl) ?_
 refine s_pu (pu_move rfl) ?_
 refine s_pu (pu_lss rfl rfl) ?_
 refine swl_sub _ (.cons (t := 0) rfl (.cons (t := 1) rfl (.cons (t := 2) rfl (.cons (t := 8) rfl (.cons (t := 9) rfl (.cons (t := 10) rfl (.cons (t := 17) rfl .nil))))))) ?_
 refine swl_nil ?_
 refine then_n ?_
 refine swp_cond (b := _) rfl (fun h17 => ?_) (fun h17 => ?_)
 ·skip
  have h17' : i < j := by have := of_decide_eq_true h17; omega
  have hm : (i + j) / 2 < l.length := by omega
  obtain ⟨e, he⟩ : ∃ e, l[(i + j) / 2]? = some e := ⟨_, List.getElem?_eq_getElem hm⟩
  obtain ⟨gb, off, cap, hv, hra, hc0, hc1⟩ := tree_at h he
  refine swp_skip ?_
  refine then_n ?_
  refine swp_block ?_
  refine swp_seq ?_
  refine swp_region ?_
  refine s_pu (pu_move rfl) ?_
  refine s_pu (pu_move rfl) ?_
  refine s_pu (pu_add_as ((i + j : Nat) : Int) rfl rfl (by omega) (by omega) (by omega)) ?_
  refine s_pu (pu_conv_u64 rfl (by omega) (by omega)) ?_
  refine s_pu (pu_half rfl rfl (by omega)) ?_
  refine s_pu (pu_conv_i64 rfl (by omega) (by omega)) ?_
  refine s_pu (pu_assign rfl) ?_
  refine swl_sub _ (.cons (t := 0) rfl (.cons (t := 1) rfl (.cons (t := 2) rfl (.cons (t := 8) rfl (.cons (t := 9) rfl (.cons (t := 10) rfl (.cons (t := 11) rfl .nil))))))) ?_
  refine swl_nil ?_
  refine then_n ?_
  refine swp_seq ?_
  refine swp_region ?_
  refine s_pu (pu_move rfl) ?_
  refine s_pu (pu_move rfl) ?_
  refine s_pu (pu_move rfl) ?_
  refine s_pu (pu_indexAddr (off + (i + j) / 2 * 2) (congrArg some hv) rfl (by omega) (by omega) (by rw [Int.toNat_natCast])) ?_
  refine s_rd (rd_roA rfl rfl hra) ?_
  refine s_pu (pu_move rfl) ?_
  refine s_ef (ef_fn (bypath_spec e p) rfl rfl (by repeat (first | exact Split.nil | (apply Split.cons; (repeat (first | with_reducible exact Take.here | apply Take.there)))))) ?_
  rintro v30 L1 ⟨rfl, rfl⟩
  refine swl_app ?_
  refine s_pu (pu_lss rfl rfl) ?_
  refine swl_sub _ (.cons (t := 0) rfl (.cons (t := 1) rfl (.cons (t := 2) rfl (.cons (t := 8) rfl (.cons (t := 9) rfl (.cons (t := 10) rfl (.cons (t := 11) rfl (.cons (t := 31) rfl .nil)))))))) ?_
  refine swl_nil ?_
  refine then_n ?_
  refine swp_cond (b := _) rfl (fun h31 => ?_) (fun h31 => ?_)
  ·skip
   refine swp_region ?_
   refine s_pu (pu_move rfl) ?_
   refine s_pu (pu_add_as (((i + j) / 2 + 1 : Nat) : Int) rfl rfl (by omega) (by omega) (by omega)) ?_
   refine s_pu (pu_assign rfl) ?_
   refine swl_sub _ (.cons (t := 0) rfl (.cons (t := 1) rfl (.cons (t := 2) rfl (.cons (t := 8) rfl (.cons (t := 9) rfl (.cons (t := 10) rfl .nil)))))) ?_
   refine swl_nil ?_
   refine block_n ?_
   have h31' : strLt e.1 p = true := (cmpS_neg _ _).1 (of_decide_eq_true h31)
   refine then_n ⟨((i + j) / 2 + 1, j), ⟨rfl, rfl, by show (i + j) / 2 + 1 ≤ j; omega, hj, by rw [← hbs]; exact (bsF_lo l p h17' he h31').symm⟩, by show j - ((i + j) / 2 + 1) < j - i; omega⟩
  ·skip
   refine swp_region ?_
   refine s_pu (pu_move rfl) ?_
   refine s_pu (pu_assign rfl) ?_
   refine swl_sub _ (.cons (t := 0) rfl (.cons (t := 1) rfl (.cons (t := 2) rfl (.cons (t := 8) rfl (.cons (t := 9) rfl (.cons (t := 10) rfl .nil)))))) ?_
   refine swl_nil ?_
   refine block_n ?_
   have h31' : strLt e.1 p = false := by
    cases hh : strLt e.1 p with
    | false => rfl
    | true => exact absurd ((cmpS_neg _ _).2 hh) (of_decide_eq_false h31)
   refine then_n ⟨(i, (i + j) / 2), ⟨rfl, rfl, by show i ≤ (i + j) / 2; omega, by show (i + j) / 2 ≤ l.length; omega, by rw [← hbs]; exact (bsF_hi l p h17' he h31').symm⟩, by show (i + j) / 2 - i < j - i; omega⟩
 ·skip
  have h17' := of_decide_eq_false h17
  obtain rfl : i = j := by omega
  rw [bsF_stop l p (by omega)] at hbs
  refine swp_exit ?_
  refine then_x ?_
  refine then_x ?_
  refine block_hit rfl ?_
  refine then_n ?_
  refine swp_seq ?_
  refine swp_region ?_
  refine s_pu (pu_move rfl) ?_
  refine s_pu (pu_move rfl) ?_
  refine s_pu (pu_move rfl) ?_
  refine s_pu (pu_lss rfl rfl) ?_
  refine s_pu (pu_move rfl) ?_
  refine s_split 39 rfl (fun h39 => ?_) (fun h39 => ?_)
  ·skip
   have h39' := of_decide_eq_true h39
   obtain ⟨e, he⟩ : ∃ e, l[i]? = some e := ⟨_, List.getElem?_eq_getElem (by omega)⟩
   obtain ⟨gb, off, cap, hv, hra, hc0, hc1⟩ := tree_at h he
   refine s_on rfl rfl ?_
   refine s_pu (pu_move rfl) ?_
   refine s_on rfl rfl ?_
   refine s_pu (pu_move rfl) ?_
   refine s_on rfl rfl ?_
   refine s_pu (pu_move rfl) ?_
   refine s_on rfl rfl ?_
   refine s_pu (pu_indexAddr (off + i * 2) (congrArg some hv) rfl (by omega) (by omega) (by rw [Int.toNat_natCast])) ?_
   refine s_on rfl rfl ?_
   refine s_rd (rd_roA rfl rfl hra) ?_
   refine s_on rfl rfl ?_
   refine s_pu (pu_move rfl) ?_
   refine s_on rfl rfl ?_
   refine s_ef (ef_fn (bypath_spec e p) rfl rfl (by repeat (first | exact Split.nil | (apply Split.cons; (repeat (first | with_reducible exact Take.here | apply Take.there)))))) ?_
   rintro v46 L1 ⟨rfl, rfl⟩
   refine swl_app ?_
   refine s_on rfl rfl ?_
   refine s_pu (pu_eql rfl rfl) ?_
   first | refine s_pu (pu_pick_t rfl rfl) ?_ | refine s_pu (pu_pick_f rfl rfl) ?_
   refine s_pu (pu_assign rfl) ?_
   refine s_pu (pu_assign rfl) ?_
   refine swl_sub _ (.cons (t := 6) rfl (.cons (t := 7) rfl .nil)) ?_
   refine swl_nil ?_
   refine then_n ?_
   refine swp_ret ?_
   refine done_ret [ro μ] (.tmp rfl (.tmp rfl .nil)) ⟨?_, rfl⟩ (by repeat (first | exact Split.nil | (apply Split.cons; (repeat (first | with_reducible exact Take.here | apply Take.there)))))
   rw [← hbs, he]
   simp only []
   rw [← dcmpS_zero]; rfl
  ·skip
   refine s_off rfl rfl rfl ?_
   refine s_off rfl rfl rfl ?_
   refine s_off rfl rfl rfl ?_
   refine s_off rfl rfl rfl ?_
   refine s_off rfl rfl rfl ?_
   refine s_off rfl rfl rfl ?_
   refine s_off rfl rfl rfl ?_
   refine s_off rfl rfl rfl ?_
   first | refine s_pu (pu_pick_t rfl rfl) ?_ | refine s_pu (pu_pick_f rfl rfl) ?_
   refine s_pu (pu_assign rfl) ?_
   refine s_pu (pu_assign rfl) ?_
   refine swl_sub _ (.cons (t := 6) rfl (.cons (t := 7) rfl .nil)) ?_
   refine swl_nil ?_
   refine then_n ?_
   refine swp_ret ?_
   have h39' := of_decide_eq_false h39
   refine done_ret [ro μ] (.tmp rfl (.tmp rfl .nil)) ⟨?_, rfl⟩ (by repeat (first | exact Split.nil | (apply Split.cons; (repeat (first | with_reducible exact Take.here | apply Take.there)))))
   rw [← hbs, List.getElem?_eq_none (by omega)]; rfl
set_option maxHeartbeats 1000000 in
theorem look_spec (μ : PH) (v : Value) (l : List En) (p : ByteArray) (h : Row μ v 2 l.length (ens l)) (hsz : l.length ≤ 1048576) : Spec Tryd.prog 28 [v, .string p] [ro μ] (fun r L => r = .int .u32 (lookB l p) ∧ L = [ro μ]) := by
 have hsm := h.small
 refine Spec.of 19 Tryd.func28 rfl rfl rfl ?_
 refine swp_seq ?_
 refine swp_region ?_
 refine s_pu (pu_assign rfl) ?_
 refine swl_sub _ (.cons (t := 0) rfl (.cons (t := 1) rfl .nil)) ?_
 refine swl_nil ?_
 refine then_n ?_
 refine swp_seq ?_
 refine swp_seq ?_
 refine swp_region ?_
 refine s_pu (pu_move rfl) ?_
 refine s_pu (pu_move rfl) ?_
 refine s_ef (ef_fn (bin_spec μ v l p h hsz) rfl rfl (by repeat (first | exact Split.nil | (apply Split.cons; (repeat (first | with_reducible exact Take.here | apply Take.there)))))) ?_
 rintro v10 L1 ⟨rfl, rfl⟩
 refine swl_app ?_
 refine s_pu (pu_move rfl) ?_
 first | refine s_pu (pu_extractL rfl) ?_ | refine s_pu (pu_extract rfl rfl) ?_
 first | refine s_pu (pu_extractL rfl) ?_ | refine s_pu (pu_extract rfl rfl) ?_
 refine s_pu (pu_assign rfl) ?_
 refine s_pu (pu_assign rfl) ?_
 refine swl_sub _ (.cons (t := 0) rfl (.cons (t := 5) rfl (.cons (t := 6) rfl .nil))) ?_
 refine swl_nil ?_
 refine then_n ?_
 refine swp_seq ?_
 refine swp_region ?_
 refine s_pu (pu_move rfl) ?_
 refine swl_sub _ (.cons (t := 0) rfl (.cons (t := 5) rfl (.cons (t := 13) rfl .nil))) ?_
 refine swl_nil ?_
 refine then_n ?_
 refine swp_cond (b := _) rfl (fun h13 => ?_) (fun h13 => ?_)
 ·skip
  obtain ⟨e, he, heq⟩ : ∃ e, l[bsB l p]? = some e ∧ strEq e.1 p = true := by
   cases hh : l[bsB l p]? with
   | none => rw [hh] at h13; cases h13
   | some e => rw [hh] at h13; exact ⟨e, rfl, h13⟩
  have hlt := (List.getElem?_eq_some_iff.1 he).1
  obtain ⟨gb, off, cap, hv, hra, hc0, hc1⟩ := tree_at h he
  refine swp_seq ?_
  refine swp_region ?_
  refine s_pu (pu_move rfl) ?_
  refine s_pu (pu_move rfl) ?_
  refine s_pu (pu_indexAddr (off + bsB l p * 2) (congrArg some hv) rfl (by omega) (by omega) (by rw [Int.toNat_natCast])) ?_
  first | refine s_pu (pu_fieldAddr0 rfl) ?_ | refine s_pu (pu_fieldAddr rfl) ?_
  refine s_rd (rd_ro rfl hc1) ?_
  refine s_pu (pu_assign rfl) ?_
  refine swl_sub _ (.cons (t := 4) rfl .nil) ?_
  refine swl_nil ?_
  refine then_n ?_
  refine swp_ret ?_
  refine then_r ?_
  refine done_ret [ro μ] (.tmp rfl .nil) ⟨?_, rfl⟩ (by repeat (first | exact Split.nil | (apply Split.cons; (repeat (first | with_reducible exact Take.here | apply Take.there)))))
  unfold lookB
  rw [he]
  show _ = Value.int .u32 (if strEq e.1 p = true then e.2 else 0)
  rw [heq]; rfl
 ·skip
  refine swp_skip ?_
  refine then_n ?_
  refine swp_seq ?_
  refine swp_region ?_
  refine s_pu (pu_assign rfl) ?_
  refine swl_sub _ (.cons (t := 4) rfl .nil) ?_
  refine swl_nil ?_
  refine then_n ?_
  refine swp_ret ?_
  refine done_ret [ro μ] (.tmp rfl .nil) ⟨?_, rfl⟩ (by repeat (first | exact Split.nil | (apply Split.cons; (repeat (first | with_reducible exact Take.here | apply Take.there)))))
  unfold lookB
  cases hh : l[bsB l p]? with
  | none => rfl
  | some e =>
   have h13' : strEq e.1 p = false := by rw [hh] at h13; exact h13
   show _ = Value.int .u32 (if strEq e.1 p = true then e.2 else 0)
   rw [h13']; rfl
end SX
namespace SX
open Go Go.Proofs
set_option maxHeartbeats 1000000 in
theorem same_spec (μ : PH) (va vb : Value) (la lb : List En) (ha : Row μ va 2 la.length (la.flatMap enc1)) (hb : Row μ vb 2 lb.length (lb.flatMap enc1)) : Spec Tryd.prog 11 [va, vb] [ro μ] (fun r L => r = .bool (decide (la = lb)) ∧ L = [ro μ]) := by
 have hsa := ha.small
 have hsb := hb.small
 refine Spec.of 26 Tryd.func11 rfl rfl rfl ?_
 refine swp_seq ?_
 refine swp_region ?_
 refine s_pu (pu_assign rfl) ?_
 refine swl_sub _ (.cons (t := 0) rfl (.cons (t := 1) rfl .nil)) ?_
 refine swl_nil ?_
 refine then_n ?_
 refine swp_seq ?_
 refine swp_seq ?_
 refine swp_region ?_
 refine s_pu (pu_move rfl) ?_
 refine s_pu (pu_len_row ha rfl) ?_
 refine s_pu (pu_move rfl) ?_
 refine s_pu (pu_len_row hb rfl) ?_
 refine s_pu (pu_neq rfl rfl) ?_
 refine swl_sub _ (.cons (t := 0) rfl (.cons (t := 1) rfl (.cons (t := 10) rfl .nil))) ?_
 refine swl_nil ?_
 refine then_n ?_
 refine swp_cond (b := _) rfl (fun h10 => ?_) (fun h10 => ?_)
 ·skip
  refine swp_seq ?_
  refine swp_region ?_
  refine s_pu (pu_assign rfl) ?_
  refine swl_sub _ (.cons (t := 4) rfl .nil) ?_
  refine swl_nil ?_
  refine then_n ?_
  refine swp_ret ?_
  refine then_r ?_
  refine done_ret [ro μ] (.tmp rfl .nil) ⟨?_, rfl⟩ (by repeat (first | exact Split.nil | (apply Split.cons; (repeat (first | with_reducible exact Take.here | apply Take.there)))))
  have : la ≠ lb := by rintro rfl; simp at h10
  rw [decide_eq_false this]; rfl
 ·skip
  have hlen : la.length = lb.length := by simp at h10; omega
  refine swp_skip ?_
  refine then_n ?_
  refine swp_seq ?_
  refine swp_seq ?_
  refine swp_region ?_
  refine s_pu (pu_assign rfl) ?_
  refine swl_sub _ (.cons (t := 0) rfl (.cons (t := 1) rfl (.cons (t := 5) rfl .nil))) ?_
  refine swl_nil ?_
  refine then_n ?_
  refine swp_block ?_
  refine swp_loop (ι := Nat) (fun i env L => env = [(0, va), (1, vb), (5, .int .i64 (i : Nat))] ∧ L = [ro μ] ∧ i ≤ la.length ∧ la.take i = lb.take i) (fun i => la.length - i) 0 ⟨rfl, rfl, Nat.zero_le _, rfl⟩ ?_
  rintro i env L ⟨rfl, rfl, hi, htk⟩
  refine swp_seq ?_
  refine swp_seq ?_
  refine swp_region ?_
  refine s_pu (pu_move rfl) ?_
  refine s_pu (pu_move rfl) ?_
  refine s_pu (pu_len_row ha rfl) ?_
  refine s_pu (pu_lss rfl rfl) ?_
  refine swl_sub _ (.cons (t := 0) rfl (.cons (t := 1) rfl (.cons (t := 5) rfl (.cons (t := 14) rfl .nil)))) ?_
  refine swl_nil ?_
  refine then_n ?_
  refine swp_cond (b := _) rfl (fun h14 => ?_) (fun h14 => ?_)
  ·skip
   have h14' : i < la.length := by have := of_decide_eq_true h14; omega
   obtain ⟨e1, he1⟩ : ∃ e, la[i]? = some e := ⟨_, List.getElem?_eq_getElem h14'⟩
   obtain ⟨e2, he2⟩ : ∃ e, lb[i]? = some e := ⟨_, List.getElem?_eq_getElem (by omega)⟩
   obtain ⟨b1, o1, c1, hv1, _, _, hr1⟩ := ha.pos (by omega)
   obtain ⟨b2, o2, c2, hv2, _, _, hr2⟩ := hb.pos (by omega)
   have hq1 := hr1.elem (f := enc1) (n := 2) (fun _ => rfl) he1
   have hq2 := hr2.elem (f := enc1) (n := 2) (fun _ => rfl) he2
   refine swp_skip ?_
   refine then_n ?_
   refine swp_seq ?_
   refine swp_block ?_
   refine swp_seq ?_
   refine swp_draw [3, 7] _ [] (by simp only [List.append_nil]; exact Ent.refl _) (by kernel_rfl) ?_
   refine d_pu 0 rfl (pu_move rfl) (by kernel_rfl) (by kernel_rfl) (by kernel_rfl) ?_
   refine d_pu 1 rfl (pu_move rfl) (by kernel_rfl) (by kernel_rfl) (by kernel_rfl) ?_
   refine d_pu 2 rfl (pu_indexAddr (o1 + i * 2) (congrArg some hv1) rfl (by omega) (by omega) (by rw [Int.toNat_natCast])) (by kernel_rfl) (by kernel_rfl) (by kernel_rfl) ?_
   refine d_rd 3 rfl (rd_roA rfl rfl hq1) rfl (by kernel_rfl) (by kernel_rfl) (by kernel_rfl) ?_
   refine d_pu 4 rfl (pu_move rfl) (by kernel_rfl) (by kernel_rfl) (by kernel_rfl) ?_
   refine d_pu 5 rfl (pu_move rfl) (by kernel_rfl) (by kernel_rfl) (by kernel_rfl) ?_
   refine d_pu 6 rfl (pu_indexAddr (o2 + i * 2) (congrArg some hv2) rfl (by omega) (by omega) (by rw [Int.toNat_natCast])) (by kernel_rfl) (by kernel_rfl) (by kernel_rfl) ?_
   refine d_rd 7 rfl (rd_roA rfl rfl hq2) rfl (by kernel_rfl) (by kernel_rfl) (by kernel_rfl) ?_
   refine d_pu 8 rfl (pu_stN_ne (vs := enc1 e1) (us := enc1 e2) rfl rfl (.str (.int .nil))) (by kernel_rfl) (by kernel_rfl) (by kernel_rfl) ?_
   refine d_sub _ (.cons (t := 0) rfl (.cons (t := 1) rfl (.cons (t := 5) rfl (.cons (t := 25) rfl .nil)))) ?_
   first | refine d_nilt (by kernel_rfl) ?_ | refine d_nilf (by kernel_rfl) ?_
   refine then_n ?_
   refine swp_cond (b := _) rfl (fun h25 => ?_) (fun h25 => ?_)
   ·skip
    refine swp_seq ?_
    refine swp_region ?_
    refine s_pu (pu_assign rfl) ?_
    refine swl_sub _ (.cons (t := 4) rfl .nil) ?_
    refine swl_nil ?_
    refine then_n ?_
    refine swp_ret ?_
    refine block_r ?_
    refine then_r ?_
    refine then_r ?_
    refine block_r ?_
    refine then_r ?_
    refine done_ret [ro μ] (.tmp rfl .nil) ⟨?_, rfl⟩ (by repeat (first | exact Split.nil | (apply Split.cons; (repeat (first | with_reducible exact Take.here | apply Take.there)))))
    have : la ≠ lb := by
     rintro rfl
     rw [he1] at he2; cases he2
     simp [strEq_refl] at h25
    rw [decide_eq_false this]; rfl
   ·skip
    refine swp_skip ?_
    refine block_n ?_
    refine then_n ?_
    refine swp_region ?_
    refine s_pu (pu_move rfl) ?_
    refine s_pu (pu_add_as ((i + 1 : Nat) : Int) rfl rfl (by omega) (by omega) (by omega)) ?_
    refine s_pu (pu_assign rfl) ?_
    refine swl_sub _ (.cons (t := 0) rfl (.cons (t := 1) rfl (.cons (t := 5) rfl .nil))) ?_
    refine swl_nil ?_
    have he : e1 = e2 := by
     simp only [Bool.not_eq_false', Bool.and_eq_true, decide_eq_true_eq, strEq_iff, and_true] at h25
     obtain ⟨q1, q2⟩ := h25
     exact Prod.ext q1 q2
    exact then_n ⟨i + 1, ⟨rfl, rfl, h14', by rw [List.take_add_one, List.take_add_one, htk, he1, he2, he]⟩, by omega⟩
  ·skip
   have h14' := of_decide_eq_false h14
   obtain rfl : i = la.length := by omega
   refine swp_exit ?_
   refine then_x ?_
   refine then_x ?_
   refine block_hit rfl ?_
   refine then_n ?_
   refine swp_seq ?_
   refine swp_region ?_
   refine s_pu (pu_assign rfl) ?_
   refine swl_sub _ (.cons (t := 4) rfl .nil) ?_
   refine swl_nil ?_
   refine then_n ?_
   refine swp_ret ?_
   refine done_ret [ro μ] (.tmp rfl .nil) ⟨?_, rfl⟩ (by repeat (first | exact Split.nil | (apply Split.cons; (repeat (first | with_reducible exact Take.here | apply Take.there)))))
   rw [List.take_length, hlen, List.take_length] at htk
   rw [decide_eq_true htk]; rfl
end SX
namespace SX
open Go Go.Proofs
theorem ens_take {t : List En} {i : Nat} {e : En} (h : t[i]? = some e) : ens (t.take (i + 1)) = ens (t.take i) ++ enc1 e := by
  rw [List.take_add_one, h, ens, ens, List.flatMap_append]; rfl
theorem ens_app (a b : List En) : ens (a ++ b) = ens a ++ ens b := List.flatMap_append
theorem ens_drop (t : List En) (i : Nat) : ens (t.drop i) = (ens t).drop (i * 2) := by
  induction t generalizing i with
  | nil => simp [ens]
  | cons e t ih =>
    cases i with
    | zero => rfl
    | succ i =>
      rw [List.drop_succ_cons, ih, Nat.succ_mul, Nat.add_comm (i * 2) 2, ens, ens, List.flatMap_cons, ← List.drop_drop]; rfl
set_option maxHeartbeats 2000000 in
theorem put_spec (μ : PH) (v : Value) (t : List En) (p : ByteArray) (b : Int) (h : Row μ v 2 t.length (ens t)) (hsz : t.length ≤ 1048576) (hps : p.size ≤ 9223372036854775807) :
  Spec Tryd.prog 14 [v, .string p, .int .u32 b] [ro μ] (fun r L => L = [own 52 2 r (putE t p b).length (ens (putE t p b)), ro μ]) := by
 refine Spec.of 69 Tryd.func14 rfl rfl rfl ?_
 refine swp_seq ?_
 refine swp_region ?_
 refine s_pu (pu_assign rfl) ?_
 refine swl_sub _ (.cons (t := 0) rfl (.cons (t := 1) rfl (.cons (t := 2) rfl .nil))) ?_
 refine swl_nil ?_
 refine then_n ?_
 refine swp_seq ?_
 refine swp_region ?_
 refine s_pu (pu_move rfl) ?_
 refine s_pu (pu_len_row h rfl) ?_
 refine s_pu (pu_add_as ((t.length + 1 : Nat) : Int) rfl rfl (by omega) (by omega) (by omega)) ?_
 refine s_ef (ef_make0 (e := 52) (n := 2) rfl rfl (by omega) (by omega) (by simp only [maxLen]; omega)) ?_
 rintro v12
 skip
 refine s_pu (pu_assign rfl) ?_
 refine swl_sub _ (.cons (t := 0) rfl (.cons (t := 1) rfl (.cons (t := 2) rfl (.cons (t := 7) rfl .nil)))) ?_
 refine swl_nil ?_
 refine then_n ?_
 refine swp_seq ?_
 refine swp_seq ?_
 refine swp_region ?_
 refine s_pu (pu_move rfl) ?_
 refine s_pu (pu_strlen rfl) ?_
 refine s_pu (pu_gtr rfl rfl) ?_
 refine swl_sub _ (.cons (t := 0) rfl (.cons (t := 1) rfl (.cons (t := 2) rfl (.cons (t := 7) rfl (.cons (t := 15) rfl .nil))))) ?_
 refine swl_nil ?_
 refine then_n ?_
 refine swp_cond (b := _) rfl (fun h15 => ?_) (fun h15 => ?_)
 ·skip
  refine swp_seq ?_
  refine swp_region ?_
  refine s_pu (pu_move rfl) ?_
  refine s_pu (pu_move rfl) ?_
  refine s_ef (ef_append_ro h rfl rfl (by repeat (first | exact Split.nil | (apply Split.cons; (repeat (first | with_reducible exact Take.here | apply Take.there))))) (ens_one _) (by simp only [maxLen]; omega) (by omega)) ?_
  rintro v18 -
  rw [Nat.zero_add, List.nil_append]
  refine s_pu (pu_assign rfl) ?_
  refine swl_sub _ (.cons (t := 6) rfl .nil) ?_
  refine swl_nil ?_
  refine then_n ?_
  refine swp_ret ?_
  refine then_r ?_
  have h15' : 255 < p.size := by have := of_decide_eq_true h15; omega
  have e : putE t p b = t := by unfold putE; rw [if_pos h15']
  exact done_ret [own 52 2 v18 t.length (ens t), ro μ] (.tmp rfl .nil) (by rw [e]; rfl) (by repeat (first | exact Split.nil | (apply Split.cons; (repeat (first | with_reducible exact Take.here | apply Take.there)))))
 ·skip
  have h15' : ¬ 255 < p.size := by have := of_decide_eq_false h15; omega
  refine swp_skip ?_
  refine then_n ?_
  refine swp_seq ?_
  refine swp_region ?_
  refine s_pu (pu_assign rfl) ?_
  refine swl_sub _ (.cons (t := 0) rfl (.cons (t := 1) rfl (.cons (t := 2) rfl (.cons (t := 7) rfl (.cons (t := 8) rfl .nil))))) ?_
  refine swl_nil ?_
  refine then_n ?_
  refine swp_cut (fun env L => ∃ i v7, Sub env [(0, v), (1, .string p), (2, .int .u32 b), (7, v7), (8, .int .i64 (i : Nat))] ∧ L = [own 52 2 v7 i (ens (t.take i)), ro μ] ∧ i ≤ t.length ∧ t.takeWhile (ltP p) = t.take i ∧ t.dropWhile (ltP p) = t.drop i) ?_ ?_
  ·skip
   refine swp_block ?_
   refine swp_loop (ι := Nat × Value) (fun k env L => env = [(0, v), (1, .string p), (2, .int .u32 b), (7, k.2), (8, .int .i64 (k.1 : Nat))] ∧ L = [own 52 2 k.2 k.1 (ens (t.take k.1)), ro μ] ∧ k.1 ≤ t.length ∧ (t.take k.1).all (ltP p) = true) (fun k => t.length - k.1) (0, v12) ⟨rfl, rfl, Nat.zero_le _, rfl⟩ ?_
   rintro ⟨i, v7⟩ env L ⟨rfl, rfl, hi, hall⟩
   simp only [] at hi hall
   dsimp only
   refine swp_seq ?_
   refine swp_seq ?_
   refine swp_region ?_
   refine s_pu (pu_move rfl) ?_
   refine s_pu (pu_move rfl) ?_
   refine s_pu (pu_len_row h rfl) ?_
   refine s_pu (pu_lss rfl rfl) ?_
   refine s_pu (pu_move rfl) ?_
   refine s_split 23 rfl (fun h23 => ?_) (fun h23 => ?_)
   ·skip
    have h23' : i < t.length := by have := of_decide_eq_true h23; omega
    obtain ⟨e, he⟩ : ∃ e, t[i]? = some e := ⟨_, List.getElem?_eq_getElem h23'⟩
    obtain ⟨gb, off, cap, hv, hra, hc0, hc1⟩ := tree_at h he
    refine s_on rfl rfl ?_
    refine s_pu (pu_move rfl) ?_
    refine s_on rfl rfl ?_
    refine s_pu (pu_move rfl) ?_
    refine s_on rfl rfl ?_
    refine s_pu (pu_indexAddr (off + i * 2) (congrArg some hv) rfl (by omega) (by omega) (by rw [Int.toNat_natCast])) ?_
    refine s_on rfl rfl ?_
    first | refine s_pu (pu_fieldAddr0 rfl) ?_ | refine s_pu (pu_fieldAddr rfl) ?_
    refine s_on rfl rfl ?_
    refine s_rd (rd_ro rfl hc0) ?_
    refine s_on rfl rfl ?_
    refine s_pu (pu_move rfl) ?_
    refine s_on rfl rfl ?_
    refine s_pu (pu_str_lss rfl rfl) ?_
    first | refine s_pu (pu_pick_t rfl rfl) ?_ | refine s_pu (pu_pick_f rfl rfl) ?_
    refine swl_sub _ (.cons (t := 0) rfl (.cons (t := 1) rfl (.cons (t := 2) rfl (.cons (t := 7) rfl (.cons (t := 8) rfl (.cons (t := 31) rfl .nil)))))) ?_
    refine swl_nil ?_
    refine then_n ?_
    refine swp_cond (b := _) rfl (fun h31 => ?_) (fun h31 => ?_)
    ·skip
     refine swp_skip ?_
     refine then_n ?_
     refine swp_block ?_
     refine swp_seq ?_
     refine swp_region ?_
     refine s_pu (pu_move rfl) ?_
     refine s_pu (pu_move rfl) ?_
     refine s_pu (pu_move rfl) ?_
     refine s_pu (pu_indexAddr (off + i * 2) (congrArg some hv) rfl (by omega) (by omega) (by rw [Int.toNat_natCast])) ?_
     refine s_rd (rd_roA rfl rfl hra) ?_
     refine s_ef (ef_bldS (qs := [(0, _)]) rfl rfl rfl) ?_
     intro b37
     refine s_ef (ef_append_lit (l := i) (m := 1) rfl rfl (by repeat (first | exact Split.nil | (apply Split.cons; (repeat (first | with_reducible exact Take.here | apply Take.there))))) (by simp only [maxLen]; omega) (by omega)) ?_
     rintro v38 -
     skip
     refine s_pu (pu_assign rfl) ?_
     refine swl_sub _ (.cons (t := 0) rfl (.cons (t := 1) rfl (.cons (t := 2) rfl (.cons (t := 7) rfl (.cons (t := 8) rfl .nil))))) ?_
     refine swl_nil ?_
     refine then_n ?_
     refine swp_region ?_
     refine s_pu (pu_move rfl) ?_
     refine s_pu (pu_add_as ((i + 1 : Nat) : Int) rfl rfl (by omega) (by omega) (by omega)) ?_
     refine s_pu (pu_assign rfl) ?_
     refine swl_sub _ (.cons (t := 0) rfl (.cons (t := 1) rfl (.cons (t := 2) rfl (.cons (t := 7) rfl (.cons (t := 8) rfl .nil))))) ?_
     refine swl_nil ?_
     refine block_n ?_
     refine then_n ⟨(i + 1, v38), ⟨rfl, by rw [ens_take he], h23', ?_⟩, by show t.length - (i + 1) < t.length - i; omega⟩
     show (t.take (i + 1)).all (ltP p) = true
     rw [List.take_add_one, he, List.all_append, hall]
     simp [ltP, h31]
    ·skip
     refine swp_exit ?_
     refine then_x ?_
     refine then_x ?_
     refine block_hit rfl ?_
     obtain ⟨k1, k2⟩ := while_at (p := p) hi hall (fun e' he' => by rw [he] at he'; cases he'; exact h31)
     exact then_n ⟨i, v7, ⟨rfl, rfl, rfl, rfl, rfl, trivial⟩, rfl, hi, k1, k2⟩
   ·skip
    refine s_off rfl rfl rfl ?_
    refine s_off rfl rfl rfl ?_
    refine s_off rfl rfl rfl ?_
    refine s_off rfl rfl rfl ?_
    refine s_off rfl rfl rfl ?_
    refine s_off rfl rfl rfl ?_
    refine s_off rfl rfl rfl ?_
    first | refine s_pu (pu_pick_t rfl rfl) ?_ | refine s_pu (pu_pick_f rfl rfl) ?_
    refine swl_sub _ (.cons (t := 0) rfl (.cons (t := 1) rfl (.cons (t := 2) rfl (.cons (t := 7) rfl (.cons (t := 8) rfl (.cons (t := 31) rfl .nil)))))) ?_
    refine swl_nil ?_
    refine then_n ?_
    refine swp_cond (b := _) rfl (fun h31 => by cases h31) (fun h31 => ?_)
    refine swp_exit ?_
    refine then_x ?_
    refine then_x ?_
    refine block_hit rfl ?_
    have h23' := of_decide_eq_false h23
    obtain ⟨k1, k2⟩ := while_at (p := p) hi hall (fun e' he' => by have := (List.getElem?_eq_some_iff.1 he').1; omega)
    exact then_n ⟨i, v7, ⟨rfl, rfl, rfl, rfl, rfl, trivial⟩, rfl, hi, k1, k2⟩
  rintro env L ⟨i, v7, hsub, rfl, hi, k1, k2⟩
  refine swp_sub _ hsub ?_
  clear hsub env
  refine swp_cut (fun env L => ∃ v7, Sub env [(0, v), (1, .string p), (7, v7), (8, .int .i64 (i : Nat))] ∧ L = [own 52 2 v7 (t.take i ++ (if b = 0 then [] else [(p, b)])).length (ens (t.take i ++ (if b = 0 then [] else [(p, b)]))), ro μ]) ?_ ?_
  ·skip
   refine swp_seq ?_
   refine swp_region ?_
   refine s_pu (pu_move rfl) ?_
   refine s_pu (pu_neq rfl rfl) ?_
   refine swl_sub _ (.cons (t := 0) rfl (.cons (t := 1) rfl (.cons (t := 2) rfl (.cons (t := 7) rfl (.cons (t := 8) rfl (.cons (t := 42) rfl .nil)))))) ?_
   refine swl_nil ?_
   refine then_n ?_
   refine swp_cond (b := _) rfl (fun h42 => ?_) (fun h42 => ?_)
   ·skip
    refine swp_region ?_
    refine s_pu (pu_move rfl) ?_
    refine s_pu (pu_move rfl) ?_
    refine s_pu (pu_move rfl) ?_
    refine s_pu (pu_bld (qs := [(0, _), (1, _)]) rfl) ?_
    refine s_ef (ef_bldS (qs := [(0, _)]) rfl rfl rfl) ?_
    intro b47
    refine s_ef (ef_append_lit (l := i) (m := 1) rfl rfl (by repeat (first | exact Split.nil | (apply Split.cons; (repeat (first | with_reducible exact Take.here | apply Take.there))))) (by simp only [maxLen]; omega) (by omega)) ?_
    rintro v48 -
    skip
    refine s_pu (pu_assign rfl) ?_
    refine swl_sub _ (.cons (t := 0) rfl (.cons (t := 1) rfl (.cons (t := 7) rfl (.cons (t := 8) rfl .nil)))) ?_
    refine swl_nil ?_
    have hb : b ≠ 0 := by simpa using h42
    refine then_n ⟨v48, ⟨rfl, rfl, rfl, rfl, trivial⟩, ?_⟩
    rw [if_neg hb, ens_app, List.length_append, List.length_take, Nat.min_eq_left hi]; rfl
   ·skip
    refine swp_skip ?_
    have hb : b = 0 := by simpa using h42
    refine then_n ⟨v7, ⟨rfl, rfl, rfl, rfl, trivial⟩, ?_⟩
    rw [if_pos hb, List.append_nil, List.length_take, Nat.min_eq_left hi]
  rintro env L ⟨v7, hsub, rfl⟩
  refine swp_sub _ hsub ?_
  clear hsub env
  have hmid : (t.take i ++ (if b = 0 then [] else [(p, b)])).length ≤ t.length + 1 := by
   rw [List.length_append, List.length_take]; split <;> simp <;> omega
  generalize hpre : t.take i ++ (if b = 0 then [] else [(p, b)]) = pre at hmid
  refine swp_cut (fun env L => ∃ j, Sub env [(0, v), (7, v7), (8, .int .i64 (j : Nat))] ∧ L = [own 52 2 v7 pre.length (ens pre), ro μ] ∧ j ≤ t.length ∧ cutE p (t.drop i) = t.drop j) ?_ ?_
  ·skip
   refine swp_seq ?_
   refine swp_region ?_
   refine s_pu (pu_move rfl) ?_
   refine s_pu (pu_move rfl) ?_
   refine s_pu (pu_len_row h rfl) ?_
   refine s_pu (pu_lss rfl rfl) ?_
   refine s_pu (pu_move rfl) ?_
   refine s_split 53 rfl (fun h53 => ?_) (fun h53 => ?_)
   ·skip
    have h53' : i < t.length := by have := of_decide_eq_true h53; omega
    obtain ⟨e, he⟩ : ∃ e, t[i]? = some e := ⟨_, List.getElem?_eq_getElem h53'⟩
    obtain ⟨gb, off, cap, hv, hra, hc0, hc1⟩ := tree_at h he
    have hdr : t.drop i = e :: t.drop (i + 1) := by
     rw [List.drop_eq_getElem_cons h53']; congr 1; rw [List.getElem?_eq_getElem h53'] at he; exact Option.some.inj he
    refine s_on rfl rfl ?_
    refine s_pu (pu_move rfl) ?_
    refine s_on rfl rfl ?_
    refine s_pu (pu_move rfl) ?_
    refine s_on rfl rfl ?_
    refine s_pu (pu_indexAddr (off + i * 2) (congrArg some hv) rfl (by omega) (by omega) (by rw [Int.toNat_natCast])) ?_
    refine s_on rfl rfl ?_
    first | refine s_pu (pu_fieldAddr0 rfl) ?_ | refine s_pu (pu_fieldAddr rfl) ?_
    refine s_on rfl rfl ?_
    refine s_rd (rd_ro rfl hc0) ?_
    refine s_on rfl rfl ?_
    refine s_pu (pu_move rfl) ?_
    refine s_on rfl rfl ?_
    refine s_pu (pu_str_eql rfl rfl) ?_
    first | refine s_pu (pu_pick_t rfl rfl) ?_ | refine s_pu (pu_pick_f rfl rfl) ?_
    refine swl_sub _ (.cons (t := 0) rfl (.cons (t := 7) rfl (.cons (t := 8) rfl (.cons (t := 61) rfl .nil)))) ?_
    refine swl_nil ?_
    refine then_n ?_
    refine swp_cond (b := _) rfl (fun h61 => ?_) (fun h61 => ?_)
    ·skip
     refine swp_region ?_
     refine s_pu (pu_move rfl) ?_
     refine s_pu (pu_add_as ((i + 1 : Nat) : Int) rfl rfl (by omega) (by omega) (by omega)) ?_
     refine s_pu (pu_assign rfl) ?_
     refine swl_sub _ (.cons (t := 0) rfl (.cons (t := 7) rfl (.cons (t := 8) rfl .nil))) ?_
     refine swl_nil ?_
     refine then_n ⟨i + 1, ⟨rfl, rfl, rfl, trivial⟩, rfl, h53', ?_⟩
     rw [hdr, cutE_cons, if_pos h61]
    ·skip
     refine swp_skip ?_
     refine then_n ⟨i, ⟨rfl, rfl, rfl, trivial⟩, rfl, hi, ?_⟩
     rw [hdr, cutE_cons, if_neg (by rw [h61]; exact Bool.false_ne_true)]
   ·skip
    refine s_off rfl rfl rfl ?_
    refine s_off rfl rfl rfl ?_
    refine s_off rfl rfl rfl ?_
    refine s_off rfl rfl rfl ?_
    refine s_off rfl rfl rfl ?_
    refine s_off rfl rfl rfl ?_
    refine s_off rfl rfl rfl ?_
    first | refine s_pu (pu_pick_t rfl rfl) ?_ | refine s_pu (pu_pick_f rfl rfl) ?_
    refine swl_sub _ (.cons (t := 0) rfl (.cons (t := 7) rfl (.cons (t := 8) rfl (.cons (t := 61) rfl .nil)))) ?_
    refine swl_nil ?_
    refine then_n ?_
    refine swp_cond (b := _) rfl (fun h61 => by cases h61) (fun h61 => ?_)
    refine swp_skip ?_
    have h53' := of_decide_eq_false h53
    refine then_n ⟨i, ⟨rfl, rfl, rfl, trivial⟩, rfl, hi, ?_⟩
    rw [List.drop_eq_nil_of_le (by omega)]; rfl
  rintro env L ⟨j, hsub, rfl, hj, hcut⟩
  refine swp_sub _ hsub ?_
  clear hsub env
  obtain ⟨vlo, hlo1, hlo2⟩ := Row.lo (P := Tryd.prog) (t := 33) h j hj
  have hdl : t.length - j = (t.drop j).length := by rw [List.length_drop]
  rw [← ens_drop] at hlo1
  have hput : putE t p b = pre ++ t.drop j := by
   unfold putE
   rw [if_neg h15', k1, k2, hpre, hcut]
  refine swp_seq ?_
  refine swp_region ?_
  refine s_pu (pu_move rfl) ?_
  refine s_pu (pu_move rfl) ?_
  refine s_pu (pu_move rfl) ?_
  refine s_pu (hlo2 _ _ _ .i64 _ rfl rfl rfl) ?_
  refine s_ef (ef_append_ro hlo1 rfl rfl (by repeat (first | exact Split.nil | (apply Split.cons; (repeat (first | with_reducible exact Take.here | apply Take.there))))) (ens_one _) (by simp only [maxLen]; omega) (by omega)) ?_
  rintro v68 -
  skip
  refine s_pu (pu_assign rfl) ?_
  refine swl_sub _ (.cons (t := 6) rfl .nil) ?_
  refine swl_nil ?_
  refine then_n ?_
  refine swp_ret ?_
  refine done_ret [own 52 2 v68 (pre.length + (t.length - j)) (ens pre ++ ens (t.drop j)), ro μ] (.tmp rfl .nil) ?_ (by repeat (first | exact Split.nil | (apply Split.cons; (repeat (first | with_reducible exact Take.here | apply Take.there)))))
  rw [hput, List.length_append, ens_app, hdl]; rfl
end SX
namespace SX
open Go Go.Proofs
end SX
namespace SX
open Go Go.Proofs
theorem ens_take2 (t : List En) (i : Nat) : ens (t.take i) = (ens t).take (i * 2) := by
  induction t generalizing i with
  | nil => simp [ens]
  | cons e t ih =>
    cases i with
    | zero => simp [ens]
    | succ i =>
      rw [List.take_succ_cons, Nat.succ_mul]
      show enc1 e ++ ens (t.take i) = _
      rw [ih]; rfl
def putsE (l : List En) : List En := l.foldl (fun t e => putE t e.1 e.2) []
theorem putsE_succ {l : List En} {i : Nat} {e : En} (h : l[i]? = some e) : putsE (l.take (i + 1)) = putE (putsE (l.take i)) e.1 e.2 := by
  unfold putsE
  rw [List.take_add_one, h, List.foldl_append]; rfl
set_option maxHeartbeats 1000000 in
theorem make_spec (μ : PH) (v : Value) (l : List En) (h : Row μ v 2 l.length (ens l)) (hsz : l.length ≤ 1048576) (hps : ∀ e ∈ l, e.1.size ≤ 255) :
  Spec Tryd.prog 32 [v] [ro μ] (fun r L => ∃ μ' tv, r = .tuple #[tv, .int .i64 0] ∧ Le μ μ' ∧ Row μ' tv 2 (makeE l).length (ens (makeE l)) ∧ L = [ro μ']) := by
 refine Spec.of 32 Tryd.func32 rfl rfl rfl ?_
 refine swp_seq ?_
 refine swp_region ?_
 refine s_pu (pu_assign rfl) ?_
 refine s_pu (pu_assign rfl) ?_
 refine swl_sub _ (.cons (t := 0) rfl .nil) ?_
 refine swl_nil ?_
 refine then_n ?_
 refine swp_seq ?_
 refine swp_region ?_
 refine s_pu (pu_assign rfl) ?_
 refine swl_sub _ (.cons (t := 0) rfl (.cons (t := 4) rfl .nil)) ?_
 refine swl_nil ?_
 refine then_n ?_
 refine swp_seq ?_
 refine swp_seq ?_
 refine swp_region ?_
 refine s_pu (pu_assign rfl) ?_
 refine swl_sub _ (.cons (t := 0) rfl (.cons (t := 4) rfl (.cons (t := 5) rfl .nil))) ?_
 refine swl_nil ?_
 refine then_n ?_
 refine swp_block ?_
 refine swp_loop (ι := Nat × PH × Value) (fun k env L => Sub env [(0, v), (4, k.2.2), (5, .int .i64 (k.1 : Nat))] ∧ L = [ro k.2.1] ∧ k.1 ≤ l.length ∧ Le μ k.2.1 ∧ Row k.2.1 k.2.2 2 (putsE (l.take k.1)).length (ens (putsE (l.take k.1)))) (fun k => l.length - k.1) (0, μ, .slice none 0 0) ⟨⟨rfl, rfl, rfl, trivial⟩, rfl, Nat.zero_le _, Le.refl _, Row.nil _ _⟩ ?_
 rintro ⟨i, μ1, tv⟩ env L ⟨hsub, rfl, hi, hle, hrow⟩
 simp only [] at hi hle hrow hsub
 refine swp_sub _ hsub ?_
 clear hsub env
 dsimp only
 have h1 := h.le hle
 refine swp_seq ?_
 refine swp_seq ?_
 refine swp_region ?_
 refine s_pu (pu_move rfl) ?_
 refine s_pu (pu_move rfl) ?_
 refine s_pu (pu_len_row h1 rfl) ?_
 refine s_pu (pu_lss rfl rfl) ?_
 refine swl_sub _ (.cons (t := 0) rfl (.cons (t := 4) rfl (.cons (t := 5) rfl (.cons (t := 9) rfl .nil)))) ?_
 refine swl_nil ?_
 refine then_n ?_
 refine swp_cond (b := _) rfl (fun h9 => ?_) (fun h9 => ?_)
 ·skip
  have h9' : i < l.length := by have := of_decide_eq_true h9; omega
  obtain ⟨e, he⟩ : ∃ e, l[i]? = some e := ⟨_, List.getElem?_eq_getElem h9'⟩
  obtain ⟨gb, off, cap, hv, hra, hc0, hc1⟩ := tree_at h1 he
  have hes := hps e (List.mem_of_getElem? he)
  have htl : (putsE (l.take i)).length ≤ i := by have := makeE_len (l.take i); rw [List.length_take] at this; exact Nat.le_trans this (Nat.min_le_left _ _)
  refine swp_skip ?_
  refine then_n ?_
  refine swp_seq ?_
  refine swp_block ?_
  refine swp_seq ?_
  refine swp_seq ?_
  refine swp_region ?_
  refine s_pu (pu_move rfl) ?_
  refine s_pu (pu_move rfl) ?_
  refine s_pu (pu_indexAddr (off + i * 2) (congrArg some hv) rfl (by omega) (by omega) (by rw [Int.toNat_natCast])) ?_
  first | refine s_pu (pu_fieldAddr0 rfl) ?_ | refine s_pu (pu_fieldAddr rfl) ?_
  refine s_rd (rd_ro rfl hc0) ?_
  refine s_pu (pu_strlen rfl) ?_
  refine s_pu (pu_gtr rfl rfl) ?_
  refine swl_sub _ (.cons (t := 0) rfl (.cons (t := 4) rfl (.cons (t := 5) rfl (.cons (t := 18) rfl .nil)))) ?_
  refine swl_nil ?_
  refine then_n ?_
  refine swp_cond (b := _) rfl (fun h18 => by have := of_decide_eq_true h18; omega) (fun h18 => ?_)
  refine swp_skip ?_
  refine then_n ?_
  refine swp_draw [5, 10] _ [] (by simp only [List.append_nil]; exact Ent.refl _) (by kernel_rfl) ?_
  refine d_pu 0 rfl (pu_move rfl) (by kernel_rfl) (by kernel_rfl) (by kernel_rfl) ?_
  refine d_pu 1 rfl (pu_move rfl) (by kernel_rfl) (by kernel_rfl) (by kernel_rfl) ?_
  refine d_pu 2 rfl (pu_move rfl) (by kernel_rfl) (by kernel_rfl) (by kernel_rfl) ?_
  refine d_pu 3 rfl (pu_indexAddr (off + i * 2) (congrArg some hv) rfl (by omega) (by omega) (by rw [Int.toNat_natCast])) (by kernel_rfl) (by kernel_rfl) (by kernel_rfl) ?_
  first | refine d_pu 4 rfl (pu_fieldAddr0 rfl) (by kernel_rfl) (by kernel_rfl) (by kernel_rfl) ?_ | refine d_pu 4 rfl (pu_fieldAddr rfl) (by kernel_rfl) (by kernel_rfl) (by kernel_rfl) ?_
  refine d_rd 5 rfl (rd_ro rfl hc0) rfl (by kernel_rfl) (by kernel_rfl) (by kernel_rfl) ?_
  refine d_pu 6 rfl (pu_move rfl) (by kernel_rfl) (by kernel_rfl) (by kernel_rfl) ?_
  refine d_pu 7 rfl (pu_move rfl) (by kernel_rfl) (by kernel_rfl) (by kernel_rfl) ?_
  refine d_pu 8 rfl (pu_indexAddr (off + i * 2) (congrArg some hv) rfl (by omega) (by omega) (by rw [Int.toNat_natCast])) (by kernel_rfl) (by kernel_rfl) (by kernel_rfl) ?_
  first | refine d_pu 9 rfl (pu_fieldAddr0 rfl) (by kernel_rfl) (by kernel_rfl) (by kernel_rfl) ?_ | refine d_pu 9 rfl (pu_fieldAddr rfl) (by kernel_rfl) (by kernel_rfl) (by kernel_rfl) ?_
  refine d_rd 10 rfl (rd_ro rfl hc1) rfl (by kernel_rfl) (by kernel_rfl) (by kernel_rfl) ?_
  first | refine d_fint 11 rfl (by kernel_rfl) (by kernel_rfl) (ef_fn (put_spec μ1 tv _ e.1 e.2 hrow (by omega) (by omega)) rfl rfl (by repeat (first | exact Split.nil | (apply Split.cons; (repeat (first | with_reducible exact Take.here | apply Take.there)))))) ?_ | refine d_finf 11 rfl (by kernel_rfl) (by kernel_rfl) (ef_fn (put_spec μ1 tv _ e.1 e.2 hrow (by omega) (by omega)) rfl rfl (by repeat (first | exact Split.nil | (apply Split.cons; (repeat (first | with_reducible exact Take.here | apply Take.there)))))) ?_
  rintro v30 L1 rfl
  refine swd_app ?_
  refine d_pu 12 rfl (pu_assign rfl) (by kernel_rfl) (by kernel_rfl) (by kernel_rfl) ?_
  refine d_sub _ (.cons (t := 0) rfl (.cons (t := 4) rfl (.cons (t := 5) rfl .nil))) ?_
  first | refine d_nilt (by kernel_rfl) ?_ | refine d_nilf (by kernel_rfl) ?_
  refine block_n ?_
  refine then_n ?_
  refine swp_share_own (v := v30) (μ := μ1) (by repeat (first | exact Split.nil | (apply Split.cons; (repeat (first | with_reducible exact Take.here | apply Take.there))))) fun μ2 h2 hrow2 => ?_
  rw [← putsE_succ he] at hrow2
  refine swp_region ?_
  refine s_pu (pu_move rfl) ?_
  refine s_pu (pu_add_as ((i + 1 : Nat) : Int) rfl rfl (by omega) (by omega) (by omega)) ?_
  refine s_pu (pu_assign rfl) ?_
  refine swl_sub _ (.cons (t := 0) rfl (.cons (t := 4) rfl (.cons (t := 5) rfl .nil))) ?_
  refine swl_nil ?_
  exact then_n ⟨(i + 1, μ2, v30), ⟨⟨rfl, rfl, rfl, trivial⟩, rfl, h9', hle.trans h2, hrow2⟩, by show l.length - (i + 1) < l.length - i; omega⟩
 ·skip
  have h9' := of_decide_eq_false h9
  obtain rfl : i = l.length := by omega
  rw [List.take_length] at hrow
  refine swp_exit ?_
  refine then_x ?_
  refine then_x ?_
  refine block_hit rfl ?_
  refine then_n ?_
  refine swp_seq ?_
  refine swp_region ?_
  refine s_pu (pu_move rfl) ?_
  refine s_pu (pu_assign rfl) ?_
  refine s_pu (pu_assign rfl) ?_
  refine swl_sub _ (.cons (t := 2) rfl (.cons (t := 3) rfl .nil)) ?_
  refine swl_nil ?_
  refine then_n ?_
  refine swp_ret ?_
  exact done_ret [ro μ1] (.tmp rfl (.tmp rfl .nil)) ⟨μ1, tv, rfl, hle, hrow, rfl⟩ (by repeat (first | exact Split.nil | (apply Split.cons; (repeat (first | with_reducible exact Take.here | apply Take.there)))))
set_option maxHeartbeats 1000000 in
theorem good_spec (μ : PH) (v : Value) (x : List En) (h : Row μ v 2 x.length (ens x)) :
  Spec Tryd.prog 20 [v] [ro μ] (fun r L => ∃ μ', Le μ μ' ∧ Row μ' r 2 (goodE x).length (ens (goodE x)) ∧ L = [ro μ']) := by
 obtain ⟨v12, hr12, hs12⟩ := Row.hi (P := Tryd.prog) (t := 33) h (min x.length 100) (Nat.min_le_left _ _)
 rw [← ens_take2] at hr12
 obtain ⟨y, hy⟩ : ∃ y, y = x.take (min x.length 100) := ⟨_, rfl⟩
 have hyl : y.length = min x.length 100 := by rw [hy, List.length_take]; omega
 have hyt : y = x.take 100 := by
  rw [hy]
  by_cases hx : x.length ≤ 100
  ·rw [Nat.min_eq_left hx, List.take_length, List.take_of_length_le hx]
  ·rw [Nat.min_eq_right (by omega)]
 rw [← hy, ← hyl] at hr12
 have hy100 : y.length ≤ 100 := by omega
 refine Spec.of 38 Tryd.func20 rfl rfl rfl ?_
 refine swp_seq ?_
 refine swp_region ?_
 refine s_pu (pu_assign rfl) ?_
 refine swl_sub _ (.cons (t := 0) rfl .nil) ?_
 refine swl_nil ?_
 refine then_n ?_
 refine swp_seq ?_
 refine swp_region ?_
 refine s_pu (pu_assign rfl) ?_
 refine swl_sub _ (.cons (t := 0) rfl (.cons (t := 3) rfl .nil)) ?_
 refine swl_nil ?_
 refine then_n ?_
 refine swp_seq ?_
 refine swp_seq ?_
 refine swp_region ?_
 refine s_pu (pu_move rfl) ?_
 refine s_pu (pu_move rfl) ?_
 refine s_pu (pu_len_row h rfl) ?_
 refine s_pu (pu_min2 rfl rfl) ?_
 refine s_pu (hs12 _ _ _ .i64 _ rfl rfl (by omega)) ?_
 refine s_pu (pu_len_row hr12 rfl) ?_
 refine s_pu (pu_move rfl) ?_
 refine swl_sub _ (.cons (t := 3) rfl (.cons (t := 12) rfl (.cons (t := 13) rfl (.cons (t := 14) rfl .nil)))) ?_
 refine swl_ent (own_nil_ent (e := 52) (n := 2)) ?_
 refine swl_nil ?_
 refine then_n ?_
 refine swp_block ?_
 refine swp_loop (ι := Nat × Value) (fun k env L => Sub env [(3, k.2), (12, v12), (13, .int .i64 (y.length : Nat)), (14, .int .i64 (k.1 : Nat))] ∧ Ent L [own 52 2 k.2 k.1 (ens ((y.take k.1).map cutP)), ro μ] ∧ k.1 ≤ y.length) (fun k => y.length - k.1) (0, .slice none 0 0) ⟨⟨rfl, rfl, rfl, rfl, trivial⟩, Ent.refl _, Nat.zero_le _⟩ ?_
 rintro ⟨i, cv⟩ env L ⟨hsub, hE, hi⟩
 simp only [] at hi hE hsub
 refine swp_sub _ hsub ?_
 refine swp_ent hE ?_
 clear hsub hE env L
 dsimp only
 refine swp_seq ?_
 refine swp_region ?_
 refine s_pu (pu_lss rfl rfl) ?_
 refine swl_sub _ (.cons (t := 3) rfl (.cons (t := 12) rfl (.cons (t := 13) rfl (.cons (t := 14) rfl (.cons (t := 15) rfl .nil))))) ?_
 refine swl_nil ?_
 refine then_n ?_
 refine swp_seq ?_
 refine swp_cond (b := _) rfl (fun h15 => ?_) (fun h15 => ?_)
 ·skip
  have h15' : i < y.length := by have := of_decide_eq_true h15; omega
  obtain ⟨e, he⟩ : ∃ e, y[i]? = some e := ⟨_, List.getElem?_eq_getElem h15'⟩
  obtain ⟨gb, off, cap, hv, hra, hc0, hc1⟩ := tree_at hr12 he
  refine swp_skip ?_
  refine then_n ?_
  refine swp_seq ?_
  refine swp_block ?_
  refine swp_seq ?_
  refine swp_region ?_
  refine s_pu (pu_indexAddr (off + i * 2) (congrArg some hv) rfl (by omega) (by omega) (by rw [Int.toNat_natCast])) ?_
  refine s_rd (rd_roA rfl rfl hra) ?_
  refine s_ef (ef_alloc) ?_
  intro b5
  refine s_ef0 (ef_storeA rfl rfl rfl rfl) ?_
  refine swl_sub _ (.cons (t := 3) rfl (.cons (t := 5) rfl (.cons (t := 12) rfl (.cons (t := 13) rfl (.cons (t := 14) rfl .nil))))) ?_
  refine swl_nil ?_
  refine then_n ?_
  refine swp_draw [2, 4, 9] _ [] (by simp only [List.append_nil]; exact Ent.refl _) (by kernel_rfl) ?_
  refine d_pu 0 rfl (pu_move rfl) (by kernel_rfl) (by kernel_rfl) (by kernel_rfl) ?_
  first | refine d_pu 1 rfl (pu_fieldAddr0 rfl) (by kernel_rfl) (by kernel_rfl) (by kernel_rfl) ?_ | refine d_pu 1 rfl (pu_fieldAddr rfl) (by kernel_rfl) (by kernel_rfl) (by kernel_rfl) ?_
  refine d_rd 2 rfl (rd_load rfl rfl) rfl (by kernel_rfl) (by kernel_rfl) (by kernel_rfl) ?_
  first | refine d_pu 3 rfl (pu_fieldAddr0 rfl) (by kernel_rfl) (by kernel_rfl) (by kernel_rfl) ?_ | refine d_pu 3 rfl (pu_fieldAddr rfl) (by kernel_rfl) (by kernel_rfl) (by kernel_rfl) ?_
  refine d_rd 4 rfl (rd_load rfl rfl) rfl (by kernel_rfl) (by kernel_rfl) (by kernel_rfl) ?_
  refine d_pu 5 rfl (pu_strlen rfl) (by kernel_rfl) (by kernel_rfl) (by kernel_rfl) ?_
  refine d_pu 6 rfl (pu_min2 rfl rfl) (by kernel_rfl) (by kernel_rfl) (by kernel_rfl) ?_
  refine d_pu 7 rfl (pu_str_hi (min e.1.size 255) rfl rfl (by omega) (Nat.min_le_left _ _)) (by kernel_rfl) (by kernel_rfl) (by kernel_rfl) ?_
  first | refine d_pu 8 rfl (pu_fieldAddr0 rfl) (by kernel_rfl) (by kernel_rfl) (by kernel_rfl) ?_ | refine d_pu 8 rfl (pu_fieldAddr rfl) (by kernel_rfl) (by kernel_rfl) (by kernel_rfl) ?_
  refine d_rd 9 rfl (rd_load rfl rfl) rfl (by kernel_rfl) (by kernel_rfl) (by kernel_rfl) ?_
  refine d_pu 10 rfl (pu_bld (qs := [(0, _), (1, _)]) rfl) (by kernel_rfl) (by kernel_rfl) (by kernel_rfl) ?_
  first | refine d_fint 11 rfl (by kernel_rfl) (by kernel_rfl) (ef_bldS (qs := [(0, _)]) rfl rfl rfl) ?_ | refine d_finf 11 rfl (by kernel_rfl) (by kernel_rfl) (ef_bldS (qs := [(0, _)]) rfl rfl rfl) ?_
  intro b29
  first | refine d_fint 12 rfl (by kernel_rfl) (by kernel_rfl) (ef_append_lit (l := i) (m := 1) rfl rfl (by repeat (first | exact Split.nil | (apply Split.cons; (repeat (first | with_reducible exact Take.here | apply Take.there))))) (by simp only [maxLen]; omega) (by omega)) ?_ | refine d_finf 12 rfl (by kernel_rfl) (by kernel_rfl) (ef_append_lit (l := i) (m := 1) rfl rfl (by repeat (first | exact Split.nil | (apply Split.cons; (repeat (first | with_reducible exact Take.here | apply Take.there))))) (by simp only [maxLen]; omega) (by omega)) ?_
  rintro v30 -
  skip
  refine d_pu 13 rfl (pu_assign rfl) (by kernel_rfl) (by kernel_rfl) (by kernel_rfl) ?_
  refine d_sub _ (.cons (t := 3) rfl (.cons (t := 12) rfl (.cons (t := 13) rfl (.cons (t := 14) rfl .nil)))) ?_
  first | refine d_nilt (by kernel_rfl) ?_ | refine d_nilf (by kernel_rfl) ?_
  refine block_n ?_
  refine then_n ?_
  refine swp_region ?_
  refine s_pu (pu_add_as ((i + 1 : Nat) : Int) rfl rfl (by omega) (by omega) (by omega)) ?_
  refine s_pu (pu_move rfl) ?_
  refine swl_sub _ (.cons (t := 3) rfl (.cons (t := 12) rfl (.cons (t := 13) rfl (.cons (t := 14) rfl .nil)))) ?_
  refine swl_nil ?_
  refine then_n ⟨(i + 1, v30), ⟨⟨rfl, rfl, rfl, rfl, trivial⟩, ?_, h15'⟩, by show y.length - (i + 1) < y.length - i; omega⟩
  have e1 : ens ((y.take (i + 1)).map cutP) = ens ((y.take i).map cutP) ++ [.string (e.1.extract 0 (min e.1.size 255)), .int .u32 e.2] := by
   rw [List.take_add_one, he, List.map_append, ens_app]; rfl
  show Ent _ [own 52 2 v30 (i + 1) (ens ((y.take (i + 1)).map cutP)), ro μ]
  rw [e1]
  exact Split.ent' (by repeat (first | exact Split.nil | (apply Split.cons; (repeat (first | with_reducible exact Take.here | apply Take.there)))))
 ·skip
  have h15' := of_decide_eq_false h15
  obtain rfl : i = y.length := by omega
  rw [List.take_length]
  refine swp_exit ?_
  refine then_x ?_
  refine then_x ?_
  refine block_hit rfl ?_
  refine then_n ?_
  refine swp_seq ?_
  refine swp_share_own (v := cv) (μ := μ) (by repeat (first | exact Split.nil | (apply Split.cons; (repeat (first | with_reducible exact Take.here | apply Take.there))))) fun μ2 h2 hrow2 => ?_
  have hl2 : y.length = (y.map cutP).length := by rw [List.length_map]
  rw [hl2] at hrow2
  have hsh : ∀ e ∈ y.map cutP, e.1.size ≤ 255 := by
   intro e he
   obtain ⟨d, _, rfl⟩ := List.mem_map.1 he
   show (d.1.extract 0 (min d.1.size 255)).size ≤ 255
   rw [ByteArray.size_extract]; omega
  refine swp_region ?_
  refine s_pu (pu_move rfl) ?_
  refine s_ef (ef_fn (make_spec μ2 cv (y.map cutP) hrow2 (by rw [← hl2]; omega) hsh) rfl rfl (by repeat (first | exact Split.nil | (apply Split.cons; (repeat (first | with_reducible exact Take.here | apply Take.there)))))) ?_
  rintro v34 L1 ⟨μ3, tv, rfl, h3, hrow3, rfl⟩
  refine swl_app ?_
  refine s_pu (pu_move rfl) ?_
  first | refine s_pu (pu_extractL rfl) ?_ | refine s_pu (pu_extract rfl rfl) ?_
  first | refine s_pu (pu_extractL rfl) ?_ | refine s_pu (pu_extract rfl rfl) ?_
  refine s_pu (pu_assign rfl) ?_
  refine s_pu (pu_assign rfl) ?_
  refine swl_sub _ (.cons (t := 6) rfl .nil) ?_
  refine swl_nil ?_
  refine then_n ?_
  refine swp_seq ?_
  refine swp_region ?_
  refine s_pu (pu_move rfl) ?_
  refine s_pu (pu_assign rfl) ?_
  refine swl_sub _ (.cons (t := 2) rfl .nil) ?_
  refine swl_nil ?_
  refine then_n ?_
  refine swp_ret ?_
  refine done_ret [ro μ3] (.tmp rfl .nil) ⟨μ3, h2.trans h3, ?_, rfl⟩ (by repeat (first | exact Split.nil | (apply Split.cons; (repeat (first | with_reducible exact Take.here | apply Take.there)))))
  unfold goodE
  rw [← hyt]; exact hrow3
end SX
namespace SX
open Go Go.Proofs
theorem mark_specZ {b o t : Int} (hb : U32 b) (ho : U32 o) (ht : U32 t) : Spec Tryd.prog 29 [.int .u32 b, .int .u32 o, .int .u32 t] [] (fun r L => r = .int .u32 (markZ b o t) ∧ L = []) := by
  have := mark_spec (BitVec.ofInt 32 b) (BitVec.ofInt 32 o) (BitVec.ofInt 32 t)
  rw [← hb.bv, ← ho.bv, ← ht.bv] at this; exact this
end SX
namespace SX
open Go Go.Proofs
theorem cfs_app (a b : List Cf) : cfs (a ++ b) = cfs a ++ cfs b := List.flatMap_append
theorem outR_add (R : List Rw) (p : ByteArray) {b o t : Int} (h : ¬ (oneE b o t).1 = 0) : (outR (R ++ [(p, b, o, t)])).length = (outR R).length + 1 ∧ ens (outR (R ++ [(p, b, o, t)])) = ens (outR R) ++ [.string p, .int .u32 (oneE b o t).1] := by
  have e : outR1 (p, b, o, t) = [(p, (oneE b o t).1)] := if_neg h
  rw [outR_succ, e, ens_app, List.length_append]; exact ⟨rfl, rfl⟩
theorem outR_same (R : List Rw) (p : ByteArray) {b o t : Int} (h : (oneE b o t).1 = 0) : outR (R ++ [(p, b, o, t)]) = outR R := by
  have e : outR1 (p, b, o, t) = [] := if_pos h
  rw [outR_succ, e, List.append_nil]
theorem cfR_add (R : List Rw) (p : ByteArray) {b o t : Int} (h : (oneE b o t).2 = true) : (cfR (R ++ [(p, b, o, t)])).length = (cfR R).length + 1 ∧ cfs (cfR (R ++ [(p, b, o, t)])) = cfs (cfR R) ++ [.string p, .int .u32 b, .int .u32 o, .int .u32 t] := by
  have e : cfR1 (p, b, o, t) = [(p, b, o, t)] := if_pos h
  rw [cfR_succ, e, cfs_app, List.length_append]; exact ⟨rfl, rfl⟩
theorem cfR_same (R : List Rw) (p : ByteArray) {b o t : Int} (h : (oneE b o t).2 = false) : cfR (R ++ [(p, b, o, t)]) = cfR R := by
  have e : cfR1 (p, b, o, t) = [] := if_neg (fun k => by rw [show (oneE b o t).2 = true from k] at h; cases h)
  rw [cfR_succ, e, List.append_nil]
end SX
namespace SX
open Go Go.Proofs
abbrev sts (l : List ByteArray) : List Value := l.flatMap scsv
theorem sts_app (a b : List ByteArray) : sts (a ++ b) = sts a ++ sts b := List.flatMap_append
/-- the paths of the first i of three -/
def psK (a b c : List En) (i : Nat) : List ByteArray := ([a, b, c].take i).flatMap fun l => l.map (·.1)
theorem psK_succ {a b c l : List En} {i : Nat} (h : [a, b, c][i]? = some l) : psK a b c (i + 1) = psK a b c i ++ l.map (·.1) := by
  unfold psK; rw [List.take_add_one, h, List.flatMap_append]; simp
theorem psK_all (a b c : List En) : psK a b c 3 = a.map (·.1) ++ b.map (·.1) ++ c.map (·.1) := by
  simp [psK]
theorem psK_len {a b c : List En} {m : Nat} (hs : a.length ≤ m ∧ b.length ≤ m ∧ c.length ≤ m) {i : Nat} (hi : i ≤ 3) : (psK a b c i).length ≤ i * m := by
  unfold psK
  rcases Nat.lt_or_ge i 1 with h | h
  · obtain rfl : i = 0 := by omega
    simp
  · rcases Nat.lt_or_ge i 2 with h | h
    · obtain rfl : i = 1 := by omega
      simp; omega
    · rcases Nat.lt_or_ge i 3 with h | h
      · obtain rfl : i = 2 := by omega
        simp; omega
      · obtain rfl : i = 3 := by omega
        simp; omega
set_option maxHeartbeats 2000000 in
theorem paths_spec0 (μ : PH) (g : Nat) (va vb vc : Value) (a b c : List En) (ha : Row μ va 2 a.length (ens a)) (hb : Row μ vb 2 b.length (ens b)) (hc : Row μ vc 2 c.length (ens c)) (hsz : a.length ≤ 1048576 ∧ b.length ≤ 1048576 ∧ c.length ≤ 1048576) :
  Spec Tryd.prog 27 [.slice (some ⟨g, 0, none⟩) 3 3] [blk g 33 [va, vb, vc], ro μ] (fun r L => L = [own 9 1 r (cptS (srtS (psK a b c 3))).length (sts (cptS (srtS (psK a b c 3)))), ro μ]) := by
 have hT : ∀ i, i < 3 → ∃ l v, [a, b, c][i]? = some l ∧ [va, vb, vc][i]? = some v ∧ Row μ v 2 l.length (ens l) ∧ l.length ≤ 1048576 := by
  intro i hi
  rcases Nat.lt_or_ge i 1 with h | h
  ·obtain rfl : i = 0 := by omega
   exact ⟨a, va, rfl, rfl, ha, hsz.1⟩
  ·rcases Nat.lt_or_ge i 2 with h | h
   ·obtain rfl : i = 1 := by omega
    exact ⟨b, vb, rfl, rfl, hb, hsz.2.1⟩
   ·obtain rfl : i = 2 := by omega
    exact ⟨c, vc, rfl, rfl, hc, hsz.2.2⟩
 refine Spec.of 31 Tryd.func27 rfl rfl rfl ?_
 refine swp_seq ?_
 refine swp_region ?_
 refine s_pu (pu_assign rfl) ?_
 refine swl_sub _ (.cons (t := 0) rfl .nil) ?_
 refine swl_nil ?_
 refine then_n ?_
 refine swp_seq ?_
 refine swp_region ?_
 refine s_pu (pu_assign rfl) ?_
 refine swl_sub _ (.cons (t := 0) rfl (.cons (t := 3) rfl .nil)) ?_
 refine swl_nil ?_
 refine then_n ?_
 refine swp_seq ?_
 refine swp_seq ?_
 refine swp_region ?_
 refine s_pu (pu_move rfl) ?_
 refine s_pu (pu_len rfl) ?_
 refine s_pu (pu_move rfl) ?_
 refine swl_sub _ (.cons (t := 3) rfl (.cons (t := 8) rfl (.cons (t := 9) rfl (.cons (t := 10) rfl .nil)))) ?_
 refine swl_nil ?_
 refine then_n ?_
 refine swp_block ?_
 refine swp_ent (show Ent _ (own 9 1 (.slice none 0 0) (psK a b c 0).length (sts (psK a b c 0)) :: _) from own_nil_ent) ?_
 refine swp_loop (ι := Nat × Value) (fun k env L => Sub env [(3, k.2), (8, .slice (some ⟨g, 0, none⟩) 3 3), (9, .int .i64 3), (10, .int .i64 (k.1 : Nat))] ∧ Ent L [own 9 1 k.2 (psK a b c k.1).length (sts (psK a b c k.1)), blk g 33 [va, vb, vc], ro μ] ∧ k.1 ≤ 3) (fun k => 3 - k.1) (0, .slice none 0 0) ⟨⟨rfl, rfl, rfl, rfl, trivial⟩, Split.ent' (by repeat (first | exact Split.nil | (apply Split.cons; (repeat (first | with_reducible exact Take.here | apply Take.there))))), Nat.zero_le _⟩ ?_
 rintro ⟨i, v3⟩ env L ⟨hsub, hE, hi⟩
 simp only [] at hsub hE hi
 refine swp_sub _ hsub ?_
 refine swp_ent hE ?_
 clear hsub hE env L
 dsimp only
 refine swp_seq ?_
 refine swp_region ?_
 refine s_pu (pu_lss rfl rfl) ?_
 refine swl_sub _ (.cons (t := 3) rfl (.cons (t := 8) rfl (.cons (t := 9) rfl (.cons (t := 10) rfl (.cons (t := 11) rfl .nil))))) ?_
 refine swl_nil ?_
 refine then_n ?_
 refine swp_seq ?_
 refine swp_cond (b := _) rfl (fun h11 => ?_) (fun h11 => ?_)
 ·skip
  have h11' : i < 3 := by have := of_decide_eq_true h11; omega
  obtain ⟨l, vl, hl, hvl, hrow, hll⟩ := hT i h11'
  have hpl := psK_len hsz hi
  refine swp_skip ?_
  refine then_n ?_
  refine swp_seq ?_
  refine swp_block ?_
  refine swp_seq ?_
  refine swp_region ?_
  refine s_pu (pu_indexAddr i rfl rfl (by omega) (by omega) (by rw [Int.toNat_natCast]; omega)) ?_
  refine s_rd (rd_load rfl hvl) ?_
  refine s_pu (pu_assign rfl) ?_
  refine swl_sub _ (.cons (t := 3) rfl (.cons (t := 5) rfl (.cons (t := 8) rfl (.cons (t := 9) rfl (.cons (t := 10) rfl .nil))))) ?_
  refine swl_nil ?_
  refine then_n ?_
  refine swp_seq ?_
  refine swp_region ?_
  refine s_pu (pu_move rfl) ?_
  refine s_pu (pu_len_row hrow rfl) ?_
  refine s_pu (pu_move rfl) ?_
  refine swl_sub _ (.cons (t := 3) rfl (.cons (t := 8) rfl (.cons (t := 9) rfl (.cons (t := 10) rfl (.cons (t := 14) rfl (.cons (t := 15) rfl (.cons (t := 16) rfl .nil))))))) ?_
  refine swl_nil ?_
  refine then_n ?_
  refine swp_block ?_
  refine swp_ent (show Ent _ [own 9 1 v3 (psK a b c i ++ (l.take 0).map (·.1)).length (sts (psK a b c i ++ (l.take 0).map (·.1))), blk g 33 [va, vb, vc], ro μ] from (by rw [List.take_zero, List.map_nil, List.append_nil]; exact Split.ent' (by repeat (first | exact Split.nil | (apply Split.cons; (repeat (first | with_reducible exact Take.here | apply Take.there))))))) ?_
  refine swp_loop (ι := Nat × Value) (fun k env L => Sub env [(3, k.2), (8, .slice (some ⟨g, 0, none⟩) 3 3), (9, .int .i64 3), (10, .int .i64 (i : Nat)), (14, vl), (15, .int .i64 (l.length : Nat)), (16, .int .i64 (k.1 : Nat))] ∧ Ent L [own 9 1 k.2 (psK a b c i ++ (l.take k.1).map (·.1)).length (sts (psK a b c i ++ (l.take k.1).map (·.1))), blk g 33 [va, vb, vc], ro μ] ∧ k.1 ≤ l.length) (fun k => l.length - k.1) (0, v3) ⟨⟨rfl, rfl, rfl, rfl, rfl, rfl, rfl, trivial⟩, Split.ent' (by repeat (first | exact Split.nil | (apply Split.cons; (repeat (first | with_reducible exact Take.here | apply Take.there))))), Nat.zero_le _⟩ ?_
  rintro ⟨j, v4⟩ env L ⟨hsub, hE, hj⟩
  simp only [] at hsub hE hj
  refine swp_sub _ hsub ?_
  refine swp_ent hE ?_
  clear hsub hE env L
  dsimp only
  refine swp_seq ?_
  refine swp_region ?_
  refine s_pu (pu_lss rfl rfl) ?_
  refine swl_sub _ (.cons (t := 3) rfl (.cons (t := 8) rfl (.cons (t := 9) rfl (.cons (t := 10) rfl (.cons (t := 14) rfl (.cons (t := 15) rfl (.cons (t := 16) rfl (.cons (t := 17) rfl .nil)))))))) ?_
  refine swl_nil ?_
  refine then_n ?_
  refine swp_seq ?_
  refine swp_cond (b := _) rfl (fun h17 => ?_) (fun h17 => ?_)
  ·skip
   have h17' : j < l.length := by have := of_decide_eq_true h17; omega
   obtain ⟨e, he⟩ : ∃ e, l[j]? = some e := ⟨_, List.getElem?_eq_getElem h17'⟩
   obtain ⟨gb, off, cap, hv, hra, hc0, hc1⟩ := tree_at hrow he
   have hql : (psK a b c i ++ (l.take j).map (·.1)).length ≤ 4194304 := by rw [List.length_append, List.length_map, List.length_take]; omega
   refine swp_skip ?_
   refine then_n ?_
   refine swp_seq ?_
   refine swp_block ?_
   refine swp_seq ?_
   refine swp_region ?_
   refine s_pu (pu_indexAddr (off + j * 2) (congrArg some hv) rfl (by omega) (by omega) (by rw [Int.toNat_natCast])) ?_
   refine s_rd (rd_roA rfl rfl hra) ?_
   refine s_ef (ef_alloc) ?_
   intro b7
   refine s_ef0 (ef_storeA rfl rfl rfl rfl) ?_
   refine swl_sub _ (.cons (t := 3) rfl (.cons (t := 7) rfl (.cons (t := 8) rfl (.cons (t := 9) rfl (.cons (t := 10) rfl (.cons (t := 14) rfl (.cons (t := 15) rfl (.cons (t := 16) rfl .nil)))))))) ?_
   refine swl_nil ?_
   refine then_n ?_
   refine swp_region ?_
   refine s_pu (pu_move rfl) ?_
   first | refine s_pu (pu_fieldAddr0 rfl) ?_ | refine s_pu (pu_fieldAddr rfl) ?_
   refine s_rd (rd_load rfl rfl) ?_
   refine s_ef (ef_bldS (qs := [(0, _)]) rfl rfl rfl) ?_
   intro b23
   refine s_ef (ef_append_lit (m := 1) rfl rfl (by repeat (first | exact Split.nil | (apply Split.cons; (repeat (first | with_reducible exact Take.here | apply Take.there))))) (by simp only [maxLen]; omega) (by omega)) ?_
   rintro v24 -
   skip
   refine s_pu (pu_assign rfl) ?_
   refine swl_sub _ (.cons (t := 3) rfl (.cons (t := 8) rfl (.cons (t := 9) rfl (.cons (t := 10) rfl (.cons (t := 14) rfl (.cons (t := 15) rfl (.cons (t := 16) rfl .nil))))))) ?_
   refine swl_nil ?_
   refine block_n ?_
   refine then_n ?_
   refine swp_region ?_
   refine s_pu (pu_add_as ((j + 1 : Nat) : Int) rfl rfl (by omega) (by omega) (by omega)) ?_
   refine s_pu (pu_move rfl) ?_
   refine swl_sub _ (.cons (t := 3) rfl (.cons (t := 8) rfl (.cons (t := 9) rfl (.cons (t := 10) rfl (.cons (t := 14) rfl (.cons (t := 15) rfl (.cons (t := 16) rfl .nil))))))) ?_
   refine swl_nil ?_
   refine then_n ⟨(j + 1, v24), ⟨⟨rfl, rfl, rfl, rfl, rfl, rfl, rfl, trivial⟩, ?_, h17'⟩, by show l.length - (j + 1) < l.length - j; omega⟩
   have q0 : psK a b c i ++ (l.take (j + 1)).map (·.1) = (psK a b c i ++ (l.take j).map (·.1)) ++ [e.1] := by
    rw [List.take_add_one, he, List.map_append, List.append_assoc]; rfl
   have q1 : ∀ q : List ByteArray, (q ++ [e.1]).length = q.length + 1 ∧ sts (q ++ [e.1]) = sts q ++ [.string e.1] := fun q => ⟨by rw [List.length_append]; rfl, by rw [sts_app]; rfl⟩
   show Ent _ [own 9 1 v24 (psK a b c i ++ (l.take (j + 1)).map (·.1)).length (sts (psK a b c i ++ (l.take (j + 1)).map (·.1))), blk g 33 [va, vb, vc], ro μ]
   rw [q0, (q1 _).1, (q1 _).2]
   exact Split.ent' (by repeat (first | exact Split.nil | (apply Split.cons; (repeat (first | with_reducible exact Take.here | apply Take.there)))))
  ·skip
   have h17' := of_decide_eq_false h17
   obtain rfl : j = l.length := by omega
   rw [List.take_length, ← psK_succ hl]
   refine swp_exit ?_
   refine then_x ?_
   refine then_x ?_
   refine block_hit rfl ?_
   refine block_n ?_
   refine then_n ?_
   refine swp_region ?_
   refine s_pu (pu_add_as ((i + 1 : Nat) : Int) rfl rfl (by omega) (by omega) (by omega)) ?_
   refine s_pu (pu_move rfl) ?_
   refine swl_sub _ (.cons (t := 3) rfl (.cons (t := 8) rfl (.cons (t := 9) rfl (.cons (t := 10) rfl .nil)))) ?_
   refine swl_nil ?_
   exact then_n ⟨(i + 1, v4), ⟨⟨rfl, rfl, rfl, rfl, trivial⟩, Split.ent' (by repeat (first | exact Split.nil | (apply Split.cons; (repeat (first | with_reducible exact Take.here | apply Take.there))))), h11'⟩, by show 3 - (i + 1) < 3 - i; omega⟩
 ·skip
  have h11' := of_decide_eq_false h11
  obtain rfl : i = 3 := by omega
  have hpl := psK_len hsz (Nat.le_refl 3)
  refine swp_exit ?_
  refine then_x ?_
  refine then_x ?_
  refine block_hit rfl ?_
  refine then_n ?_
  refine swp_seq ?_
  refine swp_region ?_
  refine s_pu (pu_move rfl) ?_
  refine s_ef (ef_fn (sort_strs Tryd.slices_Sort_string Tryd.slices_Sort_string_none v3 (psK a b c 3) (by omega)) rfl rfl (by repeat (first | exact Split.nil | (apply Split.cons; (repeat (first | with_reducible exact Take.here | apply Take.there)))))) ?_
  rintro v28 L1 ⟨rfl, rfl⟩
  refine swl_app ?_
  refine swl_sub _ (.cons (t := 3) rfl .nil) ?_
  refine swl_nil ?_
  refine then_n ?_
  refine swp_seq ?_
  rw [← srtS_len (psK a b c 3)]
  refine swp_region ?_
  refine s_pu (pu_move rfl) ?_
  refine s_ef (ef_fn (compact_strs (e := 9) Tryd.slices_Compact_string Tryd.slices_Compact_string_empty v3 (srtS (psK a b c 3)) (by rw [srtS_len]; omega)) rfl rfl (by repeat (first | exact Split.nil | (apply Split.cons; (repeat (first | with_reducible exact Take.here | apply Take.there)))))) ?_
  rintro v30 L1 rfl
  refine swl_app ?_
  refine s_pu (pu_assign rfl) ?_
  refine swl_sub _ (.cons (t := 2) rfl .nil) ?_
  refine swl_nil ?_
  refine then_n ?_
  refine swp_ret ?_
  exact done_ret [own 9 1 v30 (cptS (srtS (psK a b c 3))).length (sts (cptS (srtS (psK a b c 3)))), ro μ] (.tmp rfl .nil) rfl (by repeat (first | exact Split.nil | (apply Split.cons; (repeat (first | with_reducible exact Take.here | apply Take.there)))))
theorem paths_spec (μ : PH) (g : Nat) (va vb vc : Value) (a b c : List En) (ha : Row μ va 2 a.length (ens a)) (hb : Row μ vb 2 b.length (ens b)) (hc : Row μ vc 2 c.length (ens c)) (hsz : a.length ≤ 1048576 ∧ b.length ≤ 1048576 ∧ c.length ≤ 1048576) :
    Spec Tryd.prog 27 [.slice (some ⟨g, 0, none⟩) 3 3] [blk g 33 [va, vb, vc], ro μ] (fun r L => L = [own 9 1 r (pathsE a b c).length (sts (pathsE a b c)), ro μ]) := by
  have := paths_spec0 μ g va vb vc a b c ha hb hc hsz
  rw [psK_all] at this; exact this
end SX
namespace SX
open Go Go.Proofs
theorem pathsE_len (a b c : List En) : (pathsE a b c).length ≤ a.length + b.length + c.length := by
  have := uniS_len (a.map (·.1) ++ b.map (·.1) ++ c.map (·.1))
  rw [List.length_append, List.length_append, List.length_map, List.length_map, List.length_map] at this
  exact this
set_option maxHeartbeats 4000000 in
theorem three_spec (μ : PH) (va vb vc : Value) (a b c : List En) (ha : Row μ va 2 a.length (ens a)) (hb : Row μ vb 2 b.length (ens b)) (hc : Row μ vc 2 c.length (ens c)) (hsz : a.length ≤ 1048576 ∧ b.length ≤ 1048576 ∧ c.length ≤ 1048576)
  (hu : U32s a ∧ U32s b ∧ U32s c) : Spec Tryd.prog 16 [va, vb, vc] [ro μ] (fun r L => ∃ v8 v9 μ', Le μ μ' ∧ r = .tuple #[v8, v9] ∧ L = [own 52 2 v8 (outR (rowsB a b c)).length (ens (outR (rowsB a b c))), own 96 4 v9 (cfR (rowsB a b c)).length (cfs (cfR (rowsB a b c))), ro μ']) := by
 have hpl := pathsE_len a b c
 generalize hrs : rowsB a b c = rs
 have hrl : rs.length = (pathsE a b c).length := by rw [← hrs]; unfold rowsB; rw [List.length_map]
 have hrg : ∀ i p, (pathsE a b c)[i]? = some p → rs[i]? = some (p, lookB a p, lookB b p, lookB c p) := fun i p h => by
  rw [← hrs]; unfold rowsB; rw [List.getElem?_map, h]; rfl
 have hps := fun g => paths_spec μ g va vb vc a b c ha hb hc hsz
 generalize pathsE a b c = ps at hpl hrl hrg hps
 obtain ⟨Aa, ca, hva⟩ := ha.sl
 obtain ⟨Ab, cb, hvb⟩ := hb.sl
 obtain ⟨Ac, cc, hvc⟩ := hc.sl
 subst hva hvb hvc
 refine Spec.of 73 Tryd.func16 rfl rfl rfl ?_
 refine swp_seq ?_
 refine swp_region ?_
 refine s_pu (pu_assign rfl) ?_
 refine s_pu (pu_assign rfl) ?_
 refine swl_sub _ (.cons (t := 0) rfl (.cons (t := 1) rfl (.cons (t := 2) rfl .nil))) ?_
 refine swl_nil ?_
 refine then_n ?_
 refine swp_seq ?_
 refine swp_region ?_
 refine s_pu (pu_assign rfl) ?_
 refine swl_sub _ (.cons (t := 0) rfl (.cons (t := 1) rfl (.cons (t := 2) rfl (.cons (t := 8) rfl .nil)))) ?_
 refine swl_nil ?_
 refine then_n ?_
 refine swp_seq ?_
 refine swp_region ?_
 refine s_pu (pu_assign rfl) ?_
 refine swl_sub _ (.cons (t := 0) rfl (.cons (t := 1) rfl (.cons (t := 2) rfl (.cons (t := 8) rfl (.cons (t := 9) rfl .nil))))) ?_
 refine swl_nil ?_
 refine then_n ?_
 refine swp_seq ?_
 refine swp_seq ?_
 refine swp_region ?_
 refine s_pu (pu_move rfl) ?_
 refine s_pu (pu_move rfl) ?_
 refine s_pu (pu_move rfl) ?_
 refine s_ef (ef_bldS (qs := [(0, _), (1, _), (2, _)]) rfl rfl rfl) ?_
 intro b19
 refine s_ef (ef_fn (hps b19) rfl rfl (by repeat (first | exact Split.nil | (apply Split.cons; (repeat (first | with_reducible exact Take.here | apply Take.there)))))) ?_
 rintro v20 L1 rfl
 refine swl_app ?_
 refine swl_share_own (v := v20) (μ := μ) (by repeat (first | exact Split.nil | (apply Split.cons; (repeat (first | with_reducible exact Take.here | apply Take.there))))) fun μ1 hle hrow => ?_
 have ra := ha.le hle
 have rb := hb.le hle
 have rc := hc.le hle
 refine s_pu (pu_len_row hrow rfl) ?_
 refine s_pu (pu_move rfl) ?_
 refine swl_sub _ (.cons (t := 0) rfl (.cons (t := 1) rfl (.cons (t := 2) rfl (.cons (t := 8) rfl (.cons (t := 9) rfl (.cons (t := 20) rfl (.cons (t := 21) rfl (.cons (t := 22) rfl .nil)))))))) ?_
 refine swl_nil ?_
 refine then_n ?_
 refine swp_block ?_
 refine swp_ent (show Ent _ (own 52 2 (.slice none 0 0) (outR (rs.take 0)).length (ens (outR (rs.take 0))) :: _) from own_nil_ent) ?_
 refine swp_ent (show Ent _ (own 96 4 (.slice none 0 0) (cfR (rs.take 0)).length (cfs (cfR (rs.take 0))) :: _) from own_nil_ent) ?_
 refine swp_loop (ι := Nat × Value × Value) (fun k env L => Sub env [(0, (.slice Aa a.length ca)), (1, (.slice Ab b.length cb)), (2, (.slice Ac c.length cc)), (8, k.2.1), (9, k.2.2), (20, v20), (21, .int .i64 (ps.length : Nat)), (22, .int .i64 (k.1 : Nat))] ∧ Ent L [own 52 2 k.2.1 (outR (rs.take k.1)).length (ens (outR (rs.take k.1))), own 96 4 k.2.2 (cfR (rs.take k.1)).length (cfs (cfR (rs.take k.1))), ro μ1] ∧ k.1 ≤ ps.length) (fun k => ps.length - k.1) (0, .slice none 0 0, .slice none 0 0) ⟨⟨rfl, rfl, rfl, rfl, rfl, rfl, rfl, rfl, trivial⟩, Split.ent' (by repeat (first | exact Split.nil | (apply Split.cons; (repeat (first | with_reducible exact Take.here | apply Take.there))))), Nat.zero_le _⟩ ?_
 rintro ⟨i, v8, v9⟩ env L ⟨hsub, hE, hi⟩
 simp only [] at hsub hE hi
 refine swp_sub _ hsub ?_
 refine swp_ent hE ?_
 clear hsub hE env L
 dsimp only
 refine swp_seq ?_
 refine swp_region ?_
 refine s_pu (pu_lss rfl rfl) ?_
 refine swl_sub _ (.cons (t := 0) rfl (.cons (t := 1) rfl (.cons (t := 2) rfl (.cons (t := 8) rfl (.cons (t := 9) rfl (.cons (t := 20) rfl (.cons (t := 21) rfl (.cons (t := 22) rfl (.cons (t := 23) rfl .nil))))))))) ?_
 refine swl_nil ?_
 refine then_n ?_
 refine swp_seq ?_
 refine swp_cond (b := _) rfl (fun h23 => ?_) (fun h23 => ?_)
 ·skip
  have h23' : i < ps.length := by have := of_decide_eq_true h23; omega
  obtain ⟨p, hp⟩ : ∃ p, ps[i]? = some p := ⟨_, List.getElem?_eq_getElem h23'⟩
  obtain ⟨gb, off, cap, hv, _, _, hr⟩ := hrow.pos (by omega)
  have hcp := hr.elem (f := scsv) (n := 1) scsv_len hp
  have hgp := hrg i p hp
  have htk : rs.take (i + 1) = rs.take i ++ [(p, lookB a p, lookB b p, lookB c p)] := by rw [List.take_add_one, hgp]; rfl
  have ua := hu.1.lookB p
  have ub := hu.2.1.lookB p
  have uc := hu.2.2.lookB p
  have hol : (outR (rs.take i)).length ≤ 4194304 := by have := outR_len (rs.take i); rw [List.length_take] at this; omega
  have hcl : (cfR (rs.take i)).length ≤ 4194304 := by have := cfR_len (rs.take i); rw [List.length_take] at this; omega
  refine swp_skip ?_
  refine then_n ?_
  refine swp_seq ?_
  refine swp_block ?_
  refine swp_seq ?_
  refine swp_region ?_
  refine s_pu (pu_indexAddr (off + i * 1) (congrArg some hv) rfl (by omega) (by omega) (by rw [Int.toNat_natCast])) ?_
  refine s_rd (rd_ro rfl hcp.cell) ?_
  refine s_pu (pu_assign rfl) ?_
  refine swl_sub _ (.cons (t := 0) rfl (.cons (t := 1) rfl (.cons (t := 2) rfl (.cons (t := 8) rfl (.cons (t := 9) rfl (.cons (t := 11) rfl (.cons (t := 20) rfl (.cons (t := 21) rfl (.cons (t := 22) rfl .nil))))))))) ?_
  refine swl_nil ?_
  refine then_n ?_
  refine swp_seq ?_
  refine swp_region ?_
  refine s_pu (pu_move rfl) ?_
  refine s_pu (pu_move rfl) ?_
  refine s_ef (ef_fn (look_spec μ1 (.slice Aa a.length ca) a p ra hsz.1) rfl rfl (by repeat (first | exact Split.nil | (apply Split.cons; (repeat (first | with_reducible exact Take.here | apply Take.there)))))) ?_
  rintro v28 L1 ⟨rfl, rfl⟩
  refine swl_app ?_
  refine s_pu (pu_move rfl) ?_
  refine s_pu (pu_move rfl) ?_
  refine s_ef (ef_fn (look_spec μ1 (.slice Ab b.length cb) b p rb hsz.2.1) rfl rfl (by repeat (first | exact Split.nil | (apply Split.cons; (repeat (first | with_reducible exact Take.here | apply Take.there)))))) ?_
  rintro v31 L1 ⟨rfl, rfl⟩
  refine swl_app ?_
  refine s_pu (pu_move rfl) ?_
  refine s_pu (pu_move rfl) ?_
  refine s_ef (ef_fn (look_spec μ1 (.slice Ac c.length cc) c p rc hsz.2.2) rfl rfl (by repeat (first | exact Split.nil | (apply Split.cons; (repeat (first | with_reducible exact Take.here | apply Take.there)))))) ?_
  rintro v34 L1 ⟨rfl, rfl⟩
  refine swl_app ?_
  refine s_pu (pu_assign rfl) ?_
  refine s_pu (pu_assign rfl) ?_
  refine s_pu (pu_assign rfl) ?_
  refine swl_sub _ (.cons (t := 0) rfl (.cons (t := 1) rfl (.cons (t := 2) rfl (.cons (t := 8) rfl (.cons (t := 9) rfl (.cons (t := 11) rfl (.cons (t := 12) rfl (.cons (t := 13) rfl (.cons (t := 14) rfl (.cons (t := 20) rfl (.cons (t := 21) rfl (.cons (t := 22) rfl .nil)))))))))))) ?_
  refine swl_nil ?_
  refine then_n ?_
  refine swp_seq ?_
  generalize lookB a p = xb at ua htk
  generalize lookB b p = xo at ub htk
  generalize lookB c p = xt at uc htk
  refine swp_region ?_
  refine s_pu (pu_move rfl) ?_
  refine s_pu (pu_assign rfl) ?_
  refine swl_sub _ (.cons (t := 0) rfl (.cons (t := 1) rfl (.cons (t := 2) rfl (.cons (t := 8) rfl (.cons (t := 9) rfl (.cons (t := 11) rfl (.cons (t := 12) rfl (.cons (t := 13) rfl (.cons (t := 14) rfl (.cons (t := 15) rfl (.cons (t := 20) rfl (.cons (t := 21) rfl (.cons (t := 22) rfl .nil))))))))))))) ?_
  refine swl_nil ?_
  refine then_n ?_
  refine swp_cut (fun env L => ∃ v9', Sub env [(0, (.slice Aa a.length ca)), (1, (.slice Ab b.length cb)), (2, (.slice Ac c.length cc)), (8, v8), (9, v9'), (11, .string p), (15, .int .u32 (oneE xb xo xt).1), (20, v20), (21, .int .i64 (ps.length : Nat)), (22, .int .i64 (i : Nat))] ∧ Ent L [own 52 2 v8 (outR (rs.take i)).length (ens (outR (rs.take i))), own 96 4 v9' (cfR (rs.take (i + 1))).length (cfs (cfR (rs.take (i + 1)))), ro μ1]) ?_ ?_
  ·skip
   refine swp_block ?_
   refine swp_seq ?_
   refine swp_region ?_
   refine s_pu (pu_move rfl) ?_
   refine s_pu (pu_move rfl) ?_
   refine s_pu (pu_eql rfl rfl) ?_
   refine s_pu (pu_move rfl) ?_
   refine s_split 52 rfl (fun h52 => ?_) (fun h52 => ?_)
   ·skip
    refine s_off rfl rfl rfl ?_
    refine s_off rfl rfl rfl ?_
    refine s_off rfl rfl rfl ?_
    first | refine s_pu (pu_pick_t rfl rfl) ?_ | refine s_pu (pu_pick_f rfl rfl) ?_
    refine s_pu (pu_assign rfl) ?_
    refine swl_sub _ (.cons (t := 0) rfl (.cons (t := 1) rfl (.cons (t := 2) rfl (.cons (t := 8) rfl (.cons (t := 9) rfl (.cons (t := 11) rfl (.cons (t := 12) rfl (.cons (t := 13) rfl (.cons (t := 14) rfl (.cons (t := 15) rfl (.cons (t := 20) rfl (.cons (t := 21) rfl (.cons (t := 22) rfl (.cons (t := 48) rfl .nil)))))))))))))) ?_
    refine swl_nil ?_
    refine then_n ?_
    refine swp_cond (b := _) rfl (fun h48 => ?_) (fun h48 => by cases h48)
    refine swp_skip ?_
    refine block_n ?_
    have e1 : oneE xb xo xt = (xo, false) := if_pos (Or.inl (of_decide_eq_true h52))
    refine then_n ⟨v9, ⟨rfl, rfl, rfl, rfl, rfl, rfl, by rw [e1]; rfl, rfl, rfl, rfl, trivial⟩, ?_⟩
    rw [htk, cfR_same (rs.take i) p (show (oneE xb xo xt).2 = false by rw [e1])]
    exact Split.ent' (by repeat (first | exact Split.nil | (apply Split.cons; (repeat (first | with_reducible exact Take.here | apply Take.there)))))
   ·skip
    refine s_on rfl rfl ?_
    refine s_pu (pu_move rfl) ?_
    refine s_on rfl rfl ?_
    refine s_pu (pu_move rfl) ?_
    refine s_on rfl rfl ?_
    refine s_pu (pu_eql rfl rfl) ?_
    first | refine s_pu (pu_pick_t rfl rfl) ?_ | refine s_pu (pu_pick_f rfl rfl) ?_
    refine s_pu (pu_assign rfl) ?_
    refine swl_sub _ (.cons (t := 0) rfl (.cons (t := 1) rfl (.cons (t := 2) rfl (.cons (t := 8) rfl (.cons (t := 9) rfl (.cons (t := 11) rfl (.cons (t := 12) rfl (.cons (t := 13) rfl (.cons (t := 14) rfl (.cons (t := 15) rfl (.cons (t := 20) rfl (.cons (t := 21) rfl (.cons (t := 22) rfl (.cons (t := 48) rfl .nil)))))))))))))) ?_
    refine swl_nil ?_
    refine then_n ?_
    refine swp_cond (b := _) rfl (fun h48 => ?_) (fun h48 => ?_)
    ·skip
     refine swp_skip ?_
     refine block_n ?_
     have e1 : oneE xb xo xt = (xo, false) := if_pos (Or.inr (of_decide_eq_true h48))
     refine then_n ⟨v9, ⟨rfl, rfl, rfl, rfl, rfl, rfl, by rw [e1]; rfl, rfl, rfl, rfl, trivial⟩, ?_⟩
     rw [htk, cfR_same (rs.take i) p (show (oneE xb xo xt).2 = false by rw [e1])]
     exact Split.ent' (by repeat (first | exact Split.nil | (apply Split.cons; (repeat (first | with_reducible exact Take.here | apply Take.there)))))
    ·skip
     have k0 : ¬ (xo = xt ∨ xb = xt) := fun k => k.elim (of_decide_eq_false h52) (of_decide_eq_false h48)
     refine swp_seq ?_
     refine swp_region ?_
     refine s_pu (pu_move rfl) ?_
     refine s_pu (pu_move rfl) ?_
     refine s_pu (pu_eql rfl rfl) ?_
     refine s_pu (pu_assign rfl) ?_
     refine swl_sub _ (.cons (t := 0) rfl (.cons (t := 1) rfl (.cons (t := 2) rfl (.cons (t := 8) rfl (.cons (t := 9) rfl (.cons (t := 11) rfl (.cons (t := 12) rfl (.cons (t := 13) rfl (.cons (t := 14) rfl (.cons (t := 20) rfl (.cons (t := 21) rfl (.cons (t := 22) rfl (.cons (t := 57) rfl .nil))))))))))))) ?_
     refine swl_nil ?_
     refine then_n ?_
     refine swp_cond (b := _) rfl (fun h57 => ?_) (fun h57 => ?_)
     ·skip
      refine swp_region ?_
      refine s_pu (pu_move rfl) ?_
      refine s_pu (pu_assign rfl) ?_
      refine swl_sub _ (.cons (t := 0) rfl (.cons (t := 1) rfl (.cons (t := 2) rfl (.cons (t := 8) rfl (.cons (t := 9) rfl (.cons (t := 11) rfl (.cons (t := 15) rfl (.cons (t := 20) rfl (.cons (t := 21) rfl (.cons (t := 22) rfl .nil)))))))))) ?_
      refine swl_nil ?_
      refine block_n ?_
      have e1 : oneE xb xo xt = (xt, false) := by unfold oneE; rw [if_neg k0, if_pos (of_decide_eq_true h57)]
      refine then_n ⟨v9, ⟨rfl, rfl, rfl, rfl, rfl, rfl, by rw [e1]; rfl, rfl, rfl, rfl, trivial⟩, ?_⟩
      rw [htk, cfR_same (rs.take i) p (show (oneE xb xo xt).2 = false by rw [e1])]
      exact Split.ent' (by repeat (first | exact Split.nil | (apply Split.cons; (repeat (first | with_reducible exact Take.here | apply Take.there)))))
     ·skip
      refine swp_seq ?_
      refine swp_region ?_
      refine s_pu (pu_move rfl) ?_
      refine s_pu (pu_move rfl) ?_
      refine s_pu (pu_move rfl) ?_
      refine s_ef (ef_fn (mark_specZ ua ub uc) rfl rfl (by repeat (first | exact Split.nil | (apply Split.cons; (repeat (first | with_reducible exact Take.here | apply Take.there)))))) ?_
      rintro v39 L1 ⟨rfl, rfl⟩
      refine swl_app ?_
      refine s_pu (pu_assign rfl) ?_
      refine swl_sub _ (.cons (t := 0) rfl (.cons (t := 1) rfl (.cons (t := 2) rfl (.cons (t := 8) rfl (.cons (t := 9) rfl (.cons (t := 11) rfl (.cons (t := 12) rfl (.cons (t := 13) rfl (.cons (t := 14) rfl (.cons (t := 15) rfl (.cons (t := 20) rfl (.cons (t := 21) rfl (.cons (t := 22) rfl .nil))))))))))))) ?_
      refine swl_nil ?_
      refine then_n ?_
      refine swp_region ?_
      refine s_pu (pu_move rfl) ?_
      refine s_pu (pu_move rfl) ?_
      refine s_pu (pu_move rfl) ?_
      refine s_pu (pu_move rfl) ?_
      refine s_pu (pu_move rfl) ?_
      refine s_pu (pu_bld (qs := [(0, _), (1, _), (2, _), (3, _)]) rfl) ?_
      refine s_ef (ef_bldS (qs := [(0, _)]) rfl rfl rfl) ?_
      intro b46
      refine s_ef (ef_append_lit (l := (cfR (rs.take i)).length) (m := 1) rfl rfl (by repeat (first | exact Split.nil | (apply Split.cons; (repeat (first | with_reducible exact Take.here | apply Take.there))))) (by simp only [maxLen]; omega) (by omega)) ?_
      rintro v47 -
      skip
      refine s_pu (pu_assign rfl) ?_
      refine swl_sub _ (.cons (t := 0) rfl (.cons (t := 1) rfl (.cons (t := 2) rfl (.cons (t := 8) rfl (.cons (t := 9) rfl (.cons (t := 11) rfl (.cons (t := 15) rfl (.cons (t := 20) rfl (.cons (t := 21) rfl (.cons (t := 22) rfl .nil)))))))))) ?_
      refine swl_nil ?_
      refine block_n ?_
      have e1 : oneE xb xo xt = (markZ xb xo xt, true) := by unfold oneE; rw [if_neg k0, if_neg (of_decide_eq_false h57)]
      refine then_n ⟨v47, ⟨rfl, rfl, rfl, rfl, rfl, rfl, by rw [e1]; rfl, rfl, rfl, rfl, trivial⟩, ?_⟩
      obtain ⟨q1, q2⟩ := cfR_add (rs.take i) p (show (oneE xb xo xt).2 = true by rw [e1])
      rw [htk, q1, q2]
      exact Split.ent' (by repeat (first | exact Split.nil | (apply Split.cons; (repeat (first | with_reducible exact Take.here | apply Take.there)))))
  rintro env L ⟨v9', hsub, hE⟩
  refine swp_sub _ hsub ?_
  refine swp_ent hE ?_
  clear hsub hE env L
  refine swp_seq ?_
  refine swp_region ?_
  refine s_pu (pu_move rfl) ?_
  refine s_pu (pu_neq rfl rfl) ?_
  refine swl_sub _ (.cons (t := 0) rfl (.cons (t := 1) rfl (.cons (t := 2) rfl (.cons (t := 8) rfl (.cons (t := 9) rfl (.cons (t := 11) rfl (.cons (t := 15) rfl (.cons (t := 20) rfl (.cons (t := 21) rfl (.cons (t := 22) rfl (.cons (t := 63) rfl .nil))))))))))) ?_
  refine swl_nil ?_
  refine then_n ?_
  refine swp_cond (b := _) rfl (fun h63 => ?_) (fun h63 => ?_)
  ·skip
   refine swp_region ?_
   refine s_pu (pu_move rfl) ?_
   refine s_pu (pu_move rfl) ?_
   refine s_pu (pu_move rfl) ?_
   refine s_pu (pu_bld (qs := [(0, _), (1, _)]) rfl) ?_
   refine s_ef (ef_bldS (qs := [(0, _)]) rfl rfl rfl) ?_
   intro b68
   refine s_ef (ef_append_lit (l := (outR (rs.take i)).length) (m := 1) rfl rfl (by repeat (first | exact Split.nil | (apply Split.cons; (repeat (first | with_reducible exact Take.here | apply Take.there))))) (by simp only [maxLen]; omega) (by omega)) ?_
   rintro v69 -
   skip
   refine s_pu (pu_assign rfl) ?_
   refine swl_sub _ (.cons (t := 0) rfl (.cons (t := 1) rfl (.cons (t := 2) rfl (.cons (t := 8) rfl (.cons (t := 9) rfl (.cons (t := 20) rfl (.cons (t := 21) rfl (.cons (t := 22) rfl .nil)))))))) ?_
   refine swl_nil ?_
   refine block_n ?_
   refine then_n ?_
   refine swp_region ?_
   refine s_pu (pu_add_as ((i + 1 : Nat) : Int) rfl rfl (by omega) (by omega) (by omega)) ?_
   refine s_pu (pu_move rfl) ?_
   refine swl_sub _ (.cons (t := 0) rfl (.cons (t := 1) rfl (.cons (t := 2) rfl (.cons (t := 8) rfl (.cons (t := 9) rfl (.cons (t := 20) rfl (.cons (t := 21) rfl (.cons (t := 22) rfl .nil)))))))) ?_
   refine swl_nil ?_
   have h63' : ¬ (oneE xb xo xt).1 = 0 := by simpa using h63
   refine then_n ⟨(i + 1, v69, v9'), ⟨⟨rfl, rfl, rfl, rfl, rfl, rfl, rfl, rfl, trivial⟩, ?_, h23'⟩, by show ps.length - (i + 1) < ps.length - i; omega⟩
   obtain ⟨q1, q2⟩ := outR_add (rs.take i) p h63'
   have e2 : outR (rs.take (i + 1)) = outR (rs.take i ++ [(p, xb, xo, xt)]) := by rw [htk]
   show Ent _ [own 52 2 v69 (outR (rs.take (i + 1))).length (ens (outR (rs.take (i + 1)))), own 96 4 v9' (cfR (rs.take (i + 1))).length (cfs (cfR (rs.take (i + 1)))), ro μ1]
   rw [e2, q1, q2]
   exact Split.ent' (by repeat (first | exact Split.nil | (apply Split.cons; (repeat (first | with_reducible exact Take.here | apply Take.there)))))
  ·skip
   refine swp_skip ?_
   refine block_n ?_
   refine then_n ?_
   refine swp_region ?_
   refine s_pu (pu_add_as ((i + 1 : Nat) : Int) rfl rfl (by omega) (by omega) (by omega)) ?_
   refine s_pu (pu_move rfl) ?_
   refine swl_sub _ (.cons (t := 0) rfl (.cons (t := 1) rfl (.cons (t := 2) rfl (.cons (t := 8) rfl (.cons (t := 9) rfl (.cons (t := 20) rfl (.cons (t := 21) rfl (.cons (t := 22) rfl .nil)))))))) ?_
   refine swl_nil ?_
   have h63' : (oneE xb xo xt).1 = 0 := by simpa using h63
   refine then_n ⟨(i + 1, v8, v9'), ⟨⟨rfl, rfl, rfl, rfl, rfl, rfl, rfl, rfl, trivial⟩, ?_, h23'⟩, by show ps.length - (i + 1) < ps.length - i; omega⟩
   have e2 : outR (rs.take (i + 1)) = outR (rs.take i) := by rw [htk, outR_same (rs.take i) p h63']
   show Ent _ [own 52 2 v8 (outR (rs.take (i + 1))).length (ens (outR (rs.take (i + 1)))), own 96 4 v9' (cfR (rs.take (i + 1))).length (cfs (cfR (rs.take (i + 1)))), ro μ1]
   rw [e2]
   exact Split.ent' (by repeat (first | exact Split.nil | (apply Split.cons; (repeat (first | with_reducible exact Take.here | apply Take.there)))))
 ·skip
  have h23' := of_decide_eq_false h23
  obtain rfl : i = ps.length := by omega
  rw [← hrl, List.take_length]
  refine swp_exit ?_
  refine then_x ?_
  refine then_x ?_
  refine block_hit rfl ?_
  refine then_n ?_
  refine swp_seq ?_
  refine swp_region ?_
  refine s_pu (pu_move rfl) ?_
  refine s_pu (pu_move rfl) ?_
  refine s_pu (pu_assign rfl) ?_
  refine s_pu (pu_assign rfl) ?_
  refine swl_sub _ (.cons (t := 6) rfl (.cons (t := 7) rfl .nil)) ?_
  refine swl_nil ?_
  refine then_n ?_
  refine swp_ret ?_
  exact done_ret [own 52 2 v8 (outR rs).length (ens (outR rs)), own 96 4 v9 (cfR rs).length (cfs (cfR rs)), ro μ1] (.tmp rfl (.tmp rfl .nil)) ⟨v8, v9, μ1, hle, rfl, rfl⟩ (by repeat (first | exact Split.nil | (apply Split.cons; (repeat (first | with_reducible exact Take.here | apply Take.there)))))
end SX
namespace SX
open Go Go.Proofs
theorem same_lit (μ : PH) (v : Value) (b : Nat) (la lb : List En) (ha : Row μ v 2 la.length (ens la)) (hm : lb.length ≤ maxLen) {cs : List Value} (hcs : cs = ens lb) : Spec Tryd.prog 11 [v, .slice (some ⟨b, 0, none⟩) lb.length lb.length] [blk b 52 cs, ro μ] (fun r L => r = .bool (decide (la = lb)) ∧ L = [ro μ]) := by
  subst hcs
  intro E w hh
  obtain ⟨μ', h1, h2, h3⟩ := hh.share
  have hr := row_of_blk (n := 2) (l := lb.length) h2 (by rw [flat_length enc1_len]) hm
  refine (same_spec μ' v _ la lb (ha.le h1) hr E w h3).mono ?_
  rintro x w' ⟨r, L', e1, ⟨e2, e3⟩, h4⟩
  subst e3
  exact ⟨r, _, e1, ⟨e2, rfl⟩, h4.ent (Ent.imp fun m hm k o hk => hm k o (h1 k o hk))⟩
end SX
namespace SX
open Go Go.Proofs
end SX
namespace SX
open Go Go.Proofs
end SX
namespace SX
open Go Go.Proofs
/-- one round of the law's table -/
structure Side (μ : PH) (va vb vc vd : Value) (a b c d : List En) : Prop where
  ha : Row μ va 2 a.length (ens a)
  hb : Row μ vb 2 b.length (ens b)
  hc : Row μ vc 2 c.length (ens c)
  hd : Row μ vd 2 d.length (ens d)
  la : a.length ≤ 100 ∧ b.length ≤ 100 ∧ c.length ≤ 100
  us : U32s a ∧ U32s b ∧ U32s c
  out : outR (rowsB a b c) = d ∧ cfR (rowsB a b c) = []
theorem Side.le {μ μ' : PH} {va vb vc vd : Value} {a b c d : List En} (h : Side μ va vb vc vd a b c d) (k : Le μ μ') : Side μ' va vb vc vd a b c d :=
  ⟨h.ha.le k, h.hb.le k, h.hc.le k, h.hd.le k, h.la, h.us, h.out⟩
abbrev nilV : Value := .slice none 0 0
theorem nil_row (μ : PH) : Row μ nilV 2 ([] : List En).length (ens []) := Row.nil μ 2
theorem sides {μ : PH} {vb vo vt : Value} {b o t : List En} (hb : Row μ vb 2 b.length (ens b)) (ho : Row μ vo 2 o.length (ens o)) (ht : Row μ vt 2 t.length (ens t)) (kb : GoodT b) (ko : GoodT o) (kt : GoodT t)
    (l : b.length ≤ 100 ∧ o.length ≤ 100 ∧ t.length ≤ 100) (ub : U32s b) (uo : U32s o) (ut : U32s t) (k : Nat) (hk : k < 5) :
    ∃ w0 w1 w2 w3 a b' c d, Side μ w0 w1 w2 w3 a b' c d ∧ ∀ j v, [w0, w1, w2, w3][j]? = some v → [vb, vb, vt, vt, vb, vo, vb, vo, vb, vo, vo, vo, nilV, nilV, vt, vt, vb, nilV, vb, nilV][k * 4 + j]? = some v := by
  have hn : U32s ([] : List En) := fun _ h => by cases h
  match k, hk with
  | 0, _ => exact ⟨_, _, _, _, _, _, _, _, ⟨hb, hb, ht, ht, ⟨l.1, l.1, l.2.2⟩, ⟨ub, ub, ut⟩, side_bbt kb kt⟩, by intro j v hj; match j, hj with | 0, h => exact h | 1, h => exact h | 2, h => exact h | 3, h => exact h⟩
  | 1, _ => exact ⟨_, _, _, _, _, _, _, _, ⟨hb, ho, hb, ho, ⟨l.1, l.2.1, l.1⟩, ⟨ub, uo, ub⟩, side_bob kb ko⟩, by intro j v hj; match j, hj with | 0, h => exact h | 1, h => exact h | 2, h => exact h | 3, h => exact h⟩
  | 2, _ => exact ⟨_, _, _, _, _, _, _, _, ⟨hb, ho, ho, ho, ⟨l.1, l.2.1, l.2.1⟩, ⟨ub, uo, uo⟩, side_boo kb ko⟩, by intro j v hj; match j, hj with | 0, h => exact h | 1, h => exact h | 2, h => exact h | 3, h => exact h⟩
  | 3, _ => exact ⟨_, _, _, _, _, _, _, _, ⟨nil_row μ, nil_row μ, ht, ht, ⟨by decide, by decide, l.2.2⟩, ⟨hn, hn, ut⟩, side_bbt good_nil kt⟩, by intro j v hj; match j, hj with | 0, h => exact h | 1, h => exact h | 2, h => exact h | 3, h => exact h⟩
  | 4, _ => exact ⟨_, _, _, _, _, _, _, _, ⟨hb, nil_row μ, hb, nil_row μ, ⟨l.1, by decide, l.1⟩, ⟨ub, hn, ub⟩, side_bob kb good_nil⟩, by intro j v hj; match j, hj with | 0, h => exact h | 1, h => exact h | 2, h => exact h | 3, h => exact h⟩
end SX
namespace SX
open Go Go.Proofs
end SX
namespace SX.XV
open Go Go.Proofs
/-! Virtual ancestors over any source: answers are related, not reckoned. -/
theorem one_u32 {b o t : Int} (ho : U32 o) (ht : U32 t) : U32 (oneE b o t).1 := by
  unfold oneE
  split
  · exact ho
  · split
    · exact ht
    · have h := (markW (BitVec.ofInt 32 b) (BitVec.ofInt 32 o) (BitVec.ofInt 32 t)).isLt
      unfold markZ U32
      dsimp only
      omega
theorem nodup_in {α : Type} : ∀ {xs U : List α}, xs.Nodup → (∀ x ∈ xs, x ∈ U) → xs.length ≤ U.length
  | [], _, _, _ => Nat.zero_le _
  | x :: xs, U, hn, hs => by
    obtain ⟨h1, h2⟩ := List.nodup_cons.1 hn
    obtain ⟨s, t, rfl⟩ := List.append_of_mem (hs x (List.mem_cons_self ..))
    have h3 := nodup_in (U := s ++ t) h2 fun y hy => by
      rcases List.mem_append.1 (hs y (List.mem_cons_of_mem _ hy)) with k | k
      · exact List.mem_append_left _ k
      · rcases List.mem_cons.1 k with rfl | k
        · exact absurd hy h1
        · exact List.mem_append_right _ k
    rw [List.length_append] at h3
    rw [List.length_cons, List.length_append, List.length_cons]
    omega
/-- a tree of these paths -/
structure TW (U : List ByteArray) (t : List En) : Prop where
  u32 : U32s t
  sub : ∀ e ∈ t, e.1 ∈ U
  len : t.length ≤ 1000000
theorem TW.nil (U : List ByteArray) : TW U [] := ⟨(fun _ h => by cases h), (fun _ h => by cases h), Nat.zero_le _⟩
def VM (a b c : List En) : List En := outR (rowsB a b c)
theorem outR_le (rs : List Rw) : (outR rs).length ≤ rs.length := by
  unfold outR
  induction rs with
  | nil => exact Nat.le_refl _
  | cons r rs ih =>
    rw [List.flatMap_cons, List.length_append, List.length_cons]
    have : (outR1 r).length ≤ 1 := by
      obtain ⟨p, b, o, t⟩ := r
      unfold outR1
      split <;> simp
    omega
theorem TW.merge {U : List ByteArray} {a b c : List En} (hU : U.length ≤ 1000000) (ha : TW U a) (hb : TW U b) (hc : TW U c) : TW U (VM a b c) where
  u32 := fun e he => by
    obtain ⟨r, hr, h1, _⟩ := outR_mem he
    unfold rowsB at hr
    obtain ⟨p, _, rfl⟩ := List.mem_map.1 hr
    rw [h1]
    exact one_u32 (hb.u32.lookB p) (hc.u32.lookB p)
  sub := fun e he => by
    obtain ⟨r, hr, h1, _⟩ := outR_mem he
    unfold rowsB at hr
    obtain ⟨p, hp, rfl⟩ := List.mem_map.1 hr
    rw [h1]
    have hm : ∀ t, TW U t → p ∈ t.map (·.1) → p ∈ U := fun t ht hq => by
      obtain ⟨x, hx, rfl⟩ := List.mem_map.1 hq
      exact ht.sub x hx
    rcases (pathsE_mem a b c p).1 hp with k | k | k
    · exact hm a ha k
    · exact hm b hb k
    · exact hm c hc k
  len := by
    have h1 := outR_le (rowsB a b c)
    have h2 : (rowsB a b c).length = (pathsE a b c).length := by unfold rowsB; rw [List.length_map]
    have h3 : (pathsE a b c).length ≤ U.length := nodup_in ((uniS_rises _).imp fun h => strLt_ne h) fun p hp => by
      have hm : ∀ t, TW U t → p ∈ t.map (·.1) → p ∈ U := fun t ht hq => by
        obtain ⟨x, hx, rfl⟩ := List.mem_map.1 hq
        exact ht.sub x hx
      rcases (pathsE_mem a b c p).1 hp with k | k | k
      · exact hm a ha k
      · exact hm b hb k
      · exact hm c hc k
    show (outR (rowsB a b c)).length ≤ _
    omega
/-- a question under work, as it lies in memory -/
structure VV where
  rest : Value
  node : Value
  tree : Value
  f : VF (List En)
  own : Bool
abbrev encV (x : VV) : List Value := [x.rest, x.node, x.tree]
abbrev ivs (l : List Int) : List Value := l.flatMap (icsk .i64)
def nodeA (x : VV) : List Assn := if x.own = true then [own 3 1 x.node x.f.node.length (ivs x.f.node)] else []
abbrev treeA (x : VV) : Assn := own 52 2 x.tree x.f.tree.length (ens x.f.tree)
structure VV.Ok (n : Nat) (U : List ByteArray) (μ : PH) (x : VV) : Prop where
  rest : Row μ x.rest 1 x.f.rest.length (ivs x.f.rest)
  node : x.own = false → Row μ x.node 1 x.f.node.length (ivs x.f.node) ∧ ∃ A, x.node = .slice A x.f.node.length x.f.node.length
  one : (∃ A c, x.node = .slice A x.f.node.length c) ∧ ∃ A c, x.tree = .slice A x.f.tree.length c
  ins : ∀ c ∈ x.f.node ++ x.f.rest, 0 ≤ c ∧ c < n
  len : x.f.node.length + x.f.rest.length ≤ n
  tree : TW U x.f.tree
theorem VV.Ok.le {n : Nat} {U : List ByteArray} {μ μ' : PH} {x : VV} (h : x.Ok n U μ) (k : Le μ μ') : x.Ok n U μ' := ⟨h.rest.le k, fun e => ⟨(h.node e).1.le k, (h.node e).2⟩, h.one, h.ins, h.len, h.tree⟩
abbrev wkV (w : Nat) (sv st : Value) (steps limit : Nat) : Assn := blk w 82 [sv, st, .int .i64 (steps : Nat), .int .i64 (limit : Nat)]
/-- a source of commits and trees, of which only relations are told -/
structure VSrc where
  t : TypeId
  v : Value
  d : Nat
  hd : d ≤ 7
  N : Int
  n : Nat
  hN : min (max N 0) 65536 = (n : Int)
  U : List ByteArray
  hU : U.length ≤ 1000000
  σ : Type
  A : σ → Assn
  B : Nat → σ → Prop
  Bm : ∀ {m m' s}, B m s → m ≤ m' → B m' s
  μ0 : PH
  VS : List Int → Int → List Int → Prop
  VT : Int → List En → Prop
  vt : ∀ {c T}, VT c T → TW U T
  commits : ∀ s, InvS Tryd.prog d t v "Commits" [] [A s] (fun r L => r = .int .i64 N ∧ L = [A s])
  sides : ∀ s m μ v' u xs y, Le μ0 μ → B m s → m + 1 ≤ 4611686018427387904 → RowAt μ 1 0 tabV → Row μ v' 1 xs.length (ivs xs) → Row μ u 1 1 (ivs [y]) → Spec Tryd.prog 26 [.iface t v, v', u] [A s, ro μ] (fun r L => ∃ lv e l s' μ', VS xs y l ∧ B (m + 1) s' ∧ Le μ μ' ∧ (∀ c ∈ l, 0 ≤ c ∧ c < (n : Int)) ∧ l.length ≤ n ∧ r = .tuple #[lv, .int .i64 e] ∧ L = [own 3 1 lv l.length (ivs l), A s', ro μ'])
  content : ∀ s m μ (c : Nat), Le μ0 μ → B m s → c < n → InvS Tryd.prog d t v "Content" [.int .i64 (c : Nat)] [A s, ro μ] (fun r L => ∃ T s', VT (c : Nat) T ∧ B m s' ∧ (∃ A k, r = .slice A T.length k) ∧ L = [own 52 2 r T.length (ens T), A s', ro μ])
abbrev VSrc.sv (W : VSrc) : Value := .iface W.t W.v
theorem VSrc.hn (W : VSrc) : W.n ≤ 65536 := by have := W.hN; omega
/-- a commit's tree, only to be read -/
theorem VSrc.contentR (W : VSrc) (s : W.σ) (m : Nat) (μ : PH) (c : Nat) (h0 : Le W.μ0 μ) (hs : W.B m s) (hc : c < W.n) : InvS Tryd.prog W.d W.t W.v "Content" [.int .i64 (c : Nat)] [W.A s, ro μ]
    (fun r L => ∃ T s' μ', W.VT (c : Nat) T ∧ W.B m s' ∧ Le μ μ' ∧ Row μ' r 2 T.length (ens T) ∧ L = [W.A s', ro μ']) := fun E w hw => by
  obtain ⟨f, rv, k1, k2, k3⟩ := W.content s m μ c h0 hs hc E w hw
  refine ⟨f, rv, k1, k2, k3.mono fun e w' ⟨u, L', e1, ⟨T, s', q1, q2, _, q4⟩, k⟩ => ?_⟩
  subst q4
  obtain ⟨μ', h1, h2, h3⟩ := (k.ent (Split.ent' (K := [own 52 2 u T.length (ens T), ro μ, W.A s']) (by repeat (first | exact Split.nil | (apply Split.cons; (repeat (first | with_reducible exact Take.here | apply Take.there))))))).share_own
  exact ⟨u, _, e1, ⟨T, s', μ', q1, q2, h1, h2, rfl⟩, h3.ent Ent.swap⟩
/-- what a question's frame is, of its bases -/
def VFr (VT : Int → List En → Prop) (bs : List Int) (f : VF (List En)) : Prop := (bs = [] ∧ f = ⟨[], [], []⟩) ∨ ∃ b l t, bs = b :: l ∧ VT b t ∧ f = ⟨l, [b], t⟩
/-- what may come of a stack, the topmost first -/
inductive VRun (VS : List Int → Int → List Int → Prop) (VT : Int → List En → Prop) : List (VF (List En)) → Nat → Option (List En × Bool) × Nat → Prop
  | out {f : VF (List En)} {st : List (VF (List En))} : f.rest ≠ [] → VRun VS VT (f :: st) 0 (none, 0)
  | push {c : Int} {rest node : List Int} {t : List En} {st : List (VF (List En))} {left : Nat} {bs : List Int} {nf : VF (List En)} {R : Option (List En × Bool) × Nat} : VS node c bs → VFr VT bs nf → VRun VS VT (nf :: ⟨c :: rest, node, t⟩ :: st) left R → VRun VS VT (⟨c :: rest, node, t⟩ :: st) (left + 1) R
  | pop {c : Int} {r node node' : List Int} {t t' tc : List En} {st : List (VF (List En))} {left : Nat} {R : Option (List En × Bool) × Nat} : VT c tc → VRun VS VT (⟨r, node' ++ [c], VM t t' tc⟩ :: st) left R → VRun VS VT (⟨[], node, t⟩ :: ⟨c :: r, node', t'⟩ :: st) left R
  | fin {node : List Int} {t : List En} {left : Nat} : VRun VS VT [⟨[], node, t⟩] left (some (t, !node.isEmpty), left)
/-- a node: only read, or of the call's own -/
def naA (x : VV) : Assn := star (nodeA x)
theorem naA_no {x : VV} (h : x.own = false) {L : List Assn} : Ent L (naA x :: L) := by
  have e : nodeA x = [] := by unfold nodeA; rw [if_neg (by rw [h]; decide)]
  unfold naA
  rw [e]
  exact star_close (K := [])
theorem naA_open {x : VV} (h : x.own = true) {L : List Assn} : Ent (naA x :: L) (own 3 1 x.node x.f.node.length (ivs x.f.node) :: L) := by
  have e : nodeA x = [own 3 1 x.node x.f.node.length (ivs x.f.node)] := if_pos h
  unfold naA
  rw [e]
  exact star_ent
theorem naA_close {x : VV} (h : x.own = true) {L : List Assn} : Ent (own 3 1 x.node x.f.node.length (ivs x.f.node) :: L) (naA x :: L) := by
  have e : nodeA x = [own 3 1 x.node x.f.node.length (ivs x.f.node)] := if_pos h
  unfold naA
  rw [e]
  exact star_close (K := [own 3 1 x.node x.f.node.length (ivs x.f.node)])
theorem hsides_node (W : VSrc) (s : W.σ) (m : Nat) (hs : W.B m s) (hm : m + 1 ≤ 4611686018427387904) (μ : PH) (x : VV) (u : Value) (y : Int) (hT : RowAt μ 1 0 tabV) (hx : x.own = false → Row μ x.node 1 x.f.node.length (ivs x.f.node)) (hu : Row μ u 1 1 (ivs [y])) (h0 : Le W.μ0 μ) :
    Spec Tryd.prog 26 [W.sv, x.node, u] [naA x, W.A s, ro μ] (fun r L => ∃ lv e l s' μ', W.VS x.f.node y l ∧ W.B (m + 1) s' ∧ Le μ μ' ∧ (∀ c ∈ l, 0 ≤ c ∧ c < (W.n : Int)) ∧ l.length ≤ W.n ∧ r = .tuple #[lv, .int .i64 e] ∧ L = [own 3 1 lv l.length (ivs l), naA x, W.A s', ro μ']) := by
  intro E w hh
  cases ho : x.own with
  | false =>
    refine ((W.sides s m μ x.node u x.f.node y h0 hs hm hT (hx ho) hu) E w (hh.ent Ent.drop)).mono fun e w' ⟨v, L', he, ⟨lv, e2, l, s', μ', q0, q1, q2, q3, q5, q6, q4⟩, h5⟩ => ?_
    subst q4
    exact ⟨v, _, he, ⟨lv, e2, l, s', μ', q0, q1, q2, q3, q5, q6, rfl⟩, h5.ent ((naA_no ho).trans Ent.swap)⟩
  | true =>
    have hh1 := hh.ent ((naA_open ho).trans (Split.ent' (K := [own 3 1 x.node x.f.node.length (ivs x.f.node), ro μ, W.A s]) (by repeat (first | exact Split.nil | (apply Split.cons; (repeat (first | with_reducible exact Take.here | apply Take.there)))))))
    obtain ⟨μL, hl, hrow, hh2, hback⟩ := hh1.lend_own
    refine ((W.sides s m μL x.node u x.f.node y (h0.trans hl) hs hm (hT.le hl) hrow (hu.le hl)) E w (hh2.ent Ent.swap)).mono fun e w' ⟨v, L', he, ⟨lv, e2, l, s', μ', q0, q1, q2, q3, q5, q6, q4⟩, h5⟩ => ?_
    subst q4
    obtain ⟨μ3, b1, b2⟩ := hback μ' q2
    refine ⟨v, _, he, ⟨lv, e2, l, s', μ3, q0, q1, b1, q3, q5, q6, rfl⟩, h5.ent ?_⟩
    refine (Split.ent' (K := [ro μ', own 3 1 lv l.length (ivs l), W.A s']) (by repeat (first | exact Split.nil | (apply Split.cons; (repeat (first | with_reducible exact Take.here | apply Take.there)))))).trans ?_
    refine (b2 _).trans ((naA_close ho).trans (Split.ent' (by repeat (first | exact Split.nil | (apply Split.cons; (repeat (first | with_reducible exact Take.here | apply Take.there)))))))
theorem encV_one {x : VV} {n : Nat} {U : List ByteArray} {μ : PH} (h : x.Ok n U μ) : (encV x).all Value.oneCell' = true := by
  obtain ⟨_, A, c, e1, _⟩ := h.rest
  obtain ⟨⟨A2, c2, e2⟩, A3, c3, e3⟩ := h.one
  show ([x.rest, x.node, x.tree]).all _ = true
  rw [e1, e2, e3]; rfl
theorem own_less {e n l c : Nat} {A : Option Addr} {xs ys : List Value} {L : List Assn} (hx : xs.length = l * n) : Ent (own e n (.slice A (l + 1) c) (l + 1) (xs ++ ys) :: L) (own e n (.slice A l c) l xs :: L) :=
  Ent.imp fun m ⟨_, h2⟩ => by
    rcases h2 with ⟨h3, _⟩ | ⟨g, cap, cur, h3, h4, h5, h6, h7, h8⟩
    · have := (Value.slice.inj h3).2.1; omega
    · obtain ⟨rfl, _, rfl⟩ := Value.slice.inj h3
      refine ⟨hx, .inr ⟨g, c, cur, rfl, h4, by omega, h6, h7, ?_⟩⟩
      have h9 := congrArg (List.take (l * n)) h8
      rw [List.take_take, Nat.min_eq_left (Nat.mul_le_mul_right n (Nat.le_succ l)), ← hx, List.take_left'  rfl] at h9
      rw [← hx]; exact h9
theorem set_tail {α : Type} {xs ys : List α} {i j : Nat} {v : α} (h : i = xs.length + j) : (xs ++ ys).set i v = xs ++ ys.set j v := by
  subst h
  rw [List.set_append_right (h := Nat.le_add_right _ _), Nat.add_sub_cancel_left]
theorem Spec.rowed {P : Program} {f : FuncId} {args : List Value} {pre : List Assn} {e n l : Nat} {xs : List Value} {B : Assn} {μ : PH} (h : Spec P f args pre (fun r L => L = [own e n r l xs, B, ro μ])) : Spec P f args pre (fun r L => ∃ μ', Le μ μ' ∧ Row μ' r n l xs ∧ L = [B, ro μ']) := fun E w hw =>
  (h E w hw).mono fun e' w' ⟨v, L', he, hl, hh⟩ => by
    subst hl
    obtain ⟨μ', h1, h2, h3⟩ := (hh.ent (Split.ent' (K := [own e n v l xs, ro μ, B]) (by repeat (first | exact Split.nil | (apply Split.cons; (repeat (first | with_reducible exact Take.here | apply Take.there))))))).share_own
    exact ⟨v, _, he, ⟨μ', h1, h2, rfl⟩, h3.ent Ent.swap⟩
theorem three_form (μ : PH) (va vb vc : Value) (a b c : List En) (ha : Row μ va 2 a.length (ens a)) (hb : Row μ vb 2 b.length (ens b)) (hc : Row μ vc 2 c.length (ens c)) (hsz : a.length ≤ 1048576 ∧ b.length ≤ 1048576 ∧ c.length ≤ 1048576) (hu : U32s a ∧ U32s b ∧ U32s c) :
    Spec Tryd.prog 16 [va, vb, vc] [ro μ] (fun r L => ∃ A k v9 μ', Le μ μ' ∧ r = .tuple #[.slice A (VM a b c).length k, v9] ∧ L = [own 52 2 (.slice A (VM a b c).length k) (VM a b c).length (ens (VM a b c)), own 96 4 v9 (cfR (rowsB a b c)).length (cfs (cfR (rowsB a b c))), ro μ']) := fun E w hw =>
  (three_spec μ va vb vc a b c ha hb hc hsz hu E w hw).mono fun e' w' ⟨v, L', he, ⟨v8, v9, μ', h1, h2, h3⟩, hh⟩ => by
    subst h3
    obtain ⟨k1, k2, k3, k4, k5⟩ := hh
    obtain ⟨A, k, hv, _⟩ := own_cap2 (Sat.perm (perm_out (X := E.X) (.refl _)) _ k5)
    subst hv
    exact ⟨v, _, he, ⟨A, k, v9, μ', h1, h2, rfl⟩, k1, k2, k3, k4, k5⟩
/-- a node, by its parts -/
def naB (v : Value) (l : List Int) (o : Bool) : Assn := star (if o = true then [own 3 1 v l.length (ivs l)] else [])
theorem naB_eq (x : VV) : naA x = naB x.node x.f.node x.own := rfl
theorem ef_append_na {env : Env} {L R : List Assn} {μ : PH} {x y : Operand} {v s : Value} {l : List Int} {c : Int} {o : Bool} (hx : evalE env x = some v) (hy : evalE env y = some s) (hs : Row μ s 1 1 [.int .i64 c]) (hL : Split L [naB v l o, ro μ] R)
    (hv : o = false → Row μ v 1 l.length (ivs l) ∧ ∃ A, v = .slice A l.length l.length) (hl : l.length ≤ 1000000) :
    Ef Tryd.prog env L (.call { callee := .builtin .append, args := #[x, y], argTypes := #[43, 43] }) (fun k => ∀ A cap o', (o' = false → Row μ (.slice A (l ++ [c]).length cap) 1 (l ++ [c]).length (ivs (l ++ [c])) ∧ ∃ A', Value.slice A (l ++ [c]).length cap = .slice A' (l ++ [c]).length (l ++ [c]).length) → k (.slice A (l ++ [c]).length cap) (naB (.slice A (l ++ [c]).length cap) (l ++ [c]) o' :: ro μ :: R)) := by
  intro ro_ dst tt pos af g N E a w next Q k hf hh hk hn
  have e1 : ivs (l ++ [c]) = ivs l ++ [.int .i64 c] := by rw [ivs, List.flatMap_append]; rfl
  have e2 : (l ++ [c]).length = l.length + 1 := by rw [List.length_append]; rfl
  have hcat : Cat μ 3 1 v l.length (ivs l) (if o = true then own 3 1 v l.length (ivs l) :: ro μ :: R else ro μ :: R) R := by
    cases o with
    | false => exact .inl ⟨rfl, (hv rfl).1, (hv rfl).2⟩
    | true => exact .inr rfl
  have hent : Ent L (if o = true then own 3 1 v l.length (ivs l) :: ro μ :: R else ro μ :: R) := by
    refine hL.ent.trans ?_
    cases o with
    | false => exact Ent.drop
    | true => exact star_ent
  refine ef_append_cat (P := Tryd.prog) (t := 43) (env := env) (x := x) (y := y) (m := 1) (news := [.int .i64 c]) hcat hs hx hy rfl (by simp only [maxLen]; omega) (by omega) rfl (by decide) ro_ dst tt pos af g N E a w next Q (fun u L' => Cat μ 3 1 u (l.length + 1) (ivs l ++ [.int .i64 c]) L' R) hf (hh.ent hent) (fun _ _ hc => hc) ?_
  rintro u w' L' hc hh'
  rcases hc with ⟨rfl, hr, A, hA⟩ | rfl
  · subst hA
    rw [← e1, ← e2] at hr
    rw [← e2]
    exact hn _ _ _ (hk A _ false fun _ => ⟨hr, A, rfl⟩) (hh'.ent (star_close (K := [])))
  · obtain ⟨h1, h2, h3, h4, h5⟩ := hh'
    obtain ⟨A, cap, hu, _⟩ := own_cap2 (Sat.perm (perm_out (X := E.X) (.refl _)) _ h5)
    subst hu
    rw [← e1, ← e2] at h5
    rw [← e2]
    exact hn _ _ _ (hk A cap true fun h => by cases h) ((show H E w' (own 3 1 (.slice A (l ++ [c]).length cap) (l ++ [c]).length (ivs (l ++ [c])) :: ro μ :: R) from ⟨h1, h2, h3, h4, h5⟩).ent (star_close (K := [own 3 1 (.slice A (l ++ [c]).length cap) (l ++ [c]).length (ivs (l ++ [c]))])))
def vvsA (xs : List VV) : Assn := star (xs.flatMap fun x => [treeA x, naA x])
theorem vvs_open {ys : List VV} {x : VV} {L : List Assn} : Ent (vvsA (ys ++ [x]) :: L) (treeA x :: naA x :: vvsA ys :: L) := by
  refine star_ent.trans ?_
  rw [List.flatMap_append]
  refine Ent.trans (Ent.perm ?_) (Ent.under (X := [treeA x, naA x]) star_close)
  show List.Perm ((ys.flatMap (fun x => [treeA x, naA x]) ++ [treeA x, naA x]) ++ L) ([treeA x, naA x] ++ (ys.flatMap (fun x => [treeA x, naA x]) ++ L))
  rw [List.append_assoc]
  exact List.perm_append_comm_assoc _ _ _
theorem vvs_close {ys : List VV} {x : VV} {L : List Assn} : Ent (treeA x :: naA x :: vvsA ys :: L) (vvsA (ys ++ [x]) :: L) := by
  refine Ent.trans ?_ star_close
  rw [List.flatMap_append]
  refine Ent.trans (Ent.under (X := [treeA x, naA x]) star_ent) (Ent.perm ?_)
  show List.Perm ([treeA x, naA x] ++ (ys.flatMap (fun x => [treeA x, naA x]) ++ L)) ((ys.flatMap (fun x => [treeA x, naA x]) ++ [treeA x, naA x]) ++ L)
  rw [List.append_assoc]
  exact (List.perm_append_comm_assoc _ _ _)
/-- a stack of which the topmost is shown -/
abbrev stB (A : Option Addr) (cap : Nat) (zs : List VV) (u : VV) : Assn := own 85 3 (.slice A (zs.length + 1) cap) (zs.length + 1) (zs.flatMap encV ++ encV u)
theorem zs_len (zs : List VV) : (zs.flatMap encV).length = zs.length * 3 := flat_length (f := encV) (k := 3) (fun _ => rfl) zs
theorem stB_get {zs : List VV} {u : VV} {j : Nat} {v : Value} (h : (encV u)[j]? = some v) : (zs.flatMap encV ++ encV u)[0 + zs.length * 3 + j]? = some v := by
  rw [Nat.zero_add, ← zs_len, List.getElem?_append_right (Nat.le_add_right _ _), Nat.add_sub_cancel_left]; exact h
theorem tl_get {zs : List VV} {us : List Value} {j : Nat} {v : Value} (h : us[j]? = some v) : (zs.flatMap encV ++ us)[0 + zs.length * 3 + j]? = some v := by
  rw [Nat.zero_add, ← zs_len, List.getElem?_append_right (Nat.le_add_right _ _), Nat.add_sub_cancel_left]; exact h
theorem tl_set {zs : List VV} {us : List Value} {j : Nat} {v : Value} : (zs.flatMap encV ++ us).set (0 + zs.length * 3 + j) v = zs.flatMap encV ++ us.set j v := set_tail (by rw [zs_len]; omega)
theorem tl_len {zs : List VV} {us : List Value} (h : us.length = 3) : (zs.flatMap encV ++ us).length = zs.length * 3 + 3 := by rw [List.length_append, zs_len, h]
abbrev stA (A : Option Addr) (cap : Nat) (xs : List VV) : Assn := own 85 3 (.slice A xs.length cap) xs.length (xs.flatMap encV)
theorem stA_B (A : Option Addr) (cap : Nat) (zs : List VV) (u : VV) : stA A cap (zs ++ [u]) = stB A cap zs u := by
  have e1 : (zs ++ [u]).length = zs.length + 1 := by rw [List.length_append]; rfl
  have e2 : (zs ++ [u]).flatMap encV = zs.flatMap encV ++ encV u := by rw [List.flatMap_append]; simp only [List.flatMap_cons, List.flatMap_nil, List.append_nil]
  show own 85 3 _ _ _ = _
  rw [e1, e2]
end SX.XV
namespace SX.XV
open Go Go.Proofs
set_option maxHeartbeats 8000000 in
theorem push_spec (W : VSrc) (μ : PH) (h0 : Le W.μ0 μ) (hT : RowAt μ 1 0 tabV) (w : Nat) (s : W.σ) (m : Nat) (hs : W.B m s) (hm : m + 1 ≤ 4611686018427387904) (A : Option Addr) (cap : Nat) (xs : List VV) (steps limit : Nat) (hsl : xs.length ≤ steps) (hlim : limit ≤ 4096)
  (tv : VV) (y : Int) (hx : tv.own = false → Row μ tv.node 1 tv.f.node.length (ivs tv.f.node)) :
  Spec Tryd.prog 24 [.pointer (some ⟨w, 0, none⟩), tv.node, .int .i64 y] [naA tv, wkV w W.sv (.slice A xs.length cap) steps limit, own 85 3 (.slice A xs.length cap) xs.length (xs.flatMap encV), W.A s, ro μ]
   (fun r L => (limit ≤ steps ∧ r = .int .i64 12 ∧ L = [naA tv, wkV w W.sv (.slice A xs.length cap) steps limit, own 85 3 (.slice A xs.length cap) xs.length (xs.flatMap encV), W.A s, ro μ]) ∨
    (steps < limit ∧ r = .int .i64 0 ∧ ∃ (nv : VV) (A2 : Option Addr) (cap2 : Nat) (s2 : W.σ) (μ2 : PH), nv.own = false ∧ (∃ bs, W.VS tv.f.node y bs ∧ VFr W.VT bs nv.f) ∧ nv.Ok W.n W.U μ2 ∧ W.B (m + 1) s2 ∧ Le μ μ2 ∧
     L = [naA tv, wkV w W.sv (.slice A2 (xs.length + 1) cap2) (steps + 1) limit, own 85 3 (.slice A2 (xs.length + 1) cap2) (xs.length + 1) (xs.flatMap encV ++ encV nv), treeA nv, W.A s2, ro μ2])) := by
 refine Spec.of 66 Tryd.func24 rfl rfl rfl ?_
 refine swp_seq ?_
 refine swp_region ?_
 refine s_pu (pu_assign rfl) ?_
 refine swl_sub _ (.cons (t := 0) rfl (.cons (t := 1) rfl (.cons (t := 2) rfl .nil))) ?_
 refine swl_nil ?_
 refine then_n ?_
 refine swp_seq ?_
 refine swp_seq ?_
 refine swp_draw [3, 7] _ [] (by simp only [List.append_nil]; exact Ent.refl _) (by kernel_rfl) ?_
 refine d_pu 0 rfl (pu_move rfl) (by kernel_rfl) (by kernel_rfl) (by kernel_rfl) ?_
 first | refine d_pu 1 rfl (pu_nilCheck rfl) (by kernel_rfl) (by kernel_rfl) (by kernel_rfl) ?_ | refine d_pu 1 rfl (pu_nilCheck_fn rfl) (by kernel_rfl) (by kernel_rfl) (by kernel_rfl) ?_ | refine d_pu 1 rfl (pu_nilCheck_if rfl) (by kernel_rfl) (by kernel_rfl) (by kernel_rfl) ?_
 first | refine d_pu 2 rfl (pu_fieldAddr0 rfl) (by kernel_rfl) (by kernel_rfl) (by kernel_rfl) ?_ | refine d_pu 2 rfl (pu_fieldAddr rfl) (by kernel_rfl) (by kernel_rfl) (by kernel_rfl) ?_
 refine d_rd 3 rfl (rd_load rfl rfl) rfl (by kernel_rfl) (by kernel_rfl) (by kernel_rfl) ?_
 refine d_pu 4 rfl (pu_move rfl) (by kernel_rfl) (by kernel_rfl) (by kernel_rfl) ?_
 first | refine d_pu 5 rfl (pu_nilCheck rfl) (by kernel_rfl) (by kernel_rfl) (by kernel_rfl) ?_ | refine d_pu 5 rfl (pu_nilCheck_fn rfl) (by kernel_rfl) (by kernel_rfl) (by kernel_rfl) ?_ | refine d_pu 5 rfl (pu_nilCheck_if rfl) (by kernel_rfl) (by kernel_rfl) (by kernel_rfl) ?_
 first | refine d_pu 6 rfl (pu_fieldAddr0 rfl) (by kernel_rfl) (by kernel_rfl) (by kernel_rfl) ?_ | refine d_pu 6 rfl (pu_fieldAddr rfl) (by kernel_rfl) (by kernel_rfl) (by kernel_rfl) ?_
 refine d_rd 7 rfl (rd_load rfl rfl) rfl (by kernel_rfl) (by kernel_rfl) (by kernel_rfl) ?_
 refine d_pu 8 rfl (pu_geq rfl rfl) (by kernel_rfl) (by kernel_rfl) (by kernel_rfl) ?_
 refine d_sub _ (.cons (t := 0) rfl (.cons (t := 1) rfl (.cons (t := 2) rfl (.cons (t := 18) rfl .nil)))) ?_
 first | refine d_nilt (by kernel_rfl) ?_ | refine d_nilf (by kernel_rfl) ?_
 refine then_n ?_
 refine swp_cond (b := _) rfl (fun h18 => ?_) (fun h18 => ?_)
 ·skip
  refine swp_seq ?_
  refine swp_region ?_
  refine s_pu (pu_assign rfl) ?_
  refine swl_sub _ (.cons (t := 6) rfl .nil) ?_
  refine swl_nil ?_
  refine then_n ?_
  refine swp_ret ?_
  refine then_r ?_
  have h18' := of_decide_eq_true h18
  exact done_ret [naA tv, wkV w W.sv (.slice A xs.length cap) steps limit, own 85 3 (.slice A xs.length cap) xs.length (xs.flatMap encV), W.A s, ro μ] (.tmp rfl .nil) (.inl ⟨by omega, rfl, rfl⟩) (by repeat (first | exact Split.nil | (apply Split.cons; (repeat (first | with_reducible exact Take.here | apply Take.there)))))
 ·skip
  have h18' : steps < limit := by have := of_decide_eq_false h18; omega
  refine swp_skip ?_
  refine then_n ?_
  refine swp_seq ?_
  refine swp_region ?_
  refine s_pu (pu_move rfl) ?_
  first | refine s_pu (pu_nilCheck rfl) ?_ | refine s_pu (pu_nilCheck_fn rfl) ?_ | refine s_pu (pu_nilCheck_if rfl) ?_
  first | refine s_pu (pu_fieldAddr0 rfl) ?_ | refine s_pu (pu_fieldAddr rfl) ?_
  refine s_rd (rd_load rfl rfl) ?_
  refine s_pu (pu_add_as ((steps + 1 : Nat) : Int) rfl rfl (by omega) (by omega) (by omega)) ?_
  first | refine s_pu (pu_nilCheck rfl) ?_ | refine s_pu (pu_nilCheck_fn rfl) ?_ | refine s_pu (pu_nilCheck_if rfl) ?_
  first | refine s_pu (pu_fieldAddr0 rfl) ?_ | refine s_pu (pu_fieldAddr rfl) ?_
  refine s_ef0 (ef_store rfl rfl rfl) ?_
  refine swl_sub _ (.cons (t := 0) rfl (.cons (t := 1) rfl (.cons (t := 2) rfl .nil))) ?_
  refine swl_nil ?_
  refine then_n ?_
  refine swp_seq ?_
  refine swp_region ?_
  refine s_pu (pu_move rfl) ?_
  first | refine s_pu (pu_nilCheck rfl) ?_ | refine s_pu (pu_nilCheck_fn rfl) ?_ | refine s_pu (pu_nilCheck_if rfl) ?_
  first | refine s_pu (pu_fieldAddr0 rfl) ?_ | refine s_pu (pu_fieldAddr rfl) ?_
  refine s_rd (rd_load rfl rfl) ?_
  refine s_pu (pu_move rfl) ?_
  refine s_pu (pu_move rfl) ?_
  refine s_ef (ef_bldS (qs := [(0, _)]) rfl rfl rfl) ?_
  intro b33
  refine swl_share (b := b33) (μ := μ) (by repeat (first | exact Split.nil | (apply Split.cons; (repeat (first | with_reducible exact Take.here | apply Take.there))))) fun μ1 h1 k1 => ?_
  have r2 : Row μ1 (.slice (some ⟨b33, 0, none⟩) 1 1) 1 1 (ivs [y]) := row_of_blk (n := 1) (l := 1) (cs := [y].flatMap (icsk .i64)) k1 (by rfl) (by decide)
  refine s_ef (ef_fn (hsides_node W s m hs hm μ1 tv _ y (hT.le h1) (fun e => (hx e).le h1) r2 (h0.trans h1)) rfl rfl (by repeat (first | exact Split.nil | (apply Split.cons; (repeat (first | with_reducible exact Take.here | apply Take.there)))))) ?_
  rintro v34 L1 ⟨lv, e34, bs, s1, μ2, hbs, hs1, h2, hin, hle, rfl, rfl⟩
  refine swl_app ?_
  refine s_pu (pu_move rfl) ?_
  first | refine s_pu (pu_extractL rfl) ?_ | refine s_pu (pu_extract rfl rfl) ?_
  first | refine s_pu (pu_extractL rfl) ?_ | refine s_pu (pu_extract rfl rfl) ?_
  refine s_pu (pu_assign rfl) ?_
  refine s_pu (pu_assign rfl) ?_
  refine swl_sub _ (.cons (t := 0) rfl (.cons (t := 7) rfl .nil)) ?_
  refine swl_nil ?_
  refine then_n ?_
  refine swp_seq ?_
  refine swp_share_own (e := 3) (n := 1) (v := lv) (μ := μ2) (by repeat (first | exact Split.nil | (apply Split.cons; (repeat (first | with_reducible exact Take.here | apply Take.there))))) fun μ3 h3 hrow => ?_
  refine swp_region ?_
  refine s_pu (pu_bld (qs := []) rfl) ?_
  refine s_ef (ef_alloc) ?_
  intro b9
  refine s_ef0 (ef_storeA rfl rfl rfl rfl) ?_
  refine swl_sub _ (.cons (t := 0) rfl (.cons (t := 7) rfl (.cons (t := 9) rfl .nil))) ?_
  refine swl_nil ?_
  refine then_n ?_
  refine swp_cut (fun env L => ∃ (nv : VV) (s3 : W.σ), Sub env [(0, .pointer (some ⟨w, 0, none⟩)), (9, .pointer (some ⟨b9, 0, none⟩))] ∧ Ent L [blk b9 85 (encV nv), treeA nv, naA tv, wkV w W.sv (.slice A xs.length cap) (steps + 1) limit, own 85 3 (.slice A xs.length cap) xs.length (xs.flatMap encV), W.A s3, ro μ3] ∧ nv.own = false ∧ VFr W.VT bs nv.f ∧ nv.Ok W.n W.U μ3 ∧ W.B (m + 1) s3) ?_ ?_
  ·skip
   refine swp_seq ?_
   refine swp_region ?_
   refine s_pu (pu_move rfl) ?_
   refine s_pu (pu_len_row hrow rfl) ?_
   refine s_pu (pu_gtr rfl rfl) ?_
   refine swl_sub _ (.cons (t := 0) rfl (.cons (t := 7) rfl (.cons (t := 9) rfl (.cons (t := 40) rfl .nil)))) ?_
   refine swl_nil ?_
   refine then_n ?_
   refine swp_cond (b := _) rfl (fun h40 => ?_) (fun h40 => ?_)
   ·skip
    have h40' : 0 < bs.length := by have := of_decide_eq_true h40; omega
    obtain ⟨b0, bl, rfl⟩ : ∃ b0 bl, bs = b0 :: bl := by
     cases bs with
     | nil => exact absurd h40' (by decide)
     | cons b0 bl => exact ⟨b0, bl, rfl⟩
    obtain ⟨k0, hk0⟩ : ∃ k : Nat, b0 = (k : Int) := ⟨b0.toNat, by have := (hin b0 (List.mem_cons_self ..)).1; omega⟩
    subst hk0
    have hk0n : k0 < W.n := by have := (hin _ (List.mem_cons_self ..)).2; omega
    obtain ⟨gb, go, gc, hlv, hlc, hcm, hra⟩ := hrow.pos h40'
    obtain ⟨v', hr', hlo⟩ := Row.lo (P := Tryd.prog) (t := 43) hrow 1 (by omega)
    obtain ⟨AR, cR, rfl⟩ : ∃ A c, v' = .slice A bl.length c := by obtain ⟨_, A, c, e, _⟩ := hr'; exact ⟨A, c, e⟩
    have hcell : CellAt μ3 gb (go + 0 * 1) (.int .i64 (k0 : Nat)) := (hra.elem (f := icsk .i64) (n := 1) (fun _ => rfl) (show ((k0 : Int) :: bl)[0]? = some (k0 : Int) from rfl)).cell
    refine swp_ent (Split.ent' (K := [wkV w W.sv (.slice A xs.length cap) (steps + 1) limit, ro μ3, blk b9 85 [.slice none 0 0, .slice none 0 0, .slice none 0 0], W.A s1, naA tv, own 85 3 (.slice A xs.length cap) xs.length (xs.flatMap encV)]) (by repeat (first | exact Split.nil | (apply Split.cons; (repeat (first | with_reducible exact Take.here | apply Take.there)))))) ?_
    refine swp_draw [7, 10] ([wkV w W.sv (.slice A xs.length cap) (steps + 1) limit, ro μ3]) ([blk b9 85 [.slice none 0 0, .slice none 0 0, .slice none 0 0], W.A s1, naA tv, own 85 3 (.slice A xs.length cap) xs.length (xs.flatMap encV)]) (Split.ent (by repeat (first | exact Split.nil | (apply Split.cons; (repeat (first | with_reducible exact Take.here | apply Take.there)))))) (by kernel_rfl) ?_
    refine d_pu 0 rfl (pu_move rfl) (by kernel_rfl) (by kernel_rfl) (by kernel_rfl) ?_
    refine d_pu 1 rfl (hlo _ _ _ .i64 1 rfl rfl rfl) (by kernel_rfl) (by kernel_rfl) (by kernel_rfl) ?_
    refine d_pu 2 rfl (pu_move rfl) (by kernel_rfl) (by kernel_rfl) (by kernel_rfl) ?_
    refine d_pu 3 rfl (pu_slice3 1 1 (congrArg some hlv) rfl rfl rfl rfl (Nat.le_refl _) (by rw [List.length_cons] at hlc; omega)) (by kernel_rfl) (by kernel_rfl) (by kernel_rfl) ?_
    refine d_pu 4 rfl (pu_move rfl) (by kernel_rfl) (by kernel_rfl) (by kernel_rfl) ?_
    first | refine d_pu 5 rfl (pu_nilCheck rfl) (by kernel_rfl) (by kernel_rfl) (by kernel_rfl) ?_ | refine d_pu 5 rfl (pu_nilCheck_fn rfl) (by kernel_rfl) (by kernel_rfl) (by kernel_rfl) ?_ | refine d_pu 5 rfl (pu_nilCheck_if rfl) (by kernel_rfl) (by kernel_rfl) (by kernel_rfl) ?_
    first | refine d_pu 6 rfl (pu_fieldAddr0 rfl) (by kernel_rfl) (by kernel_rfl) (by kernel_rfl) ?_ | refine d_pu 6 rfl (pu_fieldAddr rfl) (by kernel_rfl) (by kernel_rfl) (by kernel_rfl) ?_
    refine d_rd 7 rfl (rd_load rfl rfl) rfl (by kernel_rfl) (by kernel_rfl) (by kernel_rfl) ?_
    refine d_pu 8 rfl (pu_move rfl) (by kernel_rfl) (by kernel_rfl) (by kernel_rfl) ?_
    refine d_pu 9 rfl (pu_indexAddr (go + 0 * 1) (congrArg some hlv) rfl (by omega) (by rw [List.length_cons]; omega) rfl) (by kernel_rfl) (by kernel_rfl) (by kernel_rfl) ?_
    refine d_rd 10 rfl (rd_ro rfl hcell) rfl (by kernel_rfl) (by kernel_rfl) (by kernel_rfl) ?_
    first | refine d_pu 11 rfl (pu_nilCheck rfl) (by kernel_rfl) (by kernel_rfl) (by kernel_rfl) ?_ | refine d_pu 11 rfl (pu_nilCheck_fn rfl) (by kernel_rfl) (by kernel_rfl) (by kernel_rfl) ?_ | refine d_pu 11 rfl (pu_nilCheck_if rfl) (by kernel_rfl) (by kernel_rfl) (by kernel_rfl) ?_
    refine d_pu 12 rfl (pu_move rfl) (by kernel_rfl) (by kernel_rfl) (by kernel_rfl) ?_
    first | refine d_fint 13 rfl (by kernel_rfl) (by kernel_rfl) (ef_invS rfl W.hd (W.content s1 (m + 1) μ3 k0 (h0.trans (h1.trans (h2.trans h3))) hs1 hk0n) rfl (by repeat (first | exact Split.nil | (apply Split.cons; (repeat (first | with_reducible exact Take.here | apply Take.there)))))) ?_ | refine d_finf 13 rfl (by kernel_rfl) (by kernel_rfl) (ef_invS rfl W.hd (W.content s1 (m + 1) μ3 k0 (h0.trans (h1.trans (h2.trans h3))) hs1 hk0n) rfl (by repeat (first | exact Split.nil | (apply Split.cons; (repeat (first | with_reducible exact Take.here | apply Take.there)))))) ?_
    rintro v54 L1 ⟨T54, s54, hT54, hs54, ⟨AT, cT, rfl⟩, rfl⟩
    refine swd_app ?_
    refine d_pu 14 rfl (pu_bld (qs := [(0, _), (1, _), (2, _)]) rfl) (by kernel_rfl) (by kernel_rfl) (by kernel_rfl) ?_
    first | refine d_fin0t 15 rfl (by kernel_rfl) (by kernel_rfl) (ef_storeA rfl rfl rfl rfl) ?_ | refine d_fin0f 15 rfl (by kernel_rfl) (by kernel_rfl) (ef_storeA rfl rfl rfl rfl) ?_
    refine d_sub _ (.cons (t := 0) rfl (.cons (t := 9) rfl .nil)) ?_
    first | refine d_nilt (by kernel_rfl) ?_ | refine d_nilf (by kernel_rfl) ?_
    refine then_n ⟨⟨.slice AR bl.length cR, .slice (some ⟨gb, go, none⟩) 1 1, .slice AT T54.length cT, ⟨bl, [(k0 : Int)], T54⟩, false⟩, s54, ⟨rfl, rfl, trivial⟩, Split.ent' (by repeat (first | exact Split.nil | (apply Split.cons; (repeat (first | with_reducible exact Take.here | apply Take.there))))), rfl, .inr ⟨_, _, _, rfl, hT54, rfl⟩, ⟨hr', fun _ => ⟨⟨rfl, some ⟨gb, go, none⟩, 1, rfl, Nat.le_refl _, by decide, (fun h => by cases h), fun _ => ⟨gb, go, rfl, fun j u hj => hra j u ?_⟩⟩, _, rfl⟩, ⟨⟨_, _, rfl⟩, _, _, rfl⟩, ?_, ?_, W.vt hT54⟩, hs54⟩
    ·have hj0 : j = 0 := by
      have := (List.getElem?_eq_some_iff.1 hj).1
      rw [show (ivs [(k0 : Int)]).length = 1 from rfl] at this
      omega
     subst hj0
     exact hj
    ·intro c hc
     exact hin c hc
    ·rw [List.length_cons] at hle
     show 1 + bl.length ≤ W.n
     omega
   ·skip
    have h40' : bs = [] := by
     have := of_decide_eq_false h40
     cases bs with
     | nil => rfl
     | cons _ _ => exfalso; rw [List.length_cons] at this; omega
    refine swp_skip ?_
    subst h40'
    refine then_n ⟨⟨.slice none 0 0, .slice none 0 0, .slice none 0 0, ⟨[], [], []⟩, false⟩, s1, ⟨rfl, rfl, trivial⟩, ?_, rfl, .inl ⟨rfl, rfl⟩, ⟨Row.nil _ _, fun _ => ⟨Row.nil _ _, _, rfl⟩, ⟨⟨_, _, rfl⟩, _, _, rfl⟩, (fun c hc => by cases hc), Nat.zero_le _, TW.nil _⟩, hs1⟩
    exact own_nil_ent.trans (Split.ent' (K := [blk b9 85 [.slice none 0 0, .slice none 0 0, .slice none 0 0], own 52 2 (.slice none 0 0) 0 [], naA tv, wkV w W.sv (.slice A xs.length cap) (steps + 1) limit, own 85 3 (.slice A xs.length cap) xs.length (xs.flatMap encV), W.A s1, ro μ3]) (by repeat (first | exact Split.nil | (apply Split.cons; (repeat (first | with_reducible exact Take.here | apply Take.there))))))
  rintro env L ⟨nv, s3, hsub, hE, hown, hfr, hok, hs3⟩
  refine swp_sub _ hsub ?_
  refine swp_ent hE ?_
  clear hsub hE env L
  obtain ⟨nr, nn, nt, nf, no⟩ := nv
  have hok' := hok
  obtain ⟨hq1, _, hq3, _⟩ := hok'
  obtain ⟨_, AR, cR, e1, _⟩ := hq1
  obtain ⟨⟨AN, cN, e2⟩, AT, cT, e3⟩ := hq3
  dsimp only at e1 e2 e3
  subst e1 e2 e3
  refine swp_seq ?_
  refine swp_draw [4, 5] _ [] (by simp only [List.append_nil]; exact Ent.refl _) (by kernel_rfl) ?_
  refine d_pu 0 rfl (pu_move rfl) (by kernel_rfl) (by kernel_rfl) (by kernel_rfl) ?_
  refine d_pu 1 rfl (pu_move rfl) (by kernel_rfl) (by kernel_rfl) (by kernel_rfl) ?_
  first | refine d_pu 2 rfl (pu_nilCheck rfl) (by kernel_rfl) (by kernel_rfl) (by kernel_rfl) ?_ | refine d_pu 2 rfl (pu_nilCheck_fn rfl) (by kernel_rfl) (by kernel_rfl) (by kernel_rfl) ?_ | refine d_pu 2 rfl (pu_nilCheck_if rfl) (by kernel_rfl) (by kernel_rfl) (by kernel_rfl) ?_
  first | refine d_pu 3 rfl (pu_fieldAddr0 rfl) (by kernel_rfl) (by kernel_rfl) (by kernel_rfl) ?_ | refine d_pu 3 rfl (pu_fieldAddr rfl) (by kernel_rfl) (by kernel_rfl) (by kernel_rfl) ?_
  refine d_rd 4 rfl (rd_load rfl rfl) rfl (by kernel_rfl) (by kernel_rfl) (by kernel_rfl) ?_
  first | refine d_rd 5 rfl (rd_loadW rfl rfl) rfl (by kernel_rfl) (by kernel_rfl) (by kernel_rfl) ?_ | refine d_rd 5 rfl (rd_loadX rfl rfl rfl) rfl (by kernel_rfl) (by kernel_rfl) (by kernel_rfl) ?_
  refine d_eft 6 rfl (by kernel_rfl) (ef_bldS (qs := [(0, _)]) rfl rfl rfl) ?_
  intro b62
  refine ⟨_, Split.ent (by repeat (first | exact Split.nil | (apply Split.cons; (repeat (first | with_reducible exact Take.here | apply Take.there))))), ?_⟩
  first | refine d_fint 7 rfl (by kernel_rfl) (by kernel_rfl) (ef_append_lit (l := xs.length) (m := 1) (news := [.slice AR nf.rest.length cR, .slice AN nf.node.length cN, .slice AT nf.tree.length cT]) rfl rfl (by repeat (first | exact Split.nil | (apply Split.cons; (repeat (first | with_reducible exact Take.here | apply Take.there))))) (by simp only [maxLen]; omega) (by omega)) ?_ | refine d_finf 7 rfl (by kernel_rfl) (by kernel_rfl) (ef_append_lit (l := xs.length) (m := 1) (news := [.slice AR nf.rest.length cR, .slice AN nf.node.length cN, .slice AT nf.tree.length cT]) rfl rfl (by repeat (first | exact Split.nil | (apply Split.cons; (repeat (first | with_reducible exact Take.here | apply Take.there))))) (by simp only [maxLen]; omega) (by omega)) ?_
  rintro st' hst'
  obtain ⟨g7, c7, rfl⟩ := hst' (by decide)
  first | refine d_pu 8 rfl (pu_nilCheck rfl) (by kernel_rfl) (by kernel_rfl) (by kernel_rfl) ?_ | refine d_pu 8 rfl (pu_nilCheck_fn rfl) (by kernel_rfl) (by kernel_rfl) (by kernel_rfl) ?_ | refine d_pu 8 rfl (pu_nilCheck_if rfl) (by kernel_rfl) (by kernel_rfl) (by kernel_rfl) ?_
  first | refine d_pu 9 rfl (pu_fieldAddr0 rfl) (by kernel_rfl) (by kernel_rfl) (by kernel_rfl) ?_ | refine d_pu 9 rfl (pu_fieldAddr rfl) (by kernel_rfl) (by kernel_rfl) (by kernel_rfl) ?_
  first | refine d_fin0t 10 rfl (by kernel_rfl) (by kernel_rfl) (ef_store rfl rfl rfl) ?_ | refine d_fin0f 10 rfl (by kernel_rfl) (by kernel_rfl) (ef_store rfl rfl rfl) ?_
  refine d_sub _ .nil ?_
  first | refine d_nilt (by kernel_rfl) ?_ | refine d_nilf (by kernel_rfl) ?_
  refine then_n ?_
  refine swp_seq ?_
  refine swp_region ?_
  refine s_pu (pu_assign rfl) ?_
  refine swl_sub _ (.cons (t := 6) rfl .nil) ?_
  refine swl_nil ?_
  refine then_n ?_
  refine swp_ret ?_
  refine done_retE [naA tv, wkV w W.sv (.slice (some ⟨g7, 0, none⟩) (xs.length + 1) c7) (steps + 1) limit, own 85 3 (.slice (some ⟨g7, 0, none⟩) (xs.length + 1) c7) (xs.length + 1) (xs.flatMap encV ++ encV ⟨.slice AR nf.rest.length cR, .slice AN nf.node.length cN, .slice AT nf.tree.length cT, nf, no⟩), treeA ⟨.slice AR nf.rest.length cR, .slice AN nf.node.length cN, .slice AT nf.tree.length cT, nf, no⟩, W.A s3, ro μ3] (.tmp rfl .nil) (.inr ⟨h18', rfl, _, _, _, s3, μ3, hown, ⟨bs, hbs, hfr⟩, hok, hs3, h1.trans (h2.trans h3), rfl⟩) (Split.ent' (by repeat (first | exact Split.nil | (apply Split.cons; (repeat (first | with_reducible exact Take.here | apply Take.there))))))
end SX.XV
