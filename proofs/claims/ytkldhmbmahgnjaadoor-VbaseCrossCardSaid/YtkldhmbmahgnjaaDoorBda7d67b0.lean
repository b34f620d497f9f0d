/- A part of the proof: walks of the program's functions, and the rules by which they go. -/
import Derived.Test.YtkldhmbmahgnjaaDoorBe381e68c
import Derived.Test.YtkldhmbmahgnjaaDoorB6031634f
namespace SX
open Go Go.Proofs
theorem byte32 (b : UInt8) : ((b.toNat : Nat) : Int) = ((BitVec.ofNat 32 b.toNat).toNat : Int) := by
  have := b.toNat_lt; rw [BitVec.toNat_ofNat, Nat.mod_eq_of_lt (by omega)]
set_option maxHeartbeats 1000000 in
theorem hash_spec (s : W32) (p : ByteArray) (hs : p.size ≤ 1048576) : Spec Tryd.prog 66 [.int .u32 (s.toNat : Nat), .string p] [] (fun v L => v = .int .u32 ((hashW s p.data.toList).toNat : Nat) ∧ L = []) := by
  have hl : p.data.toList.length = p.size := by rw [Array.length_toList]; rfl
  refine Spec.of 39 Tryd.func66 rfl rfl rfl ?_
  refine swp_seq ?_
  refine swp_region ?_
  refine s_pu (pu_assign rfl) ?_
  refine swl_sub _ (.cons (t := 0) rfl (.cons (t := 1) rfl .nil)) ?_
  refine swl_nil ?_
  refine then_n ?_
  refine swp_seq ?_
  refine swp_region ?_
  refine s_pu (pu_move rfl) ?_
  refine s_pu (pu_xor_w32 (a := 2166136261#32) rfl rfl) ?_
  refine s_pu (pu_assign rfl) ?_
  refine swl_sub _ (.cons (t := 1) rfl (.cons (t := 5) rfl .nil)) ?_
  refine swl_nil ?_
  refine then_n ?_
  refine swp_seq ?_
  refine swp_seq ?_
  refine swp_region ?_
  refine s_pu (pu_assign rfl) ?_
  refine swl_sub _ (.cons (t := 1) rfl (.cons (t := 5) rfl (.cons (t := 6) rfl .nil))) ?_
  refine swl_nil ?_
  refine then_n ?_
  refine swp_block ?_
  refine swp_loop (ι := Nat) (fun i env L => Sub env [(1, .string p), (5, .int .u32 (((p.data.toList.take i).foldl hash1 (2166136261#32 ^^^ s)).toNat : Nat)), (6, .int .i64 (i : Nat))] ∧ L = [] ∧ i ≤ p.size) (fun i => p.size - i) 0 ⟨⟨rfl, rfl, rfl, trivial⟩, rfl, Nat.zero_le _⟩ ?_
  rintro i env L ⟨hsub, rfl, hi⟩
  refine swp_sub _ hsub ?_
  clear hsub env
  refine swp_seq ?_
  refine swp_seq ?_
  refine swp_region ?_
  refine s_pu (pu_move rfl) ?_
  refine s_pu (pu_move rfl) ?_
  refine s_pu (pu_strlen rfl) ?_
  refine s_pu (pu_lss rfl rfl) ?_
  refine swl_sub _ (.cons (t := 1) rfl (.cons (t := 5) rfl (.cons (t := 6) rfl (.cons (t := 12) rfl .nil)))) ?_
  refine swl_nil ?_
  refine then_n ?_
  refine swp_cond (b := _) rfl (fun h12 => ?_) (fun h12 => ?_)
  · skip   -- 12 T
    have h12' : i < p.size := by have := of_decide_eq_true h12; omega
    obtain ⟨b, hb⟩ : ∃ b, p.data.toList[i]? = some b := ⟨_, List.getElem?_eq_getElem (by omega)⟩
    refine swp_skip ?_
    refine then_n ?_
    refine swp_seq ?_
    refine swp_block ?_
    refine swp_seq ?_
    refine swp_region ?_
    refine s_pu (pu_move rfl) ?_
    refine s_pu (pu_move rfl) ?_
    refine s_pu (pu_move rfl) ?_
    refine s_pu (pu_str_index rfl rfl rfl hb) ?_
    refine s_pu (pu_conv_as (k' := .u32) (n := ((BitVec.ofNat 32 b.toNat).toNat : Int)) (by rw [← byte32]; rfl) (wrap_word32 _)) ?_
    refine s_pu (pu_xor_w32 rfl rfl) ?_
    refine s_pu (pu_assign rfl) ?_
    refine swl_sub _ (.cons (t := 1) rfl (.cons (t := 5) rfl (.cons (t := 6) rfl .nil))) ?_
    refine swl_nil ?_
    refine then_n ?_
    refine swp_region ?_
    refine s_pu (pu_move rfl) ?_
    refine s_pu (pu_mul_w32 (b := 16777619#32) rfl rfl) ?_
    refine s_pu (pu_assign rfl) ?_
    refine swl_sub _ (.cons (t := 1) rfl (.cons (t := 5) rfl (.cons (t := 6) rfl .nil))) ?_
    refine swl_nil ?_
    refine block_n ?_
    refine then_n ?_
    refine swp_region ?_
    refine s_pu (pu_move rfl) ?_
    refine s_pu (pu_add_as ((i + 1 : Nat) : Int) rfl rfl (by omega) (by omega) (by omega)) ?_
    refine s_pu (pu_assign rfl) ?_
    refine swl_sub _ (.cons (t := 1) rfl (.cons (t := 5) rfl (.cons (t := 6) rfl .nil))) ?_
    refine swl_nil ?_
    refine then_n ⟨i + 1, ⟨⟨rfl, ?_, rfl, trivial⟩, rfl, h12'⟩, by omega⟩
    rw [List.take_add_one, hb, List.foldl_append]; rfl
  · skip   -- 12 F
    have h12' := of_decide_eq_false h12
    obtain rfl : i = p.size := by omega
    rw [List.take_of_length_le (by omega)]
    refine swp_exit ?_
    refine then_x ?_
    refine then_x ?_
    refine block_hit rfl ?_
    refine then_n ?_
    refine swp_seq ?_
    refine swp_region ?_
    refine s_pu (pu_move rfl) ?_
    refine s_pu (pu_move rfl) ?_
    refine s_pu (pu_shr_w32 16 rfl rfl (by omega)) ?_
    refine s_pu (pu_xor_w32 rfl rfl) ?_
    refine s_pu (pu_assign rfl) ?_
    refine swl_sub _ (.cons (t := 5) rfl .nil) ?_
    refine swl_nil ?_
    refine then_n ?_
    refine swp_seq ?_
    refine swp_region ?_
    refine s_pu (pu_move rfl) ?_
    refine s_pu (pu_mul_w32 (b := 2246822507#32) rfl rfl) ?_
    refine s_pu (pu_assign rfl) ?_
    refine swl_sub _ (.cons (t := 5) rfl .nil) ?_
    refine swl_nil ?_
    refine then_n ?_
    refine swp_seq ?_
    refine swp_region ?_
    refine s_pu (pu_move rfl) ?_
    refine s_pu (pu_move rfl) ?_
    refine s_pu (pu_shr_w32 13 rfl rfl (by omega)) ?_
    refine s_pu (pu_xor_w32 rfl rfl) ?_
    refine s_pu (pu_assign rfl) ?_
    refine swl_sub _ (.cons (t := 5) rfl .nil) ?_
    refine swl_nil ?_
    refine then_n ?_
    refine swp_seq ?_
    refine swp_region ?_
    refine s_pu (pu_move rfl) ?_
    refine s_pu (pu_mul_w32 (b := 3266489909#32) rfl rfl) ?_
    refine s_pu (pu_assign rfl) ?_
    refine swl_sub _ (.cons (t := 5) rfl .nil) ?_
    refine swl_nil ?_
    refine then_n ?_
    refine swp_seq ?_
    refine swp_region ?_
    refine s_pu (pu_move rfl) ?_
    refine s_pu (pu_move rfl) ?_
    refine s_pu (pu_shr_w32 16 rfl rfl (by omega)) ?_
    refine s_pu (pu_xor_w32 rfl rfl) ?_
    refine s_pu (pu_assign rfl) ?_
    refine swl_sub _ (.cons (t := 4) rfl .nil) ?_
    refine swl_nil ?_
    refine then_n ?_
    refine swp_ret ?_
    exact done_ret [] (.tmp rfl .nil) ⟨rfl, rfl⟩ (by repeat (first | exact Split.nil | (apply Split.cons; (repeat (first | with_reducible exact Take.here | apply Take.there)))))
theorem scheck_spec (s : Sett) : Spec Tryd.prog 49 [.agg (encS s).toArray] [] (fun v L => v = .int .i64 (if s.bad then 1 else 0) ∧ L = []) := by
  refine Spec.of 31 Tryd.func49 rfl rfl rfl ?_
  refine swp_seq ?_
  refine swp_region ?_
  refine s_ef (ef_box rfl rfl) ?_
  intro b1
  refine s_pu (pu_assign rfl) ?_
  refine swl_sub _ (.cons (t := 1) rfl .nil) ?_
  refine swl_nil ?_
  refine then_n ?_
  refine swp_seq ?_
  refine swp_seq ?_
  refine swp_region ?_
  first | refine s_pu (pu_fieldAddr0 rfl) ?_ | refine s_pu (pu_fieldAddr rfl) ?_
  refine s_rd (rd_load rfl rfl) ?_
  refine s_pu (pu_lss rfl rfl) ?_
  refine s_pu (pu_move rfl) ?_
  refine s_split 6 rfl (fun h6 => ?_) (fun h6 => ?_)
  · skip   -- 6 T
    refine s_off rfl rfl rfl ?_
    refine s_off rfl rfl rfl ?_
    refine s_off rfl rfl rfl ?_
    first | refine s_pu (pu_pick_t rfl rfl) ?_ | refine s_pu (pu_pick_f rfl rfl) ?_
    refine s_pu (pu_move rfl) ?_
    refine s_split 11 rfl (fun h11 => ?_) (fun h11 => ?_)
    · skip   -- 11 T
      refine s_off rfl rfl rfl ?_
      refine s_off rfl rfl rfl ?_
      refine s_off rfl rfl rfl ?_
      first | refine s_pu (pu_pick_t rfl rfl) ?_ | refine s_pu (pu_pick_f rfl rfl) ?_
      refine s_pu (pu_move rfl) ?_
      refine s_split 16 rfl (fun h16 => ?_) (fun h16 => ?_)
      · skip   -- 16 T
        refine s_off rfl rfl rfl ?_
        refine s_off rfl rfl rfl ?_
        refine s_off rfl rfl rfl ?_
        first | refine s_pu (pu_pick_t rfl rfl) ?_ | refine s_pu (pu_pick_f rfl rfl) ?_
        refine s_pu (pu_move rfl) ?_
        refine s_split 21 rfl (fun h21 => ?_) (fun h21 => ?_)
        · skip   -- 21 T
          refine s_off rfl rfl rfl ?_
          refine s_off rfl rfl rfl ?_
          refine s_off rfl rfl rfl ?_
          first | refine s_pu (pu_pick_t rfl rfl) ?_ | refine s_pu (pu_pick_f rfl rfl) ?_
          refine s_pu (pu_move rfl) ?_
          refine s_split 26 rfl (fun h26 => ?_) (fun h26 => ?_)
          · skip   -- 26 T
            refine s_off rfl rfl rfl ?_
            refine s_off rfl rfl rfl ?_
            refine s_off rfl rfl rfl ?_
            first | refine s_pu (pu_pick_t rfl rfl) ?_ | refine s_pu (pu_pick_f rfl rfl) ?_
            refine swl_sub _ (.cons (t := 30) rfl .nil) ?_
            refine swl_nil ?_
            refine then_n ?_
            refine swp_cond (b := _) rfl (fun h30 => ?_) (fun h30 => ?_)
            · skip   -- 30 T
              refine swp_seq ?_
              refine swp_region ?_
              refine s_pu (pu_assign rfl) ?_
              refine swl_sub _ (.cons (t := 2) rfl .nil) ?_
              refine swl_nil ?_
              refine then_n ?_
              refine swp_ret ?_
              refine then_r ?_
              refine done_ret [] (.tmp rfl .nil) ⟨congrArg (Value.int .i64) ?_, rfl⟩ (by repeat (first | exact Split.nil | (apply Split.cons; (repeat (first | with_reducible exact Take.here | apply Take.there)))))
              unfold Sett.bad; grind
            · skip   -- 30 F
              refine swp_skip ?_
              refine then_n ?_
              refine swp_seq ?_
              refine swp_region ?_
              refine s_pu (pu_assign rfl) ?_
              refine swl_sub _ (.cons (t := 2) rfl .nil) ?_
              refine swl_nil ?_
              refine then_n ?_
              refine swp_ret ?_
              refine done_ret [] (.tmp rfl .nil) ⟨congrArg (Value.int .i64) ?_, rfl⟩ (by repeat (first | exact Split.nil | (apply Split.cons; (repeat (first | with_reducible exact Take.here | apply Take.there)))))
              unfold Sett.bad; grind
          · skip   -- 26 F
            refine s_on rfl rfl ?_
            first | refine s_pu (pu_fieldAddr0 rfl) ?_ | refine s_pu (pu_fieldAddr rfl) ?_
            refine s_on rfl rfl ?_
            refine s_rd (rd_load rfl rfl) ?_
            refine s_on rfl rfl ?_
            refine s_pu (pu_gtr rfl rfl) ?_
            first | refine s_pu (pu_pick_t rfl rfl) ?_ | refine s_pu (pu_pick_f rfl rfl) ?_
            refine swl_sub _ (.cons (t := 30) rfl .nil) ?_
            refine swl_nil ?_
            refine then_n ?_
            refine swp_cond (b := _) rfl (fun h30 => ?_) (fun h30 => ?_)
            · skip   -- 30 T
              refine swp_seq ?_
              refine swp_region ?_
              refine s_pu (pu_assign rfl) ?_
              refine swl_sub _ (.cons (t := 2) rfl .nil) ?_
              refine swl_nil ?_
              refine then_n ?_
              refine swp_ret ?_
              refine then_r ?_
              refine done_ret [] (.tmp rfl .nil) ⟨congrArg (Value.int .i64) ?_, rfl⟩ (by repeat (first | exact Split.nil | (apply Split.cons; (repeat (first | with_reducible exact Take.here | apply Take.there)))))
              unfold Sett.bad; grind
            · skip   -- 30 F
              refine swp_skip ?_
              refine then_n ?_
              refine swp_seq ?_
              refine swp_region ?_
              refine s_pu (pu_assign rfl) ?_
              refine swl_sub _ (.cons (t := 2) rfl .nil) ?_
              refine swl_nil ?_
              refine then_n ?_
              refine swp_ret ?_
              refine done_ret [] (.tmp rfl .nil) ⟨congrArg (Value.int .i64) ?_, rfl⟩ (by repeat (first | exact Split.nil | (apply Split.cons; (repeat (first | with_reducible exact Take.here | apply Take.there)))))
              unfold Sett.bad; grind
        · skip   -- 21 F
          refine s_on rfl rfl ?_
          first | refine s_pu (pu_fieldAddr0 rfl) ?_ | refine s_pu (pu_fieldAddr rfl) ?_
          refine s_on rfl rfl ?_
          refine s_rd (rd_load rfl rfl) ?_
          refine s_on rfl rfl ?_
          refine s_pu (pu_lss rfl rfl) ?_
          first | refine s_pu (pu_pick_t rfl rfl) ?_ | refine s_pu (pu_pick_f rfl rfl) ?_
          refine s_pu (pu_move rfl) ?_
          refine s_split 26 rfl (fun h26 => ?_) (fun h26 => ?_)
          · skip   -- 26 T
            refine s_off rfl rfl rfl ?_
            refine s_off rfl rfl rfl ?_
            refine s_off rfl rfl rfl ?_
            first | refine s_pu (pu_pick_t rfl rfl) ?_ | refine s_pu (pu_pick_f rfl rfl) ?_
            refine swl_sub _ (.cons (t := 30) rfl .nil) ?_
            refine swl_nil ?_
            refine then_n ?_
            refine swp_cond (b := _) rfl (fun h30 => ?_) (fun h30 => ?_)
            · skip   -- 30 T
              refine swp_seq ?_
              refine swp_region ?_
              refine s_pu (pu_assign rfl) ?_
              refine swl_sub _ (.cons (t := 2) rfl .nil) ?_
              refine swl_nil ?_
              refine then_n ?_
              refine swp_ret ?_
              refine then_r ?_
              refine done_ret [] (.tmp rfl .nil) ⟨congrArg (Value.int .i64) ?_, rfl⟩ (by repeat (first | exact Split.nil | (apply Split.cons; (repeat (first | with_reducible exact Take.here | apply Take.there)))))
              unfold Sett.bad; grind
            · skip   -- 30 F
              refine swp_skip ?_
              refine then_n ?_
              refine swp_seq ?_
              refine swp_region ?_
              refine s_pu (pu_assign rfl) ?_
              refine swl_sub _ (.cons (t := 2) rfl .nil) ?_
              refine swl_nil ?_
              refine then_n ?_
              refine swp_ret ?_
              refine done_ret [] (.tmp rfl .nil) ⟨congrArg (Value.int .i64) ?_, rfl⟩ (by repeat (first | exact Split.nil | (apply Split.cons; (repeat (first | with_reducible exact Take.here | apply Take.there)))))
              unfold Sett.bad; grind
          · skip   -- 26 F
            refine s_on rfl rfl ?_
            first | refine s_pu (pu_fieldAddr0 rfl) ?_ | refine s_pu (pu_fieldAddr rfl) ?_
            refine s_on rfl rfl ?_
            refine s_rd (rd_load rfl rfl) ?_
            refine s_on rfl rfl ?_
            refine s_pu (pu_gtr rfl rfl) ?_
            first | refine s_pu (pu_pick_t rfl rfl) ?_ | refine s_pu (pu_pick_f rfl rfl) ?_
            refine swl_sub _ (.cons (t := 30) rfl .nil) ?_
            refine swl_nil ?_
            refine then_n ?_
            refine swp_cond (b := _) rfl (fun h30 => ?_) (fun h30 => ?_)
            · skip   -- 30 T
              refine swp_seq ?_
              refine swp_region ?_
              refine s_pu (pu_assign rfl) ?_
              refine swl_sub _ (.cons (t := 2) rfl .nil) ?_
              refine swl_nil ?_
              refine then_n ?_
              refine swp_ret ?_
              refine then_r ?_
              refine done_ret [] (.tmp rfl .nil) ⟨congrArg (Value.int .i64) ?_, rfl⟩ (by repeat (first | exact Split.nil | (apply Split.cons; (repeat (first | with_reducible exact Take.here | apply Take.there)))))
              unfold Sett.bad; grind
            · skip   -- 30 F
              refine swp_skip ?_
              refine then_n ?_
              refine swp_seq ?_
              refine swp_region ?_
              refine s_pu (pu_assign rfl) ?_
              refine swl_sub _ (.cons (t := 2) rfl .nil) ?_
              refine swl_nil ?_
              refine then_n ?_
              refine swp_ret ?_
              refine done_ret [] (.tmp rfl .nil) ⟨congrArg (Value.int .i64) ?_, rfl⟩ (by repeat (first | exact Split.nil | (apply Split.cons; (repeat (first | with_reducible exact Take.here | apply Take.there)))))
              unfold Sett.bad; grind
      · skip   -- 16 F
        refine s_on rfl rfl ?_
        first | refine s_pu (pu_fieldAddr0 rfl) ?_ | refine s_pu (pu_fieldAddr rfl) ?_
        refine s_on rfl rfl ?_
        refine s_rd (rd_load rfl rfl) ?_
        refine s_on rfl rfl ?_
        refine s_pu (pu_gtr rfl rfl) ?_
        first | refine s_pu (pu_pick_t rfl rfl) ?_ | refine s_pu (pu_pick_f rfl rfl) ?_
        refine s_pu (pu_move rfl) ?_
        refine s_split 21 rfl (fun h21 => ?_) (fun h21 => ?_)
        · skip   -- 21 T
          refine s_off rfl rfl rfl ?_
          refine s_off rfl rfl rfl ?_
          refine s_off rfl rfl rfl ?_
          first | refine s_pu (pu_pick_t rfl rfl) ?_ | refine s_pu (pu_pick_f rfl rfl) ?_
          refine s_pu (pu_move rfl) ?_
          refine s_split 26 rfl (fun h26 => ?_) (fun h26 => ?_)
          · skip   -- 26 T
            refine s_off rfl rfl rfl ?_
            refine s_off rfl rfl rfl ?_
            refine s_off rfl rfl rfl ?_
            first | refine s_pu (pu_pick_t rfl rfl) ?_ | refine s_pu (pu_pick_f rfl rfl) ?_
            refine swl_sub _ (.cons (t := 30) rfl .nil) ?_
            refine swl_nil ?_
            refine then_n ?_
            refine swp_cond (b := _) rfl (fun h30 => ?_) (fun h30 => ?_)
            · skip   -- 30 T
              refine swp_seq ?_
              refine swp_region ?_
              refine s_pu (pu_assign rfl) ?_
              refine swl_sub _ (.cons (t := 2) rfl .nil) ?_
              refine swl_nil ?_
              refine then_n ?_
              refine swp_ret ?_
              refine then_r ?_
              refine done_ret [] (.tmp rfl .nil) ⟨congrArg (Value.int .i64) ?_, rfl⟩ (by repeat (first | exact Split.nil | (apply Split.cons; (repeat (first | with_reducible exact Take.here | apply Take.there)))))
              unfold Sett.bad; grind
            · skip   -- 30 F
              refine swp_skip ?_
              refine then_n ?_
              refine swp_seq ?_
              refine swp_region ?_
              refine s_pu (pu_assign rfl) ?_
              refine swl_sub _ (.cons (t := 2) rfl .nil) ?_
              refine swl_nil ?_
              refine then_n ?_
              refine swp_ret ?_
              refine done_ret [] (.tmp rfl .nil) ⟨congrArg (Value.int .i64) ?_, rfl⟩ (by repeat (first | exact Split.nil | (apply Split.cons; (repeat (first | with_reducible exact Take.here | apply Take.there)))))
              unfold Sett.bad; grind
          · skip   -- 26 F
            refine s_on rfl rfl ?_
            first | refine s_pu (pu_fieldAddr0 rfl) ?_ | refine s_pu (pu_fieldAddr rfl) ?_
            refine s_on rfl rfl ?_
            refine s_rd (rd_load rfl rfl) ?_
            refine s_on rfl rfl ?_
            refine s_pu (pu_gtr rfl rfl) ?_
            first | refine s_pu (pu_pick_t rfl rfl) ?_ | refine s_pu (pu_pick_f rfl rfl) ?_
            refine swl_sub _ (.cons (t := 30) rfl .nil) ?_
            refine swl_nil ?_
            refine then_n ?_
            refine swp_cond (b := _) rfl (fun h30 => ?_) (fun h30 => ?_)
            · skip   -- 30 T
              refine swp_seq ?_
              refine swp_region ?_
              refine s_pu (pu_assign rfl) ?_
              refine swl_sub _ (.cons (t := 2) rfl .nil) ?_
              refine swl_nil ?_
              refine then_n ?_
              refine swp_ret ?_
              refine then_r ?_
              refine done_ret [] (.tmp rfl .nil) ⟨congrArg (Value.int .i64) ?_, rfl⟩ (by repeat (first | exact Split.nil | (apply Split.cons; (repeat (first | with_reducible exact Take.here | apply Take.there)))))
              unfold Sett.bad; grind
            · skip   -- 30 F
              refine swp_skip ?_
              refine then_n ?_
              refine swp_seq ?_
              refine swp_region ?_
              refine s_pu (pu_assign rfl) ?_
              refine swl_sub _ (.cons (t := 2) rfl .nil) ?_
              refine swl_nil ?_
              refine then_n ?_
              refine swp_ret ?_
              refine done_ret [] (.tmp rfl .nil) ⟨congrArg (Value.int .i64) ?_, rfl⟩ (by repeat (first | exact Split.nil | (apply Split.cons; (repeat (first | with_reducible exact Take.here | apply Take.there)))))
              unfold Sett.bad; grind
        · skip   -- 21 F
          refine s_on rfl rfl ?_
          first | refine s_pu (pu_fieldAddr0 rfl) ?_ | refine s_pu (pu_fieldAddr rfl) ?_
          refine s_on rfl rfl ?_
          refine s_rd (rd_load rfl rfl) ?_
          refine s_on rfl rfl ?_
          refine s_pu (pu_lss rfl rfl) ?_
          first | refine s_pu (pu_pick_t rfl rfl) ?_ | refine s_pu (pu_pick_f rfl rfl) ?_
          refine s_pu (pu_move rfl) ?_
          refine s_split 26 rfl (fun h26 => ?_) (fun h26 => ?_)
          · skip   -- 26 T
            refine s_off rfl rfl rfl ?_
            refine s_off rfl rfl rfl ?_
            refine s_off rfl rfl rfl ?_
            first | refine s_pu (pu_pick_t rfl rfl) ?_ | refine s_pu (pu_pick_f rfl rfl) ?_
            refine swl_sub _ (.cons (t := 30) rfl .nil) ?_
            refine swl_nil ?_
            refine then_n ?_
            refine swp_cond (b := _) rfl (fun h30 => ?_) (fun h30 => ?_)
            · skip   -- 30 T
              refine swp_seq ?_
              refine swp_region ?_
              refine s_pu (pu_assign rfl) ?_
              refine swl_sub _ (.cons (t := 2) rfl .nil) ?_
              refine swl_nil ?_
              refine then_n ?_
              refine swp_ret ?_
              refine then_r ?_
              refine done_ret [] (.tmp rfl .nil) ⟨congrArg (Value.int .i64) ?_, rfl⟩ (by repeat (first | exact Split.nil | (apply Split.cons; (repeat (first | with_reducible exact Take.here | apply Take.there)))))
              unfold Sett.bad; grind
            · skip   -- 30 F
              refine swp_skip ?_
              refine then_n ?_
              refine swp_seq ?_
              refine swp_region ?_
              refine s_pu (pu_assign rfl) ?_
              refine swl_sub _ (.cons (t := 2) rfl .nil) ?_
              refine swl_nil ?_
              refine then_n ?_
              refine swp_ret ?_
              refine done_ret [] (.tmp rfl .nil) ⟨congrArg (Value.int .i64) ?_, rfl⟩ (by repeat (first | exact Split.nil | (apply Split.cons; (repeat (first | with_reducible exact Take.here | apply Take.there)))))
              unfold Sett.bad; grind
          · skip   -- 26 F
            refine s_on rfl rfl ?_
            first | refine s_pu (pu_fieldAddr0 rfl) ?_ | refine s_pu (pu_fieldAddr rfl) ?_
            refine s_on rfl rfl ?_
            refine s_rd (rd_load rfl rfl) ?_
            refine s_on rfl rfl ?_
            refine s_pu (pu_gtr rfl rfl) ?_
            first | refine s_pu (pu_pick_t rfl rfl) ?_ | refine s_pu (pu_pick_f rfl rfl) ?_
            refine swl_sub _ (.cons (t := 30) rfl .nil) ?_
            refine swl_nil ?_
            refine then_n ?_
            refine swp_cond (b := _) rfl (fun h30 => ?_) (fun h30 => ?_)
            · skip   -- 30 T
              refine swp_seq ?_
              refine swp_region ?_
              refine s_pu (pu_assign rfl) ?_
              refine swl_sub _ (.cons (t := 2) rfl .nil) ?_
              refine swl_nil ?_
              refine then_n ?_
              refine swp_ret ?_
              refine then_r ?_
              refine done_ret [] (.tmp rfl .nil) ⟨congrArg (Value.int .i64) ?_, rfl⟩ (by repeat (first | exact Split.nil | (apply Split.cons; (repeat (first | with_reducible exact Take.here | apply Take.there)))))
              unfold Sett.bad; grind
            · skip   -- 30 F
              refine swp_skip ?_
              refine then_n ?_
              refine swp_seq ?_
              refine swp_region ?_
              refine s_pu (pu_assign rfl) ?_
              refine swl_sub _ (.cons (t := 2) rfl .nil) ?_
              refine swl_nil ?_
              refine then_n ?_
              refine swp_ret ?_
              refine done_ret [] (.tmp rfl .nil) ⟨congrArg (Value.int .i64) ?_, rfl⟩ (by repeat (first | exact Split.nil | (apply Split.cons; (repeat (first | with_reducible exact Take.here | apply Take.there)))))
              unfold Sett.bad; grind
    · skip   -- 11 F
      refine s_on rfl rfl ?_
      first | refine s_pu (pu_fieldAddr0 rfl) ?_ | refine s_pu (pu_fieldAddr rfl) ?_
      refine s_on rfl rfl ?_
      refine s_rd (rd_load rfl rfl) ?_
      refine s_on rfl rfl ?_
      refine s_pu (pu_lss rfl rfl) ?_
      first | refine s_pu (pu_pick_t rfl rfl) ?_ | refine s_pu (pu_pick_f rfl rfl) ?_
      refine s_pu (pu_move rfl) ?_
      refine s_split 16 rfl (fun h16 => ?_) (fun h16 => ?_)
      · skip   -- 16 T
        refine s_off rfl rfl rfl ?_
        refine s_off rfl rfl rfl ?_
        refine s_off rfl rfl rfl ?_
        first | refine s_pu (pu_pick_t rfl rfl) ?_ | refine s_pu (pu_pick_f rfl rfl) ?_
        refine s_pu (pu_move rfl) ?_
        refine s_split 21 rfl (fun h21 => ?_) (fun h21 => ?_)
        · skip   -- 21 T
          refine s_off rfl rfl rfl ?_
          refine s_off rfl rfl rfl ?_
          refine s_off rfl rfl rfl ?_
          first | refine s_pu (pu_pick_t rfl rfl) ?_ | refine s_pu (pu_pick_f rfl rfl) ?_
          refine s_pu (pu_move rfl) ?_
          refine s_split 26 rfl (fun h26 => ?_) (fun h26 => ?_)
          · skip   -- 26 T
            refine s_off rfl rfl rfl ?_
            refine s_off rfl rfl rfl ?_
            refine s_off rfl rfl rfl ?_
            first | refine s_pu (pu_pick_t rfl rfl) ?_ | refine s_pu (pu_pick_f rfl rfl) ?_
            refine swl_sub _ (.cons (t := 30) rfl .nil) ?_
            refine swl_nil ?_
            refine then_n ?_
            refine swp_cond (b := _) rfl (fun h30 => ?_) (fun h30 => ?_)
            · skip   -- 30 T
              refine swp_seq ?_
              refine swp_region ?_
              refine s_pu (pu_assign rfl) ?_
              refine swl_sub _ (.cons (t := 2) rfl .nil) ?_
              refine swl_nil ?_
              refine then_n ?_
              refine swp_ret ?_
              refine then_r ?_
              refine done_ret [] (.tmp rfl .nil) ⟨congrArg (Value.int .i64) ?_, rfl⟩ (by repeat (first | exact Split.nil | (apply Split.cons; (repeat (first | with_reducible exact Take.here | apply Take.there)))))
              unfold Sett.bad; grind
            · skip   -- 30 F
              refine swp_skip ?_
              refine then_n ?_
              refine swp_seq ?_
              refine swp_region ?_
              refine s_pu (pu_assign rfl) ?_
              refine swl_sub _ (.cons (t := 2) rfl .nil) ?_
              refine swl_nil ?_
              refine then_n ?_
              refine swp_ret ?_
              refine done_ret [] (.tmp rfl .nil) ⟨congrArg (Value.int .i64) ?_, rfl⟩ (by repeat (first | exact Split.nil | (apply Split.cons; (repeat (first | with_reducible exact Take.here | apply Take.there)))))
              unfold Sett.bad; grind
          · skip   -- 26 F
            refine s_on rfl rfl ?_
            first | refine s_pu (pu_fieldAddr0 rfl) ?_ | refine s_pu (pu_fieldAddr rfl) ?_
            refine s_on rfl rfl ?_
            refine s_rd (rd_load rfl rfl) ?_
            refine s_on rfl rfl ?_
            refine s_pu (pu_gtr rfl rfl) ?_
            first | refine s_pu (pu_pick_t rfl rfl) ?_ | refine s_pu (pu_pick_f rfl rfl) ?_
            refine swl_sub _ (.cons (t := 30) rfl .nil) ?_
            refine swl_nil ?_
            refine then_n ?_
            refine swp_cond (b := _) rfl (fun h30 => ?_) (fun h30 => ?_)
            · skip   -- 30 T
              refine swp_seq ?_
              refine swp_region ?_
              refine s_pu (pu_assign rfl) ?_
              refine swl_sub _ (.cons (t := 2) rfl .nil) ?_
              refine swl_nil ?_
              refine then_n ?_
              refine swp_ret ?_
              refine then_r ?_
              refine done_ret [] (.tmp rfl .nil) ⟨congrArg (Value.int .i64) ?_, rfl⟩ (by repeat (first | exact Split.nil | (apply Split.cons; (repeat (first | with_reducible exact Take.here | apply Take.there)))))
              unfold Sett.bad; grind
            · skip   -- 30 F
              refine swp_skip ?_
              refine then_n ?_
              refine swp_seq ?_
              refine swp_region ?_
              refine s_pu (pu_assign rfl) ?_
              refine swl_sub _ (.cons (t := 2) rfl .nil) ?_
              refine swl_nil ?_
              refine then_n ?_
              refine swp_ret ?_
              refine done_ret [] (.tmp rfl .nil) ⟨congrArg (Value.int .i64) ?_, rfl⟩ (by repeat (first | exact Split.nil | (apply Split.cons; (repeat (first | with_reducible exact Take.here | apply Take.there)))))
              unfold Sett.bad; grind
        · skip   -- 21 F
          refine s_on rfl rfl ?_
          first | refine s_pu (pu_fieldAddr0 rfl) ?_ | refine s_pu (pu_fieldAddr rfl) ?_
          refine s_on rfl rfl ?_
          refine s_rd (rd_load rfl rfl) ?_
          refine s_on rfl rfl ?_
          refine s_pu (pu_lss rfl rfl) ?_
          first | refine s_pu (pu_pick_t rfl rfl) ?_ | refine s_pu (pu_pick_f rfl rfl) ?_
          refine s_pu (pu_move rfl) ?_
          refine s_split 26 rfl (fun h26 => ?_) (fun h26 => ?_)
          · skip   -- 26 T
            refine s_off rfl rfl rfl ?_
            refine s_off rfl rfl rfl ?_
            refine s_off rfl rfl rfl ?_
            first | refine s_pu (pu_pick_t rfl rfl) ?_ | refine s_pu (pu_pick_f rfl rfl) ?_
            refine swl_sub _ (.cons (t := 30) rfl .nil) ?_
            refine swl_nil ?_
            refine then_n ?_
            refine swp_cond (b := _) rfl (fun h30 => ?_) (fun h30 => ?_)
            · skip   -- 30 T
              refine swp_seq ?_
              refine swp_region ?_
              refine s_pu (pu_assign rfl) ?_
              refine swl_sub _ (.cons (t := 2) rfl .nil) ?_
              refine swl_nil ?_
              refine then_n ?_
              refine swp_ret ?_
              refine then_r ?_
              refine done_ret [] (.tmp rfl .nil) ⟨congrArg (Value.int .i64) ?_, rfl⟩ (by repeat (first | exact Split.nil | (apply Split.cons; (repeat (first | with_reducible exact Take.here | apply Take.there)))))
              unfold Sett.bad; grind
            · skip   -- 30 F
              refine swp_skip ?_
              refine then_n ?_
              refine swp_seq ?_
              refine swp_region ?_
              refine s_pu (pu_assign rfl) ?_
              refine swl_sub _ (.cons (t := 2) rfl .nil) ?_
              refine swl_nil ?_
              refine then_n ?_
              refine swp_ret ?_
              refine done_ret [] (.tmp rfl .nil) ⟨congrArg (Value.int .i64) ?_, rfl⟩ (by repeat (first | exact Split.nil | (apply Split.cons; (repeat (first | with_reducible exact Take.here | apply Take.there)))))
              unfold Sett.bad; grind
          · skip   -- 26 F
            refine s_on rfl rfl ?_
            first | refine s_pu (pu_fieldAddr0 rfl) ?_ | refine s_pu (pu_fieldAddr rfl) ?_
            refine s_on rfl rfl ?_
            refine s_rd (rd_load rfl rfl) ?_
            refine s_on rfl rfl ?_
            refine s_pu (pu_gtr rfl rfl) ?_
            first | refine s_pu (pu_pick_t rfl rfl) ?_ | refine s_pu (pu_pick_f rfl rfl) ?_
            refine swl_sub _ (.cons (t := 30) rfl .nil) ?_
            refine swl_nil ?_
            refine then_n ?_
            refine swp_cond (b := _) rfl (fun h30 => ?_) (fun h30 => ?_)
            · skip   -- 30 T
              refine swp_seq ?_
              refine swp_region ?_
              refine s_pu (pu_assign rfl) ?_
              refine swl_sub _ (.cons (t := 2) rfl .nil) ?_
              refine swl_nil ?_
              refine then_n ?_
              refine swp_ret ?_
              refine then_r ?_
              refine done_ret [] (.tmp rfl .nil) ⟨congrArg (Value.int .i64) ?_, rfl⟩ (by repeat (first | exact Split.nil | (apply Split.cons; (repeat (first | with_reducible exact Take.here | apply Take.there)))))
              unfold Sett.bad; grind
            · skip   -- 30 F
              refine swp_skip ?_
              refine then_n ?_
              refine swp_seq ?_
              refine swp_region ?_
              refine s_pu (pu_assign rfl) ?_
              refine swl_sub _ (.cons (t := 2) rfl .nil) ?_
              refine swl_nil ?_
              refine then_n ?_
              refine swp_ret ?_
              refine done_ret [] (.tmp rfl .nil) ⟨congrArg (Value.int .i64) ?_, rfl⟩ (by repeat (first | exact Split.nil | (apply Split.cons; (repeat (first | with_reducible exact Take.here | apply Take.there)))))
              unfold Sett.bad; grind
      · skip   -- 16 F
        refine s_on rfl rfl ?_
        first | refine s_pu (pu_fieldAddr0 rfl) ?_ | refine s_pu (pu_fieldAddr rfl) ?_
        refine s_on rfl rfl ?_
        refine s_rd (rd_load rfl rfl) ?_
        refine s_on rfl rfl ?_
        refine s_pu (pu_gtr rfl rfl) ?_
        first | refine s_pu (pu_pick_t rfl rfl) ?_ | refine s_pu (pu_pick_f rfl rfl) ?_
        refine s_pu (pu_move rfl) ?_
        refine s_split 21 rfl (fun h21 => ?_) (fun h21 => ?_)
        · skip   -- 21 T
          refine s_off rfl rfl rfl ?_
          refine s_off rfl rfl rfl ?_
          refine s_off rfl rfl rfl ?_
          first | refine s_pu (pu_pick_t rfl rfl) ?_ | refine s_pu (pu_pick_f rfl rfl) ?_
          refine s_pu (pu_move rfl) ?_
          refine s_split 26 rfl (fun h26 => ?_) (fun h26 => ?_)
          · skip   -- 26 T
            refine s_off rfl rfl rfl ?_
            refine s_off rfl rfl rfl ?_
            refine s_off rfl rfl rfl ?_
            first | refine s_pu (pu_pick_t rfl rfl) ?_ | refine s_pu (pu_pick_f rfl rfl) ?_
            refine swl_sub _ (.cons (t := 30) rfl .nil) ?_
            refine swl_nil ?_
            refine then_n ?_
            refine swp_cond (b := _) rfl (fun h30 => ?_) (fun h30 => ?_)
            · skip   -- 30 T
              refine swp_seq ?_
              refine swp_region ?_
              refine s_pu (pu_assign rfl) ?_
              refine swl_sub _ (.cons (t := 2) rfl .nil) ?_
              refine swl_nil ?_
              refine then_n ?_
              refine swp_ret ?_
              refine then_r ?_
              refine done_ret [] (.tmp rfl .nil) ⟨congrArg (Value.int .i64) ?_, rfl⟩ (by repeat (first | exact Split.nil | (apply Split.cons; (repeat (first | with_reducible exact Take.here | apply Take.there)))))
              unfold Sett.bad; grind
            · skip   -- 30 F
              refine swp_skip ?_
              refine then_n ?_
              refine swp_seq ?_
              refine swp_region ?_
              refine s_pu (pu_assign rfl) ?_
              refine swl_sub _ (.cons (t := 2) rfl .nil) ?_
              refine swl_nil ?_
              refine then_n ?_
              refine swp_ret ?_
              refine done_ret [] (.tmp rfl .nil) ⟨congrArg (Value.int .i64) ?_, rfl⟩ (by repeat (first | exact Split.nil | (apply Split.cons; (repeat (first | with_reducible exact Take.here | apply Take.there)))))
              unfold Sett.bad; grind
          · skip   -- 26 F
            refine s_on rfl rfl ?_
            first | refine s_pu (pu_fieldAddr0 rfl) ?_ | refine s_pu (pu_fieldAddr rfl) ?_
            refine s_on rfl rfl ?_
            refine s_rd (rd_load rfl rfl) ?_
            refine s_on rfl rfl ?_
            refine s_pu (pu_gtr rfl rfl) ?_
            first | refine s_pu (pu_pick_t rfl rfl) ?_ | refine s_pu (pu_pick_f rfl rfl) ?_
            refine swl_sub _ (.cons (t := 30) rfl .nil) ?_
            refine swl_nil ?_
            refine then_n ?_
            refine swp_cond (b := _) rfl (fun h30 => ?_) (fun h30 => ?_)
            · skip   -- 30 T
              refine swp_seq ?_
              refine swp_region ?_
              refine s_pu (pu_assign rfl) ?_
              refine swl_sub _ (.cons (t := 2) rfl .nil) ?_
              refine swl_nil ?_
              refine then_n ?_
              refine swp_ret ?_
              refine then_r ?_
              refine done_ret [] (.tmp rfl .nil) ⟨congrArg (Value.int .i64) ?_, rfl⟩ (by repeat (first | exact Split.nil | (apply Split.cons; (repeat (first | with_reducible exact Take.here | apply Take.there)))))
              unfold Sett.bad; grind
            · skip   -- 30 F
              refine swp_skip ?_
              refine then_n ?_
              refine swp_seq ?_
              refine swp_region ?_
              refine s_pu (pu_assign rfl) ?_
              refine swl_sub _ (.cons (t := 2) rfl .nil) ?_
              refine swl_nil ?_
              refine then_n ?_
              refine swp_ret ?_
              refine done_ret [] (.tmp rfl .nil) ⟨congrArg (Value.int .i64) ?_, rfl⟩ (by repeat (first | exact Split.nil | (apply Split.cons; (repeat (first | with_reducible exact Take.here | apply Take.there)))))
              unfold Sett.bad; grind
        · skip   -- 21 F
          refine s_on rfl rfl ?_
          first | refine s_pu (pu_fieldAddr0 rfl) ?_ | refine s_pu (pu_fieldAddr rfl) ?_
          refine s_on rfl rfl ?_
          refine s_rd (rd_load rfl rfl) ?_
          refine s_on rfl rfl ?_
          refine s_pu (pu_lss rfl rfl) ?_
          first | refine s_pu (pu_pick_t rfl rfl) ?_ | refine s_pu (pu_pick_f rfl rfl) ?_
          refine s_pu (pu_move rfl) ?_
          refine s_split 26 rfl (fun h26 => ?_) (fun h26 => ?_)
          · skip   -- 26 T
            refine s_off rfl rfl rfl ?_
            refine s_off rfl rfl rfl ?_
            refine s_off rfl rfl rfl ?_
            first | refine s_pu (pu_pick_t rfl rfl) ?_ | refine s_pu (pu_pick_f rfl rfl) ?_
            refine swl_sub _ (.cons (t := 30) rfl .nil) ?_
            refine swl_nil ?_
            refine then_n ?_
            refine swp_cond (b := _) rfl (fun h30 => ?_) (fun h30 => ?_)
            · skip   -- 30 T
              refine swp_seq ?_
              refine swp_region ?_
              refine s_pu (pu_assign rfl) ?_
              refine swl_sub _ (.cons (t := 2) rfl .nil) ?_
              refine swl_nil ?_
              refine then_n ?_
              refine swp_ret ?_
              refine then_r ?_
              refine done_ret [] (.tmp rfl .nil) ⟨congrArg (Value.int .i64) ?_, rfl⟩ (by repeat (first | exact Split.nil | (apply Split.cons; (repeat (first | with_reducible exact Take.here | apply Take.there)))))
              unfold Sett.bad; grind
            · skip   -- 30 F
              refine swp_skip ?_
              refine then_n ?_
              refine swp_seq ?_
              refine swp_region ?_
              refine s_pu (pu_assign rfl) ?_
              refine swl_sub _ (.cons (t := 2) rfl .nil) ?_
              refine swl_nil ?_
              refine then_n ?_
              refine swp_ret ?_
              refine done_ret [] (.tmp rfl .nil) ⟨congrArg (Value.int .i64) ?_, rfl⟩ (by repeat (first | exact Split.nil | (apply Split.cons; (repeat (first | with_reducible exact Take.here | apply Take.there)))))
              unfold Sett.bad; grind
          · skip   -- 26 F
            refine s_on rfl rfl ?_
            first | refine s_pu (pu_fieldAddr0 rfl) ?_ | refine s_pu (pu_fieldAddr rfl) ?_
            refine s_on rfl rfl ?_
            refine s_rd (rd_load rfl rfl) ?_
            refine s_on rfl rfl ?_
            refine s_pu (pu_gtr rfl rfl) ?_
            first | refine s_pu (pu_pick_t rfl rfl) ?_ | refine s_pu (pu_pick_f rfl rfl) ?_
            refine swl_sub _ (.cons (t := 30) rfl .nil) ?_
            refine swl_nil ?_
            refine then_n ?_
            refine swp_cond (b := _) rfl (fun h30 => ?_) (fun h30 => ?_)
            · skip   -- 30 T
              refine swp_seq ?_
              refine swp_region ?_
              refine s_pu (pu_assign rfl) ?_
              refine swl_sub _ (.cons (t := 2) rfl .nil) ?_
              refine swl_nil ?_
              refine then_n ?_
              refine swp_ret ?_
              refine then_r ?_
              refine done_ret [] (.tmp rfl .nil) ⟨congrArg (Value.int .i64) ?_, rfl⟩ (by repeat (first | exact Split.nil | (apply Split.cons; (repeat (first | with_reducible exact Take.here | apply Take.there)))))
              unfold Sett.bad; grind
            · skip   -- 30 F
              refine swp_skip ?_
              refine then_n ?_
              refine swp_seq ?_
              refine swp_region ?_
              refine s_pu (pu_assign rfl) ?_
              refine swl_sub _ (.cons (t := 2) rfl .nil) ?_
              refine swl_nil ?_
              refine then_n ?_
              refine swp_ret ?_
              refine done_ret [] (.tmp rfl .nil) ⟨congrArg (Value.int .i64) ?_, rfl⟩ (by repeat (first | exact Split.nil | (apply Split.cons; (repeat (first | with_reducible exact Take.here | apply Take.there)))))
              unfold Sett.bad; grind
  · skip   -- 6 F
    refine s_on rfl rfl ?_
    first | refine s_pu (pu_fieldAddr0 rfl) ?_ | refine s_pu (pu_fieldAddr rfl) ?_
    refine s_on rfl rfl ?_
    refine s_rd (rd_load rfl rfl) ?_
    refine s_on rfl rfl ?_
    refine s_pu (pu_gtr rfl rfl) ?_
    first | refine s_pu (pu_pick_t rfl rfl) ?_ | refine s_pu (pu_pick_f rfl rfl) ?_
    refine s_pu (pu_move rfl) ?_
    refine s_split 11 rfl (fun h11 => ?_) (fun h11 => ?_)
    · skip   -- 11 T
      refine s_off rfl rfl rfl ?_
      refine s_off rfl rfl rfl ?_
      refine s_off rfl rfl rfl ?_
      first | refine s_pu (pu_pick_t rfl rfl) ?_ | refine s_pu (pu_pick_f rfl rfl) ?_
      refine s_pu (pu_move rfl) ?_
      refine s_split 16 rfl (fun h16 => ?_) (fun h16 => ?_)
      · skip   -- 16 T
        refine s_off rfl rfl rfl ?_
        refine s_off rfl rfl rfl ?_
        refine s_off rfl rfl rfl ?_
        first | refine s_pu (pu_pick_t rfl rfl) ?_ | refine s_pu (pu_pick_f rfl rfl) ?_
        refine s_pu (pu_move rfl) ?_
        refine s_split 21 rfl (fun h21 => ?_) (fun h21 => ?_)
        · skip   -- 21 T
          refine s_off rfl rfl rfl ?_
          refine s_off rfl rfl rfl ?_
          refine s_off rfl rfl rfl ?_
          first | refine s_pu (pu_pick_t rfl rfl) ?_ | refine s_pu (pu_pick_f rfl rfl) ?_
          refine s_pu (pu_move rfl) ?_
          refine s_split 26 rfl (fun h26 => ?_) (fun h26 => ?_)
          · skip   -- 26 T
            refine s_off rfl rfl rfl ?_
            refine s_off rfl rfl rfl ?_
            refine s_off rfl rfl rfl ?_
            first | refine s_pu (pu_pick_t rfl rfl) ?_ | refine s_pu (pu_pick_f rfl rfl) ?_
            refine swl_sub _ (.cons (t := 30) rfl .nil) ?_
            refine swl_nil ?_
            refine then_n ?_
            refine swp_cond (b := _) rfl (fun h30 => ?_) (fun h30 => ?_)
            · skip   -- 30 T
              refine swp_seq ?_
              refine swp_region ?_
              refine s_pu (pu_assign rfl) ?_
              refine swl_sub _ (.cons (t := 2) rfl .nil) ?_
              refine swl_nil ?_
              refine then_n ?_
              refine swp_ret ?_
              refine then_r ?_
              refine done_ret [] (.tmp rfl .nil) ⟨congrArg (Value.int .i64) ?_, rfl⟩ (by repeat (first | exact Split.nil | (apply Split.cons; (repeat (first | with_reducible exact Take.here | apply Take.there)))))
              unfold Sett.bad; grind
            · skip   -- 30 F
              refine swp_skip ?_
              refine then_n ?_
              refine swp_seq ?_
              refine swp_region ?_
              refine s_pu (pu_assign rfl) ?_
              refine swl_sub _ (.cons (t := 2) rfl .nil) ?_
              refine swl_nil ?_
              refine then_n ?_
              refine swp_ret ?_
              refine done_ret [] (.tmp rfl .nil) ⟨congrArg (Value.int .i64) ?_, rfl⟩ (by repeat (first | exact Split.nil | (apply Split.cons; (repeat (first | with_reducible exact Take.here | apply Take.there)))))
              unfold Sett.bad; grind
          · skip   -- 26 F
            refine s_on rfl rfl ?_
            first | refine s_pu (pu_fieldAddr0 rfl) ?_ | refine s_pu (pu_fieldAddr rfl) ?_
            refine s_on rfl rfl ?_
            refine s_rd (rd_load rfl rfl) ?_
            refine s_on rfl rfl ?_
            refine s_pu (pu_gtr rfl rfl) ?_
            first | refine s_pu (pu_pick_t rfl rfl) ?_ | refine s_pu (pu_pick_f rfl rfl) ?_
            refine swl_sub _ (.cons (t := 30) rfl .nil) ?_
            refine swl_nil ?_
            refine then_n ?_
            refine swp_cond (b := _) rfl (fun h30 => ?_) (fun h30 => ?_)
            · skip   -- 30 T
              refine swp_seq ?_
              refine swp_region ?_
              refine s_pu (pu_assign rfl) ?_
              refine swl_sub _ (.cons (t := 2) rfl .nil) ?_
              refine swl_nil ?_
              refine then_n ?_
              refine swp_ret ?_
              refine then_r ?_
              refine done_ret [] (.tmp rfl .nil) ⟨congrArg (Value.int .i64) ?_, rfl⟩ (by repeat (first | exact Split.nil | (apply Split.cons; (repeat (first | with_reducible exact Take.here | apply Take.there)))))
              unfold Sett.bad; grind
            · skip   -- 30 F
              refine swp_skip ?_
              refine then_n ?_
              refine swp_seq ?_
              refine swp_region ?_
              refine s_pu (pu_assign rfl) ?_
              refine swl_sub _ (.cons (t := 2) rfl .nil) ?_
              refine swl_nil ?_
              refine then_n ?_
              refine swp_ret ?_
              refine done_ret [] (.tmp rfl .nil) ⟨congrArg (Value.int .i64) ?_, rfl⟩ (by repeat (first | exact Split.nil | (apply Split.cons; (repeat (first | with_reducible exact Take.here | apply Take.there)))))
              unfold Sett.bad; grind
        · skip   -- 21 F
          refine s_on rfl rfl ?_
          first | refine s_pu (pu_fieldAddr0 rfl) ?_ | refine s_pu (pu_fieldAddr rfl) ?_
          refine s_on rfl rfl ?_
          refine s_rd (rd_load rfl rfl) ?_
          refine s_on rfl rfl ?_
          refine s_pu (pu_lss rfl rfl) ?_
          first | refine s_pu (pu_pick_t rfl rfl) ?_ | refine s_pu (pu_pick_f rfl rfl) ?_
          refine s_pu (pu_move rfl) ?_
          refine s_split 26 rfl (fun h26 => ?_) (fun h26 => ?_)
          · skip   -- 26 T
            refine s_off rfl rfl rfl ?_
            refine s_off rfl rfl rfl ?_
            refine s_off rfl rfl rfl ?_
            first | refine s_pu (pu_pick_t rfl rfl) ?_ | refine s_pu (pu_pick_f rfl rfl) ?_
            refine swl_sub _ (.cons (t := 30) rfl .nil) ?_
            refine swl_nil ?_
            refine then_n ?_
            refine swp_cond (b := _) rfl (fun h30 => ?_) (fun h30 => ?_)
            · skip   -- 30 T
              refine swp_seq ?_
              refine swp_region ?_
              refine s_pu (pu_assign rfl) ?_
              refine swl_sub _ (.cons (t := 2) rfl .nil) ?_
              refine swl_nil ?_
              refine then_n ?_
              refine swp_ret ?_
              refine then_r ?_
              refine done_ret [] (.tmp rfl .nil) ⟨congrArg (Value.int .i64) ?_, rfl⟩ (by repeat (first | exact Split.nil | (apply Split.cons; (repeat (first | with_reducible exact Take.here | apply Take.there)))))
              unfold Sett.bad; grind
            · skip   -- 30 F
              refine swp_skip ?_
              refine then_n ?_
              refine swp_seq ?_
              refine swp_region ?_
              refine s_pu (pu_assign rfl) ?_
              refine swl_sub _ (.cons (t := 2) rfl .nil) ?_
              refine swl_nil ?_
              refine then_n ?_
              refine swp_ret ?_
              refine done_ret [] (.tmp rfl .nil) ⟨congrArg (Value.int .i64) ?_, rfl⟩ (by repeat (first | exact Split.nil | (apply Split.cons; (repeat (first | with_reducible exact Take.here | apply Take.there)))))
              unfold Sett.bad; grind
          · skip   -- 26 F
            refine s_on rfl rfl ?_
            first | refine s_pu (pu_fieldAddr0 rfl) ?_ | refine s_pu (pu_fieldAddr rfl) ?_
            refine s_on rfl rfl ?_
            refine s_rd (rd_load rfl rfl) ?_
            refine s_on rfl rfl ?_
            refine s_pu (pu_gtr rfl rfl) ?_
            first | refine s_pu (pu_pick_t rfl rfl) ?_ | refine s_pu (pu_pick_f rfl rfl) ?_
            refine swl_sub _ (.cons (t := 30) rfl .nil) ?_
            refine swl_nil ?_
            refine then_n ?_
            refine swp_cond (b := _) rfl (fun h30 => ?_) (fun h30 => ?_)
            · skip   -- 30 T
              refine swp_seq ?_
              refine swp_region ?_
              refine s_pu (pu_assign rfl) ?_
              refine swl_sub _ (.cons (t := 2) rfl .nil) ?_
              refine swl_nil ?_
              refine then_n ?_
              refine swp_ret ?_
              refine then_r ?_
              refine done_ret [] (.tmp rfl .nil) ⟨congrArg (Value.int .i64) ?_, rfl⟩ (by repeat (first | exact Split.nil | (apply Split.cons; (repeat (first | with_reducible exact Take.here | apply Take.there)))))
              unfold Sett.bad; grind
            · skip   -- 30 F
              refine swp_skip ?_
              refine then_n ?_
              refine swp_seq ?_
              refine swp_region ?_
              refine s_pu (pu_assign rfl) ?_
              refine swl_sub _ (.cons (t := 2) rfl .nil) ?_
              refine swl_nil ?_
              refine then_n ?_
              refine swp_ret ?_
              refine done_ret [] (.tmp rfl .nil) ⟨congrArg (Value.int .i64) ?_, rfl⟩ (by repeat (first | exact Split.nil | (apply Split.cons; (repeat (first | with_reducible exact Take.here | apply Take.there)))))
              unfold Sett.bad; grind
      · skip   -- 16 F
        refine s_on rfl rfl ?_
        first | refine s_pu (pu_fieldAddr0 rfl) ?_ | refine s_pu (pu_fieldAddr rfl) ?_
        refine s_on rfl rfl ?_
        refine s_rd (rd_load rfl rfl) ?_
        refine s_on rfl rfl ?_
        refine s_pu (pu_gtr rfl rfl) ?_
        first | refine s_pu (pu_pick_t rfl rfl) ?_ | refine s_pu (pu_pick_f rfl rfl) ?_
        refine s_pu (pu_move rfl) ?_
        refine s_split 21 rfl (fun h21 => ?_) (fun h21 => ?_)
        · skip   -- 21 T
          refine s_off rfl rfl rfl ?_
          refine s_off rfl rfl rfl ?_
          refine s_off rfl rfl rfl ?_
          first | refine s_pu (pu_pick_t rfl rfl) ?_ | refine s_pu (pu_pick_f rfl rfl) ?_
          refine s_pu (pu_move rfl) ?_
          refine s_split 26 rfl (fun h26 => ?_) (fun h26 => ?_)
          · skip   -- 26 T
            refine s_off rfl rfl rfl ?_
            refine s_off rfl rfl rfl ?_
            refine s_off rfl rfl rfl ?_
            first | refine s_pu (pu_pick_t rfl rfl) ?_ | refine s_pu (pu_pick_f rfl rfl) ?_
            refine swl_sub _ (.cons (t := 30) rfl .nil) ?_
            refine swl_nil ?_
            refine then_n ?_
            refine swp_cond (b := _) rfl (fun h30 => ?_) (fun h30 => ?_)
            · skip   -- 30 T
              refine swp_seq ?_
              refine swp_region ?_
              refine s_pu (pu_assign rfl) ?_
              refine swl_sub _ (.cons (t := 2) rfl .nil) ?_
              refine swl_nil ?_
              refine then_n ?_
              refine swp_ret ?_
              refine then_r ?_
              refine done_ret [] (.tmp rfl .nil) ⟨congrArg (Value.int .i64) ?_, rfl⟩ (by repeat (first | exact Split.nil | (apply Split.cons; (repeat (first | with_reducible exact Take.here | apply Take.there)))))
              unfold Sett.bad; grind
            · skip   -- 30 F
              refine swp_skip ?_
              refine then_n ?_
              refine swp_seq ?_
              refine swp_region ?_
              refine s_pu (pu_assign rfl) ?_
              refine swl_sub _ (.cons (t := 2) rfl .nil) ?_
              refine swl_nil ?_
              refine then_n ?_
              refine swp_ret ?_
              refine done_ret [] (.tmp rfl .nil) ⟨congrArg (Value.int .i64) ?_, rfl⟩ (by repeat (first | exact Split.nil | (apply Split.cons; (repeat (first | with_reducible exact Take.here | apply Take.there)))))
              unfold Sett.bad; grind
          · skip   -- 26 F
            refine s_on rfl rfl ?_
            first | refine s_pu (pu_fieldAddr0 rfl) ?_ | refine s_pu (pu_fieldAddr rfl) ?_
            refine s_on rfl rfl ?_
            refine s_rd (rd_load rfl rfl) ?_
            refine s_on rfl rfl ?_
            refine s_pu (pu_gtr rfl rfl) ?_
            first | refine s_pu (pu_pick_t rfl rfl) ?_ | refine s_pu (pu_pick_f rfl rfl) ?_
            refine swl_sub _ (.cons (t := 30) rfl .nil) ?_
            refine swl_nil ?_
            refine then_n ?_
            refine swp_cond (b := _) rfl (fun h30 => ?_) (fun h30 => ?_)
            · skip   -- 30 T
              refine swp_seq ?_
              refine swp_region ?_
              refine s_pu (pu_assign rfl) ?_
              refine swl_sub _ (.cons (t := 2) rfl .nil) ?_
              refine swl_nil ?_
              refine then_n ?_
              refine swp_ret ?_
              refine then_r ?_
              refine done_ret [] (.tmp rfl .nil) ⟨congrArg (Value.int .i64) ?_, rfl⟩ (by repeat (first | exact Split.nil | (apply Split.cons; (repeat (first | with_reducible exact Take.here | apply Take.there)))))
              unfold Sett.bad; grind
            · skip   -- 30 F
              refine swp_skip ?_
              refine then_n ?_
              refine swp_seq ?_
              refine swp_region ?_
              refine s_pu (pu_assign rfl) ?_
              refine swl_sub _ (.cons (t := 2) rfl .nil) ?_
              refine swl_nil ?_
              refine then_n ?_
              refine swp_ret ?_
              refine done_ret [] (.tmp rfl .nil) ⟨congrArg (Value.int .i64) ?_, rfl⟩ (by repeat (first | exact Split.nil | (apply Split.cons; (repeat (first | with_reducible exact Take.here | apply Take.there)))))
              unfold Sett.bad; grind
        · skip   -- 21 F
          refine s_on rfl rfl ?_
          first | refine s_pu (pu_fieldAddr0 rfl) ?_ | refine s_pu (pu_fieldAddr rfl) ?_
          refine s_on rfl rfl ?_
          refine s_rd (rd_load rfl rfl) ?_
          refine s_on rfl rfl ?_
          refine s_pu (pu_lss rfl rfl) ?_
          first | refine s_pu (pu_pick_t rfl rfl) ?_ | refine s_pu (pu_pick_f rfl rfl) ?_
          refine s_pu (pu_move rfl) ?_
          refine s_split 26 rfl (fun h26 => ?_) (fun h26 => ?_)
          · skip   -- 26 T
            refine s_off rfl rfl rfl ?_
            refine s_off rfl rfl rfl ?_
            refine s_off rfl rfl rfl ?_
            first | refine s_pu (pu_pick_t rfl rfl) ?_ | refine s_pu (pu_pick_f rfl rfl) ?_
            refine swl_sub _ (.cons (t := 30) rfl .nil) ?_
            refine swl_nil ?_
            refine then_n ?_
            refine swp_cond (b := _) rfl (fun h30 => ?_) (fun h30 => ?_)
            · skip   -- 30 T
              refine swp_seq ?_
              refine swp_region ?_
              refine s_pu (pu_assign rfl) ?_
              refine swl_sub _ (.cons (t := 2) rfl .nil) ?_
              refine swl_nil ?_
              refine then_n ?_
              refine swp_ret ?_
              refine then_r ?_
              refine done_ret [] (.tmp rfl .nil) ⟨congrArg (Value.int .i64) ?_, rfl⟩ (by repeat (first | exact Split.nil | (apply Split.cons; (repeat (first | with_reducible exact Take.here | apply Take.there)))))
              unfold Sett.bad; grind
            · skip   -- 30 F
              refine swp_skip ?_
              refine then_n ?_
              refine swp_seq ?_
              refine swp_region ?_
              refine s_pu (pu_assign rfl) ?_
              refine swl_sub _ (.cons (t := 2) rfl .nil) ?_
              refine swl_nil ?_
              refine then_n ?_
              refine swp_ret ?_
              refine done_ret [] (.tmp rfl .nil) ⟨congrArg (Value.int .i64) ?_, rfl⟩ (by repeat (first | exact Split.nil | (apply Split.cons; (repeat (first | with_reducible exact Take.here | apply Take.there)))))
              unfold Sett.bad; grind
          · skip   -- 26 F
            refine s_on rfl rfl ?_
            first | refine s_pu (pu_fieldAddr0 rfl) ?_ | refine s_pu (pu_fieldAddr rfl) ?_
            refine s_on rfl rfl ?_
            refine s_rd (rd_load rfl rfl) ?_
            refine s_on rfl rfl ?_
            refine s_pu (pu_gtr rfl rfl) ?_
            first | refine s_pu (pu_pick_t rfl rfl) ?_ | refine s_pu (pu_pick_f rfl rfl) ?_
            refine swl_sub _ (.cons (t := 30) rfl .nil) ?_
            refine swl_nil ?_
            refine then_n ?_
            refine swp_cond (b := _) rfl (fun h30 => ?_) (fun h30 => ?_)
            · skip   -- 30 T
              refine swp_seq ?_
              refine swp_region ?_
              refine s_pu (pu_assign rfl) ?_
              refine swl_sub _ (.cons (t := 2) rfl .nil) ?_
              refine swl_nil ?_
              refine then_n ?_
              refine swp_ret ?_
              refine then_r ?_
              refine done_ret [] (.tmp rfl .nil) ⟨congrArg (Value.int .i64) ?_, rfl⟩ (by repeat (first | exact Split.nil | (apply Split.cons; (repeat (first | with_reducible exact Take.here | apply Take.there)))))
              unfold Sett.bad; grind
            · skip   -- 30 F
              refine swp_skip ?_
              refine then_n ?_
              refine swp_seq ?_
              refine swp_region ?_
              refine s_pu (pu_assign rfl) ?_
              refine swl_sub _ (.cons (t := 2) rfl .nil) ?_
              refine swl_nil ?_
              refine then_n ?_
              refine swp_ret ?_
              refine done_ret [] (.tmp rfl .nil) ⟨congrArg (Value.int .i64) ?_, rfl⟩ (by repeat (first | exact Split.nil | (apply Split.cons; (repeat (first | with_reducible exact Take.here | apply Take.there)))))
              unfold Sett.bad; grind
    · skip   -- 11 F
      refine s_on rfl rfl ?_
      first | refine s_pu (pu_fieldAddr0 rfl) ?_ | refine s_pu (pu_fieldAddr rfl) ?_
      refine s_on rfl rfl ?_
      refine s_rd (rd_load rfl rfl) ?_
      refine s_on rfl rfl ?_
      refine s_pu (pu_lss rfl rfl) ?_
      first | refine s_pu (pu_pick_t rfl rfl) ?_ | refine s_pu (pu_pick_f rfl rfl) ?_
      refine s_pu (pu_move rfl) ?_
      refine s_split 16 rfl (fun h16 => ?_) (fun h16 => ?_)
      · skip   -- 16 T
        refine s_off rfl rfl rfl ?_
        refine s_off rfl rfl rfl ?_
        refine s_off rfl rfl rfl ?_
        first | refine s_pu (pu_pick_t rfl rfl) ?_ | refine s_pu (pu_pick_f rfl rfl) ?_
        refine s_pu (pu_move rfl) ?_
        refine s_split 21 rfl (fun h21 => ?_) (fun h21 => ?_)
        · skip   -- 21 T
          refine s_off rfl rfl rfl ?_
          refine s_off rfl rfl rfl ?_
          refine s_off rfl rfl rfl ?_
          first | refine s_pu (pu_pick_t rfl rfl) ?_ | refine s_pu (pu_pick_f rfl rfl) ?_
          refine s_pu (pu_move rfl) ?_
          refine s_split 26 rfl (fun h26 => ?_) (fun h26 => ?_)
          · skip   -- 26 T
            refine s_off rfl rfl rfl ?_
            refine s_off rfl rfl rfl ?_
            refine s_off rfl rfl rfl ?_
            first | refine s_pu (pu_pick_t rfl rfl) ?_ | refine s_pu (pu_pick_f rfl rfl) ?_
            refine swl_sub _ (.cons (t := 30) rfl .nil) ?_
            refine swl_nil ?_
            refine then_n ?_
            refine swp_cond (b := _) rfl (fun h30 => ?_) (fun h30 => ?_)
            · skip   -- 30 T
              refine swp_seq ?_
              refine swp_region ?_
              refine s_pu (pu_assign rfl) ?_
              refine swl_sub _ (.cons (t := 2) rfl .nil) ?_
              refine swl_nil ?_
              refine then_n ?_
              refine swp_ret ?_
              refine then_r ?_
              refine done_ret [] (.tmp rfl .nil) ⟨congrArg (Value.int .i64) ?_, rfl⟩ (by repeat (first | exact Split.nil | (apply Split.cons; (repeat (first | with_reducible exact Take.here | apply Take.there)))))
              unfold Sett.bad; grind
            · skip   -- 30 F
              refine swp_skip ?_
              refine then_n ?_
              refine swp_seq ?_
              refine swp_region ?_
              refine s_pu (pu_assign rfl) ?_
              refine swl_sub _ (.cons (t := 2) rfl .nil) ?_
              refine swl_nil ?_
              refine then_n ?_
              refine swp_ret ?_
              refine done_ret [] (.tmp rfl .nil) ⟨congrArg (Value.int .i64) ?_, rfl⟩ (by repeat (first | exact Split.nil | (apply Split.cons; (repeat (first | with_reducible exact Take.here | apply Take.there)))))
              unfold Sett.bad; grind
          · skip   -- 26 F
            refine s_on rfl rfl ?_
            first | refine s_pu (pu_fieldAddr0 rfl) ?_ | refine s_pu (pu_fieldAddr rfl) ?_
            refine s_on rfl rfl ?_
            refine s_rd (rd_load rfl rfl) ?_
            refine s_on rfl rfl ?_
            refine s_pu (pu_gtr rfl rfl) ?_
            first | refine s_pu (pu_pick_t rfl rfl) ?_ | refine s_pu (pu_pick_f rfl rfl) ?_
            refine swl_sub _ (.cons (t := 30) rfl .nil) ?_
            refine swl_nil ?_
            refine then_n ?_
            refine swp_cond (b := _) rfl (fun h30 => ?_) (fun h30 => ?_)
            · skip   -- 30 T
              refine swp_seq ?_
              refine swp_region ?_
              refine s_pu (pu_assign rfl) ?_
              refine swl_sub _ (.cons (t := 2) rfl .nil) ?_
              refine swl_nil ?_
              refine then_n ?_
              refine swp_ret ?_
              refine then_r ?_
              refine done_ret [] (.tmp rfl .nil) ⟨congrArg (Value.int .i64) ?_, rfl⟩ (by repeat (first | exact Split.nil | (apply Split.cons; (repeat (first | with_reducible exact Take.here | apply Take.there)))))
              unfold Sett.bad; grind
            · skip   -- 30 F
              refine swp_skip ?_
              refine then_n ?_
              refine swp_seq ?_
              refine swp_region ?_
              refine s_pu (pu_assign rfl) ?_
              refine swl_sub _ (.cons (t := 2) rfl .nil) ?_
              refine swl_nil ?_
              refine then_n ?_
              refine swp_ret ?_
              refine done_ret [] (.tmp rfl .nil) ⟨congrArg (Value.int .i64) ?_, rfl⟩ (by repeat (first | exact Split.nil | (apply Split.cons; (repeat (first | with_reducible exact Take.here | apply Take.there)))))
              unfold Sett.bad; grind
        · skip   -- 21 F
          refine s_on rfl rfl ?_
          first | refine s_pu (pu_fieldAddr0 rfl) ?_ | refine s_pu (pu_fieldAddr rfl) ?_
          refine s_on rfl rfl ?_
          refine s_rd (rd_load rfl rfl) ?_
          refine s_on rfl rfl ?_
          refine s_pu (pu_lss rfl rfl) ?_
          first | refine s_pu (pu_pick_t rfl rfl) ?_ | refine s_pu (pu_pick_f rfl rfl) ?_
          refine s_pu (pu_move rfl) ?_
          refine s_split 26 rfl (fun h26 => ?_) (fun h26 => ?_)
          · skip   -- 26 T
            refine s_off rfl rfl rfl ?_
            refine s_off rfl rfl rfl ?_
            refine s_off rfl rfl rfl ?_
            first | refine s_pu (pu_pick_t rfl rfl) ?_ | refine s_pu (pu_pick_f rfl rfl) ?_
            refine swl_sub _ (.cons (t := 30) rfl .nil) ?_
            refine swl_nil ?_
            refine then_n ?_
            refine swp_cond (b := _) rfl (fun h30 => ?_) (fun h30 => ?_)
            · skip   -- 30 T
              refine swp_seq ?_
              refine swp_region ?_
              refine s_pu (pu_assign rfl) ?_
              refine swl_sub _ (.cons (t := 2) rfl .nil) ?_
              refine swl_nil ?_
              refine then_n ?_
              refine swp_ret ?_
              refine then_r ?_
              refine done_ret [] (.tmp rfl .nil) ⟨congrArg (Value.int .i64) ?_, rfl⟩ (by repeat (first | exact Split.nil | (apply Split.cons; (repeat (first | with_reducible exact Take.here | apply Take.there)))))
              unfold Sett.bad; grind
            · skip   -- 30 F
              refine swp_skip ?_
              refine then_n ?_
              refine swp_seq ?_
              refine swp_region ?_
              refine s_pu (pu_assign rfl) ?_
              refine swl_sub _ (.cons (t := 2) rfl .nil) ?_
              refine swl_nil ?_
              refine then_n ?_
              refine swp_ret ?_
              refine done_ret [] (.tmp rfl .nil) ⟨congrArg (Value.int .i64) ?_, rfl⟩ (by repeat (first | exact Split.nil | (apply Split.cons; (repeat (first | with_reducible exact Take.here | apply Take.there)))))
              unfold Sett.bad; grind
          · skip   -- 26 F
            refine s_on rfl rfl ?_
            first | refine s_pu (pu_fieldAddr0 rfl) ?_ | refine s_pu (pu_fieldAddr rfl) ?_
            refine s_on rfl rfl ?_
            refine s_rd (rd_load rfl rfl) ?_
            refine s_on rfl rfl ?_
            refine s_pu (pu_gtr rfl rfl) ?_
            first | refine s_pu (pu_pick_t rfl rfl) ?_ | refine s_pu (pu_pick_f rfl rfl) ?_
            refine swl_sub _ (.cons (t := 30) rfl .nil) ?_
            refine swl_nil ?_
            refine then_n ?_
            refine swp_cond (b := _) rfl (fun h30 => ?_) (fun h30 => ?_)
            · skip   -- 30 T
              refine swp_seq ?_
              refine swp_region ?_
              refine s_pu (pu_assign rfl) ?_
              refine swl_sub _ (.cons (t := 2) rfl .nil) ?_
              refine swl_nil ?_
              refine then_n ?_
              refine swp_ret ?_
              refine then_r ?_
              refine done_ret [] (.tmp rfl .nil) ⟨congrArg (Value.int .i64) ?_, rfl⟩ (by repeat (first | exact Split.nil | (apply Split.cons; (repeat (first | with_reducible exact Take.here | apply Take.there)))))
              unfold Sett.bad; grind
            · skip   -- 30 F
              refine swp_skip ?_
              refine then_n ?_
              refine swp_seq ?_
              refine swp_region ?_
              refine s_pu (pu_assign rfl) ?_
              refine swl_sub _ (.cons (t := 2) rfl .nil) ?_
              refine swl_nil ?_
              refine then_n ?_
              refine swp_ret ?_
              refine done_ret [] (.tmp rfl .nil) ⟨congrArg (Value.int .i64) ?_, rfl⟩ (by repeat (first | exact Split.nil | (apply Split.cons; (repeat (first | with_reducible exact Take.here | apply Take.there)))))
              unfold Sett.bad; grind
      · skip   -- 16 F
        refine s_on rfl rfl ?_
        first | refine s_pu (pu_fieldAddr0 rfl) ?_ | refine s_pu (pu_fieldAddr rfl) ?_
        refine s_on rfl rfl ?_
        refine s_rd (rd_load rfl rfl) ?_
        refine s_on rfl rfl ?_
        refine s_pu (pu_gtr rfl rfl) ?_
        first | refine s_pu (pu_pick_t rfl rfl) ?_ | refine s_pu (pu_pick_f rfl rfl) ?_
        refine s_pu (pu_move rfl) ?_
        refine s_split 21 rfl (fun h21 => ?_) (fun h21 => ?_)
        · skip   -- 21 T
          refine s_off rfl rfl rfl ?_
          refine s_off rfl rfl rfl ?_
          refine s_off rfl rfl rfl ?_
          first | refine s_pu (pu_pick_t rfl rfl) ?_ | refine s_pu (pu_pick_f rfl rfl) ?_
          refine s_pu (pu_move rfl) ?_
          refine s_split 26 rfl (fun h26 => ?_) (fun h26 => ?_)
          · skip   -- 26 T
            refine s_off rfl rfl rfl ?_
            refine s_off rfl rfl rfl ?_
            refine s_off rfl rfl rfl ?_
            first | refine s_pu (pu_pick_t rfl rfl) ?_ | refine s_pu (pu_pick_f rfl rfl) ?_
            refine swl_sub _ (.cons (t := 30) rfl .nil) ?_
            refine swl_nil ?_
            refine then_n ?_
            refine swp_cond (b := _) rfl (fun h30 => ?_) (fun h30 => ?_)
            · skip   -- 30 T
              refine swp_seq ?_
              refine swp_region ?_
              refine s_pu (pu_assign rfl) ?_
              refine swl_sub _ (.cons (t := 2) rfl .nil) ?_
              refine swl_nil ?_
              refine then_n ?_
              refine swp_ret ?_
              refine then_r ?_
              refine done_ret [] (.tmp rfl .nil) ⟨congrArg (Value.int .i64) ?_, rfl⟩ (by repeat (first | exact Split.nil | (apply Split.cons; (repeat (first | with_reducible exact Take.here | apply Take.there)))))
              unfold Sett.bad; grind
            · skip   -- 30 F
              refine swp_skip ?_
              refine then_n ?_
              refine swp_seq ?_
              refine swp_region ?_
              refine s_pu (pu_assign rfl) ?_
              refine swl_sub _ (.cons (t := 2) rfl .nil) ?_
              refine swl_nil ?_
              refine then_n ?_
              refine swp_ret ?_
              refine done_ret [] (.tmp rfl .nil) ⟨congrArg (Value.int .i64) ?_, rfl⟩ (by repeat (first | exact Split.nil | (apply Split.cons; (repeat (first | with_reducible exact Take.here | apply Take.there)))))
              unfold Sett.bad; grind
          · skip   -- 26 F
            refine s_on rfl rfl ?_
            first | refine s_pu (pu_fieldAddr0 rfl) ?_ | refine s_pu (pu_fieldAddr rfl) ?_
            refine s_on rfl rfl ?_
            refine s_rd (rd_load rfl rfl) ?_
            refine s_on rfl rfl ?_
            refine s_pu (pu_gtr rfl rfl) ?_
            first | refine s_pu (pu_pick_t rfl rfl) ?_ | refine s_pu (pu_pick_f rfl rfl) ?_
            refine swl_sub _ (.cons (t := 30) rfl .nil) ?_
            refine swl_nil ?_
            refine then_n ?_
            refine swp_cond (b := _) rfl (fun h30 => ?_) (fun h30 => ?_)
            · skip   -- 30 T
              refine swp_seq ?_
              refine swp_region ?_
              refine s_pu (pu_assign rfl) ?_
              refine swl_sub _ (.cons (t := 2) rfl .nil) ?_
              refine swl_nil ?_
              refine then_n ?_
              refine swp_ret ?_
              refine then_r ?_
              refine done_ret [] (.tmp rfl .nil) ⟨congrArg (Value.int .i64) ?_, rfl⟩ (by repeat (first | exact Split.nil | (apply Split.cons; (repeat (first | with_reducible exact Take.here | apply Take.there)))))
              unfold Sett.bad; grind
            · skip   -- 30 F
              refine swp_skip ?_
              refine then_n ?_
              refine swp_seq ?_
              refine swp_region ?_
              refine s_pu (pu_assign rfl) ?_
              refine swl_sub _ (.cons (t := 2) rfl .nil) ?_
              refine swl_nil ?_
              refine then_n ?_
              refine swp_ret ?_
              refine done_ret [] (.tmp rfl .nil) ⟨congrArg (Value.int .i64) ?_, rfl⟩ (by repeat (first | exact Split.nil | (apply Split.cons; (repeat (first | with_reducible exact Take.here | apply Take.there)))))
              unfold Sett.bad; grind
        · skip   -- 21 F
          refine s_on rfl rfl ?_
          first | refine s_pu (pu_fieldAddr0 rfl) ?_ | refine s_pu (pu_fieldAddr rfl) ?_
          refine s_on rfl rfl ?_
          refine s_rd (rd_load rfl rfl) ?_
          refine s_on rfl rfl ?_
          refine s_pu (pu_lss rfl rfl) ?_
          first | refine s_pu (pu_pick_t rfl rfl) ?_ | refine s_pu (pu_pick_f rfl rfl) ?_
          refine s_pu (pu_move rfl) ?_
          refine s_split 26 rfl (fun h26 => ?_) (fun h26 => ?_)
          · skip   -- 26 T
            refine s_off rfl rfl rfl ?_
            refine s_off rfl rfl rfl ?_
            refine s_off rfl rfl rfl ?_
            first | refine s_pu (pu_pick_t rfl rfl) ?_ | refine s_pu (pu_pick_f rfl rfl) ?_
            refine swl_sub _ (.cons (t := 30) rfl .nil) ?_
            refine swl_nil ?_
            refine then_n ?_
            refine swp_cond (b := _) rfl (fun h30 => ?_) (fun h30 => ?_)
            · skip   -- 30 T
              refine swp_seq ?_
              refine swp_region ?_
              refine s_pu (pu_assign rfl) ?_
              refine swl_sub _ (.cons (t := 2) rfl .nil) ?_
              refine swl_nil ?_
              refine then_n ?_
              refine swp_ret ?_
              refine then_r ?_
              refine done_ret [] (.tmp rfl .nil) ⟨congrArg (Value.int .i64) ?_, rfl⟩ (by repeat (first | exact Split.nil | (apply Split.cons; (repeat (first | with_reducible exact Take.here | apply Take.there)))))
              unfold Sett.bad; grind
            · skip   -- 30 F
              refine swp_skip ?_
              refine then_n ?_
              refine swp_seq ?_
              refine swp_region ?_
              refine s_pu (pu_assign rfl) ?_
              refine swl_sub _ (.cons (t := 2) rfl .nil) ?_
              refine swl_nil ?_
              refine then_n ?_
              refine swp_ret ?_
              refine done_ret [] (.tmp rfl .nil) ⟨congrArg (Value.int .i64) ?_, rfl⟩ (by repeat (first | exact Split.nil | (apply Split.cons; (repeat (first | with_reducible exact Take.here | apply Take.there)))))
              unfold Sett.bad; grind
          · skip   -- 26 F
            refine s_on rfl rfl ?_
            first | refine s_pu (pu_fieldAddr0 rfl) ?_ | refine s_pu (pu_fieldAddr rfl) ?_
            refine s_on rfl rfl ?_
            refine s_rd (rd_load rfl rfl) ?_
            refine s_on rfl rfl ?_
            refine s_pu (pu_gtr rfl rfl) ?_
            first | refine s_pu (pu_pick_t rfl rfl) ?_ | refine s_pu (pu_pick_f rfl rfl) ?_
            refine swl_sub _ (.cons (t := 30) rfl .nil) ?_
            refine swl_nil ?_
            refine then_n ?_
            refine swp_cond (b := _) rfl (fun h30 => ?_) (fun h30 => ?_)
            · skip   -- 30 T
              refine swp_seq ?_
              refine swp_region ?_
              refine s_pu (pu_assign rfl) ?_
              refine swl_sub _ (.cons (t := 2) rfl .nil) ?_
              refine swl_nil ?_
              refine then_n ?_
              refine swp_ret ?_
              refine then_r ?_
              refine done_ret [] (.tmp rfl .nil) ⟨congrArg (Value.int .i64) ?_, rfl⟩ (by repeat (first | exact Split.nil | (apply Split.cons; (repeat (first | with_reducible exact Take.here | apply Take.there)))))
              unfold Sett.bad; grind
            · skip   -- 30 F
              refine swp_skip ?_
              refine then_n ?_
              refine swp_seq ?_
              refine swp_region ?_
              refine s_pu (pu_assign rfl) ?_
              refine swl_sub _ (.cons (t := 2) rfl .nil) ?_
              refine swl_nil ?_
              refine then_n ?_
              refine swp_ret ?_
              refine done_ret [] (.tmp rfl .nil) ⟨congrArg (Value.int .i64) ?_, rfl⟩ (by repeat (first | exact Split.nil | (apply Split.cons; (repeat (first | with_reducible exact Take.here | apply Take.there)))))
              unfold Sett.bad; grind
set_option maxHeartbeats 2000000 in
theorem places_spec (s : Sett) (p : ByteArray) (n : Nat) (hs : p.size ≤ 1048576) : Spec Tryd.prog 51 [.agg (encS s).toArray, .string p, .int .i64 (n : Nat)] [] (fun v L => L = [own 3 1 v (placesW s p.data.toList n).length ((placesW s p.data.toList n).flatMap (icsk .i64))]) := by
  refine Spec.of 53 Tryd.func51 rfl rfl rfl ?_
  refine swp_seq ?_
  refine swp_region ?_
  refine s_ef (ef_box rfl rfl) ?_
  intro b3
  refine s_pu (pu_assign rfl) ?_
  refine swl_sub _ (.cons (t := 1) rfl (.cons (t := 2) rfl (.cons (t := 3) rfl .nil))) ?_
  refine swl_nil ?_
  refine then_n ?_
  refine swp_seq ?_
  refine swp_region ?_
  refine s_pu (pu_assign rfl) ?_
  refine swl_sub _ (.cons (t := 1) rfl (.cons (t := 2) rfl (.cons (t := 3) rfl (.cons (t := 7) rfl .nil)))) ?_
  refine swl_nil ?_
  refine then_n ?_
  refine swp_cut (fun env L => Sub env [(1, .string p), (2, .int .i64 (n : Nat)), (3, .pointer (some ⟨b3, 0, none⟩)), (7, .slice none 0 0)] ∧ L = [blk b3 26 (encS s)] ∧ ¬ (s.bad ∨ n < 1 ∨ 4294967295 < n)) ?_ ?_
  · skip
    refine swp_seq ?_
    refine swp_region ?_
    first | refine s_rd (rd_loadW rfl rfl) ?_ | refine s_rd (rd_loadX rfl rfl rfl) ?_
    refine s_ef (ef_fn (scheck_spec s) rfl rfl (by repeat (first | exact Split.nil | (apply Split.cons; (repeat (first | with_reducible exact Take.here | apply Take.there)))))) ?_
    rintro v12 L1 ⟨rfl, rfl⟩
    refine swl_app ?_
    refine s_pu (pu_neq rfl rfl) ?_
    refine s_pu (pu_move rfl) ?_
    refine s_split 14 rfl (fun h14 => ?_) (fun h14 => ?_)
    · skip   -- 14 T
      refine s_off rfl rfl rfl ?_
      refine s_off rfl rfl rfl ?_
      first | refine s_pu (pu_pick_t rfl rfl) ?_ | refine s_pu (pu_pick_f rfl rfl) ?_
      refine s_pu (pu_move rfl) ?_
      refine s_split 18 rfl (fun h18 => ?_) (fun h18 => ?_)
      · skip   -- 18 T
        refine s_off rfl rfl rfl ?_
        refine s_off rfl rfl rfl ?_
        first | refine s_pu (pu_pick_t rfl rfl) ?_ | refine s_pu (pu_pick_f rfl rfl) ?_
        refine swl_sub _ (.cons (t := 1) rfl (.cons (t := 2) rfl (.cons (t := 3) rfl (.cons (t := 7) rfl (.cons (t := 21) rfl .nil))))) ?_
        refine swl_nil ?_
        refine then_n ?_
        refine swp_cond (b := _) rfl (fun h21 => ?_) (fun h21 => ?_)
        · skip   -- 21 T
          refine swp_seq ?_
          refine swp_region ?_
          refine s_pu (pu_move rfl) ?_
          refine s_pu (pu_assign rfl) ?_
          refine swl_sub _ (.cons (t := 6) rfl .nil) ?_
          refine swl_nil ?_
          refine then_n ?_
          refine swp_ret ?_
          refine then_r ?_
          first
            | (refine done_ret [own 3 1 v s.ha.toNat ((placesW s p.data.toList n).flatMap (icsk .i64))] (.tmp rfl .nil) ?_ (by repeat (first | exact Split.nil | (apply Split.cons; (repeat (first | with_reducible exact Take.here | apply Take.there)))))
               rw [hlen]; rfl)
            | (refine done_retE [own 3 1 (.slice none 0 0) 0 []] (.tmp rfl .nil) ?_ (own_nil_ent.trans (Split.ent' (by repeat (first | exact Split.nil | (apply Split.cons; (repeat (first | with_reducible exact Take.here | apply Take.there)))))))
               rw [show placesW s p.data.toList n = [] by unfold placesW; rw [if_pos (by grind)]]; rfl)
        · skip   -- 21 F
          refine swp_skip ?_
          exact then_n ⟨⟨rfl, rfl, rfl, rfl, trivial⟩, rfl, by grind⟩
      · skip   -- 18 F
        refine s_on rfl rfl ?_
        refine s_pu (pu_move rfl) ?_
        refine s_on rfl rfl ?_
        refine s_pu (pu_gtr rfl rfl) ?_
        first | refine s_pu (pu_pick_t rfl rfl) ?_ | refine s_pu (pu_pick_f rfl rfl) ?_
        refine swl_sub _ (.cons (t := 1) rfl (.cons (t := 2) rfl (.cons (t := 3) rfl (.cons (t := 7) rfl (.cons (t := 21) rfl .nil))))) ?_
        refine swl_nil ?_
        refine then_n ?_
        refine swp_cond (b := _) rfl (fun h21 => ?_) (fun h21 => ?_)
        · skip   -- 21 T
          refine swp_seq ?_
          refine swp_region ?_
          refine s_pu (pu_move rfl) ?_
          refine s_pu (pu_assign rfl) ?_
          refine swl_sub _ (.cons (t := 6) rfl .nil) ?_
          refine swl_nil ?_
          refine then_n ?_
          refine swp_ret ?_
          refine then_r ?_
          first
            | (refine done_ret [own 3 1 v s.ha.toNat ((placesW s p.data.toList n).flatMap (icsk .i64))] (.tmp rfl .nil) ?_ (by repeat (first | exact Split.nil | (apply Split.cons; (repeat (first | with_reducible exact Take.here | apply Take.there)))))
               rw [hlen]; rfl)
            | (refine done_retE [own 3 1 (.slice none 0 0) 0 []] (.tmp rfl .nil) ?_ (own_nil_ent.trans (Split.ent' (by repeat (first | exact Split.nil | (apply Split.cons; (repeat (first | with_reducible exact Take.here | apply Take.there)))))))
               rw [show placesW s p.data.toList n = [] by unfold placesW; rw [if_pos (by grind)]]; rfl)
        · skip   -- 21 F
          refine swp_skip ?_
          exact then_n ⟨⟨rfl, rfl, rfl, rfl, trivial⟩, rfl, by grind⟩
    · skip   -- 14 F
      refine s_on rfl rfl ?_
      refine s_pu (pu_move rfl) ?_
      refine s_on rfl rfl ?_
      refine s_pu (pu_lss rfl rfl) ?_
      first | refine s_pu (pu_pick_t rfl rfl) ?_ | refine s_pu (pu_pick_f rfl rfl) ?_
      refine s_pu (pu_move rfl) ?_
      refine s_split 18 rfl (fun h18 => ?_) (fun h18 => ?_)
      · skip   -- 18 T
        refine s_off rfl rfl rfl ?_
        refine s_off rfl rfl rfl ?_
        first | refine s_pu (pu_pick_t rfl rfl) ?_ | refine s_pu (pu_pick_f rfl rfl) ?_
        refine swl_sub _ (.cons (t := 1) rfl (.cons (t := 2) rfl (.cons (t := 3) rfl (.cons (t := 7) rfl (.cons (t := 21) rfl .nil))))) ?_
        refine swl_nil ?_
        refine then_n ?_
        refine swp_cond (b := _) rfl (fun h21 => ?_) (fun h21 => ?_)
        · skip   -- 21 T
          refine swp_seq ?_
          refine swp_region ?_
          refine s_pu (pu_move rfl) ?_
          refine s_pu (pu_assign rfl) ?_
          refine swl_sub _ (.cons (t := 6) rfl .nil) ?_
          refine swl_nil ?_
          refine then_n ?_
          refine swp_ret ?_
          refine then_r ?_
          first
            | (refine done_ret [own 3 1 v s.ha.toNat ((placesW s p.data.toList n).flatMap (icsk .i64))] (.tmp rfl .nil) ?_ (by repeat (first | exact Split.nil | (apply Split.cons; (repeat (first | with_reducible exact Take.here | apply Take.there)))))
               rw [hlen]; rfl)
            | (refine done_retE [own 3 1 (.slice none 0 0) 0 []] (.tmp rfl .nil) ?_ (own_nil_ent.trans (Split.ent' (by repeat (first | exact Split.nil | (apply Split.cons; (repeat (first | with_reducible exact Take.here | apply Take.there)))))))
               rw [show placesW s p.data.toList n = [] by unfold placesW; rw [if_pos (by grind)]]; rfl)
        · skip   -- 21 F
          refine swp_skip ?_
          exact then_n ⟨⟨rfl, rfl, rfl, rfl, trivial⟩, rfl, by grind⟩
      · skip   -- 18 F
        refine s_on rfl rfl ?_
        refine s_pu (pu_move rfl) ?_
        refine s_on rfl rfl ?_
        refine s_pu (pu_gtr rfl rfl) ?_
        first | refine s_pu (pu_pick_t rfl rfl) ?_ | refine s_pu (pu_pick_f rfl rfl) ?_
        refine swl_sub _ (.cons (t := 1) rfl (.cons (t := 2) rfl (.cons (t := 3) rfl (.cons (t := 7) rfl (.cons (t := 21) rfl .nil))))) ?_
        refine swl_nil ?_
        refine then_n ?_
        refine swp_cond (b := _) rfl (fun h21 => ?_) (fun h21 => ?_)
        · skip   -- 21 T
          refine swp_seq ?_
          refine swp_region ?_
          refine s_pu (pu_move rfl) ?_
          refine s_pu (pu_assign rfl) ?_
          refine swl_sub _ (.cons (t := 6) rfl .nil) ?_
          refine swl_nil ?_
          refine then_n ?_
          refine swp_ret ?_
          refine then_r ?_
          first
            | (refine done_ret [own 3 1 v s.ha.toNat ((placesW s p.data.toList n).flatMap (icsk .i64))] (.tmp rfl .nil) ?_ (by repeat (first | exact Split.nil | (apply Split.cons; (repeat (first | with_reducible exact Take.here | apply Take.there)))))
               rw [hlen]; rfl)
            | (refine done_retE [own 3 1 (.slice none 0 0) 0 []] (.tmp rfl .nil) ?_ (own_nil_ent.trans (Split.ent' (by repeat (first | exact Split.nil | (apply Split.cons; (repeat (first | with_reducible exact Take.here | apply Take.there)))))))
               rw [show placesW s p.data.toList n = [] by unfold placesW; rw [if_pos (by grind)]]; rfl)
        · skip   -- 21 F
          refine swp_skip ?_
          exact then_n ⟨⟨rfl, rfl, rfl, rfl, trivial⟩, rfl, by grind⟩
  rintro env L ⟨hsub, rfl, hok⟩
  refine swp_sub _ hsub ?_
  clear hsub env
  have hn : 0 < n := by omega
  have hb : ¬ s.bad := fun h => hok (.inl h)
  have hpl : placesW s p.data.toList n = (List.range s.ha.toNat).map fun i => ((placeW s p.data.toList n i : Nat) : Int) := by unfold placesW; rw [if_neg hok]
  have hh : 1 ≤ s.ha ∧ s.ha ≤ 16 := by unfold Sett.bad at hb; omega
  have hget : ∀ i, i < s.ha.toNat → (placesW s p.data.toList n)[i]? = some ((placeW s p.data.toList n i : Nat) : Int) := fun i hi => by rw [hpl, List.getElem?_map, List.getElem?_range hi]; rfl
  have hlen : (placesW s p.data.toList n).length = s.ha.toNat := by rw [hpl, List.length_map, List.length_range]
  clear hpl
  refine swp_seq ?_
  refine swp_region ?_
  first | refine s_pu (pu_fieldAddr0 rfl) ?_ | refine s_pu (pu_fieldAddr rfl) ?_
  refine s_rd (rd_load rfl rfl) ?_
  refine s_pu (pu_move rfl) ?_
  refine s_ef (ef_fn (hash_spec s.seed p hs) rfl rfl (by repeat (first | exact Split.nil | (apply Split.cons; (repeat (first | with_reducible exact Take.here | apply Take.there)))))) ?_
  rintro v26 L1 ⟨rfl, rfl⟩
  refine swl_app ?_
  refine s_pu (pu_assign rfl) ?_
  refine swl_sub _ (.cons (t := 1) rfl (.cons (t := 2) rfl (.cons (t := 3) rfl (.cons (t := 7) rfl (.cons (t := 8) rfl .nil))))) ?_
  refine swl_nil ?_
  refine then_n ?_
  refine swp_seq ?_
  refine swp_region ?_
  first | refine s_pu (pu_fieldAddr0 rfl) ?_ | refine s_pu (pu_fieldAddr rfl) ?_
  refine s_rd (rd_load rfl rfl) ?_
  refine s_pu (pu_add_w32 (b := 1#32) rfl rfl) ?_
  refine s_pu (pu_move rfl) ?_
  refine s_ef (ef_fn (hash_spec (s.seed + 1#32) p hs) rfl rfl (by repeat (first | exact Split.nil | (apply Split.cons; (repeat (first | with_reducible exact Take.here | apply Take.there)))))) ?_
  rintro v31 L1 ⟨rfl, rfl⟩
  refine swl_app ?_
  refine s_pu (pu_or_w32 (b := 1#32) rfl rfl) ?_
  refine s_pu (pu_assign rfl) ?_
  refine swl_sub _ (.cons (t := 2) rfl (.cons (t := 3) rfl (.cons (t := 7) rfl (.cons (t := 8) rfl (.cons (t := 9) rfl .nil))))) ?_
  refine swl_nil ?_
  refine then_n ?_
  refine swp_seq ?_
  refine swp_seq ?_
  refine swp_region ?_
  refine s_pu (pu_assign rfl) ?_
  refine swl_sub _ (.cons (t := 2) rfl (.cons (t := 3) rfl (.cons (t := 7) rfl (.cons (t := 8) rfl (.cons (t := 9) rfl (.cons (t := 10) rfl .nil)))))) ?_
  refine swl_nil ?_
  refine then_n ?_
  refine swp_block ?_
  refine swp_ent (show Ent _ (own 3 1 (.slice none 0 0) 0 (((placesW s p.data.toList n).take 0).flatMap (icsk .i64)) :: _) from own_nil_ent) ?_
  refine swp_loop (ι := Nat × Value) (fun k env L => Sub env [(2, .int .i64 (n : Nat)), (3, .pointer (some ⟨b3, 0, none⟩)), (7, k.2), (8, .int .u32 ((hashW s.seed p.data.toList).toNat : Nat)), (9, .int .u32 ((hashW (s.seed + 1#32) p.data.toList ||| 1#32).toNat : Nat)), (10, .int .i64 (k.1 : Nat))] ∧ Ent L [own 3 1 k.2 k.1 (((placesW s p.data.toList n).take k.1).flatMap (icsk .i64)), blk b3 26 (encS s)] ∧ k.1 ≤ s.ha.toNat) (fun k => s.ha.toNat - k.1) (0, .slice none 0 0) ⟨⟨rfl, rfl, rfl, rfl, rfl, rfl, trivial⟩, Ent.refl _, Nat.zero_le _⟩ ?_
  rintro ⟨i, v⟩ env L ⟨hsub, hE, hi⟩
  dsimp only at hsub hE hi
  refine swp_sub _ hsub ?_
  refine swp_ent hE ?_
  clear hsub hE env L
  refine swp_seq ?_
  refine swp_seq ?_
  refine swp_region ?_
  refine s_pu (pu_move rfl) ?_
  first | refine s_pu (pu_fieldAddr0 rfl) ?_ | refine s_pu (pu_fieldAddr rfl) ?_
  refine s_rd (rd_load rfl rfl) ?_
  refine s_pu (pu_lss rfl rfl) ?_
  refine swl_sub _ (.cons (t := 2) rfl (.cons (t := 3) rfl (.cons (t := 7) rfl (.cons (t := 8) rfl (.cons (t := 9) rfl (.cons (t := 10) rfl (.cons (t := 36) rfl .nil))))))) ?_
  refine swl_nil ?_
  refine then_n ?_
  refine swp_cond (b := _) rfl (fun h36 => ?_) (fun h36 => ?_)
  · skip   -- 36 T
    have h36' : i < s.ha.toNat := by have := of_decide_eq_true h36; omega
    refine swp_skip ?_
    refine then_n ?_
    refine swp_seq ?_
    refine swp_block ?_
    refine swp_region ?_
    refine s_pu (pu_move rfl) ?_
    refine s_pu (pu_move rfl) ?_
    refine s_pu (pu_move rfl) ?_
    refine s_pu (pu_conv_as (k' := .u32) (n := ((BitVec.ofNat 32 i).toNat : Int)) (by rw [show ((BitVec.ofNat 32 i).toNat : Int) = (i : Int) by rw [BitVec.toNat_ofNat, Nat.mod_eq_of_lt (by omega)]]; rfl) (wrap_word32 _)) ?_
    refine s_pu (pu_move rfl) ?_
    refine s_pu (pu_mul_w32 rfl rfl) ?_
    refine s_pu (pu_add_w32 rfl rfl) ?_
    refine s_pu (pu_move rfl) ?_
    refine s_pu (pu_conv_as (k' := .u32) rfl (IntWalk.u32_in _ ⟨by omega, by omega⟩)) ?_
    refine s_pu (pu_rem_nat rfl rfl hn) ?_
    refine s_pu (pu_conv_i64 (n := ((placeW s p.data.toList n i : Nat) : Int)) rfl (by omega) (by have : placeW s p.data.toList n i < n := Nat.mod_lt _ hn; omega)) ?_
    refine s_ef (ef_bldS (qs := [(0, _)]) rfl rfl rfl) ?_
    intro b50
    refine s_ef (ef_append_lit (l := i) (m := 1) rfl rfl (by repeat (first | exact Split.nil | (apply Split.cons; (repeat (first | with_reducible exact Take.here | apply Take.there))))) (by simp only [maxLen]; omega) (by omega)) ?_
    rintro v51 -
    skip
    refine s_pu (pu_assign rfl) ?_
    refine swl_sub _ (.cons (t := 2) rfl (.cons (t := 3) rfl (.cons (t := 7) rfl (.cons (t := 8) rfl (.cons (t := 9) rfl (.cons (t := 10) rfl .nil)))))) ?_
    refine swl_nil ?_
    refine block_n ?_
    refine then_n ?_
    refine swp_region ?_
    refine s_pu (pu_move rfl) ?_
    refine s_pu (pu_add_as ((i + 1 : Nat) : Int) rfl rfl (by omega) (by omega) (by omega)) ?_
    refine s_pu (pu_assign rfl) ?_
    refine swl_sub _ (.cons (t := 2) rfl (.cons (t := 3) rfl (.cons (t := 7) rfl (.cons (t := 8) rfl (.cons (t := 9) rfl (.cons (t := 10) rfl .nil)))))) ?_
    refine swl_nil ?_
    refine then_n ⟨(i + 1, v51), ⟨⟨rfl, rfl, rfl, rfl, rfl, rfl, trivial⟩, ?_, h36'⟩, by show s.ha.toNat - (i + 1) < s.ha.toNat - i; omega⟩
    have e1 : ((placesW s p.data.toList n).take (i + 1)).flatMap (icsk .i64) = ((placesW s p.data.toList n).take i).flatMap (icsk .i64) ++ [.int .i64 ((placeW s p.data.toList n i : Nat) : Int)] := by rw [List.take_add_one, hget i h36', List.flatMap_append]; rfl
    show Ent _ [own 3 1 v51 (i + 1) (((placesW s p.data.toList n).take (i + 1)).flatMap (icsk .i64)), blk b3 26 (encS s)]
    rw [e1]
    exact Split.ent' (by repeat (first | exact Split.nil | (apply Split.cons; (repeat (first | with_reducible exact Take.here | apply Take.there)))))
  · skip   -- 36 F
    have h36' := of_decide_eq_false h36
    obtain rfl : i = s.ha.toNat := by omega
    rw [List.take_of_length_le (by omega)]
    refine swp_exit ?_
    refine then_x ?_
    refine then_x ?_
    refine block_hit rfl ?_
    refine then_n ?_
    refine swp_seq ?_
    refine swp_region ?_
    refine s_pu (pu_move rfl) ?_
    refine s_pu (pu_assign rfl) ?_
    refine swl_sub _ (.cons (t := 6) rfl .nil) ?_
    refine swl_nil ?_
    refine then_n ?_
    refine swp_ret ?_
    first
      | (refine done_ret [own 3 1 v s.ha.toNat ((placesW s p.data.toList n).flatMap (icsk .i64))] (.tmp rfl .nil) ?_ (by repeat (first | exact Split.nil | (apply Split.cons; (repeat (first | with_reducible exact Take.here | apply Take.there)))))
         rw [hlen]; rfl)
      | (refine done_retE [own 3 1 (.slice none 0 0) 0 []] (.tmp rfl .nil) ?_ (own_nil_ent.trans (Split.ent' (by repeat (first | exact Split.nil | (apply Split.cons; (repeat (first | with_reducible exact Take.here | apply Take.there)))))))
         rw [show placesW s p.data.toList n = [] by unfold placesW; rw [if_pos (by grind)]]; rfl)
theorem row_str {μ : PH} {v : Value} {l : List ByteArray} (h : Row μ v 1 l.length (sts l)) {i : Nat} {p : ByteArray} (hi : l[i]? = some p) : ∃ b off cap, v = .slice (some ⟨b, off, none⟩) l.length cap ∧ CellAt μ b (off + i * 1) (.string p) := by
  have hlt := (List.getElem?_eq_some_iff.1 hi).1
  obtain ⟨b, off, cap, hv, _, _, hr⟩ := h.pos (by omega)
  exact ⟨b, off, cap, hv, (hr.elem (f := scsv) (n := 1) scsv_len hi).cell⟩
set_option maxHeartbeats 2000000 in
theorem unlike_spec (μ : PH) (v : Value) (ps : List ByteArray) (m : Int) (h : Row μ v 1 ps.length (sts ps)) (hsz : ps.length ≤ 1048576) (hm : 0 ≤ m ∧ m ≤ 512) :
    Spec Tryd.prog 50 [v, .int .i64 m] [ro μ] (fun r L => ∃ l : List ByteArray, (∀ p ∈ l, p ∈ ps) ∧ (l.length ≤ m → ∀ p ∈ ps, p ∈ l) ∧ L = [own 9 1 r l.length (sts l), ro μ]) := by
  obtain ⟨A0, c0, rfl⟩ := h.sl
  refine Spec.of 48 Tryd.func50 rfl rfl rfl ?_
  refine swp_seq ?_
  refine swp_region ?_
  refine s_pu (pu_assign rfl) ?_
  refine swl_sub _ (.cons (t := 0) rfl (.cons (t := 1) rfl .nil)) ?_
  refine swl_nil ?_
  refine then_n ?_
  refine swp_seq ?_
  refine swp_region ?_
  refine s_pu (pu_assign rfl) ?_
  refine swl_sub _ (.cons (t := 0) rfl (.cons (t := 1) rfl (.cons (t := 5) rfl .nil))) ?_
  refine swl_nil ?_
  refine then_n ?_
  refine swp_seq ?_
  refine swp_seq ?_
  refine swp_region ?_
  refine s_pu (pu_assign rfl) ?_
  refine swl_sub _ (.cons (t := 0) rfl (.cons (t := 1) rfl (.cons (t := 5) rfl (.cons (t := 6) rfl .nil)))) ?_
  refine swl_nil ?_
  refine then_n ?_
  refine swp_block ?_
  refine swp_ent (show Ent _ (own 9 1 (.slice none 0 0) ([] : List ByteArray).length (sts []) :: _) from own_nil_ent) ?_
  refine swp_loop (ι := Nat × Value × List ByteArray) (fun k env L => Sub env [(0, .slice A0 ps.length c0), (1, .int .i64 m), (5, k.2.1), (6, .int .i64 (k.1 : Nat))] ∧ Ent L [own 9 1 k.2.1 k.2.2.length (sts k.2.2), ro μ] ∧ k.1 ≤ ps.length ∧ (∀ p ∈ k.2.2, p ∈ ps) ∧ (∀ p ∈ ps.take k.1, p ∈ k.2.2) ∧ k.2.2.length ≤ k.1) (fun k => ps.length - k.1) (0, .slice none 0 0, []) ⟨⟨rfl, rfl, rfl, rfl, trivial⟩, Ent.refl _, Nat.zero_le _, fun _ h => (by cases h), fun _ h => (by cases h), Nat.le_refl _⟩ ?_
  rintro ⟨i, w, l⟩ env L ⟨hsub, hE, hi, h1, h2, h3⟩
  dsimp only at hsub hE hi h1 h2 h3
  refine swp_sub _ hsub ?_
  refine swp_ent hE ?_
  clear hsub hE env L
  refine swp_fact (fun m h => own_form h) fun ⟨Aw, cw, hw⟩ => ?_
  refine swp_cut (fun env L => Sub env [(0, .slice A0 ps.length c0), (1, .int .i64 m), (5, w), (6, .int .i64 (i : Nat))] ∧ Ent L [own 9 1 w l.length (sts l), ro μ] ∧ i < ps.length ∧ l.length ≤ m) ?_ ?_
  · skip
    refine swp_seq ?_
    refine swp_region ?_
    refine s_pu (pu_move rfl) ?_
    refine s_pu (pu_move rfl) ?_
    refine s_pu (pu_len rfl) ?_
    refine s_pu (pu_lss rfl rfl) ?_
    refine s_pu (pu_move rfl) ?_
    refine s_split 13 rfl (fun h13 => ?_) (fun h13 => ?_)
    · skip   -- 13 T
      refine s_on rfl rfl ?_
      refine s_pu (pu_move rfl) ?_
      refine s_on rfl rfl ?_
      refine s_pu (pu_len_own ⟨Aw, cw, hw⟩ rfl) ?_
      refine s_on rfl rfl ?_
      refine s_pu (pu_move rfl) ?_
      refine s_on rfl rfl ?_
      refine s_pu (pu_leq rfl rfl) ?_
      first | refine s_pu (pu_pick_t rfl rfl) ?_ | refine s_pu (pu_pick_f rfl rfl) ?_
      refine swl_sub _ (.cons (t := 0) rfl (.cons (t := 1) rfl (.cons (t := 5) rfl (.cons (t := 6) rfl (.cons (t := 18) rfl .nil))))) ?_
      refine swl_nil ?_
      refine then_n ?_
      refine swp_cond (b := _) rfl (fun h18 => ?_) (fun h18 => ?_)
      · skip   -- 18 T
        refine swp_skip ?_
        exact then_n ⟨⟨rfl, rfl, rfl, rfl, trivial⟩, Ent.refl _, by grind, by grind⟩
      · skip   -- 18 F
        refine swp_exit ?_
        refine then_x ?_
        refine then_x ?_
        refine block_hit rfl ?_
        refine then_n ?_
        refine swp_seq ?_
        refine swp_region ?_
        refine s_pu (pu_move rfl) ?_
        refine s_pu (pu_assign rfl) ?_
        refine swl_sub _ (.cons (t := 4) rfl .nil) ?_
        refine swl_nil ?_
        refine then_n ?_
        refine swp_ret ?_
        refine done_ret [own 9 1 w l.length (sts l), ro μ] (.tmp rfl .nil) ⟨l, h1, fun hl x hx => ?_, rfl⟩ (by repeat (first | exact Split.nil | (apply Split.cons; (repeat (first | with_reducible exact Take.here | apply Take.there)))))
        have : i = ps.length := by grind
        rw [this, List.take_length] at h2
        exact h2 x hx
    · skip   -- 13 F
      refine s_off rfl rfl rfl ?_
      refine s_off rfl rfl rfl ?_
      refine s_off rfl rfl rfl ?_
      refine s_off rfl rfl rfl ?_
      first | refine s_pu (pu_pick_t rfl rfl) ?_ | refine s_pu (pu_pick_f rfl rfl) ?_
      refine swl_sub _ (.cons (t := 0) rfl (.cons (t := 1) rfl (.cons (t := 5) rfl (.cons (t := 6) rfl (.cons (t := 18) rfl .nil))))) ?_
      refine swl_nil ?_
      refine then_n ?_
      refine swp_cond (b := _) rfl (fun h18 => ?_) (fun h18 => ?_)
      · skip   -- 18 T
        refine swp_skip ?_
        exact then_n ⟨⟨rfl, rfl, rfl, rfl, trivial⟩, Ent.refl _, by grind, by grind⟩
      · skip   -- 18 F
        refine swp_exit ?_
        refine then_x ?_
        refine then_x ?_
        refine block_hit rfl ?_
        refine then_n ?_
        refine swp_seq ?_
        refine swp_region ?_
        refine s_pu (pu_move rfl) ?_
        refine s_pu (pu_assign rfl) ?_
        refine swl_sub _ (.cons (t := 4) rfl .nil) ?_
        refine swl_nil ?_
        refine then_n ?_
        refine swp_ret ?_
        refine done_ret [own 9 1 w l.length (sts l), ro μ] (.tmp rfl .nil) ⟨l, h1, fun hl x hx => ?_, rfl⟩ (by repeat (first | exact Split.nil | (apply Split.cons; (repeat (first | with_reducible exact Take.here | apply Take.there)))))
        have : i = ps.length := by grind
        rw [this, List.take_length] at h2
        exact h2 x hx
  rintro env L ⟨hsub, hE, hi', hlm⟩
  refine swp_sub _ hsub ?_
  refine swp_ent hE ?_
  clear hsub hE env L
  obtain ⟨p, hp⟩ : ∃ p, ps[i]? = some p := ⟨_, List.getElem?_eq_getElem hi'⟩
  obtain ⟨pb, po, pc, hpv, hpc⟩ := row_str h hp
  refine swp_seq ?_
  refine swp_block ?_
  refine swp_seq ?_
  refine swp_region ?_
  refine s_pu (pu_assign rfl) ?_
  refine swl_sub _ (.cons (t := 0) rfl (.cons (t := 1) rfl (.cons (t := 5) rfl (.cons (t := 6) rfl (.cons (t := 7) rfl .nil))))) ?_
  refine swl_nil ?_
  refine then_n ?_
  refine swp_seq ?_
  refine swp_seq ?_
  refine swp_region ?_
  refine s_pu (pu_assign rfl) ?_
  refine swl_sub _ (.cons (t := 0) rfl (.cons (t := 1) rfl (.cons (t := 5) rfl (.cons (t := 6) rfl (.cons (t := 7) rfl (.cons (t := 8) rfl .nil)))))) ?_
  refine swl_nil ?_
  refine then_n ?_
  refine swp_block ?_
  refine swp_loop (ι := Nat × Bool) (fun k env L => Sub env [(0, .slice A0 ps.length c0), (1, .int .i64 m), (5, w), (6, .int .i64 (i : Nat)), (7, .bool k.2), (8, .int .i64 (k.1 : Nat))] ∧ Ent L [own 9 1 w l.length (sts l), ro μ] ∧ k.1 ≤ l.length ∧ (k.2 = false → p ∈ l)) (fun k => l.length - k.1) (0, true) ⟨⟨rfl, rfl, rfl, rfl, rfl, rfl, trivial⟩, Ent.refl _, Nat.zero_le _, fun h => (by cases h)⟩ ?_
  rintro ⟨k, fr⟩ env L ⟨hsub, hE, hk, hfr⟩
  dsimp only at hsub hE hk hfr
  refine swp_sub _ hsub ?_
  refine swp_ent hE ?_
  clear hsub hE env L
  refine swp_seq ?_
  refine swp_seq ?_
  refine swp_region ?_
  refine s_pu (pu_move rfl) ?_
  refine s_pu (pu_move rfl) ?_
  refine s_pu (pu_len_own ⟨Aw, cw, hw⟩ rfl) ?_
  refine s_pu (pu_lss rfl rfl) ?_
  refine swl_sub _ (.cons (t := 0) rfl (.cons (t := 1) rfl (.cons (t := 5) rfl (.cons (t := 6) rfl (.cons (t := 7) rfl (.cons (t := 8) rfl (.cons (t := 24) rfl .nil))))))) ?_
  refine swl_nil ?_
  refine then_n ?_
  refine swp_cond (b := _) rfl (fun h24 => ?_) (fun h24 => ?_)
  · skip   -- 24 T
    have h24' : k < l.length := by have := of_decide_eq_true h24; omega
    obtain ⟨q, hq⟩ : ∃ q, l[k]? = some q := ⟨_, List.getElem?_eq_getElem h24'⟩
    refine swp_own (fun h0 l0 _ => by omega) (fun b1 c1 ex1 hv1 e1 e2 e3 e4 => ?_)
    have hqc : (sts l ++ ex1)[0 + k * 1]? = some (.string q) := by
      have := flat_get (f := scsv) (k := 1) scsv_len l ex1 k q hq 0 (.string q) rfl
      rwa [Nat.zero_add]
    refine swp_skip ?_
    refine then_n ?_
    refine swp_cut (fun env L => ∃ fr', Sub env [(0, .slice A0 ps.length c0), (1, .int .i64 m), (5, w), (6, .int .i64 (i : Nat)), (7, .bool fr'), (8, .int .i64 (k : Nat))] ∧ Ent L [own 9 1 w l.length (sts l), ro μ] ∧ (fr' = false → p ∈ l)) ?_ ?_
    · skip
      refine swp_block ?_
      refine swp_draw [5, 9] _ [] (by simp only [List.append_nil]; exact Ent.refl _) (by kernel_rfl) ?_
      refine d_pu 0 rfl (pu_move rfl) (by kernel_rfl) (by kernel_rfl) (by kernel_rfl) ?_
      refine d_pu 1 rfl (pu_move rfl) (by kernel_rfl) (by kernel_rfl) (by kernel_rfl) ?_
      refine d_split 28 rfl (fun h28 => ?_) (fun h28 => ?_)
      · skip   -- 28 T
        refine d_pu_on 2 rfl rfl rfl (pu_move rfl) (by kernel_rfl) (by kernel_rfl) (by kernel_rfl) ?_
        refine d_pu_on 3 rfl rfl rfl (pu_move rfl) (by kernel_rfl) (by kernel_rfl) (by kernel_rfl) ?_
        refine d_pu_on 4 rfl rfl rfl (pu_indexAddr (0 + k * 1) (congrArg some hv1) rfl (by omega) (by omega) (by rw [Int.toNat_natCast])) (by kernel_rfl) (by kernel_rfl) (by kernel_rfl) ?_
        refine d_rd_on 5 rfl rfl rfl (rd_load rfl hqc) rfl (by kernel_rfl) (by kernel_rfl) (by kernel_rfl) ?_
        refine d_pu_on 6 rfl rfl rfl (pu_move rfl) (by kernel_rfl) (by kernel_rfl) (by kernel_rfl) ?_
        refine d_pu_on 7 rfl rfl rfl (pu_move rfl) (by kernel_rfl) (by kernel_rfl) (by kernel_rfl) ?_
        refine d_pu_on 8 rfl rfl rfl (pu_indexAddr (po + i * 1) (congrArg some hpv) rfl (by omega) (by omega) (by rw [Int.toNat_natCast])) (by kernel_rfl) (by kernel_rfl) (by kernel_rfl) ?_
        refine d_rd_on 9 rfl rfl rfl (rd_ro rfl hpc) rfl (by kernel_rfl) (by kernel_rfl) (by kernel_rfl) ?_
        refine d_pu_on 10 rfl rfl rfl (pu_str_neq rfl rfl) (by kernel_rfl) (by kernel_rfl) (by kernel_rfl) ?_
        first | refine d_pu 11 rfl (pu_pick_t rfl rfl) (by kernel_rfl) (by kernel_rfl) (by kernel_rfl) ?_ | refine d_pu 11 rfl (pu_pick_f rfl rfl) (by kernel_rfl) (by kernel_rfl) (by kernel_rfl) ?_
        refine d_pu 12 rfl (pu_assign rfl) (by kernel_rfl) (by kernel_rfl) (by kernel_rfl) ?_
        refine d_sub _ (.cons (t := 0) rfl (.cons (t := 1) rfl (.cons (t := 5) rfl (.cons (t := 6) rfl (.cons (t := 7) rfl (.cons (t := 8) rfl .nil)))))) ?_
        first | refine d_nilt (by kernel_rfl) ?_ | refine d_nilf (by kernel_rfl) ?_
        refine block_n ?_
        refine then_n ⟨_, ⟨rfl, rfl, rfl, rfl, rfl, rfl, trivial⟩, ?_, fun hf => ?_⟩
        · rw [hv1]; exact own_close e3 e4 e1 e2
        · have hqp : strEq q p = true := by simpa using hf
          rw [← strEq_iff.1 hqp]; exact List.mem_of_getElem? hq
      · skip   -- 28 F
        refine d_off 2 rfl rfl rfl rfl (by kernel_rfl) (by kernel_rfl) (by kernel_rfl) ?_
        refine d_off 3 rfl rfl rfl rfl (by kernel_rfl) (by kernel_rfl) (by kernel_rfl) ?_
        refine d_off 4 rfl rfl rfl rfl (by kernel_rfl) (by kernel_rfl) (by kernel_rfl) ?_
        refine d_off 5 rfl rfl rfl rfl (by kernel_rfl) (by kernel_rfl) (by kernel_rfl) ?_
        refine d_off 6 rfl rfl rfl rfl (by kernel_rfl) (by kernel_rfl) (by kernel_rfl) ?_
        refine d_off 7 rfl rfl rfl rfl (by kernel_rfl) (by kernel_rfl) (by kernel_rfl) ?_
        refine d_off 8 rfl rfl rfl rfl (by kernel_rfl) (by kernel_rfl) (by kernel_rfl) ?_
        refine d_off 9 rfl rfl rfl rfl (by kernel_rfl) (by kernel_rfl) (by kernel_rfl) ?_
        refine d_off 10 rfl rfl rfl rfl (by kernel_rfl) (by kernel_rfl) (by kernel_rfl) ?_
        first | refine d_pu 11 rfl (pu_pick_t rfl rfl) (by kernel_rfl) (by kernel_rfl) (by kernel_rfl) ?_ | refine d_pu 11 rfl (pu_pick_f rfl rfl) (by kernel_rfl) (by kernel_rfl) (by kernel_rfl) ?_
        refine d_pu 12 rfl (pu_assign rfl) (by kernel_rfl) (by kernel_rfl) (by kernel_rfl) ?_
        refine d_sub _ (.cons (t := 0) rfl (.cons (t := 1) rfl (.cons (t := 5) rfl (.cons (t := 6) rfl (.cons (t := 7) rfl (.cons (t := 8) rfl .nil)))))) ?_
        first | refine d_nilt (by kernel_rfl) ?_ | refine d_nilf (by kernel_rfl) ?_
        refine block_n ?_
        refine then_n ⟨_, ⟨rfl, rfl, rfl, rfl, rfl, rfl, trivial⟩, ?_, fun _ => hfr h28⟩
        rw [hv1]; exact own_close e3 e4 e1 e2
    rintro env L ⟨fr', hsub, hE, hfr'⟩
    refine swp_sub _ hsub ?_
    refine swp_ent hE ?_
    clear hsub hE env L
    refine swp_region ?_
    refine s_pu (pu_move rfl) ?_
    refine s_pu (pu_add_as ((k + 1 : Nat) : Int) rfl rfl (by omega) (by omega) (by omega)) ?_
    refine s_pu (pu_assign rfl) ?_
    refine swl_sub _ (.cons (t := 0) rfl (.cons (t := 1) rfl (.cons (t := 5) rfl (.cons (t := 6) rfl (.cons (t := 7) rfl (.cons (t := 8) rfl .nil)))))) ?_
    refine swl_nil ?_
    exact then_n ⟨(k + 1, fr'), ⟨⟨rfl, rfl, rfl, rfl, rfl, rfl, trivial⟩, Ent.refl _, h24', hfr'⟩, by show l.length - (k + 1) < l.length - k; omega⟩
  · skip   -- 24 F
    refine swp_exit ?_
    refine then_x ?_
    refine then_x ?_
    refine block_hit rfl ?_
    refine then_n ?_
    refine swp_seq ?_
    refine swp_region ?_
    refine s_pu (pu_move rfl) ?_
    refine swl_sub _ (.cons (t := 0) rfl (.cons (t := 1) rfl (.cons (t := 5) rfl (.cons (t := 6) rfl (.cons (t := 39) rfl .nil))))) ?_
    refine swl_nil ?_
    refine then_n ?_
    refine swp_cond (b := _) rfl (fun h39 => ?_) (fun h39 => ?_)
    · skip   -- 39 T
      refine swp_region ?_
      refine s_pu (pu_move rfl) ?_
      refine s_pu (pu_move rfl) ?_
      refine s_pu (pu_move rfl) ?_
      refine s_pu (pu_indexAddr (po + i * 1) (congrArg some hpv) rfl (by omega) (by omega) (by rw [Int.toNat_natCast])) ?_
      refine s_rd (rd_ro rfl hpc) ?_
      refine s_ef (ef_bldS (qs := [(0, _)]) rfl rfl rfl) ?_
      intro b45
      refine s_ef (ef_append_lit (l := l.length) (m := 1) rfl rfl (by repeat (first | exact Split.nil | (apply Split.cons; (repeat (first | with_reducible exact Take.here | apply Take.there))))) (by simp only [maxLen]; omega) (by omega)) ?_
      rintro v46 -
      skip
      refine s_pu (pu_assign rfl) ?_
      refine swl_sub _ (.cons (t := 0) rfl (.cons (t := 1) rfl (.cons (t := 5) rfl (.cons (t := 6) rfl .nil)))) ?_
      refine swl_nil ?_
      refine block_n ?_
      refine then_n ?_
      refine swp_region ?_
      refine s_pu (pu_move rfl) ?_
      refine s_pu (pu_add_as ((i + 1 : Nat) : Int) rfl rfl (by omega) (by omega) (by omega)) ?_
      refine s_pu (pu_assign rfl) ?_
      refine swl_sub _ (.cons (t := 0) rfl (.cons (t := 1) rfl (.cons (t := 5) rfl (.cons (t := 6) rfl .nil)))) ?_
      refine swl_nil ?_
      refine then_n ⟨(i + 1, v46, l ++ [p]), ⟨⟨rfl, rfl, rfl, rfl, trivial⟩, ?_, hi', fun x hx => ?_, fun x hx => ?_, ?_⟩, by show ps.length - (i + 1) < ps.length - i; omega⟩
      · show Ent _ [own 9 1 v46 (l ++ [p]).length (sts (l ++ [p])), ro μ]
        rw [sts_app, List.length_append, show sts [p] = [.string p] from rfl, show [p].length = 1 from rfl]
        exact Split.ent' (by repeat (first | exact Split.nil | (apply Split.cons; (repeat (first | with_reducible exact Take.here | apply Take.there)))))
      · rcases List.mem_append.1 hx with hx | hx
        · exact h1 x hx
        · rw [List.mem_singleton.1 hx]; exact List.mem_of_getElem? hp
      · rw [List.take_add_one, hp] at hx
        rcases List.mem_append.1 hx with hx | hx
        · exact List.mem_append_left _ (h2 x hx)
        · exact List.mem_append_right _ hx
      · rw [List.length_append]; show l.length + 1 ≤ i + 1; omega
    · skip   -- 39 F
      refine swp_skip ?_
      refine block_n ?_
      refine then_n ?_
      refine swp_region ?_
      refine s_pu (pu_move rfl) ?_
      refine s_pu (pu_add_as ((i + 1 : Nat) : Int) rfl rfl (by omega) (by omega) (by omega)) ?_
      refine s_pu (pu_assign rfl) ?_
      refine swl_sub _ (.cons (t := 0) rfl (.cons (t := 1) rfl (.cons (t := 5) rfl (.cons (t := 6) rfl .nil)))) ?_
      refine swl_nil ?_
      refine then_n ⟨(i + 1, w, l), ⟨⟨rfl, rfl, rfl, rfl, trivial⟩, Ent.refl _, hi', h1, fun x hx => ?_, by show l.length ≤ i + 1; omega⟩, by show ps.length - (i + 1) < ps.length - i; omega⟩
      rw [List.take_add_one, hp] at hx
      rcases List.mem_append.1 hx with hx | hx
      · exact h2 x hx
      · rw [List.mem_singleton.1 hx]; exact hfr h39
end SX
namespace SX
open Go Go.Proofs
theorem byte_at {l : List UInt8} {k : Nat} {b : UInt8} (h : l[k]? = some b) : (bcs l)[0 + k * 1]? = some (.int .u8 (b.toNat : Nat)) := by rw [bcs_map, List.getElem?_map, Nat.zero_add, Nat.mul_one, h]; rfl
theorem bcs_set (l : List UInt8) (k : Nat) (b : UInt8) : (bcs l).set (0 + k * 1) (.int .u8 (b.toNat : Nat)) = bcs (l.set k b) := by rw [bcs_map, bcs_map, Nat.zero_add, Nat.mul_one, List.map_set]
set_option maxHeartbeats 4000000 in
theorem smake_spec (μ : PH) (s : Sett) (v : Value) (ps : List ByteArray) (h : Row μ v 1 ps.length (sts ps)) (hsz : ps.length ≤ 1048576) (hps : ∀ p ∈ ps, p.size ≤ 1048576) :
    Spec Tryd.prog 34 [.agg (encS s).toArray, v] [ro μ] (fun r L => ∃ (f : Fil) (e : Int) (μ' : PH), Le μ μ' ∧ r = .tuple #[.agg (encF f).toArray, .int .i64 e] ∧ f.2.length ≤ 1048576 ∧ (∀ p ∈ ps, mayF s f p.data.toList = true) ∧ L = [ro μ']) := by
  refine Spec.of 80 Tryd.func34 rfl rfl rfl ?_
  refine swp_seq ?_
  refine swp_region ?_
  refine s_ef (ef_box rfl rfl) ?_
  intro b2
  refine s_ef (ef_alloc) ?_
  intro b4
  refine s_pu (pu_assign rfl) ?_
  refine swl_sub _ (.cons (t := 1) rfl (.cons (t := 2) rfl (.cons (t := 4) rfl .nil))) ?_
  refine swl_nil ?_
  refine then_n ?_
  refine swp_seq ?_
  refine swp_seq ?_
  refine swp_region ?_
  first | refine s_rd (rd_loadW rfl rfl) ?_ | refine s_rd (rd_loadX rfl rfl rfl) ?_
  refine s_ef (ef_fn (scheck_spec s) rfl rfl (by repeat (first | exact Split.nil | (apply Split.cons; (repeat (first | with_reducible exact Take.here | apply Take.there)))))) ?_
  rintro v12 L1 ⟨rfl, rfl⟩
  refine swl_app ?_
  refine s_pu (pu_neq rfl rfl) ?_
  refine swl_sub _ (.cons (t := 1) rfl (.cons (t := 2) rfl (.cons (t := 4) rfl (.cons (t := 13) rfl .nil)))) ?_
  refine swl_nil ?_
  refine then_n ?_
  refine swp_cond (b := _) rfl (fun h13 => ?_) (fun h13 => ?_)
  · skip   -- 13 T
    have h13' : s.bad := by by_cases hb : s.bad <;> simp_all
    refine swp_seq ?_
    refine swp_region ?_
    refine s_pu (pu_bld (qs := []) rfl) ?_
    refine s_ef0 (ef_storeA rfl rfl rfl rfl) ?_
    refine s_pu (pu_assign rfl) ?_
    refine swl_sub _ (.cons (t := 4) rfl (.cons (t := 5) rfl .nil)) ?_
    refine swl_nil ?_
    refine then_n ?_
    refine swp_ret ?_
    refine then_r ?_
    refine done_ret [ro μ] (.cell rfl (ld_whole rfl) (.tmp rfl .nil)) ⟨(0, []), 1, μ, Le.refl _, rfl, by decide, fun p _ => rfl, rfl⟩ (by repeat (first | exact Split.nil | (apply Split.cons; (repeat (first | with_reducible exact Take.here | apply Take.there)))))
  · skip   -- 13 F
    have hb : ¬ s.bad := by by_cases hb : s.bad <;> simp_all
    have hbr : 0 ≤ s.mo ∧ s.mo ≤ 512 ∧ 1 ≤ s.pe ∧ s.pe ≤ 64 := by unfold Sett.bad at hb; omega
    obtain ⟨q, hq⟩ : ∃ q : Nat, s.pe = q := ⟨s.pe.toNat, by omega⟩
    refine swp_skip ?_
    refine then_n ?_
    refine swp_seq ?_
    refine swp_region ?_
    refine s_pu (pu_move rfl) ?_
    first | refine s_pu (pu_fieldAddr0 rfl) ?_ | refine s_pu (pu_fieldAddr rfl) ?_
    refine s_rd (rd_load rfl rfl) ?_
    refine s_ef (ef_fn (unlike_spec μ v ps s.mo h hsz ⟨by omega, by omega⟩) rfl rfl (by repeat (first | exact Split.nil | (apply Split.cons; (repeat (first | with_reducible exact Take.here | apply Take.there)))))) ?_
    rintro v18 L1 ⟨l, q1, q2, rfl⟩
    refine swl_app ?_
    refine swl_share_own (v := v18) (μ := μ) (by repeat (first | exact Split.nil | (apply Split.cons; (repeat (first | with_reducible exact Take.here | apply Take.there))))) fun μ1 l1 r18 => ?_
    obtain ⟨A18, c18, rfl⟩ := r18.sl
    refine s_pu (pu_assign rfl) ?_
    refine swl_sub _ (.cons (t := 2) rfl (.cons (t := 4) rfl (.cons (t := 6) rfl .nil))) ?_
    refine swl_nil ?_
    refine then_n ?_
    refine swp_seq ?_
    refine swp_seq ?_
    refine swp_region ?_
    refine s_pu (pu_move rfl) ?_
    refine s_pu (pu_len_row r18 rfl) ?_
    first | refine s_pu (pu_fieldAddr0 rfl) ?_ | refine s_pu (pu_fieldAddr rfl) ?_
    refine s_rd (rd_load rfl rfl) ?_
    refine s_pu (pu_gtr rfl rfl) ?_
    refine swl_sub _ (.cons (t := 2) rfl (.cons (t := 4) rfl (.cons (t := 6) rfl (.cons (t := 23) rfl .nil)))) ?_
    refine swl_nil ?_
    refine then_n ?_
    refine swp_cond (b := _) rfl (fun h23 => ?_) (fun h23 => ?_)
    · skip   -- 23 T
      refine swp_seq ?_
      refine swp_region ?_
      refine s_pu (pu_bld (qs := [(0, _)]) rfl) ?_
      refine s_ef0 (ef_storeA rfl rfl rfl rfl) ?_
      refine s_pu (pu_assign rfl) ?_
      refine swl_sub _ (.cons (t := 4) rfl (.cons (t := 5) rfl .nil)) ?_
      refine swl_nil ?_
      refine then_n ?_
      refine swp_ret ?_
      refine then_r ?_
      refine done_ret [ro μ1] (.cell rfl (ld_whole rfl) (.tmp rfl .nil)) ⟨(2, []), 0, μ1, l1, rfl, by decide, fun p _ => rfl, rfl⟩ (by repeat (first | exact Split.nil | (apply Split.cons; (repeat (first | with_reducible exact Take.here | apply Take.there)))))
    · skip   -- 23 F
      have h23' : (l.length : Int) ≤ s.mo := by have := of_decide_eq_false h23; omega
      have hlq : l.length * q ≤ 512 * 64 := Nat.mul_le_mul (by omega) (by omega)
      replace q2 := q2 h23'
      obtain ⟨nb, hnb⟩ : ∃ nb, nb = max 1 ((l.length * q + 7) / 8) := ⟨_, rfl⟩
      have hnb1 : 1 ≤ nb ∧ nb ≤ 8192 := by omega
      refine swp_skip ?_
      refine then_n ?_
      refine swp_seq ?_
      refine swp_region ?_
      refine s_pu (pu_move rfl) ?_
      refine s_pu (pu_len_row r18 rfl) ?_
      first | refine s_pu (pu_fieldAddr0 rfl) ?_ | refine s_pu (pu_fieldAddr rfl) ?_
      refine s_rd (rd_load rfl rfl) ?_
      refine s_pu (pu_mul_as ((l.length * q : Nat) : Int) rfl rfl (by rw [Int.natCast_mul, ← hq]) (by omega) (by omega)) ?_
      refine s_pu (pu_add_as ((l.length * q + 7 : Nat) : Int) rfl rfl (by omega) (by omega) (by omega)) ?_
      refine s_pu (pu_quo_nat (b := 8) rfl rfl (by omega) (wrap_i64 (by omega) (by omega))) ?_
      refine s_pu (pu_max2 rfl rfl) ?_
      refine s_ef (ef_make1 nb rfl rfl (by omega) (by omega) (by simp only [maxLen]; omega)) ?_
      rintro b33
      rw [show List.replicate nb (Value.int .u8 0) = bcs (List.replicate nb 0) by rw [bcs_map, List.map_replicate]; rfl]
      refine s_pu (pu_assign rfl) ?_
      refine swl_sub _ (.cons (t := 2) rfl (.cons (t := 4) rfl (.cons (t := 6) rfl (.cons (t := 7) rfl .nil)))) ?_
      refine swl_nil ?_
      refine then_n ?_
      refine swp_seq ?_
      refine swp_seq ?_
      refine swp_region ?_
      refine s_pu (pu_assign rfl) ?_
      refine swl_sub _ (.cons (t := 2) rfl (.cons (t := 4) rfl (.cons (t := 6) rfl (.cons (t := 7) rfl (.cons (t := 8) rfl .nil))))) ?_
      refine swl_nil ?_
      refine then_n ?_
      refine swp_block ?_
      refine swp_loop (ι := Nat × List UInt8 × PH) (fun k env L => Sub env [(2, .pointer (some ⟨b2, 0, none⟩)), (4, .pointer (some ⟨b4, 0, none⟩)), (6, .slice A18 l.length c18), (7, .slice (some ⟨b33, 0, none⟩) nb nb), (8, .int .i64 (k.1 : Nat))] ∧ Ent L [blk b33 5 (bcs k.2.1), blk b2 26 (encS s), blk b4 72 [.int .i64 0, .string ⟨#[]⟩], ro k.2.2] ∧ k.1 ≤ l.length ∧ k.2.1.length = nb ∧ Le μ1 k.2.2 ∧ (∀ x ∈ l.take k.1, ∀ y ∈ placesW s x.data.toList (8 * nb), bitB k.2.1 y.toNat ≠ 0#8)) (fun k => l.length - k.1) (0, List.replicate nb 0, μ1) ⟨⟨rfl, rfl, rfl, rfl, rfl, trivial⟩, Split.ent' (by repeat (first | exact Split.nil | (apply Split.cons; (repeat (first | with_reducible exact Take.here | apply Take.there))))), Nat.zero_le _, List.length_replicate, Le.refl _, fun _ h => (by cases h)⟩ ?_
      rintro ⟨i, bs, μa⟩ env L ⟨hsub, hE, hi, hbl, hla, hbit⟩
      dsimp only at hsub hE hi hbl hla hbit
      refine swp_sub _ hsub ?_
      refine swp_ent hE ?_
      clear hsub hE env L
      refine swp_seq ?_
      refine swp_seq ?_
      refine swp_region ?_
      refine s_pu (pu_move rfl) ?_
      refine s_pu (pu_move rfl) ?_
      refine s_pu (pu_len_row r18 rfl) ?_
      refine s_pu (pu_lss rfl rfl) ?_
      refine swl_sub _ (.cons (t := 2) rfl (.cons (t := 4) rfl (.cons (t := 6) rfl (.cons (t := 7) rfl (.cons (t := 8) rfl (.cons (t := 37) rfl .nil)))))) ?_
      refine swl_nil ?_
      refine then_n ?_
      refine swp_cond (b := _) rfl (fun h37 => ?_) (fun h37 => ?_)
      · skip   -- 37 T
        have h37' : i < l.length := by have := of_decide_eq_true h37; omega
        obtain ⟨p, hp⟩ : ∃ p, l[i]? = some p := ⟨_, List.getElem?_eq_getElem h37'⟩
        obtain ⟨pb, po, pc, hpv, hpc⟩ := row_str r18 hp
        have hpsz := hps p (q1 p (List.mem_of_getElem? hp))
        refine swp_skip ?_
        refine then_n ?_
        refine swp_seq ?_
        refine swp_block ?_
        refine swp_seq ?_
        refine swp_draw [0, 4] _ [] (by simp only [List.append_nil]; exact Ent.refl _) (by kernel_rfl) ?_
        first | refine d_rd 0 rfl (rd_loadW rfl rfl) rfl (by kernel_rfl) (by kernel_rfl) (by kernel_rfl) ?_ | refine d_rd 0 rfl (rd_loadX rfl rfl rfl) rfl (by kernel_rfl) (by kernel_rfl) (by kernel_rfl) ?_
        refine d_pu 1 rfl (pu_move rfl) (by kernel_rfl) (by kernel_rfl) (by kernel_rfl) ?_
        refine d_pu 2 rfl (pu_move rfl) (by kernel_rfl) (by kernel_rfl) (by kernel_rfl) ?_
        refine d_pu 3 rfl (pu_indexAddr (po + i * 1) (congrArg some hpv) rfl (by omega) (by omega) (by rw [Int.toNat_natCast])) (by kernel_rfl) (by kernel_rfl) (by kernel_rfl) ?_
        refine d_rd 4 rfl (rd_ro rfl (hpc.le hla)) rfl (by kernel_rfl) (by kernel_rfl) (by kernel_rfl) ?_
        refine d_pu 5 rfl (pu_move rfl) (by kernel_rfl) (by kernel_rfl) (by kernel_rfl) ?_
        refine d_pu 6 rfl (pu_len rfl) (by kernel_rfl) (by kernel_rfl) (by kernel_rfl) ?_
        refine d_pu 7 rfl (pu_mul_as ((8 * nb : Nat) : Int) rfl rfl (by omega) (by omega) (by omega)) (by kernel_rfl) (by kernel_rfl) (by kernel_rfl) ?_
        first | refine d_fint 8 rfl (by kernel_rfl) (by kernel_rfl) (ef_fn (places_spec s p (8 * nb) hpsz) rfl rfl (by repeat (first | exact Split.nil | (apply Split.cons; (repeat (first | with_reducible exact Take.here | apply Take.there)))))) ?_ | refine d_finf 8 rfl (by kernel_rfl) (by kernel_rfl) (ef_fn (places_spec s p (8 * nb) hpsz) rfl rfl (by repeat (first | exact Split.nil | (apply Split.cons; (repeat (first | with_reducible exact Take.here | apply Take.there)))))) ?_
        rintro v48 L1 rfl
        refine swd_app ?_
        refine d_pu 9 rfl (pu_assign rfl) (by kernel_rfl) (by kernel_rfl) (by kernel_rfl) ?_
        refine d_sub _ (.cons (t := 2) rfl (.cons (t := 4) rfl (.cons (t := 6) rfl (.cons (t := 7) rfl (.cons (t := 8) rfl (.cons (t := 9) rfl .nil)))))) ?_
        first | refine d_nilt (by kernel_rfl) ?_ | refine d_nilf (by kernel_rfl) ?_
        refine then_n ?_
        refine swp_seq ?_
        refine swp_share_own (v := v48) (μ := μa) (by repeat (first | exact Split.nil | (apply Split.cons; (repeat (first | with_reducible exact Take.here | apply Take.there))))) fun μb lb r48 => ?_
        have hplt := fun x => places_lt (s := s) (p := p.data.toList) (n := 8 * nb) (x := x)
        have hpll := places_len s p.data.toList (8 * nb)
        have hbit' : ∀ x ∈ l.take i, ∀ y ∈ placesW s x.data.toList (8 * nb), bitB bs y.toNat ≠ 0#8 := hbit
        have hple : ∀ bs' : List UInt8, (∀ k, bitB bs k ≠ 0#8 → bitB bs' k ≠ 0#8) → (∀ y ∈ placesW s p.data.toList (8 * nb), bitB bs' y.toNat ≠ 0#8) → ∀ x ∈ l.take (i + 1), ∀ y ∈ placesW s x.data.toList (8 * nb), bitB bs' y.toNat ≠ 0#8 := fun bs' k1 k2 x hx y hy => by
          rw [List.take_add_one, hp] at hx
          rcases List.mem_append.1 hx with hx | hx
          · exact k1 _ (hbit x hx y hy)
          · rw [List.mem_singleton.1 hx] at hy; exact k2 y hy
        clear hbit hbit'
        generalize placesW s p.data.toList (8 * nb) = pl at r48 hplt hpll hple
        refine swp_region ?_
        refine s_pu (pu_assign rfl) ?_
        refine swl_sub _ (.cons (t := 2) rfl (.cons (t := 4) rfl (.cons (t := 6) rfl (.cons (t := 7) rfl (.cons (t := 8) rfl (.cons (t := 9) rfl (.cons (t := 10) rfl .nil))))))) ?_
        refine swl_nil ?_
        refine then_n ?_
        refine swp_block ?_
        refine swp_loop (ι := Nat × List UInt8) (fun k env L => Sub env [(2, .pointer (some ⟨b2, 0, none⟩)), (4, .pointer (some ⟨b4, 0, none⟩)), (6, .slice A18 l.length c18), (7, .slice (some ⟨b33, 0, none⟩) nb nb), (8, .int .i64 (i : Nat)), (9, v48), (10, .int .i64 (k.1 : Nat))] ∧ Ent L [blk b33 5 (bcs k.2), blk b2 26 (encS s), blk b4 72 [.int .i64 0, .string ⟨#[]⟩], ro μb] ∧ k.1 ≤ pl.length ∧ k.2.length = nb ∧ (∀ j, bitB bs j ≠ 0#8 → bitB k.2 j ≠ 0#8) ∧ (∀ y ∈ pl.take k.1, bitB k.2 y.toNat ≠ 0#8)) (fun k => pl.length - k.1) (0, bs) ⟨⟨rfl, rfl, rfl, rfl, rfl, rfl, rfl, trivial⟩, Split.ent' (by repeat (first | exact Split.nil | (apply Split.cons; (repeat (first | with_reducible exact Take.here | apply Take.there))))), Nat.zero_le _, hbl, fun _ h => h, fun _ h => (by cases h)⟩ ?_
        rintro ⟨k, cs⟩ env L ⟨hsub, hE, hk, hcl, hk1, hk2⟩
        dsimp only at hsub hE hk hcl hk1 hk2
        refine swp_sub _ hsub ?_
        refine swp_ent hE ?_
        clear hsub hE env L
        refine swp_seq ?_
        refine swp_seq ?_
        refine swp_region ?_
        refine s_pu (pu_move rfl) ?_
        refine s_pu (pu_move rfl) ?_
        refine s_pu (pu_len_row r48 rfl) ?_
        refine s_pu (pu_lss rfl rfl) ?_
        refine swl_sub _ (.cons (t := 2) rfl (.cons (t := 4) rfl (.cons (t := 6) rfl (.cons (t := 7) rfl (.cons (t := 8) rfl (.cons (t := 9) rfl (.cons (t := 10) rfl (.cons (t := 52) rfl .nil)))))))) ?_
        refine swl_nil ?_
        refine then_n ?_
        refine swp_cond (b := _) rfl (fun h52 => ?_) (fun h52 => ?_)
        · skip   -- 52 T
          have h52' : k < pl.length := by have := of_decide_eq_true h52; omega
          obtain ⟨x, hx⟩ : ∃ x, pl[k]? = some x := ⟨_, List.getElem?_eq_getElem h52'⟩
          obtain ⟨hx0, hxn⟩ := hplt x (List.mem_of_getElem? hx)
          obtain ⟨z, rfl⟩ : ∃ z : Nat, x = z := ⟨x.toNat, by omega⟩
          obtain ⟨g, o, c, hv, hc⟩ := r48.atk hx
          obtain ⟨b, hb8⟩ : ∃ b, cs[z / 8]? = some b := ⟨_, List.getElem?_eq_getElem (by omega)⟩
          refine swp_skip ?_
          refine then_n ?_
          refine swp_seq ?_
          refine swp_block ?_
          refine swp_draw [4, 10, 13, 17] _ [] (by simp only [List.append_nil]; exact Ent.refl _) (by kernel_rfl) ?_
          refine d_pu 0 rfl (pu_move rfl) (by kernel_rfl) (by kernel_rfl) (by kernel_rfl) ?_
          refine d_pu 1 rfl (pu_move rfl) (by kernel_rfl) (by kernel_rfl) (by kernel_rfl) ?_
          refine d_pu 2 rfl (pu_move rfl) (by kernel_rfl) (by kernel_rfl) (by kernel_rfl) ?_
          refine d_pu 3 rfl (pu_indexAddr (o + k * 1) (congrArg some hv) rfl (by omega) (by omega) (by rw [Int.toNat_natCast])) (by kernel_rfl) (by kernel_rfl) (by kernel_rfl) ?_
          refine d_rd 4 rfl (rd_ro rfl hc) rfl (by kernel_rfl) (by kernel_rfl) (by kernel_rfl) ?_
          refine d_pu 5 rfl (pu_quo_nat (b := 8) rfl rfl (by omega) (wrap_i64 (by omega) (by omega))) (by kernel_rfl) (by kernel_rfl) (by kernel_rfl) ?_
          refine d_pu 6 rfl (pu_move rfl) (by kernel_rfl) (by kernel_rfl) (by kernel_rfl) ?_
          refine d_pu 7 rfl (pu_move rfl) (by kernel_rfl) (by kernel_rfl) (by kernel_rfl) ?_
          refine d_pu 8 rfl (pu_move rfl) (by kernel_rfl) (by kernel_rfl) (by kernel_rfl) ?_
          refine d_pu 9 rfl (pu_indexAddr (o + k * 1) (congrArg some hv) rfl (by omega) (by omega) (by rw [Int.toNat_natCast])) (by kernel_rfl) (by kernel_rfl) (by kernel_rfl) ?_
          refine d_rd 10 rfl (rd_ro rfl hc) rfl (by kernel_rfl) (by kernel_rfl) (by kernel_rfl) ?_
          refine d_pu 11 rfl (pu_quo_nat (b := 8) rfl rfl (by omega) (wrap_i64 (by omega) (by omega))) (by kernel_rfl) (by kernel_rfl) (by kernel_rfl) ?_
          refine d_pu 12 rfl (pu_indexAddr (0 + (z / 8) * 1) rfl rfl (by omega) (by omega) (by rw [Int.toNat_natCast])) (by kernel_rfl) (by kernel_rfl) (by kernel_rfl) ?_
          refine d_rd 13 rfl (rd_load rfl (byte_at hb8)) rfl (by kernel_rfl) (by kernel_rfl) (by kernel_rfl) ?_
          refine d_pu 14 rfl (pu_move rfl) (by kernel_rfl) (by kernel_rfl) (by kernel_rfl) ?_
          refine d_pu 15 rfl (pu_move rfl) (by kernel_rfl) (by kernel_rfl) (by kernel_rfl) ?_
          refine d_pu 16 rfl (pu_indexAddr (o + k * 1) (congrArg some hv) rfl (by omega) (by omega) (by rw [Int.toNat_natCast])) (by kernel_rfl) (by kernel_rfl) (by kernel_rfl) ?_
          refine d_rd 17 rfl (rd_ro rfl hc) rfl (by kernel_rfl) (by kernel_rfl) (by kernel_rfl) ?_
          refine d_pu 18 rfl (pu_rem_nat (b := 8) rfl rfl (by omega)) (by kernel_rfl) (by kernel_rfl) (by kernel_rfl) ?_
          refine d_pu 19 rfl (pu_shl_w8 (a := 1#8) (z % 8) rfl rfl (by omega)) (by kernel_rfl) (by kernel_rfl) (by kernel_rfl) ?_
          refine d_pu 20 rfl (pu_or_w8 (a := b.toBitVec) rfl rfl) (by kernel_rfl) (by kernel_rfl) (by kernel_rfl) ?_
          refine d_pu 21 rfl (pu_indexAddr (0 + (z / 8) * 1) rfl rfl (by omega) (by omega) (by rw [Int.toNat_natCast])) (by kernel_rfl) (by kernel_rfl) (by kernel_rfl) ?_
          first | refine d_fin0t 22 rfl (by kernel_rfl) (by kernel_rfl) (ef_storeP rfl rfl rfl (by rw [bcs_len]; omega)) ?_ | refine d_fin0f 22 rfl (by kernel_rfl) (by kernel_rfl) (ef_storeP rfl rfl rfl (by rw [bcs_len]; omega)) ?_
          refine d_sub _ (.cons (t := 2) rfl (.cons (t := 4) rfl (.cons (t := 6) rfl (.cons (t := 7) rfl (.cons (t := 8) rfl (.cons (t := 9) rfl (.cons (t := 10) rfl .nil))))))) ?_
          first | refine d_nilt (by kernel_rfl) ?_ | refine d_nilf (by kernel_rfl) ?_
          have e14 : (bcs cs).set (0 + z / 8 * 1) (.int .u8 ((b.toBitVec ||| 1#8 <<< (z % 8)).toNat : Nat)) = bcs (setB cs z) := by
            rw [show Value.int .u8 ((b.toBitVec ||| 1#8 <<< (z % 8)).toNat : Nat) = .int .u8 ((UInt8.ofBitVec (((cs[z / 8]?).getD 0).toBitVec ||| (1#8 <<< (z % 8)))).toNat : Nat) by rw [hb8]; rfl, bcs_set]; rfl
          rw [e14]
          refine block_n ?_
          refine then_n ?_
          refine swp_region ?_
          refine s_pu (pu_move rfl) ?_
          refine s_pu (pu_add_as ((k + 1 : Nat) : Int) rfl rfl (by omega) (by omega) (by omega)) ?_
          refine s_pu (pu_assign rfl) ?_
          refine swl_sub _ (.cons (t := 2) rfl (.cons (t := 4) rfl (.cons (t := 6) rfl (.cons (t := 7) rfl (.cons (t := 8) rfl (.cons (t := 9) rfl (.cons (t := 10) rfl .nil))))))) ?_
          refine swl_nil ?_
          refine then_n ⟨(k + 1, setB cs z), ⟨⟨rfl, rfl, rfl, rfl, rfl, rfl, rfl, trivial⟩, Split.ent' (by repeat (first | exact Split.nil | (apply Split.cons; (repeat (first | with_reducible exact Take.here | apply Take.there))))), h52', by rw [setB_len]; exact hcl, fun j hj => setB_keep (hk1 j hj), fun y hy => ?_⟩, by show pl.length - (k + 1) < pl.length - k; omega⟩
          rw [List.take_add_one, hx] at hy
          rcases List.mem_append.1 hy with hy | hy
          · exact setB_keep (hk2 y hy)
          · rw [List.mem_singleton.1 hy]; exact setB_self (by rw [hcl]; omega)
        · skip   -- 52 F
          have h52' := of_decide_eq_false h52
          obtain rfl : k = pl.length := by omega
          rw [List.take_length] at hk2
          refine swp_exit ?_
          refine then_x ?_
          refine then_x ?_
          refine block_hit rfl ?_
          refine block_n ?_
          refine then_n ?_
          refine swp_region ?_
          refine s_pu (pu_move rfl) ?_
          refine s_pu (pu_add_as ((i + 1 : Nat) : Int) rfl rfl (by omega) (by omega) (by omega)) ?_
          refine s_pu (pu_assign rfl) ?_
          refine swl_sub _ (.cons (t := 2) rfl (.cons (t := 4) rfl (.cons (t := 6) rfl (.cons (t := 7) rfl (.cons (t := 8) rfl .nil))))) ?_
          refine swl_nil ?_
          exact then_n ⟨(i + 1, cs, μb), ⟨⟨rfl, rfl, rfl, rfl, rfl, trivial⟩, Split.ent' (by repeat (first | exact Split.nil | (apply Split.cons; (repeat (first | with_reducible exact Take.here | apply Take.there))))), h37', hcl, hla.trans lb, hple cs hk1 hk2⟩, by show l.length - (i + 1) < l.length - i; omega⟩
      · skip   -- 37 F
        have h37' := of_decide_eq_false h37
        obtain rfl : i = l.length := by omega
        rw [List.take_length] at hbit
        refine swp_exit ?_
        refine then_x ?_
        refine then_x ?_
        refine block_hit rfl ?_
        refine then_n ?_
        refine swp_seq ?_
        refine swp_ent (Split.ent' (K := [blk b33 5 (bcs bs ++ []), blk b2 26 (encS s), blk b4 72 [.int .i64 0, .string ⟨#[]⟩], ro μa]) (by rw [List.append_nil]; exact (by repeat (first | exact Split.nil | (apply Split.cons; (repeat (first | with_reducible exact Take.here | apply Take.there))))))) ?_
        rw [← hbl]
        refine swp_region ?_
        refine s_pu (pu_move rfl) ?_
        refine s_rd (rd_bytes bs rfl (by repeat (first | with_reducible exact Take.here | apply Take.there))) ?_
        refine s_pu (pu_bld (qs := [(0, _), (1, _)]) rfl) ?_
        refine s_ef0 (ef_storeA rfl rfl rfl rfl) ?_
        refine s_pu (pu_assign rfl) ?_
        refine swl_sub _ (.cons (t := 4) rfl (.cons (t := 5) rfl .nil)) ?_
        refine swl_nil ?_
        refine then_n ?_
        refine swp_ret ?_
        refine done_ret [ro μa] (.cell rfl (ld_whole rfl) (.tmp rfl .nil)) ⟨(1, bs), 0, μa, l1.trans hla, rfl, by show bs.length ≤ _; omega, fun p hp => ?_, rfl⟩ (by repeat (first | exact Split.nil | (apply Split.cons; (repeat (first | with_reducible exact Take.here | apply Take.there)))))
        have hbit' := hbit p (q2 p hp)
        unfold mayF
        rw [show (1, bs).2.length = bs.length from rfl, hbl]
        simp only [Bool.or_eq_true]
        right
        refine List.all_eq_true.2 fun y hy => ?_
        have := hbit' y hy
        simp [this]
end SX
namespace SX
open Go Go.Proofs
theorem same_lit (μ : PH) (v : Value) (b : Nat) (la lb : List En) (ha : Row μ v 2 la.length (ens la)) (hm : lb.length ≤ maxLen) {cs : List Value} (hcs : cs = ens lb) : Spec Tryd.prog 11 [v, .slice (some ⟨b, 0, none⟩) lb.length lb.length] [blk b 52 cs, ro μ] (fun r L => r = .bool (decide (la = lb)) ∧ L = [ro μ]) := by
  subst hcs
  intro E w hh
  obtain ⟨μ', h1, h2, h3⟩ := hh.share
  have hr := row_of_blk (n := 2) (l := lb.length) h2 (by rw [flat_length enc1_len]) hm
  refine (same_spec μ' v _ la lb (ha.le h1) hr E w h3).mono ?_
  rintro x w' ⟨r, L', e1, ⟨e2, e3⟩, h4⟩
  subst e3
  exact ⟨r, _, e1, ⟨e2, rfl⟩, h4.ent (Ent.imp fun m hm k o hk => hm k o (h1 k o hk))⟩
end SX
namespace SX
open Go Go.Proofs
end SX
namespace SX
open Go Go.Proofs
end SX
namespace SX
open Go Go.Proofs
/-- one round of the law's table -/
structure Side (μ : PH) (va vb vc vd : Value) (a b c d : List En) : Prop where
  ha : Row μ va 2 a.length (ens a)
  hb : Row μ vb 2 b.length (ens b)
  hc : Row μ vc 2 c.length (ens c)
  hd : Row μ vd 2 d.length (ens d)
  la : a.length ≤ 100 ∧ b.length ≤ 100 ∧ c.length ≤ 100
  us : U32s a ∧ U32s b ∧ U32s c
  out : outR (rowsB a b c) = d ∧ cfR (rowsB a b c) = []
theorem Side.le {μ μ' : PH} {va vb vc vd : Value} {a b c d : List En} (h : Side μ va vb vc vd a b c d) (k : Le μ μ') : Side μ' va vb vc vd a b c d :=
  ⟨h.ha.le k, h.hb.le k, h.hc.le k, h.hd.le k, h.la, h.us, h.out⟩
abbrev nilV : Value := .slice none 0 0
theorem nil_row (μ : PH) : Row μ nilV 2 ([] : List En).length (ens []) := Row.nil μ 2
theorem sides {μ : PH} {vb vo vt : Value} {b o t : List En} (hb : Row μ vb 2 b.length (ens b)) (ho : Row μ vo 2 o.length (ens o)) (ht : Row μ vt 2 t.length (ens t)) (kb : GoodT b) (ko : GoodT o) (kt : GoodT t)
    (l : b.length ≤ 100 ∧ o.length ≤ 100 ∧ t.length ≤ 100) (ub : U32s b) (uo : U32s o) (ut : U32s t) (k : Nat) (hk : k < 5) :
    ∃ w0 w1 w2 w3 a b' c d, Side μ w0 w1 w2 w3 a b' c d ∧ ∀ j v, [w0, w1, w2, w3][j]? = some v → [vb, vb, vt, vt, vb, vo, vb, vo, vb, vo, vo, vo, nilV, nilV, vt, vt, vb, nilV, vb, nilV][k * 4 + j]? = some v := by
  have hn : U32s ([] : List En) := fun _ h => by cases h
  match k, hk with
  | 0, _ => exact ⟨_, _, _, _, _, _, _, _, ⟨hb, hb, ht, ht, ⟨l.1, l.1, l.2.2⟩, ⟨ub, ub, ut⟩, side_bbt kb kt⟩, by intro j v hj; match j, hj with | 0, h => exact h | 1, h => exact h | 2, h => exact h | 3, h => exact h⟩
  | 1, _ => exact ⟨_, _, _, _, _, _, _, _, ⟨hb, ho, hb, ho, ⟨l.1, l.2.1, l.1⟩, ⟨ub, uo, ub⟩, side_bob kb ko⟩, by intro j v hj; match j, hj with | 0, h => exact h | 1, h => exact h | 2, h => exact h | 3, h => exact h⟩
  | 2, _ => exact ⟨_, _, _, _, _, _, _, _, ⟨hb, ho, ho, ho, ⟨l.1, l.2.1, l.2.1⟩, ⟨ub, uo, uo⟩, side_boo kb ko⟩, by intro j v hj; match j, hj with | 0, h => exact h | 1, h => exact h | 2, h => exact h | 3, h => exact h⟩
  | 3, _ => exact ⟨_, _, _, _, _, _, _, _, ⟨nil_row μ, nil_row μ, ht, ht, ⟨by decide, by decide, l.2.2⟩, ⟨hn, hn, ut⟩, side_bbt good_nil kt⟩, by intro j v hj; match j, hj with | 0, h => exact h | 1, h => exact h | 2, h => exact h | 3, h => exact h⟩
  | 4, _ => exact ⟨_, _, _, _, _, _, _, _, ⟨hb, nil_row μ, hb, nil_row μ, ⟨l.1, by decide, l.1⟩, ⟨ub, hn, ub⟩, side_bob kb good_nil⟩, by intro j v hj; match j, hj with | 0, h => exact h | 1, h => exact h | 2, h => exact h | 3, h => exact h⟩
end SX
namespace SX
open Go Go.Proofs
end SX
namespace SX
open Go Go.Proofs
theorem drop_cons {l : List En} {i : Nat} {e : En} (h : l[i]? = some e) : l.drop i = e :: l.drop (i + 1) := by
  have hlt := (List.getElem?_eq_some_iff.1 h).1
  rw [List.drop_eq_getElem_cons hlt, (List.getElem?_eq_some_iff.1 h).2]
theorem drop_head {l : List En} {i : Nat} {f : En} {r : List En} (h : l.drop i = f :: r) : l[i]? = some f := by
  have : (l.drop i)[0]? = some f := by rw [h]; rfl
  rwa [List.getElem?_drop, Nat.add_zero] at this
def c1E (x y : Option En) : Bool := match x, y with | some e, some f => strLt e.1 f.1 | some _, none => true | none, _ => false
def c2E (x : Option En) (f : En) : Bool := match x with | some e => strLt f.1 e.1 | none => true
set_option maxHeartbeats 4000000 in
theorem rdiff_spec (μ : PH) (va vb : Value) (a b : List En) (ha : Row μ va 2 a.length (ens a)) (hb : Row μ vb 2 b.length (ens b)) (hsz : a.length ≤ 1048576 ∧ b.length ≤ 1048576) :
    Spec Tryd.prog 33 [va, vb] [ro μ] (fun r L => L = [own 104 3 r (diffE a b).length (chs (diffE a b)), ro μ]) := by
  obtain ⟨Aa, ca, rfl⟩ := ha.sl
  obtain ⟨Ab, cb, rfl⟩ := hb.sl
  refine Spec.of 127 Tryd.func33 rfl rfl rfl ?_
  refine swp_seq ?_
  refine swp_region ?_
  refine s_pu (pu_assign rfl) ?_
  refine swl_sub _ (.cons (t := 0) rfl (.cons (t := 1) rfl .nil)) ?_
  refine swl_nil ?_
  refine then_n ?_
  refine swp_seq ?_
  refine swp_region ?_
  refine s_pu (pu_assign rfl) ?_
  refine swl_sub _ (.cons (t := 0) rfl (.cons (t := 1) rfl (.cons (t := 5) rfl .nil))) ?_
  refine swl_nil ?_
  refine then_n ?_
  refine swp_seq ?_
  refine swp_region ?_
  refine s_pu (pu_assign rfl) ?_
  refine swl_sub _ (.cons (t := 0) rfl (.cons (t := 1) rfl (.cons (t := 5) rfl (.cons (t := 6) rfl .nil)))) ?_
  refine swl_nil ?_
  refine then_n ?_
  refine swp_seq ?_
  refine swp_region ?_
  refine s_pu (pu_assign rfl) ?_
  refine swl_sub _ (.cons (t := 0) rfl (.cons (t := 1) rfl (.cons (t := 5) rfl (.cons (t := 6) rfl (.cons (t := 7) rfl .nil))))) ?_
  refine swl_nil ?_
  refine then_n ?_
  refine swp_seq ?_
  refine swp_block ?_
  refine swp_ent (show Ent _ (own 104 3 (.slice none 0 0) ([] : List Chg).length (chs []) :: _) from own_nil_ent) ?_
  refine swp_loop (ι := Nat × Nat × Value × List Chg) (fun k env L => Sub env [(0, .slice Aa a.length ca), (1, .slice Ab b.length cb), (5, k.2.2.1), (6, .int .i64 (k.1 : Nat)), (7, .int .i64 (k.2.1 : Nat))] ∧ Ent L [own 104 3 k.2.2.1 k.2.2.2.length (chs k.2.2.2), ro μ] ∧ k.1 ≤ a.length ∧ k.2.1 ≤ b.length ∧ k.2.2.2 ++ diffE (a.drop k.1) (b.drop k.2.1) = diffE a b ∧ k.2.2.2.length ≤ k.1 + k.2.1) (fun k => (a.length - k.1) + (b.length - k.2.1)) (0, 0, .slice none 0 0, []) ⟨⟨rfl, rfl, rfl, rfl, rfl, trivial⟩, Ent.refl _, Nat.zero_le _, Nat.zero_le _, rfl, Nat.zero_le _⟩ ?_
  rintro ⟨i, j, v, out⟩ env L ⟨hsub, hE, hi, hj, hD, hol⟩
  dsimp only at hsub hE hi hj hD hol
  refine swp_sub _ hsub ?_
  refine swp_ent hE ?_
  clear hsub hE env L
  refine swp_cut (fun env L => Sub env [(0, .slice Aa a.length ca), (1, .slice Ab b.length cb), (5, v), (6, .int .i64 (i : Nat)), (7, .int .i64 (j : Nat))] ∧ Ent L [own 104 3 v out.length (chs out), ro μ] ∧ (i < a.length ∨ j < b.length)) ?_ ?_
  · skip
    refine swp_seq ?_
    refine swp_region ?_
    refine s_pu (pu_move rfl) ?_
    refine s_pu (pu_move rfl) ?_
    refine s_pu (pu_len_row ha rfl) ?_
    refine s_pu (pu_lss rfl rfl) ?_
    refine s_pu (pu_move rfl) ?_
    refine s_split 12 rfl (fun h12 => ?_) (fun h12 => ?_)
    · skip   -- 12 T
      refine s_off rfl rfl rfl ?_
      refine s_off rfl rfl rfl ?_
      refine s_off rfl rfl rfl ?_
      refine s_off rfl rfl rfl ?_
      first | refine s_pu (pu_pick_t rfl rfl) ?_ | refine s_pu (pu_pick_f rfl rfl) ?_
      refine swl_sub _ (.cons (t := 0) rfl (.cons (t := 1) rfl (.cons (t := 5) rfl (.cons (t := 6) rfl (.cons (t := 7) rfl (.cons (t := 17) rfl .nil)))))) ?_
      refine swl_nil ?_
      refine then_n ?_
      refine swp_cond (b := _) rfl (fun h17 => ?_) (fun h17 => ?_)
      · skip   -- 17 T
        refine swp_skip ?_
        exact then_n ⟨⟨rfl, rfl, rfl, rfl, rfl, trivial⟩, Ent.refl _, by grind⟩
      · skip   -- 17 F
        refine swp_exit ?_
        refine then_x ?_
        refine then_x ?_
        refine block_hit rfl ?_
        refine then_n ?_
        refine swp_seq ?_
        refine swp_region ?_
        refine s_pu (pu_move rfl) ?_
        refine s_pu (pu_assign rfl) ?_
        refine swl_sub _ (.cons (t := 4) rfl .nil) ?_
        refine swl_nil ?_
        refine then_n ?_
        refine swp_ret ?_
        have h1 : i = a.length ∧ j = b.length := by grind
        rw [h1.1, h1.2, List.drop_length, List.drop_length, diff_nn, List.append_nil] at hD
        exact done_ret [own 104 3 v (diffE a b).length (chs (diffE a b)), ro μ] (.tmp rfl .nil) rfl (by rw [← hD]; exact (by repeat (first | exact Split.nil | (apply Split.cons; (repeat (first | with_reducible exact Take.here | apply Take.there))))))
    · skip   -- 12 F
      refine s_on rfl rfl ?_
      refine s_pu (pu_move rfl) ?_
      refine s_on rfl rfl ?_
      refine s_pu (pu_move rfl) ?_
      refine s_on rfl rfl ?_
      refine s_pu (pu_len_row hb rfl) ?_
      refine s_on rfl rfl ?_
      refine s_pu (pu_lss rfl rfl) ?_
      first | refine s_pu (pu_pick_t rfl rfl) ?_ | refine s_pu (pu_pick_f rfl rfl) ?_
      refine swl_sub _ (.cons (t := 0) rfl (.cons (t := 1) rfl (.cons (t := 5) rfl (.cons (t := 6) rfl (.cons (t := 7) rfl (.cons (t := 17) rfl .nil)))))) ?_
      refine swl_nil ?_
      refine then_n ?_
      refine swp_cond (b := _) rfl (fun h17 => ?_) (fun h17 => ?_)
      · skip   -- 17 T
        refine swp_skip ?_
        exact then_n ⟨⟨rfl, rfl, rfl, rfl, rfl, trivial⟩, Ent.refl _, by grind⟩
      · skip   -- 17 F
        refine swp_exit ?_
        refine then_x ?_
        refine then_x ?_
        refine block_hit rfl ?_
        refine then_n ?_
        refine swp_seq ?_
        refine swp_region ?_
        refine s_pu (pu_move rfl) ?_
        refine s_pu (pu_assign rfl) ?_
        refine swl_sub _ (.cons (t := 4) rfl .nil) ?_
        refine swl_nil ?_
        refine then_n ?_
        refine swp_ret ?_
        have h1 : i = a.length ∧ j = b.length := by grind
        rw [h1.1, h1.2, List.drop_length, List.drop_length, diff_nn, List.append_nil] at hD
        exact done_ret [own 104 3 v (diffE a b).length (chs (diffE a b)), ro μ] (.tmp rfl .nil) rfl (by rw [← hD]; exact (by repeat (first | exact Split.nil | (apply Split.cons; (repeat (first | with_reducible exact Take.here | apply Take.there))))))
  rintro env L ⟨hsub, hE, hij⟩
  refine swp_sub _ hsub ?_
  refine swp_ent hE ?_
  clear hsub hE env L
  refine swp_block ?_
  refine swp_block ?_
  refine swp_cut (fun env L => Sub env [(0, .slice Aa a.length ca), (1, .slice Ab b.length cb), (5, v), (6, .int .i64 (i : Nat)), (7, .int .i64 (j : Nat)), (52, .bool (c1E a[i]? b[j]?))] ∧ Ent L [own 104 3 v out.length (chs out), ro μ]) ?_ ?_
  · skip
    refine swp_draw [14, 19] _ [] (by simp only [List.append_nil]; exact Ent.refl _) (by kernel_rfl) ?_
    refine d_pu 0 rfl (pu_move rfl) (by kernel_rfl) (by kernel_rfl) (by kernel_rfl) ?_
    refine d_pu 1 rfl (pu_move rfl) (by kernel_rfl) (by kernel_rfl) (by kernel_rfl) ?_
    refine d_pu 2 rfl (pu_len_row hb rfl) (by kernel_rfl) (by kernel_rfl) (by kernel_rfl) ?_
    refine d_pu 3 rfl (pu_eql rfl rfl) (by kernel_rfl) (by kernel_rfl) (by kernel_rfl) ?_
    refine d_pu 4 rfl (pu_move rfl) (by kernel_rfl) (by kernel_rfl) (by kernel_rfl) ?_
    refine d_split 57 rfl (fun h57 => ?_) (fun h57 => ?_)
    · skip   -- 57 T
      refine d_off 5 rfl rfl rfl rfl (by kernel_rfl) (by kernel_rfl) (by kernel_rfl) ?_
      refine d_off 6 rfl rfl rfl rfl (by kernel_rfl) (by kernel_rfl) (by kernel_rfl) ?_
      refine d_off 7 rfl rfl rfl rfl (by kernel_rfl) (by kernel_rfl) (by kernel_rfl) ?_
      refine d_off 8 rfl rfl rfl rfl (by kernel_rfl) (by kernel_rfl) (by kernel_rfl) ?_
      refine d_off 9 rfl rfl rfl rfl (by kernel_rfl) (by kernel_rfl) (by kernel_rfl) ?_
      refine d_off 10 rfl rfl rfl rfl (by kernel_rfl) (by kernel_rfl) (by kernel_rfl) ?_
      refine d_off 11 rfl rfl rfl rfl (by kernel_rfl) (by kernel_rfl) (by kernel_rfl) ?_
      refine d_off 12 rfl rfl rfl rfl (by kernel_rfl) (by kernel_rfl) (by kernel_rfl) ?_
      refine d_off 13 rfl rfl rfl rfl (by kernel_rfl) (by kernel_rfl) (by kernel_rfl) ?_
      refine d_off 14 rfl rfl rfl rfl (by kernel_rfl) (by kernel_rfl) (by kernel_rfl) ?_
      refine d_off 15 rfl rfl rfl rfl (by kernel_rfl) (by kernel_rfl) (by kernel_rfl) ?_
      refine d_off 16 rfl rfl rfl rfl (by kernel_rfl) (by kernel_rfl) (by kernel_rfl) ?_
      refine d_off 17 rfl rfl rfl rfl (by kernel_rfl) (by kernel_rfl) (by kernel_rfl) ?_
      refine d_off 18 rfl rfl rfl rfl (by kernel_rfl) (by kernel_rfl) (by kernel_rfl) ?_
      refine d_off 19 rfl rfl rfl rfl (by kernel_rfl) (by kernel_rfl) (by kernel_rfl) ?_
      refine d_off 20 rfl rfl rfl rfl (by kernel_rfl) (by kernel_rfl) (by kernel_rfl) ?_
      refine d_off 21 rfl rfl rfl rfl (by kernel_rfl) (by kernel_rfl) (by kernel_rfl) ?_
      first | refine d_pu 22 rfl (pu_pick_t rfl rfl) (by kernel_rfl) (by kernel_rfl) (by kernel_rfl) ?_ | refine d_pu 22 rfl (pu_pick_f rfl rfl) (by kernel_rfl) (by kernel_rfl) (by kernel_rfl) ?_
      refine d_pu 23 rfl (pu_assign rfl) (by kernel_rfl) (by kernel_rfl) (by kernel_rfl) ?_
      refine d_sub _ (.cons (t := 0) rfl (.cons (t := 1) rfl (.cons (t := 5) rfl (.cons (t := 6) rfl (.cons (t := 7) rfl (.cons (t := 52) rfl .nil)))))) ?_
      first | refine d_nilt (by kernel_rfl) ?_ | refine d_nilf (by kernel_rfl) ?_
      have h57' : j = b.length := by have := of_decide_eq_true h57; omega
      refine then_n ⟨⟨rfl, rfl, rfl, rfl, rfl, ?_, trivial⟩, Ent.refl _⟩
      rw [List.getElem?_eq_none (l := b) (by omega), List.getElem?_eq_getElem (show i < a.length by omega)]; rfl
    · skip   -- 57 F
      have h57' : j < b.length := by have := of_decide_eq_false h57; omega
      obtain ⟨f, hf⟩ : ∃ f, b[j]? = some f := ⟨_, List.getElem?_eq_getElem h57'⟩
      obtain ⟨fb, fo, fc, hfv, _, hf0, hf1⟩ := tree_at hb hf
      refine d_pu_on 5 rfl rfl rfl (pu_move rfl) (by kernel_rfl) (by kernel_rfl) (by kernel_rfl) ?_
      refine d_pu_on 6 rfl rfl rfl (pu_move rfl) (by kernel_rfl) (by kernel_rfl) (by kernel_rfl) ?_
      refine d_pu_on 7 rfl rfl rfl (pu_len_row ha rfl) (by kernel_rfl) (by kernel_rfl) (by kernel_rfl) ?_
      refine d_pu_on 8 rfl rfl rfl (pu_lss rfl rfl) (by kernel_rfl) (by kernel_rfl) (by kernel_rfl) ?_
      refine d_pu_on 9 rfl rfl rfl (pu_move rfl) (by kernel_rfl) (by kernel_rfl) (by kernel_rfl) ?_
      refine d_split 62 rfl (fun h62 => ?_) (fun h62 => ?_)
      · skip   -- 62 T
        have h62' : i < a.length := by have := of_decide_eq_true h62; omega
        obtain ⟨e, he⟩ : ∃ e, a[i]? = some e := ⟨_, List.getElem?_eq_getElem h62'⟩
        obtain ⟨eb, eo, ec, hev, _, he0, he1⟩ := tree_at ha he
        refine d_pu_on 10 rfl rfl rfl (pu_move rfl) (by kernel_rfl) (by kernel_rfl) (by kernel_rfl) ?_
        refine d_pu_on 11 rfl rfl rfl (pu_move rfl) (by kernel_rfl) (by kernel_rfl) (by kernel_rfl) ?_
        refine d_pu_on 12 rfl rfl rfl (pu_indexAddr (eo + i * 2) (congrArg some hev) rfl (by omega) (by omega) (by rw [Int.toNat_natCast])) (by kernel_rfl) (by kernel_rfl) (by kernel_rfl) ?_
        first | refine d_pu_on 13 rfl rfl rfl (pu_fieldAddr0 rfl) (by kernel_rfl) (by kernel_rfl) (by kernel_rfl) ?_ | refine d_pu_on 13 rfl rfl rfl (pu_fieldAddr rfl) (by kernel_rfl) (by kernel_rfl) (by kernel_rfl) ?_
        refine d_rd_on 14 rfl rfl rfl (rd_ro rfl he0) rfl (by kernel_rfl) (by kernel_rfl) (by kernel_rfl) ?_
        refine d_pu_on 15 rfl rfl rfl (pu_move rfl) (by kernel_rfl) (by kernel_rfl) (by kernel_rfl) ?_
        refine d_pu_on 16 rfl rfl rfl (pu_move rfl) (by kernel_rfl) (by kernel_rfl) (by kernel_rfl) ?_
        refine d_pu_on 17 rfl rfl rfl (pu_indexAddr (fo + j * 2) (congrArg some hfv) rfl (by omega) (by omega) (by rw [Int.toNat_natCast])) (by kernel_rfl) (by kernel_rfl) (by kernel_rfl) ?_
        first | refine d_pu_on 18 rfl rfl rfl (pu_fieldAddr0 rfl) (by kernel_rfl) (by kernel_rfl) (by kernel_rfl) ?_ | refine d_pu_on 18 rfl rfl rfl (pu_fieldAddr rfl) (by kernel_rfl) (by kernel_rfl) (by kernel_rfl) ?_
        refine d_rd_on 19 rfl rfl rfl (rd_ro rfl hf0) rfl (by kernel_rfl) (by kernel_rfl) (by kernel_rfl) ?_
        refine d_pu_on 20 rfl rfl rfl (pu_str_lss rfl rfl) (by kernel_rfl) (by kernel_rfl) (by kernel_rfl) ?_
        first | refine d_pu_on 21 rfl rfl rfl (pu_pick_t rfl rfl) (by kernel_rfl) (by kernel_rfl) (by kernel_rfl) ?_ | refine d_pu_on 21 rfl rfl rfl (pu_pick_f rfl rfl) (by kernel_rfl) (by kernel_rfl) (by kernel_rfl) ?_
        first | refine d_pu 22 rfl (pu_pick_t rfl rfl) (by kernel_rfl) (by kernel_rfl) (by kernel_rfl) ?_ | refine d_pu 22 rfl (pu_pick_f rfl rfl) (by kernel_rfl) (by kernel_rfl) (by kernel_rfl) ?_
        refine d_pu 23 rfl (pu_assign rfl) (by kernel_rfl) (by kernel_rfl) (by kernel_rfl) ?_
        refine d_sub _ (.cons (t := 0) rfl (.cons (t := 1) rfl (.cons (t := 5) rfl (.cons (t := 6) rfl (.cons (t := 7) rfl (.cons (t := 52) rfl .nil)))))) ?_
        first | refine d_nilt (by kernel_rfl) ?_ | refine d_nilf (by kernel_rfl) ?_
        refine then_n ⟨⟨rfl, rfl, rfl, rfl, rfl, ?_, trivial⟩, Ent.refl _⟩
        rw [he, hf]; rfl
      · skip   -- 62 F
        refine d_off 10 rfl rfl rfl rfl (by kernel_rfl) (by kernel_rfl) (by kernel_rfl) ?_
        refine d_off 11 rfl rfl rfl rfl (by kernel_rfl) (by kernel_rfl) (by kernel_rfl) ?_
        refine d_off 12 rfl rfl rfl rfl (by kernel_rfl) (by kernel_rfl) (by kernel_rfl) ?_
        refine d_off 13 rfl rfl rfl rfl (by kernel_rfl) (by kernel_rfl) (by kernel_rfl) ?_
        refine d_off 14 rfl rfl rfl rfl (by kernel_rfl) (by kernel_rfl) (by kernel_rfl) ?_
        refine d_off 15 rfl rfl rfl rfl (by kernel_rfl) (by kernel_rfl) (by kernel_rfl) ?_
        refine d_off 16 rfl rfl rfl rfl (by kernel_rfl) (by kernel_rfl) (by kernel_rfl) ?_
        refine d_off 17 rfl rfl rfl rfl (by kernel_rfl) (by kernel_rfl) (by kernel_rfl) ?_
        refine d_off 18 rfl rfl rfl rfl (by kernel_rfl) (by kernel_rfl) (by kernel_rfl) ?_
        refine d_off 19 rfl rfl rfl rfl (by kernel_rfl) (by kernel_rfl) (by kernel_rfl) ?_
        refine d_off 20 rfl rfl rfl rfl (by kernel_rfl) (by kernel_rfl) (by kernel_rfl) ?_
        first | refine d_pu_on 21 rfl rfl rfl (pu_pick_t rfl rfl) (by kernel_rfl) (by kernel_rfl) (by kernel_rfl) ?_ | refine d_pu_on 21 rfl rfl rfl (pu_pick_f rfl rfl) (by kernel_rfl) (by kernel_rfl) (by kernel_rfl) ?_
        first | refine d_pu 22 rfl (pu_pick_t rfl rfl) (by kernel_rfl) (by kernel_rfl) (by kernel_rfl) ?_ | refine d_pu 22 rfl (pu_pick_f rfl rfl) (by kernel_rfl) (by kernel_rfl) (by kernel_rfl) ?_
        refine d_pu 23 rfl (pu_assign rfl) (by kernel_rfl) (by kernel_rfl) (by kernel_rfl) ?_
        refine d_sub _ (.cons (t := 0) rfl (.cons (t := 1) rfl (.cons (t := 5) rfl (.cons (t := 6) rfl (.cons (t := 7) rfl (.cons (t := 52) rfl .nil)))))) ?_
        first | refine d_nilt (by kernel_rfl) ?_ | refine d_nilf (by kernel_rfl) ?_
        refine then_n ⟨⟨rfl, rfl, rfl, rfl, rfl, ?_, trivial⟩, Ent.refl _⟩
        rw [List.getElem?_eq_none (l := a) (by have := of_decide_eq_false h62; omega)]; rfl
  rintro env L ⟨hsub, hE⟩
  refine swp_sub _ hsub ?_
  refine swp_ent hE ?_
  clear hsub hE env L
  refine swp_cond (b := _) rfl (fun h52 => ?_) (fun h52 => ?_)
  · skip   -- 52 T
    obtain ⟨e, he, hlt⟩ : ∃ e, a[i]? = some e ∧ ∀ f, b[j]? = some f → strLt e.1 f.1 = true := by
      unfold c1E at h52
      cases hx : a[i]? with
      | none => rw [hx] at h52; cases h52
      | some e => exact ⟨e, rfl, fun f hf => by rw [hx, hf] at h52; exact h52⟩
    have hil := (List.getElem?_eq_some_iff.1 he).1
    obtain ⟨eb, eo, ec, hev, _, he0, he1⟩ := tree_at ha he
    have hd1 : diffE (a.drop i) (b.drop j) = (e.1, e.2, 0) :: diffE (a.drop (i + 1)) (b.drop j) := by rw [drop_cons he]; exact diff_a e _ _ fun f r h => hlt f (drop_head h)
    refine swp_seq ?_
    refine swp_draw [5, 10] _ [] (by simp only [List.append_nil]; exact Ent.refl _) (by kernel_rfl) ?_
    refine d_pu 0 rfl (pu_move rfl) (by kernel_rfl) (by kernel_rfl) (by kernel_rfl) ?_
    refine d_pu 1 rfl (pu_move rfl) (by kernel_rfl) (by kernel_rfl) (by kernel_rfl) ?_
    refine d_pu 2 rfl (pu_move rfl) (by kernel_rfl) (by kernel_rfl) (by kernel_rfl) ?_
    refine d_pu 3 rfl (pu_indexAddr (eo + i * 2) (congrArg some hev) rfl (by omega) (by omega) (by rw [Int.toNat_natCast])) (by kernel_rfl) (by kernel_rfl) (by kernel_rfl) ?_
    first | refine d_pu 4 rfl (pu_fieldAddr0 rfl) (by kernel_rfl) (by kernel_rfl) (by kernel_rfl) ?_ | refine d_pu 4 rfl (pu_fieldAddr rfl) (by kernel_rfl) (by kernel_rfl) (by kernel_rfl) ?_
    refine d_rd 5 rfl (rd_ro rfl he0) rfl (by kernel_rfl) (by kernel_rfl) (by kernel_rfl) ?_
    refine d_pu 6 rfl (pu_move rfl) (by kernel_rfl) (by kernel_rfl) (by kernel_rfl) ?_
    refine d_pu 7 rfl (pu_move rfl) (by kernel_rfl) (by kernel_rfl) (by kernel_rfl) ?_
    refine d_pu 8 rfl (pu_indexAddr (eo + i * 2) (congrArg some hev) rfl (by omega) (by omega) (by rw [Int.toNat_natCast])) (by kernel_rfl) (by kernel_rfl) (by kernel_rfl) ?_
    first | refine d_pu 9 rfl (pu_fieldAddr0 rfl) (by kernel_rfl) (by kernel_rfl) (by kernel_rfl) ?_ | refine d_pu 9 rfl (pu_fieldAddr rfl) (by kernel_rfl) (by kernel_rfl) (by kernel_rfl) ?_
    refine d_rd 10 rfl (rd_ro rfl he1) rfl (by kernel_rfl) (by kernel_rfl) (by kernel_rfl) ?_
    refine d_pu 11 rfl (pu_bld (qs := [(0, _), (1, _)]) rfl) (by kernel_rfl) (by kernel_rfl) (by kernel_rfl) ?_
    first | refine d_fint 12 rfl (by kernel_rfl) (by kernel_rfl) (ef_bldS (qs := [(0, _)]) rfl rfl rfl) ?_ | refine d_finf 12 rfl (by kernel_rfl) (by kernel_rfl) (ef_bldS (qs := [(0, _)]) rfl rfl rfl) ?_
    intro b88
    first | refine d_fint 13 rfl (by kernel_rfl) (by kernel_rfl) (ef_append_lit (l := out.length) (m := 1) rfl rfl (by repeat (first | exact Split.nil | (apply Split.cons; (repeat (first | with_reducible exact Take.here | apply Take.there))))) (by simp only [maxLen]; omega) (by omega)) ?_ | refine d_finf 13 rfl (by kernel_rfl) (by kernel_rfl) (ef_append_lit (l := out.length) (m := 1) rfl rfl (by repeat (first | exact Split.nil | (apply Split.cons; (repeat (first | with_reducible exact Take.here | apply Take.there))))) (by simp only [maxLen]; omega) (by omega)) ?_
    rintro v89 -
    skip
    refine d_pu 14 rfl (pu_assign rfl) (by kernel_rfl) (by kernel_rfl) (by kernel_rfl) ?_
    refine d_sub _ (.cons (t := 0) rfl (.cons (t := 1) rfl (.cons (t := 5) rfl (.cons (t := 6) rfl (.cons (t := 7) rfl .nil))))) ?_
    first | refine d_nilt (by kernel_rfl) ?_ | refine d_nilf (by kernel_rfl) ?_
    refine then_n ?_
    refine swp_region ?_
    refine s_pu (pu_move rfl) ?_
    refine s_pu (pu_add_as ((i + 1 : Nat) : Int) rfl rfl (by omega) (by omega) (by omega)) ?_
    refine s_pu (pu_assign rfl) ?_
    refine swl_sub _ (.cons (t := 0) rfl (.cons (t := 1) rfl (.cons (t := 5) rfl (.cons (t := 6) rfl (.cons (t := 7) rfl .nil))))) ?_
    refine swl_nil ?_
    refine block_n ?_
    refine block_n ?_
    refine then_n ⟨(i + 1, j, v89, out ++ [(e.1, e.2, 0)]), ⟨⟨rfl, rfl, rfl, rfl, rfl, trivial⟩, ?_, hil, hj, by rw [List.append_assoc, ← hD, hd1]; rfl, by rw [List.length_append]; show out.length + 1 ≤ i + 1 + j; omega⟩, by show (a.length - (i + 1)) + (b.length - j) < (a.length - i) + (b.length - j); omega⟩
    show Ent _ [own 104 3 v89 (out ++ [(e.1, e.2, 0)]).length (chs (out ++ [(e.1, e.2, 0)])), ro μ]
    rw [chs_app, List.length_append]
    show Ent _ [own 104 3 v89 (out.length + 1) (chs out ++ [.string e.1, .int .u32 e.2, .int .u32 0]), ro μ]
    exact Split.ent' (by repeat (first | exact Split.nil | (apply Split.cons; (repeat (first | with_reducible exact Take.here | apply Take.there)))))
  · skip   -- 52 F
    obtain ⟨f, hf, hge⟩ : ∃ f, b[j]? = some f ∧ ∀ e, a[i]? = some e → strLt e.1 f.1 = false := by
      unfold c1E at h52
      cases hy : b[j]? with
      | none =>
        have : b.length ≤ j := List.getElem?_eq_none_iff.1 hy
        have hi' : i < a.length := by omega
        rw [hy, List.getElem?_eq_getElem hi'] at h52; cases h52
      | some f => exact ⟨f, rfl, fun e he => by rw [he, hy] at h52; exact h52⟩
    have hjl := (List.getElem?_eq_some_iff.1 hf).1
    obtain ⟨fb, fo, fc, hfv, _, hf0, hf1⟩ := tree_at hb hf
    refine swp_cut (fun env L => Sub env [(0, .slice Aa a.length ca), (1, .slice Ab b.length cb), (5, v), (6, .int .i64 (i : Nat)), (7, .int .i64 (j : Nat)), (92, .bool (c2E a[i]? f))] ∧ Ent L [own 104 3 v out.length (chs out), ro μ]) ?_ ?_
    · skip
      refine swp_draw [9, 14] _ [] (by simp only [List.append_nil]; exact Ent.refl _) (by kernel_rfl) ?_
      refine d_pu 0 rfl (pu_move rfl) (by kernel_rfl) (by kernel_rfl) (by kernel_rfl) ?_
      refine d_pu 1 rfl (pu_move rfl) (by kernel_rfl) (by kernel_rfl) (by kernel_rfl) ?_
      refine d_pu 2 rfl (pu_len_row ha rfl) (by kernel_rfl) (by kernel_rfl) (by kernel_rfl) ?_
      refine d_pu 3 rfl (pu_eql rfl rfl) (by kernel_rfl) (by kernel_rfl) (by kernel_rfl) ?_
      refine d_pu 4 rfl (pu_move rfl) (by kernel_rfl) (by kernel_rfl) (by kernel_rfl) ?_
      refine d_split 97 rfl (fun h97 => ?_) (fun h97 => ?_)
      · skip   -- 97 T
        refine d_off 5 rfl rfl rfl rfl (by kernel_rfl) (by kernel_rfl) (by kernel_rfl) ?_
        refine d_off 6 rfl rfl rfl rfl (by kernel_rfl) (by kernel_rfl) (by kernel_rfl) ?_
        refine d_off 7 rfl rfl rfl rfl (by kernel_rfl) (by kernel_rfl) (by kernel_rfl) ?_
        refine d_off 8 rfl rfl rfl rfl (by kernel_rfl) (by kernel_rfl) (by kernel_rfl) ?_
        refine d_off 9 rfl rfl rfl rfl (by kernel_rfl) (by kernel_rfl) (by kernel_rfl) ?_
        refine d_off 10 rfl rfl rfl rfl (by kernel_rfl) (by kernel_rfl) (by kernel_rfl) ?_
        refine d_off 11 rfl rfl rfl rfl (by kernel_rfl) (by kernel_rfl) (by kernel_rfl) ?_
        refine d_off 12 rfl rfl rfl rfl (by kernel_rfl) (by kernel_rfl) (by kernel_rfl) ?_
        refine d_off 13 rfl rfl rfl rfl (by kernel_rfl) (by kernel_rfl) (by kernel_rfl) ?_
        refine d_off 14 rfl rfl rfl rfl (by kernel_rfl) (by kernel_rfl) (by kernel_rfl) ?_
        refine d_off 15 rfl rfl rfl rfl (by kernel_rfl) (by kernel_rfl) (by kernel_rfl) ?_
        first | refine d_pu 16 rfl (pu_pick_t rfl rfl) (by kernel_rfl) (by kernel_rfl) (by kernel_rfl) ?_ | refine d_pu 16 rfl (pu_pick_f rfl rfl) (by kernel_rfl) (by kernel_rfl) (by kernel_rfl) ?_
        refine d_pu 17 rfl (pu_assign rfl) (by kernel_rfl) (by kernel_rfl) (by kernel_rfl) ?_
        refine d_sub _ (.cons (t := 0) rfl (.cons (t := 1) rfl (.cons (t := 5) rfl (.cons (t := 6) rfl (.cons (t := 7) rfl (.cons (t := 92) rfl .nil)))))) ?_
        first | refine d_nilt (by kernel_rfl) ?_ | refine d_nilf (by kernel_rfl) ?_
        refine then_n ⟨⟨rfl, rfl, rfl, rfl, rfl, ?_, trivial⟩, Ent.refl _⟩
        rw [List.getElem?_eq_none (l := a) (by have := of_decide_eq_true h97; omega)]; rfl
      · skip   -- 97 F
        have h97' : i < a.length := by have := of_decide_eq_false h97; omega
        obtain ⟨e, he⟩ : ∃ e, a[i]? = some e := ⟨_, List.getElem?_eq_getElem h97'⟩
        obtain ⟨eb, eo, ec, hev, _, he0, he1⟩ := tree_at ha he
        refine d_pu_on 5 rfl rfl rfl (pu_move rfl) (by kernel_rfl) (by kernel_rfl) (by kernel_rfl) ?_
        refine d_pu_on 6 rfl rfl rfl (pu_move rfl) (by kernel_rfl) (by kernel_rfl) (by kernel_rfl) ?_
        refine d_pu_on 7 rfl rfl rfl (pu_indexAddr (fo + j * 2) (congrArg some hfv) rfl (by omega) (by omega) (by rw [Int.toNat_natCast])) (by kernel_rfl) (by kernel_rfl) (by kernel_rfl) ?_
        first | refine d_pu_on 8 rfl rfl rfl (pu_fieldAddr0 rfl) (by kernel_rfl) (by kernel_rfl) (by kernel_rfl) ?_ | refine d_pu_on 8 rfl rfl rfl (pu_fieldAddr rfl) (by kernel_rfl) (by kernel_rfl) (by kernel_rfl) ?_
        refine d_rd_on 9 rfl rfl rfl (rd_ro rfl hf0) rfl (by kernel_rfl) (by kernel_rfl) (by kernel_rfl) ?_
        refine d_pu_on 10 rfl rfl rfl (pu_move rfl) (by kernel_rfl) (by kernel_rfl) (by kernel_rfl) ?_
        refine d_pu_on 11 rfl rfl rfl (pu_move rfl) (by kernel_rfl) (by kernel_rfl) (by kernel_rfl) ?_
        refine d_pu_on 12 rfl rfl rfl (pu_indexAddr (eo + i * 2) (congrArg some hev) rfl (by omega) (by omega) (by rw [Int.toNat_natCast])) (by kernel_rfl) (by kernel_rfl) (by kernel_rfl) ?_
        first | refine d_pu_on 13 rfl rfl rfl (pu_fieldAddr0 rfl) (by kernel_rfl) (by kernel_rfl) (by kernel_rfl) ?_ | refine d_pu_on 13 rfl rfl rfl (pu_fieldAddr rfl) (by kernel_rfl) (by kernel_rfl) (by kernel_rfl) ?_
        refine d_rd_on 14 rfl rfl rfl (rd_ro rfl he0) rfl (by kernel_rfl) (by kernel_rfl) (by kernel_rfl) ?_
        refine d_pu_on 15 rfl rfl rfl (pu_str_lss rfl rfl) (by kernel_rfl) (by kernel_rfl) (by kernel_rfl) ?_
        first | refine d_pu 16 rfl (pu_pick_t rfl rfl) (by kernel_rfl) (by kernel_rfl) (by kernel_rfl) ?_ | refine d_pu 16 rfl (pu_pick_f rfl rfl) (by kernel_rfl) (by kernel_rfl) (by kernel_rfl) ?_
        refine d_pu 17 rfl (pu_assign rfl) (by kernel_rfl) (by kernel_rfl) (by kernel_rfl) ?_
        refine d_sub _ (.cons (t := 0) rfl (.cons (t := 1) rfl (.cons (t := 5) rfl (.cons (t := 6) rfl (.cons (t := 7) rfl (.cons (t := 92) rfl .nil)))))) ?_
        first | refine d_nilt (by kernel_rfl) ?_ | refine d_nilf (by kernel_rfl) ?_
        refine then_n ⟨⟨rfl, rfl, rfl, rfl, rfl, ?_, trivial⟩, Ent.refl _⟩
        rw [he]; rfl
    rintro env L ⟨hsub, hE⟩
    refine swp_sub _ hsub ?_
    refine swp_ent hE ?_
    clear hsub hE env L
    refine swp_cond (b := _) rfl (fun h92 => ?_) (fun h92 => ?_)
    · skip   -- 92 T
      have hd2 : diffE (a.drop i) (b.drop j) = (f.1, 0, f.2) :: diffE (a.drop i) (b.drop (j + 1)) := by
        rw [drop_cons hf]; exact diff_b f _ _ fun e r h => by
          have he := drop_head h
          rw [he] at h92; exact h92
      refine swp_seq ?_
      refine swp_draw [5, 10] _ [] (by simp only [List.append_nil]; exact Ent.refl _) (by kernel_rfl) ?_
      refine d_pu 0 rfl (pu_move rfl) (by kernel_rfl) (by kernel_rfl) (by kernel_rfl) ?_
      refine d_pu 1 rfl (pu_move rfl) (by kernel_rfl) (by kernel_rfl) (by kernel_rfl) ?_
      refine d_pu 2 rfl (pu_move rfl) (by kernel_rfl) (by kernel_rfl) (by kernel_rfl) ?_
      refine d_pu 3 rfl (pu_indexAddr (fo + j * 2) (congrArg some hfv) rfl (by omega) (by omega) (by rw [Int.toNat_natCast])) (by kernel_rfl) (by kernel_rfl) (by kernel_rfl) ?_
      first | refine d_pu 4 rfl (pu_fieldAddr0 rfl) (by kernel_rfl) (by kernel_rfl) (by kernel_rfl) ?_ | refine d_pu 4 rfl (pu_fieldAddr rfl) (by kernel_rfl) (by kernel_rfl) (by kernel_rfl) ?_
      refine d_rd 5 rfl (rd_ro rfl hf0) rfl (by kernel_rfl) (by kernel_rfl) (by kernel_rfl) ?_
      refine d_pu 6 rfl (pu_move rfl) (by kernel_rfl) (by kernel_rfl) (by kernel_rfl) ?_
      refine d_pu 7 rfl (pu_move rfl) (by kernel_rfl) (by kernel_rfl) (by kernel_rfl) ?_
      refine d_pu 8 rfl (pu_indexAddr (fo + j * 2) (congrArg some hfv) rfl (by omega) (by omega) (by rw [Int.toNat_natCast])) (by kernel_rfl) (by kernel_rfl) (by kernel_rfl) ?_
      first | refine d_pu 9 rfl (pu_fieldAddr0 rfl) (by kernel_rfl) (by kernel_rfl) (by kernel_rfl) ?_ | refine d_pu 9 rfl (pu_fieldAddr rfl) (by kernel_rfl) (by kernel_rfl) (by kernel_rfl) ?_
      refine d_rd 10 rfl (rd_ro rfl hf1) rfl (by kernel_rfl) (by kernel_rfl) (by kernel_rfl) ?_
      refine d_pu 11 rfl (pu_bld (qs := [(0, _), (2, _)]) rfl) (by kernel_rfl) (by kernel_rfl) (by kernel_rfl) ?_
      first | refine d_fint 12 rfl (by kernel_rfl) (by kernel_rfl) (ef_bldS (qs := [(0, _)]) rfl rfl rfl) ?_ | refine d_finf 12 rfl (by kernel_rfl) (by kernel_rfl) (ef_bldS (qs := [(0, _)]) rfl rfl rfl) ?_
      intro b122
      first | refine d_fint 13 rfl (by kernel_rfl) (by kernel_rfl) (ef_append_lit (l := out.length) (m := 1) rfl rfl (by repeat (first | exact Split.nil | (apply Split.cons; (repeat (first | with_reducible exact Take.here | apply Take.there))))) (by simp only [maxLen]; omega) (by omega)) ?_ | refine d_finf 13 rfl (by kernel_rfl) (by kernel_rfl) (ef_append_lit (l := out.length) (m := 1) rfl rfl (by repeat (first | exact Split.nil | (apply Split.cons; (repeat (first | with_reducible exact Take.here | apply Take.there))))) (by simp only [maxLen]; omega) (by omega)) ?_
      rintro v123 -
      skip
      refine d_pu 14 rfl (pu_assign rfl) (by kernel_rfl) (by kernel_rfl) (by kernel_rfl) ?_
      refine d_sub _ (.cons (t := 0) rfl (.cons (t := 1) rfl (.cons (t := 5) rfl (.cons (t := 6) rfl (.cons (t := 7) rfl .nil))))) ?_
      first | refine d_nilt (by kernel_rfl) ?_ | refine d_nilf (by kernel_rfl) ?_
      refine then_n ?_
      refine swp_region ?_
      refine s_pu (pu_move rfl) ?_
      refine s_pu (pu_add_as ((j + 1 : Nat) : Int) rfl rfl (by omega) (by omega) (by omega)) ?_
      refine s_pu (pu_assign rfl) ?_
      refine swl_sub _ (.cons (t := 0) rfl (.cons (t := 1) rfl (.cons (t := 5) rfl (.cons (t := 6) rfl (.cons (t := 7) rfl .nil))))) ?_
      refine swl_nil ?_
      refine block_n ?_
      refine block_n ?_
      refine then_n ⟨(i, j + 1, v123, out ++ [(f.1, 0, f.2)]), ⟨⟨rfl, rfl, rfl, rfl, rfl, trivial⟩, ?_, hi, hjl, by rw [List.append_assoc, ← hD, hd2]; rfl, by rw [List.length_append]; show out.length + 1 ≤ i + (j + 1); omega⟩, by show (a.length - i) + (b.length - (j + 1)) < (a.length - i) + (b.length - j); omega⟩
      show Ent _ [own 104 3 v123 (out ++ [(f.1, 0, f.2)]).length (chs (out ++ [(f.1, 0, f.2)])), ro μ]
      rw [chs_app, List.length_append]
      show Ent _ [own 104 3 v123 (out.length + 1) (chs out ++ [.string f.1, .int .u32 0, .int .u32 f.2]), ro μ]
      exact Split.ent' (by repeat (first | exact Split.nil | (apply Split.cons; (repeat (first | with_reducible exact Take.here | apply Take.there)))))
    · skip   -- 92 F
      obtain ⟨e, he, hef⟩ : ∃ e, a[i]? = some e ∧ e.1 = f.1 := by
        unfold c2E at h92
        cases hx : a[i]? with
        | none => rw [hx] at h92; cases h92
        | some e =>
          rw [hx] at h92
          refine ⟨e, rfl, ?_⟩
          have h1 := hge e hx
          rcases strLt_total e.1 f.1 with k | k | k
          · rw [k] at h1; cases h1
          · exact k
          · simp only at h92; rw [k] at h92; cases h92
      have hil := (List.getElem?_eq_some_iff.1 he).1
      obtain ⟨eb, eo, ec, hev, _, he0, he1⟩ := tree_at ha he
      have hd3 : diffE (a.drop i) (b.drop j) = (if e.2 = f.2 then [] else [(e.1, e.2, f.2)]) ++ diffE (a.drop (i + 1)) (b.drop (j + 1)) := by rw [drop_cons he, drop_cons hf]; exact diff_ab e f _ _ hef
      refine swp_seq ?_
      refine swp_seq ?_
      refine swp_draw [4, 9] _ [] (by simp only [List.append_nil]; exact Ent.refl _) (by kernel_rfl) ?_
      refine d_pu 0 rfl (pu_move rfl) (by kernel_rfl) (by kernel_rfl) (by kernel_rfl) ?_
      refine d_pu 1 rfl (pu_move rfl) (by kernel_rfl) (by kernel_rfl) (by kernel_rfl) ?_
      refine d_pu 2 rfl (pu_indexAddr (eo + i * 2) (congrArg some hev) rfl (by omega) (by omega) (by rw [Int.toNat_natCast])) (by kernel_rfl) (by kernel_rfl) (by kernel_rfl) ?_
      first | refine d_pu 3 rfl (pu_fieldAddr0 rfl) (by kernel_rfl) (by kernel_rfl) (by kernel_rfl) ?_ | refine d_pu 3 rfl (pu_fieldAddr rfl) (by kernel_rfl) (by kernel_rfl) (by kernel_rfl) ?_
      refine d_rd 4 rfl (rd_ro rfl he1) rfl (by kernel_rfl) (by kernel_rfl) (by kernel_rfl) ?_
      refine d_pu 5 rfl (pu_move rfl) (by kernel_rfl) (by kernel_rfl) (by kernel_rfl) ?_
      refine d_pu 6 rfl (pu_move rfl) (by kernel_rfl) (by kernel_rfl) (by kernel_rfl) ?_
      refine d_pu 7 rfl (pu_indexAddr (fo + j * 2) (congrArg some hfv) rfl (by omega) (by omega) (by rw [Int.toNat_natCast])) (by kernel_rfl) (by kernel_rfl) (by kernel_rfl) ?_
      first | refine d_pu 8 rfl (pu_fieldAddr0 rfl) (by kernel_rfl) (by kernel_rfl) (by kernel_rfl) ?_ | refine d_pu 8 rfl (pu_fieldAddr rfl) (by kernel_rfl) (by kernel_rfl) (by kernel_rfl) ?_
      refine d_rd 9 rfl (rd_ro rfl hf1) rfl (by kernel_rfl) (by kernel_rfl) (by kernel_rfl) ?_
      refine d_pu 10 rfl (pu_neq rfl rfl) (by kernel_rfl) (by kernel_rfl) (by kernel_rfl) ?_
      refine d_sub _ (.cons (t := 0) rfl (.cons (t := 1) rfl (.cons (t := 5) rfl (.cons (t := 6) rfl (.cons (t := 7) rfl (.cons (t := 28) rfl .nil)))))) ?_
      first | refine d_nilt (by kernel_rfl) ?_ | refine d_nilf (by kernel_rfl) ?_
      refine then_n ?_
      refine swp_cond (b := _) rfl (fun h28 => ?_) (fun h28 => ?_)
      · skip   -- 28 T
        refine swp_draw [5, 10, 15] _ [] (by simp only [List.append_nil]; exact Ent.refl _) (by kernel_rfl) ?_
        refine d_pu 0 rfl (pu_move rfl) (by kernel_rfl) (by kernel_rfl) (by kernel_rfl) ?_
        refine d_pu 1 rfl (pu_move rfl) (by kernel_rfl) (by kernel_rfl) (by kernel_rfl) ?_
        refine d_pu 2 rfl (pu_move rfl) (by kernel_rfl) (by kernel_rfl) (by kernel_rfl) ?_
        refine d_pu 3 rfl (pu_indexAddr (eo + i * 2) (congrArg some hev) rfl (by omega) (by omega) (by rw [Int.toNat_natCast])) (by kernel_rfl) (by kernel_rfl) (by kernel_rfl) ?_
        first | refine d_pu 4 rfl (pu_fieldAddr0 rfl) (by kernel_rfl) (by kernel_rfl) (by kernel_rfl) ?_ | refine d_pu 4 rfl (pu_fieldAddr rfl) (by kernel_rfl) (by kernel_rfl) (by kernel_rfl) ?_
        refine d_rd 5 rfl (rd_ro rfl he0) rfl (by kernel_rfl) (by kernel_rfl) (by kernel_rfl) ?_
        refine d_pu 6 rfl (pu_move rfl) (by kernel_rfl) (by kernel_rfl) (by kernel_rfl) ?_
        refine d_pu 7 rfl (pu_move rfl) (by kernel_rfl) (by kernel_rfl) (by kernel_rfl) ?_
        refine d_pu 8 rfl (pu_indexAddr (eo + i * 2) (congrArg some hev) rfl (by omega) (by omega) (by rw [Int.toNat_natCast])) (by kernel_rfl) (by kernel_rfl) (by kernel_rfl) ?_
        first | refine d_pu 9 rfl (pu_fieldAddr0 rfl) (by kernel_rfl) (by kernel_rfl) (by kernel_rfl) ?_ | refine d_pu 9 rfl (pu_fieldAddr rfl) (by kernel_rfl) (by kernel_rfl) (by kernel_rfl) ?_
        refine d_rd 10 rfl (rd_ro rfl he1) rfl (by kernel_rfl) (by kernel_rfl) (by kernel_rfl) ?_
        refine d_pu 11 rfl (pu_move rfl) (by kernel_rfl) (by kernel_rfl) (by kernel_rfl) ?_
        refine d_pu 12 rfl (pu_move rfl) (by kernel_rfl) (by kernel_rfl) (by kernel_rfl) ?_
        refine d_pu 13 rfl (pu_indexAddr (fo + j * 2) (congrArg some hfv) rfl (by omega) (by omega) (by rw [Int.toNat_natCast])) (by kernel_rfl) (by kernel_rfl) (by kernel_rfl) ?_
        first | refine d_pu 14 rfl (pu_fieldAddr0 rfl) (by kernel_rfl) (by kernel_rfl) (by kernel_rfl) ?_ | refine d_pu 14 rfl (pu_fieldAddr rfl) (by kernel_rfl) (by kernel_rfl) (by kernel_rfl) ?_
        refine d_rd 15 rfl (rd_ro rfl hf1) rfl (by kernel_rfl) (by kernel_rfl) (by kernel_rfl) ?_
        refine d_pu 16 rfl (pu_bld (qs := [(0, _), (1, _), (2, _)]) rfl) (by kernel_rfl) (by kernel_rfl) (by kernel_rfl) ?_
        first | refine d_fint 17 rfl (by kernel_rfl) (by kernel_rfl) (ef_bldS (qs := [(0, _)]) rfl rfl rfl) ?_ | refine d_finf 17 rfl (by kernel_rfl) (by kernel_rfl) (ef_bldS (qs := [(0, _)]) rfl rfl rfl) ?_
        intro b46
        first | refine d_fint 18 rfl (by kernel_rfl) (by kernel_rfl) (ef_append_lit (l := out.length) (m := 1) rfl rfl (by repeat (first | exact Split.nil | (apply Split.cons; (repeat (first | with_reducible exact Take.here | apply Take.there))))) (by simp only [maxLen]; omega) (by omega)) ?_ | refine d_finf 18 rfl (by kernel_rfl) (by kernel_rfl) (ef_append_lit (l := out.length) (m := 1) rfl rfl (by repeat (first | exact Split.nil | (apply Split.cons; (repeat (first | with_reducible exact Take.here | apply Take.there))))) (by simp only [maxLen]; omega) (by omega)) ?_
        rintro v47 -
        skip
        refine d_pu 19 rfl (pu_assign rfl) (by kernel_rfl) (by kernel_rfl) (by kernel_rfl) ?_
        refine d_sub _ (.cons (t := 0) rfl (.cons (t := 1) rfl (.cons (t := 5) rfl (.cons (t := 6) rfl (.cons (t := 7) rfl .nil))))) ?_
        first | refine d_nilt (by kernel_rfl) ?_ | refine d_nilf (by kernel_rfl) ?_
        refine then_n ?_
        refine swp_seq ?_
        refine swp_region ?_
        refine s_pu (pu_move rfl) ?_
        refine s_pu (pu_add_as ((i + 1 : Nat) : Int) rfl rfl (by omega) (by omega) (by omega)) ?_
        refine s_pu (pu_assign rfl) ?_
        refine swl_sub _ (.cons (t := 0) rfl (.cons (t := 1) rfl (.cons (t := 5) rfl (.cons (t := 6) rfl (.cons (t := 7) rfl .nil))))) ?_
        refine swl_nil ?_
        refine then_n ?_
        refine swp_region ?_
        refine s_pu (pu_move rfl) ?_
        refine s_pu (pu_add_as ((j + 1 : Nat) : Int) rfl rfl (by omega) (by omega) (by omega)) ?_
        refine s_pu (pu_assign rfl) ?_
        refine swl_sub _ (.cons (t := 0) rfl (.cons (t := 1) rfl (.cons (t := 5) rfl (.cons (t := 6) rfl (.cons (t := 7) rfl .nil))))) ?_
        refine swl_nil ?_
        refine block_n ?_
        refine block_n ?_
        have hne : ¬ e.2 = f.2 := by simpa using h28
        rw [if_neg hne] at hd3
        refine then_n ⟨(i + 1, j + 1, v47, out ++ [(e.1, e.2, f.2)]), ⟨⟨rfl, rfl, rfl, rfl, rfl, trivial⟩, ?_, hil, hjl, by rw [List.append_assoc, ← hD, hd3], by rw [List.length_append]; show out.length + 1 ≤ i + 1 + (j + 1); omega⟩, by show (a.length - (i + 1)) + (b.length - (j + 1)) < (a.length - i) + (b.length - j); omega⟩
        show Ent _ [own 104 3 v47 (out ++ [(e.1, e.2, f.2)]).length (chs (out ++ [(e.1, e.2, f.2)])), ro μ]
        rw [chs_app, List.length_append]
        show Ent _ [own 104 3 v47 (out.length + 1) (chs out ++ [.string e.1, .int .u32 e.2, .int .u32 f.2]), ro μ]
        exact Split.ent' (by repeat (first | exact Split.nil | (apply Split.cons; (repeat (first | with_reducible exact Take.here | apply Take.there)))))
      · skip   -- 28 F
        refine swp_skip ?_
        refine then_n ?_
        refine swp_seq ?_
        refine swp_region ?_
        refine s_pu (pu_move rfl) ?_
        refine s_pu (pu_add_as ((i + 1 : Nat) : Int) rfl rfl (by omega) (by omega) (by omega)) ?_
        refine s_pu (pu_assign rfl) ?_
        refine swl_sub _ (.cons (t := 0) rfl (.cons (t := 1) rfl (.cons (t := 5) rfl (.cons (t := 6) rfl (.cons (t := 7) rfl .nil))))) ?_
        refine swl_nil ?_
        refine then_n ?_
        refine swp_region ?_
        refine s_pu (pu_move rfl) ?_
        refine s_pu (pu_add_as ((j + 1 : Nat) : Int) rfl rfl (by omega) (by omega) (by omega)) ?_
        refine s_pu (pu_assign rfl) ?_
        refine swl_sub _ (.cons (t := 0) rfl (.cons (t := 1) rfl (.cons (t := 5) rfl (.cons (t := 6) rfl (.cons (t := 7) rfl .nil))))) ?_
        refine swl_nil ?_
        refine block_n ?_
        refine block_n ?_
        have hne : e.2 = f.2 := by simpa using h28
        rw [if_pos hne, List.nil_append] at hd3
        exact then_n ⟨(i + 1, j + 1, v, out), ⟨⟨rfl, rfl, rfl, rfl, rfl, trivial⟩, Split.ent' (by repeat (first | exact Split.nil | (apply Split.cons; (repeat (first | with_reducible exact Take.here | apply Take.there))))), hil, hjl, by rw [← hD, hd3], by show out.length ≤ i + 1 + (j + 1); omega⟩, by show (a.length - (i + 1)) + (b.length - (j + 1)) < (a.length - i) + (b.length - j); omega⟩
end SX
namespace SX
open Go Go.Proofs
theorem chg_at {μ : PH} {v : Value} {l : List Chg} (h : Row μ v 3 l.length (chs l)) {i : Nat} {e : Chg} (hi : l[i]? = some e) : ∃ b off cap, v = .slice (some ⟨b, off, none⟩) l.length cap ∧ CellAt μ b (off + i * 3) (.string e.1) ∧ CellAt μ b (off + i * 3 + 1) (.int .u32 e.2.1) ∧ CellAt μ b (off + i * 3 + 2) (.int .u32 e.2.2) := by
  have hlt := (List.getElem?_eq_some_iff.1 hi).1
  obtain ⟨b, off, cap, hv, _, _, hr⟩ := h.pos (by omega)
  have hra := hr.elem (f := encD) (n := 3) (fun _ => rfl) hi
  exact ⟨b, off, cap, hv, hra 0 _ rfl, hra 1 _ rfl, hra 2 _ rfl⟩
set_option maxHeartbeats 2000000 in
theorem sof_spec (μ : PH) (s : Sett) (va vb : Value) (a b : List En) (ha : Row μ va 2 a.length (ens a)) (hb : Row μ vb 2 b.length (ens b)) (hsz : a.length ≤ 100 ∧ b.length ≤ 100) (ga : GoodT a) (gb : GoodT b) :
    Spec Tryd.prog 21 [.agg (encS s).toArray, va, vb] [ro μ] (fun r L => ∃ (f : Fil) (e : Int) (μ' : PH), Le μ μ' ∧ r = .tuple #[.agg (encF f).toArray, .int .i64 e] ∧ f.2.length ≤ 1048576 ∧ (∀ p, lookE a p ≠ lookE b p → mayF s f p.data.toList = true) ∧ L = [ro μ']) := by
  have hdl := diff_len 200 a b (by omega)
  have hds := diff_short ga.short gb.short ga gb
  have hdm := diff_mem a b ga gb
  have hd := rdiff_spec μ va vb a b ha hb ⟨by omega, by omega⟩
  generalize diffE a b = d at hdl hds hdm hd
  refine Spec.of 33 Tryd.func21 rfl rfl rfl ?_
  refine swp_seq ?_
  refine swp_region ?_
  refine s_ef (ef_box rfl rfl) ?_
  intro b3
  refine s_ef (ef_alloc) ?_
  intro b6
  refine s_pu (pu_assign rfl) ?_
  refine swl_sub _ (.cons (t := 1) rfl (.cons (t := 2) rfl (.cons (t := 3) rfl (.cons (t := 6) rfl .nil)))) ?_
  refine swl_nil ?_
  refine then_n ?_
  refine swp_seq ?_
  refine swp_region ?_
  refine s_pu (pu_move rfl) ?_
  refine s_pu (pu_move rfl) ?_
  refine s_ef (ef_fn hd rfl rfl (by repeat (first | exact Split.nil | (apply Split.cons; (repeat (first | with_reducible exact Take.here | apply Take.there)))))) ?_
  rintro v13 L1 rfl
  refine swl_app ?_
  refine swl_share_own (v := v13) (μ := μ) (by repeat (first | exact Split.nil | (apply Split.cons; (repeat (first | with_reducible exact Take.here | apply Take.there))))) fun μ1 l1 r13 => ?_
  refine s_pu (pu_assign rfl) ?_
  refine swl_sub _ (.cons (t := 3) rfl (.cons (t := 6) rfl (.cons (t := 8) rfl .nil))) ?_
  refine swl_nil ?_
  refine then_n ?_
  refine swp_seq ?_
  refine swp_region ?_
  refine s_pu (pu_assign rfl) ?_
  refine swl_sub _ (.cons (t := 3) rfl (.cons (t := 6) rfl (.cons (t := 8) rfl (.cons (t := 9) rfl .nil)))) ?_
  refine swl_nil ?_
  refine then_n ?_
  refine swp_seq ?_
  refine swp_seq ?_
  refine swp_region ?_
  refine s_pu (pu_assign rfl) ?_
  refine swl_sub _ (.cons (t := 3) rfl (.cons (t := 6) rfl (.cons (t := 8) rfl (.cons (t := 9) rfl (.cons (t := 10) rfl .nil))))) ?_
  refine swl_nil ?_
  refine then_n ?_
  refine swp_block ?_
  refine swp_ent (show Ent _ (own 9 1 (.slice none 0 0) 0 (sts ((d.take 0).map (·.1))) :: _) from own_nil_ent) ?_
  refine swp_loop (ι := Nat × Value) (fun k env L => Sub env [(3, .pointer (some ⟨b3, 0, none⟩)), (6, .pointer (some ⟨b6, 0, none⟩)), (8, v13), (9, k.2), (10, .int .i64 (k.1 : Nat))] ∧ Ent L [own 9 1 k.2 k.1 (sts ((d.take k.1).map (·.1))), blk b3 26 (encS s), blk b6 72 [.int .i64 0, .string ⟨#[]⟩], ro μ1] ∧ k.1 ≤ d.length) (fun k => d.length - k.1) (0, .slice none 0 0) ⟨⟨rfl, rfl, rfl, rfl, rfl, trivial⟩, Ent.cons (Split.ent' (by repeat (first | exact Split.nil | (apply Split.cons; (repeat (first | with_reducible exact Take.here | apply Take.there)))))), Nat.zero_le _⟩ ?_
  rintro ⟨i, v⟩ env L ⟨hsub, hE, hi⟩
  dsimp only at hsub hE hi
  refine swp_sub _ hsub ?_
  refine swp_ent hE ?_
  clear hsub hE env L
  refine swp_seq ?_
  refine swp_seq ?_
  refine swp_region ?_
  refine s_pu (pu_move rfl) ?_
  refine s_pu (pu_move rfl) ?_
  refine s_pu (pu_len_row r13 rfl) ?_
  refine s_pu (pu_lss rfl rfl) ?_
  refine swl_sub _ (.cons (t := 3) rfl (.cons (t := 6) rfl (.cons (t := 8) rfl (.cons (t := 9) rfl (.cons (t := 10) rfl (.cons (t := 17) rfl .nil)))))) ?_
  refine swl_nil ?_
  refine then_n ?_
  refine swp_cond (b := _) rfl (fun h17 => ?_) (fun h17 => ?_)
  · skip   -- 17 T
    have h17' : i < d.length := by have := of_decide_eq_true h17; omega
    obtain ⟨e, he⟩ : ∃ e, d[i]? = some e := ⟨_, List.getElem?_eq_getElem h17'⟩
    obtain ⟨eb, eo, ec, hev, he0, _, _⟩ := chg_at r13 he
    refine swp_skip ?_
    refine then_n ?_
    refine swp_seq ?_
    refine swp_block ?_
    refine swp_region ?_
    refine s_pu (pu_move rfl) ?_
    refine s_pu (pu_move rfl) ?_
    refine s_pu (pu_move rfl) ?_
    refine s_pu (pu_indexAddr (eo + i * 3) (congrArg some hev) rfl (by omega) (by omega) (by rw [Int.toNat_natCast])) ?_
    first | refine s_pu (pu_fieldAddr0 rfl) ?_ | refine s_pu (pu_fieldAddr rfl) ?_
    refine s_rd (rd_ro rfl he0) ?_
    refine s_ef (ef_bldS (qs := [(0, _)]) rfl rfl rfl) ?_
    intro b26
    refine s_ef (ef_append_lit (l := i) (m := 1) rfl rfl (by repeat (first | exact Split.nil | (apply Split.cons; (repeat (first | with_reducible exact Take.here | apply Take.there))))) (by simp only [maxLen]; omega) (by omega)) ?_
    rintro v27 -
    skip
    refine s_pu (pu_assign rfl) ?_
    refine swl_sub _ (.cons (t := 3) rfl (.cons (t := 6) rfl (.cons (t := 8) rfl (.cons (t := 9) rfl (.cons (t := 10) rfl .nil))))) ?_
    refine swl_nil ?_
    refine block_n ?_
    refine then_n ?_
    refine swp_region ?_
    refine s_pu (pu_move rfl) ?_
    refine s_pu (pu_add_as ((i + 1 : Nat) : Int) rfl rfl (by omega) (by omega) (by omega)) ?_
    refine s_pu (pu_assign rfl) ?_
    refine swl_sub _ (.cons (t := 3) rfl (.cons (t := 6) rfl (.cons (t := 8) rfl (.cons (t := 9) rfl (.cons (t := 10) rfl .nil))))) ?_
    refine swl_nil ?_
    refine then_n ⟨(i + 1, v27), ⟨⟨rfl, rfl, rfl, rfl, rfl, trivial⟩, ?_, h17'⟩, by show d.length - (i + 1) < d.length - i; omega⟩
    have e1 : sts ((d.take (i + 1)).map (·.1)) = sts ((d.take i).map (·.1)) ++ [.string e.1] := by rw [List.take_add_one, he, List.map_append, sts_app]; rfl
    show Ent _ [own 9 1 v27 (i + 1) (sts ((d.take (i + 1)).map (·.1))), blk b3 26 (encS s), blk b6 72 [.int .i64 0, .string ⟨#[]⟩], ro μ1]
    rw [e1]
    exact Split.ent' (by repeat (first | exact Split.nil | (apply Split.cons; (repeat (first | with_reducible exact Take.here | apply Take.there)))))
  · skip   -- 17 F
    have h17' := of_decide_eq_false h17
    obtain rfl : i = d.length := by omega
    rw [List.take_length]
    refine swp_share_own (v := v) (μ := μ1) (by repeat (first | exact Split.nil | (apply Split.cons; (repeat (first | with_reducible exact Take.here | apply Take.there))))) fun μ2 l2 r9 => ?_
    rw [show d.length = (d.map (·.1)).length by rw [List.length_map]] at r9
    refine swp_exit ?_
    refine then_x ?_
    refine then_x ?_
    refine block_hit rfl ?_
    refine then_n ?_
    refine swp_seq ?_
    refine swp_region ?_
    first | refine s_rd (rd_loadW rfl rfl) ?_ | refine s_rd (rd_loadX rfl rfl rfl) ?_
    refine s_pu (pu_move rfl) ?_
    refine s_ef (ef_fn (smake_spec μ2 s v (d.map (·.1)) r9 (by rw [List.length_map]; omega) (fun p hp => by obtain ⟨x, hx, rfl⟩ := List.mem_map.1 hp; have := hds x hx; omega)) rfl rfl (by repeat (first | exact Split.nil | (apply Split.cons; (repeat (first | with_reducible exact Take.here | apply Take.there)))))) ?_
    rintro v30 L1 ⟨f, e, μ3, l3, rfl, hfl, hfm, rfl⟩
    refine swl_app ?_
    first | refine s_pu (pu_extractL rfl) ?_ | refine s_pu (pu_extract rfl rfl) ?_
    first | refine s_pu (pu_extractL rfl) ?_ | refine s_pu (pu_extract rfl rfl) ?_
    refine s_ef0 (ef_storeAs (vs := encF f) (cs' := encF f) rfl rfl rfl (Nat.le_refl _) rfl rfl) ?_
    refine s_pu (pu_assign rfl) ?_
    refine swl_sub _ (.cons (t := 6) rfl (.cons (t := 7) rfl .nil)) ?_
    refine swl_nil ?_
    refine then_n ?_
    refine swp_ret ?_
    exact done_ret [ro μ3] (.cell rfl (ld_whole rfl) (.tmp rfl .nil)) ⟨f, e, μ3, (l1.trans l2).trans l3, rfl, hfl, fun p hp => hfm p ((hdm p).2 hp), rfl⟩ (by repeat (first | exact Split.nil | (apply Split.cons; (repeat (first | with_reducible exact Take.here | apply Take.there)))))
end SX
namespace SX
open Go Go.Proofs

/-- the table of the de Bruijn numbers lies there -/
def tabV : List Value := Lib.deBruijn64tab.map fun n => Value.int .u8 (n : Nat)
theorem tab_get {μ : PH} {g : Nat} (h : RowAt μ g 0 tabV) {j k : Nat} (hj : j < 64) (hk : Lib.deBruijn64tab.getD j 0 = k) : CellAt μ g j (.int .u8 (k : Nat)) := by
  have hlen : Lib.deBruijn64tab.length = 64 := rfl
  have := h j (.int .u8 (k : Nat)) (by
    unfold tabV
    rw [List.getElem?_map, List.getElem?_eq_getElem (by omega)]
    simp only [Option.map_some]
    rw [← hk, List.getD_eq_getElem?_getD, List.getElem?_eq_getElem (by omega)]; rfl)
  rwa [Nat.zero_add] at this

theorem tz_spec (μ : PH) (w : BitVec 64) (hT : RowAt μ 1 0 tabV) (hw : w ≠ 0#64) : Spec Tryd.prog 87 [wv w] [ro μ] (fun v L => v = .int .i64 (ctz w : Nat) ∧ L = [ro μ]) := by
  obtain ⟨h1, h2⟩ := ctz_idx hw
  have hc := tab_get hT h1 h2
  have hz := (ctz_spec hw).1
  have hn : ¬ ((w.toNat : Int) = 0) := fun e => hw (BitVec.eq_of_toNat_eq (by simpa using e))
  refine Spec.of 14 Tryd.func87 rfl rfl rfl ?_
  refine swp_seq ?_
  refine swp_region ?_
  refine s_pu (pu_assign rfl) ?_
  refine swl_sub _ (.cons (t := 0) rfl .nil) ?_
  refine swl_nil ?_
  refine then_n ?_
  refine swp_seq ?_
  refine swp_seq ?_
  refine swp_region ?_
  refine s_pu (pu_move rfl) ?_
  refine s_pu (pu_eql rfl rfl) ?_
  refine swl_sub _ (.cons (t := 0) rfl (.cons (t := 4) rfl .nil)) ?_
  refine swl_nil ?_
  refine then_n ?_
  refine swp_cond (b := _) rfl (fun h4 => absurd (of_decide_eq_true h4) hn) (fun h4 => ?_)
  refine swp_skip ?_
  refine then_n ?_
  refine swp_seq ?_
  refine swp_region ?_
  refine s_pu (pu_move rfl) ?_
  refine s_pu (pu_move rfl) ?_
  refine s_pu (pu_neg_w (a := w) rfl) ?_
  refine s_pu (pu_and_w (a := w) (b := -w) rfl rfl) ?_
  refine s_pu (pu_mul_w (a := w &&& -w) (b := 285870213051353865#64) rfl rfl) ?_
  refine s_pu (pu_shr_w (a := (w &&& -w) * 285870213051353865#64) 58 rfl rfl (by decide)) ?_
  refine s_pu (pu_indexAddr_arr (((w &&& -w) * 285870213051353865#64) >>> 58).toNat rfl rfl (by omega) (by omega) (by rw [Int.toNat_natCast]; omega)) ?_
  refine s_rd (rd_ro rfl hc) ?_
  first | refine s_pu (pu_conv_i64 rfl (by omega) (by omega)) ?_ | refine s_pu (pu_conv rfl) ?_
  refine s_pu (pu_assign rfl) ?_
  refine swl_sub _ (.cons (t := 2) rfl .nil) ?_
  refine swl_nil ?_
  refine then_n ?_
  refine swp_ret ?_
  exact done_ret [ro μ] (.tmp rfl .nil) ⟨rfl, rfl⟩ (by repeat (first | exact Split.nil | (apply Split.cons; (repeat (first | with_reducible exact Take.here | apply Take.there)))))
end SX
namespace SX
open Go Go.Proofs

def ucs (w : BitVec 64) : List Value := [wv w]
theorem ucs_len (w : BitVec 64) : (ucs w).length = 1 := rfl
def wcells (ws : List (BitVec 64)) : List Value := ws.flatMap ucs
theorem wcells_len (ws : List (BitVec 64)) : (wcells ws).length = ws.length := by unfold wcells; rw [flat_length ucs_len, Nat.mul_one]
theorem wcells_get {ws : List (BitVec 64)} {ex : List Value} {i : Nat} {w : BitVec 64} (h : ws[i]? = some w) : (wcells ws ++ ex)[i]? = some (wv w) := by
  have := flat_get ucs_len ws ex i w h 0 (wv w) rfl
  rwa [Nat.mul_one, Nat.add_zero] at this
theorem wcells_set {ws : List (BitVec 64)} {ex : List Value} {i : Nat} {w : BitVec 64} (h : i < ws.length) : (wcells ws ++ ex).set i (wv w) = wcells (ws.set i w) ++ ex := by
  rw [List.set_append_left _ _ (by rw [wcells_len]; exact h)]
  congr 1
  apply List.ext_getElem?
  intro j
  have key : ∀ (ws : List (BitVec 64)) (j : Nat), (wcells ws)[j]? = (ws[j]?).map wv := by
    intro ws j
    cases hj : ws[j]? with
    | none =>
      rw [List.getElem?_eq_none_iff] at hj
      simp only [Option.map_none]
      rw [List.getElem?_eq_none_iff, wcells_len]; exact hj
    | some w => have := wcells_get (ex := []) hj; rwa [List.append_nil] at this
  rw [key, List.getElem?_set, List.getElem?_set, key, wcells_len]
  split
  · simp
  · rfl
/-- is bit k there? -/
def mem (ws : List (BitVec 64)) (k : Nat) : Bool := (ws.getD (k / 64) 0#64).getLsbD (k % 64)
theorem mem_at {ws : List (BitVec 64)} {i : Nat} {w : BitVec 64} (h : ws[i]? = some w) {k : Nat} (hk : k / 64 = i) : mem ws k = w.getLsbD (k % 64) := by
  unfold mem; rw [hk, List.getD_eq_getElem?_getD, h]; rfl
theorem bit_and_one (w : BitVec 64) (r : Nat) : (decide ((((w >>> r) &&& 1#64).toNat : Int) = 0)) = !w.getLsbD r := by
  have e : ((w >>> r) &&& 1#64).toNat = (w.getLsbD r).toNat := by
    rw [BitVec.toNat_and, BitVec.toNat_ushiftRight, show (1#64 : BitVec 64).toNat = 1 from rfl, Nat.and_one_is_mod, Nat.shiftRight_eq_div_pow]
    show _ = (w.toNat.testBit r).toNat
    rw [Nat.testBit_eq_decide_div_mod_eq]
    rcases Nat.mod_two_eq_zero_or_one (w.toNat / 2 ^ r) with h | h <;> simp [h]
  rw [e]
  cases w.getLsbD r <;> simp

/-- a set of n numbers, laid open: its struct and its words -/
abbrev opn (p n : Nat) (v : Value) (ws : List (BitVec 64)) : List Assn := [blk p 165 [.int .i64 (n : Nat), v], own 136 1 v ws.length (wcells ws)]
/-- the words of a set of n -/
def Wf (n : Nat) (ws : List (BitVec 64)) (S : Nat → Bool) : Prop := ws.length = (n + 63) / 64 ∧ n ≤ 1048576 ∧ (∀ k, mem ws k = S k) ∧ ∀ k, n ≤ k → S k = false
def mset (p n : Nat) (S : Nat → Bool) : Assn := exA fun x : {x : Value × List (BitVec 64) // Wf n x.2 S} => opn p n x.1.1 x.1.2
theorem mset_close {p n : Nat} {S : Nat → Bool} {v : Value} {ws : List (BitVec 64)} {L : List Assn} (h : Wf n ws S) : Ent (blk p 165 [.int .i64 (n : Nat), v] :: own 136 1 v ws.length (wcells ws) :: L) (mset p n S :: L) :=
  ent_ex (F := fun x : {x : Value × List (BitVec 64) // Wf n x.2 S} => opn p n x.1.1 x.1.2) ⟨(v, ws), h⟩ (by repeat (first | exact Split.nil | (apply Split.cons; (repeat (first | with_reducible exact Take.here | apply Take.there)))))
theorem wown_close {b cap : Nat} {ws : List (BitVec 64)} {ex : List Value} {L : List Assn} (h1 : ws.length ≤ cap) (h2 : cap ≤ maxLen) (h4 : ex.length = (cap - ws.length) * 1) :
    Ent (blk b 136 (wcells ws ++ ex) :: L) (own 136 1 (.slice (some ⟨b, 0, none⟩) ws.length cap) ws.length (wcells ws) :: L) := own_close (by rw [wcells_len, Nat.mul_one]) h4 h1 h2

theorem size_b (p n : Nat) (v : Value) : Spec Tryd.prog 70 [.pointer (some ⟨p, 0, none⟩)] [blk p 165 [.int .i64 (n : Nat), v]] (fun r L => r = .int .i64 (n : Nat) ∧ L = [blk p 165 [.int .i64 (n : Nat), v]]) := by
  refine Spec.of 9 Tryd.func70 rfl rfl rfl ?_
  refine swp_seq ?_
  refine swp_region ?_
  refine s_pu (pu_assign rfl) ?_
  refine swl_sub _ (.cons (t := 0) rfl .nil) ?_
  refine swl_nil ?_
  refine then_n ?_
  refine swp_seq ?_
  refine swp_seq ?_
  refine swp_region ?_
  refine s_pu (pu_move rfl) ?_
  refine s_pu (pu_ptr_eq_nil rfl rfl) ?_
  refine swl_sub _ (.cons (t := 0) rfl (.cons (t := 4) rfl .nil)) ?_
  refine swl_nil ?_
  refine then_n ?_
  refine swp_cond (b := _) rfl (fun h4 => by cases h4) (fun h4 => ?_)
  refine swp_skip ?_
  refine then_n ?_
  refine swp_seq ?_
  refine swp_region ?_
  refine s_pu (pu_move rfl) ?_
  first | refine s_pu (pu_nilCheck rfl) ?_ | refine s_pu (pu_nilCheck_fn rfl) ?_ | refine s_pu (pu_nilCheck_if rfl) ?_
  first | refine s_pu (pu_fieldAddr0 rfl) ?_ | refine s_pu (pu_fieldAddr rfl) ?_
  refine s_rd (rd_load rfl rfl) ?_
  refine s_pu (pu_assign rfl) ?_
  refine swl_sub _ (.cons (t := 2) rfl .nil) ?_
  refine swl_nil ?_
  refine then_n ?_
  refine swp_ret ?_
  exact done_ret _ (.tmp rfl .nil) ⟨rfl, rfl⟩ (by repeat (first | exact Split.nil | (apply Split.cons; (repeat (first | with_reducible exact Take.here | apply Take.there)))))
theorem has_o (p n : Nat) (v : Value) (ws : List (BitVec 64)) (k : Int) (hl : ws.length = (n + 63) / 64) (hn : n ≤ 1048576) :
    Spec Tryd.prog 56 [.pointer (some ⟨p, 0, none⟩), .int .i64 k] (opn p n v ws) (fun r L => r = .bool (decide (0 ≤ k) && (decide (k < n) && mem ws k.toNat)) ∧ L = opn p n v ws) := by
  refine Spec.of 28 Tryd.func56 rfl rfl rfl ?_
  refine swp_seq ?_
  refine swp_region ?_
  refine s_pu (pu_assign rfl) ?_
  refine swl_sub _ (.cons (t := 0) rfl (.cons (t := 1) rfl .nil)) ?_
  refine swl_nil ?_
  refine then_n ?_
  refine swp_seq ?_
  refine swp_region ?_
  refine s_pu (pu_move rfl) ?_
  refine s_pu (pu_geq rfl rfl) ?_
  refine s_pu (pu_move rfl) ?_
  refine s_split 7 rfl (fun h7 => ?_) (fun h7 => ?_)
  · skip   -- 7 T
    refine s_on rfl rfl ?_
    refine s_pu (pu_move rfl) ?_
    refine s_on rfl rfl ?_
    refine s_pu (pu_move rfl) ?_
    refine s_on rfl rfl ?_
    refine s_ef (ef_fn (size_b p n v) rfl rfl (by repeat (first | exact Split.nil | (apply Split.cons; (repeat (first | with_reducible exact Take.here | apply Take.there)))))) ?_
    rintro v1 L1 ⟨rfl, rfl⟩
    refine swl_app ?_
    refine s_on rfl rfl ?_
    refine s_pu (pu_lss rfl rfl) ?_
    first | refine s_pu (pu_pick_t rfl rfl) ?_ | refine s_pu (pu_pick_f rfl rfl) ?_
    refine s_pu (pu_move rfl) ?_
    refine s_split 13 rfl (fun h13 => ?_) (fun h13 => ?_)
    · skip   -- 13 T
      have h7' := of_decide_eq_true h7
      have h13' := of_decide_eq_true h13
      obtain ⟨m, rfl⟩ : ∃ m : Nat, k = m := ⟨k.toNat, by omega⟩
      have hmi : m / 64 < ws.length := by omega
      obtain ⟨w, hw⟩ : ∃ w, ws[m / 64]? = some w := ⟨_, List.getElem?_eq_getElem hmi⟩
      refine swl_own (by repeat (first | with_reducible exact Take.here | apply Take.there)) (fun h0 l0 _ => by omega) (fun b cap ex hv h1 h2 h3 h4 => ?_)
      subst hv
      refine s_on rfl rfl ?_
      refine s_pu (pu_move rfl) ?_
      refine s_on rfl rfl ?_
      first | refine s_pu (pu_nilCheck rfl) ?_ | refine s_pu (pu_nilCheck_fn rfl) ?_ | refine s_pu (pu_nilCheck_if rfl) ?_
      refine s_on rfl rfl ?_
      first | refine s_pu (pu_fieldAddr0 rfl) ?_ | refine s_pu (pu_fieldAddr rfl) ?_
      refine s_on rfl rfl ?_
      refine s_rd (rd_load rfl rfl) ?_
      refine s_on rfl rfl ?_
      refine s_pu (pu_move rfl) ?_
      refine s_on rfl rfl ?_
      refine s_pu (pu_quo_as ((m / 64 : Nat) : Int) rfl rfl (by omega) (by omega) (by omega) (by omega)) ?_
      refine s_on rfl rfl ?_
      refine s_pu (pu_indexAddr (m / 64) rfl rfl (by omega) (by omega) (by omega)) ?_
      refine s_on rfl rfl ?_
      refine s_rd (rd_load rfl (wcells_get hw)) ?_
      refine s_on rfl rfl ?_
      refine s_pu (pu_move rfl) ?_
      refine s_on rfl rfl ?_
      refine s_pu (pu_rem_as ((m % 64 : Nat) : Int) rfl rfl (by omega) (by omega) (by omega)) ?_
      refine s_on rfl rfl ?_
      refine s_pu (pu_shr_w (a := w) (m % 64) rfl rfl (by omega)) ?_
      refine s_on rfl rfl ?_
      refine s_pu (pu_and_w (b := 1#64) rfl rfl) ?_
      refine s_on rfl rfl ?_
      refine s_pu (pu_neq rfl rfl) ?_
      first | refine s_pu (pu_pick_t rfl rfl) ?_ | refine s_pu (pu_pick_f rfl rfl) ?_
      refine s_pu (pu_assign rfl) ?_
      refine swl_sub _ (.cons (t := 4) rfl .nil) ?_
      refine swl_nil ?_
      refine then_n ?_
      refine swp_ret ?_
      exact done_retE (opn p n _ ws) (.tmp rfl .nil) ⟨by simp only [resV, h7, h13, Bool.true_and, Int.toNat_natCast]; rw [bit_and_one w _, Bool.not_not, mem_at hw rfl], rfl⟩
        ((Split.ent' (K := [blk b 136 (wcells ws ++ ex), blk p 165 [.int .i64 (n : Nat), .slice (some ⟨b, 0, none⟩) ws.length cap]]) (by repeat (first | exact Split.nil | (apply Split.cons; (repeat (first | with_reducible exact Take.here | apply Take.there)))))).trans ((wown_close h1 h2 h4).trans Ent.swap))
    · skip   -- 13 F
      refine s_off rfl rfl rfl ?_
      refine s_off rfl rfl rfl ?_
      refine s_off rfl rfl rfl ?_
      refine s_off rfl rfl rfl ?_
      refine s_off rfl rfl rfl ?_
      refine s_off rfl rfl rfl ?_
      refine s_off rfl rfl rfl ?_
      refine s_off rfl rfl rfl ?_
      refine s_off rfl rfl rfl ?_
      refine s_off rfl rfl rfl ?_
      refine s_off rfl rfl rfl ?_
      refine s_off rfl rfl rfl ?_
      refine s_off rfl rfl rfl ?_
      first | refine s_pu (pu_pick_t rfl rfl) ?_ | refine s_pu (pu_pick_f rfl rfl) ?_
      refine s_pu (pu_assign rfl) ?_
      refine swl_sub _ (.cons (t := 4) rfl .nil) ?_
      refine swl_nil ?_
      refine then_n ?_
      refine swp_ret ?_
      exact done_ret (opn p n v ws) (.tmp rfl .nil) ⟨by simp [resV, *], rfl⟩ (by repeat (first | exact Split.nil | (apply Split.cons; (repeat (first | with_reducible exact Take.here | apply Take.there)))))
  · skip   -- 7 F
    refine s_off rfl rfl rfl ?_
    refine s_off rfl rfl rfl ?_
    refine s_off rfl rfl rfl ?_
    refine s_off rfl rfl rfl ?_
    first | refine s_pu (pu_pick_t rfl rfl) ?_ | refine s_pu (pu_pick_f rfl rfl) ?_
    refine s_pu (pu_move rfl) ?_
    refine s_off rfl rfl rfl ?_
    refine s_off rfl rfl rfl ?_
    refine s_off rfl rfl rfl ?_
    refine s_off rfl rfl rfl ?_
    refine s_off rfl rfl rfl ?_
    refine s_off rfl rfl rfl ?_
    refine s_off rfl rfl rfl ?_
    refine s_off rfl rfl rfl ?_
    refine s_off rfl rfl rfl ?_
    refine s_off rfl rfl rfl ?_
    refine s_off rfl rfl rfl ?_
    refine s_off rfl rfl rfl ?_
    refine s_off rfl rfl rfl ?_
    first | refine s_pu (pu_pick_t rfl rfl) ?_ | refine s_pu (pu_pick_f rfl rfl) ?_
    refine s_pu (pu_assign rfl) ?_
    refine swl_sub _ (.cons (t := 4) rfl .nil) ?_
    refine swl_nil ?_
    refine then_n ?_
    refine swp_ret ?_
    exact done_ret (opn p n v ws) (.tmp rfl .nil) ⟨by simp [resV, *], rfl⟩ (by repeat (first | exact Split.nil | (apply Split.cons; (repeat (first | with_reducible exact Take.here | apply Take.there)))))
def clampM (k : Int) : Nat := (min (max k 0) 1048576).toNat
theorem new_m (k : Int) : Spec Tryd.prog 53 [.int .i64 k] [] (fun r L => ∃ p, r = .pointer (some ⟨p, 0, none⟩) ∧ L = [mset p (clampM k) (fun _ => false)]) := by
  have hc : min (max k 0) 1048576 = ((clampM k : Nat) : Int) := by unfold clampM; omega
  have hle : clampM k ≤ 1048576 := by unfold clampM; omega
  generalize clampM k = n at hc hle
  refine Spec.of 13 Tryd.func53 rfl rfl rfl ?_
  refine swp_seq ?_
  refine swp_region ?_
  refine s_pu (pu_assign rfl) ?_
  refine swl_sub _ (.cons (t := 0) rfl .nil) ?_
  refine swl_nil ?_
  refine then_n ?_
  refine swp_seq ?_
  refine swp_region ?_
  refine s_pu (pu_move rfl) ?_
  refine s_pu (pu_max2 rfl rfl) ?_
  refine s_pu (pu_min2 rfl rfl) ?_
  refine s_pu (pu_assign rfl) ?_
  refine swl_sub _ (.cons (t := 0) rfl .nil) ?_
  rw [hc]
  refine swl_nil ?_
  refine then_n ?_
  refine swp_seq ?_
  refine swp_region ?_
  refine s_pu (pu_move rfl) ?_
  refine s_pu (pu_move rfl) ?_
  first | refine s_pu (pu_add_in rfl rfl (by omega) (by omega)) ?_ | refine s_pu (pu_add rfl rfl) ?_
  refine s_pu (pu_quo_as (((n + 63) / 64 : Nat) : Int) rfl rfl (by omega) (by omega) (by omega) (by omega)) ?_
  refine s_ef (ef_make1 ((n + 63) / 64) rfl rfl rfl (by omega) (by simp only [maxLen]; omega)) ?_
  rintro b
  skip
  refine s_pu (pu_bld (qs := [(0, _), (1, _)]) rfl) ?_
  refine s_ef (ef_box rfl rfl) ?_
  intro b12
  refine s_pu (pu_assign rfl) ?_
  refine swl_sub _ (.cons (t := 2) rfl .nil) ?_
  refine swl_nil ?_
  refine then_n ?_
  refine swp_ret ?_
  refine done_retE [mset b12 n (fun _ => false)] (.tmp rfl .nil) ⟨b12, rfl, rfl⟩ ?_
  have hw : wcells (List.replicate ((n + 63) / 64) 0#64) = List.replicate ((n + 63) / 64) (Value.int .u64 0) := by
    apply List.ext_getElem?
    intro j
    rcases Nat.lt_or_ge j ((n + 63) / 64) with h | h
    · have := wcells_get (ws := List.replicate ((n + 63) / 64) 0#64) (ex := []) (i := j) (w := 0#64) (by simp [h])
      rw [List.append_nil] at this
      rw [this]; simp [h]
    · rw [List.getElem?_eq_none (by rw [wcells_len, List.length_replicate]; exact h), List.getElem?_eq_none (by rw [List.length_replicate]; exact h)]
  rw [← hw]
  have hwf : Wf n (List.replicate ((n + 63) / 64) 0#64) (fun _ => false) := ⟨by simp, hle, fun k => by
    unfold mem
    rw [List.getD_eq_getElem?_getD]
    rcases Nat.lt_or_ge (k / 64) ((n + 63) / 64) with h | h
    · simp [h]
    · simp [Nat.not_lt.2 h], fun _ _ => rfl⟩
  have hcl := wown_close (b := b) (cap := (n + 63) / 64) (ws := List.replicate ((n + 63) / 64) 0#64) (ex := []) (L := [blk b12 165 [.int .i64 (n : Nat), .slice (some ⟨b, 0, none⟩) ((n + 63) / 64) ((n + 63) / 64)]]) (by simp) (by simp only [maxLen]; omega) (by simp)
  rw [List.append_nil, List.length_replicate] at hcl
  have hmc := mset_close (p := b12) (v := .slice (some ⟨b, 0, none⟩) ((n + 63) / 64) ((n + 63) / 64)) (L := []) hwf
  rw [List.length_replicate] at hmc
  exact (Split.ent' (K := [blk b 136 (wcells (List.replicate ((n + 63) / 64) 0#64)), blk b12 165 [.int .i64 (n : Nat), .slice (some ⟨b, 0, none⟩) ((n + 63) / 64) ((n + 63) / 64)]]) (by repeat (first | exact Split.nil | (apply Split.cons; (repeat (first | with_reducible exact Take.here | apply Take.there)))))).trans (hcl.trans (Ent.swap.trans hmc))
end SX
