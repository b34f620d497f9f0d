/- A part of the proof: walks of the program's functions, and the rules by which they go. -/
import Derived.Test.YtakdmomhhjnolaaProg
import Derived.Test.YtakdmomhhjnolaaBd16a6b59
import Derived.Shelf.Sort.Plain
import Derived.Ground.Names2Prog
import Derived.Shelf.Slices.In.SortNone
import Derived.Ground.SlgnProg
namespace SX
open Go Go.Proofs
instance : Body Try.prog 2 := ⟨_, Try.func2, rfl, by decide⟩
instance : Body Try.prog 3 := ⟨_, Try.func3, rfl, by decide⟩
instance : Body Try.prog 4 := ⟨_, Try.func4, rfl, by decide⟩
instance : Body Try.prog 5 := ⟨_, Try.func5, rfl, by decide⟩
instance : Body Try.prog 6 := ⟨_, Try.func6, rfl, by decide⟩
instance : Body Try.prog 7 := ⟨_, Try.func7, rfl, by decide⟩
instance : Body Try.prog 8 := ⟨_, Try.func8, rfl, by decide⟩
instance : Body Try.prog 9 := ⟨_, Try.func9, rfl, by decide⟩
instance : Body Try.prog 10 := ⟨_, Try.func10, rfl, by decide⟩
instance : Body Try.prog 11 := ⟨_, Try.func11, rfl, by decide⟩
instance : Body Try.prog 12 := ⟨_, Try.func12, rfl, by decide⟩
instance : Body Try.prog 13 := ⟨_, Try.func13, rfl, by decide⟩
instance : Body Try.prog 14 := ⟨_, Try.func14, rfl, by decide⟩
instance : Body Try.prog 15 := ⟨_, Try.func15, rfl, by decide⟩
instance : Body Try.prog 16 := ⟨_, Try.func16, rfl, by decide⟩
instance : Body Try.prog 17 := ⟨_, Try.func17, rfl, by decide⟩
instance : Body Try.prog 18 := ⟨_, Try.func18, rfl, by decide⟩
instance : Body Try.prog 19 := ⟨_, Try.func19, rfl, by decide⟩
instance : Body Try.prog 20 := ⟨_, Try.func20, rfl, by decide⟩
instance : Body Try.prog 21 := ⟨_, Try.func21, rfl, by decide⟩
instance : Body Try.prog 22 := ⟨_, Try.func22, rfl, by decide⟩
instance : Body Try.prog 23 := ⟨_, Try.func23, rfl, by decide⟩
instance : Body Try.prog 24 := ⟨_, Try.func24, rfl, by decide⟩
instance : Body Try.prog 25 := ⟨_, Try.func25, rfl, by decide⟩
instance : Body Try.prog 26 := ⟨_, Try.func26, rfl, by decide⟩
instance : Body Try.prog 27 := ⟨_, Try.func27, rfl, by decide⟩
instance : Body Try.prog 28 := ⟨_, Try.func28, rfl, by decide⟩
instance : Body Try.prog 29 := ⟨_, Try.func29, rfl, by decide⟩
instance : Body Try.prog 30 := ⟨_, Try.func30, rfl, by decide⟩
instance : Body Try.prog 31 := ⟨_, Try.func31, rfl, by decide⟩
instance : Body Try.prog 32 := ⟨_, Try.func32, rfl, by decide⟩
instance : Body Try.prog 33 := ⟨_, Try.func33, rfl, by decide⟩
instance : Body Try.prog 34 := ⟨_, Try.func34, rfl, by decide⟩
instance : Body Try.prog 35 := ⟨_, Try.func35, rfl, by decide⟩
instance : Body Try.prog 36 := ⟨_, Try.func36, rfl, by decide⟩
instance : Body Try.prog 37 := ⟨_, Try.func37, rfl, by decide⟩
instance : Body Try.prog 38 := ⟨_, Try.func38, rfl, by decide⟩
instance : Body Try.prog 39 := ⟨_, Try.func39, rfl, by decide⟩
instance : Body Try.prog 40 := ⟨_, Try.func40, rfl, by decide⟩
instance : Body Try.prog 41 := ⟨_, Try.func41, rfl, by decide⟩
instance : Body Try.prog 42 := ⟨_, Try.func42, rfl, by decide⟩
instance : Body Try.prog 43 := ⟨_, Try.func43, rfl, by decide⟩
instance : Body Try.prog 44 := ⟨_, Try.func44, rfl, by decide⟩
instance : Body Try.prog 45 := ⟨_, Try.func45, rfl, by decide⟩
instance : Body Try.prog 46 := ⟨_, Try.func46, rfl, by decide⟩
instance : Body Try.prog 47 := ⟨_, Try.func47, rfl, by decide⟩
instance : Body Try.prog 48 := ⟨_, Try.func48, rfl, by decide⟩
instance : Body Try.prog 49 := ⟨_, Try.func49, rfl, by decide⟩
instance : Body Try.prog 50 := ⟨_, Try.func50, rfl, by decide⟩
instance : Body Try.prog 51 := ⟨_, Try.func51, rfl, by decide⟩
instance : Body Try.prog 52 := ⟨_, Try.func52, rfl, by decide⟩
instance : Body Try.prog 53 := ⟨_, Try.func53, rfl, by decide⟩
instance : Body Try.prog 54 := ⟨_, Try.func54, rfl, by decide⟩
instance : Body Try.prog 55 := ⟨_, Try.func55, rfl, by decide⟩
instance : TOne Try.prog 3 := ⟨by kernel_rfl, by kernel_rfl⟩
instance : TZero Try.prog 3 [(.int .i64 0)] := ⟨by kernel_rfl⟩
instance : TInt Try.prog 3 .i64 := ⟨Try.underlying3⟩
instance : TConc Try.prog 3 := ⟨_, Try.underlying3, rfl⟩
instance : TOne Try.prog 4 := ⟨by kernel_rfl, by kernel_rfl⟩
instance : TZero Try.prog 4 [(.bool false)] := ⟨by kernel_rfl⟩
instance : TBool Try.prog 4 := ⟨Try.underlying4⟩
instance : TConc Try.prog 4 := ⟨_, Try.underlying4, rfl⟩
instance : TOne Try.prog 5 := ⟨by kernel_rfl, by kernel_rfl⟩
instance : TZero Try.prog 5 [(.int .u8 0)] := ⟨by kernel_rfl⟩
instance : TInt Try.prog 5 .u8 := ⟨Try.underlying5⟩
instance : TConc Try.prog 5 := ⟨_, Try.underlying5, rfl⟩
instance : TOne Try.prog 9 := ⟨by kernel_rfl, by kernel_rfl⟩
instance : TZero Try.prog 9 [(.string ⟨#[]⟩)] := ⟨by kernel_rfl⟩
instance : TStr Try.prog 9 := ⟨Try.underlying9⟩
instance : TConc Try.prog 9 := ⟨_, Try.underlying9, rfl⟩
instance : TOne Try.prog 22 := ⟨by kernel_rfl, by kernel_rfl⟩
instance : TZero Try.prog 22 [(.slice none 0 0)] := ⟨by kernel_rfl⟩
instance : TSl Try.prog 22 3 1 8 := ⟨Try.underlying22, by kernel_rfl⟩
instance : TConc Try.prog 22 := ⟨_, Try.underlying22, rfl⟩
instance : TOne Try.prog 30 := ⟨by kernel_rfl, by kernel_rfl⟩
instance : TZero Try.prog 30 [(.slice none 0 0)] := ⟨by kernel_rfl⟩
instance : TSl Try.prog 30 22 1 24 := ⟨Try.underlying30, by kernel_rfl⟩
instance : TConc Try.prog 30 := ⟨_, Try.underlying30, rfl⟩
instance : TOne Try.prog 32 := ⟨by kernel_rfl, by kernel_rfl⟩
instance : TZero Try.prog 32 [(.int .i64 0)] := ⟨by kernel_rfl⟩
instance : TInt Try.prog 32 .i64 := ⟨Try.underlying32⟩
instance : TConc Try.prog 32 := ⟨_, Try.underlying32, rfl⟩
instance : TOne Try.prog 40 := ⟨by kernel_rfl, by kernel_rfl⟩
instance : TZero Try.prog 40 [(.slice none 0 0)] := ⟨by kernel_rfl⟩
instance : TSl Try.prog 40 5 1 1 := ⟨Try.underlying40, by kernel_rfl⟩
instance : TConc Try.prog 40 := ⟨_, Try.underlying40, rfl⟩
instance : TOne Try.prog 42 := ⟨by kernel_rfl, by kernel_rfl⟩
instance : TZero Try.prog 42 [(.slice none 0 0)] := ⟨by kernel_rfl⟩
instance : TSl Try.prog 42 4 1 1 := ⟨Try.underlying42, by kernel_rfl⟩
instance : TConc Try.prog 42 := ⟨_, Try.underlying42, rfl⟩
instance : TOne Try.prog 45 := ⟨by kernel_rfl, by kernel_rfl⟩
instance : TZero Try.prog 45 [(.int .u16 0)] := ⟨by kernel_rfl⟩
instance : TInt Try.prog 45 .u16 := ⟨Try.underlying45⟩
instance : TConc Try.prog 45 := ⟨_, Try.underlying45, rfl⟩
instance : TOne Try.prog 51 := ⟨by kernel_rfl, by kernel_rfl⟩
instance : TZero Try.prog 51 [.nilFunc] := ⟨by kernel_rfl⟩
instance : TFn Try.prog 51 := ⟨_, _, _, Try.underlying51⟩
instance : TConc Try.prog 51 := ⟨_, Try.underlying51, rfl⟩
instance : TOne Try.prog 54 := ⟨by kernel_rfl, by kernel_rfl⟩
instance : TZero Try.prog 54 [.nilFunc] := ⟨by kernel_rfl⟩
instance : TFn Try.prog 54 := ⟨_, _, _, Try.underlying54⟩
instance : TConc Try.prog 54 := ⟨_, Try.underlying54, rfl⟩
instance : TOne Try.prog 58 := ⟨by kernel_rfl, by kernel_rfl⟩
instance : TZero Try.prog 58 [(.int .u64 0)] := ⟨by kernel_rfl⟩
instance : TInt Try.prog 58 .u64 := ⟨Try.underlying58⟩
instance : TConc Try.prog 58 := ⟨_, Try.underlying58, rfl⟩
instance : TOne Try.prog 60 := ⟨by kernel_rfl, by kernel_rfl⟩
instance : TZero Try.prog 60 [(.int .i64 0)] := ⟨by kernel_rfl⟩
instance : TInt Try.prog 60 .i64 := ⟨Try.underlying60⟩
instance : TConc Try.prog 60 := ⟨_, Try.underlying60, rfl⟩
instance : TOne Try.prog 68 := ⟨by kernel_rfl, by kernel_rfl⟩
instance : TZero Try.prog 68 [(.int .u32 0)] := ⟨by kernel_rfl⟩
instance : TInt Try.prog 68 .u32 := ⟨Try.underlying68⟩
instance : TConc Try.prog 68 := ⟨_, Try.underlying68, rfl⟩
instance : TOne Try.prog 70 := ⟨by kernel_rfl, by kernel_rfl⟩
instance : TZero Try.prog 70 [(.int .u64 0)] := ⟨by kernel_rfl⟩
instance : TInt Try.prog 70 .u64 := ⟨Try.underlying70⟩
instance : TConc Try.prog 70 := ⟨_, Try.underlying70, rfl⟩
instance : TOne Try.prog 71 := ⟨by kernel_rfl, by kernel_rfl⟩
instance : TZero Try.prog 71 [(.int .u64 0)] := ⟨by kernel_rfl⟩
instance : TInt Try.prog 71 .u64 := ⟨Try.underlying71⟩
instance : TConc Try.prog 71 := ⟨_, Try.underlying71, rfl⟩
instance : TOne Try.prog 75 := ⟨by kernel_rfl, by kernel_rfl⟩
instance : TZero Try.prog 75 [(.pointer none)] := ⟨by kernel_rfl⟩
instance : TPtr Try.prog 75 := ⟨_, Try.underlying75⟩
instance : TConc Try.prog 75 := ⟨_, Try.underlying75, rfl⟩
instance : TOne Try.prog 77 := ⟨by kernel_rfl, by kernel_rfl⟩
instance : TZero Try.prog 77 [(.pointer none)] := ⟨by kernel_rfl⟩
instance : TPtr Try.prog 77 := ⟨_, Try.underlying77⟩
instance : TConc Try.prog 77 := ⟨_, Try.underlying77, rfl⟩
end SX
namespace SX
open Go Go.Proofs

end SX
namespace SX
open Go Go.Proofs

theorem rcounts_spec (n : Int) : Spec Try.prog 26 [.int .i64 n] [] (fun r L => r = .int .i64 (cnt n) ∧ L = []) := by
  refine Spec.of 8 Try.func26 rfl rfl rfl ?_
  refine swp_seq ?_
  refine swp_region ?_
  refine s_pu (pu_assign rfl) ?_
  refine swl_sub _ (.cons (t := 0) rfl .nil) ?_
  refine swl_nil ?_
  refine then_n ?_
  refine swp_seq ?_
  refine swp_seq ?_
  refine swp_region ?_
  refine s_pu (pu_move rfl) ?_
  refine s_pu (pu_lss rfl rfl) ?_
  refine swl_sub _ (.cons (t := 0) rfl (.cons (t := 4) rfl .nil)) ?_
  refine swl_nil ?_
  refine then_n ?_
  refine swp_cond (b := _) rfl (fun h4 => ?_) (fun h4 => ?_)
  · skip   -- 4 T
    refine swp_seq ?_
    refine swp_region ?_
    refine s_pu (pu_assign rfl) ?_
    refine swl_sub _ (.cons (t := 2) rfl .nil) ?_
    refine swl_nil ?_
    refine then_n ?_
    refine swp_ret ?_
    refine then_r ?_
    have h := of_decide_eq_true h4
    exact done_ret [] (.tmp rfl .nil) ⟨congrArg (Value.int .i64) (by unfold cnt; rw [if_neg (by omega)]; omega), rfl⟩ (by repeat (first | exact Split.nil | (apply Split.cons; (repeat (first | with_reducible exact Take.here | apply Take.there)))))
  · skip   -- 4 F
    refine swp_skip ?_
    refine then_n ?_
    refine swp_seq ?_
    refine swp_seq ?_
    refine swp_region ?_
    refine s_pu (pu_move rfl) ?_
    refine s_pu (pu_gtr rfl rfl) ?_
    refine swl_sub _ (.cons (t := 0) rfl (.cons (t := 6) rfl .nil)) ?_
    refine swl_nil ?_
    refine then_n ?_
    refine swp_cond (b := _) rfl (fun h6 => ?_) (fun h6 => ?_)
    · skip   -- 6 T
      refine swp_seq ?_
      refine swp_region ?_
      refine s_pu (pu_assign rfl) ?_
      refine swl_sub _ (.cons (t := 2) rfl .nil) ?_
      refine swl_nil ?_
      refine then_n ?_
      refine swp_ret ?_
      refine then_r ?_
      have h := of_decide_eq_true h6
      exact done_ret [] (.tmp rfl .nil) ⟨congrArg (Value.int .i64) (by unfold cnt; rw [if_pos h]), rfl⟩ (by repeat (first | exact Split.nil | (apply Split.cons; (repeat (first | with_reducible exact Take.here | apply Take.there)))))
    · skip   -- 6 F
      refine swp_skip ?_
      refine then_n ?_
      refine swp_seq ?_
      refine swp_region ?_
      refine s_pu (pu_move rfl) ?_
      refine s_pu (pu_assign rfl) ?_
      refine swl_sub _ (.cons (t := 2) rfl .nil) ?_
      refine swl_nil ?_
      refine then_n ?_
      refine swp_ret ?_
      have h := of_decide_eq_false h4
      have h' := of_decide_eq_false h6
      exact done_ret [] (.tmp rfl .nil) ⟨congrArg (Value.int .i64) (by unfold cnt; rw [if_neg h']; omega), rfl⟩ (by repeat (first | exact Split.nil | (apply Split.cons; (repeat (first | with_reducible exact Take.here | apply Take.there)))))
theorem rnext_spec (v : Value) (xs : List Int) (L0 : List Assn) (hv : Ints Try.prog 3 L0 v xs) : Spec Try.prog 13 [v] L0 (fun r L => r = .int .i64 (nxt xs) ∧ L = L0) := by
  obtain ⟨A, cap, rfl, hl, ha⟩ := hv
  have hr := hiG_range xs
  refine Spec.of 26 Try.func13 rfl rfl rfl ?_
  refine swp_seq ?_
  refine swp_region ?_
  refine s_pu (pu_assign rfl) ?_
  refine swl_sub _ (.cons (t := 0) rfl .nil) ?_
  refine swl_nil ?_
  refine then_n ?_
  refine swp_seq ?_
  refine swp_region ?_
  refine s_pu (pu_assign rfl) ?_
  refine swl_sub _ (.cons (t := 0) rfl (.cons (t := 3) rfl .nil)) ?_
  refine swl_nil ?_
  refine then_n ?_
  refine swp_seq ?_
  refine swp_seq ?_
  refine swp_region ?_
  refine s_pu (pu_assign rfl) ?_
  refine swl_sub _ (.cons (t := 0) rfl (.cons (t := 3) rfl (.cons (t := 4) rfl .nil))) ?_
  refine swl_nil ?_
  refine then_n ?_
  refine swp_block ?_
  refine swp_loop (ι := Nat) (fun k env L => env = [(0, .slice A xs.length cap), (3, .int .i64 (hiG (xs.take k))), (4, .int .i64 (k : Nat))] ∧ L = L0 ∧ k ≤ xs.length) (fun k => xs.length - k) 0 ⟨rfl, rfl, Nat.zero_le _⟩ ?_
  rintro k env L ⟨rfl, rfl, hk⟩
  refine swp_seq ?_
  refine swp_seq ?_
  refine swp_region ?_
  refine s_pu (pu_move rfl) ?_
  refine s_pu (pu_move rfl) ?_
  refine s_pu (pu_len rfl) ?_
  refine s_pu (pu_lss rfl rfl) ?_
  refine swl_sub _ (.cons (t := 0) rfl (.cons (t := 3) rfl (.cons (t := 4) rfl (.cons (t := 8) rfl .nil)))) ?_
  refine swl_nil ?_
  refine then_n ?_
  refine swp_cond (b := _) rfl (fun h8 => ?_) (fun h8 => ?_)
  · skip   -- 8 T
    have h8' : k < xs.length := by have := of_decide_eq_true h8; omega
    obtain ⟨b, off, rfl, hld⟩ := ha (by omega)
    obtain ⟨x, hx⟩ : ∃ x, xs[k]? = some x := ⟨_, List.getElem?_eq_getElem h8'⟩
    refine swp_skip ?_
    refine then_n ?_
    refine swp_seq ?_
    refine swp_block ?_
    refine swp_region ?_
    refine s_pu (pu_move rfl) ?_
    refine s_pu (pu_move rfl) ?_
    refine s_pu (pu_move rfl) ?_
    refine s_pu (pu_indexAddr (off + k * 1) rfl rfl (by omega) (by omega) (by rw [Int.toNat_natCast])) ?_
    refine s_rd (rd_of_ld rfl (by rw [Nat.mul_one]; exact hld k x hx)) ?_
    refine s_ef (ef_fn (rcounts_spec x) rfl rfl (by repeat (first | exact Split.nil | (apply Split.cons; (repeat (first | with_reducible exact Take.here | apply Take.there)))))) ?_
    rintro v1 L1 ⟨rfl, rfl⟩
    refine swl_app ?_
    refine s_pu (pu_max2 rfl rfl) ?_
    refine s_pu (pu_assign rfl) ?_
    refine swl_sub _ (.cons (t := 0) rfl (.cons (t := 3) rfl (.cons (t := 4) rfl .nil))) ?_
    refine swl_nil ?_
    refine block_n ?_
    refine then_n ?_
    refine swp_region ?_
    refine s_pu (pu_move rfl) ?_
    refine s_pu (pu_add_as ((k + 1 : Nat) : Int) rfl rfl (by omega) (by omega) (by omega)) ?_
    refine s_pu (pu_assign rfl) ?_
    refine swl_sub _ (.cons (t := 0) rfl (.cons (t := 3) rfl (.cons (t := 4) rfl .nil))) ?_
    refine swl_nil ?_
    exact then_n ⟨k + 1, ⟨by rw [List.take_add_one, hx]; show _ = [_, (3, Value.int .i64 (hiG (xs.take k ++ [x]))), _]; rw [hiG_append], rfl, h8'⟩, by omega⟩
  · skip   -- 8 F
    have h8' := of_decide_eq_false h8
    obtain rfl : k = xs.length := by omega
    rw [List.take_length]
    refine swp_exit ?_
    refine then_x ?_
    refine then_x ?_
    refine block_hit rfl ?_
    refine then_n ?_
    refine swp_seq ?_
    refine swp_block ?_
    refine swp_seq ?_
    refine swp_region ?_
    refine s_pu (pu_move rfl) ?_
    refine s_pu (pu_eql rfl rfl) ?_
    refine s_pu (pu_assign rfl) ?_
    refine swl_sub _ (.cons (t := 3) rfl (.cons (t := 18) rfl .nil)) ?_
    refine swl_nil ?_
    refine then_n ?_
    refine swp_cond (b := _) rfl (fun h18 => ?_) (fun h18 => ?_)
    · skip   -- 18 T
      refine swp_seq ?_
      refine swp_region ?_
      refine s_pu (pu_assign rfl) ?_
      refine swl_sub _ (.cons (t := 2) rfl .nil) ?_
      refine swl_nil ?_
      refine then_n ?_
      refine swp_ret ?_
      refine block_r ?_
      refine then_r ?_
      have h := of_decide_eq_true h18
      exact done_ret _ (.tmp rfl .nil) ⟨congrArg (Value.int .i64) (by unfold nxt; rw [if_pos (by omega)]; exact h.symm), rfl⟩ Split.all
    · skip   -- 18 F
      refine swp_seq ?_
      refine swp_region ?_
      refine s_pu (pu_move rfl) ?_
      refine s_pu (pu_eql rfl rfl) ?_
      refine s_pu (pu_assign rfl) ?_
      refine swl_sub _ (.cons (t := 3) rfl (.cons (t := 21) rfl .nil)) ?_
      refine swl_nil ?_
      refine then_n ?_
      refine swp_cond (b := _) rfl (fun h21 => ?_) (fun h21 => ?_)
      · skip   -- 21 T
        refine swp_seq ?_
        refine swp_region ?_
        refine s_pu (pu_assign rfl) ?_
        refine swl_sub _ (.cons (t := 2) rfl .nil) ?_
        refine swl_nil ?_
        refine then_n ?_
        refine swp_ret ?_
        refine block_r ?_
        refine then_r ?_
        have h := of_decide_eq_true h21
        exact done_ret _ (.tmp rfl .nil) ⟨congrArg (Value.int .i64) (by unfold nxt; rw [if_pos (by omega)]; exact h.symm), rfl⟩ Split.all
      · skip   -- 21 F
        refine swp_skip ?_
        refine block_n ?_
        refine then_n ?_
        refine swp_seq ?_
        refine swp_region ?_
        refine s_pu (pu_move rfl) ?_
        first | refine s_pu (pu_add_in rfl rfl (by omega) (by omega)) ?_ | refine s_pu (pu_add rfl rfl) ?_
        refine s_pu (pu_assign rfl) ?_
        refine swl_sub _ (.cons (t := 2) rfl .nil) ?_
        refine swl_nil ?_
        refine then_n ?_
        refine swp_ret ?_
        have h := of_decide_eq_false h18
        have h' := of_decide_eq_false h21
        exact done_ret _ (.tmp rfl .nil) ⟨congrArg (Value.int .i64) (by unfold nxt; rw [if_neg (by omega)]), rfl⟩ Split.all
theorem row_at {μ : PH} {v : Value} {G : List (Value × List Int)} (hG : Graph μ v G) {i : Nat} (hi : i < G.length) : ∃ gb off cap x, v = .slice (some ⟨gb, off, none⟩) G.length cap ∧ G[i]? = some x ∧ CellAt μ gb (off + i * 1) x.1 ∧ Row μ x.1 1 x.2.length (x.2.flatMap (icsk .i64)) ∧ (nums G)[i]? = some x.2 := by
  obtain ⟨gb, off, cap, hv, _, _, hr⟩ := hG.1.pos (by omega)
  have hx : G[i]? = some G[i] := List.getElem?_eq_getElem hi
  exact ⟨gb, off, cap, G[i], hv, hx, (hr.elem gcs_len hx).cell, hG.2 _ (List.mem_of_getElem? hx), by rw [List.getElem?_map, hx]; rfl⟩
theorem icells_len' (xs : List Int) : (xs.flatMap (icsk .i64)).length = xs.length * 1 := flat_length (icsk_len .i64) xs
theorem icells_get' {xs : List Int} {k : Nat} {z : Int} (hz : xs[k]? = some z) : (xs.flatMap (icsk .i64))[k]? = some (.int .i64 z) := by
  have := flat_get (icsk_len .i64) xs [] k z hz 0 (.int .i64 z) rfl
  rwa [List.append_nil, Nat.mul_one] at this
theorem icells_drop (xs : List Int) (k : Nat) : (xs.flatMap (icsk .i64)).drop (k * 1) = (xs.drop k).flatMap (icsk .i64) := by
  rw [Nat.mul_one]
  induction xs generalizing k with
  | nil => simp
  | cons a l ih =>
    cases k with
    | zero => rfl
    | succ k => exact ih k
theorem shape_len {v : Value} {l : Nat} (h : Shape v l) : ∃ A cap, v = .slice A l cap := by
  rcases h with ⟨h1, h2⟩ | ⟨b, cap, h1, _⟩
  · exact ⟨none, 0, by rw [h1, h2]⟩
  · exact ⟨_, _, h1⟩
theorem shape_pos {v : Value} {l : Nat} (h : Shape v l) (h0 : 0 < l) : ∃ b cap, v = .slice (some ⟨b, 0, none⟩) l cap := by
  rcases h with ⟨_, h2⟩ | ⟨b, cap, h1, _⟩
  · omega
  · exact ⟨b, cap, h1⟩
/-- the answer: numbers, and the error -/
def moreL (K : List Int) (g : List (List Int)) : List Int := match moreG K g with
  | some all => all.drop K.length
  | none => []
def moreE (K : List Int) (g : List (List Int)) : Int := match moreG K g with
  | some _ => 0
  | none => 1
theorem moreL_some {K a : List Int} {g : List (List Int)} (h : moreG K g = some a) : moreL K g = a.drop K.length ∧ moreE K g = 0 := by unfold moreL moreE; rw [h]; exact ⟨rfl, rfl⟩
theorem moreL_none {K : List Int} {g : List (List Int)} (h : moreG K g = none) : moreL K g = [] ∧ moreE K g = 1 := by unfold moreL moreE; rw [h]; exact ⟨rfl, rfl⟩
theorem nodup_snoc {l : List Int} {i : Nat} {y : Int} (hy : l[i]? = some y) (h : (l.take i).Nodup) : (l.take (i + 1)).Nodup ↔ y ∉ l.take i := by
  rw [List.take_add_one, hy]
  show (l.take i ++ [y]).Nodup ↔ _
  rw [List.nodup_append]
  exact ⟨fun h hm => h.2.2 y hm y (by simp) rfl, fun hn => ⟨h, by simp, fun a ha b hb e => by
    obtain rfl := List.mem_singleton.1 hb
    subst e; exact hn ha⟩⟩
set_option maxHeartbeats 1000000 in
theorem rtwice_spec (μ : PH) (v : Value) (xs : List Int) (n : Nat) (hv : Row μ v 1 xs.length (xs.flatMap (icsk .i64))) (hin : ∀ p ∈ xs, 0 ≤ p ∧ p < n) (hn : n ≤ 1099511627776) :
    Spec Try.prog 29 [v, .int .i64 (n : Nat)] [ro μ] (fun r L => r = .bool (!decide xs.Nodup) ∧ L = [ro μ]) := by
  have hs := hv.small
  refine Spec.of 31 Try.func29 rfl rfl rfl ?_
  refine swp_seq ?_
  refine swp_region ?_
  refine s_pu (pu_assign rfl) ?_
  refine swl_sub _ (.cons (t := 0) rfl (.cons (t := 1) rfl .nil)) ?_
  refine swl_nil ?_
  refine then_n ?_
  refine swp_seq ?_
  refine swp_seq ?_
  refine swp_region ?_
  refine s_pu (pu_move rfl) ?_
  refine s_pu (pu_len_row hv rfl) ?_
  refine s_pu (pu_lss rfl rfl) ?_
  refine swl_sub _ (.cons (t := 0) rfl (.cons (t := 1) rfl (.cons (t := 9) rfl .nil))) ?_
  refine swl_nil ?_
  refine then_n ?_
  refine swp_cond (b := _) rfl (fun h9 => ?_) (fun h9 => ?_)
  · skip   -- 9 T
    refine swp_seq ?_
    refine swp_region ?_
    refine s_pu (pu_assign rfl) ?_
    refine swl_sub _ (.cons (t := 4) rfl .nil) ?_
    refine swl_nil ?_
    refine then_n ?_
    refine swp_ret ?_
    refine then_r ?_
    have h9' := of_decide_eq_true h9
    have hnd : xs.Nodup := by
      match xs, h9' with
      | [], _ => exact .nil
      | [x], _ => simp
      | _ :: _ :: _, h => simp at h; omega
    exact done_ret [ro μ] (.tmp rfl .nil) ⟨by rw [decide_eq_true hnd]; rfl, rfl⟩ (by repeat (first | exact Split.nil | (apply Split.cons; (repeat (first | with_reducible exact Take.here | apply Take.there)))))
  · skip   -- 9 F
    refine swp_skip ?_
    refine then_n ?_
    refine swp_seq ?_
    refine swp_region ?_
    refine s_pu (pu_move rfl) ?_
    refine s_ef (ef_make1 n rfl rfl rfl (by omega) (by simp only [maxLen]; omega)) ?_
    rintro b11
    skip
    refine s_pu (pu_assign rfl) ?_
    refine swl_sub _ (.cons (t := 0) rfl (.cons (t := 5) rfl .nil)) ?_
    rw [rbs_false]
    refine swl_nil ?_
    refine then_n ?_
    refine swp_seq ?_
    refine swp_seq ?_
    refine swp_region ?_
    refine s_pu (pu_assign rfl) ?_
    refine swl_sub _ (.cons (t := 0) rfl (.cons (t := 5) rfl (.cons (t := 6) rfl .nil))) ?_
    refine swl_nil ?_
    refine then_n ?_
    refine swp_block ?_
    have e0 : rbs n (fun _ => false) = rbs n (fun k => decide ((k : Int) ∈ xs.take 0)) := rbs_ext fun j _ => by simp
    rw [e0]
    refine swp_sub _ (.cons (t := 0) rfl (.cons (t := 5) rfl (.cons (t := 6) rfl .nil))) ?_
    refine swp_loop (ι := Nat) (fun i env L => env = [(0, v), (5, .slice (some ⟨b11, 0, none⟩) n n), (6, .int .i64 (i : Nat))] ∧ L = [blk b11 4 (rbs n (fun k => decide ((k : Int) ∈ xs.take i))), ro μ] ∧ i ≤ xs.length ∧ (xs.take i).Nodup) (fun i => xs.length - i) 0 ⟨rfl, rfl, Nat.zero_le _, by simp⟩ ?_
    rintro i env L ⟨rfl, rfl, hi, hnd⟩
    refine swp_seq ?_
    refine swp_seq ?_
    refine swp_region ?_
    refine s_pu (pu_move rfl) ?_
    refine s_pu (pu_move rfl) ?_
    refine s_pu (pu_len_row hv rfl) ?_
    refine s_pu (pu_lss rfl rfl) ?_
    refine swl_sub _ (.cons (t := 0) rfl (.cons (t := 5) rfl (.cons (t := 6) rfl (.cons (t := 15) rfl .nil)))) ?_
    refine swl_nil ?_
    refine then_n ?_
    refine swp_cond (b := _) rfl (fun h15 => ?_) (fun h15 => ?_)
    · skip   -- 15 T
      have h15' : i < xs.length := by have := of_decide_eq_true h15; omega
      obtain ⟨y, hy⟩ : ∃ y, xs[i]? = some y := ⟨_, List.getElem?_eq_getElem h15'⟩
      obtain ⟨yb, yo, yc, hyv, hyc⟩ := hv.at_ hy
      have hyin := hin y (List.mem_of_getElem? hy)
      obtain ⟨k, rfl⟩ : ∃ k : Nat, y = k := ⟨y.toNat, by omega⟩
      have hsn := nodup_snoc hy hnd
      refine swp_skip ?_
      refine then_n ?_
      refine swp_seq ?_
      refine swp_block ?_
      refine swp_seq ?_
      refine swp_seq ?_
      refine swp_region ?_
      refine s_pu (pu_move rfl) ?_
      refine s_pu (pu_move rfl) ?_
      refine s_pu (pu_move rfl) ?_
      refine s_pu (pu_indexAddr (yo + i * 1) (congrArg some hyv) rfl (by omega) (by omega) (by rw [Int.toNat_natCast])) ?_
      refine s_rd (rd_ro rfl hyc) ?_
      refine s_pu (pu_indexAddr k rfl rfl (by omega) (by omega) (by omega)) ?_
      refine s_rd (rd_load rfl (rbs_get _ (by omega))) ?_
      refine swl_sub _ (.cons (t := 0) rfl (.cons (t := 5) rfl (.cons (t := 6) rfl (.cons (t := 24) rfl .nil)))) ?_
      refine swl_nil ?_
      refine then_n ?_
      refine swp_cond (b := _) rfl (fun h24 => ?_) (fun h24 => ?_)
      · skip   -- 24 T
        refine swp_seq ?_
        refine swp_region ?_
        refine s_pu (pu_assign rfl) ?_
        refine swl_sub _ (.cons (t := 4) rfl .nil) ?_
        refine swl_nil ?_
        refine then_n ?_
        refine swp_ret ?_
        refine then_r ?_
        refine block_r ?_
        refine then_r ?_
        refine then_r ?_
        refine block_r ?_
        refine then_r ?_
        have h24' := of_decide_eq_true h24
        have hno : ¬ xs.Nodup := fun h => hsn.1 (h.sublist (List.take_sublist ..)) h24'
        exact done_ret [ro μ] (.tmp rfl .nil) ⟨by rw [decide_eq_false hno]; rfl, rfl⟩ (by repeat (first | exact Split.nil | (apply Split.cons; (repeat (first | with_reducible exact Take.here | apply Take.there)))))
      · skip   -- 24 F
        refine swp_skip ?_
        refine then_n ?_
        refine swp_region ?_
        refine s_pu (pu_move rfl) ?_
        refine s_pu (pu_move rfl) ?_
        refine s_pu (pu_move rfl) ?_
        refine s_pu (pu_indexAddr (yo + i * 1) (congrArg some hyv) rfl (by omega) (by omega) (by rw [Int.toNat_natCast])) ?_
        refine s_rd (rd_ro rfl hyc) ?_
        refine s_pu (pu_indexAddr k rfl rfl (by omega) (by omega) (by omega)) ?_
        refine s_ef0 (ef_storeP rfl rfl rfl (by rw [rbs_len]; omega)) ?_
        refine swl_sub _ (.cons (t := 0) rfl (.cons (t := 5) rfl (.cons (t := 6) rfl .nil))) ?_
        rw [rbs_set (T := fun j => decide ((j : Int) ∈ xs.take (i + 1))) (fun j hj => by
          rw [List.take_add_one, hy]
          by_cases e : j = k
          · subst e; simp
          · have : (j : Int) ≠ k := by omega
            simp [e, this])]
        refine swl_nil ?_
        refine block_n ?_
        refine then_n ?_
        refine swp_region ?_
        refine s_pu (pu_move rfl) ?_
        refine s_pu (pu_add_as ((i + 1 : Nat) : Int) rfl rfl (by omega) (by omega) (by omega)) ?_
        refine s_pu (pu_assign rfl) ?_
        refine swl_sub _ (.cons (t := 0) rfl (.cons (t := 5) rfl (.cons (t := 6) rfl .nil))) ?_
        refine swl_nil ?_
        have h24' := of_decide_eq_false h24
        exact then_n ⟨i + 1, ⟨rfl, rfl, h15', hsn.2 h24'⟩, by omega⟩
    · skip   -- 15 F
      have h15' := of_decide_eq_false h15
      obtain rfl : i = xs.length := by omega
      rw [List.take_length] at hnd
      refine swp_exit ?_
      refine then_x ?_
      refine then_x ?_
      refine block_hit rfl ?_
      refine then_n ?_
      refine swp_seq ?_
      refine swp_region ?_
      refine s_pu (pu_assign rfl) ?_
      refine swl_sub _ (.cons (t := 4) rfl .nil) ?_
      refine swl_nil ?_
      refine then_n ?_
      refine swp_ret ?_
      exact done_ret [ro μ] (.tmp rfl .nil) ⟨by rw [decide_eq_true hnd]; rfl, rfl⟩ (by repeat (first | exact Split.nil | (apply Split.cons; (repeat (first | with_reducible exact Take.here | apply Take.there)))))
set_option maxHeartbeats 2000000 in
theorem rmore_spec (μ : PH) (vk : Value) (K : List Int) (vg : Value) (G : List (Value × List Int)) (hk : Row μ vk 1 K.length (K.flatMap (icsk .i64))) (hl : K.length ≤ 1048576) (hG : Graph μ vg G) (hn : G.length ≤ 1048576) (hrows : ∀ x ∈ G, x.2.length ≤ 17592186043904) :
    Spec Try.prog 23 [vk, vg] [ro μ] (fun r L => ∃ rv μ', r = .tuple #[rv, .int .i64 (moreE K (nums G))] ∧ Le μ μ' ∧ Row μ' rv 1 (moreL K (nums G)).length ((moreL K (nums G)).flatMap (icsk .i64)) ∧ L = [ro μ']) := by
  have hln : (nums G).length = G.length := List.length_map _
  have hsg := hG.1.small
  have hK0 : ([] : List Int).length = 0 := rfl
  refine Spec.of 67 Try.func23 rfl rfl rfl ?_
  refine swp_seq ?_
  refine swp_region ?_
  refine s_pu (pu_assign rfl) ?_
  refine s_pu (pu_assign rfl) ?_
  refine swl_sub _ (.cons (t := 0) rfl (.cons (t := 1) rfl .nil)) ?_
  refine swl_nil ?_
  refine then_n ?_
  refine swp_seq ?_
  refine swp_region ?_
  refine s_ef (ef_bldS (qs := []) rfl rfl rfl) ?_
  intro b11
  refine s_pu (pu_move rfl) ?_
  refine swl_ent (own_empty (e := 3) (n := 1)) ?_
  refine s_ef (ef_append_ro hk rfl rfl (by repeat (first | exact Split.nil | (apply Split.cons; (repeat (first | with_reducible exact Take.here | apply Take.there))))) (icsk_one _) (by simp only [maxLen]; omega) (by omega)) ?_
  rintro v13 -
  rw [Nat.zero_add, List.nil_append]
  refine s_pu (pu_assign rfl) ?_
  refine swl_sub _ (.cons (t := 0) rfl (.cons (t := 1) rfl (.cons (t := 6) rfl .nil))) ?_
  refine swl_nil ?_
  refine then_n ?_
  refine swp_seq ?_
  refine swp_seq ?_
  refine swp_region ?_
  refine s_pu (pu_assign rfl) ?_
  refine swl_sub _ (.cons (t := 0) rfl (.cons (t := 1) rfl (.cons (t := 6) rfl (.cons (t := 7) rfl .nil)))) ?_
  refine swl_nil ?_
  refine then_n ?_
  refine swp_block ?_
  refine swp_loop (ι := Nat × Value × List Int) (fun k env L => env = [(0, vk), (1, vg), (6, k.2.1), (7, .int .i64 (k.1 : Nat))] ∧ L = [own 3 1 k.2.1 k.2.2.length (k.2.2.flatMap (icsk .i64)), ro μ] ∧ k.1 ≤ G.length ∧ moreG K ((nums G).take k.1) = some k.2.2) (fun k => G.length - k.1) (0, v13, K) ⟨rfl, rfl, Nat.zero_le _, rfl⟩ ?_
  rintro ⟨i, v6, a⟩ env L ⟨rfl, rfl, hi, ha⟩
  dsimp only at hi ha ⊢
  have hal := (moreG_len ha).1
  rw [List.length_take, hln, Nat.min_eq_left hi] at hal
  refine swp_fact (fun m h => own_shape .here h) fun hsh => ?_
  have hform := shape_len hsh
  refine swp_seq ?_
  refine swp_seq ?_
  refine swp_region ?_
  refine s_pu (pu_move rfl) ?_
  refine s_pu (pu_move rfl) ?_
  refine s_pu (pu_len_row hG.1 rfl) ?_
  refine s_pu (pu_lss rfl rfl) ?_
  refine swl_sub _ (.cons (t := 0) rfl (.cons (t := 1) rfl (.cons (t := 6) rfl (.cons (t := 7) rfl (.cons (t := 17) rfl .nil))))) ?_
  refine swl_nil ?_
  refine then_n ?_
  refine swp_cond (b := _) rfl (fun h17 => ?_) (fun h17 => ?_)
  · skip   -- 17 T
    have h17' : i < G.length := by have := of_decide_eq_true h17; omega
    obtain ⟨gb, off, cap, x, hv, hx, hxc, hxr, hnx⟩ := row_at hG h17'
    have hxl := hrows x (List.mem_of_getElem? hx)
    have hxs := hxr.small
    have hnext := moreG_at ha hnx
    refine swp_skip ?_
    refine then_n ?_
    refine swp_seq ?_
    refine swp_block ?_
    refine swp_seq ?_
    refine swp_region ?_
    refine s_pu (pu_assign rfl) ?_
    refine swl_sub _ (.cons (t := 0) rfl (.cons (t := 1) rfl (.cons (t := 6) rfl (.cons (t := 7) rfl (.cons (t := 8) rfl .nil))))) ?_
    refine swl_ent (own_nil_ent (e := 3) (n := 1)) ?_
    refine swl_nil ?_
    refine then_n ?_
    refine swp_seq ?_
    refine swp_seq ?_
    refine swp_region ?_
    refine s_pu (pu_assign rfl) ?_
    refine swl_sub _ (.cons (t := 0) rfl (.cons (t := 1) rfl (.cons (t := 6) rfl (.cons (t := 7) rfl (.cons (t := 8) rfl (.cons (t := 9) rfl .nil)))))) ?_
    refine swl_nil ?_
    refine then_n ?_
    refine swp_block ?_
    refine swp_sub _ (.cons (t := 0) rfl (.cons (t := 1) rfl (.cons (t := 6) rfl (.cons (t := 7) rfl (.cons (t := 8) rfl (.cons (t := 9) rfl .nil)))))) ?_
    refine swp_loop (ι := Nat × Value) (fun k env L => env = [(0, vk), (1, vg), (6, v6), (7, .int .i64 (i : Nat)), (8, k.2), (9, .int .i64 (k.1 : Nat))] ∧ L = [own 3 1 k.2 k.1 ((valsG a (x.2.take k.1)).flatMap (icsk .i64)), own 3 1 v6 a.length (a.flatMap (icsk .i64)), ro μ] ∧ k.1 ≤ x.2.length ∧ ∀ p ∈ x.2.take k.1, 0 ≤ p ∧ p < a.length) (fun k => x.2.length - k.1) (0, .slice none 0 0) ⟨rfl, rfl, Nat.zero_le _, fun p hp => by simp at hp⟩ ?_
    rintro ⟨j, v9⟩ env L ⟨rfl, rfl, hj, hrg⟩
    dsimp only at hj hrg ⊢
    refine swp_seq ?_
    refine swp_seq ?_
    refine swp_region ?_
    refine s_pu (pu_move rfl) ?_
    refine s_pu (pu_move rfl) ?_
    refine s_pu (pu_move rfl) ?_
    refine s_pu (pu_indexAddr (off + i * 1) (congrArg some hv) rfl (by omega) (by omega) (by rw [Int.toNat_natCast])) ?_
    refine s_rd (rd_ro rfl hxc) ?_
    refine s_pu (pu_len_row hxr rfl) ?_
    refine s_pu (pu_lss rfl rfl) ?_
    refine swl_sub _ (.cons (t := 0) rfl (.cons (t := 1) rfl (.cons (t := 6) rfl (.cons (t := 7) rfl (.cons (t := 8) rfl (.cons (t := 9) rfl (.cons (t := 26) rfl .nil))))))) ?_
    refine swl_nil ?_
    refine then_n ?_
    refine swp_cond (b := _) rfl (fun h26 => ?_) (fun h26 => ?_)
    · skip   -- 26 T
      have h26' : j < x.2.length := by have := of_decide_eq_true h26; omega
      obtain ⟨y, hy⟩ : ∃ y, x.2[j]? = some y := ⟨_, List.getElem?_eq_getElem h26'⟩
      obtain ⟨yb, yo, yc, hyv, hyc⟩ := hxr.at_ hy
      refine swp_skip ?_
      refine then_n ?_
      refine swp_seq ?_
      refine swp_block ?_
      refine swp_seq ?_
      refine swp_region ?_
      refine s_pu (pu_move rfl) ?_
      refine s_pu (pu_move rfl) ?_
      refine s_pu (pu_indexAddr (off + i * 1) (congrArg some hv) rfl (by omega) (by omega) (by rw [Int.toNat_natCast])) ?_
      refine s_rd (rd_ro rfl hxc) ?_
      refine s_pu (pu_move rfl) ?_
      refine s_pu (pu_indexAddr (yo + j * 1) (congrArg some hyv) rfl (by omega) (by omega) (by rw [Int.toNat_natCast])) ?_
      refine s_rd (rd_ro rfl hyc) ?_
      refine s_pu (pu_assign rfl) ?_
      refine swl_sub _ (.cons (t := 0) rfl (.cons (t := 1) rfl (.cons (t := 6) rfl (.cons (t := 7) rfl (.cons (t := 8) rfl (.cons (t := 9) rfl (.cons (t := 10) rfl .nil))))))) ?_
      refine swl_nil ?_
      refine then_n ?_
      refine swp_seq ?_
      refine swp_seq ?_
      refine swp_region ?_
      refine s_pu (pu_move rfl) ?_
      refine s_pu (pu_lss rfl rfl) ?_
      refine s_pu (pu_move rfl) ?_
      refine s_split 38 rfl (fun h38 => ?_) (fun h38 => ?_)
      · skip   -- 38 T
        refine s_off rfl rfl rfl ?_
        refine s_off rfl rfl rfl ?_
        refine s_off rfl rfl rfl ?_
        refine s_off rfl rfl rfl ?_
        first | refine s_pu (pu_pick_t rfl rfl) ?_ | refine s_pu (pu_pick_f rfl rfl) ?_
        refine swl_sub _ (.cons (t := 0) rfl (.cons (t := 1) rfl (.cons (t := 6) rfl (.cons (t := 7) rfl (.cons (t := 8) rfl (.cons (t := 9) rfl (.cons (t := 10) rfl (.cons (t := 43) rfl .nil)))))))) ?_
        refine swl_nil ?_
        refine then_n ?_
        refine swp_cond (b := _) rfl (fun h43 => ?_) (fun h43 => by cases h43)
        refine swp_seq ?_
        refine swp_region ?_
        refine s_pu (pu_assign rfl) ?_
        refine s_pu (pu_assign rfl) ?_
        refine swl_sub _ (.cons (t := 4) rfl (.cons (t := 5) rfl .nil)) ?_
        refine swl_nil ?_
        refine then_n ?_
        refine swp_ret ?_
        refine then_r ?_
        refine block_r ?_
        refine then_r ?_
        refine then_r ?_
        refine block_r ?_
        refine then_r ?_
        refine block_r ?_
        refine then_r ?_
        refine then_r ?_
        refine block_r ?_
        refine then_r ?_
        have h38' := of_decide_eq_true h38
        rw [if_neg (fun h => by have := (okRow_iff.1 h).1 y (List.mem_of_getElem? hy); omega)] at hnext
        have hno := moreL_none (moreG_none hnext)
        rw [hno.1, hno.2]
        exact done_ret [ro μ] (.tmp rfl (.tmp rfl .nil)) ⟨.slice none 0 0, μ, rfl, Le.refl _, Row.nil _ _, rfl⟩ (by repeat (first | exact Split.nil | (apply Split.cons; (repeat (first | with_reducible exact Take.here | apply Take.there)))))
      · skip   -- 38 F
        refine s_on rfl rfl ?_
        refine s_pu (pu_move rfl) ?_
        refine s_on rfl rfl ?_
        refine s_pu (pu_move rfl) ?_
        refine s_on rfl rfl ?_
        refine s_pu (pu_len_own hform rfl) ?_
        refine s_on rfl rfl ?_
        refine s_pu (pu_geq rfl rfl) ?_
        first | refine s_pu (pu_pick_t rfl rfl) ?_ | refine s_pu (pu_pick_f rfl rfl) ?_
        refine swl_sub _ (.cons (t := 0) rfl (.cons (t := 1) rfl (.cons (t := 6) rfl (.cons (t := 7) rfl (.cons (t := 8) rfl (.cons (t := 9) rfl (.cons (t := 10) rfl (.cons (t := 43) rfl .nil)))))))) ?_
        refine swl_nil ?_
        refine then_n ?_
        refine swp_cond (b := _) rfl (fun h43 => ?_) (fun h43 => ?_)
        · skip   -- 43 T
          refine swp_seq ?_
          refine swp_region ?_
          refine s_pu (pu_assign rfl) ?_
          refine s_pu (pu_assign rfl) ?_
          refine swl_sub _ (.cons (t := 4) rfl (.cons (t := 5) rfl .nil)) ?_
          refine swl_nil ?_
          refine then_n ?_
          refine swp_ret ?_
          refine then_r ?_
          refine block_r ?_
          refine then_r ?_
          refine then_r ?_
          refine block_r ?_
          refine then_r ?_
          refine block_r ?_
          refine then_r ?_
          refine then_r ?_
          refine block_r ?_
          refine then_r ?_
          have h43' := of_decide_eq_true h43
          rw [if_neg (fun h => by have := (okRow_iff.1 h).1 y (List.mem_of_getElem? hy); omega)] at hnext
          have hno := moreL_none (moreG_none hnext)
          rw [hno.1, hno.2]
          exact done_ret [ro μ] (.tmp rfl (.tmp rfl .nil)) ⟨.slice none 0 0, μ, rfl, Le.refl _, Row.nil _ _, rfl⟩ (by repeat (first | exact Split.nil | (apply Split.cons; (repeat (first | with_reducible exact Take.here | apply Take.there)))))
        · skip   -- 43 F
          have h38' := of_decide_eq_false h38
          have h43' := of_decide_eq_false h43
          obtain ⟨ky, rfl⟩ : ∃ k : Nat, y = k := ⟨y.toNat, by omega⟩
          obtain ⟨z, hz⟩ : ∃ z, a[ky]? = some z := ⟨_, List.getElem?_eq_getElem (by omega)⟩
          obtain ⟨ab, ac, hv6⟩ := shape_pos hsh (by omega)
          subst hv6
          refine swp_skip ?_
          refine then_n ?_
          refine swp_region ?_
          refine s_pu (pu_move rfl) ?_
          refine s_pu (pu_move rfl) ?_
          refine s_pu (pu_move rfl) ?_
          refine s_pu (pu_indexAddr ky rfl rfl (by omega) (by omega) (by omega)) ?_
          refine s_rd (rd_of_ld rfl (ld_own (by repeat (first | with_reducible exact Take.here | apply Take.there)) (icells_get' hz))) ?_
          refine s_ef (ef_bldS (qs := [(0, _)]) rfl rfl rfl) ?_
          intro b49
          refine s_ef (ef_append_lit (l := j) (m := 1) rfl rfl (by repeat (first | exact Split.nil | (apply Split.cons; (repeat (first | with_reducible exact Take.here | apply Take.there))))) (by simp only [maxLen]; omega) (by omega)) ?_
          rintro v' hv'
          skip
          refine s_pu (pu_assign rfl) ?_
          refine swl_sub _ (.cons (t := 0) rfl (.cons (t := 1) rfl (.cons (t := 6) rfl (.cons (t := 7) rfl (.cons (t := 8) rfl (.cons (t := 9) rfl .nil)))))) ?_
          have e1 : (valsG a (x.2.take j)).flatMap (icsk .i64) ++ [.int .i64 z] = (valsG a (x.2.take (j + 1))).flatMap (icsk .i64) := by
            rw [List.take_add_one, hy]
            show _ = (valsG a (x.2.take j ++ [(ky : Int)])).flatMap (icsk .i64)
            rw [valsG_append, Int.toNat_natCast, List.getD_eq_getElem?_getD, hz, List.flatMap_append]; rfl
          rw [e1]
          refine swl_nil ?_
          refine block_n ?_
          refine then_n ?_
          refine swp_region ?_
          refine s_pu (pu_move rfl) ?_
          refine s_pu (pu_add_as ((j + 1 : Nat) : Int) rfl rfl (by omega) (by omega) (by omega)) ?_
          refine s_pu (pu_assign rfl) ?_
          refine swl_sub _ (.cons (t := 0) rfl (.cons (t := 1) rfl (.cons (t := 6) rfl (.cons (t := 7) rfl (.cons (t := 8) rfl (.cons (t := 9) rfl .nil)))))) ?_
          refine swl_nil ?_
          exact then_n ⟨(j + 1, v'), ⟨rfl, rfl, h26', fun p hp => by
            rw [List.take_add_one, hy] at hp
            rcases List.mem_append.1 hp with hp | hp
            · exact hrg p hp
            · obtain rfl : p = (ky : Int) := by simpa using hp
              omega⟩, by show x.2.length - (j + 1) < x.2.length - j; omega⟩
    · skip   -- 26 F
      have h26' := of_decide_eq_false h26
      obtain rfl : j = x.2.length := by omega
      rw [List.take_length] at hrg ⊢
      have hvl : (valsG a x.2).length = x.2.length := List.length_map _
      rw [← hvl]
      refine swp_fact (fun m h => own_shape .here h) fun hsh9 => ?_
      refine swp_exit ?_
      refine then_x ?_
      refine then_x ?_
      refine block_hit rfl ?_
      refine then_n ?_
      refine swp_seq ?_
      refine swp_seq ?_
      refine swp_region ?_
      refine s_pu (pu_move rfl) ?_
      refine s_pu (pu_move rfl) ?_
      refine s_pu (pu_indexAddr (off + i * 1) (congrArg some hv) rfl (by omega) (by omega) (by rw [Int.toNat_natCast])) ?_
      refine s_rd (rd_ro rfl hxc) ?_
      refine s_pu (pu_move rfl) ?_
      refine s_pu (pu_len_own hform rfl) ?_
      refine s_ef (ef_fn (rtwice_spec μ x.1 x.2 a.length hxr hrg (by omega)) rfl rfl (by repeat (first | exact Split.nil | (apply Split.cons; (repeat (first | with_reducible exact Take.here | apply Take.there)))))) ?_
      rintro v57 L1 ⟨rfl, rfl⟩
      refine swl_app ?_
      refine swl_sub _ (.cons (t := 0) rfl (.cons (t := 1) rfl (.cons (t := 6) rfl (.cons (t := 7) rfl (.cons (t := 8) rfl (.cons (t := 57) rfl .nil)))))) ?_
      refine swl_nil ?_
      refine then_n ?_
      refine swp_cond (b := _) rfl (fun h57 => ?_) (fun h57 => ?_)
      · skip   -- 57 T
        refine swp_seq ?_
        refine swp_region ?_
        refine s_pu (pu_assign rfl) ?_
        refine s_pu (pu_assign rfl) ?_
        refine swl_sub _ (.cons (t := 4) rfl (.cons (t := 5) rfl .nil)) ?_
        refine swl_nil ?_
        refine then_n ?_
        refine swp_ret ?_
        refine then_r ?_
        refine block_r ?_
        refine then_r ?_
        refine then_r ?_
        refine block_r ?_
        refine then_r ?_
        have h57' : ¬ x.2.Nodup := by simpa using h57
        rw [if_neg (fun h => h57' (okRow_iff.1 h).2)] at hnext
        have hno := moreL_none (moreG_none hnext)
        rw [hno.1, hno.2]
        exact done_ret [ro μ] (.tmp rfl (.tmp rfl .nil)) ⟨.slice none 0 0, μ, rfl, Le.refl _, Row.nil _ _, rfl⟩ (by repeat (first | exact Split.nil | (apply Split.cons; (repeat (first | with_reducible exact Take.here | apply Take.there)))))
      · skip   -- 57 F
        have h57' : x.2.Nodup := by simpa using h57
        rw [if_pos (okRow_iff.2 ⟨hrg, h57'⟩)] at hnext
        refine swp_skip ?_
        refine then_n ?_
        refine swp_region ?_
        refine s_pu (pu_move rfl) ?_
        refine s_pu (pu_move rfl) ?_
        refine s_ef (ef_fn (rnext_spec v9 (valsG a x.2) [own 3 1 v9 (valsG a x.2).length ((valsG a x.2).flatMap (icsk .i64))] (ints_own hsh9 .here)) rfl rfl (by repeat (first | exact Split.nil | (apply Split.cons; (repeat (first | with_reducible exact Take.here | apply Take.there)))))) ?_
        rintro v60 L1 ⟨rfl, rfl⟩
        refine swl_app ?_
        refine s_ef (ef_bldS (qs := [(0, _)]) rfl rfl rfl) ?_
        intro b61
        refine s_ef (ef_append_lit (l := a.length) (m := 1) rfl rfl (by repeat (first | exact Split.nil | (apply Split.cons; (repeat (first | with_reducible exact Take.here | apply Take.there))))) (by simp only [maxLen]; omega) (by omega)) ?_
        rintro v62 hv62
        skip
        refine s_pu (pu_assign rfl) ?_
        refine swl_sub _ (.cons (t := 0) rfl (.cons (t := 1) rfl (.cons (t := 6) rfl (.cons (t := 7) rfl .nil)))) ?_
        rw [show a.flatMap (icsk .i64) ++ [Value.int .i64 (nxt (valsG a x.2))] = (a ++ [nxt (valsG a x.2)]).flatMap (icsk .i64) by rw [List.flatMap_append]; rfl]
        refine swl_ent (Split.ent' (K := [own 3 1 v62 (a.length + 1) ((a ++ [nxt (valsG a x.2)]).flatMap (icsk .i64)), ro μ]) (by repeat (first | exact Split.nil | (apply Split.cons; (repeat (first | with_reducible exact Take.here | apply Take.there)))))) ?_
        refine swl_nil ?_
        refine block_n ?_
        refine then_n ?_
        refine swp_region ?_
        refine s_pu (pu_move rfl) ?_
        refine s_pu (pu_add_as ((i + 1 : Nat) : Int) rfl rfl (by omega) (by omega) (by omega)) ?_
        refine s_pu (pu_assign rfl) ?_
        refine swl_sub _ (.cons (t := 0) rfl (.cons (t := 1) rfl (.cons (t := 6) rfl (.cons (t := 7) rfl .nil)))) ?_
        refine swl_nil ?_
        exact then_n ⟨(i + 1, v62, a ++ [nxt (valsG a x.2)]), ⟨rfl, by rw [List.length_append]; rfl, h17', hnext⟩, by show G.length - (i + 1) < G.length - i; omega⟩
  · skip   -- 17 F
    have h17' := of_decide_eq_false h17
    obtain rfl : i = G.length := by omega
    rw [List.take_of_length_le (by rw [hln]; exact Nat.le_refl _)] at ha
    have hyes := moreL_some ha
    refine swp_share_own (μ := μ) (by repeat (first | exact Split.nil | (apply Split.cons; (repeat (first | with_reducible exact Take.here | apply Take.there))))) fun μ' h' ra => ?_
    obtain ⟨vd, hrd, hpu⟩ := Row.lo (P := Try.prog) (t := 22) ra K.length (by omega)
    rw [icells_drop, show a.length - K.length = (a.drop K.length).length by rw [List.length_drop]] at hrd
    refine swp_exit ?_
    refine then_x ?_
    refine then_x ?_
    refine block_hit rfl ?_
    refine then_n ?_
    refine swp_seq ?_
    refine swp_region ?_
    refine s_pu (pu_move rfl) ?_
    refine s_pu (pu_move rfl) ?_
    refine s_pu (pu_len_row (hk.le h') rfl) ?_
    refine s_pu (hpu _ _ _ .i64 _ rfl rfl rfl) ?_
    refine s_pu (pu_assign rfl) ?_
    refine s_pu (pu_assign rfl) ?_
    refine swl_sub _ (.cons (t := 4) rfl (.cons (t := 5) rfl .nil)) ?_
    refine swl_nil ?_
    refine then_n ?_
    refine swp_ret ?_
    rw [hyes.1, hyes.2]
    exact done_ret [ro μ'] (.tmp rfl (.tmp rfl .nil)) ⟨vd, μ', rfl, h', hrd, rfl⟩ (by repeat (first | exact Split.nil | (apply Split.cons; (repeat (first | with_reducible exact Take.here | apply Take.there)))))
end SX
namespace SX
open Go Go.Proofs

theorem counted_spec (n : Int) : Spec Try.prog 25 [.int .i64 n] [] (fun r L => r = .int .i64 (cnt n) ∧ L = []) := by
  refine Spec.of 7 Try.func25 rfl rfl rfl ?_
  refine swp_seq ?_
  refine swp_region ?_
  refine s_pu (pu_assign rfl) ?_
  refine swl_sub _ (.cons (t := 0) rfl .nil) ?_
  refine swl_nil ?_
  refine then_n ?_
  refine swp_seq ?_
  refine swp_seq ?_
  refine swp_region ?_
  refine s_pu (pu_move rfl) ?_
  refine s_pu (pu_gtr rfl rfl) ?_
  refine swl_sub _ (.cons (t := 0) rfl (.cons (t := 4) rfl .nil)) ?_
  refine swl_nil ?_
  refine then_n ?_
  refine swp_cond (b := _) rfl (fun h4 => ?_) (fun h4 => ?_)
  · skip   -- 4 T
    refine swp_seq ?_
    refine swp_region ?_
    refine s_pu (pu_assign rfl) ?_
    refine swl_sub _ (.cons (t := 2) rfl .nil) ?_
    refine swl_nil ?_
    refine then_n ?_
    refine swp_ret ?_
    refine then_r ?_
    have h := of_decide_eq_true h4
    exact done_ret [] (.tmp rfl .nil) ⟨by unfold cnt; rw [if_pos h]; rfl, rfl⟩ (by repeat (first | exact Split.nil | (apply Split.cons; (repeat (first | with_reducible exact Take.here | apply Take.there)))))
  · skip   -- 4 F
    refine swp_skip ?_
    refine then_n ?_
    refine swp_seq ?_
    refine swp_region ?_
    refine s_pu (pu_move rfl) ?_
    refine s_pu (pu_max2 rfl rfl) ?_
    refine s_pu (pu_assign rfl) ?_
    refine swl_sub _ (.cons (t := 2) rfl .nil) ?_
    refine swl_nil ?_
    refine then_n ?_
    refine swp_ret ?_
    have h := of_decide_eq_false h4
    exact done_ret [] (.tmp rfl .nil) ⟨by unfold cnt; rw [if_neg h]; rfl, rfl⟩ (by repeat (first | exact Split.nil | (apply Split.cons; (repeat (first | with_reducible exact Take.here | apply Take.there)))))
theorem next_spec (v : Value) (xs : List Int) (L0 : List Assn) (hv : Ints Try.prog 3 L0 v xs) : Spec Try.prog 12 [v] L0 (fun r L => r = .int .i64 (nxt xs) ∧ L = L0) := by
  obtain ⟨A, cap, rfl, hl, ha⟩ := hv
  refine Spec.of 22 Try.func12 rfl rfl rfl ?_
  refine swp_seq ?_
  refine swp_region ?_
  refine s_pu (pu_assign rfl) ?_
  refine swl_sub _ (.cons (t := 0) rfl .nil) ?_
  refine swl_nil ?_
  refine then_n ?_
  refine swp_seq ?_
  refine swp_region ?_
  refine s_pu (pu_assign rfl) ?_
  refine swl_sub _ (.cons (t := 0) rfl (.cons (t := 3) rfl .nil)) ?_
  refine swl_nil ?_
  refine then_n ?_
  refine swp_seq ?_
  refine swp_seq ?_
  refine swp_region ?_
  refine s_pu (pu_move rfl) ?_
  refine s_pu (pu_len rfl) ?_
  refine s_pu (pu_move rfl) ?_
  refine swl_sub _ (.cons (t := 3) rfl (.cons (t := 6) rfl (.cons (t := 7) rfl (.cons (t := 8) rfl .nil)))) ?_
  refine swl_nil ?_
  refine then_n ?_
  refine swp_block ?_
  refine swp_loop (ι := Nat) (fun k env L => env = [(3, .int .i64 (hiG (xs.take k))), (6, .slice A xs.length cap), (7, .int .i64 (xs.length : Nat)), (8, .int .i64 (k : Nat))] ∧ L = L0 ∧ k ≤ xs.length) (fun k => xs.length - k) 0 ⟨rfl, rfl, Nat.zero_le _⟩ ?_
  rintro k env L ⟨rfl, rfl, hk⟩
  refine swp_seq ?_
  refine swp_region ?_
  refine s_pu (pu_lss rfl rfl) ?_
  refine swl_sub _ (.cons (t := 3) rfl (.cons (t := 6) rfl (.cons (t := 7) rfl (.cons (t := 8) rfl (.cons (t := 9) rfl .nil))))) ?_
  refine swl_nil ?_
  refine then_n ?_
  refine swp_seq ?_
  refine swp_cond (b := _) rfl (fun h9 => ?_) (fun h9 => ?_)
  · skip   -- 9 T
    have h9' : k < xs.length := by have := of_decide_eq_true h9; omega
    obtain ⟨b, off, rfl, hld⟩ := ha (by omega)
    obtain ⟨x, hx⟩ : ∃ x, xs[k]? = some x := ⟨_, List.getElem?_eq_getElem h9'⟩
    refine swp_skip ?_
    refine then_n ?_
    refine swp_seq ?_
    refine swp_block ?_
    refine swp_seq ?_
    refine swp_region ?_
    refine s_pu (pu_indexAddr (off + k * 1) rfl rfl (by omega) (by omega) (by rw [Int.toNat_natCast])) ?_
    refine s_rd (rd_of_ld rfl (by rw [Nat.mul_one]; exact hld k x hx)) ?_
    refine s_pu (pu_assign rfl) ?_
    refine swl_sub _ (.cons (t := 3) rfl (.cons (t := 5) rfl (.cons (t := 6) rfl (.cons (t := 7) rfl (.cons (t := 8) rfl .nil))))) ?_
    refine swl_nil ?_
    refine then_n ?_
    refine swp_region ?_
    refine s_pu (pu_move rfl) ?_
    refine s_pu (pu_move rfl) ?_
    refine s_ef (ef_fn (counted_spec x) rfl rfl (by repeat (first | exact Split.nil | (apply Split.cons; (repeat (first | with_reducible exact Take.here | apply Take.there)))))) ?_
    rintro v1 L1 ⟨rfl, rfl⟩
    refine swl_app ?_
    refine s_pu (pu_max2 rfl rfl) ?_
    refine s_pu (pu_assign rfl) ?_
    refine swl_sub _ (.cons (t := 3) rfl (.cons (t := 6) rfl (.cons (t := 7) rfl (.cons (t := 8) rfl .nil)))) ?_
    refine swl_nil ?_
    refine block_n ?_
    refine then_n ?_
    refine swp_region ?_
    refine s_pu (pu_add_as ((k + 1 : Nat) : Int) rfl rfl (by omega) (by omega) (by omega)) ?_
    refine s_pu (pu_move rfl) ?_
    refine swl_sub _ (.cons (t := 3) rfl (.cons (t := 6) rfl (.cons (t := 7) rfl (.cons (t := 8) rfl .nil)))) ?_
    refine swl_nil ?_
    exact then_n ⟨k + 1, ⟨by rw [List.take_add_one, hx]; show _ = [(3, Value.int .i64 (hiG (xs.take k ++ [x]))), _, _, _]; rw [hiG_append], rfl, h9'⟩, by omega⟩
  · skip   -- 9 F
    have h9' := of_decide_eq_false h9
    obtain rfl : k = xs.length := by omega
    rw [List.take_length]
    refine swp_exit ?_
    refine then_x ?_
    refine then_x ?_
    refine block_hit rfl ?_
    refine then_n ?_
    refine swp_seq ?_
    refine swp_seq ?_
    refine swp_region ?_
    refine s_pu (pu_move rfl) ?_
    refine s_pu (pu_geq rfl rfl) ?_
    refine swl_sub _ (.cons (t := 3) rfl (.cons (t := 18) rfl .nil)) ?_
    refine swl_nil ?_
    refine then_n ?_
    refine swp_cond (b := _) rfl (fun h18 => ?_) (fun h18 => ?_)
    · skip   -- 18 T
      refine swp_seq ?_
      refine swp_region ?_
      refine s_pu (pu_move rfl) ?_
      refine s_pu (pu_assign rfl) ?_
      refine swl_sub _ (.cons (t := 2) rfl .nil) ?_
      refine swl_nil ?_
      refine then_n ?_
      refine swp_ret ?_
      refine then_r ?_
      have h := of_decide_eq_true h18
      exact done_ret _ (.tmp rfl .nil) ⟨by unfold nxt; rw [if_pos h]; rfl, rfl⟩ Split.all
    · skip   -- 18 F
      refine swp_skip ?_
      refine then_n ?_
      refine swp_seq ?_
      have hr := hiG_range xs
      refine swp_region ?_
      refine s_pu (pu_move rfl) ?_
      first | refine s_pu (pu_add_in rfl rfl (by omega) (by omega)) ?_ | refine s_pu (pu_add rfl rfl) ?_
      refine s_pu (pu_assign rfl) ?_
      refine swl_sub _ (.cons (t := 2) rfl .nil) ?_
      refine swl_nil ?_
      refine then_n ?_
      refine swp_ret ?_
      have h := of_decide_eq_false h18
      exact done_ret _ (.tmp rfl .nil) ⟨by unfold nxt; rw [if_neg h]; rfl, rfl⟩ Split.all
theorem may_spec (a b : Int) : Spec Try.prog 15 [.int .i64 a, .int .i64 b] [] (fun r L => r = .bool (mayG a b) ∧ L = []) := by
  refine Spec.of 21 Try.func15 rfl rfl rfl ?_
  refine swp_seq ?_
  refine swp_region ?_
  refine s_pu (pu_assign rfl) ?_
  refine swl_sub _ (.cons (t := 0) rfl (.cons (t := 1) rfl .nil)) ?_
  refine swl_nil ?_
  refine then_n ?_
  refine swp_seq ?_
  refine swp_region ?_
  refine s_pu (pu_move rfl) ?_
  refine s_ef (ef_fn (counted_spec a) rfl rfl (by repeat (first | exact Split.nil | (apply Split.cons; (repeat (first | with_reducible exact Take.here | apply Take.there)))))) ?_
  rintro v1 L1 ⟨rfl, rfl⟩
  refine swl_app ?_
  refine s_pu (pu_move rfl) ?_
  refine s_ef (ef_fn (counted_spec b) rfl rfl (by repeat (first | exact Split.nil | (apply Split.cons; (repeat (first | with_reducible exact Take.here | apply Take.there)))))) ?_
  rintro v1 L1 ⟨rfl, rfl⟩
  refine swl_app ?_
  refine s_pu (pu_assign rfl) ?_
  refine s_pu (pu_assign rfl) ?_
  refine swl_sub _ (.cons (t := 0) rfl (.cons (t := 1) rfl .nil)) ?_
  refine swl_nil ?_
  refine then_n ?_
  refine swp_seq ?_
  refine swp_block ?_
  refine swp_seq ?_
  refine swp_region ?_
  refine s_pu (pu_move rfl) ?_
  refine s_pu (pu_eql rfl rfl) ?_
  refine s_pu (pu_assign rfl) ?_
  refine swl_sub _ (.cons (t := 0) rfl (.cons (t := 1) rfl (.cons (t := 9) rfl .nil))) ?_
  refine swl_nil ?_
  refine then_n ?_
  refine swp_cond (b := _) rfl (fun h9 => ?_) (fun h9 => ?_)
  · skip   -- 9 T
    refine swp_seq ?_
    refine swp_region ?_
    refine s_pu (pu_assign rfl) ?_
    refine swl_sub _ (.cons (t := 4) rfl .nil) ?_
    refine swl_nil ?_
    refine then_n ?_
    refine swp_ret ?_
    refine block_r ?_
    refine then_r ?_
    have h := of_decide_eq_true h9
    exact done_ret [] (.tmp rfl .nil) ⟨by unfold mayG; rw [if_pos h]; rfl, rfl⟩ (by repeat (first | exact Split.nil | (apply Split.cons; (repeat (first | with_reducible exact Take.here | apply Take.there)))))
  · skip   -- 9 F
    refine swp_seq ?_
    refine swp_region ?_
    refine s_pu (pu_move rfl) ?_
    refine s_pu (pu_eql rfl rfl) ?_
    refine s_pu (pu_assign rfl) ?_
    refine swl_sub _ (.cons (t := 0) rfl (.cons (t := 1) rfl (.cons (t := 12) rfl .nil))) ?_
    refine swl_nil ?_
    refine then_n ?_
    refine swp_cond (b := _) rfl (fun h12 => ?_) (fun h12 => ?_)
    · skip   -- 12 T
      refine swp_seq ?_
      refine swp_region ?_
      refine s_pu (pu_assign rfl) ?_
      refine swl_sub _ (.cons (t := 4) rfl .nil) ?_
      refine swl_nil ?_
      refine then_n ?_
      refine swp_ret ?_
      refine block_r ?_
      refine then_r ?_
      have h := of_decide_eq_false h9
      have h' := of_decide_eq_true h12
      exact done_ret [] (.tmp rfl .nil) ⟨by unfold mayG; rw [if_neg h, if_pos h']; rfl, rfl⟩ (by repeat (first | exact Split.nil | (apply Split.cons; (repeat (first | with_reducible exact Take.here | apply Take.there)))))
    · skip   -- 12 F
      refine swp_seq ?_
      refine swp_region ?_
      refine s_pu (pu_move rfl) ?_
      refine s_pu (pu_eql rfl rfl) ?_
      refine s_pu (pu_assign rfl) ?_
      refine swl_sub _ (.cons (t := 0) rfl (.cons (t := 1) rfl (.cons (t := 15) rfl .nil))) ?_
      refine swl_nil ?_
      refine then_n ?_
      refine swp_cond (b := _) rfl (fun h15 => ?_) (fun h15 => ?_)
      · skip   -- 15 T
        refine swp_seq ?_
        refine swp_region ?_
        refine s_pu (pu_assign rfl) ?_
        refine swl_sub _ (.cons (t := 4) rfl .nil) ?_
        refine swl_nil ?_
        refine then_n ?_
        refine swp_ret ?_
        refine block_r ?_
        refine then_r ?_
        have h := of_decide_eq_false h9
        have h' := of_decide_eq_false h12
        have h'' := of_decide_eq_true h15
        exact done_ret [] (.tmp rfl .nil) ⟨by unfold mayG; rw [if_neg h, if_neg h', if_pos h'']; rfl, rfl⟩ (by repeat (first | exact Split.nil | (apply Split.cons; (repeat (first | with_reducible exact Take.here | apply Take.there)))))
      · skip   -- 15 F
        refine swp_skip ?_
        refine block_n ?_
        refine then_n ?_
        refine swp_seq ?_
        refine swp_region ?_
        refine s_pu (pu_move rfl) ?_
        refine s_pu (pu_move rfl) ?_
        refine s_pu (pu_gtr rfl rfl) ?_
        refine s_pu (pu_assign rfl) ?_
        refine swl_sub _ (.cons (t := 4) rfl .nil) ?_
        refine swl_nil ?_
        refine then_n ?_
        refine swp_ret ?_
        have h := of_decide_eq_false h9
        have h' := of_decide_eq_false h12
        have h'' := of_decide_eq_false h15
        exact done_ret [] (.tmp rfl .nil) ⟨by unfold mayG; rw [if_neg h, if_neg h', if_neg h'']; rfl, rfl⟩ (by repeat (first | exact Split.nil | (apply Split.cons; (repeat (first | with_reducible exact Take.here | apply Take.there)))))
end SX
namespace SX
open Go Go.Proofs

theorem values_spec (μ : PH) (v : Value) (hv : ∃ A l c, v = .slice A l c) : Spec Try.prog 31 [v] [ro μ] (fun r L => ∃ b μ', r = .func (.func 34) #[] #[.pointer (some ⟨b, 0, none⟩)] ∧ Le μ μ' ∧ CellAt μ' b 0 v ∧ L = [ro μ']) := by
  obtain ⟨A, l, c, rfl⟩ := hv
  refine Spec.of 4 Try.func31 rfl rfl rfl ?_
  refine swp_seq ?_
  refine swp_region ?_
  refine s_ef (ef_box rfl rfl) ?_
  intro b1
  refine s_pu (pu_assign rfl) ?_
  refine swl_sub _ (.cons (t := 1) rfl .nil) ?_
  refine swl_share (b := b1) (μ := μ) (by repeat (first | exact Split.nil | (apply Split.cons; (repeat (first | with_reducible exact Take.here | apply Take.there))))) fun μ' h1 k1 => ?_
  refine swl_nil ?_
  refine then_n ?_
  refine swp_seq ?_
  refine swp_region ?_
  refine s_pu (pu_func (vs := []) (us := [_]) rfl rfl) ?_
  refine s_pu (pu_assign rfl) ?_
  refine swl_sub _ (.cons (t := 2) rfl .nil) ?_
  refine swl_nil ?_
  refine then_n ?_
  refine swp_ret ?_
  exact done_ret [ro μ'] (.tmp rfl .nil) ⟨b1, μ', rfl, h1, ⟨_, _, _, k1, rfl⟩, rfl⟩ (by repeat (first | exact Split.nil | (apply Split.cons; (repeat (first | with_reducible exact Take.here | apply Take.there)))))
theorem values_iter (μ : PH) (b : Nat) (v : Value) (xs : List Int) (hb : CellAt μ b 0 v) (hv : Row μ v 1 xs.length (xs.flatMap (icsk .i64))) :
    IterG Try.prog 34 [.pointer (some ⟨b, 0, none⟩)] (fun x : Int => [.int .i64 x]) (fun pre x => ∃ post, xs = pre ++ x :: post) (fun ys => ys = xs) [ro μ] (fun _ _ => ro μ) (fun _ _ => ro μ) (fun _ => ro μ) := by
  intro l I X R h0 hy
  have hs := hv.small
  obtain ⟨A, cap, hA⟩ := hv.sl
  refine Spec.of 16 Try.func34 rfl rfl rfl ?_
  refine swp_ent (L' := [ro μ, R]) (Ent.refl _) ?_
  refine swp_seq ?_
  refine swp_region ?_
  refine s_rd (rd_ro rfl hb) ?_
  refine s_pu (pu_len_row hv rfl) ?_
  refine s_pu (pu_move rfl) ?_
  refine swl_sub _ (.cons (t := 0) rfl (.cons (t := 5) rfl (.cons (t := 6) rfl (.cons (t := 7) rfl .nil)))) ?_
  refine swl_nil ?_
  refine then_n ?_
  refine swp_block ?_
  refine swp_ent ((Ent.cons h0).trans (Ent.perm (.swap _ _ _))) ?_
  refine swp_loop (ι := Nat) (fun k env L => env = [(0, yv l), (5, v), (6, .int .i64 (xs.length : Nat)), (7, .int .i64 (k : Nat))] ∧ L = [I (xs.take k), ro μ] ∧ k ≤ xs.length) (fun k => xs.length - k) 0 ⟨rfl, rfl, Nat.zero_le _⟩ ?_
  rintro k env L ⟨rfl, rfl, hk⟩
  refine swp_seq ?_
  refine swp_region ?_
  refine s_pu (pu_lss rfl rfl) ?_
  refine swl_sub _ (.cons (t := 0) rfl (.cons (t := 5) rfl (.cons (t := 6) rfl (.cons (t := 7) rfl (.cons (t := 8) rfl .nil))))) ?_
  refine swl_nil ?_
  refine then_n ?_
  refine swp_seq ?_
  refine swp_cond (b := _) rfl (fun h8 => ?_) (fun h8 => ?_)
  · skip   -- 8 T
    have h8' : k < xs.length := by have := of_decide_eq_true h8; omega
    obtain ⟨x, hx⟩ : ∃ x, xs[k]? = some x := ⟨_, List.getElem?_eq_getElem h8'⟩
    obtain ⟨xb, xo, xc, hxv, hxc⟩ := hv.at_ hx
    have hok : ∃ post, xs = xs.take k ++ x :: post := ⟨xs.drop (k + 1), by
      have e : xs[k] = x := (List.getElem?_eq_some_iff.1 hx).2
      rw [← e, ← List.drop_eq_getElem_cons h8', List.take_append_drop]⟩
    rw [hxv]
    refine swp_skip ?_
    refine then_n ?_
    refine swp_seq ?_
    refine swp_block ?_
    refine swp_seq ?_
    refine swp_region ?_
    refine s_pu (pu_indexAddr (xo + k * 1) rfl rfl (by omega) (by omega) (by rw [Int.toNat_natCast])) ?_
    refine s_rd (rd_ro rfl hxc) ?_
    refine s_pu (pu_assign rfl) ?_
    refine swl_sub _ (.cons (t := 0) rfl (.cons (t := 4) rfl (.cons (t := 5) rfl (.cons (t := 6) rfl (.cons (t := 7) rfl .nil))))) ?_
    refine swl_nil ?_
    refine then_n ?_
    refine swp_seq ?_
    refine swp_region ?_
    refine s_pu (pu_move rfl) ?_
    refine s_pu (pu_move rfl) ?_
    refine s_ef (ef_yield (hy (xs.take k) x hok) rfl rfl (by repeat (first | exact Split.nil | (apply Split.cons; (repeat (first | with_reducible exact Take.here | apply Take.there)))))) ?_
    rintro v1 L1 (⟨rfl, rfl⟩ | ⟨rfl, rfl⟩)
    · skip
      refine swl_app ?_
      refine s_pu (pu_not rfl) ?_
      refine swl_sub _ (.cons (t := 0) rfl (.cons (t := 5) rfl (.cons (t := 6) rfl (.cons (t := 7) rfl (.cons (t := 14) rfl .nil))))) ?_
      refine swl_nil ?_
      refine then_n ?_
      refine swp_cond (b := _) rfl (fun h14 => by cases h14) (fun h14 => ?_)
      refine swp_skip ?_
      refine block_n ?_
      refine then_n ?_
      refine swp_region ?_
      refine s_pu (pu_add_as ((k + 1 : Nat) : Int) rfl rfl (by omega) (by omega) (by omega)) ?_
      refine s_pu (pu_move rfl) ?_
      refine swl_sub _ (.cons (t := 0) rfl (.cons (t := 5) rfl (.cons (t := 6) rfl (.cons (t := 7) rfl .nil)))) ?_
      refine swl_nil ?_
      exact then_n ⟨k + 1, ⟨rfl, by rw [List.take_add_one, hx]; rfl, h8'⟩, by omega⟩
    · skip
      refine swl_app ?_
      refine s_pu (pu_not rfl) ?_
      refine swl_sub _ (.cons (t := 0) rfl (.cons (t := 5) rfl (.cons (t := 6) rfl (.cons (t := 7) rfl (.cons (t := 14) rfl .nil))))) ?_
      refine swl_nil ?_
      refine then_n ?_
      refine swp_cond (b := _) rfl (fun h14 => ?_) (fun h14 => by cases h14)
      refine swp_ret ?_
      refine block_r ?_
      refine then_r ?_
      refine then_r ?_
      refine block_r ?_
      exact done_ret [X] .nil (.inr rfl) (by repeat (first | exact Split.nil | (apply Split.cons; (repeat (first | with_reducible exact Take.here | apply Take.there)))))
  · skip   -- 8 F
    have h8' := of_decide_eq_false h8
    obtain rfl : k = xs.length := by omega
    rw [List.take_length]
    refine swp_exit ?_
    refine then_x ?_
    refine then_x ?_
    refine block_hit rfl ?_
    exact done_end [I xs, ro μ] .nil (.inl ⟨xs, rfl, rfl⟩) (by repeat (first | exact Split.nil | (apply Split.cons; (repeat (first | with_reducible exact Take.here | apply Take.there)))))
theorem ints_one (xs : List Int) (x : Int) : xs.flatMap (icsk .i64) ++ [.int .i64 x] = (xs ++ [x]).flatMap (icsk .i64) := by rw [List.flatMap_append]; rfl
theorem appseq_spec (μ : PH) (b : Nat) (v : Value) (xs : List Int) (hb : CellAt μ b 0 v) (hv : Row μ v 1 xs.length (xs.flatMap (icsk .i64))) (hl : xs.length ≤ 17592186043904) :
    Spec Try.prog 35 [.slice none 0 0, .func (.func 34) #[] #[.pointer (some ⟨b, 0, none⟩)]] [ro μ] (fun r L => L = [own 3 1 r xs.length (xs.flatMap (icsk .i64)), ro μ]) := by
  refine Spec.of 13 Try.func35 rfl rfl rfl ?_
  refine swp_seq ?_
  refine swp_region ?_
  refine s_ef (ef_box rfl rfl) ?_
  intro b2
  refine s_pu (pu_assign rfl) ?_
  refine swl_sub _ (.cons (t := 1) rfl (.cons (t := 2) rfl .nil)) ?_
  refine swl_ent (own_nil_ent (e := 3) (n := 1)) ?_
  refine swl_nil ?_
  refine then_n ?_
  refine swp_seq ?_
  refine swp_seq ?_
  refine swp_region ?_
  refine s_pu (pu_move rfl) ?_
  refine swl_sub _ (.cons (t := 2) rfl (.cons (t := 6) rfl .nil)) ?_
  refine swl_nil ?_
  refine then_n ?_
  refine swp_block ?_
  refine swp_rangeG (values_iter μ b v xs hb hv) (B := [own 3 1 (.slice none 0 0) 0 [], blk b2 22 [.slice none 0 0]]) (fun pre => exA fun u : Value => [blk b2 22 [u], own 3 1 u pre.length (pre.flatMap (icsk .i64))]) (fun _ => False) (fun _ _ => False) rfl rfl (fun _ => rfl) (Split.ent (by repeat (first | exact Split.nil | (apply Split.cons; (repeat (first | with_reducible exact Take.here | apply Take.there)))))) (Ent.swap.trans (ent_ex1 (F := fun u : Value => [blk b2 22 [u], own 3 1 u ([] : List Int).length (([] : List Int).flatMap (icsk .i64))]) (.slice none 0 0))) ?_ ?_ ?_ ?_
  · skip
    rintro ln pre x ⟨post, hpost⟩
    refine swp_ent star2 ?_
    refine swp_ex fun u => ?_
    refine swp_app ?_
    have hpl : pre.length < xs.length := by rw [hpost]; simp
    refine swp_front (A := own 3 1 u pre.length (pre.flatMap (icsk .i64))) (by repeat (first | with_reducible exact Take.here | apply Take.there)) ?_
    refine swp_fact (fun m h => own_form h) fun ⟨A, cap, hu⟩ => ?_
    subst hu
    refine swp_region ?_
    refine s_pu (pu_assign rfl) ?_
    refine swl_sub _ (.cons (t := 2) rfl (.cons (t := 5) rfl .nil)) ?_
    refine swl_nil ?_
    refine then_n ?_
    refine swp_block ?_
    refine swp_region ?_
    refine s_rd (rd_load rfl rfl) ?_
    refine s_pu (pu_move rfl) ?_
    refine s_ef (ef_bldS (qs := [(0, _)]) rfl rfl rfl) ?_
    intro b10
    refine s_ef (ef_append_lit (l := pre.length) (m := 1) rfl rfl (by repeat (first | exact Split.nil | (apply Split.cons; (repeat (first | with_reducible exact Take.here | apply Take.there))))) (by simp only [maxLen]; omega) (by omega)) ?_
    rintro v' hv'
    obtain ⟨g, cap', rfl⟩ := hv' (by omega)
    refine s_ef0 (ef_store rfl rfl rfl) ?_
    refine swl_sub _ .nil ?_
    rw [ints_one]
    refine swl_nil ?_
    refine block_n ?_
    refine rnd_n ?_
    refine (Split.ent' (K := [blk b2 22 [.slice (some ⟨g, 0, none⟩) (pre.length + 1) cap'], own 3 1 (.slice (some ⟨g, 0, none⟩) (pre.length + 1) cap') (pre.length + 1) ((pre ++ [x]).flatMap (icsk .i64)), ro μ]) (by repeat (first | exact Split.nil | (apply Split.cons; (repeat (first | with_reducible exact Take.here | apply Take.there)))))).trans ?_
    have e := ent_ex (F := fun u : Value => [blk b2 22 [u], own 3 1 u (pre ++ [x]).length ((pre ++ [x]).flatMap (icsk .i64))]) (L := [blk b2 22 [.slice (some ⟨g, 0, none⟩) (pre.length + 1) cap'], own 3 1 (.slice (some ⟨g, 0, none⟩) (pre.length + 1) cap') (pre ++ [x]).length ((pre ++ [x]).flatMap (icsk .i64)), ro μ]) (R := [ro μ]) (.slice (some ⟨g, 0, none⟩) (pre.length + 1) cap') (by repeat (first | exact Split.nil | (apply Split.cons; (repeat (first | with_reducible exact Take.here | apply Take.there)))))
    rw [List.length_append, List.length_singleton] at e
    refine e.trans ?_
    rw [show pre.length + 1 = (pre ++ [x]).length by simp]
    exact star_close1
  · skip
    rintro ys rfl
    refine block_n ?_
    refine then_n ?_
    refine swp_seq ?_
    refine swp_ex fun u => ?_
    refine swp_app ?_
    refine swp_region ?_
    refine s_rd (rd_load rfl rfl) ?_
    refine s_pu (pu_assign rfl) ?_
    refine swl_sub _ (.cons (t := 4) rfl .nil) ?_
    refine swl_nil ?_
    refine then_n ?_
    refine swp_ret ?_
    exact done_ret [own 3 1 u ys.length (ys.flatMap (icsk .i64)), ro μ] (.tmp rfl .nil) rfl (by repeat (first | exact Split.nil | (apply Split.cons; (repeat (first | with_reducible exact Take.here | apply Take.there)))))
  · exact swp_fact (p := False) (fun m h => by obtain ⟨_, _, h, _⟩ := h; exact h) False.elim
  · exact fun i => swp_fact (p := False) (fun m h => by obtain ⟨_, _, h, _⟩ := h; exact h) False.elim
theorem collect_spec (μ : PH) (b : Nat) (v : Value) (xs : List Int) (hb : CellAt μ b 0 v) (hv : Row μ v 1 xs.length (xs.flatMap (icsk .i64))) (hl : xs.length ≤ 17592186043904) :
    Spec Try.prog 32 [.func (.func 34) #[] #[.pointer (some ⟨b, 0, none⟩)]] [ro μ] (fun r L => L = [own 3 1 r xs.length (xs.flatMap (icsk .i64)), ro μ]) := by
  refine Spec.of 5 Try.func32 rfl rfl rfl ?_
  refine swp_seq ?_
  refine swp_region ?_
  refine s_pu (pu_assign rfl) ?_
  refine swl_sub _ (.cons (t := 0) rfl .nil) ?_
  refine swl_nil ?_
  refine then_n ?_
  refine swp_seq ?_
  refine swp_region ?_
  refine s_pu (pu_move rfl) ?_
  refine s_ef (ef_fn (appseq_spec μ b v xs hb hv hl) rfl rfl (by repeat (first | exact Split.nil | (apply Split.cons; (repeat (first | with_reducible exact Take.here | apply Take.there)))))) ?_
  rintro v1 L1 rfl
  refine swl_app ?_
  refine s_pu (pu_assign rfl) ?_
  refine swl_sub _ (.cons (t := 2) rfl .nil) ?_
  refine swl_nil ?_
  refine then_n ?_
  refine swp_ret ?_
  exact done_ret [own 3 1 v1 xs.length (xs.flatMap (icsk .i64)), ro μ] (.tmp rfl .nil) rfl (by repeat (first | exact Split.nil | (apply Split.cons; (repeat (first | with_reducible exact Take.here | apply Take.there)))))
/-- a copy of a slice that may be read -/
theorem clone_ro (μ : PH) (v : Value) (xs : List Int) (hv : Row μ v 1 xs.length (xs.flatMap (icsk .i64))) (hl : xs.length ≤ 17592186043904) :
    Spec Try.prog 27 [v] [ro μ] (fun r L => L = [own 3 1 r xs.length (xs.flatMap (icsk .i64)), ro μ]) := by
  obtain ⟨A, cap, rfl⟩ := hv.sl
  refine Spec.of 8 Try.func27 rfl rfl rfl ?_
  refine swp_seq ?_
  refine swp_region ?_
  refine s_pu (pu_assign rfl) ?_
  refine swl_sub _ (.cons (t := 0) rfl .nil) ?_
  refine swl_nil ?_
  refine then_n ?_
  refine swp_seq ?_
  refine swp_seq ?_
  refine swp_region ?_
  refine s_pu (pu_move rfl) ?_
  refine s_pu (pu_sl_eq_nil rfl rfl) ?_
  refine swl_sub _ (.cons (t := 0) rfl (.cons (t := 4) rfl .nil)) ?_
  refine swl_nil ?_
  refine then_n ?_
  refine swp_cond (b := _) rfl (fun h4 => ?_) (fun h4 => ?_)
  · skip   -- 4 T
    refine swp_seq ?_
    refine swp_region ?_
    refine s_pu (pu_assign rfl) ?_
    refine swl_sub _ (.cons (t := 2) rfl .nil) ?_
    refine swl_nil ?_
    refine then_n ?_
    refine swp_ret ?_
    refine then_r ?_
    have hA : A = none := by cases A <;> simp_all
    subst hA
    have h0 : xs = [] := by
      cases xs with
      | nil => rfl
      | cons x l => obtain ⟨b, o, c, h, _⟩ := hv.pos (by simp); cases h
    subst h0
    exact done_retE [own 3 1 (.slice none 0 0) 0 [], ro μ] (.tmp rfl .nil) rfl own_nil_ent
  · skip   -- 4 F
    refine swp_skip ?_
    refine then_n ?_
    refine swp_seq ?_
    refine swp_region ?_
    refine s_ef (ef_bldS (qs := []) rfl rfl rfl) ?_
    intro b5
    refine s_pu (pu_move rfl) ?_
    refine swl_ent (own_empty (n := 1)) ?_
    refine s_ef (ef_append_ro hv rfl rfl (by repeat (first | exact Split.nil | (apply Split.cons; (repeat (first | with_reducible exact Take.here | apply Take.there))))) (icsk_one _) (by simp only [maxLen]; omega) (by omega)) ?_
    rintro v7 -
    rw [Nat.zero_add, List.nil_append]
    refine s_pu (pu_assign rfl) ?_
    refine swl_sub _ (.cons (t := 2) rfl .nil) ?_
    refine swl_nil ?_
    refine then_n ?_
    refine swp_ret ?_
    exact done_ret [own 3 1 v7 xs.length (xs.flatMap (icsk .i64)), ro μ] (.tmp rfl .nil) rfl (by repeat (first | exact Split.nil | (apply Split.cons; (repeat (first | with_reducible exact Take.here | apply Take.there)))))
end SX
namespace SX
open Go Go.Proofs

/-- the library's sort does what it says -/
def SortOk : Prop := ∀ (v : Value) (xs : List Int), xs.length ≤ 17592186043904 → Spec Try.prog 33 [v] [own 3 1 v xs.length (xs.flatMap (icsk .i64))] (fun r L => r = .tuple #[] ∧ L = [own 3 1 v xs.length ((srt xs).flatMap (icsk .i64))])
theorem sorted_spec (hS : SortOk) (μ : PH) (b : Nat) (v : Value) (xs : List Int) (hb : CellAt μ b 0 v) (hv : Row μ v 1 xs.length (xs.flatMap (icsk .i64))) (hl : xs.length ≤ 17592186043904) :
    Spec Try.prog 30 [.func (.func 34) #[] #[.pointer (some ⟨b, 0, none⟩)]] [ro μ] (fun r L => L = [own 3 1 r xs.length ((srt xs).flatMap (icsk .i64)), ro μ]) := by
  refine Spec.of 9 Try.func30 rfl rfl rfl ?_
  refine swp_seq ?_
  refine swp_region ?_
  refine s_pu (pu_assign rfl) ?_
  refine swl_sub _ (.cons (t := 0) rfl .nil) ?_
  refine swl_nil ?_
  refine then_n ?_
  refine swp_seq ?_
  refine swp_region ?_
  refine s_pu (pu_move rfl) ?_
  refine s_ef (ef_fn (collect_spec μ b v xs hb hv hl) rfl rfl (by repeat (first | exact Split.nil | (apply Split.cons; (repeat (first | with_reducible exact Take.here | apply Take.there)))))) ?_
  rintro v5 L1 rfl
  refine swl_app ?_
  refine s_pu (pu_assign rfl) ?_
  refine swl_sub _ (.cons (t := 3) rfl .nil) ?_
  refine swl_nil ?_
  refine then_n ?_
  refine swp_seq ?_
  refine swp_region ?_
  refine s_pu (pu_move rfl) ?_
  refine s_ef (ef_fn (hS v5 xs hl) rfl rfl (by repeat (first | exact Split.nil | (apply Split.cons; (repeat (first | with_reducible exact Take.here | apply Take.there)))))) ?_
  rintro v7 L1 ⟨rfl, rfl⟩
  refine swl_app ?_
  refine swl_sub _ (.cons (t := 3) rfl .nil) ?_
  refine swl_nil ?_
  refine then_n ?_
  refine swp_seq ?_
  refine swp_region ?_
  refine s_pu (pu_move rfl) ?_
  refine s_pu (pu_assign rfl) ?_
  refine swl_sub _ (.cons (t := 2) rfl .nil) ?_
  refine swl_nil ?_
  refine then_n ?_
  refine swp_ret ?_
  exact done_ret [own 3 1 v5 xs.length ((srt xs).flatMap (icsk .i64)), ro μ] (.tmp rfl .nil) rfl (by repeat (first | exact Split.nil | (apply Split.cons; (repeat (first | with_reducible exact Take.here | apply Take.there)))))
set_option maxHeartbeats 1000000 in
theorem fit_spec (hS : SortOk) (μ : PH) (v : Value) (xs : List Int) (n : Nat) (hv : Row μ v 1 xs.length (xs.flatMap (icsk .i64))) (hl : xs.length ≤ 17592186043904) (_hn : n ≤ 1099511627776) :
    Spec Try.prog 28 [v, .int .i64 (n : Nat)] [ro μ] (fun r L => r = .bool (okRow n xs) ∧ ∃ μ', Le μ μ' ∧ L = [ro μ']) := by
  rw [← okRow_perm (srt_perm xs)]
  have hsl := srt_len xs
  refine Spec.of 39 Try.func28 rfl rfl rfl ?_
  refine swp_seq ?_
  refine swp_region ?_
  refine s_pu (pu_assign rfl) ?_
  refine swl_sub _ (.cons (t := 0) rfl (.cons (t := 1) rfl .nil)) ?_
  refine swl_nil ?_
  refine then_n ?_
  refine swp_seq ?_
  refine swp_region ?_
  refine s_pu (pu_move rfl) ?_
  refine s_ef (ef_fn (values_spec μ v (by obtain ⟨A, c, h⟩ := hv.sl; exact ⟨A, _, c, h⟩)) rfl rfl (by repeat (first | exact Split.nil | (apply Split.cons; (repeat (first | with_reducible exact Take.here | apply Take.there)))))) ?_
  rintro v9 L1 ⟨b, μ', rfl, h1, hb, rfl⟩
  refine swl_app ?_
  refine s_ef (ef_fn (sorted_spec hS μ' b v xs hb (hv.le h1) hl) rfl rfl (by repeat (first | exact Split.nil | (apply Split.cons; (repeat (first | with_reducible exact Take.here | apply Take.there)))))) ?_
  rintro v10 L1 rfl
  refine swl_app ?_
  rw [← hsl]
  generalize hys : srt xs = ys at *
  have hsort : ys.Pairwise (· ≤ ·) := hys ▸ mergeSort_le xs
  refine swl_fact (fun m h => own_shape .here h) fun hsh => ?_
  have hform : ∃ A cap, v10 = .slice A ys.length cap := by
    rcases hsh with ⟨h1, h2⟩ | ⟨b, cap, h1, _⟩
    · exact ⟨none, 0, by rw [h1, h2]⟩
    · exact ⟨_, _, h1⟩
  refine s_pu (pu_assign rfl) ?_
  refine swl_sub _ (.cons (t := 1) rfl (.cons (t := 5) rfl .nil)) ?_
  refine swl_nil ?_
  refine then_n ?_
  refine swp_seq ?_
  refine swp_seq ?_
  refine swp_region ?_
  refine s_pu (pu_move rfl) ?_
  refine s_pu (pu_len_own hform rfl) ?_
  refine s_pu (pu_move rfl) ?_
  refine swl_sub _ (.cons (t := 1) rfl (.cons (t := 5) rfl (.cons (t := 11) rfl (.cons (t := 12) rfl (.cons (t := 13) rfl .nil))))) ?_
  refine swl_nil ?_
  refine then_n ?_
  refine swp_block ?_
  refine swp_loop (ι := Nat) (fun i env L => env = [(1, .int .i64 (n : Nat)), (5, v10), (11, v10), (12, .int .i64 (ys.length : Nat)), (13, .int .i64 (i : Nat))] ∧ L = [own 3 1 v10 ys.length (ys.flatMap (icsk .i64)), ro μ'] ∧ i ≤ ys.length ∧ ∀ (j : Nat) (p : Int), j < i → ys[j]? = some p → 0 ≤ p ∧ p < n ∧ (0 < j → ys[j - 1]? ≠ some p)) (fun i => ys.length - i) 0 ⟨rfl, rfl, Nat.zero_le _, fun j p h => by omega⟩ ?_
  rintro i env L ⟨rfl, rfl, hi, hok⟩
  refine swp_seq ?_
  refine swp_region ?_
  refine s_pu (pu_lss rfl rfl) ?_
  refine swl_sub _ (.cons (t := 1) rfl (.cons (t := 5) rfl (.cons (t := 11) rfl (.cons (t := 12) rfl (.cons (t := 13) rfl (.cons (t := 14) rfl .nil)))))) ?_
  refine swl_nil ?_
  refine then_n ?_
  refine swp_seq ?_
  refine swp_cond (b := _) rfl (fun h14 => ?_) (fun h14 => ?_)
  · skip   -- 14 T
    have h14' : i < ys.length := by have := of_decide_eq_true h14; omega
    obtain ⟨x, hx⟩ : ∃ x, ys[i]? = some x := ⟨_, List.getElem?_eq_getElem h14'⟩
    obtain ⟨bb, cc, hv10⟩ : ∃ b cap, v10 = .slice (some ⟨b, 0, none⟩) ys.length cap := by
      rcases hsh with ⟨_, h2⟩ | ⟨b, cap, h1, _⟩
      · omega
      · exact ⟨b, cap, h1⟩
    subst hv10
    have hget : ∀ (j : Nat) (y : Int), ys[j]? = some y → (ys.flatMap (icsk .i64))[j]? = some (.int .i64 y) := fun j y hy => by
      have := flat_get (icsk_len .i64) ys [] j y hy 0 (.int .i64 y) rfl
      rwa [List.append_nil, Nat.mul_one] at this
    refine swp_skip ?_
    refine then_n ?_
    refine swp_seq ?_
    refine swp_block ?_
    refine swp_seq ?_
    refine swp_region ?_
    refine s_pu (pu_move rfl) ?_
    refine s_pu (pu_indexAddr i rfl rfl (by omega) (by omega) (by omega)) ?_
    refine s_rd (rd_of_ld rfl (ld_own .here (hget i x hx))) ?_
    refine s_pu (pu_assign rfl) ?_
    refine s_pu (pu_assign rfl) ?_
    refine swl_sub _ (.cons (t := 1) rfl (.cons (t := 5) rfl (.cons (t := 6) rfl (.cons (t := 7) rfl (.cons (t := 11) rfl (.cons (t := 12) rfl (.cons (t := 13) rfl .nil))))))) ?_
    refine swl_nil ?_
    refine then_n ?_
    refine swp_seq ?_
    refine swp_region ?_
    refine s_pu (pu_move rfl) ?_
    refine s_pu (pu_lss rfl rfl) ?_
    refine s_pu (pu_move rfl) ?_
    refine s_split 20 rfl (fun h20 => ?_) (fun h20 => ?_)
    · skip   -- 20 T
      refine s_off rfl rfl rfl ?_
      refine s_off rfl rfl rfl ?_
      refine s_off rfl rfl rfl ?_
      first | refine s_pu (pu_pick_t rfl rfl) ?_ | refine s_pu (pu_pick_f rfl rfl) ?_
      refine s_pu (pu_move rfl) ?_
      refine s_split 25 rfl (fun h25 => ?_) (fun h25 => by cases h25)
      refine s_off rfl rfl rfl ?_
      refine s_off rfl rfl rfl ?_
      refine s_off rfl rfl rfl ?_
      refine s_off rfl rfl rfl ?_
      refine s_off rfl rfl rfl ?_
      refine s_off rfl rfl rfl ?_
      refine s_off rfl rfl rfl ?_
      refine s_off rfl rfl rfl ?_
      refine s_off rfl rfl rfl ?_
      refine s_off rfl rfl rfl ?_
      refine s_off rfl rfl rfl ?_
      first | refine s_pu (pu_pick_t rfl rfl) ?_ | refine s_pu (pu_pick_f rfl rfl) ?_
      refine swl_sub _ (.cons (t := 1) rfl (.cons (t := 5) rfl (.cons (t := 11) rfl (.cons (t := 12) rfl (.cons (t := 13) rfl (.cons (t := 37) rfl .nil)))))) ?_
      refine swl_nil ?_
      refine then_n ?_
      refine swp_cond (b := _) rfl (fun h37 => ?_) (fun h37 => by cases h37)
      refine swp_seq ?_
      refine swp_region ?_
      refine s_pu (pu_assign rfl) ?_
      refine swl_sub _ (.cons (t := 4) rfl .nil) ?_
      refine swl_nil ?_
      refine then_n ?_
      refine swp_ret ?_
      refine block_r ?_
      refine then_r ?_
      refine then_r ?_
      refine block_r ?_
      refine then_r ?_
      exact done_ret [ro μ'] (.tmp rfl .nil) ⟨by rw [sorted_not n hx (.inl (of_decide_eq_true h20))]; rfl, μ', h1, rfl⟩ (by repeat (first | exact Split.nil | (apply Split.cons; (repeat (first | with_reducible exact Take.here | apply Take.there)))))
    · skip   -- 20 F
      refine s_on rfl rfl ?_
      refine s_pu (pu_move rfl) ?_
      refine s_on rfl rfl ?_
      refine s_pu (pu_move rfl) ?_
      refine s_on rfl rfl ?_
      refine s_pu (pu_geq rfl rfl) ?_
      first | refine s_pu (pu_pick_t rfl rfl) ?_ | refine s_pu (pu_pick_f rfl rfl) ?_
      refine s_pu (pu_move rfl) ?_
      refine s_split 25 rfl (fun h25 => ?_) (fun h25 => ?_)
      · skip   -- 25 T
        refine s_off rfl rfl rfl ?_
        refine s_off rfl rfl rfl ?_
        refine s_off rfl rfl rfl ?_
        refine s_off rfl rfl rfl ?_
        refine s_off rfl rfl rfl ?_
        refine s_off rfl rfl rfl ?_
        refine s_off rfl rfl rfl ?_
        refine s_off rfl rfl rfl ?_
        refine s_off rfl rfl rfl ?_
        refine s_off rfl rfl rfl ?_
        refine s_off rfl rfl rfl ?_
        first | refine s_pu (pu_pick_t rfl rfl) ?_ | refine s_pu (pu_pick_f rfl rfl) ?_
        refine swl_sub _ (.cons (t := 1) rfl (.cons (t := 5) rfl (.cons (t := 11) rfl (.cons (t := 12) rfl (.cons (t := 13) rfl (.cons (t := 37) rfl .nil)))))) ?_
        refine swl_nil ?_
        refine then_n ?_
        refine swp_cond (b := _) rfl (fun h37 => ?_) (fun h37 => by cases h37)
        refine swp_seq ?_
        refine swp_region ?_
        refine s_pu (pu_assign rfl) ?_
        refine swl_sub _ (.cons (t := 4) rfl .nil) ?_
        refine swl_nil ?_
        refine then_n ?_
        refine swp_ret ?_
        refine block_r ?_
        refine then_r ?_
        refine then_r ?_
        refine block_r ?_
        refine then_r ?_
        exact done_ret [ro μ'] (.tmp rfl .nil) ⟨by rw [sorted_not n hx (.inr (.inl (of_decide_eq_true h25)))]; rfl, μ', h1, rfl⟩ (by repeat (first | exact Split.nil | (apply Split.cons; (repeat (first | with_reducible exact Take.here | apply Take.there)))))
      · skip   -- 25 F
        refine s_on rfl rfl ?_
        refine s_pu (pu_move rfl) ?_
        refine s_on rfl rfl ?_
        refine s_pu (pu_gtr rfl rfl) ?_
        refine s_on rfl rfl ?_
        refine s_pu (pu_move rfl) ?_
        refine s_split 28 rfl (fun h28 => ?_) (fun h28 => ?_)
        · skip   -- 28 T
          have h28' : 0 < i := by have := of_decide_eq_true h28; omega
          obtain ⟨y, hy⟩ : ∃ y, ys[i - 1]? = some y := ⟨_, List.getElem?_eq_getElem (by omega)⟩
          refine s_on rfl rfl ?_
          refine s_pu (pu_move rfl) ?_
          refine s_on rfl rfl ?_
          refine s_pu (pu_move rfl) ?_
          refine s_on rfl rfl ?_
          refine s_pu (pu_move rfl) ?_
          refine s_on rfl rfl ?_
          refine s_pu (pu_sub_as ((i - 1 : Nat) : Int) rfl rfl (by omega) (by omega) (by omega)) ?_
          refine s_on rfl rfl ?_
          refine s_pu (pu_indexAddr (i - 1) rfl rfl (by omega) (by omega) (by omega)) ?_
          refine s_on rfl rfl ?_
          refine s_rd (rd_of_ld rfl (ld_own .here (hget (i - 1) y hy))) ?_
          refine s_on rfl rfl ?_
          refine s_pu (pu_eql rfl rfl) ?_
          refine s_on rfl rfl ?_
          first | refine s_pu (pu_pick_t rfl rfl) ?_ | refine s_pu (pu_pick_f rfl rfl) ?_
          first | refine s_pu (pu_pick_t rfl rfl) ?_ | refine s_pu (pu_pick_f rfl rfl) ?_
          refine swl_sub _ (.cons (t := 1) rfl (.cons (t := 5) rfl (.cons (t := 11) rfl (.cons (t := 12) rfl (.cons (t := 13) rfl (.cons (t := 37) rfl .nil)))))) ?_
          refine swl_nil ?_
          refine then_n ?_
          refine swp_cond (b := _) rfl (fun h37 => ?_) (fun h37 => ?_)
          · skip   -- 37 T
            refine swp_seq ?_
            refine swp_region ?_
            refine s_pu (pu_assign rfl) ?_
            refine swl_sub _ (.cons (t := 4) rfl .nil) ?_
            refine swl_nil ?_
            refine then_n ?_
            refine swp_ret ?_
            refine block_r ?_
            refine then_r ?_
            refine then_r ?_
            refine block_r ?_
            refine then_r ?_
            have h37' := of_decide_eq_true h37
            exact done_ret [ro μ'] (.tmp rfl .nil) ⟨by rw [sorted_not n hx (.inr (.inr ⟨h28', by rw [hy, h37']⟩))]; rfl, μ', h1, rfl⟩ (by repeat (first | exact Split.nil | (apply Split.cons; (repeat (first | with_reducible exact Take.here | apply Take.there)))))
          · skip   -- 37 F
            refine swp_skip ?_
            refine block_n ?_
            refine then_n ?_
            refine swp_region ?_
            refine s_pu (pu_add_as ((i + 1 : Nat) : Int) rfl rfl (by omega) (by omega) (by omega)) ?_
            refine s_pu (pu_move rfl) ?_
            refine swl_sub _ (.cons (t := 1) rfl (.cons (t := 5) rfl (.cons (t := 11) rfl (.cons (t := 12) rfl (.cons (t := 13) rfl .nil))))) ?_
            refine swl_nil ?_
            have h20' := of_decide_eq_false h20
            have h25' := of_decide_eq_false h25
            have h37' := of_decide_eq_false h37
            exact then_n ⟨i + 1, ⟨rfl, rfl, h14', fun j p hj hp => by
              by_cases e : j = i
              · subst e
                rw [hx] at hp
                obtain rfl := Option.some.inj hp
                exact ⟨by omega, by omega, fun _ h => by rw [hy] at h; exact h37' (Option.some.inj h).symm⟩
              · exact hok j p (by omega) hp⟩, by omega⟩
        · skip   -- 28 F
          refine s_off rfl rfl rfl ?_
          refine s_off rfl rfl rfl ?_
          refine s_off rfl rfl rfl ?_
          refine s_off rfl rfl rfl ?_
          refine s_off rfl rfl rfl ?_
          refine s_off rfl rfl rfl ?_
          refine s_off rfl rfl rfl ?_
          refine s_on rfl rfl ?_
          first | refine s_pu (pu_pick_t rfl rfl) ?_ | refine s_pu (pu_pick_f rfl rfl) ?_
          first | refine s_pu (pu_pick_t rfl rfl) ?_ | refine s_pu (pu_pick_f rfl rfl) ?_
          refine swl_sub _ (.cons (t := 1) rfl (.cons (t := 5) rfl (.cons (t := 11) rfl (.cons (t := 12) rfl (.cons (t := 13) rfl (.cons (t := 37) rfl .nil)))))) ?_
          refine swl_nil ?_
          refine then_n ?_
          refine swp_cond (b := _) rfl (fun h37 => by cases h37) (fun h37 => ?_)
          refine swp_skip ?_
          refine block_n ?_
          refine then_n ?_
          refine swp_region ?_
          refine s_pu (pu_add_as ((i + 1 : Nat) : Int) rfl rfl (by omega) (by omega) (by omega)) ?_
          refine s_pu (pu_move rfl) ?_
          refine swl_sub _ (.cons (t := 1) rfl (.cons (t := 5) rfl (.cons (t := 11) rfl (.cons (t := 12) rfl (.cons (t := 13) rfl .nil))))) ?_
          refine swl_nil ?_
          have h20' := of_decide_eq_false h20
          have h25' := of_decide_eq_false h25
          have h28' := of_decide_eq_false h28
          exact then_n ⟨i + 1, ⟨rfl, rfl, h14', fun j p hj hp => by
            by_cases e : j = i
            · subst e
              rw [hx] at hp
              obtain rfl := Option.some.inj hp
              exact ⟨by omega, by omega, fun h => by omega⟩
            · exact hok j p (by omega) hp⟩, by omega⟩
  · skip   -- 14 F
    have h14' := of_decide_eq_false h14
    obtain rfl : i = ys.length := by omega
    refine swp_exit ?_
    refine then_x ?_
    refine then_x ?_
    refine block_hit rfl ?_
    refine then_n ?_
    refine swp_seq ?_
    refine swp_region ?_
    refine s_pu (pu_assign rfl) ?_
    refine swl_sub _ (.cons (t := 4) rfl .nil) ?_
    refine swl_nil ?_
    refine then_n ?_
    refine swp_ret ?_
    exact done_ret [ro μ'] (.tmp rfl .nil) ⟨by rw [sorted_ok n hsort fun j p hp => hok j p (List.getElem?_eq_some_iff.1 hp).1 hp]; rfl, μ', h1, rfl⟩ (by repeat (first | exact Split.nil | (apply Split.cons; (repeat (first | with_reducible exact Take.here | apply Take.there)))))
end SX
namespace SX
open Go Go.Proofs

def AnsG (μ : PH) (E : Int) (l : List Int) (r : Value) (L : List Assn) : Prop := ∃ lv μ', r = .tuple #[lv, .int .i64 E] ∧ Le μ μ' ∧ L = [own 3 1 lv l.length (l.flatMap (icsk .i64)), ro μ']
set_option maxHeartbeats 2000000 in
theorem more_spec (hS : SortOk) (μ : PH) (vk vg : Value) (K : List Int) (G : List (Value × List Int)) (hk : Row μ vk 1 K.length (K.flatMap (icsk .i64))) (hG : Graph μ vg G) (hl : K.length ≤ 1048576) (hn : G.length ≤ 1048576) (hrows : ∀ x ∈ G, x.2.length ≤ 17592186043904) :
    Spec Try.prog 22 [vk, vg] [ro μ] (AnsG μ (moreE K (nums G)) (moreL K (nums G))) := by
  have hln : (nums G).length = G.length := List.length_map _
  refine Spec.of 50 Try.func22 rfl rfl rfl ?_
  refine swp_seq ?_
  refine swp_region ?_
  refine s_pu (pu_assign rfl) ?_
  refine s_pu (pu_assign rfl) ?_
  refine swl_sub _ (.cons (t := 0) rfl (.cons (t := 1) rfl .nil)) ?_
  refine swl_nil ?_
  refine then_n ?_
  refine swp_seq ?_
  refine swp_region ?_
  refine s_pu (pu_move rfl) ?_
  refine s_ef (ef_fn (clone_ro μ vk K hk (by omega)) rfl rfl (by repeat (first | exact Split.nil | (apply Split.cons; (repeat (first | with_reducible exact Take.here | apply Take.there)))))) ?_
  rintro v13 L1 rfl
  refine swl_app ?_
  refine s_pu (pu_assign rfl) ?_
  refine swl_sub _ (.cons (t := 0) rfl (.cons (t := 1) rfl (.cons (t := 6) rfl .nil))) ?_
  refine swl_nil ?_
  refine then_n ?_
  refine swp_seq ?_
  refine swp_seq ?_
  refine swp_region ?_
  refine s_pu (pu_move rfl) ?_
  refine s_pu (pu_len_row hG.1 rfl) ?_
  refine s_pu (pu_move rfl) ?_
  refine swl_sub _ (.cons (t := 0) rfl (.cons (t := 6) rfl (.cons (t := 14) rfl (.cons (t := 15) rfl (.cons (t := 16) rfl .nil))))) ?_
  refine swl_nil ?_
  refine then_n ?_
  refine swp_block ?_
  refine swp_loop (ι := Nat × Value × List Int × PH) (fun k env L => env = [(0, vk), (6, k.2.1), (14, vg), (15, .int .i64 (G.length : Nat)), (16, .int .i64 (k.1 : Nat))] ∧ L = [own 3 1 k.2.1 k.2.2.1.length (k.2.2.1.flatMap (icsk .i64)), ro k.2.2.2] ∧ k.1 ≤ G.length ∧ Le μ k.2.2.2 ∧ moreG K ((nums G).take k.1) = some k.2.2.1) (fun k => G.length - k.1) (0, v13, K, μ) ⟨rfl, rfl, Nat.zero_le _, Le.refl _, rfl⟩ ?_
  rintro ⟨i, v6, a, μi⟩ env L ⟨rfl, rfl, hi, hle, ha⟩
  dsimp only at hi hle ha ⊢
  have hal := (moreG_len ha).1
  rw [List.length_take, hln, Nat.min_eq_left hi] at hal
  refine swp_fact (fun m h => own_shape .here h) fun hsh => ?_
  have hform : ∃ A cap, v6 = .slice A a.length cap := by
    rcases hsh with ⟨h1, h2⟩ | ⟨b, cap, h1, _⟩
    · exact ⟨none, 0, by rw [h1, h2]⟩
    · exact ⟨_, _, h1⟩
  refine swp_seq ?_
  refine swp_region ?_
  refine s_pu (pu_lss rfl rfl) ?_
  refine swl_sub _ (.cons (t := 0) rfl (.cons (t := 6) rfl (.cons (t := 14) rfl (.cons (t := 15) rfl (.cons (t := 16) rfl (.cons (t := 17) rfl .nil)))))) ?_
  refine swl_nil ?_
  refine then_n ?_
  refine swp_seq ?_
  refine swp_cond (b := _) rfl (fun h17 => ?_) (fun h17 => ?_)
  · skip   -- 17 T
    have h17' : i < G.length := by have := of_decide_eq_true h17; omega
    obtain ⟨gb, off, cap, x, hv, hx, hxc, hxr, hnx⟩ := row_at (hG.le hle) h17'
    have hxl := hrows x (List.mem_of_getElem? hx)
    have hnext := moreG_at ha hnx
    refine swp_skip ?_
    refine then_n ?_
    refine swp_seq ?_
    refine swp_block ?_
    refine swp_seq ?_
    refine swp_region ?_
    refine s_pu (pu_indexAddr (off + i * 1) (congrArg some hv) rfl (by omega) (by omega) (by rw [Int.toNat_natCast])) ?_
    refine s_rd (rd_ro rfl hxc) ?_
    refine s_pu (pu_assign rfl) ?_
    refine swl_sub _ (.cons (t := 0) rfl (.cons (t := 6) rfl (.cons (t := 8) rfl (.cons (t := 14) rfl (.cons (t := 15) rfl (.cons (t := 16) rfl .nil)))))) ?_
    refine swl_nil ?_
    refine then_n ?_
    refine swp_seq ?_
    refine swp_seq ?_
    refine swp_region ?_
    refine s_pu (pu_move rfl) ?_
    refine s_pu (pu_move rfl) ?_
    refine s_pu (pu_len_own hform rfl) ?_
    refine s_ef (ef_fn (fit_spec hS μi x.1 x.2 a.length hxr (by omega) (by omega)) rfl rfl (by repeat (first | exact Split.nil | (apply Split.cons; (repeat (first | with_reducible exact Take.here | apply Take.there)))))) ?_
    rintro v23 L1 ⟨rfl, μj, hij, rfl⟩
    refine swl_app ?_
    refine s_pu (pu_not rfl) ?_
    refine swl_sub _ (.cons (t := 0) rfl (.cons (t := 6) rfl (.cons (t := 8) rfl (.cons (t := 14) rfl (.cons (t := 15) rfl (.cons (t := 16) rfl (.cons (t := 24) rfl .nil))))))) ?_
    refine swl_nil ?_
    refine then_n ?_
    refine swp_cond (b := _) rfl (fun h24 => ?_) (fun h24 => ?_)
    · skip   -- 24 T
      refine swp_seq ?_
      refine swp_region ?_
      refine s_pu (pu_assign rfl) ?_
      refine s_pu (pu_assign rfl) ?_
      refine swl_sub _ (.cons (t := 4) rfl (.cons (t := 5) rfl .nil)) ?_
      refine swl_nil ?_
      refine then_n ?_
      refine swp_ret ?_
      refine then_r ?_
      refine block_r ?_
      refine then_r ?_
      refine then_r ?_
      refine block_r ?_
      refine then_r ?_
      have h24' : okRow a.length x.2 = false := by simpa using h24
      rw [if_neg (by rw [h24']; simp)] at hnext
      have hno := moreL_none (moreG_none hnext)
      rw [hno.1, hno.2]
      exact done_retE [own 3 1 (.slice none 0 0) 0 [], ro μj] (.tmp rfl (.tmp rfl .nil)) ⟨_, μj, rfl, hle.trans hij, rfl⟩ ((Split.ent' (K := [ro μj]) (by repeat (first | exact Split.nil | (apply Split.cons; (repeat (first | with_reducible exact Take.here | apply Take.there)))))).trans own_nil_ent)
    · skip   -- 24 F
      have h24' : okRow a.length x.2 = true := by simpa using h24
      rw [if_pos h24'] at hnext
      have hin := (okRow_iff.1 h24').1
      have hxrj := hxr.le hij
      have hxs := hxrj.small
      refine swp_skip ?_
      refine then_n ?_
      refine swp_seq ?_
      refine swp_region ?_
      refine s_pu (pu_assign rfl) ?_
      refine swl_sub _ (.cons (t := 0) rfl (.cons (t := 6) rfl (.cons (t := 8) rfl (.cons (t := 9) rfl (.cons (t := 14) rfl (.cons (t := 15) rfl (.cons (t := 16) rfl .nil))))))) ?_
      refine swl_ent (own_nil_ent (e := 3) (n := 1)) ?_
      refine swl_nil ?_
      refine then_n ?_
      refine swp_seq ?_
      refine swp_seq ?_
      refine swp_region ?_
      refine s_pu (pu_move rfl) ?_
      refine s_pu (pu_len_row hxrj rfl) ?_
      refine s_pu (pu_move rfl) ?_
      refine swl_sub _ (.cons (t := 0) rfl (.cons (t := 6) rfl (.cons (t := 9) rfl (.cons (t := 14) rfl (.cons (t := 15) rfl (.cons (t := 16) rfl (.cons (t := 25) rfl (.cons (t := 26) rfl (.cons (t := 27) rfl .nil))))))))) ?_
      refine swl_ent (Split.ent' (K := [own 3 1 (.slice none 0 0) 0 [], own 3 1 v6 a.length (a.flatMap (icsk .i64)), ro μj]) (by repeat (first | exact Split.nil | (apply Split.cons; (repeat (first | with_reducible exact Take.here | apply Take.there)))))) ?_
      refine swl_nil ?_
      refine then_n ?_
      refine swp_block ?_
      refine swp_sub _ (.cons (t := 0) rfl (.cons (t := 6) rfl (.cons (t := 9) rfl (.cons (t := 14) rfl (.cons (t := 15) rfl (.cons (t := 16) rfl (.cons (t := 25) rfl (.cons (t := 26) rfl (.cons (t := 27) rfl .nil))))))))) ?_
      refine swp_loop (ι := Nat × Value) (fun k env L => env = [(0, vk), (6, v6), (9, k.2), (14, vg), (15, .int .i64 (G.length : Nat)), (16, .int .i64 (i : Nat)), (25, x.1), (26, .int .i64 (x.2.length : Nat)), (27, .int .i64 (k.1 : Nat))] ∧ L = [own 3 1 k.2 k.1 ((valsG a (x.2.take k.1)).flatMap (icsk .i64)), own 3 1 v6 a.length (a.flatMap (icsk .i64)), ro μj] ∧ k.1 ≤ x.2.length) (fun k => x.2.length - k.1) (0, .slice none 0 0) ⟨rfl, rfl, Nat.zero_le _⟩ ?_
      rintro ⟨j, v9⟩ env L ⟨rfl, rfl, hj⟩
      dsimp only at hj ⊢
      refine swp_seq ?_
      refine swp_region ?_
      refine s_pu (pu_lss rfl rfl) ?_
      refine swl_sub _ (.cons (t := 0) rfl (.cons (t := 6) rfl (.cons (t := 9) rfl (.cons (t := 14) rfl (.cons (t := 15) rfl (.cons (t := 16) rfl (.cons (t := 25) rfl (.cons (t := 26) rfl (.cons (t := 27) rfl (.cons (t := 28) rfl .nil)))))))))) ?_
      refine swl_nil ?_
      refine then_n ?_
      refine swp_seq ?_
      refine swp_cond (b := _) rfl (fun h28 => ?_) (fun h28 => ?_)
      · skip   -- 28 T
        have h28' : j < x.2.length := by have := of_decide_eq_true h28; omega
        obtain ⟨y, hy⟩ : ∃ y, x.2[j]? = some y := ⟨_, List.getElem?_eq_getElem h28'⟩
        obtain ⟨yb, yo, yc, hyv, hyc⟩ := hxrj.at_ hy
        have hyin := hin y (List.mem_of_getElem? hy)
        obtain ⟨ky, rfl⟩ : ∃ k : Nat, y = k := ⟨y.toNat, by omega⟩
        obtain ⟨z, hz⟩ : ∃ z, a[ky]? = some z := ⟨_, List.getElem?_eq_getElem (by omega)⟩
        obtain ⟨ab, ac, hv6⟩ : ∃ b cap, v6 = .slice (some ⟨b, 0, none⟩) a.length cap := by
          rcases hsh with ⟨_, h2⟩ | ⟨b, cap, h1, _⟩
          · omega
          · exact ⟨b, cap, h1⟩
        have hget : (a.flatMap (icsk .i64))[ky]? = some (.int .i64 z) := by
          have := flat_get (icsk_len .i64) a [] ky z hz 0 (.int .i64 z) rfl
          rwa [List.append_nil, Nat.mul_one] at this
        subst hv6
        refine swp_skip ?_
        refine then_n ?_
        refine swp_seq ?_
        refine swp_block ?_
        refine swp_seq ?_
        refine swp_region ?_
        refine s_pu (pu_indexAddr (yo + j * 1) (congrArg some hyv) rfl (by omega) (by omega) (by rw [Int.toNat_natCast])) ?_
        refine s_rd (rd_ro rfl hyc) ?_
        refine s_pu (pu_assign rfl) ?_
        refine swl_sub _ (.cons (t := 0) rfl (.cons (t := 6) rfl (.cons (t := 9) rfl (.cons (t := 11) rfl (.cons (t := 14) rfl (.cons (t := 15) rfl (.cons (t := 16) rfl (.cons (t := 25) rfl (.cons (t := 26) rfl (.cons (t := 27) rfl .nil)))))))))) ?_
        refine swl_nil ?_
        refine then_n ?_
        refine swp_region ?_
        refine s_pu (pu_move rfl) ?_
        refine s_pu (pu_move rfl) ?_
        refine s_pu (pu_move rfl) ?_
        refine s_pu (pu_indexAddr ky rfl rfl (by omega) (by omega) (by omega)) ?_
        refine s_rd (rd_of_ld rfl (ld_own (by repeat (first | with_reducible exact Take.here | apply Take.there)) hget)) ?_
        refine s_ef (ef_bldS (qs := [(0, _)]) rfl rfl rfl) ?_
        intro b36
        refine s_ef (ef_append_lit (l := j) (m := 1) rfl rfl (by repeat (first | exact Split.nil | (apply Split.cons; (repeat (first | with_reducible exact Take.here | apply Take.there))))) (by simp only [maxLen]; omega) (by omega)) ?_
        rintro v' hv'
        skip
        refine s_pu (pu_assign rfl) ?_
        refine swl_sub _ (.cons (t := 0) rfl (.cons (t := 6) rfl (.cons (t := 9) rfl (.cons (t := 14) rfl (.cons (t := 15) rfl (.cons (t := 16) rfl (.cons (t := 25) rfl (.cons (t := 26) rfl (.cons (t := 27) rfl .nil))))))))) ?_
        have e1 : (valsG a (x.2.take j)).flatMap (icsk .i64) ++ [.int .i64 z] = (valsG a (x.2.take (j + 1))).flatMap (icsk .i64) := by
          rw [List.take_add_one, hy]
          show _ = (valsG a (x.2.take j ++ [(ky : Int)])).flatMap (icsk .i64)
          rw [valsG_append, Int.toNat_natCast, List.getD_eq_getElem?_getD, hz, List.flatMap_append]; rfl
        rw [e1]
        refine swl_nil ?_
        refine block_n ?_
        refine then_n ?_
        refine swp_region ?_
        refine s_pu (pu_add_as ((j + 1 : Nat) : Int) rfl rfl (by omega) (by omega) (by omega)) ?_
        refine s_pu (pu_move rfl) ?_
        refine swl_sub _ (.cons (t := 0) rfl (.cons (t := 6) rfl (.cons (t := 9) rfl (.cons (t := 14) rfl (.cons (t := 15) rfl (.cons (t := 16) rfl (.cons (t := 25) rfl (.cons (t := 26) rfl (.cons (t := 27) rfl .nil))))))))) ?_
        refine swl_nil ?_
        exact then_n ⟨(j + 1, v'), ⟨rfl, rfl, h28'⟩, by show x.2.length - (j + 1) < x.2.length - j; omega⟩
      · skip   -- 28 F
        have h28' := of_decide_eq_false h28
        obtain rfl : j = x.2.length := by omega
        rw [List.take_length]
        have hvl : (valsG a x.2).length = x.2.length := List.length_map _
        rw [← hvl]
        refine swp_fact (fun m h => own_shape .here h) fun hsh9 => ?_
        refine swp_exit ?_
        refine then_x ?_
        refine then_x ?_
        refine block_hit rfl ?_
        refine then_n ?_
        refine swp_region ?_
        refine s_pu (pu_move rfl) ?_
        refine s_pu (pu_move rfl) ?_
        refine s_ef (ef_fn (next_spec v9 (valsG a x.2) [own 3 1 v9 (valsG a x.2).length ((valsG a x.2).flatMap (icsk .i64))] (ints_own hsh9 .here)) rfl rfl (by repeat (first | exact Split.nil | (apply Split.cons; (repeat (first | with_reducible exact Take.here | apply Take.there)))))) ?_
        rintro v41 L1 ⟨rfl, rfl⟩
        refine swl_app ?_
        refine s_ef (ef_bldS (qs := [(0, _)]) rfl rfl rfl) ?_
        intro b42
        refine s_ef (ef_append_lit (l := a.length) (m := 1) rfl rfl (by repeat (first | exact Split.nil | (apply Split.cons; (repeat (first | with_reducible exact Take.here | apply Take.there))))) (by simp only [maxLen]; omega) (by omega)) ?_
        rintro v43 hv43
        skip
        refine s_pu (pu_assign rfl) ?_
        refine swl_sub _ (.cons (t := 0) rfl (.cons (t := 6) rfl (.cons (t := 14) rfl (.cons (t := 15) rfl (.cons (t := 16) rfl .nil))))) ?_
        rw [show a.flatMap (icsk .i64) ++ [Value.int .i64 (nxt (valsG a x.2))] = (a ++ [nxt (valsG a x.2)]).flatMap (icsk .i64) by rw [List.flatMap_append]; rfl]
        refine swl_ent (Split.ent' (K := [own 3 1 v43 (a.length + 1) ((a ++ [nxt (valsG a x.2)]).flatMap (icsk .i64)), ro μj]) (by repeat (first | exact Split.nil | (apply Split.cons; (repeat (first | with_reducible exact Take.here | apply Take.there)))))) ?_
        refine swl_nil ?_
        refine block_n ?_
        refine then_n ?_
        refine swp_region ?_
        refine s_pu (pu_add_as ((i + 1 : Nat) : Int) rfl rfl (by omega) (by omega) (by omega)) ?_
        refine s_pu (pu_move rfl) ?_
        refine swl_sub _ (.cons (t := 0) rfl (.cons (t := 6) rfl (.cons (t := 14) rfl (.cons (t := 15) rfl (.cons (t := 16) rfl .nil))))) ?_
        refine swl_nil ?_
        exact then_n ⟨(i + 1, v43, a ++ [nxt (valsG a x.2)], μj), ⟨rfl, by rw [List.length_append]; rfl, h17', hle.trans hij, hnext⟩, by show G.length - (i + 1) < G.length - i; omega⟩
  · skip   -- 17 F
    have h17' := of_decide_eq_false h17
    obtain rfl : i = G.length := by omega
    rw [List.take_of_length_le (by rw [hln]; exact Nat.le_refl _)] at ha
    refine swp_share_own (μ := μi) (by repeat (first | exact Split.nil | (apply Split.cons; (repeat (first | with_reducible exact Take.here | apply Take.there))))) fun μ' h' ra => ?_
    obtain ⟨vd, hrd, hpu⟩ := Row.lo (P := Try.prog) (t := 22) ra K.length (by omega)
    rw [icells_drop, show a.length - K.length = (a.drop K.length).length by rw [List.length_drop]] at hrd
    have hyes := moreL_some ha
    refine swp_exit ?_
    refine then_x ?_
    refine then_x ?_
    refine block_hit rfl ?_
    refine then_n ?_
    refine swp_seq ?_
    refine swp_region ?_
    refine s_pu (pu_move rfl) ?_
    refine s_pu (pu_move rfl) ?_
    refine s_pu (pu_len_row (hk.le (hle.trans h')) rfl) ?_
    refine s_pu (hpu _ _ _ .i64 _ rfl rfl rfl) ?_
    refine s_ef (ef_fn (clone_ro μ' vd (a.drop K.length) hrd (by rw [List.length_drop]; omega)) rfl rfl (by repeat (first | exact Split.nil | (apply Split.cons; (repeat (first | with_reducible exact Take.here | apply Take.there)))))) ?_
    rintro v49 L1 rfl
    refine swl_app ?_
    refine s_pu (pu_assign rfl) ?_
    refine s_pu (pu_assign rfl) ?_
    refine swl_sub _ (.cons (t := 4) rfl (.cons (t := 5) rfl .nil)) ?_
    refine swl_nil ?_
    refine then_n ?_
    refine swp_ret ?_
    rw [hyes.1, hyes.2]
    exact done_ret [own 3 1 v49 (a.drop K.length).length ((a.drop K.length).flatMap (icsk .i64)), ro μ'] (.tmp rfl (.tmp rfl .nil)) ⟨_, μ', rfl, hle.trans h', rfl⟩ (by repeat (first | exact Split.nil | (apply Split.cons; (repeat (first | with_reducible exact Take.here | apply Take.there)))))
theorem all_spec (hS : SortOk) (μ : PH) (vg : Value) (G : List (Value × List Int)) (hG : Graph μ vg G) (hn : G.length ≤ 1048576) (hrows : ∀ x ∈ G, x.2.length ≤ 17592186043904) :
    Spec Try.prog 18 [vg] [ro μ] (AnsG μ (moreE [] (nums G)) (moreL [] (nums G))) := by
  refine Spec.of 8 Try.func18 rfl rfl rfl ?_
  refine swp_seq ?_
  refine swp_region ?_
  refine s_pu (pu_assign rfl) ?_
  refine s_pu (pu_assign rfl) ?_
  refine swl_sub _ (.cons (t := 0) rfl .nil) ?_
  refine swl_nil ?_
  refine then_n ?_
  refine swp_seq ?_
  refine swp_region ?_
  refine s_pu (pu_move rfl) ?_
  refine s_ef (ef_fn (more_spec hS μ (.slice none 0 0) vg [] G (Row.nil μ 1) hG (by simp) hn hrows) rfl rfl (by repeat (first | exact Split.nil | (apply Split.cons; (repeat (first | with_reducible exact Take.here | apply Take.there)))))) ?_
  rintro v5 L1 ⟨lv, μ', rfl, h1, rfl⟩
  refine swl_app ?_
  first | refine s_pu (pu_extractL rfl) ?_ | refine s_pu (pu_extract rfl rfl) ?_
  first | refine s_pu (pu_extractL rfl) ?_ | refine s_pu (pu_extract rfl rfl) ?_
  refine s_pu (pu_assign rfl) ?_
  refine s_pu (pu_assign rfl) ?_
  refine swl_sub _ (.cons (t := 2) rfl (.cons (t := 3) rfl .nil)) ?_
  refine swl_nil ?_
  refine then_n ?_
  refine swp_ret ?_
  exact done_ret [own 3 1 lv (moreL [] (nums G)).length ((moreL [] (nums G)).flatMap (icsk .i64)), ro μ'] (.tmp rfl (.tmp rfl .nil)) ⟨_, μ', rfl, h1, rfl⟩ (by repeat (first | exact Split.nil | (apply Split.cons; (repeat (first | with_reducible exact Take.here | apply Take.there)))))
end SX
namespace Go.Proofs
open Go.Shelf
def Try.lays189_ren : Go.Shelf.Ren := ⟨fun | 189 => 33 | 125 => 37 | 257 => 36 | 128 => 47 | 129 => 48 | 294 => 38 | 295 => 39 | 296 => 40 | 297 => 41 | 298 => 42 | 299 => 43 | 216 => 44 | 300 => 45 | 301 => 46 | 328 => 49 | 329 => 50 | 330 => 51 | 331 => 52 | 332 => 53 | 215 => 54 | 343 => 55 | n => n, fun | 28 => 22 | 3 => 3 | 46 => 58 | 0 => 0 | 51 => 68 | 53 => 70 | 4 => 4 | 183 => 61 | 182 => 60 | 131 => 65 | 5 => 5 | 9 => 9 | 218 => 71 | 222 => 75 | 228 => 77 | 229 => 78 | n => n, fun | n => n⟩
theorem Try.lays189 : Go.Proofs.Lays.n189 Try.prog Try.lays189_ren := {
  mixed := by kernel_rfl
  f125 := Try.func37.trans (congrArg some (by kernel_rfl))
  f128 := Try.func47.trans (congrArg some (by kernel_rfl))
  f129 := Try.func48.trans (congrArg some (by kernel_rfl))
  f189 := Try.func33.trans (congrArg some (by kernel_rfl))
  f215 := Try.func54.trans (congrArg some (by kernel_rfl))
  f216 := Try.func44.trans (congrArg some (by kernel_rfl))
  f257 := Try.func36.trans (congrArg some (by kernel_rfl))
  f294 := Try.func38.trans (congrArg some (by kernel_rfl))
  f295 := Try.func39.trans (congrArg some (by kernel_rfl))
  f296 := Try.func40.trans (congrArg some (by kernel_rfl))
  f297 := Try.func41.trans (congrArg some (by kernel_rfl))
  f298 := Try.func42.trans (congrArg some (by kernel_rfl))
  f299 := Try.func43.trans (congrArg some (by kernel_rfl))
  f300 := Try.func45.trans (congrArg some (by kernel_rfl))
  f301 := Try.func46.trans (congrArg some (by kernel_rfl))
  f328 := Try.func49.trans (congrArg some (by kernel_rfl))
  f329 := Try.func50.trans (congrArg some (by kernel_rfl))
  f330 := Try.func51.trans (congrArg some (by kernel_rfl))
  f331 := Try.func52.trans (congrArg some (by kernel_rfl))
  f332 := Try.func53.trans (congrArg some (by kernel_rfl))
  f343 := Try.func55.trans (congrArg some (by kernel_rfl))
  t0 := Try.underlying0
  a0 := Try.isAgg0
  z0 := Try.sizeOf0
  v0 := Try.zeroValue0
  t3 := Try.underlying3
  a3 := Try.isAgg3
  z3 := Try.sizeOf3
  v3 := Try.zeroValue3
  t4 := Try.underlying4
  a4 := Try.isAgg4
  z4 := Try.sizeOf4
  v4 := Try.zeroValue4
  t5 := Try.underlying5
  a5 := Try.isAgg5
  z5 := Try.sizeOf5
  v5 := Try.zeroValue5
  t9 := Try.underlying9
  a9 := Try.isAgg9
  z9 := Try.sizeOf9
  v9 := Try.zeroValue9
  t28 := Try.underlying22
  a28 := Try.isAgg22
  z28 := Try.sizeOf22
  v28 := Try.zeroValue22
  t46 := Try.underlying58
  a46 := Try.isAgg58
  z46 := Try.sizeOf58
  v46 := Try.zeroValue58
  t51 := Try.underlying68
  a51 := Try.isAgg68
  z51 := Try.sizeOf68
  v51 := Try.zeroValue68
  t53 := Try.underlying70
  a53 := Try.isAgg70
  z53 := Try.sizeOf70
  v53 := Try.zeroValue70
  t131 := Try.underlying65
  a131 := Try.isAgg65
  z131 := Try.sizeOf65
  v131 := Try.zeroValue65
  t182 := Try.underlying60
  a182 := Try.isAgg60
  z182 := Try.sizeOf60
  v182 := Try.zeroValue60
  t183 := Try.underlying61
  a183 := Try.isAgg61
  z183 := Try.sizeOf61
  v183 := Try.zeroValue61
  t218 := Try.underlying71
  a218 := Try.isAgg71
  z218 := Try.sizeOf71
  v218 := Try.zeroValue71
  t222 := Try.underlying75
  a222 := Try.isAgg75
  z222 := Try.sizeOf75
  v222 := Try.zeroValue75
  t228 := Try.underlying77
  a228 := Try.isAgg77
  z228 := Try.sizeOf77
  v228 := Try.zeroValue77
  t229 := Try.underlying78
  a229 := Try.isAgg78
  z229 := Try.sizeOf78
  v229 := Try.zeroValue78 }
open Go.Sort Go.RowKit in
theorem Try.slices_Sort_int (blk off cap : Nat) (zs : List Int) (w : World) (hH : Holds (Value.int .i64) w blk off zs.toArray) (hblk : blk < w.heap.size) (hsz : zs.length < 4611686018427387904) :
    Calls Try.prog 33 #[.slice (some ⟨blk, off, none⟩) zs.length cap] w fun e w' =>
      e = .returned (.tuple #[]) ∧ ∃ n os, w' = grow (putRow (Value.int .i64) (Sort.ahead w n) blk off (zs.mergeSort fun x y => decide (x ≤ y)).toArray) os := Any.slices_Sort_int Try.lays189 blk off cap zs w hH hblk hsz
open Go.RowKit Go.Sort in
/-- .. and plain. (LAID: no walk: one application.) -/
theorem Try.slices_Sort_int_none (p : Option Addr) (cap : Nat) (w : World) :
    Calls Try.prog 33 #[.slice p 0 cap] w fun e w' => e = .returned (.tuple #[]) ∧ w' = w := Any.slices_Sort_int_none Try.lays189 p cap w
end Go.Proofs
namespace SX
open Go Go.Proofs
theorem sort_ok : SortOk := fun v xs hl => sort_ints (e := 3) (fun blk off cap zs w h1 h2 h3 => Try.slices_Sort_int blk off cap zs w h1 h2 h3) (fun p cap w => Try.slices_Sort_int_none p cap w) v xs hl
end SX
namespace SX
open Go Go.Proofs

theorem samelist_i (u v : Value) (xs ys : List Int) (L0 : List Assn) (hu : Ints Try.prog 3 L0 u xs) (hv : Ints Try.prog 3 L0 v ys) : Spec Try.prog 14 [u, v] L0 (fun r L => r = .bool (decide (xs = ys)) ∧ L = L0) := by
  obtain ⟨A, ca, rfl, hla, ha⟩ := hu
  obtain ⟨B, cb, rfl, hlb, hb⟩ := hv
  refine Spec.of 26 Try.func14 rfl rfl rfl ?_
  refine swp_seq ?_
  refine swp_region ?_
  refine s_pu (pu_assign rfl) ?_
  refine swl_sub _ (.cons (t := 0) rfl (.cons (t := 1) rfl .nil)) ?_
  refine swl_nil ?_
  refine then_n ?_
  refine swp_seq ?_
  refine swp_seq ?_
  refine swp_region ?_
  refine s_pu (pu_move rfl) ?_
  refine s_pu (pu_len rfl) ?_
  refine s_pu (pu_move rfl) ?_
  refine s_pu (pu_len rfl) ?_
  refine s_pu (pu_neq rfl rfl) ?_
  refine swl_sub _ (.cons (t := 0) rfl (.cons (t := 1) rfl (.cons (t := 10) rfl .nil))) ?_
  refine swl_nil ?_
  refine then_n ?_
  refine swp_cond (b := _) rfl (fun h10 => ?_) (fun h10 => ?_)
  · skip   -- 10 T
    refine swp_seq ?_
    refine swp_region ?_
    refine s_pu (pu_assign rfl) ?_
    refine swl_sub _ (.cons (t := 4) rfl .nil) ?_
    refine swl_nil ?_
    refine then_n ?_
    refine swp_ret ?_
    refine then_r ?_
    simp only [Bool.not_eq_true', decide_eq_false_iff_not] at h10
    exact done_ret _ (.tmp rfl .nil) ⟨by rw [decide_eq_false (fun e => h10 (by rw [e]))]; rfl, rfl⟩ Split.all
  · skip   -- 10 F
    refine swp_skip ?_
    refine then_n ?_
    refine swp_seq ?_
    refine swp_seq ?_
    refine swp_region ?_
    refine s_pu (pu_assign rfl) ?_
    refine swl_sub _ (.cons (t := 0) rfl (.cons (t := 1) rfl (.cons (t := 5) rfl .nil))) ?_
    refine swl_nil ?_
    refine then_n ?_
    refine swp_block ?_
    have hlen : xs.length = ys.length := by
      simp only [Bool.not_eq_false', decide_eq_true_eq] at h10; omega
    refine swp_sub _ (.cons (t := 0) rfl (.cons (t := 1) rfl (.cons (t := 5) rfl .nil))) ?_
    refine swp_loop (ι := Nat) (fun i env L => env = [(0, .slice A xs.length ca), (1, .slice B ys.length cb), (5, .int .i64 (i : Nat))] ∧ L = L0 ∧ i ≤ xs.length ∧ ∀ j, j < i → xs[j]? = ys[j]?) (fun i => xs.length - i) 0 ⟨rfl, rfl, Nat.zero_le _, fun j h => by omega⟩ ?_
    rintro i env L ⟨rfl, rfl, hi, hlo⟩
    refine swp_seq ?_
    refine swp_seq ?_
    refine swp_region ?_
    refine s_pu (pu_move rfl) ?_
    refine s_pu (pu_move rfl) ?_
    refine s_pu (pu_len rfl) ?_
    refine s_pu (pu_lss rfl rfl) ?_
    refine swl_sub _ (.cons (t := 0) rfl (.cons (t := 1) rfl (.cons (t := 5) rfl (.cons (t := 14) rfl .nil)))) ?_
    refine swl_nil ?_
    refine then_n ?_
    refine swp_cond (b := _) rfl (fun h14 => ?_) (fun h14 => ?_)
    · skip   -- 14 T
      have h14' : i < xs.length := by have := of_decide_eq_true h14; omega
      obtain ⟨x, hx⟩ : ∃ x, xs[i]? = some x := ⟨_, List.getElem?_eq_getElem h14'⟩
      obtain ⟨y, hy⟩ : ∃ y, ys[i]? = some y := ⟨_, List.getElem?_eq_getElem (by omega)⟩
      obtain ⟨ab, ao, rfl, hxl⟩ := ha (by omega)
      obtain ⟨bb, bo, rfl, hyl⟩ := hb (by omega)
      refine swp_skip ?_
      refine then_n ?_
      refine swp_seq ?_
      refine swp_block ?_
      refine swp_seq ?_
      refine swp_draw [3, 7] _ [] (by simp only [List.append_nil]; exact Ent.refl _) (by kernel_rfl) ?_
      refine d_pu 0 rfl (pu_move rfl) (by kernel_rfl) (by kernel_rfl) (by kernel_rfl) ?_
      refine d_pu 1 rfl (pu_move rfl) (by kernel_rfl) (by kernel_rfl) (by kernel_rfl) ?_
      refine d_pu 2 rfl (pu_indexAddr (ao + i * 1) rfl rfl (by omega) (by omega) (by rw [Int.toNat_natCast])) (by kernel_rfl) (by kernel_rfl) (by kernel_rfl) ?_
      refine d_rd 3 rfl (rd_of_ld rfl (by rw [Nat.mul_one]; exact hxl i x hx)) rfl (by kernel_rfl) (by kernel_rfl) (by kernel_rfl) ?_
      refine d_pu 4 rfl (pu_move rfl) (by kernel_rfl) (by kernel_rfl) (by kernel_rfl) ?_
      refine d_pu 5 rfl (pu_move rfl) (by kernel_rfl) (by kernel_rfl) (by kernel_rfl) ?_
      refine d_pu 6 rfl (pu_indexAddr (bo + i * 1) rfl rfl (by omega) (by omega) (by rw [Int.toNat_natCast])) (by kernel_rfl) (by kernel_rfl) (by kernel_rfl) ?_
      refine d_rd 7 rfl (rd_of_ld rfl (by rw [Nat.mul_one]; exact hyl i y hy)) rfl (by kernel_rfl) (by kernel_rfl) (by kernel_rfl) ?_
      refine d_pu 8 rfl (pu_neq rfl rfl) (by kernel_rfl) (by kernel_rfl) (by kernel_rfl) ?_
      refine d_sub _ (.cons (t := 0) rfl (.cons (t := 1) rfl (.cons (t := 5) rfl (.cons (t := 25) rfl .nil)))) ?_
      first | refine d_nilt (by kernel_rfl) ?_ | refine d_nilf (by kernel_rfl) ?_
      refine then_n ?_
      refine swp_cond (b := _) rfl (fun h25 => ?_) (fun h25 => ?_)
      · skip   -- 25 T
        refine swp_seq ?_
        refine swp_region ?_
        refine s_pu (pu_assign rfl) ?_
        refine swl_sub _ (.cons (t := 4) rfl .nil) ?_
        refine swl_nil ?_
        refine then_n ?_
        refine swp_ret ?_
        refine block_r ?_
        refine then_r ?_
        refine then_r ?_
        refine block_r ?_
        refine then_r ?_
        simp only [Bool.not_eq_true', decide_eq_false_iff_not] at h25
        exact done_ret _ (.tmp rfl .nil) ⟨by rw [decide_eq_false (fun e => h25 (by subst e; rw [hx] at hy; exact Option.some.inj hy))]; rfl, rfl⟩ Split.all
      · skip   -- 25 F
        refine swp_skip ?_
        refine block_n ?_
        refine then_n ?_
        refine swp_region ?_
        refine s_pu (pu_move rfl) ?_
        refine s_pu (pu_add_as ((i + 1 : Nat) : Int) rfl rfl (by omega) (by omega) (by omega)) ?_
        refine s_pu (pu_assign rfl) ?_
        refine swl_sub _ (.cons (t := 0) rfl (.cons (t := 1) rfl (.cons (t := 5) rfl .nil))) ?_
        refine swl_nil ?_
        simp only [Bool.not_eq_false', decide_eq_true_eq] at h25
        exact then_n ⟨i + 1, ⟨rfl, rfl, h14', fun j hj => by
          by_cases e : j = i
          · subst e; rw [hx, hy, h25]
          · exact hlo j (by omega)⟩, by omega⟩
    · skip   -- 14 F
      have h14' := of_decide_eq_false h14
      obtain rfl : i = xs.length := by omega
      refine swp_exit ?_
      refine then_x ?_
      refine then_x ?_
      refine block_hit rfl ?_
      refine then_n ?_
      refine swp_seq ?_
      refine swp_region ?_
      refine s_pu (pu_assign rfl) ?_
      refine swl_sub _ (.cons (t := 4) rfl .nil) ?_
      refine swl_nil ?_
      refine then_n ?_
      refine swp_ret ?_
      exact done_ret _ (.tmp rfl .nil) ⟨by rw [decide_eq_true (List.ext_getElem? fun j => by
        by_cases hj : j < xs.length
        · exact hlo j hj
        · rw [List.getElem?_eq_none (by omega), List.getElem?_eq_none (by omega)])]; rfl, rfl⟩ Split.all
end SX
namespace SX
open Go Go.Proofs

theorem samegraph_spec (μ : PH) (u v : Value) (G G' : List (Value × List Int)) (hG : Graph μ u G) (hG' : Graph μ v G') : Spec Try.prog 21 [u, v] [ro μ] (fun r L => r = .bool (decide (nums G = nums G')) ∧ L = [ro μ]) := by
  have hs1 := hG.1.small
  have hs2 := hG'.1.small
  obtain ⟨A, ca, hv⟩ := hG.1.sl
  subst hv
  obtain ⟨B, cb, hv⟩ := hG'.1.sl
  subst hv
  refine Spec.of 27 Try.func21 rfl rfl rfl ?_
  refine swp_seq ?_
  refine swp_region ?_
  refine s_pu (pu_assign rfl) ?_
  refine swl_sub _ (.cons (t := 0) rfl (.cons (t := 1) rfl .nil)) ?_
  refine swl_nil ?_
  refine then_n ?_
  refine swp_seq ?_
  refine swp_seq ?_
  refine swp_region ?_
  refine s_pu (pu_move rfl) ?_
  refine s_pu (pu_len rfl) ?_
  refine s_pu (pu_move rfl) ?_
  refine s_pu (pu_len rfl) ?_
  refine s_pu (pu_neq rfl rfl) ?_
  refine swl_sub _ (.cons (t := 0) rfl (.cons (t := 1) rfl (.cons (t := 10) rfl .nil))) ?_
  refine swl_nil ?_
  refine then_n ?_
  refine swp_cond (b := _) rfl (fun h10 => ?_) (fun h10 => ?_)
  · skip   -- 10 T
    refine swp_seq ?_
    refine swp_region ?_
    refine s_pu (pu_assign rfl) ?_
    refine swl_sub _ (.cons (t := 4) rfl .nil) ?_
    refine swl_nil ?_
    refine then_n ?_
    refine swp_ret ?_
    refine then_r ?_
    simp only [Bool.not_eq_true', decide_eq_false_iff_not] at h10
    exact done_ret [ro μ] (.tmp rfl .nil) ⟨by rw [decide_eq_false (fun e => h10 (by have := congrArg List.length e; rw [List.length_map, List.length_map] at this; rw [this]))]; rfl, rfl⟩ (by repeat (first | exact Split.nil | (apply Split.cons; (repeat (first | with_reducible exact Take.here | apply Take.there)))))
  · skip   -- 10 F
    refine swp_skip ?_
    refine then_n ?_
    refine swp_seq ?_
    refine swp_seq ?_
    refine swp_region ?_
    refine s_pu (pu_assign rfl) ?_
    refine swl_sub _ (.cons (t := 0) rfl (.cons (t := 1) rfl (.cons (t := 5) rfl .nil))) ?_
    refine swl_nil ?_
    refine then_n ?_
    refine swp_block ?_
    have hlen : G.length = G'.length := by
      simp only [Bool.not_eq_false', decide_eq_true_eq] at h10; omega
    refine swp_sub _ (.cons (t := 0) rfl (.cons (t := 1) rfl (.cons (t := 5) rfl .nil))) ?_
    refine swp_loop (ι := Nat) (fun i env L => env = [(0, .slice A G.length ca), (1, .slice B G'.length cb), (5, .int .i64 (i : Nat))] ∧ L = [ro μ] ∧ i ≤ G.length ∧ ∀ j, j < i → (nums G)[j]? = (nums G')[j]?) (fun i => G.length - i) 0 ⟨rfl, rfl, Nat.zero_le _, fun j h => by omega⟩ ?_
    rintro i env L ⟨rfl, rfl, hi, hlo⟩
    refine swp_seq ?_
    refine swp_seq ?_
    refine swp_region ?_
    refine s_pu (pu_move rfl) ?_
    refine s_pu (pu_move rfl) ?_
    refine s_pu (pu_len rfl) ?_
    refine s_pu (pu_lss rfl rfl) ?_
    refine swl_sub _ (.cons (t := 0) rfl (.cons (t := 1) rfl (.cons (t := 5) rfl (.cons (t := 14) rfl .nil)))) ?_
    refine swl_nil ?_
    refine then_n ?_
    refine swp_cond (b := _) rfl (fun h14 => ?_) (fun h14 => ?_)
    · skip   -- 14 T
      have h14' : i < G.length := by have := of_decide_eq_true h14; omega
      obtain ⟨x, hx⟩ : ∃ x, G[i]? = some x := ⟨_, List.getElem?_eq_getElem h14'⟩
      obtain ⟨y, hy⟩ : ∃ y, G'[i]? = some y := ⟨_, List.getElem?_eq_getElem (by omega)⟩
      obtain ⟨ab, ao, cap1, hv1, _, _, hr1⟩ := hG.1.pos (by omega)
      obtain ⟨bb, bo, cap2, hv2, _, _, hr2⟩ := hG'.1.pos (by omega)
      injection hv1 with e1 _ _
      injection hv2 with e2 _ _
      subst e1 e2
      have hxr := hG.2 _ (List.mem_of_getElem? hx)
      have hyr := hG'.2 _ (List.mem_of_getElem? hy)
      have hnx : (nums G)[i]? = some x.2 := by rw [List.getElem?_map, hx]; rfl
      have hny : (nums G')[i]? = some y.2 := by rw [List.getElem?_map, hy]; rfl
      refine swp_skip ?_
      refine then_n ?_
      refine swp_seq ?_
      refine swp_block ?_
      refine swp_seq ?_
      refine swp_draw [3, 7] _ [] (by simp only [List.append_nil]; exact Ent.refl _) (by kernel_rfl) ?_
      refine d_pu 0 rfl (pu_move rfl) (by kernel_rfl) (by kernel_rfl) (by kernel_rfl) ?_
      refine d_pu 1 rfl (pu_move rfl) (by kernel_rfl) (by kernel_rfl) (by kernel_rfl) ?_
      refine d_pu 2 rfl (pu_indexAddr (ao + i * 1) rfl rfl (by omega) (by omega) (by rw [Int.toNat_natCast])) (by kernel_rfl) (by kernel_rfl) (by kernel_rfl) ?_
      refine d_rd 3 rfl (rd_ro rfl (hr1.elem gcs_len hx).cell) rfl (by kernel_rfl) (by kernel_rfl) (by kernel_rfl) ?_
      refine d_pu 4 rfl (pu_move rfl) (by kernel_rfl) (by kernel_rfl) (by kernel_rfl) ?_
      refine d_pu 5 rfl (pu_move rfl) (by kernel_rfl) (by kernel_rfl) (by kernel_rfl) ?_
      refine d_pu 6 rfl (pu_indexAddr (bo + i * 1) rfl rfl (by omega) (by omega) (by rw [Int.toNat_natCast])) (by kernel_rfl) (by kernel_rfl) (by kernel_rfl) ?_
      refine d_rd 7 rfl (rd_ro rfl (hr2.elem gcs_len hy).cell) rfl (by kernel_rfl) (by kernel_rfl) (by kernel_rfl) ?_
      first | refine d_fint 8 rfl (by kernel_rfl) (by kernel_rfl) (ef_fn (samelist_i x.1 y.1 x.2 y.2 [ro μ] (Ints.row hxr) (Ints.row hyr)) rfl rfl (by repeat (first | exact Split.nil | (apply Split.cons; (repeat (first | with_reducible exact Take.here | apply Take.there)))))) ?_ | refine d_finf 8 rfl (by kernel_rfl) (by kernel_rfl) (ef_fn (samelist_i x.1 y.1 x.2 y.2 [ro μ] (Ints.row hxr) (Ints.row hyr)) rfl rfl (by repeat (first | exact Split.nil | (apply Split.cons; (repeat (first | with_reducible exact Take.here | apply Take.there)))))) ?_
      rintro v1 L1 ⟨rfl, rfl⟩
      refine swd_app ?_
      refine d_pu 9 rfl (pu_not rfl) (by kernel_rfl) (by kernel_rfl) (by kernel_rfl) ?_
      refine d_sub _ (.cons (t := 0) rfl (.cons (t := 1) rfl (.cons (t := 5) rfl (.cons (t := 26) rfl .nil)))) ?_
      first | refine d_nilt (by kernel_rfl) ?_ | refine d_nilf (by kernel_rfl) ?_
      refine then_n ?_
      refine swp_cond (b := _) rfl (fun h26 => ?_) (fun h26 => ?_)
      · skip   -- 26 T
        refine swp_seq ?_
        refine swp_region ?_
        refine s_pu (pu_assign rfl) ?_
        refine swl_sub _ (.cons (t := 4) rfl .nil) ?_
        refine swl_nil ?_
        refine then_n ?_
        refine swp_ret ?_
        refine block_r ?_
        refine then_r ?_
        refine then_r ?_
        refine block_r ?_
        refine then_r ?_
        have h26' : ¬ x.2 = y.2 := by simpa using h26
        exact done_ret [ro μ] (.tmp rfl .nil) ⟨by rw [decide_eq_false (fun e => h26' (by rw [e, hny] at hnx; exact (Option.some.inj hnx).symm))]; rfl, rfl⟩ (by repeat (first | exact Split.nil | (apply Split.cons; (repeat (first | with_reducible exact Take.here | apply Take.there)))))
      · skip   -- 26 F
        refine swp_skip ?_
        refine block_n ?_
        refine then_n ?_
        refine swp_region ?_
        refine s_pu (pu_move rfl) ?_
        refine s_pu (pu_add_as ((i + 1 : Nat) : Int) rfl rfl (by omega) (by omega) (by omega)) ?_
        refine s_pu (pu_assign rfl) ?_
        refine swl_sub _ (.cons (t := 0) rfl (.cons (t := 1) rfl (.cons (t := 5) rfl .nil))) ?_
        refine swl_nil ?_
        have h26' : x.2 = y.2 := by simpa using h26
        exact then_n ⟨i + 1, ⟨rfl, rfl, h14', fun j hj => by
          by_cases e : j = i
          · subst e; rw [hnx, hny, h26']
          · exact hlo j (by omega)⟩, by omega⟩
    · skip   -- 14 F
      have h14' := of_decide_eq_false h14
      obtain rfl : i = G.length := by omega
      refine swp_exit ?_
      refine then_x ?_
      refine then_x ?_
      refine block_hit rfl ?_
      refine then_n ?_
      refine swp_seq ?_
      refine swp_region ?_
      refine s_pu (pu_assign rfl) ?_
      refine swl_sub _ (.cons (t := 4) rfl .nil) ?_
      refine swl_nil ?_
      refine then_n ?_
      refine swp_ret ?_
      exact done_ret [ro μ] (.tmp rfl .nil) ⟨by rw [decide_eq_true (List.ext_getElem? fun j => by
        by_cases hj : j < G.length
        · exact hlo j hj
        · rw [List.getElem?_eq_none (by rw [List.length_map]; omega), List.getElem?_eq_none (by rw [List.length_map]; omega)])]; rfl, rfl⟩ (by repeat (first | exact Split.nil | (apply Split.cons; (repeat (first | with_reducible exact Take.here | apply Take.there)))))
end SX
namespace SX
open Go Go.Proofs

theorem copied_spec (μ : PH) (v : Value) (xs : List Int) (hv : Row μ v 1 xs.length (xs.flatMap (icsk .i64))) (hl : xs.length ≤ 17592186043904) :
    Spec Try.prog 11 [v] [ro μ] (fun r L => L = [own 3 1 r xs.length (xs.flatMap (icsk .i64)), ro μ]) := by
  refine Spec.of 9 Try.func11 rfl rfl rfl ?_
  refine swp_seq ?_
  refine swp_region ?_
  refine s_pu (pu_assign rfl) ?_
  refine swl_sub _ (.cons (t := 0) rfl .nil) ?_
  refine swl_nil ?_
  refine then_n ?_
  refine swp_seq ?_
  refine swp_region ?_
  refine s_pu (pu_move rfl) ?_
  refine s_pu (pu_len_row hv rfl) ?_
  first | refine s_pu (pu_add_in rfl rfl (by omega) (by omega)) ?_ | refine s_pu (pu_add rfl rfl) ?_
  refine s_ef (ef_make0 (e := 3) (n := 1) rfl rfl (by omega) (by omega) (by simp only [maxLen]; omega)) ?_
  rintro v23
  skip
  refine s_pu (pu_move rfl) ?_
  refine s_ef (ef_append_ro hv rfl rfl (by repeat (first | exact Split.nil | (apply Split.cons; (repeat (first | with_reducible exact Take.here | apply Take.there))))) (icsk_one _) (by simp only [maxLen]; omega) (by omega)) ?_
  rintro v25 -
  rw [Nat.zero_add, List.nil_append]
  refine s_pu (pu_assign rfl) ?_
  refine swl_sub _ (.cons (t := 2) rfl .nil) ?_
  refine swl_nil ?_
  refine then_n ?_
  refine swp_ret ?_
  exact done_ret [own 3 1 v25 xs.length (xs.flatMap (icsk .i64)), ro μ] (.tmp rfl .nil) rfl (by repeat (first | exact Split.nil | (apply Split.cons; (repeat (first | with_reducible exact Take.here | apply Take.there)))))
/-- a copy, wherever it lies -/
def Copied (μ : PH) (g : List (List Int)) (r : Value) (L : List Assn) : Prop := ∃ μ' G', Le μ μ' ∧ Graph μ' r G' ∧ nums G' = g ∧ L = [ro μ']
set_option maxHeartbeats 1000000 in
theorem graph_spec (μ : PH) (v : Value) (G : List (Value × List Int)) (hG : Graph μ v G) (hn : G.length ≤ 1048576) (hrows : ∀ x ∈ G, x.2.length ≤ 17592186043904) : Spec Try.prog 17 [v] [ro μ] (Copied μ (nums G)) := by
  refine Spec.of 19 Try.func17 rfl rfl rfl ?_
  refine swp_seq ?_
  refine swp_region ?_
  refine s_pu (pu_assign rfl) ?_
  refine swl_sub _ (.cons (t := 0) rfl .nil) ?_
  refine swl_nil ?_
  refine then_n ?_
  refine swp_seq ?_
  refine swp_region ?_
  refine s_pu (pu_assign rfl) ?_
  refine swl_sub _ (.cons (t := 0) rfl (.cons (t := 3) rfl .nil)) ?_
  refine swl_nil ?_
  refine then_n ?_
  refine swp_seq ?_
  refine swp_seq ?_
  refine swp_region ?_
  refine s_pu (pu_move rfl) ?_
  refine s_pu (pu_len_row hG.1 rfl) ?_
  refine s_pu (pu_move rfl) ?_
  refine swl_sub _ (.cons (t := 3) rfl (.cons (t := 6) rfl (.cons (t := 7) rfl (.cons (t := 8) rfl .nil)))) ?_
  refine swl_ent (own_nil_ent (e := 22) (n := 1)) ?_
  refine swl_nil ?_
  refine then_n ?_
  refine swp_block ?_
  refine swp_loop (ι := Nat × Value × List (Value × List Int) × PH) (fun k env L => env = [(3, k.2.1), (6, v), (7, .int .i64 (G.length : Nat)), (8, .int .i64 (k.1 : Nat))] ∧ L = [own 22 1 k.2.1 k.1 (k.2.2.1.flatMap gcs), ro k.2.2.2] ∧ k.1 ≤ G.length ∧ Le μ k.2.2.2 ∧ nums k.2.2.1 = (nums G).take k.1 ∧ ∀ x ∈ k.2.2.1, Row k.2.2.2 x.1 1 x.2.length (x.2.flatMap (icsk .i64))) (fun k => G.length - k.1) (0, .slice none 0 0, [], μ) ⟨rfl, rfl, Nat.zero_le _, Le.refl _, rfl, fun x hx => by cases hx⟩ ?_
  rintro ⟨k, v5, Gk, μk⟩ env L ⟨rfl, rfl, hk, hle, hnk, hrk⟩
  dsimp only at hk hle hnk hrk ⊢
  refine swp_seq ?_
  refine swp_region ?_
  refine s_pu (pu_lss rfl rfl) ?_
  refine swl_sub _ (.cons (t := 3) rfl (.cons (t := 6) rfl (.cons (t := 7) rfl (.cons (t := 8) rfl (.cons (t := 9) rfl .nil))))) ?_
  refine swl_nil ?_
  refine then_n ?_
  refine swp_seq ?_
  refine swp_cond (b := _) rfl (fun h9 => ?_) (fun h9 => ?_)
  · skip   -- 9 T
    have h9' : k < G.length := by have := of_decide_eq_true h9; omega
    obtain ⟨gb, off, cap, x, hv, hx, hxc, hxr, hnx⟩ := row_at (hG.le hle) h9'
    have hxl := hrows x (List.mem_of_getElem? hx)
    refine swp_skip ?_
    refine then_n ?_
    refine swp_seq ?_
    refine swp_block ?_
    refine swp_seq ?_
    refine swp_region ?_
    refine s_pu (pu_indexAddr (off + k * 1) (congrArg some hv) rfl (by omega) (by omega) (by rw [Int.toNat_natCast])) ?_
    refine s_rd (rd_ro rfl hxc) ?_
    refine s_pu (pu_assign rfl) ?_
    refine swl_sub _ (.cons (t := 3) rfl (.cons (t := 5) rfl (.cons (t := 6) rfl (.cons (t := 7) rfl (.cons (t := 8) rfl .nil))))) ?_
    refine swl_nil ?_
    refine then_n ?_
    refine swp_region ?_
    refine s_pu (pu_move rfl) ?_
    refine s_pu (pu_move rfl) ?_
    refine s_ef (ef_fn (copied_spec μk x.1 x.2 hxr hxl) rfl rfl (by repeat (first | exact Split.nil | (apply Split.cons; (repeat (first | with_reducible exact Take.here | apply Take.there)))))) ?_
    rintro v14 L1 rfl
    refine swl_app ?_
    refine swl_share_own (μ := μk) (by repeat (first | exact Split.nil | (apply Split.cons; (repeat (first | with_reducible exact Take.here | apply Take.there))))) fun μ' hle' hrow' => ?_
    obtain ⟨A25, cap25, rfl⟩ := hrow'.sl
    refine s_ef (ef_bldS (qs := [(0, _)]) rfl rfl rfl) ?_
    intro b15
    refine s_ef (ef_append_lit (l := k) (m := 1) (news := [.slice A25 x.2.length cap25]) rfl rfl (by repeat (first | exact Split.nil | (apply Split.cons; (repeat (first | with_reducible exact Take.here | apply Take.there))))) (by simp only [maxLen]; omega) (by omega)) ?_
    rintro v' hv'
    skip
    refine s_pu (pu_assign rfl) ?_
    refine swl_sub _ (.cons (t := 3) rfl (.cons (t := 6) rfl (.cons (t := 7) rfl (.cons (t := 8) rfl .nil)))) ?_
    refine swl_nil ?_
    refine block_n ?_
    refine then_n ?_
    refine swp_region ?_
    refine s_pu (pu_add_as ((k + 1 : Nat) : Int) rfl rfl (by omega) (by omega) (by omega)) ?_
    refine s_pu (pu_move rfl) ?_
    refine swl_sub _ (.cons (t := 3) rfl (.cons (t := 6) rfl (.cons (t := 7) rfl (.cons (t := 8) rfl .nil)))) ?_
    refine swl_nil ?_
    refine then_n ⟨(k + 1, v', Gk ++ [(.slice A25 x.2.length cap25, x.2)], μ'), ⟨rfl, by rw [List.flatMap_append]; rfl, h9', hle.trans hle', ?_, fun y hy => ?_⟩, by show G.length - (k + 1) < G.length - k; omega⟩
    · show List.map (·.2) (Gk ++ [(_, x.2)]) = _
      rw [List.map_append, List.take_add_one, hnx, ← hnk]; rfl
    · rcases List.mem_append.1 hy with hy | hy
      · exact (hrk y hy).le hle'
      · obtain rfl : y = (.slice A25 x.2.length cap25, x.2) := by simpa using hy
        exact hrow'
  · skip   -- 9 F
    have h9' := of_decide_eq_false h9
    obtain rfl : k = G.length := by omega
    refine swp_share_own (μ := μk) (by repeat (first | exact Split.nil | (apply Split.cons; (repeat (first | with_reducible exact Take.here | apply Take.there))))) fun μ' hle' hrow' => ?_
    refine swp_exit ?_
    refine then_x ?_
    refine then_x ?_
    refine block_hit rfl ?_
    refine then_n ?_
    refine swp_seq ?_
    refine swp_region ?_
    refine s_pu (pu_move rfl) ?_
    refine s_pu (pu_assign rfl) ?_
    refine swl_sub _ (.cons (t := 2) rfl .nil) ?_
    refine swl_nil ?_
    refine then_n ?_
    refine swp_ret ?_
    have hg : nums Gk = nums G := by rw [hnk, List.take_of_length_le (by rw [List.length_map]; exact Nat.le_refl _)]
    have hl : Gk.length = G.length := by have := congrArg List.length hg; rwa [List.length_map, List.length_map] at this
    refine done_ret [ro μ'] (.tmp rfl .nil) ⟨μ', Gk, hle.trans hle', ⟨by rw [hl]; exact hrow', fun x hx => (hrk x hx).le hle'⟩, hg, rfl⟩ (by repeat (first | exact Split.nil | (apply Split.cons; (repeat (first | with_reducible exact Take.here | apply Take.there)))))
theorem ints_lit {L : List Assn} {b : Nat} {xs : List Int} {cs : List Value} {n : Nat} [hb : InB b L 3 cs] (hc : cs = xs.flatMap (icsk .i64)) (hn : n = xs.length) (hs : xs.length ≤ 17592186043904) : Ints Try.prog 3 L (.slice (some ⟨b, 0, none⟩) n n) xs := by
  subst hc hn
  exact ints_blk rfl (by omega)
theorem counts_all : moreL [] [[], [0], [0], [1, 2]] = [1, 2, 2, 3] ∧ moreE [] [[], [0], [0], [1, 2]] = 0 := by decide +kernel
set_option maxHeartbeats 1000000 in
theorem counts_spec (μ : PH) : Spec Try.prog 10 [] [ro μ] (fun r L => r = .bool true ∧ ∃ μ', Le μ μ' ∧ L = [ro μ']) := by
  refine Spec.of 30 Try.func10 rfl rfl rfl ?_
  refine swp_seq ?_
  refine swp_region ?_
  refine s_pu (pu_assign rfl) ?_
  refine swl_sub _ .nil ?_
  refine swl_nil ?_
  refine then_n ?_
  refine swp_seq ?_
  refine swp_region ?_
  refine s_ef (ef_bldS (qs := [(0, _)]) rfl rfl rfl) ?_
  intro b4
  refine s_ef (ef_bldS (qs := [(0, _)]) rfl rfl rfl) ?_
  intro b5
  refine s_ef (ef_bldS (qs := [(0, _), (1, _)]) rfl rfl rfl) ?_
  intro b6
  refine s_ef (ef_bldS (qs := [(0, _), (1, _), (2, _), (3, _)]) rfl rfl rfl) ?_
  intro b7
  refine swl_share (b := b4) (μ := μ) (by repeat (first | exact Split.nil | (apply Split.cons; (repeat (first | with_reducible exact Take.here | apply Take.there))))) fun μ1 h1 k1 => ?_
  refine swl_share (b := b5) (μ := μ1) (by repeat (first | exact Split.nil | (apply Split.cons; (repeat (first | with_reducible exact Take.here | apply Take.there))))) fun μ2 h2 k2 => ?_
  refine swl_share (b := b6) (μ := μ2) (by repeat (first | exact Split.nil | (apply Split.cons; (repeat (first | with_reducible exact Take.here | apply Take.there))))) fun μ3 h3 k3 => ?_
  refine swl_share (b := b7) (μ := μ3) (by repeat (first | exact Split.nil | (apply Split.cons; (repeat (first | with_reducible exact Take.here | apply Take.there))))) fun μ4 h4 k4 => ?_
  have r1 := (row_of_blk (n := 1) (l := 1) (cs := [0].flatMap (icsk .i64)) k1 (by rfl) (by decide)).le (h2.trans (h3.trans h4))
  have r2 := (row_of_blk (n := 1) (l := 1) (cs := [0].flatMap (icsk .i64)) k2 (by rfl) (by decide)).le (h3.trans h4)
  have r3 := (row_of_blk (n := 1) (l := 2) (cs := [1, 2].flatMap (icsk .i64)) k3 (by rfl) (by decide)).le h4
  have hG : Graph μ4 (.slice (some ⟨b7, 0, none⟩) 4 4) [(.slice none 0 0, []), (.slice (some ⟨b4, 0, none⟩) 1 1, [0]), (.slice (some ⟨b5, 0, none⟩) 1 1, [0]), (.slice (some ⟨b6, 0, none⟩) 2 2, [1, 2])] := by
    refine ⟨row_of_blk k4 (by rfl) (by decide), fun x hx => ?_⟩
    rcases List.mem_cons.1 hx with rfl | hx
    · exact Row.nil _ _
    rcases List.mem_cons.1 hx with rfl | hx
    · exact r1
    rcases List.mem_cons.1 hx with rfl | hx
    · exact r2
    obtain rfl := List.mem_singleton.1 hx
    exact r3
  refine s_ef (ef_fn (all_spec sort_ok μ4 _ _ hG (by simp) (fun x hx => by simp at hx; rcases hx with rfl | rfl | rfl | rfl <;> simp)) rfl rfl (by repeat (first | exact Split.nil | (apply Split.cons; (repeat (first | with_reducible exact Take.here | apply Take.there)))))) ?_
  rintro v8 L1 ⟨lv, μ5, rfl, h5, rfl⟩
  rw [show nums [(Value.slice none 0 0, ([] : List Int)), (Value.slice (some ⟨b4, 0, none⟩) 1 1, [0]), (Value.slice (some ⟨b5, 0, none⟩) 1 1, [0]), (Value.slice (some ⟨b6, 0, none⟩) 2 2, [1, 2])] = [[], [0], [0], [1, 2]] from rfl, counts_all.1, counts_all.2]
  refine swl_app ?_
  refine swl_fact (fun m h => own_shape .here h) fun hs => ?_
  refine s_pu (pu_move rfl) ?_
  first | refine s_pu (pu_extractL rfl) ?_ | refine s_pu (pu_extract rfl rfl) ?_
  first | refine s_pu (pu_extractL rfl) ?_ | refine s_pu (pu_extract rfl rfl) ?_
  refine s_pu (pu_assign rfl) ?_
  refine s_pu (pu_assign rfl) ?_
  refine swl_sub _ (.cons (t := 1) rfl (.cons (t := 2) rfl .nil)) ?_
  refine swl_nil ?_
  refine then_n ?_
  refine swp_seq ?_
  refine swp_region ?_
  refine s_pu (pu_move rfl) ?_
  refine s_pu (pu_eql rfl rfl) ?_
  refine s_pu (pu_move rfl) ?_
  refine s_on rfl rfl ?_
  refine s_pu (pu_move rfl) ?_
  refine s_on rfl rfl ?_
  refine s_ef (ef_bldS (qs := [(0, _), (1, _), (2, _), (3, _)]) rfl rfl rfl) ?_
  intro b15
  refine s_on rfl rfl ?_
  refine s_ef (ef_fn (samelist_i lv _ ([1, 2, 2, 3] : List Int) ([1, 2, 2, 3] : List Int) _ (ints_own hs (by repeat (first | with_reducible exact Take.here | apply Take.there))) (ints_lit rfl rfl (by decide))) rfl rfl Split.all) ?_
  rintro v16 L1 ⟨rfl, rfl⟩
  refine swl_app ?_
  first | refine s_pu (pu_pick_t rfl rfl) ?_ | refine s_pu (pu_pick_f rfl rfl) ?_
  refine s_pu (pu_move rfl) ?_
  refine s_on rfl rfl ?_
  refine s_ef (ef_bldS (qs := [(0, _), (1, _)]) rfl rfl rfl) ?_
  intro b19
  refine s_on rfl rfl ?_
  refine s_ef (ef_fn (next_spec _ ([3, 7] : List Int) _ (ints_lit rfl rfl (by decide))) rfl rfl Split.all) ?_
  rintro v20 L1 ⟨rfl, rfl⟩
  refine swl_app ?_
  refine s_on rfl rfl ?_
  refine s_pu (pu_eql rfl rfl) ?_
  first | refine s_pu (pu_pick_t rfl rfl) ?_ | refine s_pu (pu_pick_f rfl rfl) ?_
  refine s_pu (pu_move rfl) ?_
  refine s_on rfl rfl ?_
  refine s_ef (ef_fn (may_spec 3 2) rfl rfl Split.nil) ?_
  rintro v24 L1 ⟨rfl, rfl⟩
  refine swl_app ?_
  first | refine s_pu (pu_pick_t rfl rfl) ?_ | refine s_pu (pu_pick_f rfl rfl) ?_
  refine s_pu (pu_move rfl) ?_
  refine s_on rfl rfl ?_
  refine s_ef (ef_fn (may_spec 2 2) rfl rfl Split.nil) ?_
  rintro v27 L1 ⟨rfl, rfl⟩
  refine swl_app ?_
  refine s_on rfl rfl ?_
  refine s_pu (pu_not rfl) ?_
  first | refine s_pu (pu_pick_t rfl rfl) ?_ | refine s_pu (pu_pick_f rfl rfl) ?_
  refine s_pu (pu_assign rfl) ?_
  refine swl_sub _ (.cons (t := 0) rfl .nil) ?_
  refine swl_nil ?_
  refine then_n ?_
  refine swp_ret ?_
  exact done_ret [ro μ5] (.tmp rfl .nil) ⟨rfl, μ5, h1.trans (h2.trans (h3.trans (h4.trans h5))), rfl⟩ (by repeat (first | exact Split.nil | (apply Split.cons; (repeat (first | with_reducible exact Take.here | apply Take.there)))))
abbrev LawOk (μ : PH) (r : Value) (L : List Assn) : Prop := r = .bool true ∧ ∃ μ' R, Le μ μ' ∧ L = ro μ' :: R
end SX
namespace SX
open Go Go.Proofs

theorem iset (ys : List Int) (ex : List Value) {k : Nat} (hk : k < ys.length) (x : Int) : (ys.flatMap (icsk .i64) ++ ex).set k (.int .i64 x) = (ys.set k x).flatMap (icsk .i64) ++ ex := by
  have hf : ∀ l : List Int, l.flatMap (icsk .i64) = l.map (Value.int .i64) := fun l => by
    induction l with
    | nil => rfl
    | cons a l ih => rw [List.flatMap_cons, List.map_cons, ih]; rfl
  rw [hf, hf, List.set_append_left (h := by rw [List.length_map]; omega), List.map_set]
theorem graph_len {G G' : List (Value × List Int)} (h : nums G' = nums G) : G'.length = G.length := by have := congrArg List.length h; rwa [List.length_map, List.length_map] at this
theorem graph_rows_len {G G' : List (Value × List Int)} {m : Nat} (h : nums G' = nums G) (hr : ∀ x ∈ G, x.2.length ≤ m) : ∀ x ∈ G', x.2.length ≤ m := fun x hx => by
  have h1 : x.2 ∈ nums G' := List.mem_map.2 ⟨x, hx, rfl⟩
  rw [h] at h1
  obtain ⟨y, hy, e⟩ := List.mem_map.1 h1
  have := hr y hy
  rw [e] at this; exact this
theorem row_take {μ : PH} {v : Value} {xs : List Int} (hv : Row μ v 1 xs.length (xs.flatMap (icsk .i64))) (k : Nat) (hk : k ≤ xs.length) :
    ∃ v', Row μ v' 1 (xs.take k).length ((xs.take k).flatMap (icsk .i64)) ∧ ∀ (env : Env) (x y : Operand) (ki : IntKind) (hi : Int), evalE env x = some v → evalE env y = some (.int ki hi) → hi = (k : Int) → Pu Try.prog env (.slice 22 x none (some y) none) v' := by
  obtain ⟨v', hr, hp⟩ := Row.hi (P := Try.prog) (t := 22) hv k hk
  refine ⟨v', ?_, hp⟩
  rw [Nat.mul_one, flat_take (icsk_len .i64)] at hr
  rwa [List.length_take, Nat.min_eq_left hk]
set_option maxHeartbeats 2000000 in
theorem genmore_spec (μ : PH) (vk v : Value) (K0 : List Int) (G : List (Value × List Int)) (hk0 : Row μ vk 1 K0.length (K0.flatMap (icsk .i64))) (hG : Graph μ v G) (hl : K0.length ≤ 17592186043904) (hn : G.length ≤ 17592186043904) (hrows : ∀ x ∈ G, x.2.length ≤ 17592186043904) : Spec Try.prog 6 [vk, v] [ro μ] (LawOk μ) := by
  refine Spec.of 82 Try.func6 rfl rfl rfl ?_
  refine swp_seq ?_
  refine swp_region ?_
  refine s_pu (pu_assign rfl) ?_
  refine swl_sub _ (.cons (t := 0) rfl (.cons (t := 1) rfl .nil)) ?_
  refine swl_nil ?_
  refine then_n ?_
  refine swp_seq ?_
  refine swp_seq ?_
  refine swp_region ?_
  refine s_ef (ef_fn (counts_spec μ) rfl rfl (by repeat (first | exact Split.nil | (apply Split.cons; (repeat (first | with_reducible exact Take.here | apply Take.there)))))) ?_
  rintro v11 L1 ⟨rfl, μ1, h1, rfl⟩
  refine swl_app ?_
  refine s_pu (pu_not rfl) ?_
  refine swl_sub _ (.cons (t := 0) rfl (.cons (t := 1) rfl (.cons (t := 15) rfl .nil))) ?_
  refine swl_nil ?_
  refine then_n ?_
  refine swp_cond (b := _) rfl (fun h15 => by cases h15) (fun h15 => ?_)
  refine swp_skip ?_
  refine then_n ?_
  refine swp_seq ?_
  obtain ⟨va, hK1, hsk⟩ := row_take (hk0.le h1) (min K0.length 5000) (Nat.min_le_left _ _)
  obtain ⟨v', hG1, hsl⟩ := graph_take (P := Try.prog) (tG := 30) (hG.le h1) (min G.length 5000) (Nat.min_le_left _ _)
  have hmn : (min (G.length : Int) 5000) = ((min G.length 5000 : Nat) : Int) := by omega
  have hmk : (min (K0.length : Int) 5000) = ((min K0.length 5000 : Nat) : Int) := by omega
  have hrows1 : ∀ x ∈ G.take (min G.length 5000), x.2.length ≤ 17592186043904 := fun x hx => hrows x (List.mem_of_mem_take hx)
  have hlen1 : (G.take (min G.length 5000)).length ≤ 5000 := by rw [List.length_take]; omega
  have hlenk : (K0.take (min K0.length 5000)).length ≤ 5000 := by rw [List.length_take]; omega
  generalize G.take (min G.length 5000) = Gm at *
  generalize K0.take (min K0.length 5000) = K at *
  refine swp_draw [] _ [] (by simp only [List.append_nil]; exact Ent.refl _) (by kernel_rfl) ?_
  refine d_pu 0 rfl (pu_move rfl) (by kernel_rfl) (by kernel_rfl) (by kernel_rfl) ?_
  refine d_pu 1 rfl (pu_move rfl) (by kernel_rfl) (by kernel_rfl) (by kernel_rfl) ?_
  refine d_pu 2 rfl (pu_len_row hk0 rfl) (by kernel_rfl) (by kernel_rfl) (by kernel_rfl) ?_
  refine d_pu 3 rfl (pu_min2 rfl rfl) (by kernel_rfl) (by kernel_rfl) (by kernel_rfl) ?_
  rw [hmk]
  refine d_pu 4 rfl (hsk _ _ _ .i64 _ rfl rfl rfl) (by kernel_rfl) (by kernel_rfl) (by kernel_rfl) ?_
  refine d_pu 5 rfl (pu_move rfl) (by kernel_rfl) (by kernel_rfl) (by kernel_rfl) ?_
  refine d_pu 6 rfl (pu_move rfl) (by kernel_rfl) (by kernel_rfl) (by kernel_rfl) ?_
  refine d_pu 7 rfl (pu_len_row hG.1 rfl) (by kernel_rfl) (by kernel_rfl) (by kernel_rfl) ?_
  refine d_pu 8 rfl (pu_min2 rfl rfl) (by kernel_rfl) (by kernel_rfl) (by kernel_rfl) ?_
  rw [hmn]
  refine d_pu 9 rfl (hsl _ _ _ .i64 _ rfl rfl rfl) (by kernel_rfl) (by kernel_rfl) (by kernel_rfl) ?_
  refine d_pu 10 rfl (pu_assign rfl) (by kernel_rfl) (by kernel_rfl) (by kernel_rfl) ?_
  refine d_pu 11 rfl (pu_assign rfl) (by kernel_rfl) (by kernel_rfl) (by kernel_rfl) ?_
  refine d_sub _ (.cons (t := 0) rfl (.cons (t := 1) rfl .nil)) ?_
  first | refine d_nilt (by kernel_rfl) ?_ | refine d_nilf (by kernel_rfl) ?_
  refine then_n ?_
  refine swp_seq ?_
  refine swp_region ?_
  refine s_pu (pu_move rfl) ?_
  refine s_ef (ef_fn (copied_spec μ1 va K hK1 (by omega)) rfl rfl (by repeat (first | exact Split.nil | (apply Split.cons; (repeat (first | with_reducible exact Take.here | apply Take.there)))))) ?_
  rintro v5 L1 rfl
  refine swl_app ?_
  refine swl_share_own (v := v5) (μ := μ1) (by repeat (first | exact Split.nil | (apply Split.cons; (repeat (first | with_reducible exact Take.here | apply Take.there))))) fun μ1b h1b rk => ?_
  refine s_pu (pu_move rfl) ?_
  refine s_ef (ef_fn (graph_spec μ1b v' Gm (hG1.le h1b) (by omega) hrows1) rfl rfl (by repeat (first | exact Split.nil | (apply Split.cons; (repeat (first | with_reducible exact Take.here | apply Take.there)))))) ?_
  rintro v6 L1 ⟨μ2, G2, h2, g2, e2, rfl⟩
  refine swl_app ?_
  have hl2 := graph_len e2
  have hr2 := graph_rows_len e2 hrows1
  refine s_pu (pu_assign rfl) ?_
  refine s_pu (pu_assign rfl) ?_
  refine swl_sub _ (.cons (t := 0) rfl (.cons (t := 1) rfl (.cons (t := 5) rfl (.cons (t := 6) rfl .nil)))) ?_
  refine swl_nil ?_
  refine then_n ?_
  refine swp_seq ?_
  refine swp_region ?_
  refine s_pu (pu_move rfl) ?_
  refine s_pu (pu_move rfl) ?_
  refine s_ef (ef_fn (more_spec sort_ok μ2 v5 v6 K G2 (rk.le h2) g2 (by omega) (by omega) hr2) rfl rfl (by repeat (first | exact Split.nil | (apply Split.cons; (repeat (first | with_reducible exact Take.here | apply Take.there)))))) ?_
  rintro v33 L1 ⟨lv, μ3, rfl, h3, rfl⟩
  refine swl_app ?_
  rw [e2]
  have hG3 := hG1.le (h1b.trans (h2.trans h3))
  have hK3 := hK1.le (h1b.trans (h2.trans h3))
  have g3 := g2.le h3
  have rk3 := rk.le (h2.trans h3)
  refine s_pu (pu_move rfl) ?_
  first | refine s_pu (pu_extractL rfl) ?_ | refine s_pu (pu_extract rfl rfl) ?_
  first | refine s_pu (pu_extractL rfl) ?_ | refine s_pu (pu_extract rfl rfl) ?_
  refine s_pu (pu_assign rfl) ?_
  refine s_pu (pu_assign rfl) ?_
  refine swl_sub _ (.cons (t := 0) rfl (.cons (t := 1) rfl (.cons (t := 5) rfl (.cons (t := 6) rfl (.cons (t := 7) rfl (.cons (t := 8) rfl .nil)))))) ?_
  refine swl_nil ?_
  refine then_n ?_
  refine swp_seq ?_
  refine swp_region ?_
  refine s_pu (pu_move rfl) ?_
  refine s_pu (pu_move rfl) ?_
  refine s_ef (ef_fn (rmore_spec μ3 va K v' Gm hK3 (by omega) hG3 (by omega) hrows1) rfl rfl (by repeat (first | exact Split.nil | (apply Split.cons; (repeat (first | with_reducible exact Take.here | apply Take.there)))))) ?_
  rintro v39 L1 ⟨rv, μ4, rfl, h4, rm, rfl⟩
  refine swl_app ?_
  have hml : (moreL K (nums Gm)).length ≤ 5000 := by
    cases hm : moreG K (nums Gm) with
    | none => rw [(moreL_none hm).1]; simp
    | some a =>
      have hal := (moreG_len hm).1
      rw [(moreL_some hm).1, List.length_drop, hal, List.length_map]; omega
  generalize hX : moreL K (nums Gm) = xs at *
  generalize hE : moreE K (nums Gm) = E at *
  refine swl_ent (Split.ent' (K := [own 3 1 lv xs.length (xs.flatMap (icsk .i64)), ro μ4]) (by repeat (first | exact Split.nil | (apply Split.cons; (repeat (first | with_reducible exact Take.here | apply Take.there)))))) ?_
  refine swl_fact (fun m h => own_shape .here h) fun hs1 => ?_
  have hform := shape_len hs1
  refine s_pu (pu_move rfl) ?_
  first | refine s_pu (pu_extractL rfl) ?_ | refine s_pu (pu_extract rfl rfl) ?_
  first | refine s_pu (pu_extractL rfl) ?_ | refine s_pu (pu_extract rfl rfl) ?_
  refine s_pu (pu_assign rfl) ?_
  refine s_pu (pu_assign rfl) ?_
  refine swl_sub _ (.cons (t := 0) rfl (.cons (t := 1) rfl (.cons (t := 5) rfl (.cons (t := 6) rfl (.cons (t := 7) rfl (.cons (t := 8) rfl (.cons (t := 9) rfl (.cons (t := 10) rfl .nil)))))))) ?_
  refine swl_nil ?_
  refine then_n ?_
  refine swp_seq ?_
  refine swp_seq ?_
  refine swp_region ?_
  refine s_pu (pu_move rfl) ?_
  refine s_pu (pu_move rfl) ?_
  refine s_pu (pu_neq rfl rfl) ?_
  refine s_pu (pu_move rfl) ?_
  refine s_split 45 rfl (fun h45 => by simp at h45) (fun h45 => ?_)
  refine s_on rfl rfl ?_
  refine s_pu (pu_move rfl) ?_
  refine s_on rfl rfl ?_
  refine s_pu (pu_move rfl) ?_
  refine s_on rfl rfl ?_
  refine s_ef (ef_fn (samelist_i lv rv xs xs [own 3 1 lv xs.length (xs.flatMap (icsk .i64)), ro μ4] (ints_own hs1 .here) (Ints.row rm)) rfl rfl (by repeat (first | exact Split.nil | (apply Split.cons; (repeat (first | with_reducible exact Take.here | apply Take.there)))))) ?_
  rintro v36 L1 ⟨rfl, rfl⟩
  refine swl_app ?_
  refine s_on rfl rfl ?_
  refine s_pu (pu_not rfl) ?_
  first | refine s_pu (pu_pick_t rfl rfl) ?_ | refine s_pu (pu_pick_f rfl rfl) ?_
  refine swl_sub _ (.cons (t := 0) rfl (.cons (t := 1) rfl (.cons (t := 5) rfl (.cons (t := 6) rfl (.cons (t := 7) rfl (.cons (t := 9) rfl (.cons (t := 50) rfl .nil))))))) ?_
  refine swl_nil ?_
  refine then_n ?_
  refine swp_cond (b := _) rfl (fun h50 => by simp at h50) (fun h50 => ?_)
  refine swp_skip ?_
  refine then_n ?_
  refine swp_seq ?_
  refine swp_seq ?_
  refine swp_region ?_
  refine s_pu (pu_move rfl) ?_
  refine s_pu (pu_len_own hform rfl) ?_
  refine s_pu (pu_move rfl) ?_
  refine swl_sub _ (.cons (t := 0) rfl (.cons (t := 1) rfl (.cons (t := 5) rfl (.cons (t := 6) rfl (.cons (t := 7) rfl (.cons (t := 9) rfl (.cons (t := 52) rfl (.cons (t := 53) rfl .nil)))))))) ?_
  refine swl_nil ?_
  refine then_n ?_
  refine swp_block ?_
  refine swp_loop (ι := Nat × List Int) (fun k env L => env = [(0, va), (1, v'), (5, v5), (6, v6), (7, lv), (9, rv), (52, .int .i64 (xs.length : Nat)), (53, .int .i64 (k.1 : Nat))] ∧ L = [own 3 1 lv xs.length (k.2.flatMap (icsk .i64)), ro μ4] ∧ k.1 ≤ xs.length ∧ k.2.length = xs.length) (fun k => xs.length - k.1) (0, xs) ⟨rfl, rfl, Nat.zero_le _, rfl⟩ ?_
  rintro ⟨k, ys⟩ env L ⟨rfl, rfl, hk, hys⟩
  dsimp only at hk hys ⊢
  refine swp_seq ?_
  refine swp_region ?_
  refine s_pu (pu_lss rfl rfl) ?_
  refine swl_sub _ (.cons (t := 0) rfl (.cons (t := 1) rfl (.cons (t := 5) rfl (.cons (t := 6) rfl (.cons (t := 7) rfl (.cons (t := 9) rfl (.cons (t := 52) rfl (.cons (t := 53) rfl (.cons (t := 54) rfl .nil))))))))) ?_
  refine swl_nil ?_
  refine then_n ?_
  refine swp_seq ?_
  refine swp_cond (b := _) rfl (fun h54 => ?_) (fun h54 => ?_)
  · skip   -- 54 T
    have hlt : k < xs.length := by have := of_decide_eq_true h54; omega
    refine swp_own (fun h0 l0 _ => by omega) (fun b1 c1 ex1 hv1 w1 w2 w3 w4 => ?_)
    subst hv1
    refine swp_skip ?_
    refine then_n ?_
    refine swp_seq ?_
    refine swp_block ?_
    refine swp_seq ?_
    refine swp_region ?_
    refine s_pu (pu_move rfl) ?_
    refine s_pu (pu_assign rfl) ?_
    refine swl_sub _ (.cons (t := 0) rfl (.cons (t := 1) rfl (.cons (t := 5) rfl (.cons (t := 6) rfl (.cons (t := 7) rfl (.cons (t := 9) rfl (.cons (t := 11) rfl (.cons (t := 52) rfl (.cons (t := 53) rfl .nil))))))))) ?_
    refine swl_nil ?_
    refine then_n ?_
    refine swp_region ?_
    refine s_pu (pu_move rfl) ?_
    refine s_pu (pu_move rfl) ?_
    refine s_pu (pu_indexAddr k rfl rfl (by omega) (by omega) (by omega)) ?_
    refine s_ef0 (ef_storeP rfl rfl rfl (by rw [List.length_append, icells_len']; omega)) ?_
    refine swl_sub _ (.cons (t := 0) rfl (.cons (t := 1) rfl (.cons (t := 5) rfl (.cons (t := 6) rfl (.cons (t := 7) rfl (.cons (t := 9) rfl (.cons (t := 52) rfl (.cons (t := 53) rfl .nil)))))))) ?_
    rw [iset ys ex1 (by omega)]
    refine swl_ent (own_close (n := 1) (by rw [icells_len', List.length_set, hys]) w4 w1 w2) ?_
    refine swl_nil ?_
    refine block_n ?_
    refine then_n ?_
    refine swp_region ?_
    refine s_pu (pu_add_as ((k + 1 : Nat) : Int) rfl rfl (by omega) (by omega) (by omega)) ?_
    refine s_pu (pu_move rfl) ?_
    refine swl_sub _ (.cons (t := 0) rfl (.cons (t := 1) rfl (.cons (t := 5) rfl (.cons (t := 6) rfl (.cons (t := 7) rfl (.cons (t := 9) rfl (.cons (t := 52) rfl (.cons (t := 53) rfl .nil)))))))) ?_
    refine swl_nil ?_
    exact then_n ⟨(k + 1, ys.set k (-1)), ⟨rfl, rfl, hlt, by rw [List.length_set, hys]⟩, by show xs.length - (k + 1) < xs.length - k; omega⟩
  · skip   -- 54 F
    refine swp_exit ?_
    refine then_x ?_
    refine then_x ?_
    refine block_hit rfl ?_
    refine then_n ?_
    refine swp_seq ?_
    refine swp_region ?_
    refine s_pu (pu_move rfl) ?_
    refine s_ef (ef_bldS (qs := [(0, _)]) rfl rfl rfl) ?_
    intro b61
    refine s_ef (ef_append_lit (l := xs.length) (m := 1) rfl rfl (by repeat (first | exact Split.nil | (apply Split.cons; (repeat (first | with_reducible exact Take.here | apply Take.there))))) (by simp only [maxLen]; omega) (by omega)) ?_
    rintro vapp hvapp
    skip
    refine swl_sub _ (.cons (t := 0) rfl (.cons (t := 1) rfl (.cons (t := 5) rfl (.cons (t := 6) rfl (.cons (t := 9) rfl .nil))))) ?_
    refine swl_nil ?_
    refine then_n ?_
    refine swp_seq ?_
    refine swp_region ?_
    refine s_pu (pu_move rfl) ?_
    refine s_pu (pu_move rfl) ?_
    refine s_ef (ef_fn (more_spec sort_ok μ4 v5 v6 K G2 (rk3.le h4) (g3.le h4) (by omega) (by omega) hr2) rfl rfl (by repeat (first | exact Split.nil | (apply Split.cons; (repeat (first | with_reducible exact Take.here | apply Take.there)))))) ?_
    rintro v66 L1 ⟨lw, μ5, rfl, h5, rfl⟩
    refine swl_app ?_
    rw [e2]
    generalize hxs : moreL K (nums Gm) = zs
    obtain rfl : zs = xs := hxs.symm.trans hX
    refine swl_ent (Split.ent' (K := [own 3 1 lw zs.length (zs.flatMap (icsk .i64)), ro μ5]) (by repeat (first | exact Split.nil | (apply Split.cons; (repeat (first | with_reducible exact Take.here | apply Take.there)))))) ?_
    refine swl_fact (fun m h => own_shape .here h) fun hs4 => ?_
    refine s_pu (pu_move rfl) ?_
    first | refine s_pu (pu_extractL rfl) ?_ | refine s_pu (pu_extract rfl rfl) ?_
    first | refine s_pu (pu_extractL rfl) ?_ | refine s_pu (pu_extract rfl rfl) ?_
    refine s_pu (pu_assign rfl) ?_
    refine s_pu (pu_assign rfl) ?_
    refine swl_sub _ (.cons (t := 0) rfl (.cons (t := 1) rfl (.cons (t := 5) rfl (.cons (t := 6) rfl (.cons (t := 9) rfl (.cons (t := 12) rfl .nil)))))) ?_
    refine swl_nil ?_
    refine then_n ?_
    refine swp_seq ?_
    refine swp_region ?_
    refine s_pu (pu_move rfl) ?_
    refine s_pu (pu_move rfl) ?_
    refine s_ef (ef_fn (samelist_i lw rv zs zs [own 3 1 lw zs.length (zs.flatMap (icsk .i64)), ro μ5] (ints_own hs4 .here) (Ints.row (rm.le h5))) rfl rfl (by repeat (first | exact Split.nil | (apply Split.cons; (repeat (first | with_reducible exact Take.here | apply Take.there)))))) ?_
    rintro v71 L1 ⟨rfl, rfl⟩
    refine swl_app ?_
    refine s_pu (pu_move rfl) ?_
    refine s_split 72 rfl (fun h72 => ?_) (fun h72 => by simp at h72)
    refine s_on rfl rfl ?_
    refine s_pu (pu_move rfl) ?_
    refine s_on rfl rfl ?_
    refine s_pu (pu_move rfl) ?_
    refine s_on rfl rfl ?_
    refine s_ef (ef_fn (samelist_i v5 va K K [ro μ5] (Ints.row (rk3.le (h4.trans h5))) (Ints.row (hK3.le (h4.trans h5)))) rfl rfl (by repeat (first | exact Split.nil | (apply Split.cons; (repeat (first | with_reducible exact Take.here | apply Take.there)))))) ?_
    rintro v75 L1 ⟨rfl, rfl⟩
    refine swl_app ?_
    first | refine s_pu (pu_pick_t rfl rfl) ?_ | refine s_pu (pu_pick_f rfl rfl) ?_
    refine s_pu (pu_move rfl) ?_
    refine s_split 77 rfl (fun h77 => ?_) (fun h77 => by simp at h77)
    refine s_on rfl rfl ?_
    refine s_pu (pu_move rfl) ?_
    refine s_on rfl rfl ?_
    refine s_pu (pu_move rfl) ?_
    refine s_on rfl rfl ?_
    refine s_ef (ef_fn (samegraph_spec μ5 v6 v' G2 Gm (g3.le (h4.trans h5)) (hG3.le (h4.trans h5))) rfl rfl (by repeat (first | exact Split.nil | (apply Split.cons; (repeat (first | with_reducible exact Take.here | apply Take.there)))))) ?_
    rintro v80 L1 ⟨rfl, rfl⟩
    refine swl_app ?_
    first | refine s_pu (pu_pick_t rfl rfl) ?_ | refine s_pu (pu_pick_f rfl rfl) ?_
    refine s_pu (pu_assign rfl) ?_
    refine swl_sub _ (.cons (t := 4) rfl .nil) ?_
    refine swl_nil ?_
    refine then_n ?_
    refine swp_ret ?_
    exact done_ret [ro μ5] (.tmp rfl .nil) ⟨by rw [decide_eq_true e2]; rfl, μ5, [], h1.trans (h1b.trans (h2.trans (h3.trans (h4.trans h5)))), rfl⟩ (by repeat (first | exact Split.nil | (apply Split.cons; (repeat (first | with_reducible exact Take.here | apply Take.there)))))
end SX
namespace SX
open Go Go.Proofs

end SX
namespace SX
open Go Go.Proofs

end SX
namespace SX
open Go Go.Proofs

end SX
