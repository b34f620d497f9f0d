/- A part of the proof: walks of the program's functions, and the rules by which they go. -/
import Derived.Test.YtieggbckcacihaaDoorBacd125b5
import Derived.Test.YtieggbckcacihaaDoorBa11b1fb9
namespace SX
open Go Go.Proofs

theorem rcounts_spec (n : Int) : Spec Tryd.prog 49 [.int .i64 n] [] (fun r L => r = .int .i64 (cnt n) ∧ L = []) := by
  refine Spec.of 8 Tryd.func49 rfl rfl rfl ?_
  refine swp_seq ?_
  refine swp_region ?_
  refine s_pu (pu_assign rfl) ?_
  refine swl_sub _ (.cons (t := 0) rfl .nil) ?_
  refine swl_nil ?_
  refine then_n ?_
  refine swp_seq ?_
  refine swp_seq ?_
  refine swp_region ?_
  refine s_pu (pu_move rfl) ?_
  refine s_pu (pu_lss rfl rfl) ?_
  refine swl_sub _ (.cons (t := 0) rfl (.cons (t := 4) rfl .nil)) ?_
  refine swl_nil ?_
  refine then_n ?_
  refine swp_cond (b := _) rfl (fun h4 => ?_) (fun h4 => ?_)
  · skip   -- 4 T
    refine swp_seq ?_
    refine swp_region ?_
    refine s_pu (pu_assign rfl) ?_
    refine swl_sub _ (.cons (t := 2) rfl .nil) ?_
    refine swl_nil ?_
    refine then_n ?_
    refine swp_ret ?_
    refine then_r ?_
    have h := of_decide_eq_true h4
    exact done_ret [] (.tmp rfl .nil) ⟨congrArg (Value.int .i64) (by unfold cnt; rw [if_neg (by omega)]; omega), rfl⟩ (by repeat (first | exact Split.nil | (apply Split.cons; (repeat (first | with_reducible exact Take.here | apply Take.there)))))
  · skip   -- 4 F
    refine swp_skip ?_
    refine then_n ?_
    refine swp_seq ?_
    refine swp_seq ?_
    refine swp_region ?_
    refine s_pu (pu_move rfl) ?_
    refine s_pu (pu_gtr rfl rfl) ?_
    refine swl_sub _ (.cons (t := 0) rfl (.cons (t := 6) rfl .nil)) ?_
    refine swl_nil ?_
    refine then_n ?_
    refine swp_cond (b := _) rfl (fun h6 => ?_) (fun h6 => ?_)
    · skip   -- 6 T
      refine swp_seq ?_
      refine swp_region ?_
      refine s_pu (pu_assign rfl) ?_
      refine swl_sub _ (.cons (t := 2) rfl .nil) ?_
      refine swl_nil ?_
      refine then_n ?_
      refine swp_ret ?_
      refine then_r ?_
      have h := of_decide_eq_true h6
      exact done_ret [] (.tmp rfl .nil) ⟨congrArg (Value.int .i64) (by unfold cnt; rw [if_pos h]), rfl⟩ (by repeat (first | exact Split.nil | (apply Split.cons; (repeat (first | with_reducible exact Take.here | apply Take.there)))))
    · skip   -- 6 F
      refine swp_skip ?_
      refine then_n ?_
      refine swp_seq ?_
      refine swp_region ?_
      refine s_pu (pu_move rfl) ?_
      refine s_pu (pu_assign rfl) ?_
      refine swl_sub _ (.cons (t := 2) rfl .nil) ?_
      refine swl_nil ?_
      refine then_n ?_
      refine swp_ret ?_
      have h := of_decide_eq_false h4
      have h' := of_decide_eq_false h6
      exact done_ret [] (.tmp rfl .nil) ⟨congrArg (Value.int .i64) (by unfold cnt; rw [if_neg h']; omega), rfl⟩ (by repeat (first | exact Split.nil | (apply Split.cons; (repeat (first | with_reducible exact Take.here | apply Take.there)))))
theorem rnext_spec (v : Value) (xs : List Int) (L0 : List Assn) (hv : Ints Tryd.prog 3 L0 v xs) : Spec Tryd.prog 90 [v] L0 (fun r L => r = .int .i64 (nxt xs) ∧ L = L0) := by
  obtain ⟨A, cap, rfl, hl, ha⟩ := hv
  have hr := hiG_range xs
  refine Spec.of 26 Tryd.func90 rfl rfl rfl ?_
  refine swp_seq ?_
  refine swp_region ?_
  refine s_pu (pu_assign rfl) ?_
  refine swl_sub _ (.cons (t := 0) rfl .nil) ?_
  refine swl_nil ?_
  refine then_n ?_
  refine swp_seq ?_
  refine swp_region ?_
  refine s_pu (pu_assign rfl) ?_
  refine swl_sub _ (.cons (t := 0) rfl (.cons (t := 3) rfl .nil)) ?_
  refine swl_nil ?_
  refine then_n ?_
  refine swp_seq ?_
  refine swp_seq ?_
  refine swp_region ?_
  refine s_pu (pu_assign rfl) ?_
  refine swl_sub _ (.cons (t := 0) rfl (.cons (t := 3) rfl (.cons (t := 4) rfl .nil))) ?_
  refine swl_nil ?_
  refine then_n ?_
  refine swp_block ?_
  refine swp_loop (ι := Nat) (fun k env L => env = [(0, .slice A xs.length cap), (3, .int .i64 (hiG (xs.take k))), (4, .int .i64 (k : Nat))] ∧ L = L0 ∧ k ≤ xs.length) (fun k => xs.length - k) 0 ⟨rfl, rfl, Nat.zero_le _⟩ ?_
  rintro k env L ⟨rfl, rfl, hk⟩
  refine swp_seq ?_
  refine swp_seq ?_
  refine swp_region ?_
  refine s_pu (pu_move rfl) ?_
  refine s_pu (pu_move rfl) ?_
  refine s_pu (pu_len rfl) ?_
  refine s_pu (pu_lss rfl rfl) ?_
  refine swl_sub _ (.cons (t := 0) rfl (.cons (t := 3) rfl (.cons (t := 4) rfl (.cons (t := 8) rfl .nil)))) ?_
  refine swl_nil ?_
  refine then_n ?_
  refine swp_cond (b := _) rfl (fun h8 => ?_) (fun h8 => ?_)
  · skip   -- 8 T
    have h8' : k < xs.length := by have := of_decide_eq_true h8; omega
    obtain ⟨b, off, rfl, hld⟩ := ha (by omega)
    obtain ⟨x, hx⟩ : ∃ x, xs[k]? = some x := ⟨_, List.getElem?_eq_getElem h8'⟩
    refine swp_skip ?_
    refine then_n ?_
    refine swp_seq ?_
    refine swp_block ?_
    refine swp_region ?_
    refine s_pu (pu_move rfl) ?_
    refine s_pu (pu_move rfl) ?_
    refine s_pu (pu_move rfl) ?_
    refine s_pu (pu_indexAddr (off + k * 1) rfl rfl (by omega) (by omega) (by rw [Int.toNat_natCast])) ?_
    refine s_rd (rd_of_ld rfl (by rw [Nat.mul_one]; exact hld k x hx)) ?_
    refine s_ef (ef_fn (rcounts_spec x) rfl rfl (by repeat (first | exact Split.nil | (apply Split.cons; (repeat (first | with_reducible exact Take.here | apply Take.there)))))) ?_
    rintro v1 L1 ⟨rfl, rfl⟩
    refine swl_app ?_
    refine s_pu (pu_max2 rfl rfl) ?_
    refine s_pu (pu_assign rfl) ?_
    refine swl_sub _ (.cons (t := 0) rfl (.cons (t := 3) rfl (.cons (t := 4) rfl .nil))) ?_
    refine swl_nil ?_
    refine block_n ?_
    refine then_n ?_
    refine swp_region ?_
    refine s_pu (pu_move rfl) ?_
    refine s_pu (pu_add_as ((k + 1 : Nat) : Int) rfl rfl (by omega) (by omega) (by omega)) ?_
    refine s_pu (pu_assign rfl) ?_
    refine swl_sub _ (.cons (t := 0) rfl (.cons (t := 3) rfl (.cons (t := 4) rfl .nil))) ?_
    refine swl_nil ?_
    exact then_n ⟨k + 1, ⟨by rw [List.take_add_one, hx]; show _ = [_, (3, Value.int .i64 (hiG (xs.take k ++ [x]))), _]; rw [hiG_append], rfl, h8'⟩, by omega⟩
  · skip   -- 8 F
    have h8' := of_decide_eq_false h8
    obtain rfl : k = xs.length := by omega
    rw [List.take_length]
    refine swp_exit ?_
    refine then_x ?_
    refine then_x ?_
    refine block_hit rfl ?_
    refine then_n ?_
    refine swp_seq ?_
    refine swp_block ?_
    refine swp_seq ?_
    refine swp_region ?_
    refine s_pu (pu_move rfl) ?_
    refine s_pu (pu_eql rfl rfl) ?_
    refine s_pu (pu_assign rfl) ?_
    refine swl_sub _ (.cons (t := 3) rfl (.cons (t := 18) rfl .nil)) ?_
    refine swl_nil ?_
    refine then_n ?_
    refine swp_cond (b := _) rfl (fun h18 => ?_) (fun h18 => ?_)
    · skip   -- 18 T
      refine swp_seq ?_
      refine swp_region ?_
      refine s_pu (pu_assign rfl) ?_
      refine swl_sub _ (.cons (t := 2) rfl .nil) ?_
      refine swl_nil ?_
      refine then_n ?_
      refine swp_ret ?_
      refine block_r ?_
      refine then_r ?_
      have h := of_decide_eq_true h18
      exact done_ret _ (.tmp rfl .nil) ⟨congrArg (Value.int .i64) (by unfold nxt; rw [if_pos (by omega)]; exact h.symm), rfl⟩ Split.all
    · skip   -- 18 F
      refine swp_seq ?_
      refine swp_region ?_
      refine s_pu (pu_move rfl) ?_
      refine s_pu (pu_eql rfl rfl) ?_
      refine s_pu (pu_assign rfl) ?_
      refine swl_sub _ (.cons (t := 3) rfl (.cons (t := 21) rfl .nil)) ?_
      refine swl_nil ?_
      refine then_n ?_
      refine swp_cond (b := _) rfl (fun h21 => ?_) (fun h21 => ?_)
      · skip   -- 21 T
        refine swp_seq ?_
        refine swp_region ?_
        refine s_pu (pu_assign rfl) ?_
        refine swl_sub _ (.cons (t := 2) rfl .nil) ?_
        refine swl_nil ?_
        refine then_n ?_
        refine swp_ret ?_
        refine block_r ?_
        refine then_r ?_
        have h := of_decide_eq_true h21
        exact done_ret _ (.tmp rfl .nil) ⟨congrArg (Value.int .i64) (by unfold nxt; rw [if_pos (by omega)]; exact h.symm), rfl⟩ Split.all
      · skip   -- 21 F
        refine swp_skip ?_
        refine block_n ?_
        refine then_n ?_
        refine swp_seq ?_
        refine swp_region ?_
        refine s_pu (pu_move rfl) ?_
        first | refine s_pu (pu_add_in rfl rfl (by omega) (by omega)) ?_ | refine s_pu (pu_add rfl rfl) ?_
        refine s_pu (pu_assign rfl) ?_
        refine swl_sub _ (.cons (t := 2) rfl .nil) ?_
        refine swl_nil ?_
        refine then_n ?_
        refine swp_ret ?_
        have h := of_decide_eq_false h18
        have h' := of_decide_eq_false h21
        exact done_ret _ (.tmp rfl .nil) ⟨congrArg (Value.int .i64) (by unfold nxt; rw [if_neg (by omega)]), rfl⟩ Split.all
theorem row_at {μ : PH} {v : Value} {G : List (Value × List Int)} (hG : Graph μ v G) {i : Nat} (hi : i < G.length) : ∃ gb off cap x, v = .slice (some ⟨gb, off, none⟩) G.length cap ∧ G[i]? = some x ∧ CellAt μ gb (off + i * 1) x.1 ∧ Row μ x.1 1 x.2.length (x.2.flatMap (icsk .i64)) ∧ (nums G)[i]? = some x.2 := by
  obtain ⟨gb, off, cap, hv, _, _, hr⟩ := hG.1.pos (by omega)
  have hx : G[i]? = some G[i] := List.getElem?_eq_getElem hi
  exact ⟨gb, off, cap, G[i], hv, hx, (hr.elem gcs_len hx).cell, hG.2 _ (List.mem_of_getElem? hx), by rw [List.getElem?_map, hx]; rfl⟩
theorem icells_len' (xs : List Int) : (xs.flatMap (icsk .i64)).length = xs.length * 1 := flat_length (icsk_len .i64) xs
theorem icells_get' {xs : List Int} {k : Nat} {z : Int} (hz : xs[k]? = some z) : (xs.flatMap (icsk .i64))[k]? = some (.int .i64 z) := by
  have := flat_get (icsk_len .i64) xs [] k z hz 0 (.int .i64 z) rfl
  rwa [List.append_nil, Nat.mul_one] at this
theorem shape_len {v : Value} {l : Nat} (h : Shape v l) : ∃ A cap, v = .slice A l cap := by
  rcases h with ⟨h1, h2⟩ | ⟨b, cap, h1, _⟩
  · exact ⟨none, 0, by rw [h1, h2]⟩
  · exact ⟨_, _, h1⟩
theorem shape_pos {v : Value} {l : Nat} (h : Shape v l) (h0 : 0 < l) : ∃ b cap, v = .slice (some ⟨b, 0, none⟩) l cap := by
  rcases h with ⟨_, h2⟩ | ⟨b, cap, h1, _⟩
  · omega
  · exact ⟨b, cap, h1⟩
/-- the answer: numbers, and the error -/
def moreL (K : List Int) (g : List (List Int)) : List Int := match moreG K g with
  | some all => all.drop K.length
  | none => []
def moreE (K : List Int) (g : List (List Int)) : Int := match moreG K g with
  | some _ => 0
  | none => 1
theorem moreL_some {K a : List Int} {g : List (List Int)} (h : moreG K g = some a) : moreL K g = a.drop K.length ∧ moreE K g = 0 := by unfold moreL moreE; rw [h]; exact ⟨rfl, rfl⟩
theorem moreL_none {K : List Int} {g : List (List Int)} (h : moreG K g = none) : moreL K g = [] ∧ moreE K g = 1 := by unfold moreL moreE; rw [h]; exact ⟨rfl, rfl⟩
theorem nodup_snoc {l : List Int} {i : Nat} {y : Int} (hy : l[i]? = some y) (h : (l.take i).Nodup) : (l.take (i + 1)).Nodup ↔ y ∉ l.take i := by
  rw [List.take_add_one, hy]
  show (l.take i ++ [y]).Nodup ↔ _
  rw [List.nodup_append]
  exact ⟨fun h hm => h.2.2 y hm y (by simp) rfl, fun hn => ⟨h, by simp, fun a ha b hb e => by
    obtain rfl := List.mem_singleton.1 hb
    subst e; exact hn ha⟩⟩
set_option maxHeartbeats 1000000 in
theorem rtwice_spec (μ : PH) (v : Value) (xs : List Int) (n : Nat) (hv : Row μ v 1 xs.length (xs.flatMap (icsk .i64))) (hin : ∀ p ∈ xs, 0 ≤ p ∧ p < n) (hn : n ≤ 1099511627776) :
    Spec Tryd.prog 89 [v, .int .i64 (n : Nat)] [ro μ] (fun r L => r = .bool (!decide xs.Nodup) ∧ L = [ro μ]) := by
  have hs := hv.small
  refine Spec.of 31 Tryd.func89 rfl rfl rfl ?_
  refine swp_seq ?_
  refine swp_region ?_
  refine s_pu (pu_assign rfl) ?_
  refine swl_sub _ (.cons (t := 0) rfl (.cons (t := 1) rfl .nil)) ?_
  refine swl_nil ?_
  refine then_n ?_
  refine swp_seq ?_
  refine swp_seq ?_
  refine swp_region ?_
  refine s_pu (pu_move rfl) ?_
  refine s_pu (pu_len_row hv rfl) ?_
  refine s_pu (pu_lss rfl rfl) ?_
  refine swl_sub _ (.cons (t := 0) rfl (.cons (t := 1) rfl (.cons (t := 9) rfl .nil))) ?_
  refine swl_nil ?_
  refine then_n ?_
  refine swp_cond (b := _) rfl (fun h9 => ?_) (fun h9 => ?_)
  · skip   -- 9 T
    refine swp_seq ?_
    refine swp_region ?_
    refine s_pu (pu_assign rfl) ?_
    refine swl_sub _ (.cons (t := 4) rfl .nil) ?_
    refine swl_nil ?_
    refine then_n ?_
    refine swp_ret ?_
    refine then_r ?_
    have h9' := of_decide_eq_true h9
    have hnd : xs.Nodup := by
      match xs, h9' with
      | [], _ => exact .nil
      | [x], _ => simp
      | _ :: _ :: _, h => simp at h; omega
    exact done_ret [ro μ] (.tmp rfl .nil) ⟨by rw [decide_eq_true hnd]; rfl, rfl⟩ (by repeat (first | exact Split.nil | (apply Split.cons; (repeat (first | with_reducible exact Take.here | apply Take.there)))))
  · skip   -- 9 F
    refine swp_skip ?_
    refine then_n ?_
    refine swp_seq ?_
    refine swp_region ?_
    refine s_pu (pu_move rfl) ?_
    refine s_ef (ef_make1 n rfl rfl rfl (by omega) (by simp only [maxLen]; omega)) ?_
    rintro b11
    skip
    refine s_pu (pu_assign rfl) ?_
    refine swl_sub _ (.cons (t := 0) rfl (.cons (t := 5) rfl .nil)) ?_
    rw [rbs_false]
    refine swl_nil ?_
    refine then_n ?_
    refine swp_seq ?_
    refine swp_seq ?_
    refine swp_region ?_
    refine s_pu (pu_assign rfl) ?_
    refine swl_sub _ (.cons (t := 0) rfl (.cons (t := 5) rfl (.cons (t := 6) rfl .nil))) ?_
    refine swl_nil ?_
    refine then_n ?_
    refine swp_block ?_
    have e0 : rbs n (fun _ => false) = rbs n (fun k => decide ((k : Int) ∈ xs.take 0)) := rbs_ext fun j _ => by simp
    rw [e0]
    refine swp_sub _ (.cons (t := 0) rfl (.cons (t := 5) rfl (.cons (t := 6) rfl .nil))) ?_
    refine swp_loop (ι := Nat) (fun i env L => env = [(0, v), (5, .slice (some ⟨b11, 0, none⟩) n n), (6, .int .i64 (i : Nat))] ∧ L = [blk b11 4 (rbs n (fun k => decide ((k : Int) ∈ xs.take i))), ro μ] ∧ i ≤ xs.length ∧ (xs.take i).Nodup) (fun i => xs.length - i) 0 ⟨rfl, rfl, Nat.zero_le _, by simp⟩ ?_
    rintro i env L ⟨rfl, rfl, hi, hnd⟩
    refine swp_seq ?_
    refine swp_seq ?_
    refine swp_region ?_
    refine s_pu (pu_move rfl) ?_
    refine s_pu (pu_move rfl) ?_
    refine s_pu (pu_len_row hv rfl) ?_
    refine s_pu (pu_lss rfl rfl) ?_
    refine swl_sub _ (.cons (t := 0) rfl (.cons (t := 5) rfl (.cons (t := 6) rfl (.cons (t := 15) rfl .nil)))) ?_
    refine swl_nil ?_
    refine then_n ?_
    refine swp_cond (b := _) rfl (fun h15 => ?_) (fun h15 => ?_)
    · skip   -- 15 T
      have h15' : i < xs.length := by have := of_decide_eq_true h15; omega
      obtain ⟨y, hy⟩ : ∃ y, xs[i]? = some y := ⟨_, List.getElem?_eq_getElem h15'⟩
      obtain ⟨yb, yo, yc, hyv, hyc⟩ := hv.at_ hy
      have hyin := hin y (List.mem_of_getElem? hy)
      obtain ⟨k, rfl⟩ : ∃ k : Nat, y = k := ⟨y.toNat, by omega⟩
      have hsn := nodup_snoc hy hnd
      refine swp_skip ?_
      refine then_n ?_
      refine swp_seq ?_
      refine swp_block ?_
      refine swp_seq ?_
      refine swp_seq ?_
      refine swp_region ?_
      refine s_pu (pu_move rfl) ?_
      refine s_pu (pu_move rfl) ?_
      refine s_pu (pu_move rfl) ?_
      refine s_pu (pu_indexAddr (yo + i * 1) (congrArg some hyv) rfl (by omega) (by omega) (by rw [Int.toNat_natCast])) ?_
      refine s_rd (rd_ro rfl hyc) ?_
      refine s_pu (pu_indexAddr k rfl rfl (by omega) (by omega) (by omega)) ?_
      refine s_rd (rd_load rfl (rbs_get _ (by omega))) ?_
      refine swl_sub _ (.cons (t := 0) rfl (.cons (t := 5) rfl (.cons (t := 6) rfl (.cons (t := 24) rfl .nil)))) ?_
      refine swl_nil ?_
      refine then_n ?_
      refine swp_cond (b := _) rfl (fun h24 => ?_) (fun h24 => ?_)
      · skip   -- 24 T
        refine swp_seq ?_
        refine swp_region ?_
        refine s_pu (pu_assign rfl) ?_
        refine swl_sub _ (.cons (t := 4) rfl .nil) ?_
        refine swl_nil ?_
        refine then_n ?_
        refine swp_ret ?_
        refine then_r ?_
        refine block_r ?_
        refine then_r ?_
        refine then_r ?_
        refine block_r ?_
        refine then_r ?_
        have h24' := of_decide_eq_true h24
        have hno : ¬ xs.Nodup := fun h => hsn.1 (h.sublist (List.take_sublist ..)) h24'
        exact done_ret [ro μ] (.tmp rfl .nil) ⟨by rw [decide_eq_false hno]; rfl, rfl⟩ (by repeat (first | exact Split.nil | (apply Split.cons; (repeat (first | with_reducible exact Take.here | apply Take.there)))))
      · skip   -- 24 F
        refine swp_skip ?_
        refine then_n ?_
        refine swp_region ?_
        refine s_pu (pu_move rfl) ?_
        refine s_pu (pu_move rfl) ?_
        refine s_pu (pu_move rfl) ?_
        refine s_pu (pu_indexAddr (yo + i * 1) (congrArg some hyv) rfl (by omega) (by omega) (by rw [Int.toNat_natCast])) ?_
        refine s_rd (rd_ro rfl hyc) ?_
        refine s_pu (pu_indexAddr k rfl rfl (by omega) (by omega) (by omega)) ?_
        refine s_ef0 (ef_storeP rfl rfl rfl (by rw [rbs_len]; omega)) ?_
        refine swl_sub _ (.cons (t := 0) rfl (.cons (t := 5) rfl (.cons (t := 6) rfl .nil))) ?_
        rw [rbs_set (T := fun j => decide ((j : Int) ∈ xs.take (i + 1))) (fun j hj => by
          rw [List.take_add_one, hy]
          by_cases e : j = k
          · subst e; simp
          · have : (j : Int) ≠ k := by omega
            simp [e, this])]
        refine swl_nil ?_
        refine block_n ?_
        refine then_n ?_
        refine swp_region ?_
        refine s_pu (pu_move rfl) ?_
        refine s_pu (pu_add_as ((i + 1 : Nat) : Int) rfl rfl (by omega) (by omega) (by omega)) ?_
        refine s_pu (pu_assign rfl) ?_
        refine swl_sub _ (.cons (t := 0) rfl (.cons (t := 5) rfl (.cons (t := 6) rfl .nil))) ?_
        refine swl_nil ?_
        have h24' := of_decide_eq_false h24
        exact then_n ⟨i + 1, ⟨rfl, rfl, h15', hsn.2 h24'⟩, by omega⟩
    · skip   -- 15 F
      have h15' := of_decide_eq_false h15
      obtain rfl : i = xs.length := by omega
      rw [List.take_length] at hnd
      refine swp_exit ?_
      refine then_x ?_
      refine then_x ?_
      refine block_hit rfl ?_
      refine then_n ?_
      refine swp_seq ?_
      refine swp_region ?_
      refine s_pu (pu_assign rfl) ?_
      refine swl_sub _ (.cons (t := 4) rfl .nil) ?_
      refine swl_nil ?_
      refine then_n ?_
      refine swp_ret ?_
      exact done_ret [ro μ] (.tmp rfl .nil) ⟨by rw [decide_eq_true hnd]; rfl, rfl⟩ (by repeat (first | exact Split.nil | (apply Split.cons; (repeat (first | with_reducible exact Take.here | apply Take.there)))))
theorem pu_slice_all {P : Program} {env : Env} {t e n by_ : Nat} [h : TSl P t e n by_] {x y : Operand} {v : Value} {l : Nat} (hs : Shape v l) (hx : evalE env x = some v) (hy : evalE env y = some (.int .i64 0)) : Pu P env (.slice t x (some y) none none) v := by
  rcases hs with ⟨rfl, rfl⟩ | ⟨b, cap, rfl, h1, h2⟩
  · have := pu_slice_loA (P := P) (env := env) (t := t) 0 hx hy rfl (Nat.le_refl 0)
    exact this
  · have := pu_slice_lo (P := P) (env := env) (t := t) 0 hx hy rfl (Nat.zero_le l)
    by_cases hc : cap = 0
    · rw [if_pos hc] at this; exact this
    · rw [if_neg hc, Nat.zero_mul] at this; exact this
set_option maxHeartbeats 2000000 in
theorem rmore0_spec (μ : PH) (vg : Value) (G : List (Value × List Int)) (hG : Graph μ vg G) (hn : G.length ≤ 1048576) (hrows : ∀ x ∈ G, x.2.length ≤ 17592186043904) :
    Spec Tryd.prog 74 [.slice none 0 0, vg] [ro μ] (fun r L => ∃ rv, r = .tuple #[rv, .int .i64 (moreE [] (nums G))] ∧ L = [own 3 1 rv (moreL [] (nums G)).length ((moreL [] (nums G)).flatMap (icsk .i64)), ro μ]) := by
  have hln : (nums G).length = G.length := List.length_map _
  have hsg := hG.1.small
  have hK0 : ([] : List Int).length = 0 := rfl
  refine Spec.of 67 Tryd.func74 rfl rfl rfl ?_
  refine swp_seq ?_
  refine swp_region ?_
  refine s_pu (pu_assign rfl) ?_
  refine s_pu (pu_assign rfl) ?_
  refine swl_sub _ (.cons (t := 0) rfl (.cons (t := 1) rfl .nil)) ?_
  refine swl_nil ?_
  refine then_n ?_
  refine swp_seq ?_
  refine swp_region ?_
  refine s_ef (ef_bldS (qs := []) rfl rfl rfl) ?_
  intro b11
  refine s_pu (pu_move rfl) ?_
  refine swl_ent (own_empty (e := 3) (n := 1)) ?_
  refine s_ef (ef_append_ro (Row.nil μ 1) rfl rfl (by repeat (first | exact Split.nil | (apply Split.cons; (repeat (first | with_reducible exact Take.here | apply Take.there))))) rfl (by decide) (by decide)) ?_
  rintro v13 -
  rw [Nat.zero_add, List.nil_append]
  refine s_pu (pu_assign rfl) ?_
  refine swl_sub _ (.cons (t := 0) rfl (.cons (t := 1) rfl (.cons (t := 6) rfl .nil))) ?_
  refine swl_nil ?_
  refine then_n ?_
  refine swp_seq ?_
  refine swp_seq ?_
  refine swp_region ?_
  refine s_pu (pu_assign rfl) ?_
  refine swl_sub _ (.cons (t := 0) rfl (.cons (t := 1) rfl (.cons (t := 6) rfl (.cons (t := 7) rfl .nil)))) ?_
  refine swl_nil ?_
  refine then_n ?_
  refine swp_block ?_
  refine swp_loop (ι := Nat × Value × List Int) (fun k env L => env = [(0, .slice none 0 0), (1, vg), (6, k.2.1), (7, .int .i64 (k.1 : Nat))] ∧ L = [own 3 1 k.2.1 k.2.2.length (k.2.2.flatMap (icsk .i64)), ro μ] ∧ k.1 ≤ G.length ∧ moreG [] ((nums G).take k.1) = some k.2.2) (fun k => G.length - k.1) (0, v13, []) ⟨rfl, rfl, Nat.zero_le _, rfl⟩ ?_
  rintro ⟨i, v6, a⟩ env L ⟨rfl, rfl, hi, ha⟩
  dsimp only at hi ha ⊢
  have hal := (moreG_len ha).1
  rw [List.length_take, hln, Nat.min_eq_left hi] at hal
  refine swp_fact (fun m h => own_shape .here h) fun hsh => ?_
  have hform := shape_len hsh
  refine swp_seq ?_
  refine swp_seq ?_
  refine swp_region ?_
  refine s_pu (pu_move rfl) ?_
  refine s_pu (pu_move rfl) ?_
  refine s_pu (pu_len_row hG.1 rfl) ?_
  refine s_pu (pu_lss rfl rfl) ?_
  refine swl_sub _ (.cons (t := 0) rfl (.cons (t := 1) rfl (.cons (t := 6) rfl (.cons (t := 7) rfl (.cons (t := 17) rfl .nil))))) ?_
  refine swl_nil ?_
  refine then_n ?_
  refine swp_cond (b := _) rfl (fun h17 => ?_) (fun h17 => ?_)
  · skip   -- 17 T
    have h17' : i < G.length := by have := of_decide_eq_true h17; omega
    obtain ⟨gb, off, cap, x, hv, hx, hxc, hxr, hnx⟩ := row_at hG h17'
    have hxl := hrows x (List.mem_of_getElem? hx)
    have hxs := hxr.small
    have hnext := moreG_at ha hnx
    refine swp_skip ?_
    refine then_n ?_
    refine swp_seq ?_
    refine swp_block ?_
    refine swp_seq ?_
    refine swp_region ?_
    refine s_pu (pu_assign rfl) ?_
    refine swl_sub _ (.cons (t := 0) rfl (.cons (t := 1) rfl (.cons (t := 6) rfl (.cons (t := 7) rfl (.cons (t := 8) rfl .nil))))) ?_
    refine swl_ent (own_nil_ent (e := 3) (n := 1)) ?_
    refine swl_nil ?_
    refine then_n ?_
    refine swp_seq ?_
    refine swp_seq ?_
    refine swp_region ?_
    refine s_pu (pu_assign rfl) ?_
    refine swl_sub _ (.cons (t := 0) rfl (.cons (t := 1) rfl (.cons (t := 6) rfl (.cons (t := 7) rfl (.cons (t := 8) rfl (.cons (t := 9) rfl .nil)))))) ?_
    refine swl_nil ?_
    refine then_n ?_
    refine swp_block ?_
    refine swp_sub _ (.cons (t := 0) rfl (.cons (t := 1) rfl (.cons (t := 6) rfl (.cons (t := 7) rfl (.cons (t := 8) rfl (.cons (t := 9) rfl .nil)))))) ?_
    refine swp_loop (ι := Nat × Value) (fun k env L => env = [(0, .slice none 0 0), (1, vg), (6, v6), (7, .int .i64 (i : Nat)), (8, k.2), (9, .int .i64 (k.1 : Nat))] ∧ L = [own 3 1 k.2 k.1 ((valsG a (x.2.take k.1)).flatMap (icsk .i64)), own 3 1 v6 a.length (a.flatMap (icsk .i64)), ro μ] ∧ k.1 ≤ x.2.length ∧ ∀ p ∈ x.2.take k.1, 0 ≤ p ∧ p < a.length) (fun k => x.2.length - k.1) (0, .slice none 0 0) ⟨rfl, rfl, Nat.zero_le _, fun p hp => by simp at hp⟩ ?_
    rintro ⟨j, v9⟩ env L ⟨rfl, rfl, hj, hrg⟩
    dsimp only at hj hrg ⊢
    refine swp_seq ?_
    refine swp_seq ?_
    refine swp_region ?_
    refine s_pu (pu_move rfl) ?_
    refine s_pu (pu_move rfl) ?_
    refine s_pu (pu_move rfl) ?_
    refine s_pu (pu_indexAddr (off + i * 1) (congrArg some hv) rfl (by omega) (by omega) (by rw [Int.toNat_natCast])) ?_
    refine s_rd (rd_ro rfl hxc) ?_
    refine s_pu (pu_len_row hxr rfl) ?_
    refine s_pu (pu_lss rfl rfl) ?_
    refine swl_sub _ (.cons (t := 0) rfl (.cons (t := 1) rfl (.cons (t := 6) rfl (.cons (t := 7) rfl (.cons (t := 8) rfl (.cons (t := 9) rfl (.cons (t := 26) rfl .nil))))))) ?_
    refine swl_nil ?_
    refine then_n ?_
    refine swp_cond (b := _) rfl (fun h26 => ?_) (fun h26 => ?_)
    · skip   -- 26 T
      have h26' : j < x.2.length := by have := of_decide_eq_true h26; omega
      obtain ⟨y, hy⟩ : ∃ y, x.2[j]? = some y := ⟨_, List.getElem?_eq_getElem h26'⟩
      obtain ⟨yb, yo, yc, hyv, hyc⟩ := hxr.at_ hy
      refine swp_skip ?_
      refine then_n ?_
      refine swp_seq ?_
      refine swp_block ?_
      refine swp_seq ?_
      refine swp_region ?_
      refine s_pu (pu_move rfl) ?_
      refine s_pu (pu_move rfl) ?_
      refine s_pu (pu_indexAddr (off + i * 1) (congrArg some hv) rfl (by omega) (by omega) (by rw [Int.toNat_natCast])) ?_
      refine s_rd (rd_ro rfl hxc) ?_
      refine s_pu (pu_move rfl) ?_
      refine s_pu (pu_indexAddr (yo + j * 1) (congrArg some hyv) rfl (by omega) (by omega) (by rw [Int.toNat_natCast])) ?_
      refine s_rd (rd_ro rfl hyc) ?_
      refine s_pu (pu_assign rfl) ?_
      refine swl_sub _ (.cons (t := 0) rfl (.cons (t := 1) rfl (.cons (t := 6) rfl (.cons (t := 7) rfl (.cons (t := 8) rfl (.cons (t := 9) rfl (.cons (t := 10) rfl .nil))))))) ?_
      refine swl_nil ?_
      refine then_n ?_
      refine swp_seq ?_
      refine swp_seq ?_
      refine swp_region ?_
      refine s_pu (pu_move rfl) ?_
      refine s_pu (pu_lss rfl rfl) ?_
      refine s_pu (pu_move rfl) ?_
      refine s_split 38 rfl (fun h38 => ?_) (fun h38 => ?_)
      · skip   -- 38 T
        refine s_off rfl rfl rfl ?_
        refine s_off rfl rfl rfl ?_
        refine s_off rfl rfl rfl ?_
        refine s_off rfl rfl rfl ?_
        first | refine s_pu (pu_pick_t rfl rfl) ?_ | refine s_pu (pu_pick_f rfl rfl) ?_
        refine swl_sub _ (.cons (t := 0) rfl (.cons (t := 1) rfl (.cons (t := 6) rfl (.cons (t := 7) rfl (.cons (t := 8) rfl (.cons (t := 9) rfl (.cons (t := 10) rfl (.cons (t := 43) rfl .nil)))))))) ?_
        refine swl_nil ?_
        refine then_n ?_
        refine swp_cond (b := _) rfl (fun h43 => ?_) (fun h43 => by cases h43)
        refine swp_seq ?_
        refine swp_region ?_
        refine s_pu (pu_assign rfl) ?_
        refine s_pu (pu_assign rfl) ?_
        refine swl_sub _ (.cons (t := 4) rfl (.cons (t := 5) rfl .nil)) ?_
        refine swl_nil ?_
        refine then_n ?_
        refine swp_ret ?_
        refine then_r ?_
        refine block_r ?_
        refine then_r ?_
        refine then_r ?_
        refine block_r ?_
        refine then_r ?_
        refine block_r ?_
        refine then_r ?_
        refine then_r ?_
        refine block_r ?_
        refine then_r ?_
        have h38' := of_decide_eq_true h38
        rw [if_neg (fun h => by have := (okRow_iff.1 h).1 y (List.mem_of_getElem? hy); omega)] at hnext
        have hno := moreL_none (moreG_none hnext)
        rw [hno.1, hno.2]
        exact done_retE [own 3 1 (.slice none 0 0) 0 [], ro μ] (.tmp rfl (.tmp rfl .nil)) ⟨.slice none 0 0, rfl, rfl⟩ ((Split.ent' (K := [ro μ]) (by repeat (first | exact Split.nil | (apply Split.cons; (repeat (first | with_reducible exact Take.here | apply Take.there)))))).trans own_nil_ent)
      · skip   -- 38 F
        refine s_on rfl rfl ?_
        refine s_pu (pu_move rfl) ?_
        refine s_on rfl rfl ?_
        refine s_pu (pu_move rfl) ?_
        refine s_on rfl rfl ?_
        refine s_pu (pu_len_own hform rfl) ?_
        refine s_on rfl rfl ?_
        refine s_pu (pu_geq rfl rfl) ?_
        first | refine s_pu (pu_pick_t rfl rfl) ?_ | refine s_pu (pu_pick_f rfl rfl) ?_
        refine swl_sub _ (.cons (t := 0) rfl (.cons (t := 1) rfl (.cons (t := 6) rfl (.cons (t := 7) rfl (.cons (t := 8) rfl (.cons (t := 9) rfl (.cons (t := 10) rfl (.cons (t := 43) rfl .nil)))))))) ?_
        refine swl_nil ?_
        refine then_n ?_
        refine swp_cond (b := _) rfl (fun h43 => ?_) (fun h43 => ?_)
        · skip   -- 43 T
          refine swp_seq ?_
          refine swp_region ?_
          refine s_pu (pu_assign rfl) ?_
          refine s_pu (pu_assign rfl) ?_
          refine swl_sub _ (.cons (t := 4) rfl (.cons (t := 5) rfl .nil)) ?_
          refine swl_nil ?_
          refine then_n ?_
          refine swp_ret ?_
          refine then_r ?_
          refine block_r ?_
          refine then_r ?_
          refine then_r ?_
          refine block_r ?_
          refine then_r ?_
          refine block_r ?_
          refine then_r ?_
          refine then_r ?_
          refine block_r ?_
          refine then_r ?_
          have h43' := of_decide_eq_true h43
          rw [if_neg (fun h => by have := (okRow_iff.1 h).1 y (List.mem_of_getElem? hy); omega)] at hnext
          have hno := moreL_none (moreG_none hnext)
          rw [hno.1, hno.2]
          exact done_retE [own 3 1 (.slice none 0 0) 0 [], ro μ] (.tmp rfl (.tmp rfl .nil)) ⟨.slice none 0 0, rfl, rfl⟩ ((Split.ent' (K := [ro μ]) (by repeat (first | exact Split.nil | (apply Split.cons; (repeat (first | with_reducible exact Take.here | apply Take.there)))))).trans own_nil_ent)
        · skip   -- 43 F
          have h38' := of_decide_eq_false h38
          have h43' := of_decide_eq_false h43
          obtain ⟨ky, rfl⟩ : ∃ k : Nat, y = k := ⟨y.toNat, by omega⟩
          obtain ⟨z, hz⟩ : ∃ z, a[ky]? = some z := ⟨_, List.getElem?_eq_getElem (by omega)⟩
          obtain ⟨ab, ac, hv6⟩ := shape_pos hsh (by omega)
          subst hv6
          refine swp_skip ?_
          refine then_n ?_
          refine swp_region ?_
          refine s_pu (pu_move rfl) ?_
          refine s_pu (pu_move rfl) ?_
          refine s_pu (pu_move rfl) ?_
          refine s_pu (pu_indexAddr ky rfl rfl (by omega) (by omega) (by omega)) ?_
          refine s_rd (rd_of_ld rfl (ld_own (by repeat (first | with_reducible exact Take.here | apply Take.there)) (icells_get' hz))) ?_
          refine s_ef (ef_bldS (qs := [(0, _)]) rfl rfl rfl) ?_
          intro b49
          refine s_ef (ef_append_lit (l := j) (m := 1) rfl rfl (by repeat (first | exact Split.nil | (apply Split.cons; (repeat (first | with_reducible exact Take.here | apply Take.there))))) (by simp only [maxLen]; omega) (by omega)) ?_
          rintro v' hv'
          skip
          refine s_pu (pu_assign rfl) ?_
          refine swl_sub _ (.cons (t := 0) rfl (.cons (t := 1) rfl (.cons (t := 6) rfl (.cons (t := 7) rfl (.cons (t := 8) rfl (.cons (t := 9) rfl .nil)))))) ?_
          have e1 : (valsG a (x.2.take j)).flatMap (icsk .i64) ++ [.int .i64 z] = (valsG a (x.2.take (j + 1))).flatMap (icsk .i64) := by
            rw [List.take_add_one, hy]
            show _ = (valsG a (x.2.take j ++ [(ky : Int)])).flatMap (icsk .i64)
            rw [valsG_append, Int.toNat_natCast, List.getD_eq_getElem?_getD, hz, List.flatMap_append]; rfl
          rw [e1]
          refine swl_nil ?_
          refine block_n ?_
          refine then_n ?_
          refine swp_region ?_
          refine s_pu (pu_move rfl) ?_
          refine s_pu (pu_add_as ((j + 1 : Nat) : Int) rfl rfl (by omega) (by omega) (by omega)) ?_
          refine s_pu (pu_assign rfl) ?_
          refine swl_sub _ (.cons (t := 0) rfl (.cons (t := 1) rfl (.cons (t := 6) rfl (.cons (t := 7) rfl (.cons (t := 8) rfl (.cons (t := 9) rfl .nil)))))) ?_
          refine swl_nil ?_
          exact then_n ⟨(j + 1, v'), ⟨rfl, rfl, h26', fun p hp => by
            rw [List.take_add_one, hy] at hp
            rcases List.mem_append.1 hp with hp | hp
            · exact hrg p hp
            · obtain rfl : p = (ky : Int) := by simpa using hp
              omega⟩, by show x.2.length - (j + 1) < x.2.length - j; omega⟩
    · skip   -- 26 F
      have h26' := of_decide_eq_false h26
      obtain rfl : j = x.2.length := by omega
      rw [List.take_length] at hrg ⊢
      have hvl : (valsG a x.2).length = x.2.length := List.length_map _
      rw [← hvl]
      refine swp_fact (fun m h => own_shape .here h) fun hsh9 => ?_
      refine swp_exit ?_
      refine then_x ?_
      refine then_x ?_
      refine block_hit rfl ?_
      refine then_n ?_
      refine swp_seq ?_
      refine swp_seq ?_
      refine swp_region ?_
      refine s_pu (pu_move rfl) ?_
      refine s_pu (pu_move rfl) ?_
      refine s_pu (pu_indexAddr (off + i * 1) (congrArg some hv) rfl (by omega) (by omega) (by rw [Int.toNat_natCast])) ?_
      refine s_rd (rd_ro rfl hxc) ?_
      refine s_pu (pu_move rfl) ?_
      refine s_pu (pu_len_own hform rfl) ?_
      refine s_ef (ef_fn (rtwice_spec μ x.1 x.2 a.length hxr hrg (by omega)) rfl rfl (by repeat (first | exact Split.nil | (apply Split.cons; (repeat (first | with_reducible exact Take.here | apply Take.there)))))) ?_
      rintro v57 L1 ⟨rfl, rfl⟩
      refine swl_app ?_
      refine swl_sub _ (.cons (t := 0) rfl (.cons (t := 1) rfl (.cons (t := 6) rfl (.cons (t := 7) rfl (.cons (t := 8) rfl (.cons (t := 57) rfl .nil)))))) ?_
      refine swl_nil ?_
      refine then_n ?_
      refine swp_cond (b := _) rfl (fun h57 => ?_) (fun h57 => ?_)
      · skip   -- 57 T
        refine swp_seq ?_
        refine swp_region ?_
        refine s_pu (pu_assign rfl) ?_
        refine s_pu (pu_assign rfl) ?_
        refine swl_sub _ (.cons (t := 4) rfl (.cons (t := 5) rfl .nil)) ?_
        refine swl_nil ?_
        refine then_n ?_
        refine swp_ret ?_
        refine then_r ?_
        refine block_r ?_
        refine then_r ?_
        refine then_r ?_
        refine block_r ?_
        refine then_r ?_
        have h57' : ¬ x.2.Nodup := by simpa using h57
        rw [if_neg (fun h => h57' (okRow_iff.1 h).2)] at hnext
        have hno := moreL_none (moreG_none hnext)
        rw [hno.1, hno.2]
        exact done_retE [own 3 1 (.slice none 0 0) 0 [], ro μ] (.tmp rfl (.tmp rfl .nil)) ⟨.slice none 0 0, rfl, rfl⟩ ((Split.ent' (K := [ro μ]) (by repeat (first | exact Split.nil | (apply Split.cons; (repeat (first | with_reducible exact Take.here | apply Take.there)))))).trans own_nil_ent)
      · skip   -- 57 F
        have h57' : x.2.Nodup := by simpa using h57
        rw [if_pos (okRow_iff.2 ⟨hrg, h57'⟩)] at hnext
        refine swp_skip ?_
        refine then_n ?_
        refine swp_region ?_
        refine s_pu (pu_move rfl) ?_
        refine s_pu (pu_move rfl) ?_
        refine s_ef (ef_fn (rnext_spec v9 (valsG a x.2) [own 3 1 v9 (valsG a x.2).length ((valsG a x.2).flatMap (icsk .i64))] (ints_own hsh9 .here)) rfl rfl (by repeat (first | exact Split.nil | (apply Split.cons; (repeat (first | with_reducible exact Take.here | apply Take.there)))))) ?_
        rintro v60 L1 ⟨rfl, rfl⟩
        refine swl_app ?_
        refine s_ef (ef_bldS (qs := [(0, _)]) rfl rfl rfl) ?_
        intro b61
        refine s_ef (ef_append_lit (l := a.length) (m := 1) rfl rfl (by repeat (first | exact Split.nil | (apply Split.cons; (repeat (first | with_reducible exact Take.here | apply Take.there))))) (by simp only [maxLen]; omega) (by omega)) ?_
        rintro v62 hv62
        skip
        refine s_pu (pu_assign rfl) ?_
        refine swl_sub _ (.cons (t := 0) rfl (.cons (t := 1) rfl (.cons (t := 6) rfl (.cons (t := 7) rfl .nil)))) ?_
        rw [show a.flatMap (icsk .i64) ++ [Value.int .i64 (nxt (valsG a x.2))] = (a ++ [nxt (valsG a x.2)]).flatMap (icsk .i64) by rw [List.flatMap_append]; rfl]
        refine swl_ent (Split.ent' (K := [own 3 1 v62 (a.length + 1) ((a ++ [nxt (valsG a x.2)]).flatMap (icsk .i64)), ro μ]) (by repeat (first | exact Split.nil | (apply Split.cons; (repeat (first | with_reducible exact Take.here | apply Take.there)))))) ?_
        refine swl_nil ?_
        refine block_n ?_
        refine then_n ?_
        refine swp_region ?_
        refine s_pu (pu_move rfl) ?_
        refine s_pu (pu_add_as ((i + 1 : Nat) : Int) rfl rfl (by omega) (by omega) (by omega)) ?_
        refine s_pu (pu_assign rfl) ?_
        refine swl_sub _ (.cons (t := 0) rfl (.cons (t := 1) rfl (.cons (t := 6) rfl (.cons (t := 7) rfl .nil)))) ?_
        refine swl_nil ?_
        exact then_n ⟨(i + 1, v62, a ++ [nxt (valsG a x.2)]), ⟨rfl, by rw [List.length_append]; rfl, h17', hnext⟩, by show G.length - (i + 1) < G.length - i; omega⟩
  · skip   -- 17 F
    have h17' := of_decide_eq_false h17
    obtain rfl : i = G.length := by omega
    rw [List.take_of_length_le (by rw [hln]; exact Nat.le_refl _)] at ha
    have hyes := moreL_some ha
    refine swp_exit ?_
    refine then_x ?_
    refine then_x ?_
    refine block_hit rfl ?_
    refine then_n ?_
    refine swp_seq ?_
    refine swp_region ?_
    refine s_pu (pu_move rfl) ?_
    refine s_pu (pu_move rfl) ?_
    refine s_pu (pu_len rfl) ?_
    refine s_pu (pu_slice_all hsh rfl rfl) ?_
    refine s_pu (pu_assign rfl) ?_
    refine s_pu (pu_assign rfl) ?_
    refine swl_sub _ (.cons (t := 4) rfl (.cons (t := 5) rfl .nil)) ?_
    refine swl_nil ?_
    refine then_n ?_
    refine swp_ret ?_
    rw [hyes.1, hyes.2]
    exact done_ret [own 3 1 v6 a.length (a.flatMap (icsk .i64)), ro μ] (.tmp rfl (.tmp rfl .nil)) ⟨v6, rfl, rfl⟩ (by repeat (first | exact Split.nil | (apply Split.cons; (repeat (first | with_reducible exact Take.here | apply Take.there)))))
theorem rall_spec (μ : PH) (vg : Value) (G : List (Value × List Int)) (hG : Graph μ vg G) (hn : G.length ≤ 1048576) (hrows : ∀ x ∈ G, x.2.length ≤ 17592186043904) :
    Spec Tryd.prog 42 [vg] [ro μ] (fun r L => ∃ rv, r = .tuple #[rv, .int .i64 (moreE [] (nums G))] ∧ L = [own 3 1 rv (moreL [] (nums G)).length ((moreL [] (nums G)).flatMap (icsk .i64)), ro μ]) := by
  refine Spec.of 8 Tryd.func42 rfl rfl rfl ?_
  refine swp_seq ?_
  refine swp_region ?_
  refine s_pu (pu_assign rfl) ?_
  refine s_pu (pu_assign rfl) ?_
  refine swl_sub _ (.cons (t := 0) rfl .nil) ?_
  refine swl_nil ?_
  refine then_n ?_
  refine swp_seq ?_
  refine swp_region ?_
  refine s_pu (pu_move rfl) ?_
  refine s_ef (ef_fn (rmore0_spec μ vg G hG hn hrows) rfl rfl (by repeat (first | exact Split.nil | (apply Split.cons; (repeat (first | with_reducible exact Take.here | apply Take.there)))))) ?_
  rintro v5 L1 ⟨lv, rfl, rfl⟩
  refine swl_app ?_
  first | refine s_pu (pu_extractL rfl) ?_ | refine s_pu (pu_extract rfl rfl) ?_
  first | refine s_pu (pu_extractL rfl) ?_ | refine s_pu (pu_extract rfl rfl) ?_
  refine s_pu (pu_assign rfl) ?_
  refine s_pu (pu_assign rfl) ?_
  refine swl_sub _ (.cons (t := 2) rfl (.cons (t := 3) rfl .nil)) ?_
  refine swl_nil ?_
  refine then_n ?_
  refine swp_ret ?_
  exact done_ret [own 3 1 lv (moreL [] (nums G)).length ((moreL [] (nums G)).flatMap (icsk .i64)), ro μ] (.tmp rfl (.tmp rfl .nil)) ⟨_, rfl, rfl⟩ (by repeat (first | exact Split.nil | (apply Split.cons; (repeat (first | with_reducible exact Take.here | apply Take.there)))))
end SX
namespace SX
open Go Go.Proofs

/-- a source of a graph: how often each commit was asked for its parents -/
def askV (n : Nat) (a : Nat → Nat) : List Value := ncs n (fun j => (a j : Int))
def gA (p : Nat) (vg vn : Value) (n : Nat) (a : Nat → Nat) : Assn := exA fun va : Value => [blk p 33 [vg, vn, va], own 3 1 va n (askV n a)]
theorem gA_close {p n : Nat} {vg vn va : Value} {a : Nat → Nat} {L : List Assn} : Ent (blk p 33 [vg, vn, va] :: own 3 1 va n (askV n a) :: L) (gA p vg vn n a :: L) :=
  ent_ex (F := fun va : Value => [blk p 33 [vg, vn, va], own 3 1 va n (askV n a)]) va (by repeat (first | exact Split.nil | (apply Split.cons; (repeat (first | with_reducible exact Take.here | apply Take.there)))))
theorem gcommits_spec (p n : Nat) (vg vn : Value) (a : Nat → Nat) (hg : ∃ A c, vg = .slice A n c) : Spec Tryd.prog 114 [.pointer (some ⟨p, 0, none⟩)] [gA p vg vn n a] (fun r L => r = .int .i64 (n : Nat) ∧ L = [gA p vg vn n a]) := by
  obtain ⟨A, c, rfl⟩ := hg
  refine Spec.exA' fun va => ?_
  simp only [List.cons_append, List.nil_append]
  refine Spec.ent3 (post := fun r L => r = .int .i64 (n : Nat) ∧ L = [blk p 33 [.slice A n c, vn, va], own 3 1 va n (askV n a)]) ?_ (fun v L ⟨h1, h2⟩ => ⟨_, by rw [h2]; exact gA_close, h1, rfl⟩)
  refine Spec.of 8 Tryd.func114 rfl rfl rfl ?_
  refine swp_seq ?_
  refine swp_region ?_
  refine s_pu (pu_assign rfl) ?_
  refine swl_sub _ (.cons (t := 0) rfl .nil) ?_
  refine swl_nil ?_
  refine then_n ?_
  refine swp_seq ?_
  refine swp_region ?_
  refine s_pu (pu_move rfl) ?_
  first | refine s_pu (pu_nilCheck rfl) ?_ | refine s_pu (pu_nilCheck_fn rfl) ?_ | refine s_pu (pu_nilCheck_if rfl) ?_
  first | refine s_pu (pu_fieldAddr0 rfl) ?_ | refine s_pu (pu_fieldAddr rfl) ?_
  refine s_rd (rd_load rfl rfl) ?_
  refine s_pu (pu_len rfl) ?_
  refine s_pu (pu_assign rfl) ?_
  refine swl_sub _ (.cons (t := 2) rfl .nil) ?_
  refine swl_nil ?_
  refine then_n ?_
  refine swp_ret ?_
  exact done_ret [blk p 33 [.slice A n c, vn, va], own 3 1 va n (askV n a)] (.tmp rfl .nil) ⟨rfl, rfl⟩ (by repeat (first | exact Split.nil | (apply Split.cons; (repeat (first | with_reducible exact Take.here | apply Take.there)))))
def ask1 (a : Nat → Nat) (c : Nat) : Nat → Nat := fun j => if j = c then a j + 1 else a j
theorem gparents_spec (μ : PH) (p : Nat) (vg vn : Value) (a : Nat → Nat) (G : List (Value × List Int)) (c : Nat) (hG : Graph μ vg G) (hc : c < G.length) (ha : a c ≤ 4611686018427387904) (hr : ∀ x ∈ G, x.2.length ≤ 17592186043904) :
    Spec Tryd.prog 115 [.pointer (some ⟨p, 0, none⟩), .int .i64 (c : Nat)] [gA p vg vn G.length a, ro μ]
      (fun r L => ∃ μ', Le μ μ' ∧ Row μ' r 1 (rowOf (nums G) c).length ((rowOf (nums G) c).flatMap (icsk .i64)) ∧ L = [gA p vg vn G.length (ask1 a c), ro μ']) := by
  refine Spec.exA' fun va => ?_
  simp only [List.cons_append, List.nil_append]
  obtain ⟨gb, off, cap, x, hv, hx, hxc, hxr, hnx⟩ := row_at hG hc
  have hxl := hr x (List.mem_of_getElem? hx)
  have hrow : rowOf (nums G) c = x.2 := rowOf_at hnx
  rw [hrow]
  refine Spec.ent3 (post := fun r L => ∃ μ' va, Le μ μ' ∧ Row μ' r 1 x.2.length (x.2.flatMap (icsk .i64)) ∧ L = [blk p 33 [vg, vn, va], own 3 1 va G.length (askV G.length (ask1 a c)), ro μ']) ?_ (fun v L ⟨μ', va, h1, h2, h3⟩ => ⟨_, by rw [h3]; exact gA_close, μ', h1, h2, rfl⟩)
  refine Spec.of 34 Tryd.func115 rfl rfl rfl ?_
  refine swp_seq ?_
  refine swp_region ?_
  refine s_pu (pu_assign rfl) ?_
  refine swl_sub _ (.cons (t := 0) rfl (.cons (t := 1) rfl .nil)) ?_
  refine swl_nil ?_
  refine then_n ?_
  refine swp_seq ?_
  refine swp_seq ?_
  refine swp_region ?_
  refine s_pu (pu_move rfl) ?_
  refine s_pu (pu_lss rfl rfl) ?_
  refine s_pu (pu_move rfl) ?_
  refine s_split 7 rfl (fun h7 => by exfalso; have h7' := of_decide_eq_true h7; omega) (fun h7 => ?_)
  refine s_on rfl rfl ?_
  refine s_pu (pu_move rfl) ?_
  refine s_on rfl rfl ?_
  refine s_pu (pu_move rfl) ?_
  refine s_on rfl rfl ?_
  first | refine s_pu (pu_nilCheck rfl) ?_ | refine s_pu (pu_nilCheck_fn rfl) ?_ | refine s_pu (pu_nilCheck_if rfl) ?_
  refine s_on rfl rfl ?_
  first | refine s_pu (pu_fieldAddr0 rfl) ?_ | refine s_pu (pu_fieldAddr rfl) ?_
  refine s_on rfl rfl ?_
  refine s_rd (rd_load rfl rfl) ?_
  refine s_on rfl rfl ?_
  refine s_pu (pu_len_row hG.1 rfl) ?_
  refine s_on rfl rfl ?_
  refine s_pu (pu_geq rfl rfl) ?_
  first | refine s_pu (pu_pick_t rfl rfl) ?_ | refine s_pu (pu_pick_f rfl rfl) ?_
  refine swl_sub _ (.cons (t := 0) rfl (.cons (t := 1) rfl (.cons (t := 15) rfl .nil))) ?_
  refine swl_nil ?_
  refine then_n ?_
  refine swp_cond (b := _) rfl (fun h15 => by exfalso; have h15' := of_decide_eq_true h15; omega) (fun h15 => ?_)
  refine swp_skip ?_
  refine then_n ?_
  refine swp_seq ?_
  refine swp_ent (Split.ent' (K := [own 3 1 va G.length (askV G.length a), blk p 33 [vg, vn, va], ro μ]) (by repeat (first | exact Split.nil | (apply Split.cons; (repeat (first | with_reducible exact Take.here | apply Take.there)))))) ?_
  refine swp_own (fun _ h0 _ => by omega) (fun b1 c1 ex1 hv1 w1 w2 w3 w4 => ?_)
  subst hv1
  refine swp_region ?_
  refine s_pu (pu_move rfl) ?_
  first | refine s_pu (pu_nilCheck rfl) ?_ | refine s_pu (pu_nilCheck_fn rfl) ?_ | refine s_pu (pu_nilCheck_if rfl) ?_
  first | refine s_pu (pu_fieldAddr0 rfl) ?_ | refine s_pu (pu_fieldAddr rfl) ?_
  refine s_rd (rd_load rfl rfl) ?_
  refine s_pu (pu_move rfl) ?_
  refine s_pu (pu_indexAddr c rfl rfl (by omega) (by omega) (by omega)) ?_
  refine s_rd (rd_load rfl (by rw [List.getElem?_append_left (by unfold askV; rw [ncs_len]; exact hc)]; exact ncs_get _ hc)) ?_
  refine s_pu (pu_add_as ((a c + 1 : Nat) : Int) rfl rfl (by omega) (by omega) (by omega)) ?_
  refine s_pu (pu_indexAddr c rfl rfl (by omega) (by omega) (by omega)) ?_
  refine s_ef0 (ef_storeP rfl rfl rfl (by rw [List.length_append]; unfold askV; rw [ncs_len]; omega)) ?_
  refine swl_sub _ (.cons (t := 0) rfl (.cons (t := 1) rfl .nil)) ?_
  rw [List.set_append_left (h := by unfold askV; rw [ncs_len]; exact hc), show (askV G.length a).set c (.int .i64 ((a c + 1 : Nat) : Int)) = askV G.length (ask1 a c) from ncs_set (fun j => by
    unfold ask1
    by_cases e : j = c
    · subst e; rw [if_pos rfl, if_pos rfl]
    · rw [if_neg e, if_neg e])]
  refine swl_ent (own_close (n := 1) (by unfold askV; rw [ncs_len]; omega) w4 w1 w2) ?_
  refine swl_nil ?_
  refine then_n ?_
  refine swp_seq ?_
  refine swp_region ?_
  refine s_ef (ef_bldS (qs := []) rfl rfl rfl) ?_
  intro b25
  refine swl_ent (own_empty (e := 3) (n := 1)) ?_
  refine s_pu (pu_move rfl) ?_
  first | refine s_pu (pu_nilCheck rfl) ?_ | refine s_pu (pu_nilCheck_fn rfl) ?_ | refine s_pu (pu_nilCheck_if rfl) ?_
  first | refine s_pu (pu_fieldAddr0 rfl) ?_ | refine s_pu (pu_fieldAddr rfl) ?_
  refine s_rd (rd_load rfl rfl) ?_
  refine s_pu (pu_move rfl) ?_
  refine s_pu (pu_indexAddr (off + c * 1) (congrArg some hv) rfl (by omega) (by omega) (by rw [Int.toNat_natCast])) ?_
  refine s_rd (rd_ro rfl hxc) ?_
  refine s_ef (ef_append_ro hxr rfl rfl (by repeat (first | exact Split.nil | (apply Split.cons; (repeat (first | with_reducible exact Take.here | apply Take.there))))) (icsk_one _) (by simp only [maxLen]; omega) (by omega)) ?_
  rintro v33 -
  rw [Nat.zero_add, List.nil_append]
  refine swl_share_own (v := v33) (μ := μ) (by repeat (first | exact Split.nil | (apply Split.cons; (repeat (first | with_reducible exact Take.here | apply Take.there))))) fun μ' h' hrow' => ?_
  refine s_pu (pu_assign rfl) ?_
  refine swl_sub _ (.cons (t := 4) rfl .nil) ?_
  refine swl_nil ?_
  refine then_n ?_
  refine swp_ret ?_
  exact done_ret [blk p 33 [vg, vn, .slice (some ⟨b1, 0, none⟩) G.length c1], own 3 1 (.slice (some ⟨b1, 0, none⟩) G.length c1) G.length (askV G.length (ask1 a c)), ro μ'] (.tmp rfl .nil) ⟨μ', _, h', hrow', rfl⟩ (by repeat (first | exact Split.nil | (apply Split.cons; (repeat (first | with_reducible exact Take.here | apply Take.there)))))
end SX
namespace SX
open Go Go.Proofs

/-- a source of commits -/
structure Src where
  t : TypeId
  v : Value
  d : Nat
  hd : d ≤ 7
  g : List (List Int)
  hg : Good g
  hn : g.length ≤ 65536
  σ : Type
  A : σ → PH → Assn
  mono : ∀ {s μ μ'}, Le μ μ' → Ent [A s μ] [A s μ']
  ok : σ → Nat → Prop
  step : σ → Nat → σ
  μ0 : PH
  commits : ∀ s μ, InvS Tryd.prog d t v "Commits" [] [A s μ] (fun r L => r = .int .i64 (g.length : Nat) ∧ L = [A s μ])
  parents : ∀ s μ (c : Nat), Le μ0 μ → c < g.length → ok s c → InvS Tryd.prog d t v "Parents" [.int .i64 (c : Nat)] [A s μ, ro μ] (fun r L => ∃ μ', Le μ μ' ∧ Row μ' r 1 (rowOf g c).length ((rowOf g c).flatMap (icsk .i64)) ∧ L = [A (step s c) μ', ro μ'])
abbrev Src.n (X : Src) : Nat := X.g.length
abbrev Src.sv (X : Src) : Value := .iface X.t X.v
theorem Src.up {X : Src} {s : X.σ} {μ μ' : PH} {L R : List Assn} (h : Le μ μ') (hL : Split L [X.A s μ] R) : Ent L (X.A s μ' :: R) := hL.ent.trans (Ent.app (X.mono h))
theorem commits_spec (X : Src) (s : X.σ) (μ : PH) : Spec Tryd.prog 56 [X.sv] [X.A s μ] (fun r L => r = .int .i64 (X.n : Nat) ∧ L = [X.A s μ]) := by
  have hn := X.hn
  refine Spec.of 7 Tryd.func56 rfl rfl rfl ?_
  refine swp_seq ?_
  refine swp_region ?_
  refine s_pu (pu_assign rfl) ?_
  refine swl_sub _ (.cons (t := 0) rfl .nil) ?_
  refine swl_nil ?_
  refine then_n ?_
  refine swp_seq ?_
  refine swp_region ?_
  refine s_pu (pu_move rfl) ?_
  refine s_ef (ef_invS rfl X.hd (X.commits s μ) rfl (by repeat (first | exact Split.nil | (apply Split.cons; (repeat (first | with_reducible exact Take.here | apply Take.there)))))) ?_
  rintro v4 L1 ⟨rfl, rfl⟩
  refine swl_app ?_
  refine s_pu (pu_max2 rfl rfl) ?_
  refine s_pu (pu_min2 rfl rfl) ?_
  refine s_pu (pu_assign rfl) ?_
  refine swl_sub _ (.cons (t := 2) rfl .nil) ?_
  refine swl_nil ?_
  refine then_n ?_
  refine swp_ret ?_
  exact done_ret [X.A s μ] (.tmp rfl .nil) ⟨by show Value.int .i64 _ = _; rw [show min (max (X.g.length : Int) 0) 65536 = (X.g.length : Int) by omega], rfl⟩ (by repeat (first | exact Split.nil | (apply Split.cons; (repeat (first | with_reducible exact Take.here | apply Take.there)))))
theorem put_w (p n : Nat) (S : Nat → Bool) (k : Int) : Spec Tryd.prog 57 [.pointer (some ⟨p, 0, none⟩), .int .i64 k] [mset p n S] (fun r L => r = .bool (newW n S k) ∧ L = [mset p n (putS n S k)]) := put_m p n S k
/-- a walker, opened -/
abbrev wkB (w sp q : Nat) (sv : Value) : Assn := blk w 72 [sv, .pointer (some ⟨sp, 0, none⟩), .pointer (some ⟨q, 0, none⟩)]
set_option maxHeartbeats 1000000 in
theorem add_spec (w sp q n : Nat) (sv v : Value) (s : Wk) (xs : List Int) (A : Assn) (hn : n ≤ 65536) (hx : Ints Tryd.prog 3 [A] v xs) (hs : WkOk n s) :
    Spec Tryd.prog 47 [.pointer (some ⟨w, 0, none⟩), v] [wkB w sp q sv, mset sp n s.1, Wq.cq q s.2 (seenN n s.1), A] (fun r L => r = .tuple #[] ∧ WkOk n (addAll n s xs) ∧ L = [wkB w sp q sv, mset sp n (addAll n s xs).1, Wq.cq q (addAll n s xs).2 (seenN n (addAll n s xs).1), A]) := by
  have key : ∀ s' : Wk, Ints Tryd.prog 3 [wkB w sp q sv, mset sp n s'.1, Wq.cq q s'.2 (seenN n s'.1), A] v xs := fun s' => hx.weak.weak.weak
  obtain ⟨V, cv, rfl, hlv, _⟩ := hx
  refine Spec.of 25 Tryd.func47 rfl rfl rfl ?_
  refine swp_seq ?_
  refine swp_region ?_
  refine s_pu (pu_move rfl) ?_
  refine s_pu (pu_len rfl) ?_
  refine s_pu (pu_move rfl) ?_
  refine swl_sub _ (.cons (t := 0) rfl (.cons (t := 6) rfl (.cons (t := 7) rfl (.cons (t := 8) rfl .nil)))) ?_
  refine swl_nil ?_
  refine then_n ?_
  refine swp_block ?_
  refine swp_loop (ι := Nat) (fun i env L => env = [(0, .pointer (some ⟨w, 0, none⟩)), (6, .slice V xs.length cv), (7, .int .i64 (xs.length : Nat)), (8, .int .i64 (i : Nat))] ∧ L = [wkB w sp q sv, mset sp n (addAll n s (xs.take i)).1, Wq.cq q (addAll n s (xs.take i)).2 (seenN n (addAll n s (xs.take i)).1), A] ∧ i ≤ xs.length ∧ WkOk n (addAll n s (xs.take i))) (fun i => xs.length - i) 0 ⟨rfl, rfl, Nat.zero_le _, hs⟩ ?_
  rintro i env L ⟨rfl, rfl, hi, hok⟩
  refine swp_seq ?_
  refine swp_region ?_
  refine s_pu (pu_lss rfl rfl) ?_
  refine swl_sub _ (.cons (t := 0) rfl (.cons (t := 6) rfl (.cons (t := 7) rfl (.cons (t := 8) rfl (.cons (t := 9) rfl .nil))))) ?_
  refine swl_nil ?_
  refine then_n ?_
  refine swp_seq ?_
  refine swp_cond (b := _) rfl (fun h9 => ?_) (fun h9 => ?_)
  · skip   -- 9 T
    have h9' : i < xs.length := by have := of_decide_eq_true h9; omega
    obtain ⟨c, hc⟩ : ∃ c, xs[i]? = some c := ⟨_, List.getElem?_eq_getElem h9'⟩
    have hsu := addAll_succ (n := n) (s := s) hc
    have key' := key (addAll n s (xs.take i))
    generalize addAll n s (xs.take i) = si at *
    obtain ⟨V', cv', hve, _, hld⟩ := key'
    obtain ⟨vb, vo, hV, hxl⟩ := hld (by omega)
    injection hve with e1 e2 e3
    subst e1 e3 hV
    refine swp_skip ?_
    refine then_n ?_
    refine swp_seq ?_
    refine swp_block ?_
    refine swp_seq ?_
    refine swp_region ?_
    refine s_pu (pu_indexAddr (vo + i * 1) rfl rfl (by omega) (by omega) (by rw [Int.toNat_natCast])) ?_
    refine s_rd (rd_of_ld rfl (by rw [Nat.mul_one]; exact hxl i c hc)) ?_
    refine s_pu (pu_assign rfl) ?_
    refine swl_sub _ (.cons (t := 0) rfl (.cons (t := 5) rfl (.cons (t := 6) rfl (.cons (t := 7) rfl (.cons (t := 8) rfl .nil))))) ?_
    refine swl_nil ?_
    refine then_n ?_
    refine swp_seq ?_
    refine swp_region ?_
    refine s_pu (pu_move rfl) ?_
    first | refine s_pu (pu_nilCheck rfl) ?_ | refine s_pu (pu_nilCheck_fn rfl) ?_ | refine s_pu (pu_nilCheck_if rfl) ?_
    first | refine s_pu (pu_fieldAddr0 rfl) ?_ | refine s_pu (pu_fieldAddr rfl) ?_
    refine s_rd (rd_load rfl rfl) ?_
    refine s_pu (pu_move rfl) ?_
    refine s_ef (ef_fn (put_w sp n si.1 c) rfl rfl (by repeat (first | exact Split.nil | (apply Split.cons; (repeat (first | with_reducible exact Take.here | apply Take.there)))))) ?_
    rintro v17 L1 ⟨rfl, rfl⟩
    refine swl_app ?_
    refine swl_sub _ (.cons (t := 0) rfl (.cons (t := 5) rfl (.cons (t := 6) rfl (.cons (t := 7) rfl (.cons (t := 8) rfl (.cons (t := 17) rfl .nil)))))) ?_
    refine swl_nil ?_
    refine then_n ?_
    refine swp_cond (b := _) rfl (fun h17 => ?_) (fun h17 => ?_)
    · skip   -- 17 T
      obtain ⟨k, rfl, hk, hkq, a1, a2, a3, a4⟩ := addW_new h17 hok
      have hql := falls_len hok.falls hok.lt
      have hsl := seenN_le n si.1
      refine swp_region ?_
      refine s_pu (pu_move rfl) ?_
      first | refine s_pu (pu_nilCheck rfl) ?_ | refine s_pu (pu_nilCheck_fn rfl) ?_ | refine s_pu (pu_nilCheck_if rfl) ?_
      first | refine s_pu (pu_fieldAddr0 rfl) ?_ | refine s_pu (pu_fieldAddr rfl) ?_
      refine s_rd (rd_load rfl rfl) ?_
      refine s_pu (pu_move rfl) ?_
      refine s_ef (ef_fn (Wq.push_q q si.2 (seenN n si.1) k hkq (by omega) (by omega)) rfl rfl (by repeat (first | exact Split.nil | (apply Split.cons; (repeat (first | with_reducible exact Take.here | apply Take.there)))))) ?_
      rintro v23 L1 ⟨rfl, rfl⟩
      refine swl_app ?_
      refine swl_sub _ (.cons (t := 0) rfl (.cons (t := 6) rfl (.cons (t := 7) rfl (.cons (t := 8) rfl .nil)))) ?_
      refine swl_nil ?_
      refine block_n ?_
      refine then_n ?_
      refine swp_region ?_
      refine swl_ent (Split.ent' (K := [wkB w sp q sv, mset sp n (putS n si.1 (k : Int)), Wq.cq q (insD k si.2) (seenN n si.1 + 1), A]) (by repeat (first | exact Split.nil | (apply Split.cons; (repeat (first | with_reducible exact Take.here | apply Take.there)))))) ?_
      refine s_pu (pu_add_as ((i + 1 : Nat) : Int) rfl rfl (by omega) (by omega) (by omega)) ?_
      refine s_pu (pu_move rfl) ?_
      refine swl_sub _ (.cons (t := 0) rfl (.cons (t := 6) rfl (.cons (t := 7) rfl (.cons (t := 8) rfl .nil)))) ?_
      refine swl_nil ?_
      refine then_n ⟨i + 1, ⟨rfl, ?_, h9', by rw [hsu]; exact a4⟩, by omega⟩
      rw [hsu, a1, a2, a3]
    · skip   -- 17 F
      obtain ⟨a1, a2⟩ := addW_old h17
      refine swp_skip ?_
      refine block_n ?_
      refine then_n ?_
      refine swp_region ?_
      refine swl_ent (Split.ent' (K := [wkB w sp q sv, mset sp n (putS n si.1 c), Wq.cq q si.2 (seenN n si.1), A]) (by repeat (first | exact Split.nil | (apply Split.cons; (repeat (first | with_reducible exact Take.here | apply Take.there)))))) ?_
      refine s_pu (pu_add_as ((i + 1 : Nat) : Int) rfl rfl (by omega) (by omega) (by omega)) ?_
      refine s_pu (pu_move rfl) ?_
      refine swl_sub _ (.cons (t := 0) rfl (.cons (t := 6) rfl (.cons (t := 7) rfl (.cons (t := 8) rfl .nil)))) ?_
      refine swl_nil ?_
      refine then_n ⟨i + 1, ⟨rfl, ?_, h9', by rw [hsu, a1]; exact hok⟩, by omega⟩
      rw [hsu, a1, a2]
  · skip   -- 9 F
    have h9' := of_decide_eq_false h9
    obtain rfl : i = xs.length := by omega
    rw [List.take_length] at *
    refine swp_exit ?_
    refine then_x ?_
    refine then_x ?_
    refine block_hit rfl ?_
    exact done_end _ .nil ⟨rfl, hok, rfl⟩ Split.all
theorem clampM_id {n : Nat} (h : n ≤ 65536) : clampM (n : Int) = n := by unfold clampM; omega
theorem WkOk.start (n : Nat) : WkOk n (fun _ => false, []) := ⟨.nil, fun _ h => (by cases h), fun _ h => (by cases h)⟩
theorem seenN_none (n : Nat) : seenN n (fun _ => false) = 0 := by unfold seenN; rw [List.filter_eq_nil_iff.2 (fun _ _ h => by cases h)]; rfl
abbrev wk0 : Wk := (fun _ => false, [])
theorem newWalker_spec (X : Src) (s : X.σ) (μ : PH) (v : Value) (xs : List Int) (B : Assn) (hx : Ints Tryd.prog 3 [B] v xs) :
    Spec Tryd.prog 44 [X.sv, v] [X.A s μ, B] (fun r L => ∃ w sp q, r = .pointer (some ⟨w, 0, none⟩) ∧ WkOk X.n (addAll X.n wk0 xs) ∧ L = [wkB w sp q X.sv, mset sp X.n (addAll X.n wk0 xs).1, Wq.cq q (addAll X.n wk0 xs).2 (seenN X.n (addAll X.n wk0 xs).1), X.A s μ, B]) := by
  have hn := X.hn
  refine Spec.of 17 Tryd.func44 rfl rfl rfl ?_
  refine swp_seq ?_
  refine swp_region ?_
  refine s_pu (pu_assign rfl) ?_
  refine swl_sub _ (.cons (t := 0) rfl (.cons (t := 1) rfl .nil)) ?_
  refine swl_nil ?_
  refine then_n ?_
  refine swp_seq ?_
  refine swp_region ?_
  refine s_pu (pu_move rfl) ?_
  refine s_pu (pu_move rfl) ?_
  refine s_ef (ef_fn (commits_spec X s μ) rfl rfl (by repeat (first | exact Split.nil | (apply Split.cons; (repeat (first | with_reducible exact Take.here | apply Take.there)))))) ?_
  rintro v8 L1 ⟨rfl, rfl⟩
  refine swl_app ?_
  refine s_ef (ef_fn (new_m (X.n : Nat)) rfl rfl (by repeat (first | exact Split.nil | (apply Split.cons; (repeat (first | with_reducible exact Take.here | apply Take.there)))))) ?_
  rintro v9 L1 ⟨sp, rfl, rfl⟩
  refine swl_app ?_
  refine s_ef (ef_fn Wq.new_q rfl rfl (by repeat (first | exact Split.nil | (apply Split.cons; (repeat (first | with_reducible exact Take.here | apply Take.there)))))) ?_
  rintro v10 L1 ⟨q, rfl, rfl⟩
  refine swl_app ?_
  refine s_pu (pu_bld (qs := [(0, _), (1, _), (2, _)]) rfl) ?_
  refine s_ef (ef_box rfl rfl) ?_
  intro b12
  refine s_pu (pu_assign rfl) ?_
  refine swl_sub _ (.cons (t := 1) rfl (.cons (t := 5) rfl .nil)) ?_
  refine swl_nil ?_
  refine then_n ?_
  refine swp_seq ?_
  rw [clampM_id hn, show Wq.cq q [] 0 = Wq.cq q [] (seenN X.n (fun _ => false)) by rw [seenN_none]]
  refine swp_region ?_
  refine s_pu (pu_move rfl) ?_
  refine s_pu (pu_move rfl) ?_
  refine s_ef (ef_fn (add_spec b12 sp q X.n X.sv v wk0 xs B hn hx (WkOk.start _)) rfl rfl (by repeat (first | exact Split.nil | (apply Split.cons; (repeat (first | with_reducible exact Take.here | apply Take.there)))))) ?_
  rintro v15 L1 ⟨rfl, hok, rfl⟩
  refine swl_app ?_
  refine swl_sub _ (.cons (t := 5) rfl .nil) ?_
  refine swl_nil ?_
  refine then_n ?_
  refine swp_seq ?_
  refine swp_region ?_
  refine s_pu (pu_move rfl) ?_
  refine s_pu (pu_assign rfl) ?_
  refine swl_sub _ (.cons (t := 4) rfl .nil) ?_
  refine swl_nil ?_
  refine then_n ?_
  refine swp_ret ?_
  exact done_ret [wkB b12 sp q X.sv, mset sp X.n (addAll X.n wk0 xs).1, Wq.cq q (addAll X.n wk0 xs).2 (seenN X.n (addAll X.n wk0 xs).1), X.A s μ, B] (.tmp rfl .nil) ⟨b12, sp, q, rfl, hok, rfl⟩ (by repeat (first | exact Split.nil | (apply Split.cons; (repeat (first | with_reducible exact Take.here | apply Take.there)))))
end SX
namespace SX
open Go Go.Proofs
instance : TIface Tryd.prog 63 := ⟨⟨_, Tryd.underlying63⟩⟩

theorem pop_any (q nx : Nat) (Q : List Nat) (hb : Q.length ≤ 1099511627776) : Spec Tryd.prog 45 [.pointer (some ⟨q, 0, none⟩)] [Wq.cq q Q nx] (fun v L => v = .tuple #[.int .i64 (Q.headD 0 : Nat), .bool (!Q.isEmpty)] ∧ L = [Wq.cq q Q.tail nx]) := by
  cases Q with
  | nil => exact Wq.pop_q0 q nx
  | cons c Q => exact Wq.pop_q q nx c Q hb
def Src.at_ (X : Src) (s0 : X.σ) (μ : PH) (ys : List Nat) : Assn := exA fun m : {m : PH // Le μ m} => [X.A (ys.foldl X.step s0) m.1, ro m.1]
theorem Src.at_close {X : Src} {s0 : X.σ} {μ m : PH} {ys : List Nat} {L : List Assn} (h : Le μ m) : Ent (X.A (ys.foldl X.step s0) m :: ro m :: L) (X.at_ s0 μ ys :: L) :=
  ent_ex (F := fun m : {m : PH // Le μ m} => [X.A (ys.foldl X.step s0) m.1, ro m.1]) ⟨m, h⟩ (by repeat (first | exact Split.nil | (apply Split.cons; (repeat (first | with_reducible exact Take.here | apply Take.there)))))
set_option maxHeartbeats 2000000 in
theorem down_iter (X : Src) (s0 : X.σ) (μ : PH) (b1 b2 : Nat) (v : Value) (xs : List Int) (h1 : CellAt μ b1 0 X.sv) (h2 : CellAt μ b2 0 v) (hv : Row μ v 1 xs.length (xs.flatMap (icsk .i64))) (h0 : Le X.μ0 μ)
    (hok : ∀ pre x post, downL X.g xs = pre ++ x :: post → X.ok (pre.foldl X.step s0) x) :
    IterG Tryd.prog 52 [.pointer (some ⟨b1, 0, none⟩), .pointer (some ⟨b2, 0, none⟩)] (fun x : Nat => [.int .i64 (x : Nat)]) (fun pre x => ∃ post, downL X.g xs = pre ++ x :: post) (fun ys => ys = downL X.g xs)
      [X.A s0 μ, ro μ] (fun pre _ => X.at_ s0 μ pre) (fun pre _ => X.at_ s0 μ pre) (fun ys => X.at_ s0 μ ys) := by
  intro l I Z R h0' hy
  obtain ⟨kI, kN⟩ := wk_start (n := X.g.length) xs
  have hn := X.hn
  refine Spec.of 38 Tryd.func52 rfl rfl rfl ?_
  refine swp_ent (L' := [X.A s0 μ, ro μ, R]) (Ent.refl _) ?_
  refine swp_seq ?_
  refine swp_seq ?_
  refine swp_region ?_
  refine s_rd (rd_ro rfl h1) ?_
  refine s_pu (pu_if_eq_nil rfl rfl) ?_
  refine swl_sub _ (.cons (t := 0) rfl (.cons (t := 1) rfl (.cons (t := 2) rfl (.cons (t := 8) rfl .nil)))) ?_
  refine swl_nil ?_
  refine then_n ?_
  refine swp_cond (b := _) rfl (fun h8 => by cases h8) (fun h8 => ?_)
  refine swp_skip ?_
  refine then_n ?_
  refine swp_seq ?_
  refine swp_region ?_
  refine s_rd (rd_ro rfl h1) ?_
  refine s_rd (rd_ro rfl h2) ?_
  refine s_ef (ef_fn (newWalker_spec X s0 μ v xs (ro μ) (Ints.row hv)) rfl rfl (by repeat (first | exact Split.nil | (apply Split.cons; (repeat (first | with_reducible exact Take.here | apply Take.there)))))) ?_
  rintro v11 L1 ⟨w, sp, q, rfl, ok0, rfl⟩
  refine swl_app ?_
  refine s_pu (pu_assign rfl) ?_
  refine swl_sub _ (.cons (t := 0) rfl (.cons (t := 1) rfl (.cons (t := 4) rfl .nil))) ?_
  refine swl_nil ?_
  refine then_n ?_
  refine swp_seq ?_
  have hq0 := falls_len ok0.falls ok0.lt
  have kD : downL X.g xs = [] ++ wkRun (rowOf X.g) X.g.length X.g.length (addAll X.n wk0 xs) := rfl
  have kI' : WkI X.g.length X.g.length (addAll X.n wk0 xs) := kI
  generalize addAll X.n wk0 xs = st0 at *
  refine swp_region ?_
  refine s_pu (pu_move rfl) ?_
  first | refine s_pu (pu_nilCheck rfl) ?_ | refine s_pu (pu_nilCheck_fn rfl) ?_ | refine s_pu (pu_nilCheck_if rfl) ?_
  first | refine s_pu (pu_fieldAddr0 rfl) ?_ | refine s_pu (pu_fieldAddr rfl) ?_
  refine s_rd (rd_load rfl rfl) ?_
  refine s_ef (ef_fn (pop_any q (seenN X.n st0.1) st0.2 (by show _ ≤ _; have : X.n = X.g.length := rfl; omega)) rfl rfl (by repeat (first | exact Split.nil | (apply Split.cons; (repeat (first | with_reducible exact Take.here | apply Take.there)))))) ?_
  rintro v17 L1 ⟨rfl, rfl⟩
  refine swl_app ?_
  refine s_pu (pu_move rfl) ?_
  first | refine s_pu (pu_extractL rfl) ?_ | refine s_pu (pu_extract rfl rfl) ?_
  first | refine s_pu (pu_extractL rfl) ?_ | refine s_pu (pu_extract rfl rfl) ?_
  refine s_pu (pu_assign rfl) ?_
  refine s_pu (pu_assign rfl) ?_
  refine swl_sub _ (.cons (t := 0) rfl (.cons (t := 1) rfl (.cons (t := 4) rfl (.cons (t := 5) rfl (.cons (t := 6) rfl .nil))))) ?_
  refine swl_nil ?_
  refine then_n ?_
  refine swp_block ?_
  refine swp_ent (Split.ent' (K := [wkB w sp q X.sv, mset sp X.n st0.1, Wq.cq q st0.2.tail (seenN X.n st0.1), X.A s0 μ, ro μ, R]) (by repeat (first | exact Split.nil | (apply Split.cons; (repeat (first | with_reducible exact Take.here | apply Take.there)))))) ?_
  refine swp_ent ((Ent.cons (Ent.cons (Ent.cons (Ent.cons (Ent.cons h0')))))) ?_
  refine swp_loop (ι := Nat × PH × List Nat × Wk) (fun k env L => env = [(0, yv l), (1, .pointer (some ⟨b1, 0, none⟩)), (4, .pointer (some ⟨w, 0, none⟩)), (5, .int .i64 (k.2.2.2.2.headD 0 : Nat)), (6, .bool (!k.2.2.2.2.isEmpty))]
    ∧ L = [wkB w sp q X.sv, mset sp X.n k.2.2.2.1, Wq.cq q k.2.2.2.2.tail (seenN X.n k.2.2.2.1), X.A (k.2.2.1.foldl X.step s0) k.2.1, ro k.2.1, I k.2.2.1]
    ∧ downL X.g xs = k.2.2.1 ++ wkRun (rowOf X.g) X.g.length k.1 k.2.2.2 ∧ (∃ m, WkI X.g.length m k.2.2.2 ∧ m ≤ k.1 ∧ m ≤ X.g.length) ∧ WkOk X.n k.2.2.2 ∧ Le μ k.2.1) (fun k => k.1) (X.g.length, μ, [], st0) ⟨rfl, rfl, kD, ⟨_, kI', Nat.le_refl _, Nat.le_refl _⟩, ok0, Le.refl _⟩ ?_
  rintro ⟨f, μ1, pre, S, Q⟩ env L ⟨rfl, rfl, hD, ⟨m, hI, hmf, hmn⟩, hokk, hle⟩
  dsimp only at hD hI hmf hmn hokk hle ⊢
  refine swp_seq ?_
  refine swp_seq ?_
  refine swp_region ?_
  refine s_pu (pu_move rfl) ?_
  refine swl_sub _ (.cons (t := 0) rfl (.cons (t := 1) rfl (.cons (t := 4) rfl (.cons (t := 5) rfl (.cons (t := 20) rfl .nil))))) ?_
  refine swl_nil ?_
  refine then_n ?_
  refine swp_cond (b := _) rfl (fun h20 => ?_) (fun h20 => ?_)
  · skip   -- 20 T
    obtain ⟨c, Q, rfl⟩ : ∃ c Q', Q = c :: Q' := by
      cases Q with
      | nil => cases h20
      | cons c Q => exact ⟨c, Q, rfl⟩
    have hcm : c < m := hI.lt c (List.mem_cons_self ..)
    obtain ⟨f, rfl⟩ : ∃ f', f = f' + 1 := ⟨f - 1, by omega⟩
    rw [wkRun_pop] at hD
    have hrow : ∀ p ∈ rowOf X.g c, 0 ≤ p ∧ p < c := fun p hp => ⟨(row_good X.hg hp).1, (row_good X.hg hp).2.1⟩
    obtain ⟨hI2, _, _⟩ := hI.pop.addAll hrow (by omega)
    simp only [List.tail_cons, List.headD_cons]
    refine swp_ent (Split.ent' (K := [X.A (pre.foldl X.step s0) μ1, ro μ1, I pre, wkB w sp q X.sv, mset sp X.n S, Wq.cq q Q (seenN X.n S)]) (by repeat (first | exact Split.nil | (apply Split.cons; (repeat (first | with_reducible exact Take.here | apply Take.there)))))) ?_
    refine swp_ent (Src.at_close hle) ?_
    refine swp_skip ?_
    refine then_n ?_
    refine swp_seq ?_
    refine swp_block ?_
    refine swp_seq ?_
    refine swp_seq ?_
    refine swp_region ?_
    refine s_pu (pu_move rfl) ?_
    refine s_pu (pu_move rfl) ?_
    refine s_ef (ef_yield (hy pre c ⟨_, hD⟩) rfl rfl (by repeat (first | exact Split.nil | (apply Split.cons; (repeat (first | with_reducible exact Take.here | apply Take.there)))))) ?_
    rintro v1 L1 (⟨rfl, rfl⟩ | ⟨rfl, rfl⟩)
    · skip
      refine swl_app ?_
      refine s_pu (pu_not rfl) ?_
      refine swl_sub _ (.cons (t := 0) rfl (.cons (t := 1) rfl (.cons (t := 4) rfl (.cons (t := 5) rfl (.cons (t := 32) rfl .nil))))) ?_
      refine swl_nil ?_
      refine then_n ?_
      refine swp_cond (b := _) rfl (fun h32 => by cases h32) (fun h32 => ?_)
      refine swp_skip ?_
      refine then_n ?_
      refine swp_ent (Split.ent' (K := [X.at_ s0 μ pre, I (pre ++ [c]), wkB w sp q X.sv, mset sp X.n S, Wq.cq q Q (seenN X.n S)]) (by repeat (first | exact Split.nil | (apply Split.cons; (repeat (first | with_reducible exact Take.here | apply Take.there)))))) ?_
      refine swp_ex fun ⟨μ2, hμ2⟩ => ?_
      simp only [List.cons_append, List.nil_append]
      have hok2 : WkOk X.n (S, Q) := ⟨(List.pairwise_cons.1 hokk.falls).2, fun k hk => hokk.lt k (List.mem_cons_of_mem _ hk), fun k hk => hokk.sub k (List.mem_cons_of_mem _ hk)⟩
      refine swp_region ?_
      refine s_pu (pu_move rfl) ?_
      refine s_rd (rd_ro rfl (h1.le hμ2)) ?_
      refine s_pu (pu_move rfl) ?_
      refine s_ef (ef_invS rfl X.hd (X.parents (pre.foldl X.step s0) μ2 c (h0.trans hμ2) (by omega) (hok pre c _ hD)) rfl (by repeat (first | exact Split.nil | (apply Split.cons; (repeat (first | with_reducible exact Take.here | apply Take.there)))))) ?_
      rintro v36 L1 ⟨μ3, hμ3, hr, rfl⟩
      refine swl_app ?_
      refine s_ef (ef_fn (add_spec w sp q X.n X.sv v36 (S, Q) (rowOf X.g c) (ro μ3) hn (Ints.row hr) hok2) rfl rfl (by repeat (first | exact Split.nil | (apply Split.cons; (repeat (first | with_reducible exact Take.here | apply Take.there)))))) ?_
      rintro v37 L1 ⟨rfl, hok3, rfl⟩
      refine swl_app ?_
      refine swl_sub _ (.cons (t := 0) rfl (.cons (t := 1) rfl (.cons (t := 4) rfl .nil))) ?_
      refine swl_nil ?_
      refine block_n ?_
      refine then_n ?_
      have hq3 := falls_len hok3.falls hok3.lt
      have hI3 : WkI X.g.length c (addAll X.n (S, Q) (rowOf X.g c)) := hI2
      have hD3 : downL X.g xs = (pre ++ [c]) ++ wkRun (rowOf X.g) X.g.length f (addAll X.n (S, Q) (rowOf X.g c)) := by rw [hD, List.append_assoc]; rfl
      generalize addAll X.n (S, Q) (rowOf X.g c) = st at *
      refine swp_region ?_
      refine s_pu (pu_move rfl) ?_
      first | refine s_pu (pu_nilCheck rfl) ?_ | refine s_pu (pu_nilCheck_fn rfl) ?_ | refine s_pu (pu_nilCheck_if rfl) ?_
      first | refine s_pu (pu_fieldAddr0 rfl) ?_ | refine s_pu (pu_fieldAddr rfl) ?_
      refine s_rd (rd_load rfl rfl) ?_
      refine s_ef (ef_fn (pop_any q (seenN X.n st.1) st.2 (by have : X.n = X.g.length := rfl; omega)) rfl rfl (by repeat (first | exact Split.nil | (apply Split.cons; (repeat (first | with_reducible exact Take.here | apply Take.there)))))) ?_
      rintro v26 L1 ⟨rfl, rfl⟩
      refine swl_app ?_
      refine s_pu (pu_move rfl) ?_
      first | refine s_pu (pu_extractL rfl) ?_ | refine s_pu (pu_extract rfl rfl) ?_
      first | refine s_pu (pu_extractL rfl) ?_ | refine s_pu (pu_extract rfl rfl) ?_
      refine s_pu (pu_assign rfl) ?_
      refine s_pu (pu_assign rfl) ?_
      refine swl_sub _ (.cons (t := 0) rfl (.cons (t := 1) rfl (.cons (t := 4) rfl (.cons (t := 5) rfl (.cons (t := 6) rfl .nil))))) ?_
      refine swl_ent (Split.ent' (K := [wkB w sp q X.sv, mset sp X.n st.1, Wq.cq q st.2.tail (seenN X.n st.1), X.A (X.step (pre.foldl X.step s0) c) μ3, ro μ3, I (pre ++ [c])]) (by repeat (first | exact Split.nil | (apply Split.cons; (repeat (first | with_reducible exact Take.here | apply Take.there)))))) ?_
      refine swl_nil ?_
      refine then_n ⟨(f, μ3, pre ++ [c], st), ⟨rfl, ?_, hD3, ⟨c, hI3, by show c ≤ f; omega, by omega⟩, hok3, hμ2.trans hμ3⟩, Nat.lt_succ_self f⟩
      rw [List.foldl_append]; rfl
    · skip
      refine swl_app ?_
      refine s_pu (pu_not rfl) ?_
      refine swl_sub _ (.cons (t := 0) rfl (.cons (t := 1) rfl (.cons (t := 4) rfl (.cons (t := 5) rfl (.cons (t := 32) rfl .nil))))) ?_
      refine swl_nil ?_
      refine then_n ?_
      refine swp_cond (b := _) rfl (fun h32 => ?_) (fun h32 => by cases h32)
      refine swp_ret ?_
      refine then_r ?_
      refine block_r ?_
      refine then_r ?_
      refine then_r ?_
      refine block_r ?_
      exact done_ret [Z] .nil (.inr rfl) (by repeat (first | exact Split.nil | (apply Split.cons; (repeat (first | with_reducible exact Take.here | apply Take.there)))))
  · skip   -- 20 F
    obtain rfl : Q = [] := by
      cases Q with
      | nil => rfl
      | cons c Q => cases h20
    rw [wkRun_nil, List.append_nil] at hD
    refine swp_ent (Split.ent' (K := [X.A (pre.foldl X.step s0) μ1, ro μ1, I pre]) (by repeat (first | exact Split.nil | (apply Split.cons; (repeat (first | with_reducible exact Take.here | apply Take.there)))))) ?_
    refine swp_ent (Src.at_close hle) ?_
    refine swp_exit ?_
    refine then_x ?_
    refine then_x ?_
    refine block_hit rfl ?_
    exact done_end [I pre, X.at_ s0 μ pre] .nil (.inl ⟨pre, hD.symm, rfl⟩) (by repeat (first | exact Split.nil | (apply Split.cons; (repeat (first | with_reducible exact Take.here | apply Take.there)))))
end SX
namespace SX
open Go Go.Proofs

def askedE (n : Nat) (ls : List (List Int)) : Int := if (ls.all fun l => l.all (inR n)) = true then 0 else 9
theorem down_spec (sv : Value) (μ : PH) (v : Value) (xs : List Int) (hv : Row μ v 1 xs.length (xs.flatMap (icsk .i64))) (hl : xs.length ≤ 1048576) (t : Nat) (u : Value) (hsv : sv = .iface t u) :
    Spec Tryd.prog 21 [sv, v] [ro μ] (fun r L => ∃ μ' b1 b2 v', r = .func (.func 52) #[] #[.pointer (some ⟨b1, 0, none⟩), .pointer (some ⟨b2, 0, none⟩)] ∧ Le μ μ' ∧ CellAt μ' b1 0 sv ∧ CellAt μ' b2 0 v' ∧ Row μ' v' 1 xs.length (xs.flatMap (icsk .i64)) ∧ L = [ro μ']) := by
  subst hsv
  obtain ⟨A, cap, rfl⟩ := hv.sl
  refine Spec.of 9 Tryd.func21 rfl rfl rfl ?_
  refine swp_seq ?_
  refine swp_region ?_
  refine s_ef (ef_box rfl rfl) ?_
  intro b2
  refine s_ef (ef_box rfl rfl) ?_
  intro b3
  refine s_pu (pu_assign rfl) ?_
  refine swl_sub _ (.cons (t := 2) rfl (.cons (t := 3) rfl .nil)) ?_
  refine swl_nil ?_
  refine then_n ?_
  refine swp_seq ?_
  refine swp_region ?_
  refine s_ef (ef_bldS (qs := []) rfl rfl rfl) ?_
  intro b5
  refine swl_ent (own_empty (e := 3) (n := 1)) ?_
  refine s_rd (rd_load rfl rfl) ?_
  refine s_ef (ef_append_ro hv rfl rfl (by repeat (first | exact Split.nil | (apply Split.cons; (repeat (first | with_reducible exact Take.here | apply Take.there))))) (icsk_one _) (by simp only [maxLen]; omega) (by omega)) ?_
  rintro v7 -
  rw [Nat.zero_add, List.nil_append]
  refine swl_fact (fun m h => own_form h) fun ⟨A7, cap7, hA7⟩ => ?_
  subst hA7
  refine s_ef0 (ef_store rfl rfl rfl) ?_
  refine swl_sub _ (.cons (t := 2) rfl (.cons (t := 3) rfl .nil)) ?_
  refine swl_nil ?_
  refine then_n ?_
  refine swp_seq ?_
  refine swp_share_own (μ := μ) (by repeat (first | exact Split.nil | (apply Split.cons; (repeat (first | with_reducible exact Take.here | apply Take.there))))) fun μ1 h1 r1 => ?_
  refine swp_share (b := b2) (μ := μ1) (by repeat (first | exact Split.nil | (apply Split.cons; (repeat (first | with_reducible exact Take.here | apply Take.there))))) fun μ2 h2 k2 => ?_
  refine swp_share (b := b3) (μ := μ2) (by repeat (first | exact Split.nil | (apply Split.cons; (repeat (first | with_reducible exact Take.here | apply Take.there))))) fun μ3 h3 k3 => ?_
  refine swp_region ?_
  refine s_pu (pu_func (vs := []) (us := [_, _]) rfl rfl) ?_
  refine s_pu (pu_assign rfl) ?_
  refine swl_sub _ (.cons (t := 4) rfl .nil) ?_
  refine swl_nil ?_
  refine then_n ?_
  refine swp_ret ?_
  exact done_ret [ro μ3] (.tmp rfl .nil) ⟨μ3, b2, b3, _, rfl, h1.trans (h2.trans h3), ⟨_, _, _, h3 _ _ k2, rfl⟩, ⟨_, _, _, k3, rfl⟩, r1.le (h2.trans h3), rfl⟩ (by repeat (first | exact Split.nil | (apply Split.cons; (repeat (first | with_reducible exact Take.here | apply Take.there)))))
end SX
namespace SX
open Go Go.Proofs

theorem putS_in {n x : Nat} {pre : List Nat} (hx : x < n) : putS n (fun j => decide (j ∈ pre)) (x : Int) = fun j => decide (j ∈ pre ++ [x]) := by
  funext j
  unfold putS
  rw [Int.toNat_natCast, decide_eq_true (show 0 ≤ (x : Int) ∧ (x : Int) < n by omega), Bool.true_and, Bool.eq_iff_iff]
  simp [List.mem_append]
end SX
namespace SX
open Go Go.Proofs

end SX
namespace SX
open Go Go.Proofs

theorem samelist_i (u v : Value) (xs ys : List Int) (L0 : List Assn) (hu : Ints Tryd.prog 3 L0 u xs) (hv : Ints Tryd.prog 3 L0 v ys) : Spec Tryd.prog 25 [u, v] L0 (fun r L => r = .bool (decide (xs = ys)) ∧ L = L0) := by
  obtain ⟨A, ca, rfl, hla, ha⟩ := hu
  obtain ⟨B, cb, rfl, hlb, hb⟩ := hv
  refine Spec.of 26 Tryd.func25 rfl rfl rfl ?_
  refine swp_seq ?_
  refine swp_region ?_
  refine s_pu (pu_assign rfl) ?_
  refine swl_sub _ (.cons (t := 0) rfl (.cons (t := 1) rfl .nil)) ?_
  refine swl_nil ?_
  refine then_n ?_
  refine swp_seq ?_
  refine swp_seq ?_
  refine swp_region ?_
  refine s_pu (pu_move rfl) ?_
  refine s_pu (pu_len rfl) ?_
  refine s_pu (pu_move rfl) ?_
  refine s_pu (pu_len rfl) ?_
  refine s_pu (pu_neq rfl rfl) ?_
  refine swl_sub _ (.cons (t := 0) rfl (.cons (t := 1) rfl (.cons (t := 10) rfl .nil))) ?_
  refine swl_nil ?_
  refine then_n ?_
  refine swp_cond (b := _) rfl (fun h10 => ?_) (fun h10 => ?_)
  · skip   -- 10 T
    refine swp_seq ?_
    refine swp_region ?_
    refine s_pu (pu_assign rfl) ?_
    refine swl_sub _ (.cons (t := 4) rfl .nil) ?_
    refine swl_nil ?_
    refine then_n ?_
    refine swp_ret ?_
    refine then_r ?_
    simp only [Bool.not_eq_true', decide_eq_false_iff_not] at h10
    exact done_ret _ (.tmp rfl .nil) ⟨by rw [decide_eq_false (fun e => h10 (by rw [e]))]; rfl, rfl⟩ Split.all
  · skip   -- 10 F
    refine swp_skip ?_
    refine then_n ?_
    refine swp_seq ?_
    refine swp_seq ?_
    refine swp_region ?_
    refine s_pu (pu_assign rfl) ?_
    refine swl_sub _ (.cons (t := 0) rfl (.cons (t := 1) rfl (.cons (t := 5) rfl .nil))) ?_
    refine swl_nil ?_
    refine then_n ?_
    refine swp_block ?_
    have hlen : xs.length = ys.length := by
      simp only [Bool.not_eq_false', decide_eq_true_eq] at h10; omega
    refine swp_sub _ (.cons (t := 0) rfl (.cons (t := 1) rfl (.cons (t := 5) rfl .nil))) ?_
    refine swp_loop (ι := Nat) (fun i env L => env = [(0, .slice A xs.length ca), (1, .slice B ys.length cb), (5, .int .i64 (i : Nat))] ∧ L = L0 ∧ i ≤ xs.length ∧ ∀ j, j < i → xs[j]? = ys[j]?) (fun i => xs.length - i) 0 ⟨rfl, rfl, Nat.zero_le _, fun j h => by omega⟩ ?_
    rintro i env L ⟨rfl, rfl, hi, hlo⟩
    refine swp_seq ?_
    refine swp_seq ?_
    refine swp_region ?_
    refine s_pu (pu_move rfl) ?_
    refine s_pu (pu_move rfl) ?_
    refine s_pu (pu_len rfl) ?_
    refine s_pu (pu_lss rfl rfl) ?_
    refine swl_sub _ (.cons (t := 0) rfl (.cons (t := 1) rfl (.cons (t := 5) rfl (.cons (t := 14) rfl .nil)))) ?_
    refine swl_nil ?_
    refine then_n ?_
    refine swp_cond (b := _) rfl (fun h14 => ?_) (fun h14 => ?_)
    · skip   -- 14 T
      have h14' : i < xs.length := by have := of_decide_eq_true h14; omega
      obtain ⟨x, hx⟩ : ∃ x, xs[i]? = some x := ⟨_, List.getElem?_eq_getElem h14'⟩
      obtain ⟨y, hy⟩ : ∃ y, ys[i]? = some y := ⟨_, List.getElem?_eq_getElem (by omega)⟩
      obtain ⟨ab, ao, rfl, hxl⟩ := ha (by omega)
      obtain ⟨bb, bo, rfl, hyl⟩ := hb (by omega)
      refine swp_skip ?_
      refine then_n ?_
      refine swp_seq ?_
      refine swp_block ?_
      refine swp_seq ?_
      refine swp_draw [3, 7] _ [] (by simp only [List.append_nil]; exact Ent.refl _) (by kernel_rfl) ?_
      refine d_pu 0 rfl (pu_move rfl) (by kernel_rfl) (by kernel_rfl) (by kernel_rfl) ?_
      refine d_pu 1 rfl (pu_move rfl) (by kernel_rfl) (by kernel_rfl) (by kernel_rfl) ?_
      refine d_pu 2 rfl (pu_indexAddr (ao + i * 1) rfl rfl (by omega) (by omega) (by rw [Int.toNat_natCast])) (by kernel_rfl) (by kernel_rfl) (by kernel_rfl) ?_
      refine d_rd 3 rfl (rd_of_ld rfl (by rw [Nat.mul_one]; exact hxl i x hx)) rfl (by kernel_rfl) (by kernel_rfl) (by kernel_rfl) ?_
      refine d_pu 4 rfl (pu_move rfl) (by kernel_rfl) (by kernel_rfl) (by kernel_rfl) ?_
      refine d_pu 5 rfl (pu_move rfl) (by kernel_rfl) (by kernel_rfl) (by kernel_rfl) ?_
      refine d_pu 6 rfl (pu_indexAddr (bo + i * 1) rfl rfl (by omega) (by omega) (by rw [Int.toNat_natCast])) (by kernel_rfl) (by kernel_rfl) (by kernel_rfl) ?_
      refine d_rd 7 rfl (rd_of_ld rfl (by rw [Nat.mul_one]; exact hyl i y hy)) rfl (by kernel_rfl) (by kernel_rfl) (by kernel_rfl) ?_
      refine d_pu 8 rfl (pu_neq rfl rfl) (by kernel_rfl) (by kernel_rfl) (by kernel_rfl) ?_
      refine d_sub _ (.cons (t := 0) rfl (.cons (t := 1) rfl (.cons (t := 5) rfl (.cons (t := 25) rfl .nil)))) ?_
      first | refine d_nilt (by kernel_rfl) ?_ | refine d_nilf (by kernel_rfl) ?_
      refine then_n ?_
      refine swp_cond (b := _) rfl (fun h25 => ?_) (fun h25 => ?_)
      · skip   -- 25 T
        refine swp_seq ?_
        refine swp_region ?_
        refine s_pu (pu_assign rfl) ?_
        refine swl_sub _ (.cons (t := 4) rfl .nil) ?_
        refine swl_nil ?_
        refine then_n ?_
        refine swp_ret ?_
        refine block_r ?_
        refine then_r ?_
        refine then_r ?_
        refine block_r ?_
        refine then_r ?_
        simp only [Bool.not_eq_true', decide_eq_false_iff_not] at h25
        exact done_ret _ (.tmp rfl .nil) ⟨by rw [decide_eq_false (fun e => h25 (by subst e; rw [hx] at hy; exact Option.some.inj hy))]; rfl, rfl⟩ Split.all
      · skip   -- 25 F
        refine swp_skip ?_
        refine block_n ?_
        refine then_n ?_
        refine swp_region ?_
        refine s_pu (pu_move rfl) ?_
        refine s_pu (pu_add_as ((i + 1 : Nat) : Int) rfl rfl (by omega) (by omega) (by omega)) ?_
        refine s_pu (pu_assign rfl) ?_
        refine swl_sub _ (.cons (t := 0) rfl (.cons (t := 1) rfl (.cons (t := 5) rfl .nil))) ?_
        refine swl_nil ?_
        simp only [Bool.not_eq_false', decide_eq_true_eq] at h25
        exact then_n ⟨i + 1, ⟨rfl, rfl, h14', fun j hj => by
          by_cases e : j = i
          · subst e; rw [hx, hy, h25]
          · exact hlo j (by omega)⟩, by omega⟩
    · skip   -- 14 F
      have h14' := of_decide_eq_false h14
      obtain rfl : i = xs.length := by omega
      refine swp_exit ?_
      refine then_x ?_
      refine then_x ?_
      refine block_hit rfl ?_
      refine then_n ?_
      refine swp_seq ?_
      refine swp_region ?_
      refine s_pu (pu_assign rfl) ?_
      refine swl_sub _ (.cons (t := 4) rfl .nil) ?_
      refine swl_nil ?_
      refine then_n ?_
      refine swp_ret ?_
      exact done_ret _ (.tmp rfl .nil) ⟨by rw [decide_eq_true (List.ext_getElem? fun j => by
        by_cases hj : j < xs.length
        · exact hlo j hj
        · rw [List.getElem?_eq_none (by omega), List.getElem?_eq_none (by omega)])]; rfl, rfl⟩ Split.all
end SX
namespace SX
open Go Go.Proofs

/-- it may be asked for any commits, each once -/
def Src.fine (X : Src) (s0 : X.σ) : Prop := ∀ (ys : List Nat) (c : Nat), ys.Nodup → c ∉ ys → (∀ y ∈ ys, y < X.g.length) → c < X.g.length → X.ok (ys.foldl X.step s0) c
theorem falls_nodup {l : List Nat} (h : Falls l) : l.Nodup := h.imp fun h e => by omega
theorem Src.fine.down {X : Src} {s0 : X.σ} (h : X.fine s0) (xs : List Int) : ∀ pre x post, downL X.g xs = pre ++ x :: post → X.ok (pre.foldl X.step s0) x := fun pre x post e => by
  obtain ⟨h1, h2, _⟩ := downL_spec X.hg xs
  rw [e] at h1 h2
  have hn := falls_nodup h1
  rw [List.nodup_append] at hn
  exact h pre x hn.1 (fun hx => hn.2.2 x hx x (List.mem_cons_self ..) rfl) (fun y hy => h2 y (List.mem_append_left _ hy)) (h2 x (List.mem_append_right _ (List.mem_cons_self ..)))
def isAnc (g : List (List Int)) (a b : Int) : Bool := decide (askedE g.length [[a, b]] = 0) && up g b.toNat a.toNat
end SX
namespace SX
open Go Go.Proofs

theorem has_w (p n : Nat) (S : Nat → Bool) (k : Nat) : Spec Tryd.prog 58 [.pointer (some ⟨p, 0, none⟩), .int .i64 (k : Nat)] [mset p n S] (fun r L => r = .bool (S k) ∧ L = [mset p n S]) := by
  have h := has_m p n S (k : Int)
  rw [decide_eq_true (show (0 : Int) ≤ (k : Int) by omega), Int.toNat_natCast, Bool.true_and] at h
  exact h
/-- what only some reach -/
def onlyE (g : List (List Int)) (xs ys : List Int) : Int := askedE g.length [xs, ys]
def onlyS (g : List (List Int)) (xs ys : List Int) : Nat → Bool := fun k => decide (k < g.length) && (anyUp g g.length xs k && !anyUp g g.length ys k)
def onlyA (g : List (List Int)) (xs ys : List Int) : List Int := if onlyE g xs ys = 0 then elsTo g.length (onlyS g xs ys) else []
def askedIn (n : Nat) (zs : List Nat) : Prop := zs.Nodup ∧ ∀ y ∈ zs, y < n
theorem askedE_in {n : Nat} {ls : List (List Int)} (h : askedE n ls = 0) {l : List Int} (hl : l ∈ ls) : ∀ p ∈ l, 0 ≤ p ∧ p < n := by
  unfold askedE at h
  split at h
  · rename_i ha
    intro p hp
    have := List.all_eq_true.1 (List.all_eq_true.1 ha l hl) p hp
    simpa [inR] using this
  · cases h
end SX
namespace SX
open Go Go.Proofs

def unkB (n : Nat) (xs : List Int) : Bool := !(xs.all (inR n))
theorem unknown_spec (gv lv : Value) (n : Nat) (xs : List Int) (L0 : List Assn) (hg : ∃ A c, gv = .slice A n c) (hv : Ints Tryd.prog 3 L0 lv xs) : Spec Tryd.prog 29 [gv, lv] L0 (fun r L => r = .bool (unkB n xs) ∧ L = L0) := by
  obtain ⟨A, c, rfl⟩ := hg
  obtain ⟨B, cb, rfl, hlb, hb⟩ := hv
  refine Spec.of 26 Tryd.func29 rfl rfl rfl ?_
  refine swp_seq ?_
  refine swp_region ?_
  refine s_pu (pu_assign rfl) ?_
  refine swl_sub _ (.cons (t := 0) rfl (.cons (t := 1) rfl .nil)) ?_
  refine swl_nil ?_
  refine then_n ?_
  refine swp_seq ?_
  refine swp_seq ?_
  refine swp_region ?_
  refine s_pu (pu_assign rfl) ?_
  refine swl_sub _ (.cons (t := 0) rfl (.cons (t := 1) rfl (.cons (t := 5) rfl .nil))) ?_
  refine swl_nil ?_
  refine then_n ?_
  refine swp_block ?_
  refine swp_loop (ι := Nat) (fun i env L => env = [(0, .slice A n c), (1, .slice B xs.length cb), (5, .int .i64 (i : Nat))] ∧ L = L0 ∧ i ≤ xs.length ∧ (xs.take i).all (inR n) = true) (fun i => xs.length - i) 0 ⟨rfl, rfl, Nat.zero_le _, rfl⟩ ?_
  rintro i env L ⟨rfl, rfl, hi, hall⟩
  refine swp_seq ?_
  refine swp_seq ?_
  refine swp_region ?_
  refine s_pu (pu_move rfl) ?_
  refine s_pu (pu_move rfl) ?_
  refine s_pu (pu_len rfl) ?_
  refine s_pu (pu_lss rfl rfl) ?_
  refine swl_sub _ (.cons (t := 0) rfl (.cons (t := 1) rfl (.cons (t := 5) rfl (.cons (t := 9) rfl .nil)))) ?_
  refine swl_nil ?_
  refine then_n ?_
  refine swp_cond (b := _) rfl (fun h9 => ?_) (fun h9 => ?_)
  · skip   -- 9 T
    have h9' : i < xs.length := by have := of_decide_eq_true h9; omega
    obtain ⟨x, hx⟩ : ∃ x, xs[i]? = some x := ⟨_, List.getElem?_eq_getElem h9'⟩
    obtain ⟨bb, bo, rfl, hxl⟩ := hb (by omega)
    have hbad : inR n x = false → xs.all (inR n) = false := fun h => by
      rw [List.all_eq_false]
      exact ⟨x, List.mem_of_getElem? hx, by rw [h]; exact Bool.false_ne_true⟩
    refine swp_skip ?_
    refine then_n ?_
    refine swp_seq ?_
    refine swp_block ?_
    refine swp_seq ?_
    refine swp_region ?_
    refine s_pu (pu_move rfl) ?_
    refine s_pu (pu_move rfl) ?_
    refine s_pu (pu_indexAddr (bo + i * 1) rfl rfl (by omega) (by omega) (by rw [Int.toNat_natCast])) ?_
    refine s_rd (rd_of_ld rfl (by rw [Nat.mul_one]; exact hxl i x hx)) ?_
    refine s_pu (pu_lss rfl rfl) ?_
    refine s_pu (pu_move rfl) ?_
    refine s_split 17 rfl (fun h17 => ?_) (fun h17 => ?_)
    · skip   -- 17 T
      refine s_off rfl rfl rfl ?_
      refine s_off rfl rfl rfl ?_
      refine s_off rfl rfl rfl ?_
      refine s_off rfl rfl rfl ?_
      refine s_off rfl rfl rfl ?_
      refine s_off rfl rfl rfl ?_
      refine s_off rfl rfl rfl ?_
      first | refine s_pu (pu_pick_t rfl rfl) ?_ | refine s_pu (pu_pick_f rfl rfl) ?_
      refine swl_sub _ (.cons (t := 0) rfl (.cons (t := 1) rfl (.cons (t := 5) rfl (.cons (t := 25) rfl .nil)))) ?_
      refine swl_nil ?_
      refine then_n ?_
      refine swp_cond (b := _) rfl (fun h25 => ?_) (fun h25 => by cases h25)
      refine swp_seq ?_
      refine swp_region ?_
      refine s_pu (pu_assign rfl) ?_
      refine swl_sub _ (.cons (t := 4) rfl .nil) ?_
      refine swl_nil ?_
      refine then_n ?_
      refine swp_ret ?_
      refine block_r ?_
      refine then_r ?_
      refine then_r ?_
      refine block_r ?_
      refine then_r ?_
      have h17' := of_decide_eq_true h17
      exact done_ret _ (.tmp rfl .nil) ⟨by unfold unkB; rw [hbad (by unfold inR; rw [decide_eq_false (by omega)]; rfl)]; rfl, rfl⟩ Split.all
    · skip   -- 17 F
      refine s_on rfl rfl ?_
      refine s_pu (pu_move rfl) ?_
      refine s_on rfl rfl ?_
      refine s_pu (pu_move rfl) ?_
      refine s_on rfl rfl ?_
      refine s_pu (pu_indexAddr (bo + i * 1) rfl rfl (by omega) (by omega) (by rw [Int.toNat_natCast])) ?_
      refine s_on rfl rfl ?_
      refine s_rd (rd_of_ld rfl (by rw [Nat.mul_one]; exact hxl i x hx)) ?_
      refine s_on rfl rfl ?_
      refine s_pu (pu_move rfl) ?_
      refine s_on rfl rfl ?_
      refine s_pu (pu_len rfl) ?_
      refine s_on rfl rfl ?_
      refine s_pu (pu_geq rfl rfl) ?_
      first | refine s_pu (pu_pick_t rfl rfl) ?_ | refine s_pu (pu_pick_f rfl rfl) ?_
      refine swl_sub _ (.cons (t := 0) rfl (.cons (t := 1) rfl (.cons (t := 5) rfl (.cons (t := 25) rfl .nil)))) ?_
      refine swl_nil ?_
      refine then_n ?_
      refine swp_cond (b := _) rfl (fun h25 => ?_) (fun h25 => ?_)
      · skip   -- 25 T
        refine swp_seq ?_
        refine swp_region ?_
        refine s_pu (pu_assign rfl) ?_
        refine swl_sub _ (.cons (t := 4) rfl .nil) ?_
        refine swl_nil ?_
        refine then_n ?_
        refine swp_ret ?_
        refine block_r ?_
        refine then_r ?_
        refine then_r ?_
        refine block_r ?_
        refine then_r ?_
        have h25' := of_decide_eq_true h25
        exact done_ret _ (.tmp rfl .nil) ⟨by unfold unkB; rw [hbad (by unfold inR; rw [decide_eq_false (p := x < (n : Int)) (by omega), Bool.and_false])]; rfl, rfl⟩ Split.all
      · skip   -- 25 F
        refine swp_skip ?_
        refine block_n ?_
        refine then_n ?_
        refine swp_region ?_
        refine s_pu (pu_move rfl) ?_
        refine s_pu (pu_add_as ((i + 1 : Nat) : Int) rfl rfl (by omega) (by omega) (by omega)) ?_
        refine s_pu (pu_assign rfl) ?_
        refine swl_sub _ (.cons (t := 0) rfl (.cons (t := 1) rfl (.cons (t := 5) rfl .nil))) ?_
        refine swl_nil ?_
        have h17' := of_decide_eq_false h17
        have h25' := of_decide_eq_false h25
        refine then_n ⟨i + 1, ⟨rfl, rfl, h9', ?_⟩, by omega⟩
        rw [List.take_add_one, hx, List.all_append, hall]
        show (true && ([x].all _)) = true
        simp only [List.all_cons, List.all_nil, Bool.and_true, Bool.true_and]
        unfold inR
        rw [decide_eq_true (show 0 ≤ x by omega), decide_eq_true (show x < (n : Int) by omega)]; rfl
  · skip   -- 9 F
    have h9' := of_decide_eq_false h9
    obtain rfl : i = xs.length := by omega
    rw [List.take_length] at hall
    refine swp_exit ?_
    refine then_x ?_
    refine then_x ?_
    refine block_hit rfl ?_
    refine then_n ?_
    refine swp_seq ?_
    refine swp_region ?_
    refine s_pu (pu_assign rfl) ?_
    refine swl_sub _ (.cons (t := 4) rfl .nil) ?_
    refine swl_nil ?_
    refine then_n ?_
    refine swp_ret ?_
    exact done_ret _ (.tmp rfl .nil) ⟨by unfold unkB; rw [hall]; rfl, rfl⟩ Split.all
set_option maxHeartbeats 1000000 in
theorem any_spec (μ : PH) (v lv : Value) (G : List (Value × List Int)) (xs : List Int) (hG : Graph μ v G) (hbig : G.length ≤ 1099511627776) (hg : Good (nums G)) (hv : Row μ lv 1 xs.length (xs.flatMap (icsk .i64))) (hxs : ∀ p ∈ xs, 0 ≤ p ∧ p < G.length) :
    Spec Tryd.prog 51 [v, lv] [ro μ] (fun r L => ∃ b, r = .slice (some ⟨b, 0, none⟩) G.length G.length ∧ L = [blk b 4 (rbs G.length (anyUp (nums G) G.length xs)), ro μ]) := by
  have hsm := hv.small
  refine Spec.of 54 Tryd.func51 rfl rfl rfl ?_
  refine swp_seq ?_
  refine swp_region ?_
  refine s_pu (pu_assign rfl) ?_
  refine swl_sub _ (.cons (t := 0) rfl (.cons (t := 1) rfl .nil)) ?_
  refine swl_nil ?_
  refine then_n ?_
  refine swp_seq ?_
  refine swp_region ?_
  refine s_pu (pu_move rfl) ?_
  refine s_pu (pu_len_row hG.1 rfl) ?_
  refine s_ef (ef_make1 G.length rfl rfl rfl (by omega) (by simp only [maxLen]; omega)) ?_
  rintro b11
  skip
  refine s_pu (pu_assign rfl) ?_
  refine swl_sub _ (.cons (t := 0) rfl (.cons (t := 1) rfl (.cons (t := 5) rfl .nil))) ?_
  refine swl_nil ?_
  refine then_n ?_
  refine swp_seq ?_
  refine swp_seq ?_
  refine swp_region ?_
  refine s_pu (pu_assign rfl) ?_
  refine swl_sub _ (.cons (t := 0) rfl (.cons (t := 1) rfl (.cons (t := 5) rfl (.cons (t := 6) rfl .nil)))) ?_
  refine swl_nil ?_
  refine then_n ?_
  refine swp_block ?_
  rw [show List.replicate G.length (Value.bool false) = rbs G.length (seedS (xs.take 0)) by rw [rbs_false]; exact rbs_ext fun j _ => by simp [seedS]]
  refine swp_loop (ι := Nat) (fun i env L => env = [(0, v), (1, lv), (5, .slice (some ⟨b11, 0, none⟩) G.length G.length), (6, .int .i64 (i : Nat))] ∧ L = [blk b11 4 (rbs G.length (seedS (xs.take i))), ro μ] ∧ i ≤ xs.length) (fun i => xs.length - i) 0 ⟨rfl, rfl, Nat.zero_le _⟩ ?_
  rintro i env L ⟨rfl, rfl, hi⟩
  refine swp_seq ?_
  refine swp_seq ?_
  refine swp_region ?_
  refine s_pu (pu_move rfl) ?_
  refine s_pu (pu_move rfl) ?_
  refine s_pu (pu_len_row hv rfl) ?_
  refine s_pu (pu_lss rfl rfl) ?_
  refine swl_sub _ (.cons (t := 0) rfl (.cons (t := 1) rfl (.cons (t := 5) rfl (.cons (t := 6) rfl (.cons (t := 15) rfl .nil))))) ?_
  refine swl_nil ?_
  refine then_n ?_
  refine swp_cond (b := _) rfl (fun h15 => ?_) (fun h15 => ?_)
  · skip   -- 15 T
    have h15' : i < xs.length := by have := of_decide_eq_true h15; omega
    obtain ⟨x, hx⟩ : ∃ x, xs[i]? = some x := ⟨_, List.getElem?_eq_getElem h15'⟩
    obtain ⟨pb, po, pc, hpv, hpc⟩ := hv.at_ hx
    have hxr := hxs x (List.mem_of_getElem? hx)
    obtain ⟨k, rfl⟩ : ∃ k : Nat, x = k := ⟨x.toNat, by omega⟩
    refine swp_skip ?_
    refine then_n ?_
    refine swp_seq ?_
    refine swp_block ?_
    refine swp_region ?_
    refine s_pu (pu_move rfl) ?_
    refine s_pu (pu_move rfl) ?_
    refine s_pu (pu_move rfl) ?_
    refine s_pu (pu_indexAddr (po + i * 1) (congrArg some hpv) rfl (by omega) (by omega) (by rw [Int.toNat_natCast])) ?_
    refine s_rd (rd_ro rfl hpc) ?_
    refine s_pu (pu_indexAddr k rfl rfl (by omega) (by omega) (by omega)) ?_
    refine s_ef0 (ef_storeP rfl rfl rfl (by rw [rbs_len]; omega)) ?_
    refine swl_sub _ (.cons (t := 0) rfl (.cons (t := 1) rfl (.cons (t := 5) rfl (.cons (t := 6) rfl .nil)))) ?_
    rw [rbs_set (T := seedS (xs.take (i + 1))) (fun y _ => by
      rw [List.take_add_one, hx]
      unfold seedS
      by_cases e : y = k
      · subst e; simp
      · have : (y : Int) ≠ k := by omega
        simp [e, this])]
    refine swl_nil ?_
    refine block_n ?_
    refine then_n ?_
    refine swp_region ?_
    refine s_pu (pu_move rfl) ?_
    refine s_pu (pu_add_as ((i + 1 : Nat) : Int) rfl rfl (by omega) (by omega) (by omega)) ?_
    refine s_pu (pu_assign rfl) ?_
    refine swl_sub _ (.cons (t := 0) rfl (.cons (t := 1) rfl (.cons (t := 5) rfl (.cons (t := 6) rfl .nil)))) ?_
    refine swl_nil ?_
    exact then_n ⟨i + 1, ⟨rfl, rfl, h15'⟩, by omega⟩
  · skip   -- 15 F
    have h15' := of_decide_eq_false h15
    obtain rfl : i = xs.length := by omega
    rw [List.take_length]
    refine swp_exit ?_
    refine then_x ?_
    refine then_x ?_
    refine block_hit rfl ?_
    refine then_n ?_
    refine swp_seq ?_
    refine swp_seq ?_
    refine swp_region ?_
    refine s_pu (pu_move rfl) ?_
    refine s_pu (pu_len_row hG.1 rfl) ?_
    refine s_pu (pu_sub_as ((G.length : Nat) - 1 : Int) rfl rfl (by omega) (by omega) (by omega)) ?_
    refine s_pu (pu_assign rfl) ?_
    refine swl_sub _ (.cons (t := 0) rfl (.cons (t := 5) rfl (.cons (t := 7) rfl .nil))) ?_
    refine swl_nil ?_
    refine then_n ?_
    refine swp_block ?_
    refine swp_sub _ (.cons (t := 0) rfl (.cons (t := 5) rfl (.cons (t := 7) rfl .nil))) ?_
    refine swp_loop (ι := Nat × (Nat → Bool)) (fun k env L => env = [(0, v), (5, .slice (some ⟨b11, 0, none⟩) G.length G.length), (7, .int .i64 ((k.1 : Nat) - 1 : Int))] ∧ L = [blk b11 4 (rbs G.length k.2), ro μ] ∧ k.1 ≤ G.length ∧ upF (nums G) k.1 k.2 = anyUp (nums G) G.length xs) (fun k => k.1) (G.length, seedS xs) ⟨rfl, rfl, Nat.le_refl _, rfl⟩ ?_
    rintro ⟨k, S⟩ env L ⟨rfl, rfl, hk, hup⟩
    dsimp only at hk hup ⊢
    refine swp_seq ?_
    refine swp_seq ?_
    refine swp_region ?_
    refine s_pu (pu_move rfl) ?_
    refine s_pu (pu_geq rfl rfl) ?_
    refine swl_sub _ (.cons (t := 0) rfl (.cons (t := 5) rfl (.cons (t := 7) rfl (.cons (t := 28) rfl .nil)))) ?_
    refine swl_nil ?_
    refine then_n ?_
    refine swp_cond (b := _) rfl (fun h28 => ?_) (fun h28 => ?_)
    · skip   -- 28 T
      have h28' := of_decide_eq_true h28
      obtain ⟨c, rfl⟩ : ∃ c, k = c + 1 := ⟨k - 1, by omega⟩
      rw [show (((c + 1 : Nat) : Int) - 1) = c by omega]
      obtain ⟨gb, off, cap, x, hgv, hx, hxc, hxr, hnx⟩ := row_at hG (show c < G.length by omega)
      have hxo := rowOf_at hnx
      have hxg := hg c _ hnx
      have hxs' := hxr.small
      replace hup : upF (nums G) c (stepUp (nums G) c S) = anyUp (nums G) G.length xs := hup
      refine swp_skip ?_
      refine then_n ?_
      refine swp_seq ?_
      refine swp_block ?_
      refine swp_seq ?_
      refine swp_region ?_
      refine s_pu (pu_move rfl) ?_
      refine s_pu (pu_move rfl) ?_
      refine s_pu (pu_indexAddr c rfl rfl (by omega) (by omega) (by omega)) ?_
      refine s_rd (rd_load rfl (rbs_get S (by omega))) ?_
      refine swl_sub _ (.cons (t := 0) rfl (.cons (t := 5) rfl (.cons (t := 7) rfl (.cons (t := 34) rfl .nil)))) ?_
      refine swl_nil ?_
      refine then_n ?_
      refine swp_cond (b := _) rfl (fun h34 => ?_) (fun h34 => ?_)
      · skip   -- 34 T
        refine swp_seq ?_
        refine swp_region ?_
        refine s_pu (pu_assign rfl) ?_
        refine swl_sub _ (.cons (t := 0) rfl (.cons (t := 5) rfl (.cons (t := 7) rfl (.cons (t := 8) rfl .nil)))) ?_
        refine swl_nil ?_
        refine then_n ?_
        refine swp_block ?_
        refine swp_sub _ (.cons (t := 0) rfl (.cons (t := 5) rfl (.cons (t := 7) rfl (.cons (t := 8) rfl .nil)))) ?_
        have e0 : rbs G.length S = rbs G.length (fun y => S y || decide ((y : Int) ∈ x.2.take 0)) := rbs_ext fun j _ => by simp
        rw [e0]
        refine swp_loop (ι := Nat) (fun j env L => env = [(0, v), (5, .slice (some ⟨b11, 0, none⟩) G.length G.length), (7, .int .i64 (c : Nat)), (8, .int .i64 (j : Nat))] ∧ L = [blk b11 4 (rbs G.length (fun y => S y || decide ((y : Int) ∈ x.2.take j))), ro μ] ∧ j ≤ x.2.length) (fun j => x.2.length - j) 0 ⟨rfl, rfl, Nat.zero_le _⟩ ?_
        rintro j env L ⟨rfl, rfl, hj⟩
        refine swp_seq ?_
        refine swp_seq ?_
        refine swp_region ?_
        refine s_pu (pu_move rfl) ?_
        refine s_pu (pu_move rfl) ?_
        refine s_pu (pu_move rfl) ?_
        refine s_pu (pu_indexAddr (off + c * 1) (congrArg some hgv) rfl (by omega) (by omega) (by rw [Int.toNat_natCast])) ?_
        refine s_rd (rd_ro rfl hxc) ?_
        refine s_pu (pu_len_row hxr rfl) ?_
        refine s_pu (pu_lss rfl rfl) ?_
        refine swl_sub _ (.cons (t := 0) rfl (.cons (t := 5) rfl (.cons (t := 7) rfl (.cons (t := 8) rfl (.cons (t := 41) rfl .nil))))) ?_
        refine swl_nil ?_
        refine then_n ?_
        refine swp_cond (b := _) rfl (fun h41 => ?_) (fun h41 => ?_)
        · skip   -- 41 T
          have h41' : j < x.2.length := by have := of_decide_eq_true h41; omega
          obtain ⟨p, hp⟩ : ∃ p, x.2[j]? = some p := ⟨_, List.getElem?_eq_getElem h41'⟩
          obtain ⟨pb, poff, pcap, hpv, hpk⟩ := hxr.at_ hp
          have hpg := hxg p (List.mem_of_getElem? hp)
          obtain ⟨i, rfl⟩ : ∃ i : Nat, p = i := ⟨p.toNat, by omega⟩
          refine swp_skip ?_
          refine then_n ?_
          refine swp_seq ?_
          refine swp_block ?_
          refine swp_region ?_
          refine s_pu (pu_move rfl) ?_
          refine s_pu (pu_move rfl) ?_
          refine s_pu (pu_move rfl) ?_
          refine s_pu (pu_indexAddr (off + c * 1) (congrArg some hgv) rfl (by omega) (by omega) (by rw [Int.toNat_natCast])) ?_
          refine s_rd (rd_ro rfl hxc) ?_
          refine s_pu (pu_move rfl) ?_
          refine s_pu (pu_indexAddr (poff + j * 1) (congrArg some hpv) rfl (by omega) (by omega) (by rw [Int.toNat_natCast])) ?_
          refine s_rd (rd_ro rfl hpk) ?_
          refine s_pu (pu_indexAddr i rfl rfl (by omega) (by omega) (by omega)) ?_
          refine s_ef0 (ef_storeP rfl rfl rfl (by rw [rbs_len]; omega)) ?_
          refine swl_sub _ (.cons (t := 0) rfl (.cons (t := 5) rfl (.cons (t := 7) rfl (.cons (t := 8) rfl .nil)))) ?_
          rw [rbs_set (T := fun y => S y || decide ((y : Int) ∈ x.2.take (j + 1))) (fun y hy => by
            rw [List.take_add_one, hp]
            by_cases e : y = i
            · subst e; simp
            · have : (y : Int) ≠ i := by omega
              simp [e, this])]
          refine swl_nil ?_
          refine block_n ?_
          refine then_n ?_
          refine swp_region ?_
          refine s_pu (pu_move rfl) ?_
          refine s_pu (pu_add_as ((j + 1 : Nat) : Int) rfl rfl (by omega) (by omega) (by omega)) ?_
          refine s_pu (pu_assign rfl) ?_
          refine swl_sub _ (.cons (t := 0) rfl (.cons (t := 5) rfl (.cons (t := 7) rfl (.cons (t := 8) rfl .nil)))) ?_
          refine swl_nil ?_
          exact then_n ⟨j + 1, ⟨rfl, rfl, h41'⟩, by omega⟩
        · skip   -- 41 F
          have h41' := of_decide_eq_false h41
          obtain rfl : j = x.2.length := by omega
          have e1 : rbs G.length (fun y => S y || decide ((y : Int) ∈ x.2.take x.2.length)) = rbs G.length (stepUp (nums G) c S) := rbs_ext fun j _ => by
            unfold stepUp; rw [h34, hxo, List.take_length, Bool.true_and]
          rw [e1]
          refine swp_exit ?_
          refine then_x ?_
          refine then_x ?_
          refine block_hit rfl ?_
          refine block_n ?_
          refine then_n ?_
          refine swp_region ?_
          refine s_pu (pu_move rfl) ?_
          refine s_pu (pu_sub_as ((c : Nat) - 1 : Int) rfl rfl (by omega) (by omega) (by omega)) ?_
          refine s_pu (pu_assign rfl) ?_
          refine swl_sub _ (.cons (t := 0) rfl (.cons (t := 5) rfl (.cons (t := 7) rfl .nil))) ?_
          refine swl_nil ?_
          exact then_n ⟨(c, stepUp (nums G) c S), ⟨rfl, rfl, by omega, hup⟩, by show c < c + 1; omega⟩
      · skip   -- 34 F
        have e1 : rbs G.length S = rbs G.length (stepUp (nums G) c S) := rbs_ext fun j _ => by unfold stepUp; rw [h34, Bool.false_and, Bool.or_false]
        rw [e1]
        refine swp_skip ?_
        refine block_n ?_
        refine then_n ?_
        refine swp_region ?_
        refine s_pu (pu_move rfl) ?_
        refine s_pu (pu_sub_as ((c : Nat) - 1 : Int) rfl rfl (by omega) (by omega) (by omega)) ?_
        refine s_pu (pu_assign rfl) ?_
        refine swl_sub _ (.cons (t := 0) rfl (.cons (t := 5) rfl (.cons (t := 7) rfl .nil))) ?_
        refine swl_nil ?_
        exact then_n ⟨(c, stepUp (nums G) c S), ⟨rfl, rfl, by omega, hup⟩, by show c < c + 1; omega⟩
    · skip   -- 28 F
      refine swp_exit ?_
      refine then_x ?_
      refine then_x ?_
      refine block_hit rfl ?_
      refine then_n ?_
      refine swp_seq ?_
      refine swp_region ?_
      refine s_pu (pu_move rfl) ?_
      refine s_pu (pu_assign rfl) ?_
      refine swl_sub _ (.cons (t := 4) rfl .nil) ?_
      refine swl_nil ?_
      refine then_n ?_
      refine swp_ret ?_
      have h28' := of_decide_eq_false h28
      obtain rfl : k = 0 := by omega
      replace hup : S = anyUp (nums G) G.length xs := hup
      subst hup
      exact done_ret [blk b11 4 (rbs G.length (anyUp (nums G) G.length xs)), ro μ] (.tmp rfl .nil) ⟨b11, rfl, rfl⟩ (by repeat (first | exact Split.nil | (apply Split.cons; (repeat (first | with_reducible exact Take.here | apply Take.there)))))
theorem rlist_spec (b n : Nat) (S : Nat → Bool) (hn : n ≤ 1048576) : Spec Tryd.prog 50 [.slice (some ⟨b, 0, none⟩) n n] [blk b 4 (rbs n S)] (fun r L => L = [own 3 1 r (elsTo n S).length ((elsTo n S).flatMap (icsk .i64)), blk b 4 (rbs n S)]) := by
  refine Spec.of 20 Tryd.func50 rfl rfl rfl ?_
  refine swp_seq ?_
  refine swp_region ?_
  refine s_pu (pu_assign rfl) ?_
  refine swl_sub _ (.cons (t := 0) rfl .nil) ?_
  refine swl_nil ?_
  refine then_n ?_
  refine swp_seq ?_
  refine swp_region ?_
  refine s_pu (pu_assign rfl) ?_
  refine swl_sub _ (.cons (t := 0) rfl (.cons (t := 3) rfl .nil)) ?_
  refine swl_ent (own_nil_ent (e := 3) (n := 1)) ?_
  refine swl_nil ?_
  refine then_n ?_
  refine swp_seq ?_
  refine swp_seq ?_
  refine swp_region ?_
  refine s_pu (pu_assign rfl) ?_
  refine swl_sub _ (.cons (t := 0) rfl (.cons (t := 3) rfl (.cons (t := 4) rfl .nil))) ?_
  refine swl_nil ?_
  refine then_n ?_
  refine swp_block ?_
  refine swp_loop (ι := Nat × Value) (fun k env L => env = [(0, .slice (some ⟨b, 0, none⟩) n n), (3, k.2), (4, .int .i64 (k.1 : Nat))] ∧ L = [own 3 1 k.2 (elsTo k.1 S).length ((elsTo k.1 S).flatMap (icsk .i64)), blk b 4 (rbs n S)] ∧ k.1 ≤ n) (fun k => n - k.1) (0, .slice none 0 0) ⟨rfl, rfl, Nat.zero_le _⟩ ?_
  rintro ⟨k, lv⟩ env L ⟨rfl, rfl, hk⟩
  dsimp only at hk ⊢
  refine swp_seq ?_
  refine swp_seq ?_
  refine swp_region ?_
  refine s_pu (pu_move rfl) ?_
  refine s_pu (pu_move rfl) ?_
  refine s_pu (pu_len rfl) ?_
  refine s_pu (pu_lss rfl rfl) ?_
  refine swl_sub _ (.cons (t := 0) rfl (.cons (t := 3) rfl (.cons (t := 4) rfl (.cons (t := 8) rfl .nil)))) ?_
  refine swl_nil ?_
  refine then_n ?_
  refine swp_cond (b := _) rfl (fun h8 => ?_) (fun h8 => ?_)
  · skip   -- 8 T
    have h8' : k < n := by have := of_decide_eq_true h8; omega
    have hel := elsTo_len k S
    refine swp_skip ?_
    refine then_n ?_
    refine swp_seq ?_
    refine swp_block ?_
    refine swp_seq ?_
    refine swp_region ?_
    refine s_pu (pu_move rfl) ?_
    refine s_pu (pu_move rfl) ?_
    refine s_pu (pu_indexAddr k rfl rfl (by omega) (by omega) (by omega)) ?_
    refine s_rd (rd_load rfl (rbs_get S h8')) ?_
    refine swl_sub _ (.cons (t := 0) rfl (.cons (t := 3) rfl (.cons (t := 4) rfl (.cons (t := 14) rfl .nil)))) ?_
    refine swl_nil ?_
    refine then_n ?_
    refine swp_cond (b := _) rfl (fun h14 => ?_) (fun h14 => ?_)
    · skip   -- 14 T
      refine swp_region ?_
      refine s_pu (pu_move rfl) ?_
      refine s_pu (pu_move rfl) ?_
      refine s_ef (ef_bldS (qs := [(0, _)]) rfl rfl rfl) ?_
      intro b17
      refine s_ef (ef_append_lit (l := (elsTo k S).length) (m := 1) rfl rfl (by repeat (first | exact Split.nil | (apply Split.cons; (repeat (first | with_reducible exact Take.here | apply Take.there))))) (by simp only [maxLen]; omega) (by omega)) ?_
      rintro v' hv'
      skip
      refine s_pu (pu_assign rfl) ?_
      refine swl_sub _ (.cons (t := 0) rfl (.cons (t := 3) rfl (.cons (t := 4) rfl .nil))) ?_
      rw [show (elsTo k S).flatMap (icsk .i64) ++ [.int .i64 (k : Nat)] = (elsTo (k + 1) S).flatMap (icsk .i64) by rw [elsTo_succ h14, List.flatMap_append]; rfl, show (elsTo k S).length + 1 = (elsTo (k + 1) S).length by rw [elsTo_succ h14, List.length_append]; rfl]
      refine swl_nil ?_
      refine block_n ?_
      refine then_n ?_
      refine swp_region ?_
      refine s_pu (pu_move rfl) ?_
      refine s_pu (pu_add_as ((k + 1 : Nat) : Int) rfl rfl (by omega) (by omega) (by omega)) ?_
      refine s_pu (pu_assign rfl) ?_
      refine swl_sub _ (.cons (t := 0) rfl (.cons (t := 3) rfl (.cons (t := 4) rfl .nil))) ?_
      refine swl_nil ?_
      exact then_n ⟨(k + 1, v'), ⟨rfl, rfl, h8'⟩, by show n - (k + 1) < n - k; omega⟩
    · skip   -- 14 F
      rw [show elsTo k S = elsTo (k + 1) S from (elsTo_skip (Nat.le_succ k) (fun i h1 h2 => by rw [show i = k by omega]; exact h14)).symm]
      refine swp_skip ?_
      refine block_n ?_
      refine then_n ?_
      refine swp_region ?_
      refine s_pu (pu_move rfl) ?_
      refine s_pu (pu_add_as ((k + 1 : Nat) : Int) rfl rfl (by omega) (by omega) (by omega)) ?_
      refine s_pu (pu_assign rfl) ?_
      refine swl_sub _ (.cons (t := 0) rfl (.cons (t := 3) rfl (.cons (t := 4) rfl .nil))) ?_
      refine swl_nil ?_
      exact then_n ⟨(k + 1, lv), ⟨rfl, rfl, h8'⟩, by show n - (k + 1) < n - k; omega⟩
  · skip   -- 8 F
    have h8' := of_decide_eq_false h8
    obtain rfl : k = n := by omega
    refine swp_exit ?_
    refine then_x ?_
    refine then_x ?_
    refine block_hit rfl ?_
    refine then_n ?_
    refine swp_seq ?_
    refine swp_region ?_
    refine s_pu (pu_move rfl) ?_
    refine s_pu (pu_assign rfl) ?_
    refine swl_sub _ (.cons (t := 2) rfl .nil) ?_
    refine swl_nil ?_
    refine then_n ?_
    refine swp_ret ?_
    exact done_ret [own 3 1 lv (elsTo k S).length ((elsTo k S).flatMap (icsk .i64)), blk b 4 (rbs k S)] (.tmp rfl .nil) rfl (by repeat (first | exact Split.nil | (apply Split.cons; (repeat (first | with_reducible exact Take.here | apply Take.there)))))
theorem elsTo_ext {n : Nat} {S T : Nat → Bool} (h : ∀ k, k < n → S k = T k) : elsTo n S = elsTo n T := by
  unfold elsTo
  rw [List.filter_congr fun k hk => h k (List.mem_range.1 hk)]
theorem down_any {g : List (List Int)} (hg : Good g) {xs : List Int} (hx : ∀ p ∈ xs, 0 ≤ p ∧ p < g.length) (j : Nat) : decide (j ∈ downL g xs) = anyUp g g.length xs j := by
  rw [Bool.eq_iff_iff, decide_eq_true_eq, (downL_spec hg xs).2.2, anyUp_iff hg (fun p hp => (hx p hp).2)]
  constructor
  · rintro ⟨q, hq, hr⟩; exact ⟨q, (inRng_mem.1 hq).1, hr⟩
  · rintro ⟨q, hq, hr⟩; exact ⟨q, inRng_mem.2 ⟨hq, hx _ hq⟩, hr⟩
theorem askedE_one (n : Nat) (l : List Int) : askedE n [l] = if unkB n l = true then 9 else 0 := by
  unfold askedE unkB
  cases h : l.all (inR n) <;> simp [h]
theorem askedE_two (n : Nat) (l m : List Int) : askedE n [l, m] = if (unkB n l || unkB n m) = true then 9 else 0 := by
  unfold askedE unkB
  cases h : l.all (inR n) <;> cases h2 : m.all (inR n) <;> simp [h, h2]
end SX
namespace SX
open Go Go.Proofs

/-- was one asked more than once? -/
def twiceB (n : Nat) (a : Nat → Nat) : Bool := (List.range n).any fun j => decide (1 < a j)
theorem twice_spec (p n : Nat) (vg vn : Value) (a : Nat → Nat) (hn : n ≤ 1048576) : Spec Tryd.prog 17 [.pointer (some ⟨p, 0, none⟩)] [gA p vg vn n a] (fun r L => r = .bool (twiceB n a) ∧ L = [gA p vg vn n a]) := by
  refine Spec.exA' fun va => ?_
  simp only [List.cons_append, List.nil_append]
  refine Spec.fact' (p := ∃ A c, va = .slice A n c) (fun m h => own_form (Sat.perm (.swap _ _ _) _ h)) fun ⟨A, c, hva⟩ => ?_
  refine Spec.ent3 (post := fun r L => r = .bool (twiceB n a) ∧ L = [blk p 33 [vg, vn, va], own 3 1 va n (askV n a)]) ?_ (fun v L ⟨h1, h2⟩ => ⟨_, by rw [h2]; exact gA_close, h1, rfl⟩)
  refine Spec.of 17 Tryd.func17 rfl rfl rfl ?_
  refine swp_seq ?_
  refine swp_region ?_
  refine s_pu (pu_assign rfl) ?_
  refine swl_sub _ (.cons (t := 0) rfl .nil) ?_
  refine swl_nil ?_
  refine then_n ?_
  refine swp_seq ?_
  refine swp_seq ?_
  refine swp_region ?_
  refine s_pu (pu_move rfl) ?_
  first | refine s_pu (pu_nilCheck rfl) ?_ | refine s_pu (pu_nilCheck_fn rfl) ?_ | refine s_pu (pu_nilCheck_if rfl) ?_
  first | refine s_pu (pu_fieldAddr0 rfl) ?_ | refine s_pu (pu_fieldAddr rfl) ?_
  refine s_rd (rd_load rfl rfl) ?_
  refine s_pu (pu_len_own ⟨A, c, hva⟩ rfl) ?_
  refine s_pu (pu_move rfl) ?_
  refine swl_sub _ (.cons (t := 8) rfl (.cons (t := 9) rfl (.cons (t := 10) rfl .nil))) ?_
  refine swl_nil ?_
  refine then_n ?_
  refine swp_block ?_
  refine swp_ent (Split.ent' (K := [own 3 1 va n (askV n a), blk p 33 [vg, vn, va]]) (by repeat (first | exact Split.nil | (apply Split.cons; (repeat (first | with_reducible exact Take.here | apply Take.there)))))) ?_
  refine swp_loop (ι := Nat) (fun i env L => env = [(8, va), (9, .int .i64 (n : Nat)), (10, .int .i64 (i : Nat))] ∧ L = [own 3 1 va n (askV n a), blk p 33 [vg, vn, va]] ∧ i ≤ n ∧ ∀ j, j < i → a j ≤ 1) (fun i => n - i) 0 ⟨rfl, rfl, Nat.zero_le _, fun j h => by omega⟩ ?_
  rintro i env L ⟨rfl, rfl, hi, hlo⟩
  refine swp_seq ?_
  refine swp_region ?_
  refine s_pu (pu_lss rfl rfl) ?_
  refine swl_sub _ (.cons (t := 8) rfl (.cons (t := 9) rfl (.cons (t := 10) rfl (.cons (t := 11) rfl .nil)))) ?_
  refine swl_nil ?_
  refine then_n ?_
  refine swp_seq ?_
  refine swp_cond (b := _) rfl (fun h11 => ?_) (fun h11 => ?_)
  · skip   -- 11 T
    have h11' : i < n := by have := of_decide_eq_true h11; omega
    refine swp_own (fun h0 l0 _ => by omega) (fun b1 c1 ex1 hv1 w1 w2 w3 w4 => ?_)
    refine swp_skip ?_
    refine then_n ?_
    refine swp_seq ?_
    refine swp_block ?_
    refine swp_seq ?_
    refine swp_region ?_
    refine s_pu (pu_indexAddr i (congrArg some hv1) rfl (by omega) (by omega) (by omega)) ?_
    refine s_rd (rd_load rfl (by rw [List.getElem?_append_left (by unfold askV; rw [ncs_len]; exact h11')]; exact ncs_get _ h11')) ?_
    refine s_pu (pu_assign rfl) ?_
    refine swl_sub _ (.cons (t := 4) rfl (.cons (t := 8) rfl (.cons (t := 9) rfl (.cons (t := 10) rfl .nil)))) ?_
    refine swl_ent (own_close (n := 1) (l := n) (by unfold askV; rw [ncs_len]; omega) w4 w1 w2) ?_
    rw [← hv1]
    refine swl_nil ?_
    refine then_n ?_
    refine swp_seq ?_
    refine swp_region ?_
    refine s_pu (pu_move rfl) ?_
    refine s_pu (pu_gtr rfl rfl) ?_
    refine swl_sub _ (.cons (t := 8) rfl (.cons (t := 9) rfl (.cons (t := 10) rfl (.cons (t := 15) rfl .nil)))) ?_
    refine swl_nil ?_
    refine then_n ?_
    refine swp_cond (b := _) rfl (fun h15 => ?_) (fun h15 => ?_)
    · skip   -- 15 T
      have h15' := of_decide_eq_true h15
      refine swp_seq ?_
      refine swp_region ?_
      refine s_pu (pu_assign rfl) ?_
      refine swl_sub _ (.cons (t := 2) rfl .nil) ?_
      refine swl_nil ?_
      refine then_n ?_
      refine swp_ret ?_
      refine block_r ?_
      refine then_r ?_
      refine then_r ?_
      refine block_r ?_
      refine then_r ?_
      refine done_ret [blk p 33 [vg, vn, va], own 3 1 va n (askV n a)] (.tmp rfl .nil) ⟨?_, rfl⟩ (by repeat (first | exact Split.nil | (apply Split.cons; (repeat (first | with_reducible exact Take.here | apply Take.there)))))
      unfold twiceB
      rw [List.any_eq_true.2 ⟨i, List.mem_range.2 h11', decide_eq_true (by omega)⟩]; rfl
    · skip   -- 15 F
      refine swp_skip ?_
      refine block_n ?_
      refine then_n ?_
      refine swp_region ?_
      refine s_pu (pu_add_as ((i + 1 : Nat) : Int) rfl rfl (by omega) (by omega) (by omega)) ?_
      refine s_pu (pu_move rfl) ?_
      refine swl_sub _ (.cons (t := 8) rfl (.cons (t := 9) rfl (.cons (t := 10) rfl .nil))) ?_
      refine swl_nil ?_
      have h15' := of_decide_eq_false h15
      exact then_n ⟨i + 1, ⟨rfl, rfl, h11', fun j hj => by
        by_cases e : j = i
        · subst e; omega
        · exact hlo j (by omega)⟩, by omega⟩
  · skip   -- 11 F
    have h11' := of_decide_eq_false h11
    obtain rfl : i = n := by omega
    refine swp_exit ?_
    refine then_x ?_
    refine then_x ?_
    refine block_hit rfl ?_
    refine then_n ?_
    refine swp_seq ?_
    refine swp_region ?_
    refine s_pu (pu_assign rfl) ?_
    refine swl_sub _ (.cons (t := 2) rfl .nil) ?_
    refine swl_nil ?_
    refine then_n ?_
    refine swp_ret ?_
    refine done_ret [blk p 33 [vg, vn, va], own 3 1 va i (askV i a)] (.tmp rfl .nil) ⟨?_, rfl⟩ (by repeat (first | exact Split.nil | (apply Split.cons; (repeat (first | with_reducible exact Take.here | apply Take.there)))))
    unfold twiceB
    rw [show ((List.range i).any fun j => decide (1 < a j)) = false from List.any_eq_false.2 fun j hj => by
      have := hlo j (List.mem_range.1 hj)
      rw [decide_eq_true_eq]; omega]; rfl
theorem own_full {e n b : Nat} {xs : List Value} {L : List Assn} (h : xs.length = n) (hm : n ≤ maxLen) : Ent (blk b e xs :: L) (own e 1 (.slice (some ⟨b, 0, none⟩) n n) n xs :: L) := by
  have := own_close (e := e) (n := 1) (b := b) (l := n) (cap := n) (xs := xs) (ex := []) (L := L) (by omega) (by simp) (Nat.le_refl _) hm
  rwa [List.append_nil] at this
def noAsk : Nat → Nat := fun _ => 0
theorem forget_spec (p n : Nat) (vg vn : Value) (a : Nat → Nat) (hn : n ≤ 1048576) (hg : ∃ A c, vg = .slice A n c) : Spec Tryd.prog 22 [.pointer (some ⟨p, 0, none⟩)] [gA p vg vn n a] (fun r L => r = .tuple #[] ∧ L = [gA p vg vn n noAsk]) := by
  obtain ⟨A, c, rfl⟩ := hg
  refine Spec.exA' fun va => ?_
  simp only [List.cons_append, List.nil_append]
  refine Spec.ent3 (post := fun r L => ∃ va, r = .tuple #[] ∧ L = [blk p 33 [.slice A n c, vn, va], own 3 1 va n (askV n noAsk)]) ?_ (fun v L ⟨va, h1, h2⟩ => ⟨_, by rw [h2]; exact gA_close, h1, rfl⟩)
  refine Spec.of 11 Tryd.func22 rfl rfl rfl ?_
  refine swp_region ?_
  refine s_pu (pu_move rfl) ?_
  refine s_pu (pu_move rfl) ?_
  first | refine s_pu (pu_nilCheck rfl) ?_ | refine s_pu (pu_nilCheck_fn rfl) ?_ | refine s_pu (pu_nilCheck_if rfl) ?_
  first | refine s_pu (pu_fieldAddr0 rfl) ?_ | refine s_pu (pu_fieldAddr rfl) ?_
  refine s_rd (rd_load rfl rfl) ?_
  refine s_pu (pu_len rfl) ?_
  refine s_ef (ef_make1 n rfl rfl rfl (by omega) (by simp only [maxLen]; omega)) ?_
  rintro b8
  skip
  first | refine s_pu (pu_nilCheck rfl) ?_ | refine s_pu (pu_nilCheck_fn rfl) ?_ | refine s_pu (pu_nilCheck_if rfl) ?_
  first | refine s_pu (pu_fieldAddr0 rfl) ?_ | refine s_pu (pu_fieldAddr rfl) ?_
  refine s_ef0 (ef_store rfl rfl rfl) ?_
  refine swl_sub _ .nil ?_
  rw [show List.replicate n (Value.int .i64 0) = askV n noAsk from ncs_zero n]
  refine swl_ent (own_full (by unfold askV; rw [ncs_len]) (by simp only [maxLen]; omega)) ?_
  refine swl_nil ?_
  exact done_end [blk p 33 [.slice A n c, vn, .slice (some ⟨b8, 0, none⟩) n n], own 3 1 (.slice (some ⟨b8, 0, none⟩) n n) n (askV n noAsk)] .nil ⟨_, rfl, rfl⟩ (by repeat (first | exact Split.nil | (apply Split.cons; (repeat (first | with_reducible exact Take.here | apply Take.there)))))
end SX
namespace SX
open Go Go.Proofs

theorem ncs_of (a : List Int) : a.flatMap (icsk .i64) = ncs a.length (fun j => a.getD j 0) := by
  apply List.ext_getElem?
  intro j
  by_cases h : j < a.length
  · rw [icells_get' (List.getElem?_eq_getElem h), ncs_get _ h, List.getD_eq_getElem?_getD, List.getElem?_eq_getElem h]; rfl
  · rw [List.getElem?_eq_none (by rw [icells_len']; omega), List.getElem?_eq_none (by rw [ncs_len]; omega)]
theorem ncs_cut (k : Nat) (a : List Int) : (cutG k a).flatMap (icsk .i64) = ncs a.length (fun j => if j < k then a.getD j 0 else 1024) := by
  unfold cutG ncs
  rw [List.flatMap_map]
  generalize List.range a.length = l
  induction l with
  | nil => rfl
  | cons x l ih => rw [List.flatMap_cons, List.map_cons, ih]; rfl
theorem ncs_ext {n : Nat} {c d : Nat → Int} (h : ∀ j, j < n → c j = d j) : ncs n c = ncs n d := by
  unfold ncs
  apply List.map_congr_left
  intro j hj
  rw [h j (List.mem_range.1 hj)]
/-- the source of a graph -/
def gSrc (p : Nat) (vg vn : Value) (G : List (Value × List Int)) (μ : PH) (hG : Graph μ vg G) (hg : Good (nums G)) (hn : G.length ≤ 65536) (hr : ∀ x ∈ G, x.2.length ≤ 17592186043904) : Src where
  t := 25
  v := .pointer (some ⟨p, 0, none⟩)
  d := 0
  hd := Nat.zero_le _
  g := nums G
  hg := hg
  hn := by rw [List.length_map]; exact hn
  σ := Nat → Nat
  A := fun a _ => gA p vg vn G.length a
  mono := fun _ => Ent.refl _
  ok := fun a c => a c ≤ 4611686018427387904
  step := ask1
  μ0 := μ
  commits := fun a _ => by
    have h := gcommits_spec p G.length vg vn a hG.1.sl
    refine InvS.of ?_
    rwa [show (nums G).length = G.length from List.length_map _]
  parents := fun a μ' c h hc ha => InvS.of (gparents_spec μ' p vg vn a G c (hG.le h) (by rwa [show (nums G).length = G.length from List.length_map _] at hc) ha hr)
theorem ask_no {c : Nat} : ∀ {ys : List Nat} {a : Nat → Nat}, c ∉ ys → (ys.foldl ask1 a) c = a c
  | [], _, _ => rfl
  | y :: ys, a, h => by
    rw [List.foldl_cons, ask_no (fun hc => h (List.mem_cons_of_mem _ hc))]
    unfold ask1
    rw [if_neg (fun e => h (by rw [e]; exact List.mem_cons_self ..))]
theorem ask_le {m c : Nat} : ∀ {ys : List Nat} {a : Nat → Nat}, ys.Nodup → a c ≤ m → (ys.foldl ask1 a) c ≤ m + 1
  | [], _, _, h => by show _ ≤ _; exact Nat.le_succ_of_le h
  | y :: ys, a, hn, h => by
    rw [List.foldl_cons]
    obtain ⟨h1, h2⟩ := List.nodup_cons.1 hn
    by_cases e : c = y
    · subst e
      rw [ask_no h1]
      unfold ask1
      rw [if_pos rfl]; omega
    · exact ask_le h2 (by unfold ask1; rw [if_neg e]; exact h)
theorem twice_no {n : Nat} {ys : List Nat} (h : ys.Nodup) : twiceB n (ys.foldl ask1 noAsk) = false := by
  unfold twiceB
  refine List.any_eq_false.2 fun j _ => ?_
  have : (ys.foldl ask1 noAsk) j ≤ 0 + 1 := ask_le h (Nat.le_refl _)
  rw [decide_eq_true_eq]; omega
section
variable {p : Nat} {vg vn : Value} {G : List (Value × List Int)} {μ : PH} {hG : Graph μ vg G} {hg : Good (nums G)} {hn : G.length ≤ 65536} {hr : ∀ x ∈ G, x.2.length ≤ 17592186043904}
theorem gSrc_fine {a : Nat → Nat} (ha : ∀ c, a c ≤ 4611686018427387904) : (gSrc p vg vn G μ hG hg hn hr).fine a := fun ys c _ hc _ _ => by
  show (ys.foldl ask1 a) c ≤ _
  rw [ask_no hc]; exact ha c
end
set_option maxHeartbeats 2000000 in
theorem good_spec (μ : PH) (v : Value) (G : List (Value × List Int)) (mo : Nat) (kn : Int) (hG : Graph μ v G) (hn : G.length ≤ 17592186043904) (hmo : mo ≤ 1048576) (hrows : ∀ x ∈ G, x.2.length ≤ 17592186043904) :
    Spec Tryd.prog 14 [v, .int .i64 (mo : Nat), .int .i64 kn] [ro μ] (fun r L => ∃ μ', Le μ μ' ∧
      ((¬ chkFrom 0 (nums (G.take (min G.length mo))) = 0 ∧ r = .pointer none ∧ L = [ro μ'])
       ∨ ∃ p v' vn gs, r = .pointer (some ⟨p, 0, none⟩) ∧ Graph μ' v' (G.take (min G.length mo)) ∧ moreG [] (nums (G.take (min G.length mo))) = some gs ∧ Row μ' vn 1 (cutG kn.toNat gs).length ((cutG kn.toNat gs).flatMap (icsk .i64)) ∧ L = [gA p v' vn (min G.length mo) noAsk, ro μ'])) := by
  refine Spec.of 42 Tryd.func14 rfl rfl rfl ?_
  refine swp_seq ?_
  refine swp_region ?_
  refine s_pu (pu_assign rfl) ?_
  refine swl_sub _ (.cons (t := 0) rfl (.cons (t := 1) rfl (.cons (t := 2) rfl .nil))) ?_
  refine swl_nil ?_
  refine then_n ?_
  refine swp_seq ?_
  obtain ⟨v', hG1, hsl⟩ := graph_take (P := Tryd.prog) (tG := 22) hG (min G.length mo) (Nat.min_le_left _ _)
  have hmn : (min (G.length : Int) (mo : Int)) = ((min G.length mo : Nat) : Int) := by omega
  have hrows1 : ∀ x ∈ G.take (min G.length mo), x.2.length ≤ 17592186043904 := fun x hx => hrows x (List.mem_of_mem_take hx)
  have hlen1 : (G.take (min G.length mo)).length = min G.length mo := by rw [List.length_take]; omega
  have hml : min G.length mo ≤ 1048576 := by omega
  generalize hm : min G.length mo = m at *
  generalize G.take m = Gm at *
  refine swp_region ?_
  refine s_pu (pu_move rfl) ?_
  refine s_pu (pu_move rfl) ?_
  refine s_pu (pu_len_row hG.1 rfl) ?_
  refine s_pu (pu_move rfl) ?_
  refine s_pu (pu_min2 rfl rfl) ?_
  rw [hmn]
  refine s_pu (hsl _ _ _ .i64 _ rfl rfl rfl) ?_
  refine s_pu (pu_assign rfl) ?_
  refine swl_sub _ (.cons (t := 0) rfl (.cons (t := 2) rfl .nil)) ?_
  refine swl_nil ?_
  refine then_n ?_
  refine swp_seq ?_
  refine swp_seq ?_
  refine swp_region ?_
  refine s_pu (pu_move rfl) ?_
  refine s_ef (ef_fn (rcheck_spec μ v' Gm hG1 (by omega)) rfl rfl (by repeat (first | exact Split.nil | (apply Split.cons; (repeat (first | with_reducible exact Take.here | apply Take.there)))))) ?_
  rintro v17 L1 ⟨rfl, rfl⟩
  refine swl_app ?_
  refine s_pu (pu_neq rfl rfl) ?_
  refine swl_sub _ (.cons (t := 0) rfl (.cons (t := 2) rfl (.cons (t := 18) rfl .nil))) ?_
  refine swl_nil ?_
  refine then_n ?_
  refine swp_cond (b := _) rfl (fun h18 => ?_) (fun h18 => ?_)
  · skip   -- 18 T
    have hc : ¬ chkFrom 0 (nums Gm) = 0 := by simpa using h18
    refine swp_seq ?_
    refine swp_region ?_
    refine s_pu (pu_assign rfl) ?_
    refine swl_sub _ (.cons (t := 6) rfl .nil) ?_
    refine swl_nil ?_
    refine then_n ?_
    refine swp_ret ?_
    refine then_r ?_
    exact done_ret [ro μ] (.tmp rfl .nil) ⟨μ, Le.refl _, .inl ⟨hc, rfl, rfl⟩⟩ (by repeat (first | exact Split.nil | (apply Split.cons; (repeat (first | with_reducible exact Take.here | apply Take.there)))))
  · skip   -- 18 F
    have hc : chkFrom 0 (nums Gm) = 0 := by simpa using h18
    obtain ⟨a, ha⟩ : ∃ a, moreG [] (nums Gm) = some a := by
      have hs : (moreG [] (nums Gm)).isSome = true ↔ chkFrom 0 (nums Gm) = 0 := moreG_chk (all := [])
      exact Option.isSome_iff_exists.1 (hs.2 hc)
    have hal : a.length = m := by rw [gens_len ha, List.length_map, hlen1]
    have hyes := moreL_some ha
    refine swp_skip ?_
    refine then_n ?_
    refine swp_seq ?_
    refine swp_region ?_
    refine s_pu (pu_move rfl) ?_
    refine s_ef (ef_fn (rall_spec μ v' Gm hG1 (by omega) hrows1) rfl rfl (by repeat (first | exact Split.nil | (apply Split.cons; (repeat (first | with_reducible exact Take.here | apply Take.there)))))) ?_
    rintro v21 L1 ⟨lv, rfl, rfl⟩
    refine swl_app ?_
    rw [hyes.1, hyes.2, show a.drop ([] : List Int).length = a from rfl]
    refine swl_fact (fun m h => own_shape .here h) fun hs1 => ?_
    have hform := shape_len hs1
    refine s_pu (pu_move rfl) ?_
    first | refine s_pu (pu_extractL rfl) ?_ | refine s_pu (pu_extract rfl rfl) ?_
    first | refine s_pu (pu_extractL rfl) ?_ | refine s_pu (pu_extract rfl rfl) ?_
    refine s_pu (pu_assign rfl) ?_
    refine s_pu (pu_assign rfl) ?_
    refine swl_sub _ (.cons (t := 0) rfl (.cons (t := 2) rfl (.cons (t := 7) rfl .nil))) ?_
    refine swl_nil ?_
    refine then_n ?_
    refine swp_seq ?_
    refine swp_seq ?_
    refine swp_region ?_
    refine s_pu (pu_move rfl) ?_
    refine s_pu (pu_max2 rfl rfl) ?_
    rw [show max kn 0 = ((kn.toNat : Nat) : Int) by omega]
    generalize kn.toNat = kk at *
    refine s_pu (pu_assign rfl) ?_
    refine swl_sub _ (.cons (t := 0) rfl (.cons (t := 7) rfl (.cons (t := 9) rfl .nil))) ?_
    refine swl_nil ?_
    refine then_n ?_
    refine swp_block ?_
    rw [ncs_of, ncs_ext (d := fun j => if kk ≤ j ∧ j < kk then 1024 else a.getD j 0) (fun j _ => (if_neg (by omega)).symm)]
    refine swp_sub _ (.cons (t := 0) rfl (.cons (t := 7) rfl (.cons (t := 9) rfl .nil))) ?_
    refine swp_loop (ι := Nat) (fun i env L => env = [(0, v'), (7, lv), (9, .int .i64 (i : Nat))] ∧ L = [own 3 1 lv a.length (ncs a.length (fun j => if kk ≤ j ∧ j < i then 1024 else a.getD j 0)), ro μ] ∧ kk ≤ i) (fun i => a.length - i) kk ⟨rfl, rfl, Nat.le_refl _⟩ ?_
    rintro i env L ⟨rfl, rfl, hi⟩
    refine swp_seq ?_
    refine swp_seq ?_
    refine swp_region ?_
    refine s_pu (pu_move rfl) ?_
    refine s_pu (pu_move rfl) ?_
    refine s_pu (pu_len_own hform rfl) ?_
    refine s_pu (pu_lss rfl rfl) ?_
    refine swl_sub _ (.cons (t := 0) rfl (.cons (t := 7) rfl (.cons (t := 9) rfl (.cons (t := 29) rfl .nil)))) ?_
    refine swl_nil ?_
    refine then_n ?_
    refine swp_cond (b := _) rfl (fun h29 => ?_) (fun h29 => ?_)
    · skip   -- 29 T
      have h29' : i < a.length := by have := of_decide_eq_true h29; omega
      refine swp_own (fun h0 l0 _ => by omega) (fun b1 c1 ex1 hv1 w1 w2 w3 w4 => ?_)
      subst hv1
      refine swp_skip ?_
      refine then_n ?_
      refine swp_seq ?_
      refine swp_block ?_
      refine swp_region ?_
      refine s_pu (pu_move rfl) ?_
      refine s_pu (pu_move rfl) ?_
      refine s_pu (pu_indexAddr i rfl rfl (by omega) (by omega) (by omega)) ?_
      refine s_ef0 (ef_storeP rfl rfl rfl (by rw [List.length_append, ncs_len]; omega)) ?_
      refine swl_sub _ (.cons (t := 0) rfl (.cons (t := 7) rfl (.cons (t := 9) rfl .nil))) ?_
      rw [List.set_append_left (h := by rw [ncs_len]; exact h29'), ncs_set (d := fun j => if kk ≤ j ∧ j < i + 1 then 1024 else a.getD j 0) (fun j => by
        by_cases e : j = i
        · subst e; rw [if_pos rfl, if_pos ⟨hi, Nat.lt_succ_self _⟩]
        · rw [if_neg e]
          by_cases h : kk ≤ j ∧ j < i
          · rw [if_pos h, if_pos (by omega)]
          · rw [if_neg h, if_neg (by omega)])]
      refine swl_ent (own_close (n := 1) (by rw [ncs_len]; omega) w4 w1 w2) ?_
      refine swl_nil ?_
      refine block_n ?_
      refine then_n ?_
      refine swp_region ?_
      refine s_pu (pu_move rfl) ?_
      refine s_pu (pu_add_as ((i + 1 : Nat) : Int) rfl rfl (by omega) (by omega) (by omega)) ?_
      refine s_pu (pu_assign rfl) ?_
      refine swl_sub _ (.cons (t := 0) rfl (.cons (t := 7) rfl (.cons (t := 9) rfl .nil))) ?_
      refine swl_nil ?_
      exact then_n ⟨i + 1, ⟨rfl, rfl, by omega⟩, by omega⟩
    · skip   -- 29 F
      have h29' := of_decide_eq_false h29
      rw [ncs_ext (d := fun j => if j < kk then a.getD j 0 else 1024) (fun j hj => by
        by_cases h : j < kk
        · rw [if_pos h, if_neg (by omega)]
        · rw [if_neg h, if_pos (by omega)]), ← ncs_cut]
      have hcl := cutG_len kk a
      rw [← hcl]
      refine swp_share_own (μ := μ) (by repeat (first | exact Split.nil | (apply Split.cons; (repeat (first | with_reducible exact Take.here | apply Take.there))))) fun μ4 h4 r4 => ?_
      obtain ⟨A9, c9, rfl⟩ := r4.sl
      obtain ⟨A8, c8, rfl⟩ := hG1.1.sl
      refine swp_exit ?_
      refine then_x ?_
      refine then_x ?_
      refine block_hit rfl ?_
      refine then_n ?_
      refine swp_seq ?_
      refine swp_region ?_
      refine s_pu (pu_move rfl) ?_
      refine s_pu (pu_move rfl) ?_
      refine s_pu (pu_move rfl) ?_
      refine s_pu (pu_len_row hG1.1 rfl) ?_
      refine s_ef (ef_make1 m rfl rfl (by rw [hlen1]) (by omega) (by simp only [maxLen]; omega)) ?_
      rintro b39
      skip
      refine s_pu (pu_bld (qs := [(0, _), (1, _), (2, _)]) rfl) ?_
      refine s_ef (ef_box rfl rfl) ?_
      intro b41
      refine s_pu (pu_assign rfl) ?_
      refine swl_sub _ (.cons (t := 6) rfl .nil) ?_
      rw [show List.replicate m (Value.int .i64 0) = askV m noAsk from ncs_zero m]
      refine swl_ent (Split.ent' (K := [blk b39 3 (askV m noAsk), blk b41 33 [.slice A8 Gm.length c8, .slice A9 (cutG kk a).length c9, .slice (some ⟨b39, 0, none⟩) m m], ro μ4]) (by repeat (first | exact Split.nil | (apply Split.cons; (repeat (first | with_reducible exact Take.here | apply Take.there)))))) ?_
      refine swl_ent (own_full (by unfold askV; rw [ncs_len]) (by simp only [maxLen]; omega)) ?_
      refine swl_nil ?_
      refine then_n ?_
      refine swp_ret ?_
      refine done_retE [gA b41 (.slice A8 Gm.length c8) (.slice A9 (cutG kk a).length c9) m noAsk, ro μ4] (.tmp rfl .nil) ⟨μ4, h4, .inr ⟨b41, _, _, a, rfl, hG1.le h4, ha, r4, rfl⟩⟩ ?_
      exact (Ent.perm (.swap _ _ _)).trans gA_close
end SX
namespace SX
open Go Go.Proofs

/-- a good source -/
structure GS (μ : PH) (vg vn : Value) (G : List (Value × List Int)) (gs : List Int) (k : Nat) : Prop where
  hG : Graph μ vg G
  ha : moreG [] (nums G) = some gs
  hv : Row μ vn 1 (cutG k gs).length ((cutG k gs).flatMap (icsk .i64))
  hn : G.length ≤ 65536
  hr : ∀ x ∈ G, x.2.length ≤ 17592186043904
theorem GS.le {μ μ' : PH} {vg vn : Value} {G : List (Value × List Int)} {gs : List Int} {k : Nat} (h : GS μ vg vn G gs k) (l : Le μ μ') : GS μ' vg vn G gs k := ⟨h.hG.le l, h.ha, h.hv.le l, h.hn, h.hr⟩
abbrev gV (p : Nat) : Value := .iface 25 (.pointer (some ⟨p, 0, none⟩))
section
variable {μ : PH} {vg vn : Value} {G : List (Value × List Int)} {gs : List Int} {k : Nat}
theorem GS.good (h : GS μ vg vn G gs k) : Good (nums G) := gens_good h.ha
end
theorem walks_all : chkFrom 0 [[], [0], [0], [1, 2], [2, 1]] = 0 ∧ isAnc [[], [0], [0], [1, 2], [2, 1]] 1 4 = true ∧ isAnc [[], [0], [0], [1, 2], [2, 1]] 3 4 = false
    ∧ askedE 5 [[1, 4]] = 0 ∧ askedE 5 [[3, 4]] = 0 ∧ onlyE [[], [0], [0], [1, 2], [2, 1]] [3] [1] = 0 ∧ onlyA [[], [0], [0], [1, 2], [2, 1]] [3] [1] = [2, 3] := by decide +kernel
abbrev LawOk (μ : PH) (r : Value) (L : List Assn) : Prop := r = .bool true ∧ ∃ μ' R, Le μ μ' ∧ L = ro μ' :: R
end SX
namespace SX
open Go Go.Proofs

def GoodIs (G : List (Value × List Int)) (mo : Nat) (kn : Int) (μ' : PH) (o : Option Addr) (A : Assn) : Prop :=
  (o = none ∧ ¬ chkFrom 0 (nums (G.take (min G.length mo))) = 0) ∨ ∃ p v' vn gs, o = some ⟨p, 0, none⟩ ∧ GS μ' v' vn (G.take (min G.length mo)) gs kn.toNat ∧ A = gA p v' vn (G.take (min G.length mo)).length noAsk
theorem good2_spec (μ : PH) (v : Value) (G : List (Value × List Int)) (mo : Nat) (kn : Int) (hG : Graph μ v G) (hn : G.length ≤ 17592186043904) (hmo : mo ≤ 65536) (hrows : ∀ x ∈ G, x.2.length ≤ 17592186043904) :
    Spec Tryd.prog 14 [v, .int .i64 (mo : Nat), .int .i64 kn] [ro μ] (fun r L => ∃ μ' o A, Le μ μ' ∧ r = .pointer o ∧ L = [A, ro μ'] ∧ GoodIs G mo kn μ' o A) := by
  refine Spec.ent3 (good_spec μ v G mo kn hG hn (by omega) hrows) fun r L ⟨μ', h1, h2⟩ => ?_
  have hl : (G.take (min G.length mo)).length = min G.length mo := by rw [List.length_take]; omega
  rcases h2 with ⟨k1, rfl, rfl⟩ | ⟨p, v', vn, gs, rfl, k1, k2, k3, rfl⟩
  · exact ⟨_, star_close (K := []) (L := [ro μ']), μ', none, star [], h1, rfl, rfl, .inl ⟨rfl, k1⟩⟩
  · exact ⟨_, Ent.refl _, μ', _, _, h1, rfl, rfl, .inr ⟨p, v', vn, gs, rfl, ⟨k1, k2, k3, by omega, fun x hx => hrows x (List.mem_of_mem_take hx)⟩, by rw [hl]⟩⟩
end SX
namespace SX
open Go Go.Proofs

end SX
namespace SX
open Go Go.Proofs

theorem row_take {μ : PH} {v : Value} {xs : List Int} (hv : Row μ v 1 xs.length (xs.flatMap (icsk .i64))) (k : Nat) (hk : k ≤ xs.length) :
    ∃ v', Row μ v' 1 (xs.take k).length ((xs.take k).flatMap (icsk .i64)) ∧ ∀ (env : Env) (x y : Operand) (ki : IntKind) (hi : Int), evalE env x = some v → evalE env y = some (.int ki hi) → hi = (k : Int) → Pu Tryd.prog env (.slice 31 x none (some y) none) v' := by
  obtain ⟨v', hr, hp⟩ := Row.hi (P := Tryd.prog) (t := 31) hv k hk
  refine ⟨v', ?_, hp⟩
  rw [Nat.mul_one, flat_take (icsk_len .i64)] at hr
  rwa [List.length_take, Nat.min_eq_left hk]
end SX
namespace SX
open Go Go.Proofs

theorem cutK {v : Value} {μ : PH} {xs : List Int} (m : Nat) (hv : Row μ v 1 xs.length (xs.flatMap (icsk .i64))) : ∃ (v' : Value) (ys : List Int), ys = xs.take (min xs.length m) ∧ ys.length ≤ m ∧ Row μ v' 1 ys.length (ys.flatMap (icsk .i64)) ∧ ∀ (env : Env) (x y : Operand) (ki : IntKind) (hi : Int), evalE env x = some v → evalE env y = some (.int ki hi) → hi = min (xs.length : Int) m → Pu Tryd.prog env (.slice 31 x none (some y) none) v' := by
  obtain ⟨v', h1, h2⟩ := row_take hv (min xs.length m) (Nat.min_le_left _ _)
  exact ⟨v', _, rfl, by rw [List.length_take]; omega, h1, fun env x y ki hi a b c => h2 env x y ki hi a b (by omega)⟩
theorem elsTo_mem {n : Nat} {S : Nat → Bool} {c : Int} : c ∈ elsTo n S ↔ ∃ k : Nat, c = k ∧ k < n ∧ S k = true := by
  unfold elsTo numsI
  rw [List.mem_map]
  constructor
  · rintro ⟨k, hk, rfl⟩
    rw [List.mem_filter, List.mem_range] at hk
    exact ⟨k, rfl, hk⟩
  · rintro ⟨k, rfl, h⟩
    exact ⟨k, by rw [List.mem_filter, List.mem_range]; exact h, rfl⟩
end SX
namespace SX
open Go Go.Proofs

theorem anyUp_one {g : List (List Int)} (hg : Good g) {b : Nat} (hb : b < g.length) (j : Nat) : anyUp g g.length [(b : Int)] j = up g b j := by
  rw [Bool.eq_iff_iff, anyUp_iff hg (fun p hp => by obtain rfl := List.mem_singleton.1 hp; omega), up_iff hg]
  constructor
  · rintro ⟨q, hq, hr⟩
    obtain rfl : q = b := by have := List.mem_singleton.1 hq; omega
    exact hr
  · exact fun h => ⟨b, List.mem_singleton.2 rfl, h⟩
end SX
namespace SX
open Go Go.Proofs

theorem ent_open {α : Type} {F : α → List Assn} {L L' : List Assn} (h : ∀ x, Ent (F x ++ L) L') : Ent (exA F :: L) L' := fun m hm => by
  obtain ⟨x, hx⟩ := exA_open hm
  exact h x m hx
def GS.src {μ : PH} {vg vn : Value} {G : List (Value × List Int)} {gs : List Int} {k : Nat} (h : GS μ vg vn G gs k) (p : Nat) : Src := gSrc p vg vn G μ h.hG h.good h.hn h.hr
end SX
namespace SX.Bq
open Go Go.Proofs SX
abbrev WI : Type := Int
abbrev wiV (x : WI) : Value := .int .i64 x
def wiZ : WI := 0
/-- the greatest first -/
def ltW (a b : WI) : Bool := decide (b < a)
theorem ltW_ord : Hp.Ord ltW := ⟨fun a b h => by
  have h' : @LT.lt Int _ b a := of_decide_eq_true h
  exact decide_eq_false (show ¬ @LT.lt Int _ a b by omega), fun a b c h1 h2 => by
  have h1' : ¬ @LT.lt Int _ a b := of_decide_eq_false h1
  have h2' : ¬ @LT.lt Int _ b c := of_decide_eq_false h2
  exact decide_eq_false (show ¬ @LT.lt Int _ a c by omega)⟩
theorem before_w (a b : WI) : Spec Tryd.prog 119 [wiV a, wiV b] [] (fun v L => v = .bool (ltW a b) ∧ L = []) := by
  refine Spec.of 8 Tryd.func119 rfl rfl rfl ?_
  refine swp_seq ?_
  refine swp_region ?_
  refine s_pu (pu_assign rfl) ?_
  refine swl_sub _ (.cons (t := 0) rfl (.cons (t := 1) rfl .nil)) ?_
  refine swl_nil ?_
  refine then_n ?_
  refine swp_seq ?_
  refine swp_region ?_
  refine s_pu (pu_move rfl) ?_
  refine s_pu (pu_move rfl) ?_
  refine s_pu (pu_gtr rfl rfl) ?_
  refine s_pu (pu_assign rfl) ?_
  refine swl_sub _ (.cons (t := 4) rfl .nil) ?_
  refine swl_nil ?_
  refine then_n ?_
  refine swp_ret ?_
  exact done_ret [] (.tmp rfl .nil) ⟨rfl, rfl⟩ (by repeat (first | exact Split.nil | (apply Split.cons; (repeat (first | with_reducible exact Take.here | apply Take.there)))))
end SX.Bq
namespace SX.Bq
open Go Go.Proofs SX

abbrev aW := Hp.ahd ltW
def wcs (e : WI × Nat) : List Value := [wiV e.1, .int .u64 (e.2 : Nat)]
theorem wcs_len (e : WI × Nat) : (wcs e).length = 2 := rfl
def wents (es : List (WI × Nat)) : List Value := es.flatMap wcs
theorem wents_len (es : List (WI × Nat)) : (wents es).length = es.length * 2 := by unfold wents; rw [flat_length wcs_len]
theorem wents_snoc (es : List (WI × Nat)) (x : WI) (n : Nat) : wents es ++ [wiV x, .int .u64 (n : Nat)] = wents (es ++ [(x, n)]) := by simp [wents, wcs]

theorem ahead_w (a b : WI) (n1 n2 : Nat) : Spec Tryd.prog 95 [.agg #[wiV a, .int .u64 (n1 : Nat)], .agg #[wiV b, .int .u64 (n2 : Nat)]] []
    (fun v L => v = .bool (aW (a, n1) (b, n2)) ∧ L = []) := by
  refine Spec.of 25 Tryd.func95 rfl rfl rfl ?_
  refine swp_seq ?_
  refine swp_region ?_
  refine s_ef (ef_box rfl rfl) ?_
  intro b2
  refine s_ef (ef_box rfl rfl) ?_
  intro b3
  refine s_pu (pu_assign rfl) ?_
  refine swl_sub _ (.cons (t := 2) rfl (.cons (t := 3) rfl .nil)) ?_
  refine swl_nil ?_
  refine then_n ?_
  refine swp_seq ?_
  refine swp_seq ?_
  refine swp_region ?_
  first | refine s_pu (pu_fieldAddr0 rfl) ?_ | refine s_pu (pu_fieldAddr rfl) ?_
  refine s_rd (rd_load rfl rfl) ?_
  refine s_pu (pu_iface rfl) ?_
  first | refine s_pu (pu_fieldAddr0 rfl) ?_ | refine s_pu (pu_fieldAddr rfl) ?_
  refine s_rd (rd_load rfl rfl) ?_
  refine s_ef (ef_inv rfl (before_w _ _) rfl (by repeat (first | exact Split.nil | (apply Split.cons; (repeat (first | with_reducible exact Take.here | apply Take.there)))))) ?_
  rintro v L1 ⟨rfl, rfl⟩
  refine swl_app ?_
  refine swl_sub _ (.cons (t := 2) rfl (.cons (t := 3) rfl (.cons (t := 10) rfl .nil))) ?_
  refine swl_nil ?_
  refine then_n ?_
  refine swp_cond (b := _) rfl (fun h10 => ?_) (fun h10 => ?_)
  · skip   -- 10 T
    refine swp_seq ?_
    refine swp_region ?_
    refine s_pu (pu_assign rfl) ?_
    refine swl_sub _ (.cons (t := 4) rfl .nil) ?_
    refine swl_nil ?_
    refine then_n ?_
    refine swp_ret ?_
    refine then_r ?_
    exact done_ret [] (.tmp rfl .nil) ⟨by simp [resV, h10, Hp.ahd], rfl⟩ (by repeat (first | exact Split.nil | (apply Split.cons; (repeat (first | with_reducible exact Take.here | apply Take.there)))))
  · skip   -- 10 F
    refine swp_skip ?_
    refine then_n ?_
    refine swp_seq ?_
    refine swp_region ?_
    first | refine s_pu (pu_fieldAddr0 rfl) ?_ | refine s_pu (pu_fieldAddr rfl) ?_
    refine s_rd (rd_load rfl rfl) ?_
    refine s_pu (pu_iface rfl) ?_
    first | refine s_pu (pu_fieldAddr0 rfl) ?_ | refine s_pu (pu_fieldAddr rfl) ?_
    refine s_rd (rd_load rfl rfl) ?_
    refine s_ef (ef_inv rfl (before_w _ _) rfl (by repeat (first | exact Split.nil | (apply Split.cons; (repeat (first | with_reducible exact Take.here | apply Take.there)))))) ?_
    rintro v L1 ⟨rfl, rfl⟩
    refine swl_app ?_
    refine s_pu (pu_not rfl) ?_
    refine s_pu (pu_move rfl) ?_
    refine s_split 18 rfl (fun h18 => ?_) (fun h18 => ?_)
    · skip   -- 18 T
      refine s_on rfl rfl ?_
      first | refine s_pu (pu_fieldAddr0 rfl) ?_ | refine s_pu (pu_fieldAddr rfl) ?_
      refine s_on rfl rfl ?_
      refine s_rd (rd_load rfl rfl) ?_
      refine s_on rfl rfl ?_
      first | refine s_pu (pu_fieldAddr0 rfl) ?_ | refine s_pu (pu_fieldAddr rfl) ?_
      refine s_on rfl rfl ?_
      refine s_rd (rd_load rfl rfl) ?_
      refine s_on rfl rfl ?_
      refine s_pu (pu_lss rfl rfl) ?_
      first | refine s_pu (pu_pick_t rfl rfl) ?_ | refine s_pu (pu_pick_f rfl rfl) ?_
      refine s_pu (pu_assign rfl) ?_
      refine swl_sub _ (.cons (t := 4) rfl .nil) ?_
      refine swl_nil ?_
      refine then_n ?_
      refine swp_ret ?_
      exact done_ret [] (.tmp rfl .nil) ⟨by simp [resV, h10, h18, Hp.ahd], rfl⟩ (by repeat (first | exact Split.nil | (apply Split.cons; (repeat (first | with_reducible exact Take.here | apply Take.there)))))
    · skip   -- 18 F
      refine s_off rfl rfl rfl ?_
      refine s_off rfl rfl rfl ?_
      refine s_off rfl rfl rfl ?_
      refine s_off rfl rfl rfl ?_
      refine s_off rfl rfl rfl ?_
      first | refine s_pu (pu_pick_t rfl rfl) ?_ | refine s_pu (pu_pick_f rfl rfl) ?_
      refine s_pu (pu_assign rfl) ?_
      refine swl_sub _ (.cons (t := 4) rfl .nil) ?_
      refine swl_nil ?_
      refine then_n ?_
      refine swp_ret ?_
      exact done_ret [] (.tmp rfl .nil) ⟨by simp [resV, h10, h18, Hp.ahd], rfl⟩ (by repeat (first | exact Split.nil | (apply Split.cons; (repeat (first | with_reducible exact Take.here | apply Take.there)))))

/-- a queue's struct and its array -/
def wraw (q : Nat) (es : List (WI × Nat)) (nxt : Nat) : Assn := exA (fun v : Value => [blk q 121 [v, .int .u64 (nxt : Nat)], own 133 2 v es.length (wents es)])
theorem wraw_close {q g cap nxt : Nat} {es : List (WI × Nat)} {ex : List Value} {L : List Assn} (h1 : es.length ≤ cap) (h2 : cap ≤ maxLen) (h4 : ex.length = (cap - es.length) * 2) :
    Ent (blk g 133 (wents es ++ ex) :: blk q 121 [.slice (some ⟨g, 0, none⟩) es.length cap, .int .u64 (nxt : Nat)] :: L) (wraw q es nxt :: L) :=
  (own_close (wents_len es) h4 h1 h2).trans (ent_ex (F := fun v => [blk q 121 [v, .int .u64 (nxt : Nat)], own 133 2 v es.length (wents es)]) (.slice (some ⟨g, 0, none⟩) es.length cap) (by repeat (first | exact Split.nil | (apply Split.cons; (repeat (first | with_reducible exact Take.here | apply Take.there))))))
theorem wraw_nil {q nxt : Nat} {L : List Assn} : Ent (blk q 121 [.slice none 0 0, .int .u64 (nxt : Nat)] :: L) (wraw q [] nxt :: L) :=
  Ent.imp fun m hm => ⟨.slice none 0 0, m, fun _ => none, hm, ⟨fun _ => none, fun _ => none, own_nil _ _ _, trivial, by simp, by simp, by simp⟩, by simp, fun _ _ h => h, by simp⟩

set_option maxHeartbeats 1000000 in
theorem push_w (q : Nat) (es : List (WI × Nat)) (nxt : Nat) (x : WI) (hb1 : es.length ≤ 1099511627776) (hb2 : nxt ≤ 18446744073709551614) :
    Spec Tryd.prog 86 [.pointer (some ⟨q, 0, none⟩), wiV x] [wraw q es nxt] (fun v L => v = .tuple #[] ∧ L = [wraw q (Hp.up aW es.length (es ++ [(x, nxt)]) es.length) (nxt + 1)]) := by
  refine Spec.of 84 Tryd.func86 rfl rfl rfl ?_
  refine swp_ex fun v => ?_
  refine swp_app ?_
  refine swp_seq ?_
  refine swp_seq ?_
  refine swp_region ?_
  refine s_pu (pu_move rfl) ?_
  refine s_pu (pu_ptr_eq_nil rfl rfl) ?_
  refine swl_sub _ (.cons (t := 0) rfl (.cons (t := 1) rfl (.cons (t := 7) rfl .nil))) ?_
  refine swl_nil ?_
  refine then_n ?_
  refine swp_cond (b := _) rfl (fun h7 => by cases h7) (fun h7 => ?_)
  refine swp_skip ?_
  refine then_n ?_
  refine swp_seq ?_
  refine swp_draw [4, 9] _ [] (by simp only [List.append_nil]; exact Ent.refl _) (by kernel_rfl) ?_
  refine d_pu 0 rfl (pu_move rfl) (by kernel_rfl) (by kernel_rfl) (by kernel_rfl) ?_
  refine d_pu 1 rfl (pu_move rfl) (by kernel_rfl) (by kernel_rfl) (by kernel_rfl) ?_
  first | refine d_pu 2 rfl (pu_nilCheck rfl) (by kernel_rfl) (by kernel_rfl) (by kernel_rfl) ?_ | refine d_pu 2 rfl (pu_nilCheck_fn rfl) (by kernel_rfl) (by kernel_rfl) (by kernel_rfl) ?_ | refine d_pu 2 rfl (pu_nilCheck_if rfl) (by kernel_rfl) (by kernel_rfl) (by kernel_rfl) ?_
  first | refine d_pu 3 rfl (pu_fieldAddr0 rfl) (by kernel_rfl) (by kernel_rfl) (by kernel_rfl) ?_ | refine d_pu 3 rfl (pu_fieldAddr rfl) (by kernel_rfl) (by kernel_rfl) (by kernel_rfl) ?_
  refine d_rd 4 rfl (rd_load rfl rfl) rfl (by kernel_rfl) (by kernel_rfl) (by kernel_rfl) ?_
  refine d_pu 5 rfl (pu_move rfl) (by kernel_rfl) (by kernel_rfl) (by kernel_rfl) ?_
  refine d_pu 6 rfl (pu_move rfl) (by kernel_rfl) (by kernel_rfl) (by kernel_rfl) ?_
  first | refine d_pu 7 rfl (pu_nilCheck rfl) (by kernel_rfl) (by kernel_rfl) (by kernel_rfl) ?_ | refine d_pu 7 rfl (pu_nilCheck_fn rfl) (by kernel_rfl) (by kernel_rfl) (by kernel_rfl) ?_ | refine d_pu 7 rfl (pu_nilCheck_if rfl) (by kernel_rfl) (by kernel_rfl) (by kernel_rfl) ?_
  first | refine d_pu 8 rfl (pu_fieldAddr0 rfl) (by kernel_rfl) (by kernel_rfl) (by kernel_rfl) ?_ | refine d_pu 8 rfl (pu_fieldAddr rfl) (by kernel_rfl) (by kernel_rfl) (by kernel_rfl) ?_
  refine d_rd 9 rfl (rd_load rfl rfl) rfl (by kernel_rfl) (by kernel_rfl) (by kernel_rfl) ?_
  refine d_pu 10 rfl (pu_bld (qs := [(0, _), (1, _)]) rfl) (by kernel_rfl) (by kernel_rfl) (by kernel_rfl) ?_
  refine d_eft 11 rfl (by kernel_rfl) (ef_bldS (qs := [(0, _)]) rfl rfl rfl) ?_
  intro b19
  refine ⟨_, Split.ent (by repeat (first | exact Split.nil | (apply Split.cons; (repeat (first | with_reducible exact Take.here | apply Take.there))))), ?_⟩
  first | refine d_fint 12 rfl (by kernel_rfl) (by kernel_rfl) (ef_append_lit (l := es.length) (m := 1) rfl rfl (by repeat (first | exact Split.nil | (apply Split.cons; (repeat (first | with_reducible exact Take.here | apply Take.there))))) (by simp only [maxLen]; omega) (by omega)) ?_ | refine d_finf 12 rfl (by kernel_rfl) (by kernel_rfl) (ef_append_lit (l := es.length) (m := 1) rfl rfl (by repeat (first | exact Split.nil | (apply Split.cons; (repeat (first | with_reducible exact Take.here | apply Take.there))))) (by simp only [maxLen]; omega) (by omega)) ?_
  rintro v' hv'
  obtain ⟨g, cap, rfl⟩ := hv' (by decide)
  rw [wents_snoc]
  first | refine d_pu 13 rfl (pu_nilCheck rfl) (by kernel_rfl) (by kernel_rfl) (by kernel_rfl) ?_ | refine d_pu 13 rfl (pu_nilCheck_fn rfl) (by kernel_rfl) (by kernel_rfl) (by kernel_rfl) ?_ | refine d_pu 13 rfl (pu_nilCheck_if rfl) (by kernel_rfl) (by kernel_rfl) (by kernel_rfl) ?_
  first | refine d_pu 14 rfl (pu_fieldAddr0 rfl) (by kernel_rfl) (by kernel_rfl) (by kernel_rfl) ?_ | refine d_pu 14 rfl (pu_fieldAddr rfl) (by kernel_rfl) (by kernel_rfl) (by kernel_rfl) ?_
  first | refine d_fin0t 15 rfl (by kernel_rfl) (by kernel_rfl) (ef_store rfl rfl rfl) ?_ | refine d_fin0f 15 rfl (by kernel_rfl) (by kernel_rfl) (ef_store rfl rfl rfl) ?_
  refine d_sub _ (.cons (t := 0) rfl .nil) ?_
  first | refine d_nilt (by kernel_rfl) ?_ | refine d_nilf (by kernel_rfl) ?_
  refine then_n ?_
  refine swp_seq ?_
  refine swp_region ?_
  refine s_pu (pu_move rfl) ?_
  first | refine s_pu (pu_nilCheck rfl) ?_ | refine s_pu (pu_nilCheck_fn rfl) ?_ | refine s_pu (pu_nilCheck_if rfl) ?_
  first | refine s_pu (pu_fieldAddr0 rfl) ?_ | refine s_pu (pu_fieldAddr rfl) ?_
  refine s_rd (rd_load rfl rfl) ?_
  refine s_pu (pu_add_u64 ((nxt + 1 : Nat) : Int) rfl rfl (by omega) (by omega) (by omega)) ?_
  first | refine s_pu (pu_nilCheck rfl) ?_ | refine s_pu (pu_nilCheck_fn rfl) ?_ | refine s_pu (pu_nilCheck_if rfl) ?_
  first | refine s_pu (pu_fieldAddr0 rfl) ?_ | refine s_pu (pu_fieldAddr rfl) ?_
  refine s_ef0 (ef_store rfl rfl rfl) ?_
  refine swl_sub _ (.cons (t := 0) rfl .nil) ?_
  refine swl_nil ?_
  refine then_n ?_
  refine swp_seq ?_
  refine swp_region ?_
  refine s_pu (pu_move rfl) ?_
  first | refine s_pu (pu_nilCheck rfl) ?_ | refine s_pu (pu_nilCheck_fn rfl) ?_ | refine s_pu (pu_nilCheck_if rfl) ?_
  first | refine s_pu (pu_fieldAddr0 rfl) ?_ | refine s_pu (pu_fieldAddr rfl) ?_
  refine s_rd (rd_load rfl rfl) ?_
  refine s_pu (pu_len rfl) ?_
  refine s_pu (pu_sub_as (es.length : Int) rfl rfl (by omega) (by omega) (by omega)) ?_
  refine s_pu (pu_assign rfl) ?_
  refine swl_sub _ (.cons (t := 0) rfl (.cons (t := 4) rfl .nil)) ?_
  refine swl_own (by repeat (first | with_reducible exact Take.here | apply Take.there)) (fun h _ _ => by cases h) (fun hb cap' ex hv h1 h2 h3 h4 => ?_)
  cases hv
  have hlen : (es ++ [(x, nxt)]).length = es.length + 1 := by simp
  refine swl_nil ?_
  refine then_n ?_
  refine swp_block ?_
  refine swp_loop (ι := Nat × List (WI × Nat)) (fun k env L => env = [(0, .pointer (some ⟨q, 0, none⟩)), (4, .int .i64 (k.1 : Nat))] ∧
    L = [blk g 133 (wents k.2 ++ ex), blk q 121 [.slice (some ⟨g, 0, none⟩) (es.length + 1) cap, .int .u64 ((nxt + 1 : Nat) : Int)]] ∧
    k.2.length = es.length + 1 ∧ k.1 ≤ es.length ∧ Hp.up aW k.1 k.2 k.1 = Hp.up aW es.length (es ++ [(x, nxt)]) es.length) (fun k => k.1) (es.length, es ++ [(x, nxt)]) ⟨rfl, rfl, hlen, Nat.le_refl _, rfl⟩ ?_
  rintro ⟨i, fs⟩ env L ⟨rfl, rfl, hl, hi, hup⟩
  simp only [] at hl hi hup
  dsimp only
  refine swp_seq ?_
  refine swp_seq ?_
  refine swp_region ?_
  refine s_pu (pu_move rfl) ?_
  refine s_pu (pu_gtr rfl rfl) ?_
  refine swl_sub _ (.cons (t := 0) rfl (.cons (t := 4) rfl (.cons (t := 37) rfl .nil))) ?_
  refine swl_nil ?_
  refine then_n ?_
  refine swp_cond (b := _) rfl (fun h37 => ?_) (fun h37 => ?_)
  · skip   -- 37 T
    have h37' : 0 < i := by simpa using h37
    obtain ⟨ei, hei⟩ : ∃ e, fs[i]? = some e := ⟨_, List.getElem?_eq_getElem (by omega)⟩
    obtain ⟨ep, hep⟩ : ∃ e, fs[(i - 1) / 2]? = some e := ⟨_, List.getElem?_eq_getElem (by omega)⟩
    refine swp_skip ?_
    refine then_n ?_
    refine swp_block ?_
    refine swp_seq ?_
    refine swp_region ?_
    refine s_pu (pu_move rfl) ?_
    first | refine s_pu (pu_sub_in rfl rfl (by omega) (by omega)) ?_ | refine s_pu (pu_sub rfl rfl) ?_
    refine s_pu (pu_quo_as (((i - 1) / 2 : Nat) : Int) rfl rfl (by omega) (by omega) (by omega) (by omega)) ?_
    refine s_pu (pu_assign rfl) ?_
    refine swl_sub _ (.cons (t := 0) rfl (.cons (t := 4) rfl (.cons (t := 5) rfl .nil))) ?_
    refine swl_nil ?_
    refine then_n ?_
    refine swp_seq ?_
    refine swp_seq ?_
    refine swp_draw [3, 6, 10, 13] _ [] (by simp only [List.append_nil]; exact Ent.refl _) (by kernel_rfl) ?_
    refine d_pu 0 rfl (pu_move rfl) (by kernel_rfl) (by kernel_rfl) (by kernel_rfl) ?_
    first | refine d_pu 1 rfl (pu_nilCheck rfl) (by kernel_rfl) (by kernel_rfl) (by kernel_rfl) ?_ | refine d_pu 1 rfl (pu_nilCheck_fn rfl) (by kernel_rfl) (by kernel_rfl) (by kernel_rfl) ?_ | refine d_pu 1 rfl (pu_nilCheck_if rfl) (by kernel_rfl) (by kernel_rfl) (by kernel_rfl) ?_
    first | refine d_pu 2 rfl (pu_fieldAddr0 rfl) (by kernel_rfl) (by kernel_rfl) (by kernel_rfl) ?_ | refine d_pu 2 rfl (pu_fieldAddr rfl) (by kernel_rfl) (by kernel_rfl) (by kernel_rfl) ?_
    refine d_rd 3 rfl (rd_load rfl rfl) rfl (by kernel_rfl) (by kernel_rfl) (by kernel_rfl) ?_
    refine d_pu 4 rfl (pu_move rfl) (by kernel_rfl) (by kernel_rfl) (by kernel_rfl) ?_
    refine d_pu 5 rfl (pu_indexAddr (i * 2) rfl rfl (by omega) (by omega) (by simp)) (by kernel_rfl) (by kernel_rfl) (by kernel_rfl) ?_
    refine d_rd 6 rfl (rd_loadA (vs := wcs ei) rfl (by rfl) (flat_get wcs_len fs ex i ei hei)) rfl (by kernel_rfl) (by kernel_rfl) (by kernel_rfl) ?_
    refine d_pu 7 rfl (pu_move rfl) (by kernel_rfl) (by kernel_rfl) (by kernel_rfl) ?_
    first | refine d_pu 8 rfl (pu_nilCheck rfl) (by kernel_rfl) (by kernel_rfl) (by kernel_rfl) ?_ | refine d_pu 8 rfl (pu_nilCheck_fn rfl) (by kernel_rfl) (by kernel_rfl) (by kernel_rfl) ?_ | refine d_pu 8 rfl (pu_nilCheck_if rfl) (by kernel_rfl) (by kernel_rfl) (by kernel_rfl) ?_
    first | refine d_pu 9 rfl (pu_fieldAddr0 rfl) (by kernel_rfl) (by kernel_rfl) (by kernel_rfl) ?_ | refine d_pu 9 rfl (pu_fieldAddr rfl) (by kernel_rfl) (by kernel_rfl) (by kernel_rfl) ?_
    refine d_rd 10 rfl (rd_load rfl rfl) rfl (by kernel_rfl) (by kernel_rfl) (by kernel_rfl) ?_
    refine d_pu 11 rfl (pu_move rfl) (by kernel_rfl) (by kernel_rfl) (by kernel_rfl) ?_
    refine d_pu 12 rfl (pu_indexAddr ((i - 1) / 2 * 2) rfl rfl (by omega) (by omega) (by omega)) (by kernel_rfl) (by kernel_rfl) (by kernel_rfl) ?_
    refine d_rd 13 rfl (rd_loadA (vs := wcs ep) rfl (by rfl) (flat_get wcs_len fs ex ((i - 1) / 2) ep hep)) rfl (by kernel_rfl) (by kernel_rfl) (by kernel_rfl) ?_
    first | refine d_fint 14 rfl (by kernel_rfl) (by kernel_rfl) (ef_fn (ahead_w _ _ _ _) rfl rfl (by repeat (first | exact Split.nil | (apply Split.cons; (repeat (first | with_reducible exact Take.here | apply Take.there)))))) ?_ | refine d_finf 14 rfl (by kernel_rfl) (by kernel_rfl) (ef_fn (ahead_w _ _ _ _) rfl rfl (by repeat (first | exact Split.nil | (apply Split.cons; (repeat (first | with_reducible exact Take.here | apply Take.there)))))) ?_
    rintro v L1 ⟨rfl, rfl⟩
    refine swd_app ?_
    refine d_pu 15 rfl (pu_not rfl) (by kernel_rfl) (by kernel_rfl) (by kernel_rfl) ?_
    refine d_sub _ (.cons (t := 0) rfl (.cons (t := 4) rfl (.cons (t := 5) rfl (.cons (t := 56) rfl .nil)))) ?_
    first | refine d_nilt (by kernel_rfl) ?_ | refine d_nilf (by kernel_rfl) ?_
    refine then_n ?_
    refine swp_cond (b := _) rfl (fun h56 => ?_) (fun h56 => ?_)
    · skip   -- 56 T
      have hT : Hp.up aW es.length (es ++ [(x, nxt)]) es.length = fs := by
        rw [← hup]; exact Hp.up_stop hei hep (not_t h56)
      refine swp_ret ?_
      refine then_r ?_
      refine block_r ?_
      refine then_r ?_
      refine block_r ?_
      rw [hT]
      have hl' : fs.length = es.length + 1 := hl
      rw [← hl'] at h1 h4 ⊢
      first | exact done_retE [wraw q fs (nxt + 1)] .nil ⟨rfl, rfl⟩ ((Split.ent' (K := [blk g 133 (wents fs ++ ex), blk q 121 [.slice (some ⟨g, 0, none⟩) fs.length cap, .int .u64 ((nxt + 1 : Nat) : Int)]]) (by repeat (first | exact Split.nil | (apply Split.cons; (repeat (first | with_reducible exact Take.here | apply Take.there)))))).trans (wraw_close h1 h2 h4)) | exact done_endE [wraw q fs (nxt + 1)] .nil ⟨rfl, rfl⟩ ((Split.ent' (K := [blk g 133 (wents fs ++ ex), blk q 121 [.slice (some ⟨g, 0, none⟩) fs.length cap, .int .u64 ((nxt + 1 : Nat) : Int)]]) (by repeat (first | exact Split.nil | (apply Split.cons; (repeat (first | with_reducible exact Take.here | apply Take.there)))))).trans (wraw_close h1 h2 h4))
    · skip   -- 56 F
      have hel : (wents fs).length = (es.length + 1) * 2 := by rw [wents_len, hl]
      refine swp_skip ?_
      refine then_n ?_
      refine swp_seq ?_
      refine swp_draw [3, 8, 13, 16, 20, 23] _ [] (by simp only [List.append_nil]; exact Ent.refl _) (by kernel_rfl) ?_
      refine d_pu 0 rfl (pu_move rfl) (by kernel_rfl) (by kernel_rfl) (by kernel_rfl) ?_
      first | refine d_pu 1 rfl (pu_nilCheck rfl) (by kernel_rfl) (by kernel_rfl) (by kernel_rfl) ?_ | refine d_pu 1 rfl (pu_nilCheck_fn rfl) (by kernel_rfl) (by kernel_rfl) (by kernel_rfl) ?_ | refine d_pu 1 rfl (pu_nilCheck_if rfl) (by kernel_rfl) (by kernel_rfl) (by kernel_rfl) ?_
      first | refine d_pu 2 rfl (pu_fieldAddr0 rfl) (by kernel_rfl) (by kernel_rfl) (by kernel_rfl) ?_ | refine d_pu 2 rfl (pu_fieldAddr rfl) (by kernel_rfl) (by kernel_rfl) (by kernel_rfl) ?_
      refine d_rd 3 rfl (rd_load rfl rfl) rfl (by kernel_rfl) (by kernel_rfl) (by kernel_rfl) ?_
      refine d_pu 4 rfl (pu_move rfl) (by kernel_rfl) (by kernel_rfl) (by kernel_rfl) ?_
      refine d_pu 5 rfl (pu_move rfl) (by kernel_rfl) (by kernel_rfl) (by kernel_rfl) ?_
      first | refine d_pu 6 rfl (pu_nilCheck rfl) (by kernel_rfl) (by kernel_rfl) (by kernel_rfl) ?_ | refine d_pu 6 rfl (pu_nilCheck_fn rfl) (by kernel_rfl) (by kernel_rfl) (by kernel_rfl) ?_ | refine d_pu 6 rfl (pu_nilCheck_if rfl) (by kernel_rfl) (by kernel_rfl) (by kernel_rfl) ?_
      first | refine d_pu 7 rfl (pu_fieldAddr0 rfl) (by kernel_rfl) (by kernel_rfl) (by kernel_rfl) ?_ | refine d_pu 7 rfl (pu_fieldAddr rfl) (by kernel_rfl) (by kernel_rfl) (by kernel_rfl) ?_
      refine d_rd 8 rfl (rd_load rfl rfl) rfl (by kernel_rfl) (by kernel_rfl) (by kernel_rfl) ?_
      refine d_pu 9 rfl (pu_move rfl) (by kernel_rfl) (by kernel_rfl) (by kernel_rfl) ?_
      refine d_pu 10 rfl (pu_move rfl) (by kernel_rfl) (by kernel_rfl) (by kernel_rfl) ?_
      first | refine d_pu 11 rfl (pu_nilCheck rfl) (by kernel_rfl) (by kernel_rfl) (by kernel_rfl) ?_ | refine d_pu 11 rfl (pu_nilCheck_fn rfl) (by kernel_rfl) (by kernel_rfl) (by kernel_rfl) ?_ | refine d_pu 11 rfl (pu_nilCheck_if rfl) (by kernel_rfl) (by kernel_rfl) (by kernel_rfl) ?_
      first | refine d_pu 12 rfl (pu_fieldAddr0 rfl) (by kernel_rfl) (by kernel_rfl) (by kernel_rfl) ?_ | refine d_pu 12 rfl (pu_fieldAddr rfl) (by kernel_rfl) (by kernel_rfl) (by kernel_rfl) ?_
      refine d_rd 13 rfl (rd_load rfl rfl) rfl (by kernel_rfl) (by kernel_rfl) (by kernel_rfl) ?_
      refine d_pu 14 rfl (pu_move rfl) (by kernel_rfl) (by kernel_rfl) (by kernel_rfl) ?_
      refine d_pu 15 rfl (pu_indexAddr ((i - 1) / 2 * 2) rfl rfl (by omega) (by omega) (by omega)) (by kernel_rfl) (by kernel_rfl) (by kernel_rfl) ?_
      refine d_rd 16 rfl (rd_loadA (vs := wcs ep) rfl (by rfl) (flat_get wcs_len fs ex ((i - 1) / 2) ep hep)) rfl (by kernel_rfl) (by kernel_rfl) (by kernel_rfl) ?_
      refine d_pu 17 rfl (pu_move rfl) (by kernel_rfl) (by kernel_rfl) (by kernel_rfl) ?_
      first | refine d_pu 18 rfl (pu_nilCheck rfl) (by kernel_rfl) (by kernel_rfl) (by kernel_rfl) ?_ | refine d_pu 18 rfl (pu_nilCheck_fn rfl) (by kernel_rfl) (by kernel_rfl) (by kernel_rfl) ?_ | refine d_pu 18 rfl (pu_nilCheck_if rfl) (by kernel_rfl) (by kernel_rfl) (by kernel_rfl) ?_
      first | refine d_pu 19 rfl (pu_fieldAddr0 rfl) (by kernel_rfl) (by kernel_rfl) (by kernel_rfl) ?_ | refine d_pu 19 rfl (pu_fieldAddr rfl) (by kernel_rfl) (by kernel_rfl) (by kernel_rfl) ?_
      refine d_rd 20 rfl (rd_load rfl rfl) rfl (by kernel_rfl) (by kernel_rfl) (by kernel_rfl) ?_
      refine d_pu 21 rfl (pu_move rfl) (by kernel_rfl) (by kernel_rfl) (by kernel_rfl) ?_
      refine d_pu 22 rfl (pu_indexAddr (i * 2) rfl rfl (by omega) (by omega) (by omega)) (by kernel_rfl) (by kernel_rfl) (by kernel_rfl) ?_
      refine d_rd 23 rfl (rd_loadA (vs := wcs ei) rfl (by rfl) (flat_get wcs_len fs ex i ei hei)) rfl (by kernel_rfl) (by kernel_rfl) (by kernel_rfl) ?_
      refine d_pu 24 rfl (pu_indexAddr (i * 2) rfl rfl (by omega) (by omega) (by omega)) (by kernel_rfl) (by kernel_rfl) (by kernel_rfl) ?_
      first | refine d_fin0t 25 rfl (by kernel_rfl) (by kernel_rfl) (ef_storeAs (vs := wcs ep) rfl rfl (flat_over wcs_len fs ex i ep (by omega)) (by rw [List.length_append, ← wents, hel, wcs_len]; omega) rfl rfl) ?_ | refine d_fin0f 25 rfl (by kernel_rfl) (by kernel_rfl) (ef_storeAs (vs := wcs ep) rfl rfl (flat_over wcs_len fs ex i ep (by omega)) (by rw [List.length_append, ← wents, hel, wcs_len]; omega) rfl rfl) ?_
      refine d_pu 26 rfl (pu_indexAddr ((i - 1) / 2 * 2) rfl rfl (by omega) (by omega) (by omega)) (by kernel_rfl) (by kernel_rfl) (by kernel_rfl) ?_
      first | refine d_fin0t 27 rfl (by kernel_rfl) (by kernel_rfl) (ef_storeAs (vs := wcs ei) rfl rfl (flat_over wcs_len (fs.set i ep) ex ((i - 1) / 2) ei (by simp; omega)) (by rw [List.length_append, flat_length wcs_len, wcs_len, List.length_set]; omega) rfl rfl) ?_ | refine d_fin0f 27 rfl (by kernel_rfl) (by kernel_rfl) (ef_storeAs (vs := wcs ei) rfl rfl (flat_over wcs_len (fs.set i ep) ex ((i - 1) / 2) ei (by simp; omega)) (by rw [List.length_append, flat_length wcs_len, wcs_len, List.length_set]; omega) rfl rfl) ?_
      refine d_sub _ (.cons (t := 0) rfl (.cons (t := 5) rfl .nil)) ?_
      first | refine d_nilt (by kernel_rfl) ?_ | refine d_nilf (by kernel_rfl) ?_
      refine then_n ?_
      refine swp_region ?_
      refine s_pu (pu_move rfl) ?_
      refine s_pu (pu_assign rfl) ?_
      refine swl_sub _ (.cons (t := 0) rfl (.cons (t := 4) rfl .nil)) ?_
      refine swl_nil ?_
      refine block_n ?_
      refine then_n ⟨((i - 1) / 2, (fs.set i ep).set ((i - 1) / 2) ei), ⟨rfl, rfl, by simp [hl], by show (i - 1) / 2 ≤ es.length; omega, ?_⟩, by show (i - 1) / 2 < i; omega⟩
      rw [← hup, Hp.up_step h37' hei hep (not_f h56)]
  · skip   -- 37 F
    obtain rfl : i = 0 := by simp at h37; omega
    have hT : Hp.up aW es.length (es ++ [(x, nxt)]) es.length = fs := by rw [← hup]; rfl
    refine swp_exit ?_
    refine then_x ?_
    refine then_x ?_
    refine block_hit rfl ?_
    rw [hT]
    have hl' : fs.length = es.length + 1 := hl
    rw [← hl'] at h1 h4 ⊢
    first | exact done_retE [wraw q fs (nxt + 1)] .nil ⟨rfl, rfl⟩ ((Split.ent' (K := [blk g 133 (wents fs ++ ex), blk q 121 [.slice (some ⟨g, 0, none⟩) fs.length cap, .int .u64 ((nxt + 1 : Nat) : Int)]]) (by repeat (first | exact Split.nil | (apply Split.cons; (repeat (first | with_reducible exact Take.here | apply Take.there)))))).trans (wraw_close h1 h2 h4)) | exact done_endE [wraw q fs (nxt + 1)] .nil ⟨rfl, rfl⟩ ((Split.ent' (K := [blk g 133 (wents fs ++ ex), blk q 121 [.slice (some ⟨g, 0, none⟩) fs.length cap, .int .u64 ((nxt + 1 : Nat) : Int)]]) (by repeat (first | exact Split.nil | (apply Split.cons; (repeat (first | with_reducible exact Take.here | apply Take.there)))))).trans (wraw_close h1 h2 h4))
end SX.Bq
namespace SX.Bq
open Go Go.Proofs SX

/-- the best so far, behind j children -/
def bestTo (es : List (WI × Nat)) (i : Nat) : Nat → Nat
  | 0 => i
  | 1 => Hp.better aW es (2 * i + 1) i
  | _ => Hp.best aW es i
theorem bestTo_lt {es : List (WI × Nat)} {i : Nat} (hi : i < es.length) : ∀ j, bestTo es i j < es.length := by
  have hb : ∀ k m, m < es.length → Hp.better aW es k m < es.length := fun k m hm => by
    rcases Hp.better_cases (ah := aW) es k m with ⟨e, _⟩ | ⟨e, a, b, ha, _⟩
    · rw [e]; exact hm
    · rw [e]; exact (List.getElem?_eq_some_iff.1 ha).1
  intro j
  match j with
  | 0 => exact hi
  | 1 => exact hb _ _ hi
  | j + 2 => exact hb _ _ (hb _ _ hi)
theorem bestTo_succ {es : List (WI × Nat)} {i j : Nat} (hj : j < 2) : bestTo es i (j + 1) = Hp.better aW es (2 * i + 1 + j) (bestTo es i j) := by
  match j, hj with
  | 0, _ => rfl
  | 1, _ => rfl
theorem bestTo_end {es : List (WI × Nat)} {i j : Nat} (h : 2 ≤ j ∨ es.length ≤ 2 * i + 1 + j) : bestTo es i j = Hp.best aW es i := by
  have hn : ∀ k m, es.length ≤ k → Hp.better aW es k m = m := fun k m hk => by
    have : es[k]? = none := List.getElem?_eq_none_iff.2 hk
    simp [Hp.better, this]
  match j with
  | 0 =>
    have h' : es.length ≤ 2 * i + 1 := by omega
    show i = Hp.better aW es (2 * i + 2) (Hp.better aW es (2 * i + 1) i)
    rw [hn _ _ h', hn _ _ (by omega)]
  | 1 =>
    have h' : es.length ≤ 2 * i + 2 := by omega
    show Hp.better aW es (2 * i + 1) i = Hp.better aW es (2 * i + 2) (Hp.better aW es (2 * i + 1) i)
    rw [hn _ _ h']
  | j + 2 => rfl
theorem better_of {es : List (WI × Nat)} {k m : Nat} {a b : WI × Nat} (ha : es[k]? = some a) (hb : es[m]? = some b) : Hp.better aW es k m = if aW a b then k else m := by simp [Hp.better, ha, hb]

set_option maxHeartbeats 2000000 in
theorem sink_w (q g cap : Nat) (nx : Value) (es : List (WI × Nat)) (ex : List Value) (hb1 : es.length ≤ 1099511627776) :
    Spec Tryd.prog 97 [.pointer (some ⟨q, 0, none⟩)] [blk q 121 [.slice (some ⟨g, 0, none⟩) es.length cap, nx], blk g 133 (wents es ++ ex)]
      (fun v L => v = .tuple #[] ∧ L = [blk q 121 [.slice (some ⟨g, 0, none⟩) es.length cap, nx], blk g 133 (wents (Hp.down aW es.length es 0) ++ ex)]) := by
  refine Spec.of 71 Tryd.func97 rfl rfl rfl ?_
  refine swp_seq ?_
  refine swp_region ?_
  refine s_pu (pu_assign rfl) ?_
  refine swl_sub _ (.cons (t := 0) rfl (.cons (t := 2) rfl .nil)) ?_
  refine swl_nil ?_
  refine then_n ?_
  refine swp_block ?_
  refine swp_loop (ι := Nat × List (WI × Nat)) (fun k env L => env = [(0, .pointer (some ⟨q, 0, none⟩)), (2, .int .i64 (k.1 : Nat))] ∧
      L = [blk q 121 [.slice (some ⟨g, 0, none⟩) es.length cap, nx], blk g 133 (wents k.2 ++ ex)] ∧
      k.2.length = es.length ∧ (k.1 < es.length ∨ k.1 = 0) ∧ Hp.down aW es.length k.2 k.1 = Hp.down aW es.length es 0) (fun k => es.length - k.1) (0, es) ⟨rfl, rfl, rfl, .inr rfl, rfl⟩ ?_
  rintro ⟨i, fs⟩ env L ⟨rfl, rfl, hl, hi, hdn⟩
  simp only [] at hl hi hdn
  dsimp only
  refine swp_block ?_
  refine swp_seq ?_
  refine swp_region ?_
  refine s_pu (pu_move rfl) ?_
  refine s_pu (pu_assign rfl) ?_
  refine swl_sub _ (.cons (t := 0) rfl (.cons (t := 2) rfl (.cons (t := 3) rfl .nil))) ?_
  refine swl_nil ?_
  refine then_n ?_
  refine swp_cut (fun env L => env = [(0, .pointer (some ⟨q, 0, none⟩)), (2, .int .i64 (i : Nat)), (3, .int .i64 (Hp.best aW fs i : Nat))] ∧ L = [blk q 121 [.slice (some ⟨g, 0, none⟩) es.length cap, nx], blk g 133 (wents fs ++ ex)]) ?_ ?_
  · skip
    refine swp_seq ?_
    refine swp_region ?_
    refine s_pu (pu_move rfl) ?_
    first | refine s_pu (pu_mul_in rfl rfl (by omega) (by omega)) ?_ | refine s_pu (pu_mul rfl rfl) ?_
    refine s_pu (pu_add_as ((2 * i + 1 + 0 : Nat) : Int) rfl rfl (by omega) (by omega) (by omega)) ?_
    refine s_pu (pu_assign rfl) ?_
    refine swl_sub _ (.cons (t := 0) rfl (.cons (t := 2) rfl (.cons (t := 3) rfl (.cons (t := 4) rfl .nil)))) ?_
    refine swl_nil ?_
    refine then_n ?_
    refine swp_block ?_
    refine swp_loop (ι := Nat) (fun j env L => env = [(0, .pointer (some ⟨q, 0, none⟩)), (2, .int .i64 (i : Nat)), (3, .int .i64 (bestTo fs i j : Nat)), (4, .int .i64 ((2 * i + 1 + j : Nat) : Int))] ∧ j ≤ 2 ∧
       L = [blk q 121 [.slice (some ⟨g, 0, none⟩) es.length cap, nx], blk g 133 (wents fs ++ ex)]) (fun j => 2 - j) 0 ⟨rfl, by omega, rfl⟩ ?_
    rintro j env L ⟨rfl, hj, rfl⟩
    refine swp_seq ?_
    refine swp_seq ?_
    refine swp_region ?_
    refine s_pu (pu_move rfl) ?_
    refine s_pu (pu_move rfl) ?_
    first | refine s_pu (pu_mul_in rfl rfl (by omega) (by omega)) ?_ | refine s_pu (pu_mul rfl rfl) ?_
    first | refine s_pu (pu_add_in rfl rfl (by omega) (by omega)) ?_ | refine s_pu (pu_add rfl rfl) ?_
    refine s_pu (pu_leq rfl rfl) ?_
    refine s_pu (pu_move rfl) ?_
    refine s_split 14 rfl (fun h14 => ?_) (fun h14 => ?_)
    · skip   -- 14 T
      have h14' : j < 2 := by simp at h14; omega
      refine s_on rfl rfl ?_
      refine s_pu (pu_move rfl) ?_
      refine s_on rfl rfl ?_
      refine s_pu (pu_move rfl) ?_
      refine s_on rfl rfl ?_
      first | refine s_pu (pu_nilCheck rfl) ?_ | refine s_pu (pu_nilCheck_fn rfl) ?_ | refine s_pu (pu_nilCheck_if rfl) ?_
      refine s_on rfl rfl ?_
      first | refine s_pu (pu_fieldAddr0 rfl) ?_ | refine s_pu (pu_fieldAddr rfl) ?_
      refine s_on rfl rfl ?_
      refine s_rd (rd_load rfl rfl) ?_
      refine s_on rfl rfl ?_
      refine s_pu (pu_len rfl) ?_
      refine s_on rfl rfl ?_
      refine s_pu (pu_lss rfl rfl) ?_
      first | refine s_pu (pu_pick_t rfl rfl) ?_ | refine s_pu (pu_pick_f rfl rfl) ?_
      refine swl_sub _ (.cons (t := 0) rfl (.cons (t := 2) rfl (.cons (t := 3) rfl (.cons (t := 4) rfl (.cons (t := 22) rfl .nil))))) ?_
      refine swl_nil ?_
      refine then_n ?_
      refine swp_cond (b := _) rfl (fun h22 => ?_) (fun h22 => ?_)
      · skip   -- 22 T
        have h22' : 2 * i + 1 + j < es.length := by simp at h22; omega
        have hil : i < fs.length := by omega
        obtain ⟨ek, hek⟩ : ∃ e, fs[2 * i + 1 + j]? = some e := ⟨_, List.getElem?_eq_getElem (by omega)⟩
        have hfl := bestTo_lt hil j
        obtain ⟨ef, hef⟩ : ∃ e, fs[bestTo fs i j]? = some e := ⟨_, List.getElem?_eq_getElem hfl⟩
        have hsucc := bestTo_succ (es := fs) (i := i) h14'
        rw [better_of hek hef] at hsucc
        refine swp_skip ?_
        refine then_n ?_
        refine swp_seq ?_
        refine swp_block ?_
        refine swp_seq ?_
        refine swp_draw [3, 6, 10, 13] _ [] (by simp only [List.append_nil]; exact Ent.refl _) (by kernel_rfl) ?_
        refine d_pu 0 rfl (pu_move rfl) (by kernel_rfl) (by kernel_rfl) (by kernel_rfl) ?_
        first | refine d_pu 1 rfl (pu_nilCheck rfl) (by kernel_rfl) (by kernel_rfl) (by kernel_rfl) ?_ | refine d_pu 1 rfl (pu_nilCheck_fn rfl) (by kernel_rfl) (by kernel_rfl) (by kernel_rfl) ?_ | refine d_pu 1 rfl (pu_nilCheck_if rfl) (by kernel_rfl) (by kernel_rfl) (by kernel_rfl) ?_
        first | refine d_pu 2 rfl (pu_fieldAddr0 rfl) (by kernel_rfl) (by kernel_rfl) (by kernel_rfl) ?_ | refine d_pu 2 rfl (pu_fieldAddr rfl) (by kernel_rfl) (by kernel_rfl) (by kernel_rfl) ?_
        refine d_rd 3 rfl (rd_load rfl rfl) rfl (by kernel_rfl) (by kernel_rfl) (by kernel_rfl) ?_
        refine d_pu 4 rfl (pu_move rfl) (by kernel_rfl) (by kernel_rfl) (by kernel_rfl) ?_
        refine d_pu 5 rfl (pu_indexAddr ((2 * i + 1 + j) * 2) rfl rfl (by omega) (by omega) (by omega)) (by kernel_rfl) (by kernel_rfl) (by kernel_rfl) ?_
        refine d_rd 6 rfl (rd_loadA (vs := wcs ek) rfl (by rfl) (flat_get wcs_len fs ex _ ek hek)) rfl (by kernel_rfl) (by kernel_rfl) (by kernel_rfl) ?_
        refine d_pu 7 rfl (pu_move rfl) (by kernel_rfl) (by kernel_rfl) (by kernel_rfl) ?_
        first | refine d_pu 8 rfl (pu_nilCheck rfl) (by kernel_rfl) (by kernel_rfl) (by kernel_rfl) ?_ | refine d_pu 8 rfl (pu_nilCheck_fn rfl) (by kernel_rfl) (by kernel_rfl) (by kernel_rfl) ?_ | refine d_pu 8 rfl (pu_nilCheck_if rfl) (by kernel_rfl) (by kernel_rfl) (by kernel_rfl) ?_
        first | refine d_pu 9 rfl (pu_fieldAddr0 rfl) (by kernel_rfl) (by kernel_rfl) (by kernel_rfl) ?_ | refine d_pu 9 rfl (pu_fieldAddr rfl) (by kernel_rfl) (by kernel_rfl) (by kernel_rfl) ?_
        refine d_rd 10 rfl (rd_load rfl rfl) rfl (by kernel_rfl) (by kernel_rfl) (by kernel_rfl) ?_
        refine d_pu 11 rfl (pu_move rfl) (by kernel_rfl) (by kernel_rfl) (by kernel_rfl) ?_
        refine d_pu 12 rfl (pu_indexAddr (bestTo fs i j * 2) rfl rfl (by omega) (by omega) (by omega)) (by kernel_rfl) (by kernel_rfl) (by kernel_rfl) ?_
        refine d_rd 13 rfl (rd_loadA (vs := wcs ef) rfl (by rfl) (flat_get wcs_len fs ex _ ef hef)) rfl (by kernel_rfl) (by kernel_rfl) (by kernel_rfl) ?_
        first | refine d_fint 14 rfl (by kernel_rfl) (by kernel_rfl) (ef_fn (ahead_w _ _ _ _) rfl rfl (by repeat (first | exact Split.nil | (apply Split.cons; (repeat (first | with_reducible exact Take.here | apply Take.there)))))) ?_ | refine d_finf 14 rfl (by kernel_rfl) (by kernel_rfl) (ef_fn (ahead_w _ _ _ _) rfl rfl (by repeat (first | exact Split.nil | (apply Split.cons; (repeat (first | with_reducible exact Take.here | apply Take.there)))))) ?_
        rintro v L1 ⟨rfl, rfl⟩
        refine swd_app ?_
        refine d_sub _ (.cons (t := 0) rfl (.cons (t := 2) rfl (.cons (t := 3) rfl (.cons (t := 4) rfl (.cons (t := 39) rfl .nil))))) ?_
        first | refine d_nilt (by kernel_rfl) ?_ | refine d_nilf (by kernel_rfl) ?_
        refine then_n ?_
        refine swp_cond (b := _) rfl (fun h39 => ?_) (fun h39 => ?_)
        · skip   -- 39 T
          rw [if_pos h39] at hsucc
          refine swp_region ?_
          refine s_pu (pu_move rfl) ?_
          refine s_pu (pu_assign rfl) ?_
          refine swl_sub _ (.cons (t := 0) rfl (.cons (t := 2) rfl (.cons (t := 3) rfl (.cons (t := 4) rfl .nil)))) ?_
          refine swl_nil ?_
          refine block_n ?_
          refine then_n ?_
          refine swp_region ?_
          refine s_pu (pu_move rfl) ?_
          refine s_pu (pu_add_as ((2 * i + 1 + (j + 1) : Nat) : Int) rfl rfl (by omega) (by omega) (by omega)) ?_
          refine s_pu (pu_assign rfl) ?_
          refine swl_sub _ (.cons (t := 0) rfl (.cons (t := 2) rfl (.cons (t := 3) rfl (.cons (t := 4) rfl .nil)))) ?_
          refine swl_nil ?_
          refine then_n ⟨j + 1, ⟨?_, by omega, rfl⟩, by omega⟩
          rw [hsucc]
        · skip   -- 39 F
          rw [if_neg (by simp [h39])] at hsucc
          refine swp_skip ?_
          refine block_n ?_
          refine then_n ?_
          refine swp_region ?_
          refine s_pu (pu_move rfl) ?_
          refine s_pu (pu_add_as ((2 * i + 1 + (j + 1) : Nat) : Int) rfl rfl (by omega) (by omega) (by omega)) ?_
          refine s_pu (pu_assign rfl) ?_
          refine swl_sub _ (.cons (t := 0) rfl (.cons (t := 2) rfl (.cons (t := 3) rfl (.cons (t := 4) rfl .nil)))) ?_
          refine swl_nil ?_
          refine then_n ⟨j + 1, ⟨?_, by omega, rfl⟩, by omega⟩
          rw [hsucc]
      · skip   -- 22 F
        have hbe := bestTo_end (es := fs) (i := i) (j := j) (.inr (by simp at h22; omega))
        refine swp_sub _ (.cons (t := 0) rfl (.cons (t := 2) rfl (.cons (t := 3) rfl .nil))) ?_
        refine swp_exit ?_
        refine then_x ?_
        refine then_x ?_
        refine block_hit rfl ?_
        refine then_n ⟨?_, rfl⟩
        rw [hbe]
    · skip   -- 14 F
      refine s_off rfl rfl rfl ?_
      refine s_off rfl rfl rfl ?_
      refine s_off rfl rfl rfl ?_
      refine s_off rfl rfl rfl ?_
      refine s_off rfl rfl rfl ?_
      refine s_off rfl rfl rfl ?_
      refine s_off rfl rfl rfl ?_
      first | refine s_pu (pu_pick_t rfl rfl) ?_ | refine s_pu (pu_pick_f rfl rfl) ?_
      refine swl_sub _ (.cons (t := 0) rfl (.cons (t := 2) rfl (.cons (t := 3) rfl (.cons (t := 4) rfl (.cons (t := 22) rfl .nil))))) ?_
      refine swl_nil ?_
      refine then_n ?_
      refine swp_cond (b := _) rfl (fun h22 => by cases h22) (fun h22 => ?_)
      have hbe := bestTo_end (es := fs) (i := i) (j := j) (.inl (by simp at h14; omega))
      refine swp_sub _ (.cons (t := 0) rfl (.cons (t := 2) rfl (.cons (t := 3) rfl .nil))) ?_
      refine swp_exit ?_
      refine then_x ?_
      refine then_x ?_
      refine block_hit rfl ?_
      refine then_n ⟨?_, rfl⟩
      rw [hbe]
  rintro env L ⟨rfl, rfl⟩
  refine swp_seq ?_
  refine swp_seq ?_
  refine swp_region ?_
  refine s_pu (pu_move rfl) ?_
  refine s_pu (pu_move rfl) ?_
  refine s_pu (pu_eql rfl rfl) ?_
  refine swl_sub _ (.cons (t := 0) rfl (.cons (t := 2) rfl (.cons (t := 3) rfl (.cons (t := 43) rfl .nil)))) ?_
  refine swl_nil ?_
  refine then_n ?_
  refine swp_cond (b := _) rfl (fun h43 => ?_) (fun h43 => ?_)
  · skip   -- 43 T
    have hbi : Hp.best aW fs i = i := by simp at h43; omega
    refine swp_ret ?_
    refine then_r ?_
    refine block_r ?_
    refine then_r ?_
    refine block_r ?_
    rw [← hdn, Hp.down_stop hbi]
    exact done_ret _ .nil ⟨rfl, rfl⟩ (by repeat (first | exact Split.nil | (apply Split.cons; (repeat (first | with_reducible exact Take.here | apply Take.there)))))
  · skip   -- 43 F
    have hbi : Hp.best aW fs i ≠ i := by simp at h43; omega
    have hgt := Hp.best_gt hbi
    obtain ⟨ei, hei⟩ : ∃ e, fs[i]? = some e := ⟨_, List.getElem?_eq_getElem (by omega)⟩
    obtain ⟨ep, hep⟩ : ∃ e, fs[Hp.best aW fs i]? = some e := ⟨_, List.getElem?_eq_getElem hgt.2⟩
    rw [Hp.down_step (by omega) hbi hei hep] at hdn
    generalize Hp.best aW fs i = p at *
    have hel : (wents fs).length = es.length * 2 := by rw [wents_len, hl]
    refine swp_skip ?_
    refine then_n ?_
    refine swp_seq ?_
    refine swp_draw [3, 8, 13, 16, 20, 23] _ [] (by simp only [List.append_nil]; exact Ent.refl _) (by kernel_rfl) ?_
    refine d_pu 0 rfl (pu_move rfl) (by kernel_rfl) (by kernel_rfl) (by kernel_rfl) ?_
    first | refine d_pu 1 rfl (pu_nilCheck rfl) (by kernel_rfl) (by kernel_rfl) (by kernel_rfl) ?_ | refine d_pu 1 rfl (pu_nilCheck_fn rfl) (by kernel_rfl) (by kernel_rfl) (by kernel_rfl) ?_ | refine d_pu 1 rfl (pu_nilCheck_if rfl) (by kernel_rfl) (by kernel_rfl) (by kernel_rfl) ?_
    first | refine d_pu 2 rfl (pu_fieldAddr0 rfl) (by kernel_rfl) (by kernel_rfl) (by kernel_rfl) ?_ | refine d_pu 2 rfl (pu_fieldAddr rfl) (by kernel_rfl) (by kernel_rfl) (by kernel_rfl) ?_
    refine d_rd 3 rfl (rd_load rfl rfl) rfl (by kernel_rfl) (by kernel_rfl) (by kernel_rfl) ?_
    refine d_pu 4 rfl (pu_move rfl) (by kernel_rfl) (by kernel_rfl) (by kernel_rfl) ?_
    refine d_pu 5 rfl (pu_move rfl) (by kernel_rfl) (by kernel_rfl) (by kernel_rfl) ?_
    first | refine d_pu 6 rfl (pu_nilCheck rfl) (by kernel_rfl) (by kernel_rfl) (by kernel_rfl) ?_ | refine d_pu 6 rfl (pu_nilCheck_fn rfl) (by kernel_rfl) (by kernel_rfl) (by kernel_rfl) ?_ | refine d_pu 6 rfl (pu_nilCheck_if rfl) (by kernel_rfl) (by kernel_rfl) (by kernel_rfl) ?_
    first | refine d_pu 7 rfl (pu_fieldAddr0 rfl) (by kernel_rfl) (by kernel_rfl) (by kernel_rfl) ?_ | refine d_pu 7 rfl (pu_fieldAddr rfl) (by kernel_rfl) (by kernel_rfl) (by kernel_rfl) ?_
    refine d_rd 8 rfl (rd_load rfl rfl) rfl (by kernel_rfl) (by kernel_rfl) (by kernel_rfl) ?_
    refine d_pu 9 rfl (pu_move rfl) (by kernel_rfl) (by kernel_rfl) (by kernel_rfl) ?_
    refine d_pu 10 rfl (pu_move rfl) (by kernel_rfl) (by kernel_rfl) (by kernel_rfl) ?_
    first | refine d_pu 11 rfl (pu_nilCheck rfl) (by kernel_rfl) (by kernel_rfl) (by kernel_rfl) ?_ | refine d_pu 11 rfl (pu_nilCheck_fn rfl) (by kernel_rfl) (by kernel_rfl) (by kernel_rfl) ?_ | refine d_pu 11 rfl (pu_nilCheck_if rfl) (by kernel_rfl) (by kernel_rfl) (by kernel_rfl) ?_
    first | refine d_pu 12 rfl (pu_fieldAddr0 rfl) (by kernel_rfl) (by kernel_rfl) (by kernel_rfl) ?_ | refine d_pu 12 rfl (pu_fieldAddr rfl) (by kernel_rfl) (by kernel_rfl) (by kernel_rfl) ?_
    refine d_rd 13 rfl (rd_load rfl rfl) rfl (by kernel_rfl) (by kernel_rfl) (by kernel_rfl) ?_
    refine d_pu 14 rfl (pu_move rfl) (by kernel_rfl) (by kernel_rfl) (by kernel_rfl) ?_
    refine d_pu 15 rfl (pu_indexAddr (p * 2) rfl rfl (by omega) (by omega) (by omega)) (by kernel_rfl) (by kernel_rfl) (by kernel_rfl) ?_
    refine d_rd 16 rfl (rd_loadA (vs := wcs ep) rfl (by rfl) (flat_get wcs_len fs ex p ep hep)) rfl (by kernel_rfl) (by kernel_rfl) (by kernel_rfl) ?_
    refine d_pu 17 rfl (pu_move rfl) (by kernel_rfl) (by kernel_rfl) (by kernel_rfl) ?_
    first | refine d_pu 18 rfl (pu_nilCheck rfl) (by kernel_rfl) (by kernel_rfl) (by kernel_rfl) ?_ | refine d_pu 18 rfl (pu_nilCheck_fn rfl) (by kernel_rfl) (by kernel_rfl) (by kernel_rfl) ?_ | refine d_pu 18 rfl (pu_nilCheck_if rfl) (by kernel_rfl) (by kernel_rfl) (by kernel_rfl) ?_
    first | refine d_pu 19 rfl (pu_fieldAddr0 rfl) (by kernel_rfl) (by kernel_rfl) (by kernel_rfl) ?_ | refine d_pu 19 rfl (pu_fieldAddr rfl) (by kernel_rfl) (by kernel_rfl) (by kernel_rfl) ?_
    refine d_rd 20 rfl (rd_load rfl rfl) rfl (by kernel_rfl) (by kernel_rfl) (by kernel_rfl) ?_
    refine d_pu 21 rfl (pu_move rfl) (by kernel_rfl) (by kernel_rfl) (by kernel_rfl) ?_
    refine d_pu 22 rfl (pu_indexAddr (i * 2) rfl rfl (by omega) (by omega) (by omega)) (by kernel_rfl) (by kernel_rfl) (by kernel_rfl) ?_
    refine d_rd 23 rfl (rd_loadA (vs := wcs ei) rfl (by rfl) (flat_get wcs_len fs ex i ei hei)) rfl (by kernel_rfl) (by kernel_rfl) (by kernel_rfl) ?_
    refine d_pu 24 rfl (pu_indexAddr (i * 2) rfl rfl (by omega) (by omega) (by omega)) (by kernel_rfl) (by kernel_rfl) (by kernel_rfl) ?_
    first | refine d_fin0t 25 rfl (by kernel_rfl) (by kernel_rfl) (ef_storeAs (vs := wcs ep) rfl rfl (flat_over wcs_len fs ex i ep (by omega)) (by rw [List.length_append, ← wents, hel, wcs_len]; omega) rfl rfl) ?_ | refine d_fin0f 25 rfl (by kernel_rfl) (by kernel_rfl) (ef_storeAs (vs := wcs ep) rfl rfl (flat_over wcs_len fs ex i ep (by omega)) (by rw [List.length_append, ← wents, hel, wcs_len]; omega) rfl rfl) ?_
    refine d_pu 26 rfl (pu_indexAddr (p * 2) rfl rfl (by omega) (by omega) (by omega)) (by kernel_rfl) (by kernel_rfl) (by kernel_rfl) ?_
    first | refine d_fin0t 27 rfl (by kernel_rfl) (by kernel_rfl) (ef_storeAs (vs := wcs ei) rfl rfl (flat_over wcs_len (fs.set i ep) ex p ei (by simp; omega)) (by rw [List.length_append, flat_length wcs_len, wcs_len, List.length_set]; omega) rfl rfl) ?_ | refine d_fin0f 27 rfl (by kernel_rfl) (by kernel_rfl) (ef_storeAs (vs := wcs ei) rfl rfl (flat_over wcs_len (fs.set i ep) ex p ei (by simp; omega)) (by rw [List.length_append, flat_length wcs_len, wcs_len, List.length_set]; omega) rfl rfl) ?_
    refine d_sub _ (.cons (t := 0) rfl (.cons (t := 3) rfl .nil)) ?_
    first | refine d_nilt (by kernel_rfl) ?_ | refine d_nilf (by kernel_rfl) ?_
    refine then_n ?_
    refine swp_region ?_
    refine s_pu (pu_move rfl) ?_
    refine s_pu (pu_assign rfl) ?_
    refine swl_sub _ (.cons (t := 0) rfl (.cons (t := 2) rfl .nil)) ?_
    refine swl_nil ?_
    refine block_n ?_
    exact then_n ⟨(p, (fs.set i ep).set p ei), ⟨rfl, rfl, by simp [hl], .inl (by show p < es.length; omega), hdn⟩, by show es.length - p < es.length - i; omega⟩
end SX.Bq
namespace SX.Bq
open Go Go.Proofs SX

theorem wraw_fold {q nxt : Nat} {v : Value} {es : List (WI × Nat)} {L : List Assn} : Ent (blk q 121 [v, .int .u64 (nxt : Nat)] :: own 133 2 v es.length (wents es) :: L) (wraw q es nxt :: L) :=
  ent_ex (F := fun v => [blk q 121 [v, .int .u64 (nxt : Nat)], own 133 2 v es.length (wents es)]) v (by repeat (first | exact Split.nil | (apply Split.cons; (repeat (first | with_reducible exact Take.here | apply Take.there)))))
theorem len_w (q : Nat) (es : List (WI × Nat)) (nxt : Nat) : Spec Tryd.prog 98 [.pointer (some ⟨q, 0, none⟩)] [wraw q es nxt] (fun v L => v = .int .i64 es.length ∧ L = [wraw q es nxt]) := by
  refine Spec.of 10 Tryd.func98 rfl rfl rfl ?_
  refine swp_ex fun v => ?_
  refine swp_app ?_
  refine swp_front (A := own 133 2 v es.length (wents es)) (by repeat (first | with_reducible exact Take.here | apply Take.there)) ?_
  refine swp_fact (fun m h => own_form h) fun ⟨A, cap, hv⟩ => ?_
  subst hv
  refine swp_seq ?_
  refine swp_region ?_
  refine s_pu (pu_assign rfl) ?_
  refine swl_sub _ (.cons (t := 0) rfl .nil) ?_
  refine swl_nil ?_
  refine then_n ?_
  refine swp_seq ?_
  refine swp_seq ?_
  refine swp_region ?_
  refine s_pu (pu_move rfl) ?_
  refine s_pu (pu_ptr_eq_nil rfl rfl) ?_
  refine swl_sub _ (.cons (t := 0) rfl (.cons (t := 4) rfl .nil)) ?_
  refine swl_nil ?_
  refine then_n ?_
  refine swp_cond (b := _) rfl (fun h4 => by cases h4) (fun h4 => ?_)
  refine swp_skip ?_
  refine then_n ?_
  refine swp_seq ?_
  refine swp_region ?_
  refine s_pu (pu_move rfl) ?_
  first | refine s_pu (pu_nilCheck rfl) ?_ | refine s_pu (pu_nilCheck_fn rfl) ?_ | refine s_pu (pu_nilCheck_if rfl) ?_
  first | refine s_pu (pu_fieldAddr0 rfl) ?_ | refine s_pu (pu_fieldAddr rfl) ?_
  refine s_rd (rd_load rfl rfl) ?_
  refine s_pu (pu_len rfl) ?_
  refine s_pu (pu_assign rfl) ?_
  refine swl_sub _ (.cons (t := 2) rfl .nil) ?_
  refine swl_nil ?_
  refine then_n ?_
  refine swp_ret ?_
  exact done_retE [wraw q es nxt] (.tmp rfl .nil) ⟨rfl, rfl⟩ ((Split.ent' (K := [blk q 121 [.slice A es.length cap, .int .u64 (nxt : Nat)], own 133 2 (.slice A es.length cap) es.length (wents es)]) (by repeat (first | exact Split.nil | (apply Split.cons; (repeat (first | with_reducible exact Take.here | apply Take.there)))))).trans wraw_fold)
theorem peek_w0 (q nxt : Nat) : Spec Tryd.prog 96 [.pointer (some ⟨q, 0, none⟩)] [wraw q [] nxt] (fun v L => v = .tuple #[wiV wiZ, .bool false] ∧ L = [wraw q [] nxt]) := by
  refine Spec.of 16 Tryd.func96 rfl rfl rfl ?_
  refine swp_seq ?_
  refine swp_region ?_
  refine s_pu (pu_assign rfl) ?_
  refine s_pu (pu_assign rfl) ?_
  refine swl_sub _ (.cons (t := 0) rfl .nil) ?_
  refine swl_nil ?_
  refine then_n ?_
  refine swp_seq ?_
  refine swp_seq ?_
  refine swp_region ?_
  refine s_pu (pu_move rfl) ?_
  refine s_ef (ef_fn (len_w q [] nxt) rfl rfl (by repeat (first | exact Split.nil | (apply Split.cons; (repeat (first | with_reducible exact Take.here | apply Take.there)))))) ?_
  rintro v L1 ⟨rfl, rfl⟩
  refine swl_app ?_
  refine s_pu (pu_eql rfl rfl) ?_
  refine swl_sub _ (.cons (t := 0) rfl (.cons (t := 7) rfl .nil)) ?_
  refine swl_nil ?_
  refine then_n ?_
  refine swp_cond (b := _) rfl (fun h7 => ?_) (fun h7 => by simp at h7)
  refine swp_seq ?_
  refine swp_region ?_
  refine s_pu (pu_assign rfl) ?_
  refine swl_sub _ (.cons (t := 4) rfl .nil) ?_
  refine swl_nil ?_
  refine then_n ?_
  refine swp_seq ?_
  refine swp_region ?_
  refine s_pu (pu_move rfl) ?_
  refine s_pu (pu_assign rfl) ?_
  refine s_pu (pu_assign rfl) ?_
  refine swl_sub _ (.cons (t := 2) rfl (.cons (t := 3) rfl .nil)) ?_
  refine swl_nil ?_
  refine then_n ?_
  refine swp_ret ?_
  refine then_r ?_
  exact done_ret [wraw q [] nxt] (.tmp rfl (.tmp rfl .nil)) ⟨rfl, rfl⟩ (by repeat (first | exact Split.nil | (apply Split.cons; (repeat (first | with_reducible exact Take.here | apply Take.there)))))
theorem peek_w (q nxt : Nat) (e : WI × Nat) (es : List (WI × Nat)) : Spec Tryd.prog 96 [.pointer (some ⟨q, 0, none⟩)] [wraw q (e :: es) nxt] (fun v L => v = .tuple #[wiV e.1, .bool true] ∧ L = [wraw q (e :: es) nxt]) := by
  refine Spec.of 16 Tryd.func96 rfl rfl rfl ?_
  refine swp_seq ?_
  refine swp_region ?_
  refine s_pu (pu_assign rfl) ?_
  refine s_pu (pu_assign rfl) ?_
  refine swl_sub _ (.cons (t := 0) rfl .nil) ?_
  refine swl_nil ?_
  refine then_n ?_
  refine swp_seq ?_
  refine swp_seq ?_
  refine swp_region ?_
  refine s_pu (pu_move rfl) ?_
  refine s_ef (ef_fn (len_w q (e :: es) nxt) rfl rfl (by repeat (first | exact Split.nil | (apply Split.cons; (repeat (first | with_reducible exact Take.here | apply Take.there)))))) ?_
  rintro v L1 ⟨rfl, rfl⟩
  refine swl_app ?_
  refine s_pu (pu_eql rfl rfl) ?_
  refine swl_sub _ (.cons (t := 0) rfl (.cons (t := 7) rfl .nil)) ?_
  refine swl_nil ?_
  refine then_n ?_
  refine swp_cond (b := _) rfl (fun h7 => by simp at h7; omega) (fun h7 => ?_)
  refine swp_skip ?_
  refine then_n ?_
  refine swp_seq ?_
  refine swp_ex fun v => ?_
  refine swp_app ?_
  refine swp_front (A := own 133 2 v (e :: es).length (wents (e :: es))) (by repeat (first | with_reducible exact Take.here | apply Take.there)) ?_
  refine swp_own (fun h h0 h1 => by simp at h0) (fun g cap ex hv o1 o2 o3 o4 => ?_)
  subst v
  refine swp_region ?_
  refine s_pu (pu_move rfl) ?_
  first | refine s_pu (pu_nilCheck rfl) ?_ | refine s_pu (pu_nilCheck_fn rfl) ?_ | refine s_pu (pu_nilCheck_if rfl) ?_
  first | refine s_pu (pu_fieldAddr0 rfl) ?_ | refine s_pu (pu_fieldAddr rfl) ?_
  refine s_rd (rd_load rfl rfl) ?_
  refine s_pu (pu_indexAddr 0 rfl rfl (by omega) (by simp) rfl) ?_
  first | refine s_pu (pu_fieldAddr0 rfl) ?_ | refine s_pu (pu_fieldAddr rfl) ?_
  refine s_rd (rd_load (v := wiV e.1) rfl rfl) ?_
  refine s_pu (pu_assign rfl) ?_
  refine s_pu (pu_assign rfl) ?_
  refine swl_sub _ (.cons (t := 2) rfl (.cons (t := 3) rfl .nil)) ?_
  refine swl_nil ?_
  refine then_n ?_
  refine swp_ret ?_
  exact done_retE [wraw q (e :: es) nxt] (.tmp rfl (.tmp rfl .nil)) ⟨rfl, rfl⟩ ((Split.ent' (K := [blk g 133 (wents (e :: es) ++ ex), blk q 121 [.slice (some ⟨g, 0, none⟩) (e :: es).length cap, .int .u64 (nxt : Nat)]]) (by repeat (first | exact Split.nil | (apply Split.cons; (repeat (first | with_reducible exact Take.here | apply Take.there)))))).trans (wraw_close o1 o2 o4))

theorem pop_w0 (q nxt : Nat) : Spec Tryd.prog 87 [.pointer (some ⟨q, 0, none⟩)] [wraw q [] nxt] (fun v L => v = .tuple #[wiV wiZ, .bool false] ∧ L = [wraw q [] nxt]) := by
  refine Spec.of 52 Tryd.func87 rfl rfl rfl ?_
  refine swp_seq ?_
  refine swp_region ?_
  refine s_pu (pu_assign rfl) ?_
  refine s_pu (pu_assign rfl) ?_
  refine swl_sub _ (.cons (t := 0) rfl .nil) ?_
  refine swl_nil ?_
  refine then_n ?_
  refine swp_seq ?_
  refine swp_region ?_
  refine s_pu (pu_move rfl) ?_
  refine s_ef (ef_fn (peek_w0 q nxt) rfl rfl (by repeat (first | exact Split.nil | (apply Split.cons; (repeat (first | with_reducible exact Take.here | apply Take.there)))))) ?_
  rintro v L1 ⟨rfl, rfl⟩
  refine swl_app ?_
  refine s_pu (pu_move rfl) ?_
  first | refine s_pu (pu_extractL rfl) ?_ | refine s_pu (pu_extract rfl rfl) ?_
  first | refine s_pu (pu_extractL rfl) ?_ | refine s_pu (pu_extract rfl rfl) ?_
  refine s_pu (pu_assign rfl) ?_
  refine s_pu (pu_assign rfl) ?_
  refine swl_sub _ (.cons (t := 0) rfl (.cons (t := 4) rfl (.cons (t := 5) rfl .nil))) ?_
  refine swl_nil ?_
  refine then_n ?_
  refine swp_seq ?_
  refine swp_seq ?_
  refine swp_region ?_
  refine s_pu (pu_move rfl) ?_
  refine s_pu (pu_not rfl) ?_
  refine swl_sub _ (.cons (t := 0) rfl (.cons (t := 4) rfl (.cons (t := 13) rfl .nil))) ?_
  refine swl_nil ?_
  refine then_n ?_
  refine swp_cond (b := _) rfl (fun h13 => ?_) (fun h13 => by cases h13)
  refine swp_seq ?_
  refine swp_region ?_
  refine s_pu (pu_move rfl) ?_
  refine s_pu (pu_assign rfl) ?_
  refine s_pu (pu_assign rfl) ?_
  refine swl_sub _ (.cons (t := 2) rfl (.cons (t := 3) rfl .nil)) ?_
  refine swl_nil ?_
  refine then_n ?_
  refine swp_ret ?_
  refine then_r ?_
  exact done_ret [wraw q [] nxt] (.tmp rfl (.tmp rfl .nil)) ⟨rfl, rfl⟩ (by repeat (first | exact Split.nil | (apply Split.cons; (repeat (first | with_reducible exact Take.here | apply Take.there)))))

def wzcs : List Value := [wiV wiZ, .int .u64 0]
theorem wents_app (a b : List (WI × Nat)) : wents (a ++ b) = wents a ++ wents b := by unfold wents; exact List.flatMap_append
theorem wents_over (es : List (WI × Nat)) (ex : List Value) (i : Nat) (e : WI × Nat) (h : i < es.length) : over (wents es ++ ex) (wcs e) (i * 2) = wents (es.set i e) ++ ex := flat_over wcs_len es ex i e h
theorem wover_cut (es : List (WI × Nat)) (ex zs : List Value) (hz : zs.length = 2) (hne : es ≠ []) : over (wents es ++ ex) zs ((es.length - 1) * 2) = wents es.dropLast ++ (zs ++ ex) := by
  have e := List.dropLast_concat_getLast hne
  have hl : (es.length - 1) * 2 = (wents es.dropLast).length := by rw [wents_len, List.length_dropLast]
  have h1 : wents es = wents es.dropLast ++ wents [es.getLast hne] := by rw [← wents_app, e]
  have h2 : (wents [es.getLast hne]).length = 2 := by rw [wents_len]; rfl
  generalize wents [es.getLast hne] = u at h1 h2
  rw [hl, h1]
  unfold over
  rw [hz, List.append_assoc (wents es.dropLast) u ex, List.take_left, List.drop_append]
  rw [show (wents es.dropLast).length + 2 - (wents es.dropLast).length = 2 by omega, List.drop_append, h2]
  rw [List.drop_eq_nil_of_le (by omega : (wents es.dropLast).length ≤ _), List.drop_eq_nil_of_le (by omega : u.length ≤ _)]
  simp

set_option maxHeartbeats 1000000 in
theorem pop_w (q nxt : Nat) (e : WI × Nat) (es : List (WI × Nat)) (hb1 : (e :: es).length ≤ 1099511627776) : Spec Tryd.prog 87 [.pointer (some ⟨q, 0, none⟩)] [wraw q (e :: es) nxt]
    (fun v L => v = .tuple #[wiV e.1, .bool true] ∧ L = [wraw q (Hp.pop aW (e :: es)) nxt]) := by
  refine Spec.of 52 Tryd.func87 rfl rfl rfl ?_
  refine swp_seq ?_
  refine swp_region ?_
  refine s_pu (pu_assign rfl) ?_
  refine s_pu (pu_assign rfl) ?_
  refine swl_sub _ (.cons (t := 0) rfl .nil) ?_
  refine swl_nil ?_
  refine then_n ?_
  refine swp_seq ?_
  refine swp_region ?_
  refine s_pu (pu_move rfl) ?_
  refine s_ef (ef_fn (peek_w q nxt e es) rfl rfl (by repeat (first | exact Split.nil | (apply Split.cons; (repeat (first | with_reducible exact Take.here | apply Take.there)))))) ?_
  rintro v L1 ⟨rfl, rfl⟩
  refine swl_app ?_
  refine s_pu (pu_move rfl) ?_
  first | refine s_pu (pu_extractL rfl) ?_ | refine s_pu (pu_extract rfl rfl) ?_
  first | refine s_pu (pu_extractL rfl) ?_ | refine s_pu (pu_extract rfl rfl) ?_
  refine s_pu (pu_assign rfl) ?_
  refine s_pu (pu_assign rfl) ?_
  refine swl_sub _ (.cons (t := 0) rfl (.cons (t := 4) rfl (.cons (t := 5) rfl .nil))) ?_
  refine swl_nil ?_
  refine then_n ?_
  refine swp_seq ?_
  refine swp_seq ?_
  refine swp_region ?_
  refine s_pu (pu_move rfl) ?_
  refine s_pu (pu_not rfl) ?_
  refine swl_sub _ (.cons (t := 0) rfl (.cons (t := 4) rfl (.cons (t := 13) rfl .nil))) ?_
  refine swl_nil ?_
  refine then_n ?_
  refine swp_cond (b := _) rfl (fun h13 => by cases h13) (fun h13 => ?_)
  refine swp_skip ?_
  refine then_n ?_
  refine swp_seq ?_
  obtain ⟨fs, hfs⟩ : ∃ fs, fs = e :: es := ⟨_, rfl⟩
  have hne : fs ≠ [] := by rw [hfs]; simp
  rw [← hfs] at hb1 ⊢
  have hpos : 0 < fs.length := List.length_pos_iff.2 hne
  refine swp_front (A := wraw q fs nxt) (by repeat (first | with_reducible exact Take.here | apply Take.there)) ?_
  refine swp_ex fun v => ?_
  refine swp_app ?_
  refine swp_front (A := own 133 2 v fs.length (wents fs)) (by repeat (first | with_reducible exact Take.here | apply Take.there)) ?_
  refine swp_own (fun h h0 h1 => by omega) (fun g cap ex hv o1 o2 o3 o4 => ?_)
  subst v
  refine swp_region ?_
  refine s_pu (pu_move rfl) ?_
  first | refine s_pu (pu_nilCheck rfl) ?_ | refine s_pu (pu_nilCheck_fn rfl) ?_ | refine s_pu (pu_nilCheck_if rfl) ?_
  first | refine s_pu (pu_fieldAddr0 rfl) ?_ | refine s_pu (pu_fieldAddr rfl) ?_
  refine s_rd (rd_load rfl rfl) ?_
  refine s_pu (pu_len rfl) ?_
  refine s_pu (pu_sub_as ((fs.length - 1 : Nat) : Int) rfl rfl (by omega) (by omega) (by omega)) ?_
  refine s_pu (pu_assign rfl) ?_
  refine swl_sub _ (.cons (t := 0) rfl (.cons (t := 4) rfl (.cons (t := 6) rfl .nil))) ?_
  refine swl_nil ?_
  refine then_n ?_
  refine swp_seq ?_
  have hel : (wents fs).length = fs.length * 2 := wents_len fs
  obtain ⟨l, hlast⟩ : ∃ l, fs[fs.length - 1]? = some l := ⟨_, List.getElem?_eq_getElem (by omega)⟩
  refine swp_draw [3, 7, 10] _ [] (by simp only [List.append_nil]; exact Ent.refl _) (by kernel_rfl) ?_
  refine d_pu 0 rfl (pu_move rfl) (by kernel_rfl) (by kernel_rfl) (by kernel_rfl) ?_
  first | refine d_pu 1 rfl (pu_nilCheck rfl) (by kernel_rfl) (by kernel_rfl) (by kernel_rfl) ?_ | refine d_pu 1 rfl (pu_nilCheck_fn rfl) (by kernel_rfl) (by kernel_rfl) (by kernel_rfl) ?_ | refine d_pu 1 rfl (pu_nilCheck_if rfl) (by kernel_rfl) (by kernel_rfl) (by kernel_rfl) ?_
  first | refine d_pu 2 rfl (pu_fieldAddr0 rfl) (by kernel_rfl) (by kernel_rfl) (by kernel_rfl) ?_ | refine d_pu 2 rfl (pu_fieldAddr rfl) (by kernel_rfl) (by kernel_rfl) (by kernel_rfl) ?_
  refine d_rd 3 rfl (rd_load rfl rfl) rfl (by kernel_rfl) (by kernel_rfl) (by kernel_rfl) ?_
  refine d_pu 4 rfl (pu_move rfl) (by kernel_rfl) (by kernel_rfl) (by kernel_rfl) ?_
  first | refine d_pu 5 rfl (pu_nilCheck rfl) (by kernel_rfl) (by kernel_rfl) (by kernel_rfl) ?_ | refine d_pu 5 rfl (pu_nilCheck_fn rfl) (by kernel_rfl) (by kernel_rfl) (by kernel_rfl) ?_ | refine d_pu 5 rfl (pu_nilCheck_if rfl) (by kernel_rfl) (by kernel_rfl) (by kernel_rfl) ?_
  first | refine d_pu 6 rfl (pu_fieldAddr0 rfl) (by kernel_rfl) (by kernel_rfl) (by kernel_rfl) ?_ | refine d_pu 6 rfl (pu_fieldAddr rfl) (by kernel_rfl) (by kernel_rfl) (by kernel_rfl) ?_
  refine d_rd 7 rfl (rd_load rfl rfl) rfl (by kernel_rfl) (by kernel_rfl) (by kernel_rfl) ?_
  refine d_pu 8 rfl (pu_move rfl) (by kernel_rfl) (by kernel_rfl) (by kernel_rfl) ?_
  refine d_pu 9 rfl (pu_indexAddr ((fs.length - 1) * 2) rfl rfl (by omega) (by omega) (by omega)) (by kernel_rfl) (by kernel_rfl) (by kernel_rfl) ?_
  refine d_rd 10 rfl (rd_loadA (vs := wcs l) rfl (by rfl) (flat_get wcs_len fs ex _ l hlast)) rfl (by kernel_rfl) (by kernel_rfl) (by kernel_rfl) ?_
  refine d_pu 11 rfl (pu_indexAddr (0 * 2) rfl rfl (by omega) (by omega) (by omega)) (by kernel_rfl) (by kernel_rfl) (by kernel_rfl) ?_
  first | refine d_fin0t 12 rfl (by kernel_rfl) (by kernel_rfl) (ef_storeAs (vs := wcs l) rfl rfl (wents_over fs ex 0 l hpos) (by rw [List.length_append, wents_len, wcs_len]; omega) rfl rfl) ?_ | refine d_fin0f 12 rfl (by kernel_rfl) (by kernel_rfl) (ef_storeAs (vs := wcs l) rfl rfl (wents_over fs ex 0 l hpos) (by rw [List.length_append, wents_len, wcs_len]; omega) rfl rfl) ?_
  refine d_sub _ (.cons (t := 0) rfl (.cons (t := 4) rfl (.cons (t := 6) rfl .nil))) ?_
  first | refine d_nilt (by kernel_rfl) ?_ | refine d_nilf (by kernel_rfl) ?_
  refine then_n ?_
  refine swp_seq ?_
  have hl2 : (fs.set 0 l).length = fs.length := List.length_set
  have hne2 : fs.set 0 l ≠ [] := by intro h; rw [h] at hl2; simp at hl2; omega
  refine swp_region ?_
  refine s_pu (pu_move rfl) ?_
  first | refine s_pu (pu_nilCheck rfl) ?_ | refine s_pu (pu_nilCheck_fn rfl) ?_ | refine s_pu (pu_nilCheck_if rfl) ?_
  first | refine s_pu (pu_fieldAddr0 rfl) ?_ | refine s_pu (pu_fieldAddr rfl) ?_
  refine s_rd (rd_load rfl rfl) ?_
  refine s_pu (pu_move rfl) ?_
  refine s_pu (pu_bld (qs := []) rfl) ?_
  refine s_pu (pu_indexAddr (((fs.set 0 l).length - 1) * 2) rfl rfl (by omega) (by omega) (by rw [hl2]; omega)) ?_
  refine s_ef0 (ef_storeAs (vs := wzcs) rfl rfl (wover_cut (fs.set 0 l) ex wzcs rfl hne2) (by rw [List.length_append, wents_len, hl2]; show _ + 2 ≤ _; omega) rfl rfl) ?_
  refine swl_sub _ (.cons (t := 0) rfl (.cons (t := 4) rfl (.cons (t := 6) rfl .nil))) ?_
  refine swl_nil ?_
  refine then_n ?_
  refine swp_seq ?_
  refine swp_region ?_
  refine s_pu (pu_move rfl) ?_
  refine s_pu (pu_move rfl) ?_
  first | refine s_pu (pu_nilCheck rfl) ?_ | refine s_pu (pu_nilCheck_fn rfl) ?_ | refine s_pu (pu_nilCheck_if rfl) ?_
  first | refine s_pu (pu_fieldAddr0 rfl) ?_ | refine s_pu (pu_fieldAddr rfl) ?_
  refine s_rd (rd_load rfl rfl) ?_
  refine s_pu (pu_move rfl) ?_
  refine s_pu (pu_slice_hi (fs.length - 1) rfl rfl rfl (by omega)) ?_
  first | refine s_pu (pu_nilCheck rfl) ?_ | refine s_pu (pu_nilCheck_fn rfl) ?_ | refine s_pu (pu_nilCheck_if rfl) ?_
  first | refine s_pu (pu_fieldAddr0 rfl) ?_ | refine s_pu (pu_fieldAddr rfl) ?_
  refine s_ef0 (ef_store rfl rfl rfl) ?_
  refine swl_sub _ (.cons (t := 0) rfl (.cons (t := 4) rfl .nil)) ?_
  refine swl_nil ?_
  refine then_n ?_
  refine swp_seq ?_
  refine swp_region ?_
  refine s_pu (pu_move rfl) ?_
  have hl3 : (fs.set 0 l).dropLast.length = fs.length - 1 := by rw [List.length_dropLast, hl2]
  rw [← hl3]
  refine s_ef (ef_fn (sink_w q g cap _ (fs.set 0 l).dropLast (wzcs ++ ex) (by omega)) rfl rfl (by repeat (first | exact Split.nil | (apply Split.cons; (repeat (first | with_reducible exact Take.here | apply Take.there)))))) ?_
  rintro v L1 ⟨rfl, rfl⟩
  refine swl_app ?_
  refine swl_sub _ (.cons (t := 4) rfl .nil) ?_
  refine swl_nil ?_
  refine then_n ?_
  refine swp_seq ?_
  refine swp_region ?_
  refine s_pu (pu_move rfl) ?_
  refine s_pu (pu_assign rfl) ?_
  refine s_pu (pu_assign rfl) ?_
  refine swl_sub _ (.cons (t := 2) rfl (.cons (t := 3) rfl .nil)) ?_
  refine swl_nil ?_
  refine then_n ?_
  refine swp_ret ?_
  have hp : Hp.pop aW fs = Hp.down aW (fs.set 0 l).dropLast.length (fs.set 0 l).dropLast 0 := by
    have hgl : fs.getLast? = some l := by rw [List.getLast?_eq_getElem?]; exact hlast
    unfold Hp.pop
    rw [hgl]
    exact Hp.down_enough _ _ _ _ (by omega) (by omega)
  have hpl : (Hp.pop aW fs).length = (fs.set 0 l).dropLast.length := by rw [hp, Hp.down_length]
  rw [← hp, ← hpl]
  exact done_retE [wraw q (Hp.pop aW fs) nxt] (.tmp rfl (.tmp rfl .nil)) ⟨rfl, rfl⟩
    ((Split.ent' (K := [blk g 133 (wents (Hp.pop aW fs) ++ (wzcs ++ ex)), blk q 121 [.slice (some ⟨g, 0, none⟩) (Hp.pop aW fs).length cap, .int .u64 (nxt : Nat)]]) (by repeat (first | exact Split.nil | (apply Split.cons; (repeat (first | with_reducible exact Take.here | apply Take.there)))))).trans
      (wraw_close (by omega) o2 (by rw [List.length_append, o4, hpl, hl3]; show 2 + _ = _; omega)))
end SX.Bq
