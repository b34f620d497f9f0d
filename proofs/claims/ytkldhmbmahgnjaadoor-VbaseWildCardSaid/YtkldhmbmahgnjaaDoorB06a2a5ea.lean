/- A part of the proof: walks of the program's functions, and the rules by which they go. -/
import Derived.Test.YtkldhmbmahgnjaaDoorB2fe6d66a
import Derived.Test.YtkldhmbmahgnjaaDoorB5c872605
import Derived.Test.YtkldhmbmahgnjaaDoorB9028228d
namespace SX
open Go Go.Proofs

theorem rcounts_spec (n : Int) : Spec Tryd.prog 85 [.int .i64 n] [] (fun r L => r = .int .i64 (cnt n) ∧ L = []) := by
 refine Spec.of 8 Tryd.func85 rfl rfl rfl ?_
 refine swp_seq ?_
 refine swp_region ?_
 refine s_pu (pu_assign rfl) ?_
 refine swl_sub _ (.cons (t := 0) rfl .nil) ?_
 refine swl_nil ?_
 refine then_n ?_
 refine swp_seq ?_
 refine swp_seq ?_
 refine swp_region ?_
 refine s_pu (pu_move rfl) ?_
 refine s_pu (pu_lss rfl rfl) ?_
 refine swl_sub _ (.cons (t := 0) rfl (.cons (t := 4) rfl .nil)) ?_
 refine swl_nil ?_
 refine then_n ?_
 refine swp_cond (b := _) rfl (fun h4 => ?_) (fun h4 => ?_)
 ·skip
  refine swp_seq ?_
  refine swp_region ?_
  refine s_pu (pu_assign rfl) ?_
  refine swl_sub _ (.cons (t := 2) rfl .nil) ?_
  refine swl_nil ?_
  refine then_n ?_
  refine swp_ret ?_
  refine then_r ?_
  have h := of_decide_eq_true h4
  exact done_ret [] (.tmp rfl .nil) ⟨congrArg (Value.int .i64) (by unfold cnt; rw [if_neg (by omega)]; omega), rfl⟩ (by repeat (first | exact Split.nil | (apply Split.cons; (repeat (first | with_reducible exact Take.here | apply Take.there)))))
 ·skip
  refine swp_skip ?_
  refine then_n ?_
  refine swp_seq ?_
  refine swp_seq ?_
  refine swp_region ?_
  refine s_pu (pu_move rfl) ?_
  refine s_pu (pu_gtr rfl rfl) ?_
  refine swl_sub _ (.cons (t := 0) rfl (.cons (t := 6) rfl .nil)) ?_
  refine swl_nil ?_
  refine then_n ?_
  refine swp_cond (b := _) rfl (fun h6 => ?_) (fun h6 => ?_)
  ·skip
   refine swp_seq ?_
   refine swp_region ?_
   refine s_pu (pu_assign rfl) ?_
   refine swl_sub _ (.cons (t := 2) rfl .nil) ?_
   refine swl_nil ?_
   refine then_n ?_
   refine swp_ret ?_
   refine then_r ?_
   have h := of_decide_eq_true h6
   exact done_ret [] (.tmp rfl .nil) ⟨congrArg (Value.int .i64) (by unfold cnt; rw [if_pos h]), rfl⟩ (by repeat (first | exact Split.nil | (apply Split.cons; (repeat (first | with_reducible exact Take.here | apply Take.there)))))
  ·skip
   refine swp_skip ?_
   refine then_n ?_
   refine swp_seq ?_
   refine swp_region ?_
   refine s_pu (pu_move rfl) ?_
   refine s_pu (pu_assign rfl) ?_
   refine swl_sub _ (.cons (t := 2) rfl .nil) ?_
   refine swl_nil ?_
   refine then_n ?_
   refine swp_ret ?_
   have h := of_decide_eq_false h4
   have h' := of_decide_eq_false h6
   exact done_ret [] (.tmp rfl .nil) ⟨congrArg (Value.int .i64) (by unfold cnt; rw [if_neg h']; omega), rfl⟩ (by repeat (first | exact Split.nil | (apply Split.cons; (repeat (first | with_reducible exact Take.here | apply Take.there)))))
theorem rnext_spec (v : Value) (xs : List Int) (L0 : List Assn) (hv : Ints Tryd.prog 3 L0 v xs) : Spec Tryd.prog 65 [v] L0 (fun r L => r = .int .i64 (nxt xs) ∧ L = L0) := by
 obtain ⟨A, cap, rfl, hl, ha⟩ := hv
 have hr := hiG_range xs
 refine Spec.of 26 Tryd.func65 rfl rfl rfl ?_
 refine swp_seq ?_
 refine swp_region ?_
 refine s_pu (pu_assign rfl) ?_
 refine swl_sub _ (.cons (t := 0) rfl .nil) ?_
 refine swl_nil ?_
 refine then_n ?_
 refine swp_seq ?_
 refine swp_region ?_
 refine s_pu (pu_assign rfl) ?_
 refine swl_sub _ (.cons (t := 0) rfl (.cons (t := 3) rfl .nil)) ?_
 refine swl_nil ?_
 refine then_n ?_
 refine swp_seq ?_
 refine swp_seq ?_
 refine swp_region ?_
 refine s_pu (pu_assign rfl) ?_
 refine swl_sub _ (.cons (t := 0) rfl (.cons (t := 3) rfl (.cons (t := 4) rfl .nil))) ?_
 refine swl_nil ?_
 refine then_n ?_
 refine swp_block ?_
 refine swp_loop (ι := Nat) (fun k env L => env = [(0, .slice A xs.length cap), (3, .int .i64 (hiG (xs.take k))), (4, .int .i64 (k : Nat))] ∧ L = L0 ∧ k ≤ xs.length) (fun k => xs.length - k) 0 ⟨rfl, rfl, Nat.zero_le _⟩ ?_
 rintro k env L ⟨rfl, rfl, hk⟩
 refine swp_seq ?_
 refine swp_seq ?_
 refine swp_region ?_
 refine s_pu (pu_move rfl) ?_
 refine s_pu (pu_move rfl) ?_
 refine s_pu (pu_len rfl) ?_
 refine s_pu (pu_lss rfl rfl) ?_
 refine swl_sub _ (.cons (t := 0) rfl (.cons (t := 3) rfl (.cons (t := 4) rfl (.cons (t := 8) rfl .nil)))) ?_
 refine swl_nil ?_
 refine then_n ?_
 refine swp_cond (b := _) rfl (fun h8 => ?_) (fun h8 => ?_)
 ·skip
  have h8' : k < xs.length := by have := of_decide_eq_true h8; omega
  obtain ⟨b, off, rfl, hld⟩ := ha (by omega)
  obtain ⟨x, hx⟩ : ∃ x, xs[k]? = some x := ⟨_, List.getElem?_eq_getElem h8'⟩
  refine swp_skip ?_
  refine then_n ?_
  refine swp_seq ?_
  refine swp_block ?_
  refine swp_region ?_
  refine s_pu (pu_move rfl) ?_
  refine s_pu (pu_move rfl) ?_
  refine s_pu (pu_move rfl) ?_
  refine s_pu (pu_indexAddr (off + k * 1) rfl rfl (by omega) (by omega) (by rw [Int.toNat_natCast])) ?_
  refine s_rd (rd_of_ld rfl (by rw [Nat.mul_one]; exact hld k x hx)) ?_
  refine s_ef (ef_fn (rcounts_spec x) rfl rfl (by repeat (first | exact Split.nil | (apply Split.cons; (repeat (first | with_reducible exact Take.here | apply Take.there)))))) ?_
  rintro v1 L1 ⟨rfl, rfl⟩
  refine swl_app ?_
  refine s_pu (pu_max2 rfl rfl) ?_
  refine s_pu (pu_assign rfl) ?_
  refine swl_sub _ (.cons (t := 0) rfl (.cons (t := 3) rfl (.cons (t := 4) rfl .nil))) ?_
  refine swl_nil ?_
  refine block_n ?_
  refine then_n ?_
  refine swp_region ?_
  refine s_pu (pu_move rfl) ?_
  refine s_pu (pu_add_as ((k + 1 : Nat) : Int) rfl rfl (by omega) (by omega) (by omega)) ?_
  refine s_pu (pu_assign rfl) ?_
  refine swl_sub _ (.cons (t := 0) rfl (.cons (t := 3) rfl (.cons (t := 4) rfl .nil))) ?_
  refine swl_nil ?_
  exact then_n ⟨k + 1, ⟨by rw [List.take_add_one, hx]; show _ = [_, (3, Value.int .i64 (hiG (xs.take k ++ [x]))), _]; rw [hiG_append], rfl, h8'⟩, by omega⟩
 ·skip
  have h8' := of_decide_eq_false h8
  obtain rfl : k = xs.length := by omega
  rw [List.take_length]
  refine swp_exit ?_
  refine then_x ?_
  refine then_x ?_
  refine block_hit rfl ?_
  refine then_n ?_
  refine swp_seq ?_
  refine swp_block ?_
  refine swp_seq ?_
  refine swp_region ?_
  refine s_pu (pu_move rfl) ?_
  refine s_pu (pu_eql rfl rfl) ?_
  refine s_pu (pu_assign rfl) ?_
  refine swl_sub _ (.cons (t := 3) rfl (.cons (t := 18) rfl .nil)) ?_
  refine swl_nil ?_
  refine then_n ?_
  refine swp_cond (b := _) rfl (fun h18 => ?_) (fun h18 => ?_)
  ·skip
   refine swp_seq ?_
   refine swp_region ?_
   refine s_pu (pu_assign rfl) ?_
   refine swl_sub _ (.cons (t := 2) rfl .nil) ?_
   refine swl_nil ?_
   refine then_n ?_
   refine swp_ret ?_
   refine block_r ?_
   refine then_r ?_
   have h := of_decide_eq_true h18
   exact done_ret _ (.tmp rfl .nil) ⟨congrArg (Value.int .i64) (by unfold nxt; rw [if_pos (by omega)]; exact h.symm), rfl⟩ Split.all
  ·skip
   refine swp_seq ?_
   refine swp_region ?_
   refine s_pu (pu_move rfl) ?_
   refine s_pu (pu_eql rfl rfl) ?_
   refine s_pu (pu_assign rfl) ?_
   refine swl_sub _ (.cons (t := 3) rfl (.cons (t := 21) rfl .nil)) ?_
   refine swl_nil ?_
   refine then_n ?_
   refine swp_cond (b := _) rfl (fun h21 => ?_) (fun h21 => ?_)
   ·skip
    refine swp_seq ?_
    refine swp_region ?_
    refine s_pu (pu_assign rfl) ?_
    refine swl_sub _ (.cons (t := 2) rfl .nil) ?_
    refine swl_nil ?_
    refine then_n ?_
    refine swp_ret ?_
    refine block_r ?_
    refine then_r ?_
    have h := of_decide_eq_true h21
    exact done_ret _ (.tmp rfl .nil) ⟨congrArg (Value.int .i64) (by unfold nxt; rw [if_pos (by omega)]; exact h.symm), rfl⟩ Split.all
   ·skip
    refine swp_skip ?_
    refine block_n ?_
    refine then_n ?_
    refine swp_seq ?_
    refine swp_region ?_
    refine s_pu (pu_move rfl) ?_
    first | refine s_pu (pu_add_in rfl rfl (by omega) (by omega)) ?_ | refine s_pu (pu_add rfl rfl) ?_
    refine s_pu (pu_assign rfl) ?_
    refine swl_sub _ (.cons (t := 2) rfl .nil) ?_
    refine swl_nil ?_
    refine then_n ?_
    refine swp_ret ?_
    have h := of_decide_eq_false h18
    have h' := of_decide_eq_false h21
    exact done_ret _ (.tmp rfl .nil) ⟨congrArg (Value.int .i64) (by unfold nxt; rw [if_neg (by omega)]), rfl⟩ Split.all
theorem row_at {μ : PH} {v : Value} {G : List (Value × List Int)} (hG : Graph μ v G) {i : Nat} (hi : i < G.length) : ∃ gb off cap x, v = .slice (some ⟨gb, off, none⟩) G.length cap ∧ G[i]? = some x ∧ CellAt μ gb (off + i * 1) x.1 ∧ Row μ x.1 1 x.2.length (x.2.flatMap (icsk .i64)) ∧ (nums G)[i]? = some x.2 := by
  obtain ⟨gb, off, cap, hv, _, _, hr⟩ := hG.1.pos (by omega)
  have hx : G[i]? = some G[i] := List.getElem?_eq_getElem hi
  exact ⟨gb, off, cap, G[i], hv, hx, (hr.elem gcs_len hx).cell, hG.2 _ (List.mem_of_getElem? hx), by rw [List.getElem?_map, hx]; rfl⟩
theorem icells_len' (xs : List Int) : (xs.flatMap (icsk .i64)).length = xs.length * 1 := flat_length (icsk_len .i64) xs
theorem icells_get' {xs : List Int} {k : Nat} {z : Int} (hz : xs[k]? = some z) : (xs.flatMap (icsk .i64))[k]? = some (.int .i64 z) := by
  have := flat_get (icsk_len .i64) xs [] k z hz 0 (.int .i64 z) rfl
  rwa [List.append_nil, Nat.mul_one] at this
theorem shape_len {v : Value} {l : Nat} (h : Shape v l) : ∃ A cap, v = .slice A l cap := by
  rcases h with ⟨h1, h2⟩ | ⟨b, cap, h1, _⟩
  · exact ⟨none, 0, by rw [h1, h2]⟩
  · exact ⟨_, _, h1⟩
theorem shape_pos {v : Value} {l : Nat} (h : Shape v l) (h0 : 0 < l) : ∃ b cap, v = .slice (some ⟨b, 0, none⟩) l cap := by
  rcases h with ⟨_, h2⟩ | ⟨b, cap, h1, _⟩
  · omega
  · exact ⟨b, cap, h1⟩
/-- the answer: numbers, and the error -/
def moreL (K : List Int) (g : List (List Int)) : List Int := match moreG K g with
  | some all => all.drop K.length
  | none => []
def moreE (K : List Int) (g : List (List Int)) : Int := match moreG K g with
  | some _ => 0
  | none => 1
theorem moreL_some {K a : List Int} {g : List (List Int)} (h : moreG K g = some a) : moreL K g = a.drop K.length ∧ moreE K g = 0 := by unfold moreL moreE; rw [h]; exact ⟨rfl, rfl⟩
theorem moreL_none {K : List Int} {g : List (List Int)} (h : moreG K g = none) : moreL K g = [] ∧ moreE K g = 1 := by unfold moreL moreE; rw [h]; exact ⟨rfl, rfl⟩
theorem nodup_snoc {l : List Int} {i : Nat} {y : Int} (hy : l[i]? = some y) (h : (l.take i).Nodup) : (l.take (i + 1)).Nodup ↔ y ∉ l.take i := by
  rw [List.take_add_one, hy]
  show (l.take i ++ [y]).Nodup ↔ _
  rw [List.nodup_append]
  exact ⟨fun h hm => h.2.2 y hm y (by simp) rfl, fun hn => ⟨h, by simp, fun a ha b hb e => by
    obtain rfl := List.mem_singleton.1 hb
    subst e; exact hn ha⟩⟩
set_option maxHeartbeats 1000000 in
theorem rtwice_spec (μ : PH) (v : Value) (xs : List Int) (n : Nat) (hv : Row μ v 1 xs.length (xs.flatMap (icsk .i64))) (hin : ∀ p ∈ xs, 0 ≤ p ∧ p < n) (hn : n ≤ 1099511627776) :
  Spec Tryd.prog 64 [v, .int .i64 (n : Nat)] [ro μ] (fun r L => r = .bool (!decide xs.Nodup) ∧ L = [ro μ]) := by
 have hs := hv.small
 refine Spec.of 31 Tryd.func64 rfl rfl rfl ?_
 refine swp_seq ?_
 refine swp_region ?_
 refine s_pu (pu_assign rfl) ?_
 refine swl_sub _ (.cons (t := 0) rfl (.cons (t := 1) rfl .nil)) ?_
 refine swl_nil ?_
 refine then_n ?_
 refine swp_seq ?_
 refine swp_seq ?_
 refine swp_region ?_
 refine s_pu (pu_move rfl) ?_
 refine s_pu (pu_len_row hv rfl) ?_
 refine s_pu (pu_lss rfl rfl) ?_
 refine swl_sub _ (.cons (t := 0) rfl (.cons (t := 1) rfl (.cons (t := 9) rfl .nil))) ?_
 refine swl_nil ?_
 refine then_n ?_
 refine swp_cond (b := _) rfl (fun h9 => ?_) (fun h9 => ?_)
 ·skip
  refine swp_seq ?_
  refine swp_region ?_
  refine s_pu (pu_assign rfl) ?_
  refine swl_sub _ (.cons (t := 4) rfl .nil) ?_
  refine swl_nil ?_
  refine then_n ?_
  refine swp_ret ?_
  refine then_r ?_
  have h9' := of_decide_eq_true h9
  have hnd : xs.Nodup := by
   match xs, h9' with
   | [], _ => exact .nil
   | [x], _ => simp
   | _ :: _ :: _, h => simp at h; omega
  exact done_ret [ro μ] (.tmp rfl .nil) ⟨by rw [decide_eq_true hnd]; rfl, rfl⟩ (by repeat (first | exact Split.nil | (apply Split.cons; (repeat (first | with_reducible exact Take.here | apply Take.there)))))
 ·skip
  refine swp_skip ?_
  refine then_n ?_
  refine swp_seq ?_
  refine swp_region ?_
  refine s_pu (pu_move rfl) ?_
  refine s_ef (ef_make1 n rfl rfl rfl (by omega) (by simp only [maxLen]; omega)) ?_
  rintro b11
  skip
  refine s_pu (pu_assign rfl) ?_
  refine swl_sub _ (.cons (t := 0) rfl (.cons (t := 5) rfl .nil)) ?_
  rw [rbs_false]
  refine swl_nil ?_
  refine then_n ?_
  refine swp_seq ?_
  refine swp_seq ?_
  refine swp_region ?_
  refine s_pu (pu_assign rfl) ?_
  refine swl_sub _ (.cons (t := 0) rfl (.cons (t := 5) rfl (.cons (t := 6) rfl .nil))) ?_
  refine swl_nil ?_
  refine then_n ?_
  refine swp_block ?_
  have e0 : rbs n (fun _ => false) = rbs n (fun k => decide ((k : Int) ∈ xs.take 0)) := rbs_ext fun j _ => by simp
  rw [e0]
  refine swp_sub _ (.cons (t := 0) rfl (.cons (t := 5) rfl (.cons (t := 6) rfl .nil))) ?_
  refine swp_loop (ι := Nat) (fun i env L => env = [(0, v), (5, .slice (some ⟨b11, 0, none⟩) n n), (6, .int .i64 (i : Nat))] ∧ L = [blk b11 4 (rbs n (fun k => decide ((k : Int) ∈ xs.take i))), ro μ] ∧ i ≤ xs.length ∧ (xs.take i).Nodup) (fun i => xs.length - i) 0 ⟨rfl, rfl, Nat.zero_le _, by simp⟩ ?_
  rintro i env L ⟨rfl, rfl, hi, hnd⟩
  refine swp_seq ?_
  refine swp_seq ?_
  refine swp_region ?_
  refine s_pu (pu_move rfl) ?_
  refine s_pu (pu_move rfl) ?_
  refine s_pu (pu_len_row hv rfl) ?_
  refine s_pu (pu_lss rfl rfl) ?_
  refine swl_sub _ (.cons (t := 0) rfl (.cons (t := 5) rfl (.cons (t := 6) rfl (.cons (t := 15) rfl .nil)))) ?_
  refine swl_nil ?_
  refine then_n ?_
  refine swp_cond (b := _) rfl (fun h15 => ?_) (fun h15 => ?_)
  ·skip
   have h15' : i < xs.length := by have := of_decide_eq_true h15; omega
   obtain ⟨y, hy⟩ : ∃ y, xs[i]? = some y := ⟨_, List.getElem?_eq_getElem h15'⟩
   obtain ⟨yb, yo, yc, hyv, hyc⟩ := hv.at_ hy
   have hyin := hin y (List.mem_of_getElem? hy)
   obtain ⟨k, rfl⟩ : ∃ k : Nat, y = k := ⟨y.toNat, by omega⟩
   have hsn := nodup_snoc hy hnd
   refine swp_skip ?_
   refine then_n ?_
   refine swp_seq ?_
   refine swp_block ?_
   refine swp_seq ?_
   refine swp_seq ?_
   refine swp_region ?_
   refine s_pu (pu_move rfl) ?_
   refine s_pu (pu_move rfl) ?_
   refine s_pu (pu_move rfl) ?_
   refine s_pu (pu_indexAddr (yo + i * 1) (congrArg some hyv) rfl (by omega) (by omega) (by rw [Int.toNat_natCast])) ?_
   refine s_rd (rd_ro rfl hyc) ?_
   refine s_pu (pu_indexAddr k rfl rfl (by omega) (by omega) (by omega)) ?_
   refine s_rd (rd_load rfl (rbs_get _ (by omega))) ?_
   refine swl_sub _ (.cons (t := 0) rfl (.cons (t := 5) rfl (.cons (t := 6) rfl (.cons (t := 24) rfl .nil)))) ?_
   refine swl_nil ?_
   refine then_n ?_
   refine swp_cond (b := _) rfl (fun h24 => ?_) (fun h24 => ?_)
   ·skip
    refine swp_seq ?_
    refine swp_region ?_
    refine s_pu (pu_assign rfl) ?_
    refine swl_sub _ (.cons (t := 4) rfl .nil) ?_
    refine swl_nil ?_
    refine then_n ?_
    refine swp_ret ?_
    refine then_r ?_
    refine block_r ?_
    refine then_r ?_
    refine then_r ?_
    refine block_r ?_
    refine then_r ?_
    have h24' := of_decide_eq_true h24
    have hno : ¬ xs.Nodup := fun h => hsn.1 (h.sublist (List.take_sublist ..)) h24'
    exact done_ret [ro μ] (.tmp rfl .nil) ⟨by rw [decide_eq_false hno]; rfl, rfl⟩ (by repeat (first | exact Split.nil | (apply Split.cons; (repeat (first | with_reducible exact Take.here | apply Take.there)))))
   ·skip
    refine swp_skip ?_
    refine then_n ?_
    refine swp_region ?_
    refine s_pu (pu_move rfl) ?_
    refine s_pu (pu_move rfl) ?_
    refine s_pu (pu_move rfl) ?_
    refine s_pu (pu_indexAddr (yo + i * 1) (congrArg some hyv) rfl (by omega) (by omega) (by rw [Int.toNat_natCast])) ?_
    refine s_rd (rd_ro rfl hyc) ?_
    refine s_pu (pu_indexAddr k rfl rfl (by omega) (by omega) (by omega)) ?_
    refine s_ef0 (ef_storeP rfl rfl rfl (by rw [rbs_len]; omega)) ?_
    refine swl_sub _ (.cons (t := 0) rfl (.cons (t := 5) rfl (.cons (t := 6) rfl .nil))) ?_
    rw [rbs_set (T := fun j => decide ((j : Int) ∈ xs.take (i + 1))) (fun j hj => by
     rw [List.take_add_one, hy]
     by_cases e : j = k
     ·subst e; simp
     ·have : (j : Int) ≠ k := by omega
      simp [e, this])]
    refine swl_nil ?_
    refine block_n ?_
    refine then_n ?_
    refine swp_region ?_
    refine s_pu (pu_move rfl) ?_
    refine s_pu (pu_add_as ((i + 1 : Nat) : Int) rfl rfl (by omega) (by omega) (by omega)) ?_
    refine s_pu (pu_assign rfl) ?_
    refine swl_sub _ (.cons (t := 0) rfl (.cons (t := 5) rfl (.cons (t := 6) rfl .nil))) ?_
    refine swl_nil ?_
    have h24' := of_decide_eq_false h24
    exact then_n ⟨i + 1, ⟨rfl, rfl, h15', hsn.2 h24'⟩, by omega⟩
  ·skip
   have h15' := of_decide_eq_false h15
   obtain rfl : i = xs.length := by omega
   rw [List.take_length] at hnd
   refine swp_exit ?_
   refine then_x ?_
   refine then_x ?_
   refine block_hit rfl ?_
   refine then_n ?_
   refine swp_seq ?_
   refine swp_region ?_
   refine s_pu (pu_assign rfl) ?_
   refine swl_sub _ (.cons (t := 4) rfl .nil) ?_
   refine swl_nil ?_
   refine then_n ?_
   refine swp_ret ?_
   exact done_ret [ro μ] (.tmp rfl .nil) ⟨by rw [decide_eq_true hnd]; rfl, rfl⟩ (by repeat (first | exact Split.nil | (apply Split.cons; (repeat (first | with_reducible exact Take.here | apply Take.there)))))
theorem pu_slice_all {P : Program} {env : Env} {t e n by_ : Nat} [h : TSl P t e n by_] {x y : Operand} {v : Value} {l : Nat} (hs : Shape v l) (hx : evalE env x = some v) (hy : evalE env y = some (.int .i64 0)) : Pu P env (.slice t x (some y) none none) v := by
  rcases hs with ⟨rfl, rfl⟩ | ⟨b, cap, rfl, h1, h2⟩
  · have := pu_slice_loA (P := P) (env := env) (t := t) 0 hx hy rfl (Nat.le_refl 0)
    exact this
  · have := pu_slice_lo (P := P) (env := env) (t := t) 0 hx hy rfl (Nat.zero_le l)
    by_cases hc : cap = 0
    · rw [if_pos hc] at this; exact this
    · rw [if_neg hc, Nat.zero_mul] at this; exact this
set_option maxHeartbeats 2000000 in
theorem rmore0_spec (μ : PH) (vg : Value) (G : List (Value × List Int)) (hG : Graph μ vg G) (hn : G.length ≤ 1048576) (hrows : ∀ x ∈ G, x.2.length ≤ 1048576) :
  Spec Tryd.prog 48 [.slice none 0 0, vg] [ro μ] (fun r L => ∃ rv, r = .tuple #[rv, .int .i64 (moreE [] (nums G))] ∧ L = [own 3 1 rv (moreL [] (nums G)).length ((moreL [] (nums G)).flatMap (icsk .i64)), ro μ]) := by
 have hln : (nums G).length = G.length := List.length_map _
 have hsg := hG.1.small
 have hK0 : ([] : List Int).length = 0 := rfl
 refine Spec.of 67 Tryd.func48 rfl rfl rfl ?_
 refine swp_seq ?_
 refine swp_region ?_
 refine s_pu (pu_assign rfl) ?_
 refine s_pu (pu_assign rfl) ?_
 refine swl_sub _ (.cons (t := 0) rfl (.cons (t := 1) rfl .nil)) ?_
 refine swl_nil ?_
 refine then_n ?_
 refine swp_seq ?_
 refine swp_region ?_
 refine s_ef (ef_bldS (qs := []) rfl rfl rfl) ?_
 intro b11
 refine s_pu (pu_move rfl) ?_
 refine swl_ent (own_empty (e := 3) (n := 1)) ?_
 refine s_ef (ef_append_ro (Row.nil μ 1) rfl rfl (by repeat (first | exact Split.nil | (apply Split.cons; (repeat (first | with_reducible exact Take.here | apply Take.there))))) rfl (by decide) (by decide)) ?_
 rintro v13 -
 rw [Nat.zero_add, List.nil_append]
 refine s_pu (pu_assign rfl) ?_
 refine swl_sub _ (.cons (t := 0) rfl (.cons (t := 1) rfl (.cons (t := 6) rfl .nil))) ?_
 refine swl_nil ?_
 refine then_n ?_
 refine swp_seq ?_
 refine swp_seq ?_
 refine swp_region ?_
 refine s_pu (pu_assign rfl) ?_
 refine swl_sub _ (.cons (t := 0) rfl (.cons (t := 1) rfl (.cons (t := 6) rfl (.cons (t := 7) rfl .nil)))) ?_
 refine swl_nil ?_
 refine then_n ?_
 refine swp_block ?_
 refine swp_loop (ι := Nat × Value × List Int) (fun k env L => env = [(0, .slice none 0 0), (1, vg), (6, k.2.1), (7, .int .i64 (k.1 : Nat))] ∧ L = [own 3 1 k.2.1 k.2.2.length (k.2.2.flatMap (icsk .i64)), ro μ] ∧ k.1 ≤ G.length ∧ moreG [] ((nums G).take k.1) = some k.2.2) (fun k => G.length - k.1) (0, v13, []) ⟨rfl, rfl, Nat.zero_le _, rfl⟩ ?_
 rintro ⟨i, v6, a⟩ env L ⟨rfl, rfl, hi, ha⟩
 dsimp only at hi ha ⊢
 have hal := (moreG_len ha).1
 rw [List.length_take, hln, Nat.min_eq_left hi] at hal
 refine swp_fact (fun m h => own_shape .here h) fun hsh => ?_
 have hform := shape_len hsh
 refine swp_seq ?_
 refine swp_seq ?_
 refine swp_region ?_
 refine s_pu (pu_move rfl) ?_
 refine s_pu (pu_move rfl) ?_
 refine s_pu (pu_len_row hG.1 rfl) ?_
 refine s_pu (pu_lss rfl rfl) ?_
 refine swl_sub _ (.cons (t := 0) rfl (.cons (t := 1) rfl (.cons (t := 6) rfl (.cons (t := 7) rfl (.cons (t := 17) rfl .nil))))) ?_
 refine swl_nil ?_
 refine then_n ?_
 refine swp_cond (b := _) rfl (fun h17 => ?_) (fun h17 => ?_)
 ·skip
  have h17' : i < G.length := by have := of_decide_eq_true h17; omega
  obtain ⟨gb, off, cap, x, hv, hx, hxc, hxr, hnx⟩ := row_at hG h17'
  have hxl := hrows x (List.mem_of_getElem? hx)
  have hxs := hxr.small
  have hnext := moreG_at ha hnx
  refine swp_skip ?_
  refine then_n ?_
  refine swp_seq ?_
  refine swp_block ?_
  refine swp_seq ?_
  refine swp_region ?_
  refine s_pu (pu_assign rfl) ?_
  refine swl_sub _ (.cons (t := 0) rfl (.cons (t := 1) rfl (.cons (t := 6) rfl (.cons (t := 7) rfl (.cons (t := 8) rfl .nil))))) ?_
  refine swl_ent (own_nil_ent (e := 3) (n := 1)) ?_
  refine swl_nil ?_
  refine then_n ?_
  refine swp_seq ?_
  refine swp_seq ?_
  refine swp_region ?_
  refine s_pu (pu_assign rfl) ?_
  refine swl_sub _ (.cons (t := 0) rfl (.cons (t := 1) rfl (.cons (t := 6) rfl (.cons (t := 7) rfl (.cons (t := 8) rfl (.cons (t := 9) rfl .nil)))))) ?_
  refine swl_nil ?_
  refine then_n ?_
  refine swp_block ?_
  refine swp_sub _ (.cons (t := 0) rfl (.cons (t := 1) rfl (.cons (t := 6) rfl (.cons (t := 7) rfl (.cons (t := 8) rfl (.cons (t := 9) rfl .nil)))))) ?_
  refine swp_loop (ι := Nat × Value) (fun k env L => env = [(0, .slice none 0 0), (1, vg), (6, v6), (7, .int .i64 (i : Nat)), (8, k.2), (9, .int .i64 (k.1 : Nat))] ∧ L = [own 3 1 k.2 k.1 ((valsG a (x.2.take k.1)).flatMap (icsk .i64)), own 3 1 v6 a.length (a.flatMap (icsk .i64)), ro μ] ∧ k.1 ≤ x.2.length ∧ ∀ p ∈ x.2.take k.1, 0 ≤ p ∧ p < a.length) (fun k => x.2.length - k.1) (0, .slice none 0 0) ⟨rfl, rfl, Nat.zero_le _, fun p hp => by simp at hp⟩ ?_
  rintro ⟨j, v9⟩ env L ⟨rfl, rfl, hj, hrg⟩
  dsimp only at hj hrg ⊢
  refine swp_seq ?_
  refine swp_seq ?_
  refine swp_region ?_
  refine s_pu (pu_move rfl) ?_
  refine s_pu (pu_move rfl) ?_
  refine s_pu (pu_move rfl) ?_
  refine s_pu (pu_indexAddr (off + i * 1) (congrArg some hv) rfl (by omega) (by omega) (by rw [Int.toNat_natCast])) ?_
  refine s_rd (rd_ro rfl hxc) ?_
  refine s_pu (pu_len_row hxr rfl) ?_
  refine s_pu (pu_lss rfl rfl) ?_
  refine swl_sub _ (.cons (t := 0) rfl (.cons (t := 1) rfl (.cons (t := 6) rfl (.cons (t := 7) rfl (.cons (t := 8) rfl (.cons (t := 9) rfl (.cons (t := 26) rfl .nil))))))) ?_
  refine swl_nil ?_
  refine then_n ?_
  refine swp_cond (b := _) rfl (fun h26 => ?_) (fun h26 => ?_)
  ·skip
   have h26' : j < x.2.length := by have := of_decide_eq_true h26; omega
   obtain ⟨y, hy⟩ : ∃ y, x.2[j]? = some y := ⟨_, List.getElem?_eq_getElem h26'⟩
   obtain ⟨yb, yo, yc, hyv, hyc⟩ := hxr.at_ hy
   refine swp_skip ?_
   refine then_n ?_
   refine swp_seq ?_
   refine swp_block ?_
   refine swp_seq ?_
   refine swp_region ?_
   refine s_pu (pu_move rfl) ?_
   refine s_pu (pu_move rfl) ?_
   refine s_pu (pu_indexAddr (off + i * 1) (congrArg some hv) rfl (by omega) (by omega) (by rw [Int.toNat_natCast])) ?_
   refine s_rd (rd_ro rfl hxc) ?_
   refine s_pu (pu_move rfl) ?_
   refine s_pu (pu_indexAddr (yo + j * 1) (congrArg some hyv) rfl (by omega) (by omega) (by rw [Int.toNat_natCast])) ?_
   refine s_rd (rd_ro rfl hyc) ?_
   refine s_pu (pu_assign rfl) ?_
   refine swl_sub _ (.cons (t := 0) rfl (.cons (t := 1) rfl (.cons (t := 6) rfl (.cons (t := 7) rfl (.cons (t := 8) rfl (.cons (t := 9) rfl (.cons (t := 10) rfl .nil))))))) ?_
   refine swl_nil ?_
   refine then_n ?_
   refine swp_seq ?_
   refine swp_seq ?_
   refine swp_region ?_
   refine s_pu (pu_move rfl) ?_
   refine s_pu (pu_lss rfl rfl) ?_
   refine s_pu (pu_move rfl) ?_
   refine s_split 38 rfl (fun h38 => ?_) (fun h38 => ?_)
   ·skip
    refine s_off rfl rfl rfl ?_
    refine s_off rfl rfl rfl ?_
    refine s_off rfl rfl rfl ?_
    refine s_off rfl rfl rfl ?_
    first | refine s_pu (pu_pick_t rfl rfl) ?_ | refine s_pu (pu_pick_f rfl rfl) ?_
    refine swl_sub _ (.cons (t := 0) rfl (.cons (t := 1) rfl (.cons (t := 6) rfl (.cons (t := 7) rfl (.cons (t := 8) rfl (.cons (t := 9) rfl (.cons (t := 10) rfl (.cons (t := 43) rfl .nil)))))))) ?_
    refine swl_nil ?_
    refine then_n ?_
    refine swp_cond (b := _) rfl (fun h43 => ?_) (fun h43 => by cases h43)
    refine swp_seq ?_
    refine swp_region ?_
    refine s_pu (pu_assign rfl) ?_
    refine s_pu (pu_assign rfl) ?_
    refine swl_sub _ (.cons (t := 4) rfl (.cons (t := 5) rfl .nil)) ?_
    refine swl_nil ?_
    refine then_n ?_
    refine swp_ret ?_
    refine then_r ?_
    refine block_r ?_
    refine then_r ?_
    refine then_r ?_
    refine block_r ?_
    refine then_r ?_
    refine block_r ?_
    refine then_r ?_
    refine then_r ?_
    refine block_r ?_
    refine then_r ?_
    have h38' := of_decide_eq_true h38
    rw [if_neg (fun h => by have := (okRow_iff.1 h).1 y (List.mem_of_getElem? hy); omega)] at hnext
    have hno := moreL_none (moreG_none hnext)
    rw [hno.1, hno.2]
    exact done_retE [own 3 1 (.slice none 0 0) 0 [], ro μ] (.tmp rfl (.tmp rfl .nil)) ⟨.slice none 0 0, rfl, rfl⟩ ((Split.ent' (K := [ro μ]) (by repeat (first | exact Split.nil | (apply Split.cons; (repeat (first | with_reducible exact Take.here | apply Take.there)))))).trans own_nil_ent)
   ·skip
    refine s_on rfl rfl ?_
    refine s_pu (pu_move rfl) ?_
    refine s_on rfl rfl ?_
    refine s_pu (pu_move rfl) ?_
    refine s_on rfl rfl ?_
    refine s_pu (pu_len_own hform rfl) ?_
    refine s_on rfl rfl ?_
    refine s_pu (pu_geq rfl rfl) ?_
    first | refine s_pu (pu_pick_t rfl rfl) ?_ | refine s_pu (pu_pick_f rfl rfl) ?_
    refine swl_sub _ (.cons (t := 0) rfl (.cons (t := 1) rfl (.cons (t := 6) rfl (.cons (t := 7) rfl (.cons (t := 8) rfl (.cons (t := 9) rfl (.cons (t := 10) rfl (.cons (t := 43) rfl .nil)))))))) ?_
    refine swl_nil ?_
    refine then_n ?_
    refine swp_cond (b := _) rfl (fun h43 => ?_) (fun h43 => ?_)
    ·skip
     refine swp_seq ?_
     refine swp_region ?_
     refine s_pu (pu_assign rfl) ?_
     refine s_pu (pu_assign rfl) ?_
     refine swl_sub _ (.cons (t := 4) rfl (.cons (t := 5) rfl .nil)) ?_
     refine swl_nil ?_
     refine then_n ?_
     refine swp_ret ?_
     refine then_r ?_
     refine block_r ?_
     refine then_r ?_
     refine then_r ?_
     refine block_r ?_
     refine then_r ?_
     refine block_r ?_
     refine then_r ?_
     refine then_r ?_
     refine block_r ?_
     refine then_r ?_
     have h43' := of_decide_eq_true h43
     rw [if_neg (fun h => by have := (okRow_iff.1 h).1 y (List.mem_of_getElem? hy); omega)] at hnext
     have hno := moreL_none (moreG_none hnext)
     rw [hno.1, hno.2]
     exact done_retE [own 3 1 (.slice none 0 0) 0 [], ro μ] (.tmp rfl (.tmp rfl .nil)) ⟨.slice none 0 0, rfl, rfl⟩ ((Split.ent' (K := [ro μ]) (by repeat (first | exact Split.nil | (apply Split.cons; (repeat (first | with_reducible exact Take.here | apply Take.there)))))).trans own_nil_ent)
    ·skip
     have h38' := of_decide_eq_false h38
     have h43' := of_decide_eq_false h43
     obtain ⟨ky, rfl⟩ : ∃ k : Nat, y = k := ⟨y.toNat, by omega⟩
     obtain ⟨z, hz⟩ : ∃ z, a[ky]? = some z := ⟨_, List.getElem?_eq_getElem (by omega)⟩
     obtain ⟨ab, ac, hv6⟩ := shape_pos hsh (by omega)
     subst hv6
     refine swp_skip ?_
     refine then_n ?_
     refine swp_region ?_
     refine s_pu (pu_move rfl) ?_
     refine s_pu (pu_move rfl) ?_
     refine s_pu (pu_move rfl) ?_
     refine s_pu (pu_indexAddr ky rfl rfl (by omega) (by omega) (by omega)) ?_
     refine s_rd (rd_of_ld rfl (ld_own (by repeat (first | with_reducible exact Take.here | apply Take.there)) (icells_get' hz))) ?_
     refine s_ef (ef_bldS (qs := [(0, _)]) rfl rfl rfl) ?_
     intro b49
     refine s_ef (ef_append_lit (l := j) (m := 1) rfl rfl (by repeat (first | exact Split.nil | (apply Split.cons; (repeat (first | with_reducible exact Take.here | apply Take.there))))) (by simp only [maxLen]; omega) (by omega)) ?_
     rintro v' hv'
     skip
     refine s_pu (pu_assign rfl) ?_
     refine swl_sub _ (.cons (t := 0) rfl (.cons (t := 1) rfl (.cons (t := 6) rfl (.cons (t := 7) rfl (.cons (t := 8) rfl (.cons (t := 9) rfl .nil)))))) ?_
     have e1 : (valsG a (x.2.take j)).flatMap (icsk .i64) ++ [.int .i64 z] = (valsG a (x.2.take (j + 1))).flatMap (icsk .i64) := by
      rw [List.take_add_one, hy]
      show _ = (valsG a (x.2.take j ++ [(ky : Int)])).flatMap (icsk .i64)
      rw [valsG_append, Int.toNat_natCast, List.getD_eq_getElem?_getD, hz, List.flatMap_append]; rfl
     rw [e1]
     refine swl_nil ?_
     refine block_n ?_
     refine then_n ?_
     refine swp_region ?_
     refine s_pu (pu_move rfl) ?_
     refine s_pu (pu_add_as ((j + 1 : Nat) : Int) rfl rfl (by omega) (by omega) (by omega)) ?_
     refine s_pu (pu_assign rfl) ?_
     refine swl_sub _ (.cons (t := 0) rfl (.cons (t := 1) rfl (.cons (t := 6) rfl (.cons (t := 7) rfl (.cons (t := 8) rfl (.cons (t := 9) rfl .nil)))))) ?_
     refine swl_nil ?_
     exact then_n ⟨(j + 1, v'), ⟨rfl, rfl, h26', fun p hp => by
      rw [List.take_add_one, hy] at hp
      rcases List.mem_append.1 hp with hp | hp
      ·exact hrg p hp
      ·obtain rfl : p = (ky : Int) := by simpa using hp
       omega⟩, by show x.2.length - (j + 1) < x.2.length - j; omega⟩
  ·skip
   have h26' := of_decide_eq_false h26
   obtain rfl : j = x.2.length := by omega
   rw [List.take_length] at hrg ⊢
   have hvl : (valsG a x.2).length = x.2.length := List.length_map _
   rw [← hvl]
   refine swp_fact (fun m h => own_shape .here h) fun hsh9 => ?_
   refine swp_exit ?_
   refine then_x ?_
   refine then_x ?_
   refine block_hit rfl ?_
   refine then_n ?_
   refine swp_seq ?_
   refine swp_seq ?_
   refine swp_region ?_
   refine s_pu (pu_move rfl) ?_
   refine s_pu (pu_move rfl) ?_
   refine s_pu (pu_indexAddr (off + i * 1) (congrArg some hv) rfl (by omega) (by omega) (by rw [Int.toNat_natCast])) ?_
   refine s_rd (rd_ro rfl hxc) ?_
   refine s_pu (pu_move rfl) ?_
   refine s_pu (pu_len_own hform rfl) ?_
   refine s_ef (ef_fn (rtwice_spec μ x.1 x.2 a.length hxr hrg (by omega)) rfl rfl (by repeat (first | exact Split.nil | (apply Split.cons; (repeat (first | with_reducible exact Take.here | apply Take.there)))))) ?_
   rintro v57 L1 ⟨rfl, rfl⟩
   refine swl_app ?_
   refine swl_sub _ (.cons (t := 0) rfl (.cons (t := 1) rfl (.cons (t := 6) rfl (.cons (t := 7) rfl (.cons (t := 8) rfl (.cons (t := 57) rfl .nil)))))) ?_
   refine swl_nil ?_
   refine then_n ?_
   refine swp_cond (b := _) rfl (fun h57 => ?_) (fun h57 => ?_)
   ·skip
    refine swp_seq ?_
    refine swp_region ?_
    refine s_pu (pu_assign rfl) ?_
    refine s_pu (pu_assign rfl) ?_
    refine swl_sub _ (.cons (t := 4) rfl (.cons (t := 5) rfl .nil)) ?_
    refine swl_nil ?_
    refine then_n ?_
    refine swp_ret ?_
    refine then_r ?_
    refine block_r ?_
    refine then_r ?_
    refine then_r ?_
    refine block_r ?_
    refine then_r ?_
    have h57' : ¬ x.2.Nodup := by simpa using h57
    rw [if_neg (fun h => h57' (okRow_iff.1 h).2)] at hnext
    have hno := moreL_none (moreG_none hnext)
    rw [hno.1, hno.2]
    exact done_retE [own 3 1 (.slice none 0 0) 0 [], ro μ] (.tmp rfl (.tmp rfl .nil)) ⟨.slice none 0 0, rfl, rfl⟩ ((Split.ent' (K := [ro μ]) (by repeat (first | exact Split.nil | (apply Split.cons; (repeat (first | with_reducible exact Take.here | apply Take.there)))))).trans own_nil_ent)
   ·skip
    have h57' : x.2.Nodup := by simpa using h57
    rw [if_pos (okRow_iff.2 ⟨hrg, h57'⟩)] at hnext
    refine swp_skip ?_
    refine then_n ?_
    refine swp_region ?_
    refine s_pu (pu_move rfl) ?_
    refine s_pu (pu_move rfl) ?_
    refine s_ef (ef_fn (rnext_spec v9 (valsG a x.2) [own 3 1 v9 (valsG a x.2).length ((valsG a x.2).flatMap (icsk .i64))] (ints_own hsh9 .here)) rfl rfl (by repeat (first | exact Split.nil | (apply Split.cons; (repeat (first | with_reducible exact Take.here | apply Take.there)))))) ?_
    rintro v60 L1 ⟨rfl, rfl⟩
    refine swl_app ?_
    refine s_ef (ef_bldS (qs := [(0, _)]) rfl rfl rfl) ?_
    intro b61
    refine s_ef (ef_append_lit (l := a.length) (m := 1) rfl rfl (by repeat (first | exact Split.nil | (apply Split.cons; (repeat (first | with_reducible exact Take.here | apply Take.there))))) (by simp only [maxLen]; omega) (by omega)) ?_
    rintro v62 hv62
    skip
    refine s_pu (pu_assign rfl) ?_
    refine swl_sub _ (.cons (t := 0) rfl (.cons (t := 1) rfl (.cons (t := 6) rfl (.cons (t := 7) rfl .nil)))) ?_
    rw [show a.flatMap (icsk .i64) ++ [Value.int .i64 (nxt (valsG a x.2))] = (a ++ [nxt (valsG a x.2)]).flatMap (icsk .i64) by rw [List.flatMap_append]; rfl]
    refine swl_ent (Split.ent' (K := [own 3 1 v62 (a.length + 1) ((a ++ [nxt (valsG a x.2)]).flatMap (icsk .i64)), ro μ]) (by repeat (first | exact Split.nil | (apply Split.cons; (repeat (first | with_reducible exact Take.here | apply Take.there)))))) ?_
    refine swl_nil ?_
    refine block_n ?_
    refine then_n ?_
    refine swp_region ?_
    refine s_pu (pu_move rfl) ?_
    refine s_pu (pu_add_as ((i + 1 : Nat) : Int) rfl rfl (by omega) (by omega) (by omega)) ?_
    refine s_pu (pu_assign rfl) ?_
    refine swl_sub _ (.cons (t := 0) rfl (.cons (t := 1) rfl (.cons (t := 6) rfl (.cons (t := 7) rfl .nil)))) ?_
    refine swl_nil ?_
    exact then_n ⟨(i + 1, v62, a ++ [nxt (valsG a x.2)]), ⟨rfl, by rw [List.length_append]; rfl, h17', hnext⟩, by show G.length - (i + 1) < G.length - i; omega⟩
 ·skip
  have h17' := of_decide_eq_false h17
  obtain rfl : i = G.length := by omega
  rw [List.take_of_length_le (by rw [hln]; exact Nat.le_refl _)] at ha
  have hyes := moreL_some ha
  refine swp_exit ?_
  refine then_x ?_
  refine then_x ?_
  refine block_hit rfl ?_
  refine then_n ?_
  refine swp_seq ?_
  refine swp_region ?_
  refine s_pu (pu_move rfl) ?_
  refine s_pu (pu_move rfl) ?_
  refine s_pu (pu_len rfl) ?_
  refine s_pu (pu_slice_all hsh rfl rfl) ?_
  refine s_pu (pu_assign rfl) ?_
  refine s_pu (pu_assign rfl) ?_
  refine swl_sub _ (.cons (t := 4) rfl (.cons (t := 5) rfl .nil)) ?_
  refine swl_nil ?_
  refine then_n ?_
  refine swp_ret ?_
  rw [hyes.1, hyes.2]
  exact done_ret [own 3 1 v6 a.length (a.flatMap (icsk .i64)), ro μ] (.tmp rfl (.tmp rfl .nil)) ⟨v6, rfl, rfl⟩ (by repeat (first | exact Split.nil | (apply Split.cons; (repeat (first | with_reducible exact Take.here | apply Take.there)))))
theorem rall_spec (μ : PH) (vg : Value) (G : List (Value × List Int)) (hG : Graph μ vg G) (hn : G.length ≤ 1048576) (hrows : ∀ x ∈ G, x.2.length ≤ 1048576) :
  Spec Tryd.prog 31 [vg] [ro μ] (fun r L => ∃ rv, r = .tuple #[rv, .int .i64 (moreE [] (nums G))] ∧ L = [own 3 1 rv (moreL [] (nums G)).length ((moreL [] (nums G)).flatMap (icsk .i64)), ro μ]) := by
 refine Spec.of 8 Tryd.func31 rfl rfl rfl ?_
 refine swp_seq ?_
 refine swp_region ?_
 refine s_pu (pu_assign rfl) ?_
 refine s_pu (pu_assign rfl) ?_
 refine swl_sub _ (.cons (t := 0) rfl .nil) ?_
 refine swl_nil ?_
 refine then_n ?_
 refine swp_seq ?_
 refine swp_region ?_
 refine s_pu (pu_move rfl) ?_
 refine s_ef (ef_fn (rmore0_spec μ vg G hG hn hrows) rfl rfl (by repeat (first | exact Split.nil | (apply Split.cons; (repeat (first | with_reducible exact Take.here | apply Take.there)))))) ?_
 rintro v5 L1 ⟨lv, rfl, rfl⟩
 refine swl_app ?_
 first | refine s_pu (pu_extractL rfl) ?_ | refine s_pu (pu_extract rfl rfl) ?_
 first | refine s_pu (pu_extractL rfl) ?_ | refine s_pu (pu_extract rfl rfl) ?_
 refine s_pu (pu_assign rfl) ?_
 refine s_pu (pu_assign rfl) ?_
 refine swl_sub _ (.cons (t := 2) rfl (.cons (t := 3) rfl .nil)) ?_
 refine swl_nil ?_
 refine then_n ?_
 refine swp_ret ?_
 exact done_ret [own 3 1 lv (moreL [] (nums G)).length ((moreL [] (nums G)).flatMap (icsk .i64)), ro μ] (.tmp rfl (.tmp rfl .nil)) ⟨_, rfl, rfl⟩ (by repeat (first | exact Split.nil | (apply Split.cons; (repeat (first | with_reducible exact Take.here | apply Take.there)))))
end SX
namespace SX
open Go Go.Proofs

/-- a source of a graph: how often each commit was asked for its parents -/
def askV (n : Nat) (a : Nat → Nat) : List Value := ncs n (fun j => (a j : Int))
def gA (p : Nat) (vg vn : Value) (n : Nat) (a : Nat → Nat) : Assn := exA fun va : Value => [blk p 45 [vg, vn, va], own 3 1 va n (askV n a)]
theorem gA_close {p n : Nat} {vg vn va : Value} {a : Nat → Nat} {L : List Assn} : Ent (blk p 45 [vg, vn, va] :: own 3 1 va n (askV n a) :: L) (gA p vg vn n a :: L) :=
  ent_ex (F := fun va : Value => [blk p 45 [vg, vn, va], own 3 1 va n (askV n a)]) va (by repeat (first | exact Split.nil | (apply Split.cons; (repeat (first | with_reducible exact Take.here | apply Take.there)))))
theorem gcommits_spec (p n : Nat) (vg vn : Value) (a : Nat → Nat) (hg : ∃ A c, vg = .slice A n c) : Spec Tryd.prog 111 [.pointer (some ⟨p, 0, none⟩)] [gA p vg vn n a] (fun r L => r = .int .i64 (n : Nat) ∧ L = [gA p vg vn n a]) := by
 obtain ⟨A, c, rfl⟩ := hg
 refine Spec.exA' fun va => ?_
 simp only [List.cons_append, List.nil_append]
 refine Spec.ent3 (post := fun r L => r = .int .i64 (n : Nat) ∧ L = [blk p 45 [.slice A n c, vn, va], own 3 1 va n (askV n a)]) ?_ (fun v L ⟨h1, h2⟩ => ⟨_, by rw [h2]; exact gA_close, h1, rfl⟩)
 refine Spec.of 8 Tryd.func111 rfl rfl rfl ?_
 refine swp_seq ?_
 refine swp_region ?_
 refine s_pu (pu_assign rfl) ?_
 refine swl_sub _ (.cons (t := 0) rfl .nil) ?_
 refine swl_nil ?_
 refine then_n ?_
 refine swp_seq ?_
 refine swp_region ?_
 refine s_pu (pu_move rfl) ?_
 first | refine s_pu (pu_nilCheck rfl) ?_ | refine s_pu (pu_nilCheck_fn rfl) ?_ | refine s_pu (pu_nilCheck_if rfl) ?_
 first | refine s_pu (pu_fieldAddr0 rfl) ?_ | refine s_pu (pu_fieldAddr rfl) ?_
 refine s_rd (rd_load rfl rfl) ?_
 refine s_pu (pu_len rfl) ?_
 refine s_pu (pu_assign rfl) ?_
 refine swl_sub _ (.cons (t := 2) rfl .nil) ?_
 refine swl_nil ?_
 refine then_n ?_
 refine swp_ret ?_
 exact done_ret [blk p 45 [.slice A n c, vn, va], own 3 1 va n (askV n a)] (.tmp rfl .nil) ⟨rfl, rfl⟩ (by repeat (first | exact Split.nil | (apply Split.cons; (repeat (first | with_reducible exact Take.here | apply Take.there)))))
def ask1 (a : Nat → Nat) (c : Nat) : Nat → Nat := fun j => if j = c then a j + 1 else a j
theorem gparents_spec (μ : PH) (p : Nat) (vg vn : Value) (a : Nat → Nat) (G : List (Value × List Int)) (c : Nat) (hG : Graph μ vg G) (hc : c < G.length) (ha : a c ≤ 4611686018427387904) (hr : ∀ x ∈ G, x.2.length ≤ 1048576) :
  Spec Tryd.prog 113 [.pointer (some ⟨p, 0, none⟩), .int .i64 (c : Nat)] [gA p vg vn G.length a, ro μ]
   (fun r L => ∃ μ', Le μ μ' ∧ Row μ' r 1 (rowOf (nums G) c).length ((rowOf (nums G) c).flatMap (icsk .i64)) ∧ L = [gA p vg vn G.length (ask1 a c), ro μ']) := by
 refine Spec.exA' fun va => ?_
 simp only [List.cons_append, List.nil_append]
 obtain ⟨gb, off, cap, x, hv, hx, hxc, hxr, hnx⟩ := row_at hG hc
 have hxl := hr x (List.mem_of_getElem? hx)
 have hrow : rowOf (nums G) c = x.2 := rowOf_at hnx
 rw [hrow]
 refine Spec.ent3 (post := fun r L => ∃ μ' va, Le μ μ' ∧ Row μ' r 1 x.2.length (x.2.flatMap (icsk .i64)) ∧ L = [blk p 45 [vg, vn, va], own 3 1 va G.length (askV G.length (ask1 a c)), ro μ']) ?_ (fun v L ⟨μ', va, h1, h2, h3⟩ => ⟨_, by rw [h3]; exact gA_close, μ', h1, h2, rfl⟩)
 refine Spec.of 34 Tryd.func113 rfl rfl rfl ?_
 refine swp_seq ?_
 refine swp_region ?_
 refine s_pu (pu_assign rfl) ?_
 refine swl_sub _ (.cons (t := 0) rfl (.cons (t := 1) rfl .nil)) ?_
 refine swl_nil ?_
 refine then_n ?_
 refine swp_seq ?_
 refine swp_seq ?_
 refine swp_region ?_
 refine s_pu (pu_move rfl) ?_
 refine s_pu (pu_lss rfl rfl) ?_
 refine s_pu (pu_move rfl) ?_
 refine s_split 7 rfl (fun h7 => by exfalso; have h7' := of_decide_eq_true h7; omega) (fun h7 => ?_)
 refine s_on rfl rfl ?_
 refine s_pu (pu_move rfl) ?_
 refine s_on rfl rfl ?_
 refine s_pu (pu_move rfl) ?_
 refine s_on rfl rfl ?_
 first | refine s_pu (pu_nilCheck rfl) ?_ | refine s_pu (pu_nilCheck_fn rfl) ?_ | refine s_pu (pu_nilCheck_if rfl) ?_
 refine s_on rfl rfl ?_
 first | refine s_pu (pu_fieldAddr0 rfl) ?_ | refine s_pu (pu_fieldAddr rfl) ?_
 refine s_on rfl rfl ?_
 refine s_rd (rd_load rfl rfl) ?_
 refine s_on rfl rfl ?_
 refine s_pu (pu_len_row hG.1 rfl) ?_
 refine s_on rfl rfl ?_
 refine s_pu (pu_geq rfl rfl) ?_
 first | refine s_pu (pu_pick_t rfl rfl) ?_ | refine s_pu (pu_pick_f rfl rfl) ?_
 refine swl_sub _ (.cons (t := 0) rfl (.cons (t := 1) rfl (.cons (t := 15) rfl .nil))) ?_
 refine swl_nil ?_
 refine then_n ?_
 refine swp_cond (b := _) rfl (fun h15 => by exfalso; have h15' := of_decide_eq_true h15; omega) (fun h15 => ?_)
 refine swp_skip ?_
 refine then_n ?_
 refine swp_seq ?_
 refine swp_ent (Split.ent' (K := [own 3 1 va G.length (askV G.length a), blk p 45 [vg, vn, va], ro μ]) (by repeat (first | exact Split.nil | (apply Split.cons; (repeat (first | with_reducible exact Take.here | apply Take.there)))))) ?_
 refine swp_own (fun _ h0 _ => by omega) (fun b1 c1 ex1 hv1 w1 w2 w3 w4 => ?_)
 subst hv1
 refine swp_region ?_
 refine s_pu (pu_move rfl) ?_
 first | refine s_pu (pu_nilCheck rfl) ?_ | refine s_pu (pu_nilCheck_fn rfl) ?_ | refine s_pu (pu_nilCheck_if rfl) ?_
 first | refine s_pu (pu_fieldAddr0 rfl) ?_ | refine s_pu (pu_fieldAddr rfl) ?_
 refine s_rd (rd_load rfl rfl) ?_
 refine s_pu (pu_move rfl) ?_
 refine s_pu (pu_indexAddr c rfl rfl (by omega) (by omega) (by omega)) ?_
 refine s_rd (rd_load rfl (by rw [List.getElem?_append_left (by unfold askV; rw [ncs_len]; exact hc)]; exact ncs_get _ hc)) ?_
 refine s_pu (pu_add_as ((a c + 1 : Nat) : Int) rfl rfl (by omega) (by omega) (by omega)) ?_
 refine s_pu (pu_indexAddr c rfl rfl (by omega) (by omega) (by omega)) ?_
 refine s_ef0 (ef_storeP rfl rfl rfl (by rw [List.length_append]; unfold askV; rw [ncs_len]; omega)) ?_
 refine swl_sub _ (.cons (t := 0) rfl (.cons (t := 1) rfl .nil)) ?_
 rw [List.set_append_left (h := by unfold askV; rw [ncs_len]; exact hc), show (askV G.length a).set c (.int .i64 ((a c + 1 : Nat) : Int)) = askV G.length (ask1 a c) from ncs_set (fun j => by
  unfold ask1
  by_cases e : j = c
  ·subst e; rw [if_pos rfl, if_pos rfl]
  ·rw [if_neg e, if_neg e])]
 refine swl_ent (own_close (n := 1) (by unfold askV; rw [ncs_len]; omega) w4 w1 w2) ?_
 refine swl_nil ?_
 refine then_n ?_
 refine swp_seq ?_
 refine swp_region ?_
 refine s_ef (ef_bldS (qs := []) rfl rfl rfl) ?_
 intro b25
 refine swl_ent (own_empty (e := 3) (n := 1)) ?_
 refine s_pu (pu_move rfl) ?_
 first | refine s_pu (pu_nilCheck rfl) ?_ | refine s_pu (pu_nilCheck_fn rfl) ?_ | refine s_pu (pu_nilCheck_if rfl) ?_
 first | refine s_pu (pu_fieldAddr0 rfl) ?_ | refine s_pu (pu_fieldAddr rfl) ?_
 refine s_rd (rd_load rfl rfl) ?_
 refine s_pu (pu_move rfl) ?_
 refine s_pu (pu_indexAddr (off + c * 1) (congrArg some hv) rfl (by omega) (by omega) (by rw [Int.toNat_natCast])) ?_
 refine s_rd (rd_ro rfl hxc) ?_
 refine s_ef (ef_append_ro hxr rfl rfl (by repeat (first | exact Split.nil | (apply Split.cons; (repeat (first | with_reducible exact Take.here | apply Take.there))))) (icsk_one _) (by simp only [maxLen]; omega) (by omega)) ?_
 rintro v33 -
 rw [Nat.zero_add, List.nil_append]
 refine swl_share_own (v := v33) (μ := μ) (by repeat (first | exact Split.nil | (apply Split.cons; (repeat (first | with_reducible exact Take.here | apply Take.there))))) fun μ' h' hrow' => ?_
 refine s_pu (pu_assign rfl) ?_
 refine swl_sub _ (.cons (t := 4) rfl .nil) ?_
 refine swl_nil ?_
 refine then_n ?_
 refine swp_ret ?_
 exact done_ret [blk p 45 [vg, vn, .slice (some ⟨b1, 0, none⟩) G.length c1], own 3 1 (.slice (some ⟨b1, 0, none⟩) G.length c1) G.length (askV G.length (ask1 a c)), ro μ'] (.tmp rfl .nil) ⟨μ', _, h', hrow', rfl⟩ (by repeat (first | exact Split.nil | (apply Split.cons; (repeat (first | with_reducible exact Take.here | apply Take.there)))))
end SX
namespace SX
open Go Go.Proofs

/-- a source of commits -/
structure Src where
  t : TypeId
  v : Value
  d : Nat
  hd : d ≤ 7
  g : List (List Int)
  hg : Good g
  hn : g.length ≤ 65536
  σ : Type
  A : σ → PH → Assn
  mono : ∀ {s μ μ'}, Le μ μ' → Ent [A s μ] [A s μ']
  ok : σ → Nat → Prop
  step : σ → Nat → σ
  μ0 : PH
  commits : ∀ s μ, InvS Tryd.prog d t v "Commits" [] [A s μ] (fun r L => r = .int .i64 (g.length : Nat) ∧ L = [A s μ])
  parents : ∀ s μ (c : Nat), Le μ0 μ → c < g.length → ok s c → InvS Tryd.prog d t v "Parents" [.int .i64 (c : Nat)] [A s μ, ro μ] (fun r L => ∃ μ', Le μ μ' ∧ Row μ' r 1 (rowOf g c).length ((rowOf g c).flatMap (icsk .i64)) ∧ L = [A (step s c) μ', ro μ'])
abbrev Src.n (X : Src) : Nat := X.g.length
abbrev Src.sv (X : Src) : Value := .iface X.t X.v
theorem Src.up {X : Src} {s : X.σ} {μ μ' : PH} {L R : List Assn} (h : Le μ μ') (hL : Split L [X.A s μ] R) : Ent L (X.A s μ' :: R) := hL.ent.trans (Ent.app (X.mono h))
theorem put_w (p n : Nat) (S : Nat → Bool) (k : Int) : Spec Tryd.prog 55 [.pointer (some ⟨p, 0, none⟩), .int .i64 k] [mset p n S] (fun r L => r = .bool (newW n S k) ∧ L = [mset p n (putS n S k)]) := put_m p n S k
theorem clampM_id {n : Nat} (h : n ≤ 65536) : clampM (n : Int) = n := by unfold clampM; omega
theorem WkOk.start (n : Nat) : WkOk n (fun _ => false, []) := ⟨.nil, fun _ h => (by cases h), fun _ h => (by cases h)⟩
theorem seenN_none (n : Nat) : seenN n (fun _ => false) = 0 := by unfold seenN; rw [List.filter_eq_nil_iff.2 (fun _ _ h => by cases h)]; rfl
end SX
namespace SX
open Go Go.Proofs
instance : TIface Tryd.prog 89 := ⟨⟨_, Tryd.underlying89⟩⟩

def Src.at_ (X : Src) (s0 : X.σ) (μ : PH) (ys : List Nat) : Assn := exA fun m : {m : PH // Le μ m} => [X.A (ys.foldl X.step s0) m.1, ro m.1]
end SX
namespace SX
open Go Go.Proofs

def askedE (n : Nat) (ls : List (List Int)) : Int := if (ls.all fun l => l.all (inR n)) = true then 0 else 9
end SX
namespace SX
open Go Go.Proofs

end SX
namespace SX
open Go Go.Proofs

end SX
namespace SX
open Go Go.Proofs

end SX
namespace SX
open Go Go.Proofs

/-- it may be asked for any commits, each once -/
def Src.fine (X : Src) (s0 : X.σ) : Prop := ∀ (ys : List Nat) (c : Nat), ys.Nodup → c ∉ ys → (∀ y ∈ ys, y < X.g.length) → c < X.g.length → X.ok (ys.foldl X.step s0) c
theorem falls_nodup {l : List Nat} (h : Falls l) : l.Nodup := h.imp fun h e => by omega
theorem Src.fine.down {X : Src} {s0 : X.σ} (h : X.fine s0) (xs : List Int) : ∀ pre x post, downL X.g xs = pre ++ x :: post → X.ok (pre.foldl X.step s0) x := fun pre x post e => by
  obtain ⟨h1, h2, _⟩ := downL_spec X.hg xs
  rw [e] at h1 h2
  have hn := falls_nodup h1
  rw [List.nodup_append] at hn
  exact h pre x hn.1 (fun hx => hn.2.2 x hx x (List.mem_cons_self ..) rfl) (fun y hy => h2 y (List.mem_append_left _ hy)) (h2 x (List.mem_append_right _ (List.mem_cons_self ..)))
end SX
namespace SX
open Go Go.Proofs

theorem has_w (p n : Nat) (S : Nat → Bool) (k : Nat) : Spec Tryd.prog 56 [.pointer (some ⟨p, 0, none⟩), .int .i64 (k : Nat)] [mset p n S] (fun r L => r = .bool (S k) ∧ L = [mset p n S]) := by
  have h := has_m p n S (k : Int)
  rw [decide_eq_true (show (0 : Int) ≤ (k : Int) by omega), Int.toNat_natCast, Bool.true_and] at h
  exact h
/-- what only some reach -/
def onlyE (g : List (List Int)) (xs ys : List Int) : Int := askedE g.length [xs, ys]
def askedIn (n : Nat) (zs : List Nat) : Prop := zs.Nodup ∧ ∀ y ∈ zs, y < n
theorem askedE_in {n : Nat} {ls : List (List Int)} (h : askedE n ls = 0) {l : List Int} (hl : l ∈ ls) : ∀ p ∈ l, 0 ≤ p ∧ p < n := by
  unfold askedE at h
  split at h
  · rename_i ha
    intro p hp
    have := List.all_eq_true.1 (List.all_eq_true.1 ha l hl) p hp
    simpa [inR] using this
  · cases h
end SX
namespace SX
open Go Go.Proofs

end SX
namespace SX
open Go Go.Proofs

theorem own_full {e n b : Nat} {xs : List Value} {L : List Assn} (h : xs.length = n) (hm : n ≤ maxLen) : Ent (blk b e xs :: L) (own e 1 (.slice (some ⟨b, 0, none⟩) n n) n xs :: L) := by
  have := own_close (e := e) (n := 1) (b := b) (l := n) (cap := n) (xs := xs) (ex := []) (L := L) (by omega) (by simp) (Nat.le_refl _) hm
  rwa [List.append_nil] at this
def noAsk : Nat → Nat := fun _ => 0
end SX
namespace SX
open Go Go.Proofs

theorem ncs_of (a : List Int) : a.flatMap (icsk .i64) = ncs a.length (fun j => a.getD j 0) := by
  apply List.ext_getElem?
  intro j
  by_cases h : j < a.length
  · rw [icells_get' (List.getElem?_eq_getElem h), ncs_get _ h, List.getD_eq_getElem?_getD, List.getElem?_eq_getElem h]; rfl
  · rw [List.getElem?_eq_none (by rw [icells_len']; omega), List.getElem?_eq_none (by rw [ncs_len]; omega)]
theorem ncs_cut (k : Nat) (a : List Int) : (cutG k a).flatMap (icsk .i64) = ncs a.length (fun j => if j < k then a.getD j 0 else 1024) := by
  unfold cutG ncs
  rw [List.flatMap_map]
  generalize List.range a.length = l
  induction l with
  | nil => rfl
  | cons x l ih => rw [List.flatMap_cons, List.map_cons, ih]; rfl
theorem ncs_ext {n : Nat} {c d : Nat → Int} (h : ∀ j, j < n → c j = d j) : ncs n c = ncs n d := by
  unfold ncs
  apply List.map_congr_left
  intro j hj
  rw [h j (List.mem_range.1 hj)]
theorem ask_no {c : Nat} : ∀ {ys : List Nat} {a : Nat → Nat}, c ∉ ys → (ys.foldl ask1 a) c = a c
  | [], _, _ => rfl
  | y :: ys, a, h => by
    rw [List.foldl_cons, ask_no (fun hc => h (List.mem_cons_of_mem _ hc))]
    unfold ask1
    rw [if_neg (fun e => h (by rw [e]; exact List.mem_cons_self ..))]
theorem ask_le {m c : Nat} : ∀ {ys : List Nat} {a : Nat → Nat}, ys.Nodup → a c ≤ m → (ys.foldl ask1 a) c ≤ m + 1
  | [], _, _, h => by show _ ≤ _; exact Nat.le_succ_of_le h
  | y :: ys, a, hn, h => by
    rw [List.foldl_cons]
    obtain ⟨h1, h2⟩ := List.nodup_cons.1 hn
    by_cases e : c = y
    · subst e
      rw [ask_no h1]
      unfold ask1
      rw [if_pos rfl]; omega
    · exact ask_le h2 (by unfold ask1; rw [if_neg e]; exact h)
section
variable {p : Nat} {vg vn : Value} {G : List (Value × List Int)} {μ : PH} {hG : Graph μ vg G} {hg : Good (nums G)} {hn : G.length ≤ 65536} {hr : ∀ x ∈ G, x.2.length ≤ 1048576}
end
end SX
namespace SX
open Go Go.Proofs

/-- a good source -/
structure GS (μ : PH) (vg vn : Value) (G : List (Value × List Int)) (gs : List Int) (k : Nat) : Prop where
  hG : Graph μ vg G
  ha : moreG [] (nums G) = some gs
  hv : Row μ vn 1 (cutG k gs).length ((cutG k gs).flatMap (icsk .i64))
  hn : G.length ≤ 65536
  hr : ∀ x ∈ G, x.2.length ≤ 1048576
theorem GS.le {μ μ' : PH} {vg vn : Value} {G : List (Value × List Int)} {gs : List Int} {k : Nat} (h : GS μ vg vn G gs k) (l : Le μ μ') : GS μ' vg vn G gs k := ⟨h.hG.le l, h.ha, h.hv.le l, h.hn, h.hr⟩
section
variable {μ : PH} {vg vn : Value} {G : List (Value × List Int)} {gs : List Int} {k : Nat}
theorem GS.good (h : GS μ vg vn G gs k) : Good (nums G) := gens_good h.ha
end
abbrev LawOk (μ : PH) (r : Value) (L : List Assn) : Prop := r = .bool true ∧ ∃ μ' R, Le μ μ' ∧ L = ro μ' :: R
end SX
namespace SX
open Go Go.Proofs

def GoodIs (G : List (Value × List Int)) (mo : Nat) (kn : Int) (μ' : PH) (o : Option Addr) (A : Assn) : Prop :=
  (o = none ∧ ¬ chkFrom 0 (nums (G.take (min G.length mo))) = 0) ∨ ∃ p v' vn gs, o = some ⟨p, 0, none⟩ ∧ GS μ' v' vn (G.take (min G.length mo)) gs kn.toNat ∧ A = gA p v' vn (G.take (min G.length mo)).length noAsk
end SX
namespace SX
open Go Go.Proofs

/-! bits of paints -/
theorem pu_or_nat {P : Program} {env : Env} {t u : TypeId} {x y : Operand} (a b : Nat) (hx : evalE env x = some (.int .i64 (a : Nat))) (hy : evalE env y = some (.int .i64 (b : Nat))) (ha : a < 4611686018427387904) (hb : b < 4611686018427387904) : Pu P env (.binOp .or t x y u) (.int .i64 ((a ||| b : Nat) : Int)) := fun ρ hρ _ _ _ _ _ w => by
  have hg : ∀ X Y, eqGuard .or t X Y (.int .i64 (a : Nat)) (.int .i64 (b : Nat)) = pure () := fun _ _ => by simp [eqGuard]
  have hle : a ||| b < 4611686018427387904 := Nat.or_lt_two_pow (n := 62) ha hb
  have hb' : (binOp .or t (.int .i64 (a : Nat)) (.int .i64 (b : Nat)) : Sem Value) = pure (.int .i64 ((a ||| b : Nat) : Int)) := by
    have e : (binOp .or t (.int .i64 (a : Nat)) (.int .i64 (b : Nat)) : Sem Value) = Op.intBits .or .i64 a b := by simp [binOp]
    rw [e]
    show (let a' : BitVec 64 := BitVec.ofInt 64 a; let b' : BitVec 64 := BitVec.ofInt 64 b; pure (.int .i64 (IntKind.i64.wrap (a' ||| b').toNat)) : Sem Value) = _
    have e1 : (BitVec.ofInt 64 (a : Int)).toNat = a := by rw [BitVec.ofInt_natCast, BitVec.toNat_ofNat]; exact Nat.mod_eq_of_lt (by omega)
    have e2 : (BitVec.ofInt 64 (b : Int)).toNat = b := by rw [BitVec.ofInt_natCast, BitVec.toNat_ofNat]; exact Nat.mod_eq_of_lt (by omega)
    simp only [BitVec.toNat_or, e1, e2]
    rw [wrap_i64 (by omega) (by omega)]
  simp only [execOp, hρ x _ hx, hρ y _ hy, Sem.run_bind, hg, hb', Sem.run_pure, Result.andThen_ok]
theorem pu_or_v {P : Program} {env : Env} {t u : TypeId} {x y : Operand} {a b : Nat} (ha : isV a) (hb : b < 8) (hx : evalE env x = some (.int .i64 (a : Nat))) (hy : evalE env y = some (.int .i64 (b : Nat))) : Pu P env (.binOp .or t x y u) (.int .i64 ((a ||| b : Nat) : Int)) :=
  pu_or_nat a b hx hy (by have := ha.lt; omega) (by omega)
theorem pu_and_v {P : Program} {env : Env} {t u : TypeId} {x y : Operand} {a : Nat} (b : Nat) (ha : isV a) (hb : b < 8) (hx : evalE env x = some (.int .i64 (a : Nat))) (hy : evalE env y = some (.int .i64 (b : Nat))) : Pu P env (.binOp .and t x y u) (.int .i64 ((a &&& b : Nat) : Int)) :=
  pu_and_nat a b hx hy (by have := ha.lt; omega) (by omega)
theorem four_v {a : Nat} (ha : isV a) : decide (((a &&& 4 : Nat) : Int) = 0) = decide (a < 4) := by rcases ha with rfl | rfl | rfl | rfl | rfl <;> decide
theorem three_v {a : Nat} (ha : isV a) (h : a < 4) : decide (((a &&& 3 : Nat) : Int) = 3) = decide (a = 3) := by rcases ha with rfl | rfl | rfl | rfl | rfl <;> first | decide | omega
theorem pu_four {P : Program} {env : Env} {t u : TypeId} {x y : Operand} {a : Nat} (ha : isV a) (hx : evalE env x = some (.int .i64 ((a &&& 4 : Nat) : Int))) (hy : evalE env y = some (.int .i64 0)) : Pu P env (.binOp .eql t x y u) (.bool (decide (a < 4))) := by
  rw [← four_v ha]; exact pu_eql hx hy
theorem pu_three {P : Program} {env : Env} {t u : TypeId} {x y : Operand} {a : Nat} (ha : isV a) (h : a < 4) (hx : evalE env x = some (.int .i64 ((a &&& 3 : Nat) : Int))) (hy : evalE env y = some (.int .i64 3)) : Pu P env (.binOp .eql t x y u) (.bool (decide (a = 3))) := by
  rw [← three_v ha h]; exact pu_eql hx hy

/-! the map of paints -/
def pmapOk (P : Nat → Nat) (l : Ents Int) : Prop := ∀ c : Nat, mlook l (c : Int) = if P c = 0 then none else some (.int .i64 (P c : Nat))
def mpP (b : Nat) (P : Nat → Nat) : Assn := exA fun k : {k : Ents Int × Nat // pmapOk P k.1} => [mpe b ikv k.1.1 k.1.2]
theorem mpP_close {b : Nat} {P : Nat → Nat} {l : Ents Int} {c : Nat} {L : List Assn} (h : pmapOk P l) : Ent (mpe b ikv l c :: L) (mpP b P :: L) :=
  ent_ex (F := fun k : {k : Ents Int × Nat // pmapOk P k.1} => [mpe b ikv k.1.1 k.1.2]) ⟨(l, c), h⟩ (by repeat (first | exact Split.nil | (apply Split.cons; (repeat (first | with_reducible exact Take.here | apply Take.there)))))
theorem pmap_get {P : Nat → Nat} {l : Ents Int} (h : pmapOk P l) (c : Nat) : (mlook l (c : Int)).getD (Value.int .i64 0) = Value.int .i64 (P c : Nat) ∧ (mlook l (c : Int)).isSome = decide (P c ≠ 0) := by
  rw [h]
  by_cases e : P c = 0
  · rw [if_pos e, e]; exact ⟨rfl, rfl⟩
  · rw [if_neg e]; exact ⟨rfl, (decide_eq_true e).symm⟩
theorem pmap_upd {s : PS} {l : Ents Int} (h : pmapOk s.1 l) (c k : Nat) {v : Nat} (hne : s.1 c ||| v ≠ 0) : pmapOk (addP s c v).1 (upd l k (c : Int) (.int .i64 ((s.1 c ||| v : Nat) : Int))) := fun j => by
  rw [mlook_upd, h]
  show _ = if (if j = c then s.1 j ||| v else s.1 j) = 0 then none else some (Value.int .i64 ((if j = c then s.1 j ||| v else s.1 j : Nat) : Int))
  by_cases e : j = c
  · subst e
    rw [if_pos rfl, if_pos rfl, if_neg hne]
  · rw [if_neg (fun h => e (by omega)), if_neg e]
theorem pmap_nil : pmapOk (fun _ => 0) [] := fun _ => rfl
theorem rd_pmap2 {env : Env} {L : List Assn} {b k : Nat} {P : Nat → Nat} {l : Ents Int} {m x : Operand} [InM b L ikv l k] (h : pmapOk P l) (c : Nat) (hx : evalE env m = some (.map (some b))) (hy : evalE env x = some (.int .i64 (c : Nat))) : Rd Tryd.prog env L (.lookup 111 m x true) (.tuple #[.int .i64 (P c : Nat), .bool (decide (P c ≠ 0))]) := by
  have := rd_mlook2 (P := Tryd.prog) (t := 111) (kv := ikv) (L := L) (l := l) (c := k) (b := b) (c : Int) hx hy
  rwa [(pmap_get h c).1, (pmap_get h c).2] at this
theorem rd_pmap {env : Env} {L : List Assn} {b k : Nat} {P : Nat → Nat} {l : Ents Int} {m x : Operand} [InM b L ikv l k] (h : pmapOk P l) (c : Nat) (hx : evalE env m = some (.map (some b))) (hy : evalE env x = some (.int .i64 (c : Nat))) : Rd Tryd.prog env L (.lookup 111 m x false) (.int .i64 (P c : Nat)) := by
  have := rd_mlook (P := Tryd.prog) (t := 111) (kv := ikv) (L := L) (l := l) (c := k) (b := b) (c : Int) hx hy
  rwa [(pmap_get h c).1] at this
abbrev ptB (p : Nat) (sv : Value) (n mb q F : Nat) : Assn := blk p 116 [sv, .int .i64 (n : Nat), .map (some mb), .pointer (some ⟨q, 0, none⟩), .int .i64 (F : Nat)]
/-- how many were painted -/
def seenP (n : Nat) (P : Nat → Nat) : Nat := seenN n fun k => decide (P k ≠ 0)
theorem seenP_add {n : Nat} {s : PS} {c v : Nat} (hc : c < n) (hne : s.1 c ||| v ≠ 0) : seenP n (addP s c v).1 = if s.1 c = 0 then seenP n s.1 + 1 else seenP n s.1 := by
  have e : (fun k => decide ((addP s c v).1 k ≠ 0)) = fun j => decide (s.1 j ≠ 0) || decide (j = c) := funext fun j => by
    show decide ((if j = c then s.1 j ||| v else s.1 j) ≠ 0) = _
    by_cases e : j = c
    · subst e; rw [if_pos rfl, decide_eq_true hne]; simp
    · rw [if_neg e, decide_eq_false e, Bool.or_false]
  unfold seenP
  rw [e]
  by_cases h0 : s.1 c = 0
  · rw [if_pos h0, seenN_put (by simpa using h0) hc]
  · rw [if_neg h0]
    congr 1
    funext j
    by_cases e : j = c
    · subst e; rw [decide_eq_true h0]; simp
    · rw [decide_eq_false e, Bool.or_false]
theorem addP_new {s : PS} {c v : Nat} (h : s.1 c = 0) : (addP s c v).2 = insD c s.2 := if_pos h
theorem addP_old {s : PS} {c v : Nat} (h : s.1 c ≠ 0) : (addP s c v).2 = s.2 := if_neg h
theorem or_ne {a v : Nat} (h : v ≠ 0) : a ||| v ≠ 0 := by
  have : v ≤ a ||| v := Nat.right_le_or
  omega
set_option maxHeartbeats 2000000 in
theorem padd_spec (p n m mb q : Nat) (sv : Value) (s : PS) (c v : Nat) (hn : n ≤ 65536) (hI : PI n m s) (hm : m ≤ n) (hc : c < m) (hv : isV v) (h0 : v ≠ 0) :
  Spec Tryd.prog 38 [.pointer (some ⟨p, 0, none⟩), .int .i64 (c : Nat), .int .i64 (v : Nat)] [ptB p sv n mb q (frP s), mpP mb s.1, Bq.cq q s.2 (seenP n s.1)]
   (fun r L => r = .tuple #[] ∧ L = [ptB p sv n mb q (frP (addP s c v)), mpP mb (addP s c v).1, Bq.cq q (addP s c v).2 (seenP n (addP s c v).1)]) := by
 have hne := or_ne (a := s.1 c) h0
 have hql := falls_len hI.falls hI.lt
 have hsl := seenN_le n fun k => decide (s.1 k ≠ 0)
 have hse := seenP_add (v := v) (show c < n by omega) hne
 obtain ⟨f1, f2, f3⟩ := frP_add hI hc hv
 have hfl := frP_le hI
 have hva := hI.val c
 have hvo := hva.or hv
 have hww : pWas s c = (decide (s.1 c ≠ 0) && decide (s.1 c < 4)) := rfl
 have hii : pIs s c v = decide (s.1 c ||| v < 4) := rfl
 refine Spec.pre ?_ Ent.swap
 refine Spec.exA' fun ⟨⟨l, k⟩, hl⟩ => ?_
 simp only [List.cons_append, List.nil_append]
 dsimp only at hl ⊢
 refine Spec.ent3 (post := fun r L => ∃ k', r = .tuple #[] ∧ L = [mpe mb ikv (upd l k (c : Int) (.int .i64 ((s.1 c ||| v : Nat) : Int))) k', ptB p sv n mb q (frP (addP s c v)), Bq.cq q (addP s c v).2 (seenP n (addP s c v).1)]) ?_
  (fun r L ⟨k', h1, h2⟩ => ⟨_, by rw [h2]; exact (mpP_close (pmap_upd hl c k hne)).trans Ent.swap, h1, rfl⟩)
 refine Spec.of 80 Tryd.func38 rfl rfl rfl ?_
 refine swp_seq ?_
 refine swp_seq ?_
 refine swp_region ?_
 refine s_pu (pu_move rfl) ?_
 refine s_pu (pu_lss rfl rfl) ?_
 refine s_pu (pu_move rfl) ?_
 refine s_split 12 rfl (fun h12 => by exfalso; have := of_decide_eq_true h12; omega) (fun h12 => ?_)
 refine s_on rfl rfl ?_
 refine s_pu (pu_move rfl) ?_
 refine s_on rfl rfl ?_
 refine s_pu (pu_move rfl) ?_
 refine s_on rfl rfl ?_
 first | refine s_pu (pu_nilCheck rfl) ?_ | refine s_pu (pu_nilCheck_fn rfl) ?_ | refine s_pu (pu_nilCheck_if rfl) ?_
 refine s_on rfl rfl ?_
 first | refine s_pu (pu_fieldAddr0 rfl) ?_ | refine s_pu (pu_fieldAddr rfl) ?_
 refine s_on rfl rfl ?_
 refine s_rd (rd_load rfl rfl) ?_
 refine s_on rfl rfl ?_
 refine s_pu (pu_geq rfl rfl) ?_
 first | refine s_pu (pu_pick_t rfl rfl) ?_ | refine s_pu (pu_pick_f rfl rfl) ?_
 refine swl_sub _ (.cons (t := 0) rfl (.cons (t := 1) rfl (.cons (t := 2) rfl (.cons (t := 19) rfl .nil)))) ?_
 refine swl_nil ?_
 refine then_n ?_
 refine swp_cond (b := _) rfl (fun h19 => by exfalso; have := of_decide_eq_true h19; omega) (fun h19 => ?_)
 refine swp_skip ?_
 refine then_n ?_
 refine swp_seq ?_
 refine swp_region ?_
 refine s_pu (pu_move rfl) ?_
 first | refine s_pu (pu_nilCheck rfl) ?_ | refine s_pu (pu_nilCheck_fn rfl) ?_ | refine s_pu (pu_nilCheck_if rfl) ?_
 first | refine s_pu (pu_fieldAddr0 rfl) ?_ | refine s_pu (pu_fieldAddr rfl) ?_
 refine s_rd (rd_load rfl rfl) ?_
 refine s_pu (pu_move rfl) ?_
 refine s_rd (rd_pmap2 hl c rfl rfl) ?_
 refine s_pu (pu_move rfl) ?_
 first | refine s_pu (pu_extractL rfl) ?_ | refine s_pu (pu_extract rfl rfl) ?_
 first | refine s_pu (pu_extractL rfl) ?_ | refine s_pu (pu_extract rfl rfl) ?_
 refine s_pu (pu_assign rfl) ?_
 refine s_pu (pu_assign rfl) ?_
 refine swl_sub _ (.cons (t := 0) rfl (.cons (t := 1) rfl (.cons (t := 2) rfl (.cons (t := 6) rfl (.cons (t := 7) rfl .nil))))) ?_
 refine swl_nil ?_
 refine then_n ?_
 refine swp_seq ?_
 refine swp_region ?_
 refine s_pu (pu_move rfl) ?_
 first | refine s_pu (pu_nilCheck rfl) ?_ | refine s_pu (pu_nilCheck_fn rfl) ?_ | refine s_pu (pu_nilCheck_if rfl) ?_
 first | refine s_pu (pu_fieldAddr0 rfl) ?_ | refine s_pu (pu_fieldAddr rfl) ?_
 refine s_rd (rd_load rfl rfl) ?_
 refine s_pu (pu_move rfl) ?_
 refine s_pu (pu_move rfl) ?_
 refine s_pu (pu_move rfl) ?_
 refine s_pu (pu_or_v hva hv.lt rfl rfl) ?_
 refine s_ef0 (ef_upd (kv := ikv) _ rfl rfl rfl (by repeat (first | exact Split.nil | (apply Split.cons; (repeat (first | with_reducible exact Take.here | apply Take.there)))))) ?_
 refine swl_sub _ (.cons (t := 0) rfl (.cons (t := 1) rfl (.cons (t := 2) rfl (.cons (t := 6) rfl (.cons (t := 7) rfl .nil))))) ?_
 refine swl_nil ?_
 refine then_n ?_
 refine swp_seq ?_
 refine swp_seq ?_
 refine swp_region ?_
 refine s_pu (pu_move rfl) ?_
 refine s_pu (pu_not rfl) ?_
 refine swl_sub _ (.cons (t := 0) rfl (.cons (t := 1) rfl (.cons (t := 2) rfl (.cons (t := 6) rfl (.cons (t := 7) rfl (.cons (t := 38) rfl .nil)))))) ?_
 refine swl_nil ?_
 refine then_n ?_
 refine swp_cond (b := _) rfl (fun h38 => ?_) (fun h38 => ?_)
 ·skip
  have hz : s.1 c = 0 := by simpa using h38
  have hqn : c ∉ s.2 := fun hq => (hI.seen c hc).2 hq hz
  have hw : pWas s c = false := by rw [hww, hz]; rfl
  rw [if_pos hz] at hse
  refine swp_region ?_
  refine s_pu (pu_move rfl) ?_
  first | refine s_pu (pu_nilCheck rfl) ?_ | refine s_pu (pu_nilCheck_fn rfl) ?_ | refine s_pu (pu_nilCheck_if rfl) ?_
  first | refine s_pu (pu_fieldAddr0 rfl) ?_ | refine s_pu (pu_fieldAddr rfl) ?_
  refine s_rd (rd_load rfl rfl) ?_
  refine s_pu (pu_move rfl) ?_
  refine s_ef (ef_fn (Bq.push_q q s.2 (seenP n s.1) c hqn (by omega) (by unfold seenP; omega)) rfl rfl (by repeat (first | exact Split.nil | (apply Split.cons; (repeat (first | with_reducible exact Take.here | apply Take.there)))))) ?_
  rintro v44 L1 ⟨rfl, rfl⟩
  refine swl_app ?_
  rw [← addP_new (v := v) hz, ← hse]
  refine swl_sub _ (.cons (t := 0) rfl (.cons (t := 2) rfl (.cons (t := 6) rfl (.cons (t := 7) rfl .nil)))) ?_
  refine swl_nil ?_
  refine then_n ?_
  refine swp_seq ?_
  refine swp_region ?_
  refine s_pu (pu_move rfl) ?_
  refine s_pu (pu_move rfl) ?_
  refine s_split 46 rfl (fun h46 => by exfalso; have := of_decide_eq_true h46; exact this hz) (fun h46 => ?_)
  refine s_off rfl rfl rfl ?_
  refine s_off rfl rfl rfl ?_
  refine s_off rfl rfl rfl ?_
  first | refine s_pu (pu_pick_t rfl rfl) ?_ | refine s_pu (pu_pick_f rfl rfl) ?_
  refine s_pu (pu_move rfl) ?_
  refine s_pu (pu_move rfl) ?_
  refine s_pu (pu_or_v hva hv.lt rfl rfl) ?_
  refine s_pu (pu_and_v 4 hvo (by decide) rfl rfl) ?_
  refine s_pu (pu_four hvo rfl rfl) ?_
  refine s_pu (pu_assign rfl) ?_
  refine s_pu (pu_assign rfl) ?_
  refine swl_sub _ (.cons (t := 0) rfl (.cons (t := 8) rfl (.cons (t := 9) rfl .nil))) ?_
  refine swl_nil ?_
  refine then_n ?_
  refine swp_seq ?_
  refine swp_region ?_
  refine s_pu (pu_move rfl) ?_
  refine s_pu (pu_move rfl) ?_
  refine s_split 57 rfl (fun h57 => ?_) (fun h57 => ?_)
  ·skip
   refine s_on rfl rfl ?_
   refine s_pu (pu_move rfl) ?_
   refine s_on rfl rfl ?_
   refine s_pu (pu_not rfl) ?_
   first | refine s_pu (pu_pick_t rfl rfl) ?_ | refine s_pu (pu_pick_f rfl rfl) ?_
   refine swl_sub _ (.cons (t := 0) rfl (.cons (t := 8) rfl (.cons (t := 9) rfl (.cons (t := 60) rfl .nil)))) ?_
   refine swl_nil ?_
   refine then_n ?_
   refine swp_cond (b := _) rfl (fun h60 => ?_) (fun h60 => by cases h60)
   have e7 := f1 h57 hw
   refine swp_region ?_
   refine s_pu (pu_move rfl) ?_
   first | refine s_pu (pu_nilCheck rfl) ?_ | refine s_pu (pu_nilCheck_fn rfl) ?_ | refine s_pu (pu_nilCheck_if rfl) ?_
   first | refine s_pu (pu_fieldAddr0 rfl) ?_ | refine s_pu (pu_fieldAddr rfl) ?_
   refine s_rd (rd_load rfl rfl) ?_
   refine s_pu (pu_add_as ((frP (addP s c v) : Nat) : Int) rfl rfl (by omega) (by omega) (by omega)) ?_
   first | refine s_pu (pu_nilCheck rfl) ?_ | refine s_pu (pu_nilCheck_fn rfl) ?_ | refine s_pu (pu_nilCheck_if rfl) ?_
   first | refine s_pu (pu_fieldAddr0 rfl) ?_ | refine s_pu (pu_fieldAddr rfl) ?_
   refine s_ef0 (ef_store rfl rfl rfl) ?_
   refine swl_sub _ .nil ?_
   refine swl_nil ?_
   exact done_end [mpe mb ikv (upd l k (c : Int) (.int .i64 ((s.1 c ||| v : Nat) : Int))) _, ptB p sv n mb q (frP (addP s c v)), Bq.cq q (addP s c v).2 (seenP n (addP s c v).1)] .nil ⟨_, rfl, rfl⟩ (by repeat (first | exact Split.nil | (apply Split.cons; (repeat (first | with_reducible exact Take.here | apply Take.there)))))
  ·skip
   refine s_off rfl rfl rfl ?_
   refine s_off rfl rfl rfl ?_
   first | refine s_pu (pu_pick_t rfl rfl) ?_ | refine s_pu (pu_pick_f rfl rfl) ?_
   refine swl_sub _ (.cons (t := 0) rfl (.cons (t := 8) rfl (.cons (t := 9) rfl (.cons (t := 60) rfl .nil)))) ?_
   refine swl_nil ?_
   refine then_n ?_
   refine swp_cond (b := _) rfl (fun h60 => by cases h60) (fun h60 => ?_)
   refine swp_seq ?_
   refine swp_region ?_
   refine s_pu (pu_move rfl) ?_
   refine s_pu (pu_move rfl) ?_
   refine s_split 69 rfl (fun h69 => by cases h69) (fun h69 => ?_)
   refine s_off rfl rfl rfl ?_
   refine s_off rfl rfl rfl ?_
   first | refine s_pu (pu_pick_t rfl rfl) ?_ | refine s_pu (pu_pick_f rfl rfl) ?_
   refine swl_sub _ (.cons (t := 0) rfl (.cons (t := 72) rfl .nil)) ?_
   refine swl_nil ?_
   refine then_n ?_
   refine swp_cond (b := _) rfl (fun h72 => by cases h72) (fun h72 => ?_)
   refine swp_skip ?_
   rw [← f3 (h57.trans hw.symm)]
   exact done_end [mpe mb ikv (upd l k (c : Int) (.int .i64 ((s.1 c ||| v : Nat) : Int))) _, ptB p sv n mb q (frP (addP s c v)), Bq.cq q (addP s c v).2 (seenP n (addP s c v).1)] .nil ⟨_, rfl, rfl⟩ (by repeat (first | exact Split.nil | (apply Split.cons; (repeat (first | with_reducible exact Take.here | apply Take.there)))))
 ·skip
  have hz : s.1 c ≠ 0 := by simpa using h38
  have hw : pWas s c = decide (s.1 c < 4) := by rw [hww, decide_eq_true hz, Bool.true_and]
  rw [if_neg hz] at hse
  rw [← addP_old (v := v) hz, ← hse]
  refine swp_skip ?_
  refine then_n ?_
  refine swp_seq ?_
  refine swp_region ?_
  refine s_pu (pu_move rfl) ?_
  refine s_pu (pu_move rfl) ?_
  refine s_split 46 rfl (fun h46 => ?_) (fun h46 => by exfalso; have := of_decide_eq_false h46; exact this hz)
  refine s_on rfl rfl ?_
  refine s_pu (pu_move rfl) ?_
  refine s_on rfl rfl ?_
  refine s_pu (pu_and_v 4 hva (by decide) rfl rfl) ?_
  refine s_on rfl rfl ?_
  refine s_pu (pu_four hva rfl rfl) ?_
  first | refine s_pu (pu_pick_t rfl rfl) ?_ | refine s_pu (pu_pick_f rfl rfl) ?_
  refine s_pu (pu_move rfl) ?_
  refine s_pu (pu_move rfl) ?_
  refine s_pu (pu_or_v hva hv.lt rfl rfl) ?_
  refine s_pu (pu_and_v 4 hvo (by decide) rfl rfl) ?_
  refine s_pu (pu_four hvo rfl rfl) ?_
  refine s_pu (pu_assign rfl) ?_
  refine s_pu (pu_assign rfl) ?_
  refine swl_sub _ (.cons (t := 0) rfl (.cons (t := 8) rfl (.cons (t := 9) rfl .nil))) ?_
  refine swl_nil ?_
  refine then_n ?_
  refine swp_seq ?_
  refine swp_region ?_
  refine s_pu (pu_move rfl) ?_
  refine s_pu (pu_move rfl) ?_
  refine s_split 57 rfl (fun h57 => ?_) (fun h57 => ?_)
  ·skip
   refine s_on rfl rfl ?_
   refine s_pu (pu_move rfl) ?_
   refine s_on rfl rfl ?_
   refine s_pu (pu_not rfl) ?_
   first | refine s_pu (pu_pick_t rfl rfl) ?_ | refine s_pu (pu_pick_f rfl rfl) ?_
   refine swl_sub _ (.cons (t := 0) rfl (.cons (t := 8) rfl (.cons (t := 9) rfl (.cons (t := 60) rfl .nil)))) ?_
   refine swl_nil ?_
   refine then_n ?_
   refine swp_cond (b := _) rfl (fun h60 => ?_) (fun h60 => ?_)
   ·skip
    have e7 := f1 h57 (by rw [hw]; simpa using h60)
    refine swp_region ?_
    refine s_pu (pu_move rfl) ?_
    first | refine s_pu (pu_nilCheck rfl) ?_ | refine s_pu (pu_nilCheck_fn rfl) ?_ | refine s_pu (pu_nilCheck_if rfl) ?_
    first | refine s_pu (pu_fieldAddr0 rfl) ?_ | refine s_pu (pu_fieldAddr rfl) ?_
    refine s_rd (rd_load rfl rfl) ?_
    refine s_pu (pu_add_as ((frP (addP s c v) : Nat) : Int) rfl rfl (by omega) (by omega) (by omega)) ?_
    first | refine s_pu (pu_nilCheck rfl) ?_ | refine s_pu (pu_nilCheck_fn rfl) ?_ | refine s_pu (pu_nilCheck_if rfl) ?_
    first | refine s_pu (pu_fieldAddr0 rfl) ?_ | refine s_pu (pu_fieldAddr rfl) ?_
    refine s_ef0 (ef_store rfl rfl rfl) ?_
    refine swl_sub _ .nil ?_
    refine swl_nil ?_
    exact done_end [mpe mb ikv (upd l k (c : Int) (.int .i64 ((s.1 c ||| v : Nat) : Int))) _, ptB p sv n mb q (frP (addP s c v)), Bq.cq q (addP s c v).2 (seenP n (addP s c v).1)] .nil ⟨_, rfl, rfl⟩ (by repeat (first | exact Split.nil | (apply Split.cons; (repeat (first | with_reducible exact Take.here | apply Take.there)))))
   ·skip
    refine swp_seq ?_
    refine swp_region ?_
    refine s_pu (pu_move rfl) ?_
    refine s_pu (pu_move rfl) ?_
    refine s_split 69 rfl (fun h69 => ?_) (fun h69 => by rw [h69] at h60; cases h60)
    refine s_on rfl rfl ?_
    refine s_pu (pu_move rfl) ?_
    refine s_on rfl rfl ?_
    refine s_pu (pu_not rfl) ?_
    first | refine s_pu (pu_pick_t rfl rfl) ?_ | refine s_pu (pu_pick_f rfl rfl) ?_
    refine swl_sub _ (.cons (t := 0) rfl (.cons (t := 72) rfl .nil)) ?_
    refine swl_nil ?_
    refine then_n ?_
    refine swp_cond (b := _) rfl (fun h72 => by rw [h57] at h72; cases h72) (fun h72 => ?_)
    refine swp_skip ?_
    rw [← f3 (h57.trans (hw.trans h69).symm)]
    exact done_end [mpe mb ikv (upd l k (c : Int) (.int .i64 ((s.1 c ||| v : Nat) : Int))) _, ptB p sv n mb q (frP (addP s c v)), Bq.cq q (addP s c v).2 (seenP n (addP s c v).1)] .nil ⟨_, rfl, rfl⟩ (by repeat (first | exact Split.nil | (apply Split.cons; (repeat (first | with_reducible exact Take.here | apply Take.there)))))
  ·skip
   refine s_off rfl rfl rfl ?_
   refine s_off rfl rfl rfl ?_
   first | refine s_pu (pu_pick_t rfl rfl) ?_ | refine s_pu (pu_pick_f rfl rfl) ?_
   refine swl_sub _ (.cons (t := 0) rfl (.cons (t := 8) rfl (.cons (t := 9) rfl (.cons (t := 60) rfl .nil)))) ?_
   refine swl_nil ?_
   refine then_n ?_
   refine swp_cond (b := _) rfl (fun h60 => by cases h60) (fun h60 => ?_)
   refine swp_seq ?_
   refine swp_region ?_
   refine s_pu (pu_move rfl) ?_
   refine s_pu (pu_move rfl) ?_
   refine s_split 69 rfl (fun h69 => ?_) (fun h69 => ?_)
   ·skip
    refine s_on rfl rfl ?_
    refine s_pu (pu_move rfl) ?_
    refine s_on rfl rfl ?_
    refine s_pu (pu_not rfl) ?_
    first | refine s_pu (pu_pick_t rfl rfl) ?_ | refine s_pu (pu_pick_f rfl rfl) ?_
    refine swl_sub _ (.cons (t := 0) rfl (.cons (t := 72) rfl .nil)) ?_
    refine swl_nil ?_
    refine then_n ?_
    refine swp_cond (b := _) rfl (fun h72 => ?_) (fun h72 => by rw [h57] at h72; cases h72)
    have e9 := f2 h57 (hw.trans h69)
    refine swp_region ?_
    refine s_pu (pu_move rfl) ?_
    first | refine s_pu (pu_nilCheck rfl) ?_ | refine s_pu (pu_nilCheck_fn rfl) ?_ | refine s_pu (pu_nilCheck_if rfl) ?_
    first | refine s_pu (pu_fieldAddr0 rfl) ?_ | refine s_pu (pu_fieldAddr rfl) ?_
    refine s_rd (rd_load rfl rfl) ?_
    refine s_pu (pu_sub_as ((frP (addP s c v) : Nat) : Int) rfl rfl (by omega) (by omega) (by omega)) ?_
    first | refine s_pu (pu_nilCheck rfl) ?_ | refine s_pu (pu_nilCheck_fn rfl) ?_ | refine s_pu (pu_nilCheck_if rfl) ?_
    first | refine s_pu (pu_fieldAddr0 rfl) ?_ | refine s_pu (pu_fieldAddr rfl) ?_
    refine s_ef0 (ef_store rfl rfl rfl) ?_
    refine swl_sub _ .nil ?_
    refine swl_nil ?_
    exact done_end [mpe mb ikv (upd l k (c : Int) (.int .i64 ((s.1 c ||| v : Nat) : Int))) _, ptB p sv n mb q (frP (addP s c v)), Bq.cq q (addP s c v).2 (seenP n (addP s c v).1)] .nil ⟨_, rfl, rfl⟩ (by repeat (first | exact Split.nil | (apply Split.cons; (repeat (first | with_reducible exact Take.here | apply Take.there)))))
   ·skip
    refine s_off rfl rfl rfl ?_
    refine s_off rfl rfl rfl ?_
    first | refine s_pu (pu_pick_t rfl rfl) ?_ | refine s_pu (pu_pick_f rfl rfl) ?_
    refine swl_sub _ (.cons (t := 0) rfl (.cons (t := 72) rfl .nil)) ?_
    refine swl_nil ?_
    refine then_n ?_
    refine swp_cond (b := _) rfl (fun h72 => by cases h72) (fun h72 => ?_)
    refine swp_skip ?_
    rw [← f3 (h57.trans (hw.trans h69).symm)]
    exact done_end [mpe mb ikv (upd l k (c : Int) (.int .i64 ((s.1 c ||| v : Nat) : Int))) _, ptB p sv n mb q (frP (addP s c v)), Bq.cq q (addP s c v).2 (seenP n (addP s c v).1)] .nil ⟨_, rfl, rfl⟩ (by repeat (first | exact Split.nil | (apply Split.cons; (repeat (first | with_reducible exact Take.here | apply Take.there)))))
end SX
namespace SX
open Go Go.Proofs

/-- the bases of two sides -/
def sidesB (g : List (List Int)) (l r : List Int) : List Int := elsTo g.length (bestT g (bothS g l r) g.length)
abbrev stS (l r : List Int) : PS := addRow 2 (addRow 1 (fun _ => 0, []) l) r
theorem putS_f {n c : Nat} (hc : c < n) (D : Nat → Bool) : putS n D (c : Int) = fun j => D j || decide (j = c) := by
  funext j
  unfold putS
  rw [Int.toNat_natCast, decide_eq_true (show (0 : Int) ≤ (c : Int) ∧ (c : Int) < n by omega), Bool.true_and]
set_option maxHeartbeats 4000000 in
theorem pbest_spec (X : Src) (s0 : X.σ) (μ : PH) (p mb q : Nat) (l r : List Int) (hT : RowAt μ 1 0 tabV) (h0 : Le X.μ0 μ) (hf : X.fine s0) (hl : ∀ p ∈ l, 0 ≤ p ∧ p < X.g.length) (hr : ∀ p ∈ r, 0 ≤ p ∧ p < X.g.length) :
  Spec Tryd.prog 39 [.pointer (some ⟨p, 0, none⟩)] [ptB p X.sv X.n mb q (frP (stS l r)), mpP mb (stS l r).1, Bq.cq q (stS l r).2 (seenP X.n (stS l r).1), X.A s0 μ, ro μ]
   (fun v L => ∃ zs μ', askedIn X.n zs ∧ Le μ μ' ∧ L = [own 3 1 v (sidesB X.g l r).length ((sidesB X.g l r).flatMap (icsk .i64)), X.A (zs.foldl X.step s0) μ', ro μ']) := by
 have hn := X.hn
 have hXn : X.n = X.g.length := rfl
 have hw0 : PW X.g l r X.g.length (stS l r) (fun _ => false) := PW.start hl hr
 generalize stS l r = st0 at *
 refine Spec.of 85 Tryd.func39 rfl rfl rfl ?_
 refine swp_seq ?_
 refine swp_region ?_
 refine s_pu (pu_assign rfl) ?_
 refine swl_sub _ (.cons (t := 0) rfl .nil) ?_
 refine swl_nil ?_
 refine then_n ?_
 refine swp_seq ?_
 refine swp_region ?_
 refine s_pu (pu_move rfl) ?_
 first | refine s_pu (pu_nilCheck rfl) ?_ | refine s_pu (pu_nilCheck_fn rfl) ?_ | refine s_pu (pu_nilCheck_if rfl) ?_
 first | refine s_pu (pu_fieldAddr0 rfl) ?_ | refine s_pu (pu_fieldAddr rfl) ?_
 refine s_rd (rd_load rfl rfl) ?_
 refine s_ef (ef_fn (new_m (X.n : Nat)) rfl rfl (by repeat (first | exact Split.nil | (apply Split.cons; (repeat (first | with_reducible exact Take.here | apply Take.there)))))) ?_
 rintro v15 L1 ⟨p3, rfl, rfl⟩
 refine swl_app ?_
 refine s_pu (pu_assign rfl) ?_
 refine swl_sub _ (.cons (t := 0) rfl (.cons (t := 3) rfl .nil)) ?_
 refine swl_nil ?_
 refine then_n ?_
 refine swp_seq ?_
 refine swp_region ?_
 refine s_pu (pu_move rfl) ?_
 first | refine s_pu (pu_nilCheck rfl) ?_ | refine s_pu (pu_nilCheck_fn rfl) ?_ | refine s_pu (pu_nilCheck_if rfl) ?_
 first | refine s_pu (pu_fieldAddr0 rfl) ?_ | refine s_pu (pu_fieldAddr rfl) ?_
 refine s_rd (rd_load rfl rfl) ?_
 refine s_ef (ef_fn (new_m (X.n : Nat)) rfl rfl (by repeat (first | exact Split.nil | (apply Split.cons; (repeat (first | with_reducible exact Take.here | apply Take.there)))))) ?_
 rintro v20 L1 ⟨p4, rfl, rfl⟩
 refine swl_app ?_
 refine s_pu (pu_assign rfl) ?_
 refine swl_sub _ (.cons (t := 0) rfl (.cons (t := 3) rfl (.cons (t := 4) rfl .nil))) ?_
 rw [clampM_id hn]
 refine swl_nil ?_
 refine then_n ?_
 refine swp_seq ?_
 refine swp_block ?_
 refine swp_sub _ (.cons (t := 0) rfl (.cons (t := 3) rfl (.cons (t := 4) rfl .nil))) ?_
 refine swp_ent (Split.ent' (K := [ptB p X.sv X.n mb q (frP st0), mpP mb st0.1, Bq.cq q st0.2 (seenP X.n st0.1), mset p3 X.n (fun _ => false), mset p4 X.n (fun _ => false), X.A s0 μ, ro μ]) (by repeat (first | exact Split.nil | (apply Split.cons; (repeat (first | with_reducible exact Take.here | apply Take.there)))))) ?_
 refine swp_loop (ι := Nat × PS × (Nat → Bool) × (Nat → Bool) × List Nat × PH) (fun k env L => Sub env [(0, .pointer (some ⟨p, 0, none⟩)), (3, .pointer (some ⟨p3, 0, none⟩)), (4, .pointer (some ⟨p4, 0, none⟩))]
  ∧ L = [ptB p X.sv X.n mb q (frP k.2.1), mpP mb k.2.1.1, Bq.cq q k.2.1.2 (seenP X.n k.2.1.1), mset p3 X.n k.2.2.1, mset p4 X.n k.2.2.2.1, X.A (k.2.2.2.2.1.foldl X.step s0) k.2.2.2.2.2, ro k.2.2.2.2.2]
  ∧ PW X.g l r k.1 k.2.1 k.2.2.1 ∧ (∀ j, j < k.1 → k.2.2.2.1 j = false) ∧ askedIn X.n k.2.2.2.2.1 ∧ (∀ y ∈ k.2.2.2.2.1, k.1 ≤ y) ∧ Le μ k.2.2.2.2.2) (fun k => k.1) (X.g.length, st0, fun _ => false, fun _ => false, [], μ) ⟨⟨rfl, rfl, rfl, trivial⟩, rfl, hw0, fun _ _ => rfl, ⟨List.nodup_nil, fun y hy => by cases hy⟩, fun y hy => (by cases hy), Le.refl _⟩ ?_
 rintro ⟨m, ⟨P, Q0⟩, F, D, ys, μ1⟩ env L ⟨hsub0, rfl, hW, hD, hask, hys, hle⟩
 dsimp only at hW hD hask hys hle ⊢
 refine swp_sub _ hsub0 ?_
 refine swp_seq ?_
 refine swp_seq ?_
 refine swp_region ?_
 refine s_pu (pu_move rfl) ?_
 first | refine s_pu (pu_nilCheck rfl) ?_ | refine s_pu (pu_nilCheck_fn rfl) ?_ | refine s_pu (pu_nilCheck_if rfl) ?_
 first | refine s_pu (pu_fieldAddr0 rfl) ?_ | refine s_pu (pu_fieldAddr rfl) ?_
 refine s_rd (rd_load rfl rfl) ?_
 refine s_pu (pu_gtr rfl rfl) ?_
 refine swl_sub _ (.cons (t := 0) rfl (.cons (t := 3) rfl (.cons (t := 4) rfl (.cons (t := 25) rfl .nil)))) ?_
 refine swl_nil ?_
 refine then_n ?_
 refine swp_cond (b := _) rfl (fun h25 => ?_) (fun h25 => ?_)
 ·skip
  have hpos : 0 < frP (P, Q0) := by have := of_decide_eq_true h25; omega
  obtain ⟨c, Q, hQ⟩ := frP_pos hpos
  dsimp only at hQ
  subst hQ
  obtain ⟨hI1, hPc, hcm, hW1⟩ := hW.step X.hg
  have hml := hW.le
  have hcn : c < X.g.length := by omega
  have hV : isV (P c) := hW.pi.val c
  have hql : (c :: Q).length ≤ m := falls_len hW.pi.falls hW.pi.lt
  have hpop := frP_pop (P := P) (c := c) (Q := Q)
  have hfb := frP_le hI1
  have hnw : newW X.n D (c : Int) = true := by
   unfold newW
   rw [Int.toNat_natCast, hD c hcm, decide_eq_true (show (0 : Int) ≤ c by omega), decide_eq_true (show (c : Int) < X.n by omega)]; rfl
  refine swp_skip ?_
  refine then_n ?_
  refine swp_block ?_
  refine swp_seq ?_
  refine swp_region ?_
  refine s_pu (pu_move rfl) ?_
  first | refine s_pu (pu_nilCheck rfl) ?_ | refine s_pu (pu_nilCheck_fn rfl) ?_ | refine s_pu (pu_nilCheck_if rfl) ?_
  first | refine s_pu (pu_fieldAddr0 rfl) ?_ | refine s_pu (pu_fieldAddr rfl) ?_
  refine s_rd (rd_load rfl rfl) ?_
  refine s_ef (ef_fn (Bq.pop_q q (seenP X.n P) c Q (by omega)) rfl rfl (by repeat (first | exact Split.nil | (apply Split.cons; (repeat (first | with_reducible exact Take.here | apply Take.there)))))) ?_
  rintro v31 L1 ⟨rfl, rfl⟩
  refine swl_app ?_
  refine s_pu (pu_move rfl) ?_
  first | refine s_pu (pu_extractL rfl) ?_ | refine s_pu (pu_extract rfl rfl) ?_
  first | refine s_pu (pu_extractL rfl) ?_ | refine s_pu (pu_extract rfl rfl) ?_
  refine s_pu (pu_assign rfl) ?_
  refine s_pu (pu_assign rfl) ?_
  refine swl_sub _ (.cons (t := 0) rfl (.cons (t := 3) rfl (.cons (t := 4) rfl (.cons (t := 5) rfl .nil)))) ?_
  refine swl_nil ?_
  refine then_n ?_
  refine swp_seq ?_
  refine swp_region ?_
  refine s_pu (pu_move rfl) ?_
  refine s_pu (pu_assign rfl) ?_
  refine swl_sub _ (.cons (t := 0) rfl (.cons (t := 3) rfl (.cons (t := 4) rfl (.cons (t := 7) rfl .nil)))) ?_
  refine swl_nil ?_
  refine then_n ?_
  refine swp_seq ?_
  refine swp_ent (Split.ent' (K := [mpP mb P, ptB p X.sv X.n mb q (frP (P, c :: Q)), Bq.cq q Q (seenP X.n P), mset p3 X.n F, mset p4 X.n D, X.A (ys.foldl X.step s0) μ1, ro μ1]) (by repeat (first | exact Split.nil | (apply Split.cons; (repeat (first | with_reducible exact Take.here | apply Take.there)))))) ?_
  refine swp_ex fun ⟨⟨ents, clk⟩, hents⟩ => ?_
  simp only [List.cons_append, List.nil_append]
  dsimp only at hents ⊢
  refine swp_region ?_
  refine s_pu (pu_move rfl) ?_
  first | refine s_pu (pu_nilCheck rfl) ?_ | refine s_pu (pu_nilCheck_fn rfl) ?_ | refine s_pu (pu_nilCheck_if rfl) ?_
  first | refine s_pu (pu_fieldAddr0 rfl) ?_ | refine s_pu (pu_fieldAddr rfl) ?_
  refine s_rd (rd_load rfl rfl) ?_
  refine s_pu (pu_move rfl) ?_
  refine s_rd (rd_pmap hents c rfl rfl) ?_
  refine s_pu (pu_assign rfl) ?_
  refine swl_sub _ (.cons (t := 0) rfl (.cons (t := 3) rfl (.cons (t := 4) rfl (.cons (t := 7) rfl (.cons (t := 8) rfl .nil))))) ?_
  refine swl_ent (mpP_close hents) ?_
  refine swl_nil ?_
  refine then_n ?_
  refine swp_seq ?_
  refine swp_seq ?_
  refine swp_region ?_
  refine s_pu (pu_move rfl) ?_
  refine s_pu (pu_move rfl) ?_
  refine s_ef (ef_fn (put_w p4 X.n D (c : Nat)) rfl rfl (by repeat (first | exact Split.nil | (apply Split.cons; (repeat (first | with_reducible exact Take.here | apply Take.there)))))) ?_
  rintro v43 L1 ⟨rfl, rfl⟩
  refine swl_app ?_
  rw [hnw, putS_f (show c < X.n from hcn)]
  refine s_pu (pu_not rfl) ?_
  refine swl_sub _ (.cons (t := 0) rfl (.cons (t := 3) rfl (.cons (t := 4) rfl (.cons (t := 7) rfl (.cons (t := 8) rfl (.cons (t := 44) rfl .nil)))))) ?_
  refine swl_nil ?_
  refine then_n ?_
  refine swp_cond (b := _) rfl (fun h44 => by cases h44) (fun h44 => ?_)
  refine swp_skip ?_
  refine then_n ?_
  refine swp_cut (fun env L => Sub env [(0, .pointer (some ⟨p, 0, none⟩)), (3, .pointer (some ⟨p3, 0, none⟩)), (4, .pointer (some ⟨p4, 0, none⟩)), (7, .int .i64 (c : Nat)), (8, .int .i64 (pOut (P c) : Nat))] ∧ Ent L [ptB p X.sv X.n mb q (frP (P, Q)), mpP mb P, Bq.cq q Q (seenP X.n P), mset p3 X.n (fun k => F k || (decide (P c = 3) && decide (k = c))), mset p4 X.n (fun j => D j || decide (j = c)), X.A (ys.foldl X.step s0) μ1, ro μ1]) ?_ ?_
  ·skip
   refine swp_seq ?_
   refine swp_region ?_
   refine s_pu (pu_move rfl) ?_
   refine s_pu (pu_and_v 4 hV (by decide) rfl rfl) ?_
   refine s_pu (pu_four hV rfl rfl) ?_
   refine swl_sub _ (.cons (t := 0) rfl (.cons (t := 3) rfl (.cons (t := 4) rfl (.cons (t := 7) rfl (.cons (t := 8) rfl (.cons (t := 47) rfl .nil)))))) ?_
   refine swl_nil ?_
   refine then_n ?_
   refine swp_cond (b := _) rfl (fun h47 => ?_) (fun h47 => ?_)
   ·skip
    have h47' : P c < 4 := of_decide_eq_true h47
    rw [if_pos h47'] at hpop
    refine swp_seq ?_
    refine swp_region ?_
    refine s_pu (pu_move rfl) ?_
    first | refine s_pu (pu_nilCheck rfl) ?_ | refine s_pu (pu_nilCheck_fn rfl) ?_ | refine s_pu (pu_nilCheck_if rfl) ?_
    first | refine s_pu (pu_fieldAddr0 rfl) ?_ | refine s_pu (pu_fieldAddr rfl) ?_
    refine s_rd (rd_load rfl rfl) ?_
    refine s_pu (pu_sub_as ((frP (P, Q) : Nat) : Int) rfl rfl (by omega) (by omega) (by omega)) ?_
    first | refine s_pu (pu_nilCheck rfl) ?_ | refine s_pu (pu_nilCheck_fn rfl) ?_ | refine s_pu (pu_nilCheck_if rfl) ?_
    first | refine s_pu (pu_fieldAddr0 rfl) ?_ | refine s_pu (pu_fieldAddr rfl) ?_
    refine s_ef0 (ef_store rfl rfl rfl) ?_
    refine swl_sub _ (.cons (t := 0) rfl (.cons (t := 3) rfl (.cons (t := 4) rfl (.cons (t := 7) rfl (.cons (t := 8) rfl .nil))))) ?_
    refine swl_nil ?_
    refine then_n ?_
    refine swp_seq ?_
    refine swp_region ?_
    refine s_pu (pu_move rfl) ?_
    refine s_pu (pu_and_v 3 hV (by decide) rfl rfl) ?_
    refine s_pu (pu_three hV h47' rfl rfl) ?_
    refine swl_sub _ (.cons (t := 0) rfl (.cons (t := 3) rfl (.cons (t := 4) rfl (.cons (t := 7) rfl (.cons (t := 8) rfl (.cons (t := 57) rfl .nil)))))) ?_
    refine swl_nil ?_
    refine then_n ?_
    refine swp_cond (b := _) rfl (fun h57 => ?_) (fun h57 => ?_)
    ·skip
     have h57' : P c = 3 := of_decide_eq_true h57
     refine swp_seq ?_
     refine swp_region ?_
     refine s_pu (pu_move rfl) ?_
     refine s_pu (pu_move rfl) ?_
     refine s_ef (ef_fn (put_w p3 X.n F (c : Nat)) rfl rfl (by repeat (first | exact Split.nil | (apply Split.cons; (repeat (first | with_reducible exact Take.here | apply Take.there)))))) ?_
     rintro v60 L1 ⟨rfl, rfl⟩
     refine swl_app ?_
     refine swl_sub _ (.cons (t := 0) rfl (.cons (t := 3) rfl (.cons (t := 4) rfl (.cons (t := 7) rfl (.cons (t := 8) rfl .nil))))) ?_
     refine swl_nil ?_
     refine then_n ?_
     refine swp_region ?_
     refine s_pu (pu_move rfl) ?_
     refine s_pu (pu_or_v hV (by decide) rfl rfl) ?_
     refine s_pu (pu_assign rfl) ?_
     refine swl_sub _ (.cons (t := 0) rfl (.cons (t := 3) rfl (.cons (t := 4) rfl (.cons (t := 7) rfl (.cons (t := 8) rfl .nil))))) ?_
     refine swl_nil ?_
     refine then_n ⟨⟨rfl, rfl, rfl, rfl, by rw [h57']; rfl, trivial⟩, ?_⟩
     rw [putS_f (show c < X.n from hcn), show (fun k => F k || (decide (P c = 3) && decide (k = c))) = fun k => F k || decide (k = c) by rw [h57']; rfl]
     exact Split.ent' (by repeat (first | exact Split.nil | (apply Split.cons; (repeat (first | with_reducible exact Take.here | apply Take.there)))))
    ·skip
     have h57' : ¬ P c = 3 := of_decide_eq_false h57
     refine swp_skip ?_
     refine then_n ⟨⟨rfl, rfl, rfl, rfl, by unfold pOut; rw [if_neg h57']; rfl, trivial⟩, ?_⟩
     rw [show (fun k => F k || (decide (P c = 3) && decide (k = c))) = F by funext k; rw [decide_eq_false h57']; simp]
     exact Split.ent' (by repeat (first | exact Split.nil | (apply Split.cons; (repeat (first | with_reducible exact Take.here | apply Take.there)))))
   ·skip
    have h47' : ¬ P c < 4 := of_decide_eq_false h47
    rw [if_neg h47', Nat.add_zero] at hpop
    have h57' : ¬ P c = 3 := by omega
    refine swp_skip ?_
    refine then_n ⟨⟨rfl, rfl, rfl, rfl, by unfold pOut; rw [if_neg h57']; rfl, trivial⟩, ?_⟩
    rw [hpop, show (fun k => F k || (decide (P c = 3) && decide (k = c))) = F by funext k; rw [decide_eq_false h57']; simp]
    exact Split.ent' (by repeat (first | exact Split.nil | (apply Split.cons; (repeat (first | with_reducible exact Take.here | apply Take.there)))))
  rintro env L ⟨hsub, hL8⟩
  refine swp_sub _ hsub ?_
  refine swp_ent hL8 ?_
  have hcy : c ∉ ys := fun h => by have := hys c h; omega
  have hvo : isV (pOut (P c)) := hV.out
  have hvn := pOut_ne hPc
  generalize hv : pOut (P c) = v at *
  generalize hF' : (fun k => F k || (decide (P c = 3) && decide (k = c))) = F' at *
  have hD' : ∀ j, j < c → (fun j => D j || decide (j = c)) j = false := fun j hj => by
   show (D j || decide (j = c)) = false
   rw [hD j (by omega), decide_eq_false (by omega)]; rfl
  generalize (fun j => D j || decide (j = c)) = D' at *
  refine swp_seq ?_
  refine swp_region ?_
  refine s_pu (pu_move rfl) ?_
  first | refine s_pu (pu_nilCheck rfl) ?_ | refine s_pu (pu_nilCheck_fn rfl) ?_ | refine s_pu (pu_nilCheck_if rfl) ?_
  first | refine s_pu (pu_fieldAddr0 rfl) ?_ | refine s_pu (pu_fieldAddr rfl) ?_
  refine s_rd (rd_load rfl rfl) ?_
  refine s_pu (pu_move rfl) ?_
  refine s_ef (ef_invS rfl X.hd (X.parents (ys.foldl X.step s0) μ1 c (h0.trans hle) hcn (hf ys c hask.1 hcy (fun y hy => hask.2 y hy) hcn)) rfl (by repeat (first | exact Split.nil | (apply Split.cons; (repeat (first | with_reducible exact Take.here | apply Take.there)))))) ?_
  rintro v68 L1 ⟨μ3, hμ3, hrw, rfl⟩
  refine swl_app ?_
  refine s_pu (pu_len_row hrw rfl) ?_
  refine s_pu (pu_move rfl) ?_
  refine swl_sub _ (.cons (t := 0) rfl (.cons (t := 3) rfl (.cons (t := 4) rfl (.cons (t := 8) rfl (.cons (t := 68) rfl (.cons (t := 69) rfl (.cons (t := 70) rfl .nil))))))) ?_
  refine swl_nil ?_
  refine then_n ?_
  refine swp_block ?_
  refine swp_sub _ (.cons (t := 0) rfl (.cons (t := 3) rfl (.cons (t := 4) rfl (.cons (t := 8) rfl (.cons (t := 68) rfl (.cons (t := 69) rfl (.cons (t := 70) rfl .nil))))))) ?_
  refine swp_ent (Split.ent' (K := [ptB p X.sv X.n mb q (frP (P, Q)), mpP mb P, Bq.cq q Q (seenP X.n P), mset p3 X.n F', mset p4 X.n D', X.A (X.step (ys.foldl X.step s0) c) μ3, ro μ3]) (by repeat (first | exact Split.nil | (apply Split.cons; (repeat (first | with_reducible exact Take.here | apply Take.there)))))) ?_
  refine swp_loop (ι := Nat) (fun i env L => env = [(0, .pointer (some ⟨p, 0, none⟩)), (3, .pointer (some ⟨p3, 0, none⟩)), (4, .pointer (some ⟨p4, 0, none⟩)), (8, .int .i64 (v : Nat)), (68, v68), (69, .int .i64 ((rowOf X.g c).length : Nat)), (70, .int .i64 (i : Nat))]
   ∧ L = [ptB p X.sv X.n mb q (frP (addRow v (P, Q) ((rowOf X.g c).take i))), mpP mb (addRow v (P, Q) ((rowOf X.g c).take i)).1, Bq.cq q (addRow v (P, Q) ((rowOf X.g c).take i)).2 (seenP X.n (addRow v (P, Q) ((rowOf X.g c).take i)).1), mset p3 X.n F', mset p4 X.n D', X.A (X.step (ys.foldl X.step s0) c) μ3, ro μ3] ∧ i ≤ (rowOf X.g c).length) (fun i => (rowOf X.g c).length - i) 0 ⟨rfl, rfl, Nat.zero_le _⟩ ?_
  rintro i env L ⟨rfl, rfl, hi⟩
  refine swp_seq ?_
  have hrs := hrw.small
  have hrg : ∀ u ∈ rowOf X.g c, 0 ≤ u ∧ u < c := fun u hu => ⟨(row_good X.hg hu).1, (row_good X.hg hu).2.1⟩
  refine swp_region ?_
  refine s_pu (pu_lss rfl rfl) ?_
  refine swl_sub _ (.cons (t := 0) rfl (.cons (t := 3) rfl (.cons (t := 4) rfl (.cons (t := 8) rfl (.cons (t := 68) rfl (.cons (t := 69) rfl (.cons (t := 70) rfl (.cons (t := 71) rfl .nil)))))))) ?_
  refine swl_nil ?_
  refine then_n ?_
  refine swp_seq ?_
  refine swp_cond (b := _) rfl (fun h71 => ?_) (fun h71 => ?_)
  ·skip
   have h71' : i < (rowOf X.g c).length := by have := of_decide_eq_true h71; omega
   obtain ⟨u, hu⟩ : ∃ u, (rowOf X.g c)[i]? = some u := ⟨_, List.getElem?_eq_getElem h71'⟩
   obtain ⟨pb, po, pc, hpv, hpc⟩ := hrw.at_ hu
   have hur := hrg u (List.mem_of_getElem? hu)
   obtain ⟨u, rfl⟩ : ∃ k : Nat, u = k := ⟨u.toNat, by omega⟩
   have hsu := addRow_succ (v := v) (s := (P, Q)) hu
   rw [Int.toNat_natCast] at hsu
   obtain ⟨hIi, _⟩ := PI.addRow (v := v) (show c ≤ X.g.length by omega) hvo hvn hI1 (l := (rowOf X.g c).take i) (fun w hw => hrg w (List.mem_of_mem_take hw))
   have hDu := hD' u (by omega)
   generalize addRow v (P, Q) ((rowOf X.g c).take i) = si at *
   refine swp_skip ?_
   refine then_n ?_
   refine swp_seq ?_
   refine swp_block ?_
   refine swp_seq ?_
   refine swp_region ?_
   refine s_pu (pu_indexAddr (po + i * 1) (congrArg some hpv) rfl (by omega) (by omega) (by rw [Int.toNat_natCast])) ?_
   refine s_rd (rd_ro rfl hpc) ?_
   refine s_pu (pu_assign rfl) ?_
   refine swl_sub _ (.cons (t := 0) rfl (.cons (t := 3) rfl (.cons (t := 4) rfl (.cons (t := 8) rfl (.cons (t := 10) rfl (.cons (t := 68) rfl (.cons (t := 69) rfl (.cons (t := 70) rfl .nil)))))))) ?_
   refine swl_nil ?_
   refine then_n ?_
   refine swp_seq ?_
   refine swp_region ?_
   refine s_pu (pu_move rfl) ?_
   refine s_pu (pu_move rfl) ?_
   refine s_ef (ef_fn (has_w p4 X.n D' u) rfl rfl (by repeat (first | exact Split.nil | (apply Split.cons; (repeat (first | with_reducible exact Take.here | apply Take.there)))))) ?_
   rintro v76 L1 ⟨rfl, rfl⟩
   refine swl_app ?_
   rw [hDu]
   refine s_pu (pu_not rfl) ?_
   refine swl_sub _ (.cons (t := 0) rfl (.cons (t := 3) rfl (.cons (t := 4) rfl (.cons (t := 8) rfl (.cons (t := 10) rfl (.cons (t := 68) rfl (.cons (t := 69) rfl (.cons (t := 70) rfl (.cons (t := 77) rfl .nil))))))))) ?_
   refine swl_nil ?_
   refine then_n ?_
   refine swp_cond (b := _) rfl (fun h77 => ?_) (fun h77 => by cases h77)
   refine swp_region ?_
   refine s_pu (pu_move rfl) ?_
   refine s_pu (pu_move rfl) ?_
   refine s_pu (pu_move rfl) ?_
   refine s_ef (ef_fn (padd_spec p X.n c mb q X.sv si u v hn hIi (by omega) (by omega) hvo hvn) rfl rfl (by repeat (first | exact Split.nil | (apply Split.cons; (repeat (first | with_reducible exact Take.here | apply Take.there)))))) ?_
   rintro v81 L1 ⟨rfl, rfl⟩
   refine swl_app ?_
   refine swl_sub _ (.cons (t := 0) rfl (.cons (t := 3) rfl (.cons (t := 4) rfl (.cons (t := 8) rfl (.cons (t := 68) rfl (.cons (t := 69) rfl (.cons (t := 70) rfl .nil))))))) ?_
   refine swl_nil ?_
   refine block_n ?_
   refine then_n ?_
   refine swp_region ?_
   refine s_pu (pu_add_as ((i + 1 : Nat) : Int) rfl rfl (by omega) (by omega) (by omega)) ?_
   refine s_pu (pu_move rfl) ?_
   refine swl_sub _ (.cons (t := 0) rfl (.cons (t := 3) rfl (.cons (t := 4) rfl (.cons (t := 8) rfl (.cons (t := 68) rfl (.cons (t := 69) rfl (.cons (t := 70) rfl .nil))))))) ?_
   refine swl_ent (Split.ent' (K := [ptB p X.sv X.n mb q (frP (addP si u v)), mpP mb (addP si u v).1, Bq.cq q (addP si u v).2 (seenP X.n (addP si u v).1), mset p3 X.n F', mset p4 X.n D', X.A (X.step (ys.foldl X.step s0) c) μ3, ro μ3]) (by repeat (first | exact Split.nil | (apply Split.cons; (repeat (first | with_reducible exact Take.here | apply Take.there)))))) ?_
   refine swl_nil ?_
   exact then_n ⟨i + 1, ⟨rfl, by rw [hsu], h71'⟩, by omega⟩
  ·skip
   have h71' := of_decide_eq_false h71
   obtain rfl : i = (rowOf X.g c).length := by omega
   rw [List.take_length]
   refine swp_exit ?_
   refine then_x ?_
   refine then_x ?_
   refine block_hit rfl ?_
   refine block_n ?_
   refine then_n ⟨(c, addRow v (P, Q) (rowOf X.g c), F', D', ys ++ [c], μ3), ⟨⟨rfl, rfl, rfl, trivial⟩, ?_, hW1, hD', ⟨?_, ?_⟩, ?_, hle.trans hμ3⟩, hcm⟩
   ·rw [List.foldl_append]; rfl
   ·rw [List.nodup_append]
    exact ⟨hask.1, by simp, fun a ha b hb e => by obtain rfl := List.mem_singleton.1 hb; subst e; exact hcy ha⟩
   ·intro y hy
    rcases List.mem_append.1 hy with hy | hy
    ·exact hask.2 y hy
    ·obtain rfl := List.mem_singleton.1 hy; exact hcn
   ·intro y hy
    rcases List.mem_append.1 hy with hy | hy
    ·have := hys y hy; show c ≤ y; omega
    ·obtain rfl := List.mem_singleton.1 hy; exact Nat.le_refl _
 ·skip
  have hz : frP (P, Q0) = 0 := by have := of_decide_eq_false h25; omega
  have hFe : F = bestT X.g (bothS X.g l r) X.g.length := funext (hW.done X.hg hz)
  subst hFe
  refine swp_exit ?_
  refine then_x ?_
  refine then_x ?_
  refine block_hit rfl ?_
  refine then_n ?_
  refine swp_seq ?_
  refine swp_region ?_
  refine s_pu (pu_move rfl) ?_
  refine s_ef (ef_fn (list_m μ1 p3 X.n (bestT X.g (bothS X.g l r) X.g.length) (hT.le hle)) rfl rfl (by repeat (first | exact Split.nil | (apply Split.cons; (repeat (first | with_reducible exact Take.here | apply Take.there)))))) ?_
  rintro v84 L1 rfl
  refine swl_app ?_
  rw [show elsTo X.n (bestT X.g (bothS X.g l r) X.g.length) = sidesB X.g l r from rfl]
  refine s_pu (pu_assign rfl) ?_
  refine swl_sub _ (.cons (t := 2) rfl .nil) ?_
  refine swl_nil ?_
  refine then_n ?_
  refine swp_ret ?_
  exact done_ret [own 3 1 v84 (sidesB X.g l r).length ((sidesB X.g l r).flatMap (icsk .i64)), X.A (ys.foldl X.step s0) μ1, ro μ1] (.tmp rfl .nil) ⟨ys, μ1, hask, hle, rfl⟩ (by repeat (first | exact Split.nil | (apply Split.cons; (repeat (first | with_reducible exact Take.here | apply Take.there)))))
end SX
namespace SX
open Go Go.Proofs

theorem bcommits_spec (X : Src) (s : X.σ) (μ : PH) : Spec Tryd.prog 36 [X.sv] [X.A s μ] (fun r L => r = .int .i64 (X.n : Nat) ∧ L = [X.A s μ]) := by
 have hn := X.hn
 refine Spec.of 7 Tryd.func36 rfl rfl rfl ?_
 refine swp_seq ?_
 refine swp_region ?_
 refine s_pu (pu_assign rfl) ?_
 refine swl_sub _ (.cons (t := 0) rfl .nil) ?_
 refine swl_nil ?_
 refine then_n ?_
 refine swp_seq ?_
 refine swp_region ?_
 refine s_pu (pu_move rfl) ?_
 refine s_ef (ef_invS rfl X.hd (X.commits s μ) rfl (by repeat (first | exact Split.nil | (apply Split.cons; (repeat (first | with_reducible exact Take.here | apply Take.there)))))) ?_
 rintro v4 L1 ⟨rfl, rfl⟩
 refine swl_app ?_
 refine s_pu (pu_max2 rfl rfl) ?_
 refine s_pu (pu_min2 rfl rfl) ?_
 refine s_pu (pu_assign rfl) ?_
 refine swl_sub _ (.cons (t := 2) rfl .nil) ?_
 refine swl_nil ?_
 refine then_n ?_
 refine swp_ret ?_
 exact done_ret [X.A s μ] (.tmp rfl .nil) ⟨by show Value.int .i64 _ = _; rw [show min (max (X.g.length : Int) 0) 65536 = (X.g.length : Int) by omega], rfl⟩ (by repeat (first | exact Split.nil | (apply Split.cons; (repeat (first | with_reducible exact Take.here | apply Take.there)))))
set_option maxHeartbeats 1000000 in
theorem basked_spec (X : Src) (s : X.σ) (μ : PH) (lv : Value) (G : List (Value × List Int)) (hG : Graph μ lv G) : Spec Tryd.prog 35 [X.sv, lv] [X.A s μ, ro μ] (fun r L => r = .int .i64 (askedE X.n (nums G)) ∧ L = [X.A s μ, ro μ]) := by
 have hsm := hG.1.small
 refine Spec.of 33 Tryd.func35 rfl rfl rfl ?_
 refine swp_seq ?_
 refine swp_region ?_
 refine s_pu (pu_assign rfl) ?_
 refine swl_sub _ (.cons (t := 0) rfl (.cons (t := 1) rfl .nil)) ?_
 refine swl_nil ?_
 refine then_n ?_
 refine swp_seq ?_
 refine swp_seq ?_
 refine swp_region ?_
 refine s_pu (pu_move rfl) ?_
 refine s_pu (pu_if_eq_nil rfl rfl) ?_
 refine swl_sub _ (.cons (t := 0) rfl (.cons (t := 1) rfl (.cons (t := 10) rfl .nil))) ?_
 refine swl_nil ?_
 refine then_n ?_
 refine swp_cond (b := _) rfl (fun h10 => by cases h10) (fun h10 => ?_)
 refine swp_skip ?_
 refine then_n ?_
 refine swp_seq ?_
 refine swp_seq ?_
 refine swp_region ?_
 refine s_pu (pu_move rfl) ?_
 refine s_pu (pu_len_row hG.1 rfl) ?_
 refine s_pu (pu_move rfl) ?_
 refine swl_sub _ (.cons (t := 0) rfl (.cons (t := 11) rfl (.cons (t := 12) rfl (.cons (t := 13) rfl .nil)))) ?_
 refine swl_nil ?_
 refine then_n ?_
 refine swp_block ?_
 refine swp_loop (ι := Nat) (fun i env L => env = [(0, X.sv), (11, lv), (12, .int .i64 (G.length : Nat)), (13, .int .i64 (i : Nat))] ∧ L = [X.A s μ, ro μ] ∧ i ≤ G.length ∧ ((nums G).take i).all (fun l => l.all (inR X.n)) = true) (fun i => G.length - i) 0 ⟨rfl, rfl, Nat.zero_le _, rfl⟩ ?_
 rintro i env L ⟨rfl, rfl, hi, hall⟩
 refine swp_seq ?_
 refine swp_region ?_
 refine s_pu (pu_lss rfl rfl) ?_
 refine swl_sub _ (.cons (t := 0) rfl (.cons (t := 11) rfl (.cons (t := 12) rfl (.cons (t := 13) rfl (.cons (t := 14) rfl .nil))))) ?_
 refine swl_nil ?_
 refine then_n ?_
 refine swp_seq ?_
 refine swp_cond (b := _) rfl (fun h14 => ?_) (fun h14 => ?_)
 ·skip
  have h14' : i < G.length := by have := of_decide_eq_true h14; omega
  obtain ⟨gb, off, cap, x, hv, hx, hxc, hxr, hnx⟩ := row_at hG h14'
  have hsx := hxr.small
  refine swp_skip ?_
  refine then_n ?_
  refine swp_seq ?_
  refine swp_block ?_
  refine swp_seq ?_
  refine swp_region ?_
  refine s_pu (pu_indexAddr (off + i * 1) (congrArg some hv) rfl (by omega) (by omega) (by rw [Int.toNat_natCast])) ?_
  refine s_rd (rd_ro rfl hxc) ?_
  refine s_pu (pu_assign rfl) ?_
  refine swl_sub _ (.cons (t := 0) rfl (.cons (t := 6) rfl (.cons (t := 11) rfl (.cons (t := 12) rfl (.cons (t := 13) rfl .nil))))) ?_
  refine swl_nil ?_
  refine then_n ?_
  refine swp_seq ?_
  refine swp_region ?_
  refine s_pu (pu_move rfl) ?_
  refine s_pu (pu_len_row hxr rfl) ?_
  refine s_pu (pu_move rfl) ?_
  refine swl_sub _ (.cons (t := 0) rfl (.cons (t := 11) rfl (.cons (t := 12) rfl (.cons (t := 13) rfl (.cons (t := 17) rfl (.cons (t := 18) rfl (.cons (t := 19) rfl .nil))))))) ?_
  refine swl_nil ?_
  refine then_n ?_
  refine swp_block ?_
  refine swp_loop (ι := Nat) (fun j env L => env = [(0, X.sv), (11, lv), (12, .int .i64 (G.length : Nat)), (13, .int .i64 (i : Nat)), (17, x.1), (18, .int .i64 (x.2.length : Nat)), (19, .int .i64 (j : Nat))] ∧ L = [X.A s μ, ro μ] ∧ j ≤ x.2.length ∧ (x.2.take j).all (inR X.n) = true) (fun j => x.2.length - j) 0 ⟨rfl, rfl, Nat.zero_le _, rfl⟩ ?_
  rintro j env L ⟨rfl, rfl, hj, hin⟩
  refine swp_seq ?_
  refine swp_region ?_
  refine s_pu (pu_lss rfl rfl) ?_
  refine swl_sub _ (.cons (t := 0) rfl (.cons (t := 11) rfl (.cons (t := 12) rfl (.cons (t := 13) rfl (.cons (t := 17) rfl (.cons (t := 18) rfl (.cons (t := 19) rfl (.cons (t := 20) rfl .nil)))))))) ?_
  refine swl_nil ?_
  refine then_n ?_
  refine swp_seq ?_
  refine swp_cond (b := _) rfl (fun h20 => ?_) (fun h20 => ?_)
  ·skip
   have h20' : j < x.2.length := by have := of_decide_eq_true h20; omega
   obtain ⟨c, hc⟩ : ∃ c, x.2[j]? = some c := ⟨_, List.getElem?_eq_getElem h20'⟩
   obtain ⟨pb, po, pc, hpv, hpc⟩ := hxr.at_ hc
   have hbad : inR X.n c = false → (nums G).all (fun l => l.all (inR X.n)) = false := fun h => by
    rw [List.all_eq_false]
    refine ⟨x.2, List.mem_of_getElem? hnx, ?_⟩
    rw [List.all_eq_true]
    intro h2
    rw [h2 c (List.mem_of_getElem? hc)] at h; cases h
   refine swp_skip ?_
   refine then_n ?_
   refine swp_seq ?_
   refine swp_block ?_
   refine swp_seq ?_
   refine swp_region ?_
   refine s_pu (pu_indexAddr (po + j * 1) (congrArg some hpv) rfl (by omega) (by omega) (by rw [Int.toNat_natCast])) ?_
   refine s_rd (rd_ro rfl hpc) ?_
   refine s_pu (pu_assign rfl) ?_
   refine swl_sub _ (.cons (t := 0) rfl (.cons (t := 8) rfl (.cons (t := 11) rfl (.cons (t := 12) rfl (.cons (t := 13) rfl (.cons (t := 17) rfl (.cons (t := 18) rfl (.cons (t := 19) rfl .nil)))))))) ?_
   refine swl_nil ?_
   refine then_n ?_
   refine swp_seq ?_
   refine swp_region ?_
   refine s_pu (pu_move rfl) ?_
   refine s_pu (pu_lss rfl rfl) ?_
   refine s_pu (pu_move rfl) ?_
   refine s_split 25 rfl (fun h25 => ?_) (fun h25 => ?_)
   ·skip
    refine s_off rfl rfl rfl ?_
    refine s_off rfl rfl rfl ?_
    refine s_off rfl rfl rfl ?_
    refine s_off rfl rfl rfl ?_
    first | refine s_pu (pu_pick_t rfl rfl) ?_ | refine s_pu (pu_pick_f rfl rfl) ?_
    refine swl_sub _ (.cons (t := 0) rfl (.cons (t := 11) rfl (.cons (t := 12) rfl (.cons (t := 13) rfl (.cons (t := 17) rfl (.cons (t := 18) rfl (.cons (t := 19) rfl (.cons (t := 30) rfl .nil)))))))) ?_
    refine swl_nil ?_
    refine then_n ?_
    refine swp_cond (b := _) rfl (fun h30 => ?_) (fun h30 => by cases h30)
    refine swp_seq ?_
    refine swp_region ?_
    refine s_pu (pu_assign rfl) ?_
    refine swl_sub _ (.cons (t := 4) rfl .nil) ?_
    refine swl_nil ?_
    refine then_n ?_
    refine swp_ret ?_
    refine block_r ?_
    refine then_r ?_
    refine then_r ?_
    refine block_r ?_
    refine block_r ?_
    refine then_r ?_
    refine then_r ?_
    refine block_r ?_
    refine then_r ?_
    have h25' := of_decide_eq_true h25
    refine done_ret [X.A s μ, ro μ] (.tmp rfl .nil) ⟨?_, rfl⟩ (by repeat (first | exact Split.nil | (apply Split.cons; (repeat (first | with_reducible exact Take.here | apply Take.there)))))
    unfold askedE
    rw [if_neg (by rw [hbad (by unfold inR; rw [decide_eq_false (by omega)]; rfl)]; exact Bool.false_ne_true)]; rfl
   ·skip
    refine s_on rfl rfl ?_
    refine s_pu (pu_move rfl) ?_
    refine s_on rfl rfl ?_
    refine s_pu (pu_move rfl) ?_
    refine s_on rfl rfl ?_
    refine s_ef (ef_fn (bcommits_spec X s μ) rfl rfl (by repeat (first | exact Split.nil | (apply Split.cons; (repeat (first | with_reducible exact Take.here | apply Take.there)))))) ?_
    rintro v28 L1 ⟨rfl, rfl⟩
    refine swl_app ?_
    refine s_on rfl rfl ?_
    refine s_pu (pu_geq rfl rfl) ?_
    first | refine s_pu (pu_pick_t rfl rfl) ?_ | refine s_pu (pu_pick_f rfl rfl) ?_
    refine swl_sub _ (.cons (t := 0) rfl (.cons (t := 11) rfl (.cons (t := 12) rfl (.cons (t := 13) rfl (.cons (t := 17) rfl (.cons (t := 18) rfl (.cons (t := 19) rfl (.cons (t := 30) rfl .nil)))))))) ?_
    refine swl_nil ?_
    refine then_n ?_
    refine swp_cond (b := _) rfl (fun h30 => ?_) (fun h30 => ?_)
    ·skip
     refine swp_seq ?_
     refine swp_region ?_
     refine s_pu (pu_assign rfl) ?_
     refine swl_sub _ (.cons (t := 4) rfl .nil) ?_
     refine swl_nil ?_
     refine then_n ?_
     refine swp_ret ?_
     refine block_r ?_
     refine then_r ?_
     refine then_r ?_
     refine block_r ?_
     refine block_r ?_
     refine then_r ?_
     refine then_r ?_
     refine block_r ?_
     refine then_r ?_
     have h30' := of_decide_eq_true h30
     refine done_ret [X.A s μ, ro μ] (.tmp rfl .nil) ⟨?_, rfl⟩ (by repeat (first | exact Split.nil | (apply Split.cons; (repeat (first | with_reducible exact Take.here | apply Take.there)))))
     unfold askedE
     rw [if_neg (by rw [hbad (by unfold inR; rw [decide_eq_false (p := c < (X.n : Int)) (by omega), Bool.and_false])]; exact Bool.false_ne_true)]; rfl
    ·skip
     refine swp_skip ?_
     refine block_n ?_
     refine then_n ?_
     refine swp_region ?_
     refine s_pu (pu_add_as ((j + 1 : Nat) : Int) rfl rfl (by omega) (by omega) (by omega)) ?_
     refine s_pu (pu_move rfl) ?_
     refine swl_sub _ (.cons (t := 0) rfl (.cons (t := 11) rfl (.cons (t := 12) rfl (.cons (t := 13) rfl (.cons (t := 17) rfl (.cons (t := 18) rfl (.cons (t := 19) rfl .nil))))))) ?_
     refine swl_nil ?_
     have h25' := of_decide_eq_false h25
     have h30' := of_decide_eq_false h30
     refine then_n ⟨j + 1, ⟨rfl, rfl, h20', ?_⟩, by omega⟩
     rw [List.take_add_one, hc, List.all_append, hin]
     show (true && ([c].all _)) = true
     simp only [List.all_cons, List.all_nil, Bool.and_true, Bool.true_and]
     unfold inR
     rw [decide_eq_true (show 0 ≤ c by omega), decide_eq_true (show c < (X.n : Int) by omega)]; rfl
  ·skip
   have h20' := of_decide_eq_false h20
   obtain rfl : j = x.2.length := by omega
   rw [List.take_length] at hin
   refine swp_exit ?_
   refine then_x ?_
   refine then_x ?_
   refine block_hit rfl ?_
   refine block_n ?_
   refine then_n ?_
   refine swp_region ?_
   refine s_pu (pu_add_as ((i + 1 : Nat) : Int) rfl rfl (by omega) (by omega) (by omega)) ?_
   refine s_pu (pu_move rfl) ?_
   refine swl_sub _ (.cons (t := 0) rfl (.cons (t := 11) rfl (.cons (t := 12) rfl (.cons (t := 13) rfl .nil)))) ?_
   refine swl_nil ?_
   refine then_n ⟨i + 1, ⟨rfl, rfl, h14', ?_⟩, by omega⟩
   rw [List.take_add_one, hnx, List.all_append, hall]
   show (true && ([x.2].all _)) = true
   simp only [List.all_cons, List.all_nil, Bool.and_true, Bool.true_and]
   exact hin
 ·skip
  have h14' := of_decide_eq_false h14
  obtain rfl : i = G.length := by omega
  refine swp_exit ?_
  refine then_x ?_
  refine then_x ?_
  refine block_hit rfl ?_
  refine then_n ?_
  refine swp_seq ?_
  refine swp_region ?_
  refine s_pu (pu_assign rfl) ?_
  refine swl_sub _ (.cons (t := 4) rfl .nil) ?_
  refine swl_nil ?_
  refine then_n ?_
  refine swp_ret ?_
  refine done_ret [X.A s μ, ro μ] (.tmp rfl .nil) ⟨?_, rfl⟩ (by repeat (first | exact Split.nil | (apply Split.cons; (repeat (first | with_reducible exact Take.here | apply Take.there)))))
  rw [List.take_of_length_le (by rw [List.length_map]; exact Nat.le_refl _)] at hall
  unfold askedE
  rw [if_pos hall]; rfl
/-- the bases of two sides, or why not -/
def sidesA (g : List (List Int)) (xs ys : List Int) : List Int := if onlyE g xs ys = 0 then sidesB g xs ys else []
set_option maxHeartbeats 4000000 in
theorem sides_spec (X : Src) (s0 : X.σ) (μ : PH) (v u : Value) (xs ys : List Int) (hT : RowAt μ 1 0 tabV) (hv : Row μ v 1 xs.length (xs.flatMap (icsk .i64))) (hu : Row μ u 1 ys.length (ys.flatMap (icsk .i64))) (h0 : Le X.μ0 μ) (hf : X.fine s0) :
  Spec Tryd.prog 26 [X.sv, v, u] [X.A s0 μ, ro μ] (fun r L => ∃ lv zs μ', askedIn X.n zs ∧ Le μ μ' ∧ r = .tuple #[lv, .int .i64 (onlyE X.g xs ys)] ∧ L = [own 3 1 lv (sidesA X.g xs ys).length ((sidesA X.g xs ys).flatMap (icsk .i64)), X.A (zs.foldl X.step s0) μ', ro μ']) := by
 have hn := X.hn
 have hXn : X.n = X.g.length := rfl
 have hvs := hv.small
 have hus := hu.small
 obtain ⟨A1, c1, rfl⟩ := hv.sl
 obtain ⟨A2, c2, rfl⟩ := hu.sl
 refine Spec.of 51 Tryd.func26 rfl rfl rfl ?_
 refine swp_seq ?_
 refine swp_region ?_
 refine s_pu (pu_assign rfl) ?_
 refine s_pu (pu_assign rfl) ?_
 refine swl_sub _ (.cons (t := 0) rfl (.cons (t := 1) rfl (.cons (t := 2) rfl .nil))) ?_
 refine swl_nil ?_
 refine then_n ?_
 refine swp_seq ?_
 refine swp_seq ?_
 refine swp_region ?_
 refine s_pu (pu_move rfl) ?_
 refine s_pu (pu_move rfl) ?_
 refine s_pu (pu_move rfl) ?_
 refine s_ef (ef_bldS (qs := [(0, _), (1, _)]) rfl rfl rfl) ?_
 intro b17
 refine swl_share (b := b17) (μ := μ) (by repeat (first | exact Split.nil | (apply Split.cons; (repeat (first | with_reducible exact Take.here | apply Take.there))))) fun μ1 h1 k1 => ?_
 refine swl_ent (X.up (s := s0) h1 (by repeat (first | exact Split.nil | (apply Split.cons; (repeat (first | with_reducible exact Take.here | apply Take.there)))))) ?_
 have hG : Graph μ1 (.slice (some ⟨b17, 0, none⟩) 2 2) [(.slice A1 xs.length c1, xs), (.slice A2 ys.length c2, ys)] := ⟨row_of_blk k1 (by rfl) (by decide), fun x hx => by
  rcases List.mem_cons.1 hx with rfl | hx
  ·exact hv.le h1
  ·obtain rfl := List.mem_singleton.1 hx; exact hu.le h1⟩
 refine s_ef (ef_fn (basked_spec X s0 μ1 _ _ hG) rfl rfl (by repeat (first | exact Split.nil | (apply Split.cons; (repeat (first | with_reducible exact Take.here | apply Take.there)))))) ?_
 rintro v18 L1 ⟨rfl, rfl⟩
 refine swl_app ?_
 rw [show askedE X.n (nums [(Value.slice A1 xs.length c1, xs), (Value.slice A2 ys.length c2, ys)]) = onlyE X.g xs ys from rfl]
 refine s_pu (pu_assign rfl) ?_
 refine swl_sub _ (.cons (t := 0) rfl (.cons (t := 1) rfl (.cons (t := 2) rfl (.cons (t := 8) rfl .nil)))) ?_
 refine swl_nil ?_
 refine then_n ?_
 refine swp_seq ?_
 refine swp_region ?_
 refine s_pu (pu_move rfl) ?_
 refine s_pu (pu_neq rfl rfl) ?_
 refine swl_sub _ (.cons (t := 0) rfl (.cons (t := 1) rfl (.cons (t := 2) rfl (.cons (t := 8) rfl (.cons (t := 20) rfl .nil))))) ?_
 refine swl_nil ?_
 refine then_n ?_
 refine swp_cond (b := _) rfl (fun h20 => ?_) (fun h20 => ?_)
 ·skip
  have he : onlyE X.g xs ys ≠ 0 := by simpa using h20
  refine swp_seq ?_
  refine swp_region ?_
  refine s_pu (pu_move rfl) ?_
  refine s_pu (pu_assign rfl) ?_
  refine s_pu (pu_assign rfl) ?_
  refine swl_sub _ (.cons (t := 6) rfl (.cons (t := 7) rfl .nil)) ?_
  refine swl_nil ?_
  refine then_n ?_
  refine swp_ret ?_
  refine then_r ?_
  refine done_retE [own 3 1 (.slice none 0 0) (sidesA X.g xs ys).length ((sidesA X.g xs ys).flatMap (icsk .i64)), X.A s0 μ1, ro μ1] (.tmp rfl (.tmp rfl .nil)) ⟨_, [], μ1, ⟨List.nodup_nil, fun y hy => by cases hy⟩, h1, rfl, rfl⟩ ?_
  rw [sidesA, if_neg he]
  exact (Split.ent' (K := [X.A s0 μ1, ro μ1]) (by repeat (first | exact Split.nil | (apply Split.cons; (repeat (first | with_reducible exact Take.here | apply Take.there)))))).trans own_nil_ent
 ·skip
  have he : onlyE X.g xs ys = 0 := by simpa using h20
  have hx : ∀ p ∈ xs, 0 ≤ p ∧ p < X.g.length := askedE_in he (by simp)
  have hy : ∀ p ∈ ys, 0 ≤ p ∧ p < X.g.length := askedE_in he (by simp)
  refine swp_skip ?_
  refine then_n ?_
  refine swp_seq ?_
  refine swp_region ?_
  refine s_pu (pu_move rfl) ?_
  refine s_pu (pu_move rfl) ?_
  refine s_ef (ef_fn (bcommits_spec X s0 μ1) rfl rfl (by repeat (first | exact Split.nil | (apply Split.cons; (repeat (first | with_reducible exact Take.here | apply Take.there)))))) ?_
  rintro v24 L1 ⟨rfl, rfl⟩
  refine swl_app ?_
  refine s_ef (ef_makeMap (kv := ikv)) ?_
  intro b25
  refine s_ef (ef_fn Bq.new_q rfl rfl (by repeat (first | exact Split.nil | (apply Split.cons; (repeat (first | with_reducible exact Take.here | apply Take.there)))))) ?_
  rintro v26 L1 ⟨q, rfl, rfl⟩
  refine swl_app ?_
  refine s_pu (pu_bld (qs := [(0, _), (1, _), (2, _), (3, _)]) rfl) ?_
  refine s_ef (ef_box rfl rfl) ?_
  intro b28
  refine s_pu (pu_assign rfl) ?_
  refine swl_sub _ (.cons (t := 1) rfl (.cons (t := 2) rfl (.cons (t := 9) rfl .nil))) ?_
  refine swl_ent (Split.ent' (K := [mpe b25 ikv [] 0, blk b28 116 [X.sv, .int .i64 (X.n : Nat), .map (some b25), .pointer (some ⟨q, 0, none⟩), .int .i64 0], Bq.cq q [] 0, X.A s0 μ1, ro μ1]) (by repeat (first | exact Split.nil | (apply Split.cons; (repeat (first | with_reducible exact Take.here | apply Take.there)))))) ?_
  refine swl_ent (mpP_close pmap_nil) ?_
  have hs0 : seenP X.n (fun _ => 0) = 0 := by unfold seenP; exact seenN_none _
  refine swl_nil ?_
  refine then_n ?_
  refine swp_seq ?_
  refine swp_seq ?_
  refine swp_region ?_
  refine s_pu (pu_move rfl) ?_
  refine s_pu (pu_len rfl) ?_
  refine s_pu (pu_move rfl) ?_
  refine swl_sub _ (.cons (t := 2) rfl (.cons (t := 9) rfl (.cons (t := 29) rfl (.cons (t := 30) rfl (.cons (t := 31) rfl .nil))))) ?_
  refine swl_nil ?_
  refine then_n ?_
  refine swp_block ?_
  have key : ∀ i, PI X.n X.n (addRow 1 (fun _ => 0, []) (xs.take i)) := fun i => (PI.addRow (v := 1) (Nat.le_refl X.n) (by unfold isV; decide) (by decide) (PI.start X.n) (fun p hp => hx p (List.mem_of_mem_take hp))).1
  refine swp_ent (L' := [ptB b28 X.sv X.n b25 q (frP (addRow 1 (fun _ => 0, []) (xs.take 0))), mpP b25 (addRow 1 (fun _ => 0, []) (xs.take 0)).1, Bq.cq q (addRow 1 (fun _ => 0, []) (xs.take 0)).2 (seenP X.n (addRow 1 (fun _ => 0, []) (xs.take 0)).1), X.A s0 μ1, ro μ1]) (by
   show Ent _ [blk b28 116 [X.sv, .int .i64 (X.n : Nat), .map (some b25), .pointer (some ⟨q, 0, none⟩), .int .i64 0], mpP b25 (fun _ => 0), Bq.cq q [] (seenP X.n (fun _ => 0)), X.A s0 μ1, ro μ1]
   rw [hs0]; exact Split.ent' (by repeat (first | exact Split.nil | (apply Split.cons; (repeat (first | with_reducible exact Take.here | apply Take.there)))))) ?_
  refine swp_loop (ι := Nat) (fun i env L => env = [(2, .slice A2 ys.length c2), (9, .pointer (some ⟨b28, 0, none⟩)), (29, .slice A1 xs.length c1), (30, .int .i64 (xs.length : Nat)), (31, .int .i64 (i : Nat))]
   ∧ L = [ptB b28 X.sv X.n b25 q (frP (addRow 1 (fun _ => 0, []) (xs.take i))), mpP b25 (addRow 1 (fun _ => 0, []) (xs.take i)).1, Bq.cq q (addRow 1 (fun _ => 0, []) (xs.take i)).2 (seenP X.n (addRow 1 (fun _ => 0, []) (xs.take i)).1), X.A s0 μ1, ro μ1] ∧ i ≤ xs.length) (fun i => xs.length - i) 0 ⟨rfl, rfl, Nat.zero_le _⟩ ?_
  rintro i env L ⟨rfl, rfl, hi⟩
  refine swp_seq ?_
  refine swp_region ?_
  refine s_pu (pu_lss rfl rfl) ?_
  refine swl_sub _ (.cons (t := 2) rfl (.cons (t := 9) rfl (.cons (t := 29) rfl (.cons (t := 30) rfl (.cons (t := 31) rfl (.cons (t := 32) rfl .nil)))))) ?_
  refine swl_nil ?_
  refine then_n ?_
  refine swp_seq ?_
  refine swp_cond (b := _) rfl (fun h32 => ?_) (fun h32 => ?_)
  ·skip
   have h32' : i < xs.length := by have := of_decide_eq_true h32; omega
   obtain ⟨c, hc⟩ : ∃ c, xs[i]? = some c := ⟨_, List.getElem?_eq_getElem h32'⟩
   obtain ⟨pb, po, pc, hpv, hpc⟩ := (hv.le h1).at_ hc
   have hcr := hx c (List.mem_of_getElem? hc)
   obtain ⟨c, rfl⟩ : ∃ k : Nat, c = k := ⟨c.toNat, by omega⟩
   have hsu := addRow_succ (v := 1) (s := (fun _ => 0, [])) hc
   rw [Int.toNat_natCast] at hsu
   have hki := key i
   generalize addRow 1 (fun _ => 0, []) (xs.take i) = si at *
   refine swp_skip ?_
   refine then_n ?_
   refine swp_seq ?_
   refine swp_block ?_
   refine swp_seq ?_
   refine swp_region ?_
   refine s_pu (pu_indexAddr (po + i * 1) (congrArg some hpv) rfl (by omega) (by omega) (by rw [Int.toNat_natCast])) ?_
   refine s_rd (rd_ro rfl hpc) ?_
   refine s_pu (pu_assign rfl) ?_
   refine swl_sub _ (.cons (t := 2) rfl (.cons (t := 9) rfl (.cons (t := 11) rfl (.cons (t := 29) rfl (.cons (t := 30) rfl (.cons (t := 31) rfl .nil)))))) ?_
   refine swl_nil ?_
   refine then_n ?_
   refine swp_region ?_
   refine s_pu (pu_move rfl) ?_
   refine s_pu (pu_move rfl) ?_
   refine s_ef (ef_fn (padd_spec b28 X.n X.n b25 q X.sv si c 1 hn hki (Nat.le_refl _) (by omega) (by unfold isV; decide) (by decide)) rfl rfl (by repeat (first | exact Split.nil | (apply Split.cons; (repeat (first | with_reducible exact Take.here | apply Take.there)))))) ?_
   rintro v37 L1 ⟨rfl, rfl⟩
   refine swl_app ?_
   refine swl_sub _ (.cons (t := 2) rfl (.cons (t := 9) rfl (.cons (t := 29) rfl (.cons (t := 30) rfl (.cons (t := 31) rfl .nil))))) ?_
   refine swl_nil ?_
   refine block_n ?_
   refine then_n ?_
   refine swp_region ?_
   refine s_pu (pu_add_as ((i + 1 : Nat) : Int) rfl rfl (by omega) (by omega) (by omega)) ?_
   refine s_pu (pu_move rfl) ?_
   refine swl_sub _ (.cons (t := 2) rfl (.cons (t := 9) rfl (.cons (t := 29) rfl (.cons (t := 30) rfl (.cons (t := 31) rfl .nil))))) ?_
   refine swl_nil ?_
   exact then_n ⟨i + 1, ⟨rfl, by rw [hsu], h32'⟩, by omega⟩
  ·skip
   have h32' := of_decide_eq_false h32
   obtain rfl : i = xs.length := by omega
   have hk1 := key xs.length
   rw [List.take_length] at *
   refine swp_exit ?_
   refine then_x ?_
   refine then_x ?_
   refine block_hit rfl ?_
   refine then_n ?_
   refine swp_seq ?_
   refine swp_seq ?_
   refine swp_region ?_
   refine s_pu (pu_move rfl) ?_
   refine s_pu (pu_len_row hu rfl) ?_
   refine s_pu (pu_move rfl) ?_
   refine swl_sub _ (.cons (t := 9) rfl (.cons (t := 39) rfl (.cons (t := 40) rfl (.cons (t := 41) rfl .nil)))) ?_
   refine swl_nil ?_
   refine then_n ?_
   refine swp_block ?_
   have key2 : ∀ i, PI X.n X.n (addRow 2 (addRow 1 (fun _ => 0, []) xs) (ys.take i)) := fun i => (PI.addRow (v := 2) (Nat.le_refl X.n) (by unfold isV; decide) (by decide) hk1 (fun p hp => hy p (List.mem_of_mem_take hp))).1
   refine swp_sub _ (.cons (t := 9) rfl (.cons (t := 39) rfl (.cons (t := 40) rfl (.cons (t := 41) rfl .nil)))) ?_
   refine swp_loop (ι := Nat) (fun i env L => env = [(9, .pointer (some ⟨b28, 0, none⟩)), (39, .slice A2 ys.length c2), (40, .int .i64 (ys.length : Nat)), (41, .int .i64 (i : Nat))]
    ∧ L = [ptB b28 X.sv X.n b25 q (frP (addRow 2 (addRow 1 (fun _ => 0, []) xs) (ys.take i))), mpP b25 (addRow 2 (addRow 1 (fun _ => 0, []) xs) (ys.take i)).1, Bq.cq q (addRow 2 (addRow 1 (fun _ => 0, []) xs) (ys.take i)).2 (seenP X.n (addRow 2 (addRow 1 (fun _ => 0, []) xs) (ys.take i)).1), X.A s0 μ1, ro μ1] ∧ i ≤ ys.length) (fun i => ys.length - i) 0 ⟨rfl, rfl, Nat.zero_le _⟩ ?_
   rintro i env L ⟨rfl, rfl, hi⟩
   refine swp_seq ?_
   refine swp_region ?_
   refine s_pu (pu_lss rfl rfl) ?_
   refine swl_sub _ (.cons (t := 9) rfl (.cons (t := 39) rfl (.cons (t := 40) rfl (.cons (t := 41) rfl (.cons (t := 42) rfl .nil))))) ?_
   refine swl_nil ?_
   refine then_n ?_
   refine swp_seq ?_
   refine swp_cond (b := _) rfl (fun h42 => ?_) (fun h42 => ?_)
   ·skip
    have h42' : i < ys.length := by have := of_decide_eq_true h42; omega
    obtain ⟨c, hc⟩ : ∃ c, ys[i]? = some c := ⟨_, List.getElem?_eq_getElem h42'⟩
    obtain ⟨pb, po, pc, hpv, hpc⟩ := (hu.le h1).at_ hc
    have hcr := hy c (List.mem_of_getElem? hc)
    obtain ⟨c, rfl⟩ : ∃ k : Nat, c = k := ⟨c.toNat, by omega⟩
    have hsu := addRow_succ (v := 2) (s := addRow 1 (fun _ => 0, []) xs) hc
    rw [Int.toNat_natCast] at hsu
    have hki := key2 i
    generalize addRow 2 (addRow 1 (fun _ => 0, []) xs) (ys.take i) = si at *
    refine swp_skip ?_
    refine then_n ?_
    refine swp_seq ?_
    refine swp_block ?_
    refine swp_seq ?_
    refine swp_region ?_
    refine s_pu (pu_indexAddr (po + i * 1) (congrArg some hpv) rfl (by omega) (by omega) (by rw [Int.toNat_natCast])) ?_
    refine s_rd (rd_ro rfl hpc) ?_
    refine s_pu (pu_assign rfl) ?_
    refine swl_sub _ (.cons (t := 9) rfl (.cons (t := 13) rfl (.cons (t := 39) rfl (.cons (t := 40) rfl (.cons (t := 41) rfl .nil))))) ?_
    refine swl_nil ?_
    refine then_n ?_
    refine swp_region ?_
    refine s_pu (pu_move rfl) ?_
    refine s_pu (pu_move rfl) ?_
    refine s_ef (ef_fn (padd_spec b28 X.n X.n b25 q X.sv si c 2 hn hki (Nat.le_refl _) (by omega) (by unfold isV; decide) (by decide)) rfl rfl (by repeat (first | exact Split.nil | (apply Split.cons; (repeat (first | with_reducible exact Take.here | apply Take.there)))))) ?_
    rintro v47 L1 ⟨rfl, rfl⟩
    refine swl_app ?_
    refine swl_sub _ (.cons (t := 9) rfl (.cons (t := 39) rfl (.cons (t := 40) rfl (.cons (t := 41) rfl .nil)))) ?_
    refine swl_nil ?_
    refine block_n ?_
    refine then_n ?_
    refine swp_region ?_
    refine s_pu (pu_add_as ((i + 1 : Nat) : Int) rfl rfl (by omega) (by omega) (by omega)) ?_
    refine s_pu (pu_move rfl) ?_
    refine swl_sub _ (.cons (t := 9) rfl (.cons (t := 39) rfl (.cons (t := 40) rfl (.cons (t := 41) rfl .nil)))) ?_
    refine swl_nil ?_
    exact then_n ⟨i + 1, ⟨rfl, by rw [hsu], h42'⟩, by omega⟩
   ·skip
    have h42' := of_decide_eq_false h42
    obtain rfl : i = ys.length := by omega
    rw [List.take_length]
    refine swp_exit ?_
    refine then_x ?_
    refine then_x ?_
    refine block_hit rfl ?_
    refine then_n ?_
    refine swp_seq ?_
    refine swp_region ?_
    refine s_pu (pu_move rfl) ?_
    refine s_ef (ef_fn (pbest_spec X s0 μ1 b28 b25 q xs ys (hT.le h1) (h0.trans h1) hf hx hy) rfl rfl (by repeat (first | exact Split.nil | (apply Split.cons; (repeat (first | with_reducible exact Take.here | apply Take.there)))))) ?_
    rintro v50 L1 ⟨zs, μ2, hzs, h2, rfl⟩
    refine swl_app ?_
    rw [show sidesB X.g xs ys = sidesA X.g xs ys from (if_pos he).symm]
    refine s_pu (pu_assign rfl) ?_
    refine s_pu (pu_assign rfl) ?_
    refine swl_sub _ (.cons (t := 6) rfl (.cons (t := 7) rfl .nil)) ?_
    refine swl_nil ?_
    refine then_n ?_
    refine swp_ret ?_
    exact done_ret [own 3 1 v50 (sidesA X.g xs ys).length ((sidesA X.g xs ys).flatMap (icsk .i64)), X.A (zs.foldl X.step s0) μ2, ro μ2] (.tmp rfl (.tmp rfl .nil)) ⟨_, zs, μ2, hzs, h1.trans h2, by rw [he]; rfl, rfl⟩ (by repeat (first | exact Split.nil | (apply Split.cons; (repeat (first | with_reducible exact Take.here | apply Take.there)))))
end SX
namespace SX
open Go Go.Proofs

end SX
namespace SX
open Go Go.Proofs
/-- a source that says anything -/
structure WSrc where
  t : TypeId
  v : Value
  d : Nat
  hd : d ≤ 7
  N : Int
  n : Nat
  hN : min (max N 0) 65536 = (n : Int)
  σ : Type
  A : σ → Assn
  μ0 : PH
  commits : ∀ s, InvS Tryd.prog d t v "Commits" [] [A s] (fun r L => r = .int .i64 N ∧ L = [A s])
  parents : ∀ s μ (c : Nat), Le μ0 μ → c < n → InvS Tryd.prog d t v "Parents" [.int .i64 (c : Nat)] [A s, ro μ] (fun r L => ∃ (l : List Int) (s' : σ) (μ' : PH), Le μ μ' ∧ l.length ≤ 1000000 ∧ Row μ' r 1 l.length (l.flatMap (icsk .i64)) ∧ L = [A s', ro μ'])
abbrev WSrc.sv (X : WSrc) : Value := .iface X.t X.v
theorem WSrc.hn (X : WSrc) : X.n ≤ 65536 := by have := X.hN; omega
theorem wcommits_spec (X : WSrc) (s : X.σ) : Spec Tryd.prog 36 [X.sv] [X.A s] (fun r L => r = .int .i64 (X.n : Nat) ∧ L = [X.A s]) := by
 have hn := X.hN
 refine Spec.of 7 Tryd.func36 rfl rfl rfl ?_
 refine swp_seq ?_
 refine swp_region ?_
 refine s_pu (pu_assign rfl) ?_
 refine swl_sub _ (.cons (t := 0) rfl .nil) ?_
 refine swl_nil ?_
 refine then_n ?_
 refine swp_seq ?_
 refine swp_region ?_
 refine s_pu (pu_move rfl) ?_
 refine s_ef (ef_invS rfl X.hd (X.commits s) rfl (by repeat (first | exact Split.nil | (apply Split.cons; (repeat (first | with_reducible exact Take.here | apply Take.there)))))) ?_
 rintro v4 L1 ⟨rfl, rfl⟩
 refine swl_app ?_
 refine s_pu (pu_max2 rfl rfl) ?_
 refine s_pu (pu_min2 rfl rfl) ?_
 refine s_pu (pu_assign rfl) ?_
 refine swl_sub _ (.cons (t := 2) rfl .nil) ?_
 refine swl_nil ?_
 refine then_n ?_
 refine swp_ret ?_
 exact done_ret [X.A s] (.tmp rfl .nil) ⟨by show Value.int .i64 _ = _; rw [hn], rfl⟩ (by repeat (first | exact Split.nil | (apply Split.cons; (repeat (first | with_reducible exact Take.here | apply Take.there)))))
set_option maxHeartbeats 1000000 in
theorem wasked_spec (X : WSrc) (s : X.σ) (μ : PH) (lv : Value) (G : List (Value × List Int)) (hG : Graph μ lv G) : Spec Tryd.prog 35 [X.sv, lv] [X.A s, ro μ] (fun r L => r = .int .i64 (askedE X.n (nums G)) ∧ L = [X.A s, ro μ]) := by
 have hsm := hG.1.small
 have hXn := X.hn
 refine Spec.of 33 Tryd.func35 rfl rfl rfl ?_
 refine swp_seq ?_
 refine swp_region ?_
 refine s_pu (pu_assign rfl) ?_
 refine swl_sub _ (.cons (t := 0) rfl (.cons (t := 1) rfl .nil)) ?_
 refine swl_nil ?_
 refine then_n ?_
 refine swp_seq ?_
 refine swp_seq ?_
 refine swp_region ?_
 refine s_pu (pu_move rfl) ?_
 refine s_pu (pu_if_eq_nil rfl rfl) ?_
 refine swl_sub _ (.cons (t := 0) rfl (.cons (t := 1) rfl (.cons (t := 10) rfl .nil))) ?_
 refine swl_nil ?_
 refine then_n ?_
 refine swp_cond (b := _) rfl (fun h10 => by cases h10) (fun h10 => ?_)
 refine swp_skip ?_
 refine then_n ?_
 refine swp_seq ?_
 refine swp_seq ?_
 refine swp_region ?_
 refine s_pu (pu_move rfl) ?_
 refine s_pu (pu_len_row hG.1 rfl) ?_
 refine s_pu (pu_move rfl) ?_
 refine swl_sub _ (.cons (t := 0) rfl (.cons (t := 11) rfl (.cons (t := 12) rfl (.cons (t := 13) rfl .nil)))) ?_
 refine swl_nil ?_
 refine then_n ?_
 refine swp_block ?_
 refine swp_loop (ι := Nat) (fun i env L => env = [(0, X.sv), (11, lv), (12, .int .i64 (G.length : Nat)), (13, .int .i64 (i : Nat))] ∧ L = [X.A s, ro μ] ∧ i ≤ G.length ∧ ((nums G).take i).all (fun l => l.all (inR X.n)) = true) (fun i => G.length - i) 0 ⟨rfl, rfl, Nat.zero_le _, rfl⟩ ?_
 rintro i env L ⟨rfl, rfl, hi, hall⟩
 refine swp_seq ?_
 refine swp_region ?_
 refine s_pu (pu_lss rfl rfl) ?_
 refine swl_sub _ (.cons (t := 0) rfl (.cons (t := 11) rfl (.cons (t := 12) rfl (.cons (t := 13) rfl (.cons (t := 14) rfl .nil))))) ?_
 refine swl_nil ?_
 refine then_n ?_
 refine swp_seq ?_
 refine swp_cond (b := _) rfl (fun h14 => ?_) (fun h14 => ?_)
 ·skip
  have h14' : i < G.length := by have := of_decide_eq_true h14; omega
  obtain ⟨gb, off, cap, x, hv, hx, hxc, hxr, hnx⟩ := row_at hG h14'
  have hsx := hxr.small
  refine swp_skip ?_
  refine then_n ?_
  refine swp_seq ?_
  refine swp_block ?_
  refine swp_seq ?_
  refine swp_region ?_
  refine s_pu (pu_indexAddr (off + i * 1) (congrArg some hv) rfl (by omega) (by omega) (by rw [Int.toNat_natCast])) ?_
  refine s_rd (rd_ro rfl hxc) ?_
  refine s_pu (pu_assign rfl) ?_
  refine swl_sub _ (.cons (t := 0) rfl (.cons (t := 6) rfl (.cons (t := 11) rfl (.cons (t := 12) rfl (.cons (t := 13) rfl .nil))))) ?_
  refine swl_nil ?_
  refine then_n ?_
  refine swp_seq ?_
  refine swp_region ?_
  refine s_pu (pu_move rfl) ?_
  refine s_pu (pu_len_row hxr rfl) ?_
  refine s_pu (pu_move rfl) ?_
  refine swl_sub _ (.cons (t := 0) rfl (.cons (t := 11) rfl (.cons (t := 12) rfl (.cons (t := 13) rfl (.cons (t := 17) rfl (.cons (t := 18) rfl (.cons (t := 19) rfl .nil))))))) ?_
  refine swl_nil ?_
  refine then_n ?_
  refine swp_block ?_
  refine swp_loop (ι := Nat) (fun j env L => env = [(0, X.sv), (11, lv), (12, .int .i64 (G.length : Nat)), (13, .int .i64 (i : Nat)), (17, x.1), (18, .int .i64 (x.2.length : Nat)), (19, .int .i64 (j : Nat))] ∧ L = [X.A s, ro μ] ∧ j ≤ x.2.length ∧ (x.2.take j).all (inR X.n) = true) (fun j => x.2.length - j) 0 ⟨rfl, rfl, Nat.zero_le _, rfl⟩ ?_
  rintro j env L ⟨rfl, rfl, hj, hin⟩
  refine swp_seq ?_
  refine swp_region ?_
  refine s_pu (pu_lss rfl rfl) ?_
  refine swl_sub _ (.cons (t := 0) rfl (.cons (t := 11) rfl (.cons (t := 12) rfl (.cons (t := 13) rfl (.cons (t := 17) rfl (.cons (t := 18) rfl (.cons (t := 19) rfl (.cons (t := 20) rfl .nil)))))))) ?_
  refine swl_nil ?_
  refine then_n ?_
  refine swp_seq ?_
  refine swp_cond (b := _) rfl (fun h20 => ?_) (fun h20 => ?_)
  ·skip
   have h20' : j < x.2.length := by have := of_decide_eq_true h20; omega
   obtain ⟨c, hc⟩ : ∃ c, x.2[j]? = some c := ⟨_, List.getElem?_eq_getElem h20'⟩
   obtain ⟨pb, po, pc, hpv, hpc⟩ := hxr.at_ hc
   have hbad : inR X.n c = false → (nums G).all (fun l => l.all (inR X.n)) = false := fun h => by
    rw [List.all_eq_false]
    refine ⟨x.2, List.mem_of_getElem? hnx, ?_⟩
    rw [List.all_eq_true]
    intro h2
    rw [h2 c (List.mem_of_getElem? hc)] at h; cases h
   refine swp_skip ?_
   refine then_n ?_
   refine swp_seq ?_
   refine swp_block ?_
   refine swp_seq ?_
   refine swp_region ?_
   refine s_pu (pu_indexAddr (po + j * 1) (congrArg some hpv) rfl (by omega) (by omega) (by rw [Int.toNat_natCast])) ?_
   refine s_rd (rd_ro rfl hpc) ?_
   refine s_pu (pu_assign rfl) ?_
   refine swl_sub _ (.cons (t := 0) rfl (.cons (t := 8) rfl (.cons (t := 11) rfl (.cons (t := 12) rfl (.cons (t := 13) rfl (.cons (t := 17) rfl (.cons (t := 18) rfl (.cons (t := 19) rfl .nil)))))))) ?_
   refine swl_nil ?_
   refine then_n ?_
   refine swp_seq ?_
   refine swp_region ?_
   refine s_pu (pu_move rfl) ?_
   refine s_pu (pu_lss rfl rfl) ?_
   refine s_pu (pu_move rfl) ?_
   refine s_split 25 rfl (fun h25 => ?_) (fun h25 => ?_)
   ·skip
    refine s_off rfl rfl rfl ?_
    refine s_off rfl rfl rfl ?_
    refine s_off rfl rfl rfl ?_
    refine s_off rfl rfl rfl ?_
    first | refine s_pu (pu_pick_t rfl rfl) ?_ | refine s_pu (pu_pick_f rfl rfl) ?_
    refine swl_sub _ (.cons (t := 0) rfl (.cons (t := 11) rfl (.cons (t := 12) rfl (.cons (t := 13) rfl (.cons (t := 17) rfl (.cons (t := 18) rfl (.cons (t := 19) rfl (.cons (t := 30) rfl .nil)))))))) ?_
    refine swl_nil ?_
    refine then_n ?_
    refine swp_cond (b := _) rfl (fun h30 => ?_) (fun h30 => by cases h30)
    refine swp_seq ?_
    refine swp_region ?_
    refine s_pu (pu_assign rfl) ?_
    refine swl_sub _ (.cons (t := 4) rfl .nil) ?_
    refine swl_nil ?_
    refine then_n ?_
    refine swp_ret ?_
    refine block_r ?_
    refine then_r ?_
    refine then_r ?_
    refine block_r ?_
    refine block_r ?_
    refine then_r ?_
    refine then_r ?_
    refine block_r ?_
    refine then_r ?_
    have h25' := of_decide_eq_true h25
    refine done_ret [X.A s, ro μ] (.tmp rfl .nil) ⟨?_, rfl⟩ (by repeat (first | exact Split.nil | (apply Split.cons; (repeat (first | with_reducible exact Take.here | apply Take.there)))))
    unfold askedE
    rw [if_neg (by rw [hbad (by unfold inR; rw [decide_eq_false (by omega)]; rfl)]; exact Bool.false_ne_true)]; rfl
   ·skip
    refine s_on rfl rfl ?_
    refine s_pu (pu_move rfl) ?_
    refine s_on rfl rfl ?_
    refine s_pu (pu_move rfl) ?_
    refine s_on rfl rfl ?_
    refine s_ef (ef_fn (wcommits_spec X s) rfl rfl (by repeat (first | exact Split.nil | (apply Split.cons; (repeat (first | with_reducible exact Take.here | apply Take.there)))))) ?_
    rintro v28 L1 ⟨rfl, rfl⟩
    refine swl_app ?_
    refine s_on rfl rfl ?_
    refine s_pu (pu_geq rfl rfl) ?_
    first | refine s_pu (pu_pick_t rfl rfl) ?_ | refine s_pu (pu_pick_f rfl rfl) ?_
    refine swl_sub _ (.cons (t := 0) rfl (.cons (t := 11) rfl (.cons (t := 12) rfl (.cons (t := 13) rfl (.cons (t := 17) rfl (.cons (t := 18) rfl (.cons (t := 19) rfl (.cons (t := 30) rfl .nil)))))))) ?_
    refine swl_nil ?_
    refine then_n ?_
    refine swp_cond (b := _) rfl (fun h30 => ?_) (fun h30 => ?_)
    ·skip
     refine swp_seq ?_
     refine swp_region ?_
     refine s_pu (pu_assign rfl) ?_
     refine swl_sub _ (.cons (t := 4) rfl .nil) ?_
     refine swl_nil ?_
     refine then_n ?_
     refine swp_ret ?_
     refine block_r ?_
     refine then_r ?_
     refine then_r ?_
     refine block_r ?_
     refine block_r ?_
     refine then_r ?_
     refine then_r ?_
     refine block_r ?_
     refine then_r ?_
     have h30' := of_decide_eq_true h30
     refine done_ret [X.A s, ro μ] (.tmp rfl .nil) ⟨?_, rfl⟩ (by repeat (first | exact Split.nil | (apply Split.cons; (repeat (first | with_reducible exact Take.here | apply Take.there)))))
     unfold askedE
     rw [if_neg (by rw [hbad (by unfold inR; rw [decide_eq_false (p := c < (X.n : Int)) (by omega), Bool.and_false])]; exact Bool.false_ne_true)]; rfl
    ·skip
     refine swp_skip ?_
     refine block_n ?_
     refine then_n ?_
     refine swp_region ?_
     refine s_pu (pu_add_as ((j + 1 : Nat) : Int) rfl rfl (by omega) (by omega) (by omega)) ?_
     refine s_pu (pu_move rfl) ?_
     refine swl_sub _ (.cons (t := 0) rfl (.cons (t := 11) rfl (.cons (t := 12) rfl (.cons (t := 13) rfl (.cons (t := 17) rfl (.cons (t := 18) rfl (.cons (t := 19) rfl .nil))))))) ?_
     refine swl_nil ?_
     have h25' := of_decide_eq_false h25
     have h30' := of_decide_eq_false h30
     refine then_n ⟨j + 1, ⟨rfl, rfl, h20', ?_⟩, by omega⟩
     rw [List.take_add_one, hc, List.all_append, hin]
     show (true && ([c].all _)) = true
     simp only [List.all_cons, List.all_nil, Bool.and_true, Bool.true_and]
     unfold inR
     rw [decide_eq_true (show 0 ≤ c by omega), decide_eq_true (show c < (X.n : Int) by omega)]; rfl
  ·skip
   have h20' := of_decide_eq_false h20
   obtain rfl : j = x.2.length := by omega
   rw [List.take_length] at hin
   refine swp_exit ?_
   refine then_x ?_
   refine then_x ?_
   refine block_hit rfl ?_
   refine block_n ?_
   refine then_n ?_
   refine swp_region ?_
   refine s_pu (pu_add_as ((i + 1 : Nat) : Int) rfl rfl (by omega) (by omega) (by omega)) ?_
   refine s_pu (pu_move rfl) ?_
   refine swl_sub _ (.cons (t := 0) rfl (.cons (t := 11) rfl (.cons (t := 12) rfl (.cons (t := 13) rfl .nil)))) ?_
   refine swl_nil ?_
   refine then_n ⟨i + 1, ⟨rfl, rfl, h14', ?_⟩, by omega⟩
   rw [List.take_add_one, hnx, List.all_append, hall]
   show (true && ([x.2].all _)) = true
   simp only [List.all_cons, List.all_nil, Bool.and_true, Bool.true_and]
   exact hin
 ·skip
  have h14' := of_decide_eq_false h14
  obtain rfl : i = G.length := by omega
  refine swp_exit ?_
  refine then_x ?_
  refine then_x ?_
  refine block_hit rfl ?_
  refine then_n ?_
  refine swp_seq ?_
  refine swp_region ?_
  refine s_pu (pu_assign rfl) ?_
  refine swl_sub _ (.cons (t := 4) rfl .nil) ?_
  refine swl_nil ?_
  refine then_n ?_
  refine swp_ret ?_
  refine done_ret [X.A s, ro μ] (.tmp rfl .nil) ⟨?_, rfl⟩ (by repeat (first | exact Split.nil | (apply Split.cons; (repeat (first | with_reducible exact Take.here | apply Take.there)))))
  rw [List.take_of_length_le (by rw [List.length_map]; exact Nat.le_refl _)] at hall
  unfold askedE
  rw [if_pos hall]; rfl
set_option maxHeartbeats 2000000 in
theorem paddw_spec (p n mb q : Nat) (sv : Value) (s : PS) (c v : Nat) (hn : n ≤ 65536) (hI : PC n c s) (hc : c < n) (hv : isV v) (h0 : v ≠ 0) :
  Spec Tryd.prog 38 [.pointer (some ⟨p, 0, none⟩), .int .i64 (c : Nat), .int .i64 (v : Nat)] [ptB p sv n mb q (frP s), mpP mb s.1, Bq.cq q s.2 (seenP n s.1)]
   (fun r L => r = .tuple #[] ∧ L = [ptB p sv n mb q (frP (addP s c v)), mpP mb (addP s c v).1, Bq.cq q (addP s c v).2 (seenP n (addP s c v).1)]) := by
 have hne := or_ne (a := s.1 c) h0
 have hql := falls_len hI.falls hI.lt
 have hsl := seenN_le n fun k => decide (s.1 k ≠ 0)
 have hse := seenP_add (v := v) (show c < n by omega) hne
 obtain ⟨f1, f2, f3⟩ := frP_addW (v := v) hI
 have hfl := frP_leW hI.falls hI.lt
 have hva := hI.val c
 have hvo := hva.or hv
 have hww : pWas s c = (decide (s.1 c ≠ 0) && decide (s.1 c < 4)) := rfl
 have hii : pIs s c v = decide (s.1 c ||| v < 4) := rfl
 refine Spec.pre ?_ Ent.swap
 refine Spec.exA' fun ⟨⟨l, k⟩, hl⟩ => ?_
 simp only [List.cons_append, List.nil_append]
 dsimp only at hl ⊢
 refine Spec.ent3 (post := fun r L => ∃ k', r = .tuple #[] ∧ L = [mpe mb ikv (upd l k (c : Int) (.int .i64 ((s.1 c ||| v : Nat) : Int))) k', ptB p sv n mb q (frP (addP s c v)), Bq.cq q (addP s c v).2 (seenP n (addP s c v).1)]) ?_
  (fun r L ⟨k', h1, h2⟩ => ⟨_, by rw [h2]; exact (mpP_close (pmap_upd hl c k hne)).trans Ent.swap, h1, rfl⟩)
 refine Spec.of 80 Tryd.func38 rfl rfl rfl ?_
 refine swp_seq ?_
 refine swp_seq ?_
 refine swp_region ?_
 refine s_pu (pu_move rfl) ?_
 refine s_pu (pu_lss rfl rfl) ?_
 refine s_pu (pu_move rfl) ?_
 refine s_split 12 rfl (fun h12 => by exfalso; have := of_decide_eq_true h12; omega) (fun h12 => ?_)
 refine s_on rfl rfl ?_
 refine s_pu (pu_move rfl) ?_
 refine s_on rfl rfl ?_
 refine s_pu (pu_move rfl) ?_
 refine s_on rfl rfl ?_
 first | refine s_pu (pu_nilCheck rfl) ?_ | refine s_pu (pu_nilCheck_fn rfl) ?_ | refine s_pu (pu_nilCheck_if rfl) ?_
 refine s_on rfl rfl ?_
 first | refine s_pu (pu_fieldAddr0 rfl) ?_ | refine s_pu (pu_fieldAddr rfl) ?_
 refine s_on rfl rfl ?_
 refine s_rd (rd_load rfl rfl) ?_
 refine s_on rfl rfl ?_
 refine s_pu (pu_geq rfl rfl) ?_
 first | refine s_pu (pu_pick_t rfl rfl) ?_ | refine s_pu (pu_pick_f rfl rfl) ?_
 refine swl_sub _ (.cons (t := 0) rfl (.cons (t := 1) rfl (.cons (t := 2) rfl (.cons (t := 19) rfl .nil)))) ?_
 refine swl_nil ?_
 refine then_n ?_
 refine swp_cond (b := _) rfl (fun h19 => by exfalso; have := of_decide_eq_true h19; omega) (fun h19 => ?_)
 refine swp_skip ?_
 refine then_n ?_
 refine swp_seq ?_
 refine swp_region ?_
 refine s_pu (pu_move rfl) ?_
 first | refine s_pu (pu_nilCheck rfl) ?_ | refine s_pu (pu_nilCheck_fn rfl) ?_ | refine s_pu (pu_nilCheck_if rfl) ?_
 first | refine s_pu (pu_fieldAddr0 rfl) ?_ | refine s_pu (pu_fieldAddr rfl) ?_
 refine s_rd (rd_load rfl rfl) ?_
 refine s_pu (pu_move rfl) ?_
 refine s_rd (rd_pmap2 hl c rfl rfl) ?_
 refine s_pu (pu_move rfl) ?_
 first | refine s_pu (pu_extractL rfl) ?_ | refine s_pu (pu_extract rfl rfl) ?_
 first | refine s_pu (pu_extractL rfl) ?_ | refine s_pu (pu_extract rfl rfl) ?_
 refine s_pu (pu_assign rfl) ?_
 refine s_pu (pu_assign rfl) ?_
 refine swl_sub _ (.cons (t := 0) rfl (.cons (t := 1) rfl (.cons (t := 2) rfl (.cons (t := 6) rfl (.cons (t := 7) rfl .nil))))) ?_
 refine swl_nil ?_
 refine then_n ?_
 refine swp_seq ?_
 refine swp_region ?_
 refine s_pu (pu_move rfl) ?_
 first | refine s_pu (pu_nilCheck rfl) ?_ | refine s_pu (pu_nilCheck_fn rfl) ?_ | refine s_pu (pu_nilCheck_if rfl) ?_
 first | refine s_pu (pu_fieldAddr0 rfl) ?_ | refine s_pu (pu_fieldAddr rfl) ?_
 refine s_rd (rd_load rfl rfl) ?_
 refine s_pu (pu_move rfl) ?_
 refine s_pu (pu_move rfl) ?_
 refine s_pu (pu_move rfl) ?_
 refine s_pu (pu_or_v hva hv.lt rfl rfl) ?_
 refine s_ef0 (ef_upd (kv := ikv) _ rfl rfl rfl (by repeat (first | exact Split.nil | (apply Split.cons; (repeat (first | with_reducible exact Take.here | apply Take.there)))))) ?_
 refine swl_sub _ (.cons (t := 0) rfl (.cons (t := 1) rfl (.cons (t := 2) rfl (.cons (t := 6) rfl (.cons (t := 7) rfl .nil))))) ?_
 refine swl_nil ?_
 refine then_n ?_
 refine swp_seq ?_
 refine swp_seq ?_
 refine swp_region ?_
 refine s_pu (pu_move rfl) ?_
 refine s_pu (pu_not rfl) ?_
 refine swl_sub _ (.cons (t := 0) rfl (.cons (t := 1) rfl (.cons (t := 2) rfl (.cons (t := 6) rfl (.cons (t := 7) rfl (.cons (t := 38) rfl .nil)))))) ?_
 refine swl_nil ?_
 refine then_n ?_
 refine swp_cond (b := _) rfl (fun h38 => ?_) (fun h38 => ?_)
 ·skip
  have hz : s.1 c = 0 := by simpa using h38
  have hqn : c ∉ s.2 := fun hq => hI.seen.2 hq hz
  have hw : pWas s c = false := by rw [hww, hz]; rfl
  rw [if_pos hz] at hse
  refine swp_region ?_
  refine s_pu (pu_move rfl) ?_
  first | refine s_pu (pu_nilCheck rfl) ?_ | refine s_pu (pu_nilCheck_fn rfl) ?_ | refine s_pu (pu_nilCheck_if rfl) ?_
  first | refine s_pu (pu_fieldAddr0 rfl) ?_ | refine s_pu (pu_fieldAddr rfl) ?_
  refine s_rd (rd_load rfl rfl) ?_
  refine s_pu (pu_move rfl) ?_
  refine s_ef (ef_fn (Bq.push_q q s.2 (seenP n s.1) c hqn (by omega) (by unfold seenP; omega)) rfl rfl (by repeat (first | exact Split.nil | (apply Split.cons; (repeat (first | with_reducible exact Take.here | apply Take.there)))))) ?_
  rintro v44 L1 ⟨rfl, rfl⟩
  refine swl_app ?_
  rw [← addP_new (v := v) hz, ← hse]
  refine swl_sub _ (.cons (t := 0) rfl (.cons (t := 2) rfl (.cons (t := 6) rfl (.cons (t := 7) rfl .nil)))) ?_
  refine swl_nil ?_
  refine then_n ?_
  refine swp_seq ?_
  refine swp_region ?_
  refine s_pu (pu_move rfl) ?_
  refine s_pu (pu_move rfl) ?_
  refine s_split 46 rfl (fun h46 => by exfalso; have := of_decide_eq_true h46; exact this hz) (fun h46 => ?_)
  refine s_off rfl rfl rfl ?_
  refine s_off rfl rfl rfl ?_
  refine s_off rfl rfl rfl ?_
  first | refine s_pu (pu_pick_t rfl rfl) ?_ | refine s_pu (pu_pick_f rfl rfl) ?_
  refine s_pu (pu_move rfl) ?_
  refine s_pu (pu_move rfl) ?_
  refine s_pu (pu_or_v hva hv.lt rfl rfl) ?_
  refine s_pu (pu_and_v 4 hvo (by decide) rfl rfl) ?_
  refine s_pu (pu_four hvo rfl rfl) ?_
  refine s_pu (pu_assign rfl) ?_
  refine s_pu (pu_assign rfl) ?_
  refine swl_sub _ (.cons (t := 0) rfl (.cons (t := 8) rfl (.cons (t := 9) rfl .nil))) ?_
  refine swl_nil ?_
  refine then_n ?_
  refine swp_seq ?_
  refine swp_region ?_
  refine s_pu (pu_move rfl) ?_
  refine s_pu (pu_move rfl) ?_
  refine s_split 57 rfl (fun h57 => ?_) (fun h57 => ?_)
  ·skip
   refine s_on rfl rfl ?_
   refine s_pu (pu_move rfl) ?_
   refine s_on rfl rfl ?_
   refine s_pu (pu_not rfl) ?_
   first | refine s_pu (pu_pick_t rfl rfl) ?_ | refine s_pu (pu_pick_f rfl rfl) ?_
   refine swl_sub _ (.cons (t := 0) rfl (.cons (t := 8) rfl (.cons (t := 9) rfl (.cons (t := 60) rfl .nil)))) ?_
   refine swl_nil ?_
   refine then_n ?_
   refine swp_cond (b := _) rfl (fun h60 => ?_) (fun h60 => by cases h60)
   have e7 := f1 h57 hw
   refine swp_region ?_
   refine s_pu (pu_move rfl) ?_
   first | refine s_pu (pu_nilCheck rfl) ?_ | refine s_pu (pu_nilCheck_fn rfl) ?_ | refine s_pu (pu_nilCheck_if rfl) ?_
   first | refine s_pu (pu_fieldAddr0 rfl) ?_ | refine s_pu (pu_fieldAddr rfl) ?_
   refine s_rd (rd_load rfl rfl) ?_
   refine s_pu (pu_add_as ((frP (addP s c v) : Nat) : Int) rfl rfl (by omega) (by omega) (by omega)) ?_
   first | refine s_pu (pu_nilCheck rfl) ?_ | refine s_pu (pu_nilCheck_fn rfl) ?_ | refine s_pu (pu_nilCheck_if rfl) ?_
   first | refine s_pu (pu_fieldAddr0 rfl) ?_ | refine s_pu (pu_fieldAddr rfl) ?_
   refine s_ef0 (ef_store rfl rfl rfl) ?_
   refine swl_sub _ .nil ?_
   refine swl_nil ?_
   exact done_end [mpe mb ikv (upd l k (c : Int) (.int .i64 ((s.1 c ||| v : Nat) : Int))) _, ptB p sv n mb q (frP (addP s c v)), Bq.cq q (addP s c v).2 (seenP n (addP s c v).1)] .nil ⟨_, rfl, rfl⟩ (by repeat (first | exact Split.nil | (apply Split.cons; (repeat (first | with_reducible exact Take.here | apply Take.there)))))
  ·skip
   refine s_off rfl rfl rfl ?_
   refine s_off rfl rfl rfl ?_
   first | refine s_pu (pu_pick_t rfl rfl) ?_ | refine s_pu (pu_pick_f rfl rfl) ?_
   refine swl_sub _ (.cons (t := 0) rfl (.cons (t := 8) rfl (.cons (t := 9) rfl (.cons (t := 60) rfl .nil)))) ?_
   refine swl_nil ?_
   refine then_n ?_
   refine swp_cond (b := _) rfl (fun h60 => by cases h60) (fun h60 => ?_)
   refine swp_seq ?_
   refine swp_region ?_
   refine s_pu (pu_move rfl) ?_
   refine s_pu (pu_move rfl) ?_
   refine s_split 69 rfl (fun h69 => by cases h69) (fun h69 => ?_)
   refine s_off rfl rfl rfl ?_
   refine s_off rfl rfl rfl ?_
   first | refine s_pu (pu_pick_t rfl rfl) ?_ | refine s_pu (pu_pick_f rfl rfl) ?_
   refine swl_sub _ (.cons (t := 0) rfl (.cons (t := 72) rfl .nil)) ?_
   refine swl_nil ?_
   refine then_n ?_
   refine swp_cond (b := _) rfl (fun h72 => by cases h72) (fun h72 => ?_)
   refine swp_skip ?_
   rw [← f3 (h57.trans hw.symm)]
   exact done_end [mpe mb ikv (upd l k (c : Int) (.int .i64 ((s.1 c ||| v : Nat) : Int))) _, ptB p sv n mb q (frP (addP s c v)), Bq.cq q (addP s c v).2 (seenP n (addP s c v).1)] .nil ⟨_, rfl, rfl⟩ (by repeat (first | exact Split.nil | (apply Split.cons; (repeat (first | with_reducible exact Take.here | apply Take.there)))))
 ·skip
  have hz : s.1 c ≠ 0 := by simpa using h38
  have hw : pWas s c = decide (s.1 c < 4) := by rw [hww, decide_eq_true hz, Bool.true_and]
  rw [if_neg hz] at hse
  rw [← addP_old (v := v) hz, ← hse]
  refine swp_skip ?_
  refine then_n ?_
  refine swp_seq ?_
  refine swp_region ?_
  refine s_pu (pu_move rfl) ?_
  refine s_pu (pu_move rfl) ?_
  refine s_split 46 rfl (fun h46 => ?_) (fun h46 => by exfalso; have := of_decide_eq_false h46; exact this hz)
  refine s_on rfl rfl ?_
  refine s_pu (pu_move rfl) ?_
  refine s_on rfl rfl ?_
  refine s_pu (pu_and_v 4 hva (by decide) rfl rfl) ?_
  refine s_on rfl rfl ?_
  refine s_pu (pu_four hva rfl rfl) ?_
  first | refine s_pu (pu_pick_t rfl rfl) ?_ | refine s_pu (pu_pick_f rfl rfl) ?_
  refine s_pu (pu_move rfl) ?_
  refine s_pu (pu_move rfl) ?_
  refine s_pu (pu_or_v hva hv.lt rfl rfl) ?_
  refine s_pu (pu_and_v 4 hvo (by decide) rfl rfl) ?_
  refine s_pu (pu_four hvo rfl rfl) ?_
  refine s_pu (pu_assign rfl) ?_
  refine s_pu (pu_assign rfl) ?_
  refine swl_sub _ (.cons (t := 0) rfl (.cons (t := 8) rfl (.cons (t := 9) rfl .nil))) ?_
  refine swl_nil ?_
  refine then_n ?_
  refine swp_seq ?_
  refine swp_region ?_
  refine s_pu (pu_move rfl) ?_
  refine s_pu (pu_move rfl) ?_
  refine s_split 57 rfl (fun h57 => ?_) (fun h57 => ?_)
  ·skip
   refine s_on rfl rfl ?_
   refine s_pu (pu_move rfl) ?_
   refine s_on rfl rfl ?_
   refine s_pu (pu_not rfl) ?_
   first | refine s_pu (pu_pick_t rfl rfl) ?_ | refine s_pu (pu_pick_f rfl rfl) ?_
   refine swl_sub _ (.cons (t := 0) rfl (.cons (t := 8) rfl (.cons (t := 9) rfl (.cons (t := 60) rfl .nil)))) ?_
   refine swl_nil ?_
   refine then_n ?_
   refine swp_cond (b := _) rfl (fun h60 => ?_) (fun h60 => ?_)
   ·skip
    have e7 := f1 h57 (by rw [hw]; simpa using h60)
    refine swp_region ?_
    refine s_pu (pu_move rfl) ?_
    first | refine s_pu (pu_nilCheck rfl) ?_ | refine s_pu (pu_nilCheck_fn rfl) ?_ | refine s_pu (pu_nilCheck_if rfl) ?_
    first | refine s_pu (pu_fieldAddr0 rfl) ?_ | refine s_pu (pu_fieldAddr rfl) ?_
    refine s_rd (rd_load rfl rfl) ?_
    refine s_pu (pu_add_as ((frP (addP s c v) : Nat) : Int) rfl rfl (by omega) (by omega) (by omega)) ?_
    first | refine s_pu (pu_nilCheck rfl) ?_ | refine s_pu (pu_nilCheck_fn rfl) ?_ | refine s_pu (pu_nilCheck_if rfl) ?_
    first | refine s_pu (pu_fieldAddr0 rfl) ?_ | refine s_pu (pu_fieldAddr rfl) ?_
    refine s_ef0 (ef_store rfl rfl rfl) ?_
    refine swl_sub _ .nil ?_
    refine swl_nil ?_
    exact done_end [mpe mb ikv (upd l k (c : Int) (.int .i64 ((s.1 c ||| v : Nat) : Int))) _, ptB p sv n mb q (frP (addP s c v)), Bq.cq q (addP s c v).2 (seenP n (addP s c v).1)] .nil ⟨_, rfl, rfl⟩ (by repeat (first | exact Split.nil | (apply Split.cons; (repeat (first | with_reducible exact Take.here | apply Take.there)))))
   ·skip
    refine swp_seq ?_
    refine swp_region ?_
    refine s_pu (pu_move rfl) ?_
    refine s_pu (pu_move rfl) ?_
    refine s_split 69 rfl (fun h69 => ?_) (fun h69 => by rw [h69] at h60; cases h60)
    refine s_on rfl rfl ?_
    refine s_pu (pu_move rfl) ?_
    refine s_on rfl rfl ?_
    refine s_pu (pu_not rfl) ?_
    first | refine s_pu (pu_pick_t rfl rfl) ?_ | refine s_pu (pu_pick_f rfl rfl) ?_
    refine swl_sub _ (.cons (t := 0) rfl (.cons (t := 72) rfl .nil)) ?_
    refine swl_nil ?_
    refine then_n ?_
    refine swp_cond (b := _) rfl (fun h72 => by rw [h57] at h72; cases h72) (fun h72 => ?_)
    refine swp_skip ?_
    rw [← f3 (h57.trans (hw.trans h69).symm)]
    exact done_end [mpe mb ikv (upd l k (c : Int) (.int .i64 ((s.1 c ||| v : Nat) : Int))) _, ptB p sv n mb q (frP (addP s c v)), Bq.cq q (addP s c v).2 (seenP n (addP s c v).1)] .nil ⟨_, rfl, rfl⟩ (by repeat (first | exact Split.nil | (apply Split.cons; (repeat (first | with_reducible exact Take.here | apply Take.there)))))
  ·skip
   refine s_off rfl rfl rfl ?_
   refine s_off rfl rfl rfl ?_
   first | refine s_pu (pu_pick_t rfl rfl) ?_ | refine s_pu (pu_pick_f rfl rfl) ?_
   refine swl_sub _ (.cons (t := 0) rfl (.cons (t := 8) rfl (.cons (t := 9) rfl (.cons (t := 60) rfl .nil)))) ?_
   refine swl_nil ?_
   refine then_n ?_
   refine swp_cond (b := _) rfl (fun h60 => by cases h60) (fun h60 => ?_)
   refine swp_seq ?_
   refine swp_region ?_
   refine s_pu (pu_move rfl) ?_
   refine s_pu (pu_move rfl) ?_
   refine s_split 69 rfl (fun h69 => ?_) (fun h69 => ?_)
   ·skip
    refine s_on rfl rfl ?_
    refine s_pu (pu_move rfl) ?_
    refine s_on rfl rfl ?_
    refine s_pu (pu_not rfl) ?_
    first | refine s_pu (pu_pick_t rfl rfl) ?_ | refine s_pu (pu_pick_f rfl rfl) ?_
    refine swl_sub _ (.cons (t := 0) rfl (.cons (t := 72) rfl .nil)) ?_
    refine swl_nil ?_
    refine then_n ?_
    refine swp_cond (b := _) rfl (fun h72 => ?_) (fun h72 => by rw [h57] at h72; cases h72)
    have e9 := f2 h57 (hw.trans h69)
    refine swp_region ?_
    refine s_pu (pu_move rfl) ?_
    first | refine s_pu (pu_nilCheck rfl) ?_ | refine s_pu (pu_nilCheck_fn rfl) ?_ | refine s_pu (pu_nilCheck_if rfl) ?_
    first | refine s_pu (pu_fieldAddr0 rfl) ?_ | refine s_pu (pu_fieldAddr rfl) ?_
    refine s_rd (rd_load rfl rfl) ?_
    refine s_pu (pu_sub_as ((frP (addP s c v) : Nat) : Int) rfl rfl (by omega) (by omega) (by omega)) ?_
    first | refine s_pu (pu_nilCheck rfl) ?_ | refine s_pu (pu_nilCheck_fn rfl) ?_ | refine s_pu (pu_nilCheck_if rfl) ?_
    first | refine s_pu (pu_fieldAddr0 rfl) ?_ | refine s_pu (pu_fieldAddr rfl) ?_
    refine s_ef0 (ef_store rfl rfl rfl) ?_
    refine swl_sub _ .nil ?_
    refine swl_nil ?_
    exact done_end [mpe mb ikv (upd l k (c : Int) (.int .i64 ((s.1 c ||| v : Nat) : Int))) _, ptB p sv n mb q (frP (addP s c v)), Bq.cq q (addP s c v).2 (seenP n (addP s c v).1)] .nil ⟨_, rfl, rfl⟩ (by repeat (first | exact Split.nil | (apply Split.cons; (repeat (first | with_reducible exact Take.here | apply Take.there)))))
   ·skip
    refine s_off rfl rfl rfl ?_
    refine s_off rfl rfl rfl ?_
    first | refine s_pu (pu_pick_t rfl rfl) ?_ | refine s_pu (pu_pick_f rfl rfl) ?_
    refine swl_sub _ (.cons (t := 0) rfl (.cons (t := 72) rfl .nil)) ?_
    refine swl_nil ?_
    refine then_n ?_
    refine swp_cond (b := _) rfl (fun h72 => by cases h72) (fun h72 => ?_)
    refine swp_skip ?_
    rw [← f3 (h57.trans (hw.trans h69).symm)]
    exact done_end [mpe mb ikv (upd l k (c : Int) (.int .i64 ((s.1 c ||| v : Nat) : Int))) _, ptB p sv n mb q (frP (addP s c v)), Bq.cq q (addP s c v).2 (seenP n (addP s c v).1)] .nil ⟨_, rfl, rfl⟩ (by repeat (first | exact Split.nil | (apply Split.cons; (repeat (first | with_reducible exact Take.here | apply Take.there)))))
theorem paddw_out (p n mb q : Nat) (sv : Value) (s : PS) (c : Int) (v : Nat) (hc : ¬ (0 ≤ c ∧ c < n)) (B1 B2 : Assn) :
  Spec Tryd.prog 38 [.pointer (some ⟨p, 0, none⟩), .int .i64 c, .int .i64 (v : Nat)] [ptB p sv n mb q (frP s), B1, B2] (fun r L => r = .tuple #[] ∧ L = [ptB p sv n mb q (frP s), B1, B2]) := by
 refine Spec.of 80 Tryd.func38 rfl rfl rfl ?_
 refine swp_seq ?_
 refine swp_seq ?_
 refine swp_region ?_
 refine s_pu (pu_move rfl) ?_
 refine s_pu (pu_lss rfl rfl) ?_
 refine s_pu (pu_move rfl) ?_
 refine s_split 12 rfl (fun h12 => ?_) (fun h12 => ?_)
 ·skip
  refine s_off rfl rfl rfl ?_
  refine s_off rfl rfl rfl ?_
  refine s_off rfl rfl rfl ?_
  refine s_off rfl rfl rfl ?_
  refine s_off rfl rfl rfl ?_
  refine s_off rfl rfl rfl ?_
  first | refine s_pu (pu_pick_t rfl rfl) ?_ | refine s_pu (pu_pick_f rfl rfl) ?_
  refine swl_sub _ (.cons (t := 0) rfl (.cons (t := 1) rfl (.cons (t := 2) rfl (.cons (t := 19) rfl .nil)))) ?_
  refine swl_nil ?_
  refine then_n ?_
  refine swp_cond (b := _) rfl (fun h19 => ?_) (fun h19 => by cases h19)
  refine swp_ret ?_
  refine then_r ?_
  exact done_retE [ptB p sv n mb q (frP s), B1, B2] .nil ⟨rfl, rfl⟩ (Split.ent' (by repeat (first | exact Split.nil | (apply Split.cons; (repeat (first | with_reducible exact Take.here | apply Take.there))))))
 ·skip
  refine s_on rfl rfl ?_
  refine s_pu (pu_move rfl) ?_
  refine s_on rfl rfl ?_
  refine s_pu (pu_move rfl) ?_
  refine s_on rfl rfl ?_
  first | refine s_pu (pu_nilCheck rfl) ?_ | refine s_pu (pu_nilCheck_fn rfl) ?_ | refine s_pu (pu_nilCheck_if rfl) ?_
  refine s_on rfl rfl ?_
  first | refine s_pu (pu_fieldAddr0 rfl) ?_ | refine s_pu (pu_fieldAddr rfl) ?_
  refine s_on rfl rfl ?_
  refine s_rd (rd_load rfl rfl) ?_
  refine s_on rfl rfl ?_
  refine s_pu (pu_geq rfl rfl) ?_
  first | refine s_pu (pu_pick_t rfl rfl) ?_ | refine s_pu (pu_pick_f rfl rfl) ?_
  refine swl_sub _ (.cons (t := 0) rfl (.cons (t := 1) rfl (.cons (t := 2) rfl (.cons (t := 19) rfl .nil)))) ?_
  refine swl_nil ?_
  refine then_n ?_
  refine swp_cond (b := _) rfl (fun h19 => ?_) (fun h19 => by exfalso; have h1 := of_decide_eq_false h12; have h2 := of_decide_eq_false h19; omega)
  refine swp_ret ?_
  refine then_r ?_
  exact done_retE [ptB p sv n mb q (frP s), B1, B2] .nil ⟨rfl, rfl⟩ (Split.ent' (by repeat (first | exact Split.nil | (apply Split.cons; (repeat (first | with_reducible exact Take.here | apply Take.there))))))
theorem els_in' {n : Nat} {S : Nat → Bool} {c : Int} (h : c ∈ elsTo n S) : 0 ≤ c ∧ c < n := by
  unfold elsTo numsI at h
  obtain ⟨k, hk, rfl⟩ := List.mem_map.1 h
  have := List.mem_range.1 (List.mem_filter.1 hk).1
  omega
set_option maxHeartbeats 4000000 in
theorem wbest_spec (X : WSrc) (s0 : X.σ) (μ : PH) (p mb q : Nat) (st0 : PS) (hT : RowAt μ 1 0 tabV) (h0 : Le X.μ0 μ) (hw0 : WI X.n (fun _ => false) st0) :
  Spec Tryd.prog 39 [.pointer (some ⟨p, 0, none⟩)] [ptB p X.sv X.n mb q (frP st0), mpP mb st0.1, Bq.cq q st0.2 (seenP X.n st0.1), X.A s0, ro μ]
   (fun v L => ∃ (l : List Int) (s' : X.σ) (μ' : PH), Le μ μ' ∧ (∀ c ∈ l, 0 ≤ c ∧ c < (X.n : Int)) ∧ l.length ≤ X.n ∧ L = [own 3 1 v l.length (l.flatMap (icsk .i64)), X.A s', ro μ']) := by
 have hn := X.hn
 refine Spec.of 85 Tryd.func39 rfl rfl rfl ?_
 refine swp_seq ?_
 refine swp_region ?_
 refine s_pu (pu_assign rfl) ?_
 refine swl_sub _ (.cons (t := 0) rfl .nil) ?_
 refine swl_nil ?_
 refine then_n ?_
 refine swp_seq ?_
 refine swp_region ?_
 refine s_pu (pu_move rfl) ?_
 first | refine s_pu (pu_nilCheck rfl) ?_ | refine s_pu (pu_nilCheck_fn rfl) ?_ | refine s_pu (pu_nilCheck_if rfl) ?_
 first | refine s_pu (pu_fieldAddr0 rfl) ?_ | refine s_pu (pu_fieldAddr rfl) ?_
 refine s_rd (rd_load rfl rfl) ?_
 refine s_ef (ef_fn (new_m (X.n : Nat)) rfl rfl (by repeat (first | exact Split.nil | (apply Split.cons; (repeat (first | with_reducible exact Take.here | apply Take.there)))))) ?_
 rintro v15 L1 ⟨p3, rfl, rfl⟩
 refine swl_app ?_
 refine s_pu (pu_assign rfl) ?_
 refine swl_sub _ (.cons (t := 0) rfl (.cons (t := 3) rfl .nil)) ?_
 refine swl_nil ?_
 refine then_n ?_
 refine swp_seq ?_
 refine swp_region ?_
 refine s_pu (pu_move rfl) ?_
 first | refine s_pu (pu_nilCheck rfl) ?_ | refine s_pu (pu_nilCheck_fn rfl) ?_ | refine s_pu (pu_nilCheck_if rfl) ?_
 first | refine s_pu (pu_fieldAddr0 rfl) ?_ | refine s_pu (pu_fieldAddr rfl) ?_
 refine s_rd (rd_load rfl rfl) ?_
 refine s_ef (ef_fn (new_m (X.n : Nat)) rfl rfl (by repeat (first | exact Split.nil | (apply Split.cons; (repeat (first | with_reducible exact Take.here | apply Take.there)))))) ?_
 rintro v20 L1 ⟨p4, rfl, rfl⟩
 refine swl_app ?_
 refine s_pu (pu_assign rfl) ?_
 refine swl_sub _ (.cons (t := 0) rfl (.cons (t := 3) rfl (.cons (t := 4) rfl .nil))) ?_
 rw [clampM_id hn]
 refine swl_nil ?_
 refine then_n ?_
 refine swp_seq ?_
 refine swp_block ?_
 refine swp_sub _ (.cons (t := 0) rfl (.cons (t := 3) rfl (.cons (t := 4) rfl .nil))) ?_
 refine swp_ent (Split.ent' (K := [ptB p X.sv X.n mb q (frP st0), mpP mb st0.1, Bq.cq q st0.2 (seenP X.n st0.1), mset p3 X.n (fun _ => false), mset p4 X.n (fun _ => false), X.A s0, ro μ]) (by repeat (first | exact Split.nil | (apply Split.cons; (repeat (first | with_reducible exact Take.here | apply Take.there)))))) ?_
 refine swp_loop (ι := PS × (Nat → Bool) × (Nat → Bool) × X.σ × PH) (fun k env L => Sub env [(0, .pointer (some ⟨p, 0, none⟩)), (3, .pointer (some ⟨p3, 0, none⟩)), (4, .pointer (some ⟨p4, 0, none⟩))]
  ∧ L = [ptB p X.sv X.n mb q (frP k.1), mpP mb k.1.1, Bq.cq q k.1.2 (seenP X.n k.1.1), mset p3 X.n k.2.1, mset p4 X.n k.2.2.1, X.A k.2.2.2.1, ro k.2.2.2.2]
  ∧ WI X.n k.2.2.1 k.1 ∧ Le μ k.2.2.2.2) (fun k => X.n - seenN X.n k.2.2.1) (st0, fun _ => false, fun _ => false, s0, μ) ⟨⟨rfl, rfl, rfl, trivial⟩, rfl, hw0, Le.refl _⟩ ?_
 rintro ⟨⟨P, Q0⟩, F, D, s1, μ1⟩ env L ⟨hsub0, rfl, hW, hle⟩
 dsimp only at hW hle ⊢
 refine swp_sub _ hsub0 ?_
 refine swp_seq ?_
 refine swp_seq ?_
 refine swp_region ?_
 refine s_pu (pu_move rfl) ?_
 first | refine s_pu (pu_nilCheck rfl) ?_ | refine s_pu (pu_nilCheck_fn rfl) ?_ | refine s_pu (pu_nilCheck_if rfl) ?_
 first | refine s_pu (pu_fieldAddr0 rfl) ?_ | refine s_pu (pu_fieldAddr rfl) ?_
 refine s_rd (rd_load rfl rfl) ?_
 refine s_pu (pu_gtr rfl rfl) ?_
 refine swl_sub _ (.cons (t := 0) rfl (.cons (t := 3) rfl (.cons (t := 4) rfl (.cons (t := 25) rfl .nil)))) ?_
 refine swl_nil ?_
 refine then_n ?_
 refine swp_cond (b := _) rfl (fun h25 => ?_) (fun h25 => ?_)
 ·skip
  have hpos : 0 < frP (P, Q0) := by have := of_decide_eq_true h25; omega
  obtain ⟨c, Q, hQ⟩ := frP_pos hpos
  dsimp only at hQ
  subst hQ
  obtain ⟨hcn, hDc, hPc, hW1⟩ := hW.pop
  have hV : isV (P c) := hW.val c
  have hql : (c :: Q).length ≤ X.n := falls_len hW.falls hW.lt
  have hpop := frP_pop (P := P) (c := c) (Q := Q)
  have hfb := frP_leW hW1.falls hW1.lt
  have hmes := seenN_put hDc hcn
  have hmle := seenN_le X.n (fun j => D j || decide (j = c))
  have hnw : newW X.n D (c : Int) = true := by
   unfold newW
   rw [Int.toNat_natCast, hDc, decide_eq_true (show (0 : Int) ≤ c by omega), decide_eq_true (show (c : Int) < X.n by omega)]; rfl
  refine swp_skip ?_
  refine then_n ?_
  refine swp_block ?_
  refine swp_seq ?_
  refine swp_region ?_
  refine s_pu (pu_move rfl) ?_
  first | refine s_pu (pu_nilCheck rfl) ?_ | refine s_pu (pu_nilCheck_fn rfl) ?_ | refine s_pu (pu_nilCheck_if rfl) ?_
  first | refine s_pu (pu_fieldAddr0 rfl) ?_ | refine s_pu (pu_fieldAddr rfl) ?_
  refine s_rd (rd_load rfl rfl) ?_
  refine s_ef (ef_fn (Bq.pop_q q (seenP X.n P) c Q (by omega)) rfl rfl (by repeat (first | exact Split.nil | (apply Split.cons; (repeat (first | with_reducible exact Take.here | apply Take.there)))))) ?_
  rintro v31 L1 ⟨rfl, rfl⟩
  refine swl_app ?_
  refine s_pu (pu_move rfl) ?_
  first | refine s_pu (pu_extractL rfl) ?_ | refine s_pu (pu_extract rfl rfl) ?_
  first | refine s_pu (pu_extractL rfl) ?_ | refine s_pu (pu_extract rfl rfl) ?_
  refine s_pu (pu_assign rfl) ?_
  refine s_pu (pu_assign rfl) ?_
  refine swl_sub _ (.cons (t := 0) rfl (.cons (t := 3) rfl (.cons (t := 4) rfl (.cons (t := 5) rfl .nil)))) ?_
  refine swl_nil ?_
  refine then_n ?_
  refine swp_seq ?_
  refine swp_region ?_
  refine s_pu (pu_move rfl) ?_
  refine s_pu (pu_assign rfl) ?_
  refine swl_sub _ (.cons (t := 0) rfl (.cons (t := 3) rfl (.cons (t := 4) rfl (.cons (t := 7) rfl .nil)))) ?_
  refine swl_nil ?_
  refine then_n ?_
  refine swp_seq ?_
  refine swp_ent (Split.ent' (K := [mpP mb P, ptB p X.sv X.n mb q (frP (P, c :: Q)), Bq.cq q Q (seenP X.n P), mset p3 X.n F, mset p4 X.n D, X.A s1, ro μ1]) (by repeat (first | exact Split.nil | (apply Split.cons; (repeat (first | with_reducible exact Take.here | apply Take.there)))))) ?_
  refine swp_ex fun ⟨⟨ents, clk⟩, hents⟩ => ?_
  simp only [List.cons_append, List.nil_append]
  dsimp only at hents ⊢
  refine swp_region ?_
  refine s_pu (pu_move rfl) ?_
  first | refine s_pu (pu_nilCheck rfl) ?_ | refine s_pu (pu_nilCheck_fn rfl) ?_ | refine s_pu (pu_nilCheck_if rfl) ?_
  first | refine s_pu (pu_fieldAddr0 rfl) ?_ | refine s_pu (pu_fieldAddr rfl) ?_
  refine s_rd (rd_load rfl rfl) ?_
  refine s_pu (pu_move rfl) ?_
  refine s_rd (rd_pmap hents c rfl rfl) ?_
  refine s_pu (pu_assign rfl) ?_
  refine swl_sub _ (.cons (t := 0) rfl (.cons (t := 3) rfl (.cons (t := 4) rfl (.cons (t := 7) rfl (.cons (t := 8) rfl .nil))))) ?_
  refine swl_ent (mpP_close hents) ?_
  refine swl_nil ?_
  refine then_n ?_
  refine swp_seq ?_
  refine swp_seq ?_
  refine swp_region ?_
  refine s_pu (pu_move rfl) ?_
  refine s_pu (pu_move rfl) ?_
  refine s_ef (ef_fn (put_w p4 X.n D (c : Nat)) rfl rfl (by repeat (first | exact Split.nil | (apply Split.cons; (repeat (first | with_reducible exact Take.here | apply Take.there)))))) ?_
  rintro v43 L1 ⟨rfl, rfl⟩
  refine swl_app ?_
  rw [hnw, putS_f (show c < X.n from hcn)]
  refine s_pu (pu_not rfl) ?_
  refine swl_sub _ (.cons (t := 0) rfl (.cons (t := 3) rfl (.cons (t := 4) rfl (.cons (t := 7) rfl (.cons (t := 8) rfl (.cons (t := 44) rfl .nil)))))) ?_
  refine swl_nil ?_
  refine then_n ?_
  refine swp_cond (b := _) rfl (fun h44 => by cases h44) (fun h44 => ?_)
  refine swp_skip ?_
  refine then_n ?_
  refine swp_cut (fun env L => ∃ F' : Nat → Bool, Sub env [(0, .pointer (some ⟨p, 0, none⟩)), (3, .pointer (some ⟨p3, 0, none⟩)), (4, .pointer (some ⟨p4, 0, none⟩)), (7, .int .i64 (c : Nat)), (8, .int .i64 (pOut (P c) : Nat))] ∧ Ent L [ptB p X.sv X.n mb q (frP (P, Q)), mpP mb P, Bq.cq q Q (seenP X.n P), mset p3 X.n F', mset p4 X.n (fun j => D j || decide (j = c)), X.A s1, ro μ1]) ?_ ?_
  ·skip
   refine swp_seq ?_
   refine swp_region ?_
   refine s_pu (pu_move rfl) ?_
   refine s_pu (pu_and_v 4 hV (by decide) rfl rfl) ?_
   refine s_pu (pu_four hV rfl rfl) ?_
   refine swl_sub _ (.cons (t := 0) rfl (.cons (t := 3) rfl (.cons (t := 4) rfl (.cons (t := 7) rfl (.cons (t := 8) rfl (.cons (t := 47) rfl .nil)))))) ?_
   refine swl_nil ?_
   refine then_n ?_
   refine swp_cond (b := _) rfl (fun h47 => ?_) (fun h47 => ?_)
   ·skip
    have h47' : P c < 4 := of_decide_eq_true h47
    rw [if_pos h47'] at hpop
    refine swp_seq ?_
    refine swp_region ?_
    refine s_pu (pu_move rfl) ?_
    first | refine s_pu (pu_nilCheck rfl) ?_ | refine s_pu (pu_nilCheck_fn rfl) ?_ | refine s_pu (pu_nilCheck_if rfl) ?_
    first | refine s_pu (pu_fieldAddr0 rfl) ?_ | refine s_pu (pu_fieldAddr rfl) ?_
    refine s_rd (rd_load rfl rfl) ?_
    refine s_pu (pu_sub_as ((frP (P, Q) : Nat) : Int) rfl rfl (by omega) (by omega) (by omega)) ?_
    first | refine s_pu (pu_nilCheck rfl) ?_ | refine s_pu (pu_nilCheck_fn rfl) ?_ | refine s_pu (pu_nilCheck_if rfl) ?_
    first | refine s_pu (pu_fieldAddr0 rfl) ?_ | refine s_pu (pu_fieldAddr rfl) ?_
    refine s_ef0 (ef_store rfl rfl rfl) ?_
    refine swl_sub _ (.cons (t := 0) rfl (.cons (t := 3) rfl (.cons (t := 4) rfl (.cons (t := 7) rfl (.cons (t := 8) rfl .nil))))) ?_
    refine swl_nil ?_
    refine then_n ?_
    refine swp_seq ?_
    refine swp_region ?_
    refine s_pu (pu_move rfl) ?_
    refine s_pu (pu_and_v 3 hV (by decide) rfl rfl) ?_
    refine s_pu (pu_three hV h47' rfl rfl) ?_
    refine swl_sub _ (.cons (t := 0) rfl (.cons (t := 3) rfl (.cons (t := 4) rfl (.cons (t := 7) rfl (.cons (t := 8) rfl (.cons (t := 57) rfl .nil)))))) ?_
    refine swl_nil ?_
    refine then_n ?_
    refine swp_cond (b := _) rfl (fun h57 => ?_) (fun h57 => ?_)
    ·skip
     have h57' : P c = 3 := of_decide_eq_true h57
     refine swp_seq ?_
     refine swp_region ?_
     refine s_pu (pu_move rfl) ?_
     refine s_pu (pu_move rfl) ?_
     refine s_ef (ef_fn (put_w p3 X.n F (c : Nat)) rfl rfl (by repeat (first | exact Split.nil | (apply Split.cons; (repeat (first | with_reducible exact Take.here | apply Take.there)))))) ?_
     rintro v60 L1 ⟨rfl, rfl⟩
     refine swl_app ?_
     refine swl_sub _ (.cons (t := 0) rfl (.cons (t := 3) rfl (.cons (t := 4) rfl (.cons (t := 7) rfl (.cons (t := 8) rfl .nil))))) ?_
     refine swl_nil ?_
     refine then_n ?_
     refine swp_region ?_
     refine s_pu (pu_move rfl) ?_
     refine s_pu (pu_or_v hV (by decide) rfl rfl) ?_
     refine s_pu (pu_assign rfl) ?_
     refine swl_sub _ (.cons (t := 0) rfl (.cons (t := 3) rfl (.cons (t := 4) rfl (.cons (t := 7) rfl (.cons (t := 8) rfl .nil))))) ?_
     refine swl_nil ?_
     exact then_n ⟨_, ⟨rfl, rfl, rfl, rfl, by rw [h57']; rfl, trivial⟩, Split.ent' (by repeat (first | exact Split.nil | (apply Split.cons; (repeat (first | with_reducible exact Take.here | apply Take.there)))))⟩
    ·skip
     have h57' : ¬ P c = 3 := of_decide_eq_false h57
     refine swp_skip ?_
     exact then_n ⟨_, ⟨rfl, rfl, rfl, rfl, by unfold pOut; rw [if_neg h57']; rfl, trivial⟩, Split.ent' (by repeat (first | exact Split.nil | (apply Split.cons; (repeat (first | with_reducible exact Take.here | apply Take.there)))))⟩
   ·skip
    have h47' : ¬ P c < 4 := of_decide_eq_false h47
    rw [if_neg h47', Nat.add_zero] at hpop
    have h57' : ¬ P c = 3 := by omega
    refine swp_skip ?_
    refine then_n ⟨F, ⟨rfl, rfl, rfl, rfl, by unfold pOut; rw [if_neg h57']; rfl, trivial⟩, ?_⟩
    rw [hpop]
    exact Split.ent' (by repeat (first | exact Split.nil | (apply Split.cons; (repeat (first | with_reducible exact Take.here | apply Take.there)))))
  rintro env L ⟨F', hsub, hL8⟩
  refine swp_sub _ hsub ?_
  refine swp_ent hL8 ?_
  clear hsub hL8 env L
  have hvo : isV (pOut (P c)) := hV.out
  have hvn := pOut_ne hPc
  generalize hv : pOut (P c) = v at *
  generalize (fun j => D j || decide (j = c)) = D' at *
  refine swp_seq ?_
  refine swp_region ?_
  refine s_pu (pu_move rfl) ?_
  first | refine s_pu (pu_nilCheck rfl) ?_ | refine s_pu (pu_nilCheck_fn rfl) ?_ | refine s_pu (pu_nilCheck_if rfl) ?_
  first | refine s_pu (pu_fieldAddr0 rfl) ?_ | refine s_pu (pu_fieldAddr rfl) ?_
  refine s_rd (rd_load rfl rfl) ?_
  refine s_pu (pu_move rfl) ?_
  refine s_ef (ef_invS rfl X.hd (X.parents s1 μ1 c (h0.trans hle) hcn) rfl (by repeat (first | exact Split.nil | (apply Split.cons; (repeat (first | with_reducible exact Take.here | apply Take.there)))))) ?_
  rintro v68 L1 ⟨row, s3, μ3, hμ3, hrl, hrw, rfl⟩
  refine swl_app ?_
  refine s_pu (pu_len_row hrw rfl) ?_
  refine s_pu (pu_move rfl) ?_
  refine swl_sub _ (.cons (t := 0) rfl (.cons (t := 3) rfl (.cons (t := 4) rfl (.cons (t := 8) rfl (.cons (t := 68) rfl (.cons (t := 69) rfl (.cons (t := 70) rfl .nil))))))) ?_
  refine swl_nil ?_
  refine then_n ?_
  refine swp_block ?_
  refine swp_sub _ (.cons (t := 0) rfl (.cons (t := 3) rfl (.cons (t := 4) rfl (.cons (t := 8) rfl (.cons (t := 68) rfl (.cons (t := 69) rfl (.cons (t := 70) rfl .nil))))))) ?_
  refine swp_ent (Split.ent' (K := [ptB p X.sv X.n mb q (frP (P, Q)), mpP mb P, Bq.cq q Q (seenP X.n P), mset p3 X.n F', mset p4 X.n D', X.A s3, ro μ3]) (by repeat (first | exact Split.nil | (apply Split.cons; (repeat (first | with_reducible exact Take.here | apply Take.there)))))) ?_
  refine swp_loop (ι := Nat) (fun i env L => ∃ si : PS, Sub env [(0, .pointer (some ⟨p, 0, none⟩)), (3, .pointer (some ⟨p3, 0, none⟩)), (4, .pointer (some ⟨p4, 0, none⟩)), (8, .int .i64 (v : Nat)), (68, v68), (69, .int .i64 (row.length : Nat)), (70, .int .i64 (i : Nat))]
   ∧ L = [ptB p X.sv X.n mb q (frP si), mpP mb si.1, Bq.cq q si.2 (seenP X.n si.1), mset p3 X.n F', mset p4 X.n D', X.A s3, ro μ3] ∧ i ≤ row.length ∧ WI X.n D' si) (fun i => row.length - i) 0 ⟨(P, Q), ⟨rfl, rfl, rfl, rfl, rfl, rfl, rfl, trivial⟩, rfl, Nat.zero_le _, hW1⟩ ?_
  rintro i env L ⟨si, hsub, rfl, hi, hWi⟩
  refine swp_sub _ hsub ?_
  clear hsub env
  refine swp_seq ?_
  refine swp_region ?_
  refine s_pu (pu_lss rfl rfl) ?_
  refine swl_sub _ (.cons (t := 0) rfl (.cons (t := 3) rfl (.cons (t := 4) rfl (.cons (t := 8) rfl (.cons (t := 68) rfl (.cons (t := 69) rfl (.cons (t := 70) rfl (.cons (t := 71) rfl .nil)))))))) ?_
  refine swl_nil ?_
  refine then_n ?_
  refine swp_seq ?_
  refine swp_cond (b := _) rfl (fun h71 => ?_) (fun h71 => ?_)
  ·skip
   have h71' : i < row.length := by have := of_decide_eq_true h71; omega
   obtain ⟨u, hu⟩ : ∃ u, row[i]? = some u := ⟨_, List.getElem?_eq_getElem h71'⟩
   obtain ⟨pb, po, pc, hpv, hpc⟩ := hrw.at_ hu
   refine swp_skip ?_
   refine then_n ?_
   refine swp_cut (fun env L => ∃ si : PS, Sub env [(0, .pointer (some ⟨p, 0, none⟩)), (3, .pointer (some ⟨p3, 0, none⟩)), (4, .pointer (some ⟨p4, 0, none⟩)), (8, .int .i64 (v : Nat)), (68, v68), (69, .int .i64 (row.length : Nat)), (70, .int .i64 (i : Nat))] ∧ Ent L [ptB p X.sv X.n mb q (frP si), mpP mb si.1, Bq.cq q si.2 (seenP X.n si.1), mset p3 X.n F', mset p4 X.n D', X.A s3, ro μ3] ∧ WI X.n D' si) ?_ ?_
   ·skip
    refine swp_block ?_
    refine swp_seq ?_
    refine swp_region ?_
    refine s_pu (pu_indexAddr (po + i * 1) (congrArg some hpv) rfl (by omega) (by omega) (by rw [Int.toNat_natCast])) ?_
    refine s_rd (rd_ro rfl hpc) ?_
    refine s_pu (pu_assign rfl) ?_
    refine swl_sub _ (.cons (t := 0) rfl (.cons (t := 3) rfl (.cons (t := 4) rfl (.cons (t := 8) rfl (.cons (t := 10) rfl (.cons (t := 68) rfl (.cons (t := 69) rfl (.cons (t := 70) rfl .nil)))))))) ?_
    refine swl_nil ?_
    refine then_n ?_
    refine swp_seq ?_
    refine swp_region ?_
    refine s_pu (pu_move rfl) ?_
    refine s_pu (pu_move rfl) ?_
    refine s_ef (ef_fn (has_m p4 X.n D' u) rfl rfl (by repeat (first | exact Split.nil | (apply Split.cons; (repeat (first | with_reducible exact Take.here | apply Take.there)))))) ?_
    rintro v76 L1 ⟨rfl, rfl⟩
    refine swl_app ?_
    refine s_pu (pu_not rfl) ?_
    refine swl_sub _ (.cons (t := 0) rfl (.cons (t := 3) rfl (.cons (t := 4) rfl (.cons (t := 8) rfl (.cons (t := 10) rfl (.cons (t := 68) rfl (.cons (t := 69) rfl (.cons (t := 70) rfl (.cons (t := 77) rfl .nil))))))))) ?_
    refine swl_nil ?_
    refine then_n ?_
    refine swp_cond (b := _) rfl (fun h77 => ?_) (fun h77 => ?_)
    ·skip
     refine swp_region ?_
     refine s_pu (pu_move rfl) ?_
     refine s_pu (pu_move rfl) ?_
     refine s_pu (pu_move rfl) ?_
     have hnew : ∃ si' : PS, WI X.n D' si' ∧ Spec Tryd.prog 38 [.pointer (some ⟨p, 0, none⟩), .int .i64 u, .int .i64 (v : Nat)] [ptB p X.sv X.n mb q (frP si), mpP mb si.1, Bq.cq q si.2 (seenP X.n si.1)] (fun r L => r = .tuple #[] ∧ L = [ptB p X.sv X.n mb q (frP si'), mpP mb si'.1, Bq.cq q si'.2 (seenP X.n si'.1)]) := by
      by_cases hr : 0 ≤ u ∧ u < (X.n : Int)
      ·obtain ⟨k, rfl⟩ : ∃ k : Nat, u = k := ⟨u.toNat, by omega⟩
       have hDk : D' k = false := by
        rw [decide_eq_true hr.1, Bool.true_and, Int.toNat_natCast] at h77
        exact not_t h77
       exact ⟨_, hWi.add (by omega) hDk hvo hvn, paddw_spec p X.n mb q X.sv si k v hn (hWi.pc (by omega) hDk) (by omega) hvo hvn⟩
      ·exact ⟨si, hWi, paddw_out p X.n mb q X.sv si u v hr _ _⟩
     obtain ⟨si', hWi', hadd⟩ := hnew
     refine s_ef (ef_fn hadd rfl rfl (by repeat (first | exact Split.nil | (apply Split.cons; (repeat (first | with_reducible exact Take.here | apply Take.there)))))) ?_
     rintro v81 L1 ⟨rfl, rfl⟩
     refine swl_app ?_
     refine swl_sub _ (.cons (t := 0) rfl (.cons (t := 3) rfl (.cons (t := 4) rfl (.cons (t := 8) rfl (.cons (t := 68) rfl (.cons (t := 69) rfl (.cons (t := 70) rfl .nil))))))) ?_
     refine swl_nil ?_
     refine block_n ?_
     exact then_n ⟨si', ⟨rfl, rfl, rfl, rfl, rfl, rfl, rfl, trivial⟩, Split.ent' (by repeat (first | exact Split.nil | (apply Split.cons; (repeat (first | with_reducible exact Take.here | apply Take.there))))), hWi'⟩
    ·skip
     refine swp_skip ?_
     refine block_n ?_
     exact then_n ⟨si, ⟨rfl, rfl, rfl, rfl, rfl, rfl, rfl, trivial⟩, Split.ent' (by repeat (first | exact Split.nil | (apply Split.cons; (repeat (first | with_reducible exact Take.here | apply Take.there))))), hWi⟩
   rintro env L ⟨si', hsub, hE, hWi'⟩
   refine swp_sub _ hsub ?_
   refine swp_ent hE ?_
   clear hsub hE env L
   refine swp_region ?_
   refine s_pu (pu_add_as ((i + 1 : Nat) : Int) rfl rfl (by omega) (by omega) (by omega)) ?_
   refine s_pu (pu_move rfl) ?_
   refine swl_sub _ (.cons (t := 0) rfl (.cons (t := 3) rfl (.cons (t := 4) rfl (.cons (t := 8) rfl (.cons (t := 68) rfl (.cons (t := 69) rfl (.cons (t := 70) rfl .nil))))))) ?_
   refine swl_nil ?_
   exact then_n ⟨i + 1, ⟨si', ⟨rfl, rfl, rfl, rfl, rfl, rfl, rfl, trivial⟩, rfl, h71', hWi'⟩, by omega⟩
  ·skip
   refine swp_exit ?_
   refine then_x ?_
   refine then_x ?_
   refine block_hit rfl ?_
   refine block_n ?_
   exact then_n ⟨(si, F', D', s3, μ3), ⟨⟨rfl, rfl, rfl, trivial⟩, rfl, hWi, hle.trans hμ3⟩, by show X.n - seenN X.n D' < X.n - seenN X.n D; omega⟩
 ·skip
  refine swp_exit ?_
  refine then_x ?_
  refine then_x ?_
  refine block_hit rfl ?_
  refine then_n ?_
  refine swp_seq ?_
  refine swp_region ?_
  refine s_pu (pu_move rfl) ?_
  refine s_ef (ef_fn (list_m μ1 p3 X.n F (hT.le hle)) rfl rfl (by repeat (first | exact Split.nil | (apply Split.cons; (repeat (first | with_reducible exact Take.here | apply Take.there)))))) ?_
  rintro v84 L1 rfl
  refine swl_app ?_
  refine s_pu (pu_assign rfl) ?_
  refine swl_sub _ (.cons (t := 2) rfl .nil) ?_
  refine swl_nil ?_
  refine then_n ?_
  refine swp_ret ?_
  exact done_ret [own 3 1 v84 (elsTo X.n F).length ((elsTo X.n F).flatMap (icsk .i64)), X.A s1, ro μ1] (.tmp rfl .nil) ⟨_, s1, μ1, hle, fun c hc => els_in' hc, elsTo_len _ _, rfl⟩ (by repeat (first | exact Split.nil | (apply Split.cons; (repeat (first | with_reducible exact Take.here | apply Take.there)))))
set_option maxHeartbeats 4000000 in
theorem wsides_spec (X : WSrc) (s0 : X.σ) (μ : PH) (v u : Value) (xs ys : List Int) (hT : RowAt μ 1 0 tabV) (hv : Row μ v 1 xs.length (xs.flatMap (icsk .i64))) (hu : Row μ u 1 ys.length (ys.flatMap (icsk .i64))) (h0 : Le X.μ0 μ) :
  Spec Tryd.prog 26 [X.sv, v, u] [X.A s0, ro μ] (fun r L => ∃ (lv : Value) (e : Int) (l : List Int) (s' : X.σ) (μ' : PH), Le μ μ' ∧ (∀ c ∈ l, 0 ≤ c ∧ c < (X.n : Int)) ∧ l.length ≤ X.n ∧ r = .tuple #[lv, .int .i64 e] ∧ L = [own 3 1 lv l.length (l.flatMap (icsk .i64)), X.A s', ro μ']) := by
 have hn := X.hn
 have hvs := hv.small
 have hus := hu.small
 obtain ⟨A1, c1, rfl⟩ := hv.sl
 obtain ⟨A2, c2, rfl⟩ := hu.sl
 refine Spec.of 51 Tryd.func26 rfl rfl rfl ?_
 refine swp_seq ?_
 refine swp_region ?_
 refine s_pu (pu_assign rfl) ?_
 refine s_pu (pu_assign rfl) ?_
 refine swl_sub _ (.cons (t := 0) rfl (.cons (t := 1) rfl (.cons (t := 2) rfl .nil))) ?_
 refine swl_nil ?_
 refine then_n ?_
 refine swp_seq ?_
 refine swp_seq ?_
 refine swp_region ?_
 refine s_pu (pu_move rfl) ?_
 refine s_pu (pu_move rfl) ?_
 refine s_pu (pu_move rfl) ?_
 refine s_ef (ef_bldS (qs := [(0, _), (1, _)]) rfl rfl rfl) ?_
 intro b17
 refine swl_share (b := b17) (μ := μ) (by repeat (first | exact Split.nil | (apply Split.cons; (repeat (first | with_reducible exact Take.here | apply Take.there))))) fun μ1 h1 k1 => ?_
 have hG : Graph μ1 (.slice (some ⟨b17, 0, none⟩) 2 2) [(.slice A1 xs.length c1, xs), (.slice A2 ys.length c2, ys)] := ⟨row_of_blk k1 (by rfl) (by decide), fun x hx => by
  rcases List.mem_cons.1 hx with rfl | hx
  ·exact hv.le h1
  ·obtain rfl := List.mem_singleton.1 hx; exact hu.le h1⟩
 refine s_ef (ef_fn (wasked_spec X s0 μ1 _ _ hG) rfl rfl (by repeat (first | exact Split.nil | (apply Split.cons; (repeat (first | with_reducible exact Take.here | apply Take.there)))))) ?_
 rintro v18 L1 ⟨rfl, rfl⟩
 refine swl_app ?_
 rw [show askedE X.n (nums [(Value.slice A1 xs.length c1, xs), (Value.slice A2 ys.length c2, ys)]) = askedE X.n [xs, ys] from rfl]
 refine s_pu (pu_assign rfl) ?_
 refine swl_sub _ (.cons (t := 0) rfl (.cons (t := 1) rfl (.cons (t := 2) rfl (.cons (t := 8) rfl .nil)))) ?_
 refine swl_nil ?_
 refine then_n ?_
 refine swp_seq ?_
 refine swp_region ?_
 refine s_pu (pu_move rfl) ?_
 refine s_pu (pu_neq rfl rfl) ?_
 refine swl_sub _ (.cons (t := 0) rfl (.cons (t := 1) rfl (.cons (t := 2) rfl (.cons (t := 8) rfl (.cons (t := 20) rfl .nil))))) ?_
 refine swl_nil ?_
 refine then_n ?_
 refine swp_cond (b := _) rfl (fun h20 => ?_) (fun h20 => ?_)
 ·skip
  have he : askedE X.n [xs, ys] ≠ 0 := by simpa using h20
  refine swp_seq ?_
  refine swp_region ?_
  refine s_pu (pu_move rfl) ?_
  refine s_pu (pu_assign rfl) ?_
  refine s_pu (pu_assign rfl) ?_
  refine swl_sub _ (.cons (t := 6) rfl (.cons (t := 7) rfl .nil)) ?_
  refine swl_nil ?_
  refine then_n ?_
  refine swp_ret ?_
  refine then_r ?_
  refine done_retE [own 3 1 (.slice none 0 0) 0 [], X.A s0, ro μ1] (.tmp rfl (.tmp rfl .nil)) ⟨_, _, [], s0, μ1, h1, (fun c hc => by cases hc), Nat.zero_le _, rfl, rfl⟩ ?_
  exact (Split.ent' (K := [X.A s0, ro μ1]) (by repeat (first | exact Split.nil | (apply Split.cons; (repeat (first | with_reducible exact Take.here | apply Take.there)))))).trans own_nil_ent
 ·skip
  have he : askedE X.n [xs, ys] = 0 := by simpa using h20
  have hx : ∀ p ∈ xs, 0 ≤ p ∧ p < X.n := askedE_in he (by simp)
  have hy : ∀ p ∈ ys, 0 ≤ p ∧ p < X.n := askedE_in he (by simp)
  refine swp_skip ?_
  refine then_n ?_
  refine swp_seq ?_
  refine swp_region ?_
  refine s_pu (pu_move rfl) ?_
  refine s_pu (pu_move rfl) ?_
  refine s_ef (ef_fn (wcommits_spec X s0) rfl rfl (by repeat (first | exact Split.nil | (apply Split.cons; (repeat (first | with_reducible exact Take.here | apply Take.there)))))) ?_
  rintro v24 L1 ⟨rfl, rfl⟩
  refine swl_app ?_
  refine s_ef (ef_makeMap (kv := ikv)) ?_
  intro b25
  refine s_ef (ef_fn Bq.new_q rfl rfl (by repeat (first | exact Split.nil | (apply Split.cons; (repeat (first | with_reducible exact Take.here | apply Take.there)))))) ?_
  rintro v26 L1 ⟨q, rfl, rfl⟩
  refine swl_app ?_
  refine s_pu (pu_bld (qs := [(0, _), (1, _), (2, _), (3, _)]) rfl) ?_
  refine s_ef (ef_box rfl rfl) ?_
  intro b28
  refine s_pu (pu_assign rfl) ?_
  refine swl_sub _ (.cons (t := 1) rfl (.cons (t := 2) rfl (.cons (t := 9) rfl .nil))) ?_
  refine swl_ent (Split.ent' (K := [mpe b25 ikv [] 0, blk b28 116 [X.sv, .int .i64 (X.n : Nat), .map (some b25), .pointer (some ⟨q, 0, none⟩), .int .i64 0], Bq.cq q [] 0, X.A s0, ro μ1]) (by repeat (first | exact Split.nil | (apply Split.cons; (repeat (first | with_reducible exact Take.here | apply Take.there)))))) ?_
  refine swl_ent (mpP_close pmap_nil) ?_
  have hs0 : seenP X.n (fun _ => 0) = 0 := by unfold seenP; exact seenN_none _
  refine swl_nil ?_
  refine then_n ?_
  refine swp_seq ?_
  refine swp_seq ?_
  refine swp_region ?_
  refine s_pu (pu_move rfl) ?_
  refine s_pu (pu_len rfl) ?_
  refine s_pu (pu_move rfl) ?_
  refine swl_sub _ (.cons (t := 2) rfl (.cons (t := 9) rfl (.cons (t := 29) rfl (.cons (t := 30) rfl (.cons (t := 31) rfl .nil))))) ?_
  refine swl_nil ?_
  refine then_n ?_
  refine swp_block ?_
  have key : ∀ i, WI X.n (fun _ => false) (addRow 1 (fun _ => 0, []) (xs.take i)) := fun i => WI.addRow (by unfold isV; decide) (by decide) (WI.start X.n) (fun p hp => hx p (List.mem_of_mem_take hp)) (fun _ => rfl)
  refine swp_ent (L' := [ptB b28 X.sv X.n b25 q (frP (addRow 1 (fun _ => 0, []) (xs.take 0))), mpP b25 (addRow 1 (fun _ => 0, []) (xs.take 0)).1, Bq.cq q (addRow 1 (fun _ => 0, []) (xs.take 0)).2 (seenP X.n (addRow 1 (fun _ => 0, []) (xs.take 0)).1), X.A s0, ro μ1]) (by
   show Ent _ [blk b28 116 [X.sv, .int .i64 (X.n : Nat), .map (some b25), .pointer (some ⟨q, 0, none⟩), .int .i64 0], mpP b25 (fun _ => 0), Bq.cq q [] (seenP X.n (fun _ => 0)), X.A s0, ro μ1]
   rw [hs0]; exact Split.ent' (by repeat (first | exact Split.nil | (apply Split.cons; (repeat (first | with_reducible exact Take.here | apply Take.there)))))) ?_
  refine swp_loop (ι := Nat) (fun i env L => env = [(2, .slice A2 ys.length c2), (9, .pointer (some ⟨b28, 0, none⟩)), (29, .slice A1 xs.length c1), (30, .int .i64 (xs.length : Nat)), (31, .int .i64 (i : Nat))]
   ∧ L = [ptB b28 X.sv X.n b25 q (frP (addRow 1 (fun _ => 0, []) (xs.take i))), mpP b25 (addRow 1 (fun _ => 0, []) (xs.take i)).1, Bq.cq q (addRow 1 (fun _ => 0, []) (xs.take i)).2 (seenP X.n (addRow 1 (fun _ => 0, []) (xs.take i)).1), X.A s0, ro μ1] ∧ i ≤ xs.length) (fun i => xs.length - i) 0 ⟨rfl, rfl, Nat.zero_le _⟩ ?_
  rintro i env L ⟨rfl, rfl, hi⟩
  refine swp_seq ?_
  refine swp_region ?_
  refine s_pu (pu_lss rfl rfl) ?_
  refine swl_sub _ (.cons (t := 2) rfl (.cons (t := 9) rfl (.cons (t := 29) rfl (.cons (t := 30) rfl (.cons (t := 31) rfl (.cons (t := 32) rfl .nil)))))) ?_
  refine swl_nil ?_
  refine then_n ?_
  refine swp_seq ?_
  refine swp_cond (b := _) rfl (fun h32 => ?_) (fun h32 => ?_)
  ·skip
   have h32' : i < xs.length := by have := of_decide_eq_true h32; omega
   obtain ⟨c, hc⟩ : ∃ c, xs[i]? = some c := ⟨_, List.getElem?_eq_getElem h32'⟩
   obtain ⟨pb, po, pc, hpv, hpc⟩ := (hv.le h1).at_ hc
   have hcr := hx c (List.mem_of_getElem? hc)
   obtain ⟨c, rfl⟩ : ∃ k : Nat, c = k := ⟨c.toNat, by omega⟩
   have hsu := addRow_succ (v := 1) (s := (fun _ => 0, [])) hc
   rw [Int.toNat_natCast] at hsu
   have hki := key i
   generalize addRow 1 (fun _ => 0, []) (xs.take i) = si at *
   refine swp_skip ?_
   refine then_n ?_
   refine swp_seq ?_
   refine swp_block ?_
   refine swp_seq ?_
   refine swp_region ?_
   refine s_pu (pu_indexAddr (po + i * 1) (congrArg some hpv) rfl (by omega) (by omega) (by rw [Int.toNat_natCast])) ?_
   refine s_rd (rd_ro rfl hpc) ?_
   refine s_pu (pu_assign rfl) ?_
   refine swl_sub _ (.cons (t := 2) rfl (.cons (t := 9) rfl (.cons (t := 11) rfl (.cons (t := 29) rfl (.cons (t := 30) rfl (.cons (t := 31) rfl .nil)))))) ?_
   refine swl_nil ?_
   refine then_n ?_
   refine swp_region ?_
   refine s_pu (pu_move rfl) ?_
   refine s_pu (pu_move rfl) ?_
   refine s_ef (ef_fn (paddw_spec b28 X.n b25 q X.sv si c 1 hn (hki.pc (by omega) rfl) (by omega) (by unfold isV; decide) (by decide)) rfl rfl (by repeat (first | exact Split.nil | (apply Split.cons; (repeat (first | with_reducible exact Take.here | apply Take.there)))))) ?_
   rintro v37 L1 ⟨rfl, rfl⟩
   refine swl_app ?_
   refine swl_sub _ (.cons (t := 2) rfl (.cons (t := 9) rfl (.cons (t := 29) rfl (.cons (t := 30) rfl (.cons (t := 31) rfl .nil))))) ?_
   refine swl_nil ?_
   refine block_n ?_
   refine then_n ?_
   refine swp_region ?_
   refine s_pu (pu_add_as ((i + 1 : Nat) : Int) rfl rfl (by omega) (by omega) (by omega)) ?_
   refine s_pu (pu_move rfl) ?_
   refine swl_sub _ (.cons (t := 2) rfl (.cons (t := 9) rfl (.cons (t := 29) rfl (.cons (t := 30) rfl (.cons (t := 31) rfl .nil))))) ?_
   refine swl_nil ?_
   exact then_n ⟨i + 1, ⟨rfl, by rw [hsu], h32'⟩, by omega⟩
  ·skip
   have h32' := of_decide_eq_false h32
   obtain rfl : i = xs.length := by omega
   have hk1 := key xs.length
   rw [List.take_length] at *
   refine swp_exit ?_
   refine then_x ?_
   refine then_x ?_
   refine block_hit rfl ?_
   refine then_n ?_
   refine swp_seq ?_
   refine swp_seq ?_
   refine swp_region ?_
   refine s_pu (pu_move rfl) ?_
   refine s_pu (pu_len_row hu rfl) ?_
   refine s_pu (pu_move rfl) ?_
   refine swl_sub _ (.cons (t := 9) rfl (.cons (t := 39) rfl (.cons (t := 40) rfl (.cons (t := 41) rfl .nil)))) ?_
   refine swl_nil ?_
   refine then_n ?_
   refine swp_block ?_
   have key2 : ∀ i, WI X.n (fun _ => false) (addRow 2 (addRow 1 (fun _ => 0, []) xs) (ys.take i)) := fun i => WI.addRow (by unfold isV; decide) (by decide) hk1 (fun p hp => hy p (List.mem_of_mem_take hp)) (fun _ => rfl)
   refine swp_sub _ (.cons (t := 9) rfl (.cons (t := 39) rfl (.cons (t := 40) rfl (.cons (t := 41) rfl .nil)))) ?_
   refine swp_loop (ι := Nat) (fun i env L => env = [(9, .pointer (some ⟨b28, 0, none⟩)), (39, .slice A2 ys.length c2), (40, .int .i64 (ys.length : Nat)), (41, .int .i64 (i : Nat))]
    ∧ L = [ptB b28 X.sv X.n b25 q (frP (addRow 2 (addRow 1 (fun _ => 0, []) xs) (ys.take i))), mpP b25 (addRow 2 (addRow 1 (fun _ => 0, []) xs) (ys.take i)).1, Bq.cq q (addRow 2 (addRow 1 (fun _ => 0, []) xs) (ys.take i)).2 (seenP X.n (addRow 2 (addRow 1 (fun _ => 0, []) xs) (ys.take i)).1), X.A s0, ro μ1] ∧ i ≤ ys.length) (fun i => ys.length - i) 0 ⟨rfl, rfl, Nat.zero_le _⟩ ?_
   rintro i env L ⟨rfl, rfl, hi⟩
   refine swp_seq ?_
   refine swp_region ?_
   refine s_pu (pu_lss rfl rfl) ?_
   refine swl_sub _ (.cons (t := 9) rfl (.cons (t := 39) rfl (.cons (t := 40) rfl (.cons (t := 41) rfl (.cons (t := 42) rfl .nil))))) ?_
   refine swl_nil ?_
   refine then_n ?_
   refine swp_seq ?_
   refine swp_cond (b := _) rfl (fun h42 => ?_) (fun h42 => ?_)
   ·skip
    have h42' : i < ys.length := by have := of_decide_eq_true h42; omega
    obtain ⟨c, hc⟩ : ∃ c, ys[i]? = some c := ⟨_, List.getElem?_eq_getElem h42'⟩
    obtain ⟨pb, po, pc, hpv, hpc⟩ := (hu.le h1).at_ hc
    have hcr := hy c (List.mem_of_getElem? hc)
    obtain ⟨c, rfl⟩ : ∃ k : Nat, c = k := ⟨c.toNat, by omega⟩
    have hsu := addRow_succ (v := 2) (s := addRow 1 (fun _ => 0, []) xs) hc
    rw [Int.toNat_natCast] at hsu
    have hki := key2 i
    generalize addRow 2 (addRow 1 (fun _ => 0, []) xs) (ys.take i) = si at *
    refine swp_skip ?_
    refine then_n ?_
    refine swp_seq ?_
    refine swp_block ?_
    refine swp_seq ?_
    refine swp_region ?_
    refine s_pu (pu_indexAddr (po + i * 1) (congrArg some hpv) rfl (by omega) (by omega) (by rw [Int.toNat_natCast])) ?_
    refine s_rd (rd_ro rfl hpc) ?_
    refine s_pu (pu_assign rfl) ?_
    refine swl_sub _ (.cons (t := 9) rfl (.cons (t := 13) rfl (.cons (t := 39) rfl (.cons (t := 40) rfl (.cons (t := 41) rfl .nil))))) ?_
    refine swl_nil ?_
    refine then_n ?_
    refine swp_region ?_
    refine s_pu (pu_move rfl) ?_
    refine s_pu (pu_move rfl) ?_
    refine s_ef (ef_fn (paddw_spec b28 X.n b25 q X.sv si c 2 hn (hki.pc (by omega) rfl) (by omega) (by unfold isV; decide) (by decide)) rfl rfl (by repeat (first | exact Split.nil | (apply Split.cons; (repeat (first | with_reducible exact Take.here | apply Take.there)))))) ?_
    rintro v47 L1 ⟨rfl, rfl⟩
    refine swl_app ?_
    refine swl_sub _ (.cons (t := 9) rfl (.cons (t := 39) rfl (.cons (t := 40) rfl (.cons (t := 41) rfl .nil)))) ?_
    refine swl_nil ?_
    refine block_n ?_
    refine then_n ?_
    refine swp_region ?_
    refine s_pu (pu_add_as ((i + 1 : Nat) : Int) rfl rfl (by omega) (by omega) (by omega)) ?_
    refine s_pu (pu_move rfl) ?_
    refine swl_sub _ (.cons (t := 9) rfl (.cons (t := 39) rfl (.cons (t := 40) rfl (.cons (t := 41) rfl .nil)))) ?_
    refine swl_nil ?_
    exact then_n ⟨i + 1, ⟨rfl, by rw [hsu], h42'⟩, by omega⟩
   ·skip
    have h42' := of_decide_eq_false h42
    obtain rfl : i = ys.length := by omega
    rw [List.take_length]
    refine swp_exit ?_
    refine then_x ?_
    refine then_x ?_
    refine block_hit rfl ?_
    refine then_n ?_
    refine swp_seq ?_
    refine swp_region ?_
    refine s_pu (pu_move rfl) ?_
    refine s_ef (ef_fn (wbest_spec X s0 μ1 b28 b25 q (addRow 2 (addRow 1 (fun _ => 0, []) xs) ys) (hT.le h1) (h0.trans h1) (by have := key2 ys.length; rwa [List.take_length] at this)) rfl rfl (by repeat (first | exact Split.nil | (apply Split.cons; (repeat (first | with_reducible exact Take.here | apply Take.there)))))) ?_
    rintro v50 L1 ⟨l, s4, μ2, h2, hl1, hl2, rfl⟩
    refine swl_app ?_
    refine s_pu (pu_assign rfl) ?_
    refine s_pu (pu_assign rfl) ?_
    refine swl_sub _ (.cons (t := 6) rfl (.cons (t := 7) rfl .nil)) ?_
    refine swl_nil ?_
    refine then_n ?_
    refine swp_ret ?_
    exact done_ret [own 3 1 v50 l.length (l.flatMap (icsk .i64)), X.A s4, ro μ2] (.tmp rfl (.tmp rfl .nil)) ⟨_, _, l, s4, μ2, h1.trans h2, hl1, hl2, rfl, rfl⟩ (by repeat (first | exact Split.nil | (apply Split.cons; (repeat (first | with_reducible exact Take.here | apply Take.there)))))
end SX
namespace SX
open Go Go.Proofs
theorem turn_spec (c : W32) : Spec Tryd.prog 84 [.int .u32 (c.toNat : Nat)] [] (fun v L => v = .int .u32 ((turnW c).toNat : Nat) ∧ L = []) := by
 refine Spec.of 11 Tryd.func84 rfl rfl rfl ?_
 refine swp_seq ?_
 refine swp_region ?_
 refine s_pu (pu_assign rfl) ?_
 refine swl_sub _ (.cons (t := 0) rfl .nil) ?_
 refine swl_nil ?_
 refine then_n ?_
 refine swp_seq ?_
 refine swp_seq ?_
 refine swp_region ?_
 refine s_pu (pu_move rfl) ?_
 refine s_pu (pu_and_w32 (b := 1#32) rfl rfl) ?_
 refine s_pu (pu_neq rfl rfl) ?_
 refine swl_sub _ (.cons (t := 0) rfl (.cons (t := 5) rfl .nil)) ?_
 refine swl_nil ?_
 refine then_n ?_
 refine swp_cond (b := _) rfl (fun h5 => ?_) (fun h5 => ?_)
 ·skip
  have h5' : ¬ (c &&& 1#32) = 0#32 := by
   intro e; rw [e] at h5; simp at h5
  refine swp_seq ?_
  refine swp_region ?_
  refine s_pu (pu_move rfl) ?_
  refine s_pu (pu_shr_w32 1 rfl rfl (by decide)) ?_
  refine s_pu (pu_xor_w32 (b := polyW) rfl rfl) ?_
  refine s_pu (pu_assign rfl) ?_
  refine swl_sub _ (.cons (t := 2) rfl .nil) ?_
  refine swl_nil ?_
  refine then_n ?_
  refine swp_ret ?_
  refine then_r ?_
  exact done_ret [] (.tmp rfl .nil) ⟨by unfold turnW; rw [if_neg h5']; rfl, rfl⟩ (by repeat (first | exact Split.nil | (apply Split.cons; (repeat (first | with_reducible exact Take.here | apply Take.there)))))
 ·skip
  have h5' : (c &&& 1#32) = 0#32 := by
   have := of_decide_eq_true ((Bool.not_eq_false' _).mp h5)
   exact BitVec.eq_of_toNat_eq (Int.ofNat.inj this)
  refine swp_skip ?_
  refine then_n ?_
  refine swp_seq ?_
  refine swp_region ?_
  refine s_pu (pu_move rfl) ?_
  refine s_pu (pu_shr_w32 1 rfl rfl (by decide)) ?_
  refine s_pu (pu_assign rfl) ?_
  refine swl_sub _ (.cons (t := 2) rfl .nil) ?_
  refine swl_nil ?_
  refine then_n ?_
  refine swp_ret ?_
  exact done_ret [] (.tmp rfl .nil) ⟨by unfold turnW; rw [if_pos h5']; rfl, rfl⟩ (by repeat (first | exact Split.nil | (apply Split.cons; (repeat (first | with_reducible exact Take.here | apply Take.there)))))
theorem turns_succ (k : Nat) (c : W32) : turnsW (k + 1) c = turnW (turnsW k c) := by
  induction k generalizing c with
  | zero => rfl
  | succ k ih => rw [turnsW, ih]; rfl
end SX
