/- A part of the proof: walks of the seat's functions, by the rules of the texts that it imports. -/
import Derived.Test.YtfbfmokgpdmcfaaDoorMdM5
import Derived.Test.YtfbfmokgpdmcfaaDoorSxLaw2
namespace SX
open Go Go.Proofs

def numsI (l : List Nat) : List Int := l.map fun k : Nat => (k : Int)
def elsTo (j : Nat) (S : Nat → Bool) : List Int := numsI ((List.range j).filter S)
theorem elsTo_skip {S : Nat → Bool} {k : Nat} : ∀ {j : Nat}, k ≤ j → (∀ i, k ≤ i → i < j → S i = false) → elsTo j S = elsTo k S
  | 0, h, _ => by have : k = 0 := by omega
                  subst this; rfl
  | j + 1, h, hS => by
    rcases Nat.lt_or_ge j k with h1 | h1
    · have : k = j + 1 := by omega
      subst this; rfl
    · have e : elsTo (j + 1) S = elsTo j S := by
        unfold elsTo
        rw [List.range_succ, List.filter_append]
        simp [hS j h1 (by omega)]
      rw [e]
      exact elsTo_skip h1 (fun i a b => hS i a (by omega))
theorem elsTo_succ {S : Nat → Bool} {j : Nat} (h : S j = true) : elsTo (j + 1) S = elsTo j S ++ [(j : Int)] := by
  unfold elsTo numsI
  rw [List.range_succ, List.filter_append]
  simp [h]
theorem elsTo_len (j : Nat) (S : Nat → Bool) : (elsTo j S).length ≤ j := by
  unfold elsTo numsI
  rw [List.length_map]
  exact Nat.le_trans (List.length_filter_le _ _) (by simp)

set_option maxHeartbeats 1000000 in
theorem list_o (μ : PH) (p n : Nat) (v : Value) (ws : List (BitVec 64)) (hT : RowAt μ 0 0 tabV) (hl : ws.length = (n + 63) / 64) (hn : n ≤ 1048576) (hS : ∀ j, n ≤ j → mem ws j = false) :
    Spec Tryd.prog 15 [.pointer (some ⟨p, 0, none⟩)] (opr p n v ws μ) (fun r L => L = [own 3 1 r (elsTo n (mem ws)).length ((elsTo n (mem ws)).flatMap (icsk .i64)), blk p 52 [.int .i64 (n : Nat), v], own 67 1 v ws.length (wcells ws), ro μ]) := by
  have inv : ∀ (k : Nat) (x : Int), k ≤ n → IsNext (mem ws) (k : Int) x → (x = -1 ∧ elsTo k (mem ws) = elsTo n (mem ws)) ∨ ∃ j : Nat, x = j ∧ k ≤ j ∧ j < n ∧ mem ws j = true ∧ elsTo k (mem ws) = elsTo j (mem ws) := by
    rintro k x hk (⟨rfl, h⟩ | ⟨j, rfl, h1, h2, h3⟩)
    · exact .inl ⟨rfl, (elsTo_skip hk (fun i a _ => h i (by omega))).symm⟩
    · refine .inr ⟨j, rfl, by omega, ?_, h2, (elsTo_skip (by omega) (fun i a b => h3 i (by omega) b)).symm⟩
      rcases Nat.lt_or_ge j n with h4 | h4
      · exact h4
      · rw [hS j h4] at h2; cases h2
  refine Spec.of 18 Tryd.func15 rfl rfl rfl ?_
  refine swp_seq ?_
  refine swp_region ?_
  refine s_pu (pu_assign rfl) ?_
  refine swl_sub _ (.cons (t := 0) rfl .nil) ?_
  refine swl_nil ?_
  refine then_n ?_
  refine swp_seq ?_
  refine swp_region ?_
  refine s_pu (pu_assign rfl) ?_
  refine swl_sub _ (.cons (t := 0) rfl (.cons (t := 3) rfl .nil)) ?_
  refine swl_ent (own_nil_ent (e := 3) (n := 1)) ?_
  refine swl_nil ?_
  refine then_n ?_
  refine swp_seq ?_
  refine swp_seq ?_
  refine swp_region ?_
  refine s_pu (pu_move rfl) ?_
  refine s_ef (ef_fn (next_o μ p n v ws 0 hT hl hn hS) rfl rfl (by repeat (first | exact Split.nil | (apply Split.cons; (repeat (first | with_reducible exact Take.here | apply Take.there)))))) ?_
  rintro v1 L1 ⟨x, rfl, hx, rfl⟩
  refine swl_app ?_
  refine s_pu (pu_assign rfl) ?_
  refine swl_sub _ (.cons (t := 0) rfl (.cons (t := 3) rfl (.cons (t := 4) rfl .nil))) ?_
  refine swl_ent (Split.ent' (K := [own 3 1 (.slice none 0 0) 0 [], blk p 52 [.int .i64 (n : Nat), v], own 67 1 v ws.length (wcells ws), ro μ]) (by repeat (first | exact Split.nil | (apply Split.cons; (repeat (first | with_reducible exact Take.here | apply Take.there)))))) ?_
  refine swl_nil ?_
  refine then_n ?_
  refine swp_block ?_
  refine swp_loop (ι := Value × Int × Nat) (fun k env L => env = [(0, .pointer (some ⟨p, 0, none⟩)), (3, k.1), (4, .int .i64 k.2.1)] ∧ L = [own 3 1 k.1 (elsTo k.2.2 (mem ws)).length ((elsTo k.2.2 (mem ws)).flatMap (icsk .i64)), blk p 52 [.int .i64 (n : Nat), v], own 67 1 v ws.length (wcells ws), ro μ] ∧
    ((k.2.1 = -1 ∧ k.2.2 = n) ∨ (k.2.1 = k.2.2 ∧ k.2.2 < n ∧ mem ws k.2.2 = true))) (fun k => if k.2.1 < 0 then 0 else n + 1 - k.2.2) (.slice none 0 0, x, if x < 0 then n else x.toNat) ⟨rfl, ?_, ?_⟩ ?_
  · rcases inv 0 x (Nat.zero_le _) hx with ⟨rfl, h⟩ | ⟨j, rfl, _, _, _, h⟩
    · show [own 3 1 (.slice none 0 0) 0 [], _, _, _] = [own 3 1 (.slice none 0 0) (elsTo n (mem ws)).length ((elsTo n (mem ws)).flatMap (icsk .i64)), _, _, _]
      rw [← h]; rfl
    · have hj : ¬ ((j : Int) < 0) := by omega
      simp only [hj, if_false, Int.toNat_natCast]
      rw [← h]; rfl
  · rcases inv 0 x (Nat.zero_le _) hx with ⟨rfl, h⟩ | ⟨j, rfl, _, h2, h3, h⟩
    · exact .inl ⟨rfl, rfl⟩
    · have hj : ¬ ((j : Int) < 0) := by omega
      simp only [hj, if_false, Int.toNat_natCast]
      exact .inr ⟨trivial, h2, h3⟩
  rintro ⟨v3, x, j⟩ env L ⟨rfl, rfl, hx⟩
  simp only [] at hx
  dsimp only
  refine swp_seq ?_
  refine swp_seq ?_
  refine swp_region ?_
  refine s_pu (pu_move rfl) ?_
  refine s_pu (pu_geq rfl rfl) ?_
  refine swl_sub _ (.cons (t := 0) rfl (.cons (t := 3) rfl (.cons (t := 4) rfl (.cons (t := 8) rfl .nil)))) ?_
  refine swl_nil ?_
  refine then_n ?_
  refine swp_cond (b := _) rfl (fun h8 => ?_) (fun h8 => ?_)
  · skip   -- 8 T
    have h8' := of_decide_eq_true h8
    obtain ⟨rfl, hjn, hj⟩ : x = (j : Int) ∧ j < n ∧ mem ws j = true := by
      rcases hx with ⟨h, _⟩ | h
      · omega
      · exact h
    have hle := elsTo_len j (mem ws)
    refine swp_skip ?_
    refine then_n ?_
    refine swp_seq ?_
    refine swp_block ?_
    refine swp_region ?_
    refine s_pu (pu_move rfl) ?_
    refine s_pu (pu_move rfl) ?_
    refine s_ef (ef_bldS (qs := [(0, _)]) rfl rfl rfl) ?_
    intro b15
    refine s_ef (ef_append_lit (l := (elsTo j (mem ws)).length) (m := 1) rfl rfl (by repeat (first | exact Split.nil | (apply Split.cons; (repeat (first | with_reducible exact Take.here | apply Take.there))))) (by simp only [maxLen]; omega) (by omega)) ?_
    rintro v' hv'
    skip
    refine s_pu (pu_assign rfl) ?_
    refine swl_sub _ (.cons (t := 0) rfl (.cons (t := 3) rfl (.cons (t := 4) rfl .nil))) ?_
    have e1 : (elsTo j (mem ws)).length + 1 = (elsTo (j + 1) (mem ws)).length := by rw [elsTo_succ hj, List.length_append]; rfl
    have e2 : (elsTo j (mem ws)).flatMap (icsk .i64) ++ [.int .i64 (j : Nat)] = (elsTo (j + 1) (mem ws)).flatMap (icsk .i64) := by rw [elsTo_succ hj, List.flatMap_append]; rfl
    rw [e1, e2]
    refine swl_nil ?_
    refine block_n ?_
    refine then_n ?_
    refine swp_region ?_
    refine s_pu (pu_move rfl) ?_
    refine s_pu (pu_move rfl) ?_
    refine s_pu (pu_add_as ((j + 1 : Nat) : Int) rfl rfl (by omega) (by omega) (by omega)) ?_
    refine s_ef (ef_fn (next_o μ p n v ws ((j + 1 : Nat) : Int) hT hl hn hS) rfl rfl (by repeat (first | exact Split.nil | (apply Split.cons; (repeat (first | with_reducible exact Take.here | apply Take.there)))))) ?_
    rintro v1 L1 ⟨x, rfl, hx2, rfl⟩
    refine swl_app ?_
    refine s_pu (pu_assign rfl) ?_
    refine swl_sub _ (.cons (t := 0) rfl (.cons (t := 3) rfl (.cons (t := 4) rfl .nil))) ?_
    refine swl_ent (Split.ent' (K := [own 3 1 v' (elsTo (j + 1) (mem ws)).length ((elsTo (j + 1) (mem ws)).flatMap (icsk .i64)), blk p 52 [.int .i64 (n : Nat), v], own 67 1 v ws.length (wcells ws), ro μ]) (by repeat (first | exact Split.nil | (apply Split.cons; (repeat (first | with_reducible exact Take.here | apply Take.there)))))) ?_
    refine swl_nil ?_
    rcases inv (j + 1) x hjn hx2 with ⟨rfl, h⟩ | ⟨i, rfl, h0, h2, h3, h⟩
    · rw [h]
      exact then_n ⟨(v', -1, n), ⟨rfl, rfl, .inl ⟨rfl, rfl⟩⟩, by
        show (if (-1 : Int) < 0 then 0 else n + 1 - n) < (if (j : Int) < 0 then 0 else n + 1 - j)
        rw [if_pos (by decide), if_neg (by omega)]; omega⟩
    · rw [h]
      exact then_n ⟨(v', (i : Int), i), ⟨rfl, rfl, .inr ⟨rfl, h2, h3⟩⟩, by
        show (if (i : Int) < 0 then 0 else n + 1 - i) < (if (j : Int) < 0 then 0 else n + 1 - j)
        rw [if_neg (by omega), if_neg (by omega)]; omega⟩
  · skip   -- 8 F
    have h8' := of_decide_eq_false h8
    obtain ⟨rfl, rfl⟩ : x = -1 ∧ j = n := by
      rcases hx with h | ⟨h, _⟩
      · exact h
      · omega
    refine swp_exit ?_
    refine then_x ?_
    refine then_x ?_
    refine block_hit rfl ?_
    refine then_n ?_
    refine swp_seq ?_
    refine swp_region ?_
    refine s_pu (pu_move rfl) ?_
    refine s_pu (pu_assign rfl) ?_
    refine swl_sub _ (.cons (t := 2) rfl .nil) ?_
    refine swl_nil ?_
    refine then_n ?_
    refine swp_ret ?_
    exact done_ret [own 3 1 v3 (elsTo j (mem ws)).length ((elsTo j (mem ws)).flatMap (icsk .i64)), blk p 52 [.int .i64 (j : Nat), v], own 67 1 v ws.length (wcells ws), ro μ] (.tmp rfl .nil) rfl (by repeat (first | exact Split.nil | (apply Split.cons; (repeat (first | with_reducible exact Take.here | apply Take.there)))))
theorem list_nil : Spec Tryd.prog 15 [.pointer none] [] (fun r L => r = .slice none 0 0 ∧ L = []) := by
  refine Spec.of 18 Tryd.func15 rfl rfl rfl ?_
  refine swp_seq ?_
  refine swp_region ?_
  refine s_pu (pu_assign rfl) ?_
  refine swl_sub _ (.cons (t := 0) rfl .nil) ?_
  refine swl_nil ?_
  refine then_n ?_
  refine swp_seq ?_
  refine swp_region ?_
  refine s_pu (pu_assign rfl) ?_
  refine swl_sub _ (.cons (t := 0) rfl (.cons (t := 3) rfl .nil)) ?_
  refine swl_nil ?_
  refine then_n ?_
  refine swp_seq ?_
  refine swp_seq ?_
  refine swp_region ?_
  refine s_pu (pu_move rfl) ?_
  refine s_ef (ef_fn (next_nil 0) rfl rfl (by repeat (first | exact Split.nil | (apply Split.cons; (repeat (first | with_reducible exact Take.here | apply Take.there)))))) ?_
  rintro v1 L1 ⟨rfl, rfl⟩
  refine swl_app ?_
  refine s_pu (pu_assign rfl) ?_
  refine swl_sub _ (.cons (t := 0) rfl (.cons (t := 3) rfl (.cons (t := 4) rfl .nil))) ?_
  refine swl_nil ?_
  refine then_n ?_
  refine swp_block ?_
  refine swp_loop (ι := Unit) (fun _ env L => env = [(0, .pointer none), (3, .slice none 0 0), (4, .int .i64 (-1))] ∧ L = []) (fun _ => 0) () ⟨rfl, rfl⟩ ?_
  rintro _ env L ⟨rfl, rfl⟩
  refine swp_seq ?_
  refine swp_seq ?_
  refine swp_region ?_
  refine s_pu (pu_move rfl) ?_
  refine s_pu (pu_geq rfl rfl) ?_
  refine swl_sub _ (.cons (t := 0) rfl (.cons (t := 3) rfl (.cons (t := 4) rfl (.cons (t := 8) rfl .nil)))) ?_
  refine swl_nil ?_
  refine then_n ?_
  refine swp_cond (b := _) rfl (fun h8 => absurd h8 (by decide)) (fun h8 => ?_)
  refine swp_exit ?_
  refine then_x ?_
  refine then_x ?_
  refine block_hit rfl ?_
  refine then_n ?_
  refine swp_seq ?_
  refine swp_region ?_
  refine s_pu (pu_move rfl) ?_
  refine s_pu (pu_assign rfl) ?_
  refine swl_sub _ (.cons (t := 2) rfl .nil) ?_
  refine swl_nil ?_
  refine then_n ?_
  refine swp_ret ?_
  exact done_ret _ (.tmp rfl .nil) ⟨rfl, rfl⟩ (by repeat (first | exact Split.nil | (apply Split.cons; (repeat (first | with_reducible exact Take.here | apply Take.there)))))

theorem count_step {ws : List (BitVec 64)} {i : Nat} {w : BitVec 64} (hw : ws[i]? = some w) : ((List.range (64 * (i + 1))).filter (mem ws)).length = ((List.range (64 * i)).filter (mem ws)).length + popc w := by
  rw [show 64 * (i + 1) = 64 * i + 64 by omega, List.range_add, List.filter_append, List.length_append]
  congr 1
  unfold popc
  rw [List.filter_map, List.length_map]
  congr 1
  apply List.filter_congr
  intro r hr
  have := List.mem_range.1 hr
  show mem ws (64 * i + r) = _
  rw [mem_at hw (by omega)]
  congr 1; omega
theorem popc_le (w : BitVec 64) : popc w ≤ 64 := Nat.le_trans (List.length_filter_le _ _) (by simp)
set_option maxHeartbeats 1000000 in
theorem count_o (p n : Nat) (v : Value) (ws : List (BitVec 64)) (hl : ws.length = (n + 63) / 64) (hn : n ≤ 1048576) (hS : ∀ j, n ≤ j → mem ws j = false) :
    Spec Tryd.prog 17 [.pointer (some ⟨p, 0, none⟩)] (opn p n v ws) (fun r L => r = .int .i64 ((elsTo n (mem ws)).length : Nat) ∧ L = opn p n v ws) := by
  have hend : ((List.range (64 * ws.length)).filter (mem ws)).length = (elsTo n (mem ws)).length := by
    have := elsTo_skip (S := mem ws) (k := n) (j := 64 * ws.length) (by omega) (fun i a _ => hS i a)
    have := congrArg List.length this
    simpa [elsTo, numsI] using this
  refine Spec.of 23 Tryd.func17 rfl rfl rfl ?_
  refine swp_seq ?_
  refine swp_region ?_
  refine s_pu (pu_assign rfl) ?_
  refine swl_sub _ (.cons (t := 0) rfl .nil) ?_
  refine swl_nil ?_
  refine then_n ?_
  refine swp_seq ?_
  refine swp_region ?_
  refine s_pu (pu_assign rfl) ?_
  refine swl_sub _ (.cons (t := 0) rfl (.cons (t := 3) rfl .nil)) ?_
  refine swl_nil ?_
  refine then_n ?_
  refine swp_seq ?_
  refine swp_seq ?_
  refine swp_region ?_
  refine s_pu (pu_move rfl) ?_
  refine s_pu (pu_ptr_ne_nil rfl rfl) ?_
  refine swl_sub _ (.cons (t := 0) rfl (.cons (t := 3) rfl (.cons (t := 7) rfl .nil))) ?_
  refine swl_nil ?_
  refine then_n ?_
  refine swp_cond (b := _) rfl (fun h7 => ?_) (fun h7 => by cases h7)
  refine swp_seq ?_
  refine swp_front (A := own 67 1 v ws.length (wcells ws)) (by repeat (first | with_reducible exact Take.here | apply Take.there)) ?_
  refine swp_fact (fun m h => own_form h) fun ⟨A, cap, hv⟩ => ?_
  subst hv
  refine swp_region ?_
  refine s_pu (pu_move rfl) ?_
  first | refine s_pu (pu_nilCheck rfl) ?_ | refine s_pu (pu_nilCheck_fn rfl) ?_ | refine s_pu (pu_nilCheck_if rfl) ?_
  first | refine s_pu (pu_fieldAddr0 rfl) ?_ | refine s_pu (pu_fieldAddr rfl) ?_
  refine s_rd (rd_load rfl rfl) ?_
  refine s_pu (pu_len rfl) ?_
  refine s_pu (pu_move rfl) ?_
  refine swl_sub _ (.cons (t := 3) rfl (.cons (t := 11) rfl (.cons (t := 12) rfl (.cons (t := 13) rfl .nil)))) ?_
  refine swl_nil ?_
  refine then_n ?_
  refine swp_block ?_
  refine swp_loop (ι := Nat) (fun i env L => env = [(3, .int .i64 (((List.range (64 * i)).filter (mem ws)).length : Nat)), (11, .slice A ws.length cap), (12, .int .i64 (ws.length : Nat)), (13, .int .i64 (i : Nat))] ∧ L = [own 67 1 (.slice A ws.length cap) ws.length (wcells ws), blk p 52 [.int .i64 (n : Nat), .slice A ws.length cap]] ∧ i ≤ ws.length) (fun i => ws.length - i) 0 ⟨rfl, rfl, Nat.zero_le _⟩ ?_
  rintro i env L ⟨rfl, rfl, hi⟩
  have hcl : ((List.range (64 * i)).filter (mem ws)).length ≤ 64 * i := Nat.le_trans (List.length_filter_le _ _) (by simp)
  refine swp_seq ?_
  refine swp_region ?_
  refine s_pu (pu_lss rfl rfl) ?_
  refine swl_sub _ (.cons (t := 3) rfl (.cons (t := 11) rfl (.cons (t := 12) rfl (.cons (t := 13) rfl (.cons (t := 14) rfl .nil))))) ?_
  refine swl_nil ?_
  refine then_n ?_
  refine swp_seq ?_
  refine swp_cond (b := _) rfl (fun h14 => ?_) (fun h14 => ?_)
  · skip   -- 14 T
    have h14' : i < ws.length := by have := of_decide_eq_true h14; omega
    obtain ⟨w, hw⟩ : ∃ w, ws[i]? = some w := ⟨_, List.getElem?_eq_getElem h14'⟩
    have hpc := popc_le w
    refine swp_skip ?_
    refine then_n ?_
    refine swp_seq ?_
    refine swp_block ?_
    refine swp_seq ?_
    refine swp_own (fun h0 l0 _ => by omega) (fun b cap' ex hv h1 h2 h3 h4 => ?_)
    cases hv
    refine swp_region ?_
    refine s_pu (pu_indexAddr i rfl rfl (by omega) (by omega) (by omega)) ?_
    refine s_rd (rd_load rfl (wcells_get hw)) ?_
    refine s_pu (pu_assign rfl) ?_
    refine swl_sub _ (.cons (t := 3) rfl (.cons (t := 5) rfl (.cons (t := 11) rfl (.cons (t := 12) rfl (.cons (t := 13) rfl .nil))))) ?_
    refine swl_nil ?_
    refine then_n ?_
    refine swp_region ?_
    refine s_pu (pu_move rfl) ?_
    refine s_pu (pu_move rfl) ?_
    refine s_ef (ef_fn (ones_spec w) rfl rfl (by repeat (first | exact Split.nil | (apply Split.cons; (repeat (first | with_reducible exact Take.here | apply Take.there)))))) ?_
    rintro v1 L1 ⟨rfl, rfl⟩
    refine swl_app ?_
    refine s_pu (pu_add_as ((((List.range (64 * (i + 1))).filter (mem ws)).length : Nat) : Int) rfl rfl (by rw [count_step hw]; omega) (by omega) (by rw [count_step hw]; omega)) ?_
    refine s_pu (pu_assign rfl) ?_
    refine swl_sub _ (.cons (t := 3) rfl (.cons (t := 11) rfl (.cons (t := 12) rfl (.cons (t := 13) rfl .nil)))) ?_
    refine swl_nil ?_
    refine block_n ?_
    refine then_n ?_
    refine swp_region ?_
    refine s_pu (pu_add_as ((i + 1 : Nat) : Int) rfl rfl (by omega) (by omega) (by omega)) ?_
    refine s_pu (pu_move rfl) ?_
    refine swl_sub _ (.cons (t := 3) rfl (.cons (t := 11) rfl (.cons (t := 12) rfl (.cons (t := 13) rfl .nil)))) ?_
    refine swl_ent ((Split.ent' (K := [blk b 67 (wcells ws ++ ex), blk p 52 [.int .i64 (n : Nat), .slice (some ⟨b, 0, none⟩) ws.length cap]]) (by repeat (first | exact Split.nil | (apply Split.cons; (repeat (first | with_reducible exact Take.here | apply Take.there)))))).trans (wown_close h1 h2 h4)) ?_
    refine swl_nil ?_
    exact then_n ⟨i + 1, ⟨rfl, rfl, h14'⟩, by omega⟩
  · skip   -- 14 F
    have hin : i = ws.length := by have := of_decide_eq_false h14; omega
    subst hin
    rw [hend]
    refine swp_exit ?_
    refine then_x ?_
    refine then_x ?_
    refine block_hit rfl ?_
    refine then_n ?_
    refine swp_seq ?_
    refine swp_region ?_
    refine s_pu (pu_move rfl) ?_
    refine s_pu (pu_assign rfl) ?_
    refine swl_sub _ (.cons (t := 2) rfl .nil) ?_
    refine swl_nil ?_
    refine then_n ?_
    refine swp_ret ?_
    exact done_ret (opn p n _ ws) (.tmp rfl .nil) ⟨rfl, rfl⟩ (by repeat (first | exact Split.nil | (apply Split.cons; (repeat (first | with_reducible exact Take.here | apply Take.there)))))
theorem count_nil : Spec Tryd.prog 17 [.pointer none] [] (fun r L => r = .int .i64 0 ∧ L = []) := by
  refine Spec.of 23 Tryd.func17 rfl rfl rfl ?_
  refine swp_seq ?_
  refine swp_region ?_
  refine s_pu (pu_assign rfl) ?_
  refine swl_sub _ (.cons (t := 0) rfl .nil) ?_
  refine swl_nil ?_
  refine then_n ?_
  refine swp_seq ?_
  refine swp_region ?_
  refine s_pu (pu_assign rfl) ?_
  refine swl_sub _ (.cons (t := 0) rfl (.cons (t := 3) rfl .nil)) ?_
  refine swl_nil ?_
  refine then_n ?_
  refine swp_seq ?_
  refine swp_seq ?_
  refine swp_region ?_
  refine s_pu (pu_move rfl) ?_
  refine s_pu (pu_ptr_ne_nil rfl rfl) ?_
  refine swl_sub _ (.cons (t := 0) rfl (.cons (t := 3) rfl (.cons (t := 7) rfl .nil))) ?_
  refine swl_nil ?_
  refine then_n ?_
  refine swp_cond (b := _) rfl (fun h7 => by cases h7) (fun h7 => ?_)
  refine swp_skip ?_
  refine then_n ?_
  refine swp_seq ?_
  refine swp_region ?_
  refine s_pu (pu_move rfl) ?_
  refine s_pu (pu_assign rfl) ?_
  refine swl_sub _ (.cons (t := 2) rfl .nil) ?_
  refine swl_nil ?_
  refine then_n ?_
  refine swp_ret ?_
  exact done_ret _ (.tmp rfl .nil) ⟨rfl, rfl⟩ (by repeat (first | exact Split.nil | (apply Split.cons; (repeat (first | with_reducible exact Take.here | apply Take.there)))))
end SX
