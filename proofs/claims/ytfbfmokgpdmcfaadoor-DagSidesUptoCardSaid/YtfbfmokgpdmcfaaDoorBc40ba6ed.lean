/- A part of the proof: walks of the program's functions, and the rules by which they go. -/
import Derived.Test.YtfbfmokgpdmcfaaDoorB7b2bb6f0
namespace SX
open Go Go.Proofs

def stepDn (g : List (List Int)) (c : Nat) (S : Nat → Bool) : Nat → Bool := fun j => S j || (decide (j = c) && (rowOf g c).any fun p => S p.toNat)
/-- d rows from c on -/
def dnF (g : List (List Int)) (S : Nat → Bool) (c : Nat) : Nat → (Nat → Bool)
  | 0 => S
  | d + 1 => stepDn g (c + d) (dnF g S c d)
def dn (g : List (List Int)) (a : Nat) : Nat → Bool := dnF g (fun j => decide (j = a)) (a + 1) (g.length - (a + 1))
def desL (g : List (List Int)) (a : Int) : List Int := if askE g a a = 0 then elsTo g.length (dn g a.toNat) else []
def heaL (g : List (List Int)) : List Int := if chkFrom 0 g = 0 then elsTo g.length (bestT g (fun j => decide (j < g.length)) g.length) else []
def heaE (g : List (List Int)) : Int := if chkFrom 0 g = 0 then 0 else 1

set_option maxHeartbeats 1000000 in
theorem rdesc_spec (μ : PH) (v : Value) (G : List (Value × List Int)) (a : Int) (hG : Graph μ v G) (hbig : G.length ≤ 1099511627776) : Spec Tryd.prog 72 [v, .int .i64 a] [ro μ] (Ans μ (askE (nums G) a a) (desL (nums G) a)) := by
  have hln : (nums G).length = G.length := List.length_map _
  refine Spec.of 55 Tryd.func72 rfl rfl rfl ?_
  refine swp_seq ?_
  refine swp_region ?_
  refine s_pu (pu_assign rfl) ?_
  refine s_pu (pu_assign rfl) ?_
  refine swl_sub _ (.cons (t := 0) rfl (.cons (t := 1) rfl .nil)) ?_
  refine swl_nil ?_
  refine then_n ?_
  refine swp_seq ?_
  refine swp_region ?_
  refine s_pu (pu_move rfl) ?_
  refine s_pu (pu_move rfl) ?_
  refine s_pu (pu_move rfl) ?_
  refine s_ef (ef_fn (rask_spec μ v G a a hG hbig) rfl rfl (by repeat (first | exact Split.nil | (apply Split.cons; (repeat (first | with_reducible exact Take.here | apply Take.there)))))) ?_
  rintro v1 L1 ⟨rfl, rfl⟩
  refine swl_app ?_
  refine s_pu (pu_assign rfl) ?_
  refine swl_sub _ (.cons (t := 0) rfl (.cons (t := 1) rfl (.cons (t := 6) rfl .nil))) ?_
  refine swl_nil ?_
  refine then_n ?_
  refine swp_seq ?_
  refine swp_seq ?_
  refine swp_region ?_
  refine s_pu (pu_move rfl) ?_
  refine s_pu (pu_neq rfl rfl) ?_
  refine swl_sub _ (.cons (t := 0) rfl (.cons (t := 1) rfl (.cons (t := 6) rfl (.cons (t := 15) rfl .nil)))) ?_
  refine swl_nil ?_
  refine then_n ?_
  refine swp_cond (b := _) rfl (fun h15 => ?_) (fun h15 => ?_)
  · skip   -- 15 T
    refine swp_seq ?_
    refine swp_region ?_
    refine s_pu (pu_move rfl) ?_
    refine s_pu (pu_assign rfl) ?_
    refine s_pu (pu_assign rfl) ?_
    refine swl_sub _ (.cons (t := 4) rfl (.cons (t := 5) rfl .nil)) ?_
    refine swl_nil ?_
    refine then_n ?_
    refine swp_ret ?_
    refine then_r ?_
    have h0 : ¬ askE (nums G) a a = 0 := by simpa using h15
    refine done_retE (own 3 1 (.slice none 0 0) 0 [] :: [ro μ]) (.tmp rfl (.tmp rfl .nil)) ⟨.slice none 0 0, rfl, by unfold desL; rw [if_neg h0]; rfl⟩ own_nil_ent
  · skip   -- 15 F
    have h0 : askE (nums G) a a = 0 := by simpa using h15
    obtain ⟨hg, ia, -, rfl, -, hi, -⟩ := askE_ok h0
    rw [hln] at hi
    obtain ⟨gb, off, cap, hv, c1, c2, hr⟩ := hG.1.pos (by omega)
    subst hv
    have hrow := graph_rows hG hg hr
    refine swp_skip ?_
    refine then_n ?_
    refine swp_seq ?_
    refine swp_region ?_
    refine s_pu (pu_move rfl) ?_
    refine s_pu (pu_len_row hG.1 rfl) ?_
    refine s_ef (ef_make1 G.length rfl rfl rfl (by omega) (by simp only [maxLen]; omega)) ?_
    rintro b10
    skip
    refine s_pu (pu_assign rfl) ?_
    refine swl_sub _ (.cons (t := 0) rfl (.cons (t := 1) rfl (.cons (t := 7) rfl .nil))) ?_
    refine swl_nil ?_
    refine then_n ?_
    refine swp_seq ?_
    refine swp_region ?_
    refine s_pu (pu_move rfl) ?_
    refine s_pu (pu_move rfl) ?_
    refine s_pu (pu_indexAddr ia rfl rfl (by omega) (by omega) (by omega)) ?_
    refine s_ef0 (ef_storeP rfl rfl rfl (by rw [List.length_replicate]; omega)) ?_
    refine swl_sub _ (.cons (t := 0) rfl (.cons (t := 1) rfl (.cons (t := 7) rfl .nil))) ?_
    rw [rbs_false, rbs_set (T := fun j => decide (j = ia)) (fun j hj => by by_cases h : j = ia <;> simp [h])]
    refine swl_nil ?_
    refine then_n ?_
    refine swp_seq ?_
    refine swp_seq ?_
    refine swp_region ?_
    refine s_pu (pu_move rfl) ?_
    refine s_pu (pu_add_as ((ia + 1 + 0 : Nat) : Int) rfl rfl (by omega) (by omega) (by omega)) ?_
    refine s_pu (pu_assign rfl) ?_
    refine swl_sub _ (.cons (t := 0) rfl (.cons (t := 7) rfl (.cons (t := 8) rfl .nil))) ?_
    refine swl_nil ?_
    refine then_n ?_
    refine swp_block ?_
    refine swp_loop (ι := Nat) (fun d env L => env = [(0, .slice (some ⟨gb, off, none⟩) G.length cap), (7, .slice (some ⟨b10, 0, none⟩) G.length G.length), (8, .int .i64 ((ia + 1 + d : Nat) : Int))] ∧ L = [blk b10 4 (rbs G.length (dnF (nums G) (fun j => decide (j = ia)) (ia + 1) d)), ro μ] ∧ ia + 1 + d ≤ G.length) (fun d => G.length - d) 0 ⟨rfl, rfl, by omega⟩ ?_
    rintro d env L ⟨rfl, rfl, hd⟩
    refine swp_seq ?_
    refine swp_seq ?_
    refine swp_region ?_
    refine s_pu (pu_move rfl) ?_
    refine s_pu (pu_move rfl) ?_
    refine s_pu (pu_len_row hG.1 rfl) ?_
    refine s_pu (pu_lss rfl rfl) ?_
    refine swl_sub _ (.cons (t := 0) rfl (.cons (t := 7) rfl (.cons (t := 8) rfl (.cons (t := 28) rfl .nil)))) ?_
    refine swl_nil ?_
    refine then_n ?_
    refine swp_cond (b := _) rfl (fun h28 => ?_) (fun h28 => ?_)
    · skip   -- 28 T
      have h28' : ia + 1 + d < G.length := by have := of_decide_eq_true h28; omega
      obtain ⟨x, hx, hxc, hxr, hxo, hxg⟩ := hrow (ia + 1 + d) h28'
      have hxs := hxr.small
      obtain ⟨S, hS⟩ : ∃ S, S = dnF (nums G) (fun j => decide (j = ia)) (ia + 1) d := ⟨_, rfl⟩
      have hS1 : dnF (nums G) (fun j => decide (j = ia)) (ia + 1) (d + 1) = stepDn (nums G) (ia + 1 + d) S := by rw [hS]; rfl
      rw [← hS]
      generalize hc : ia + 1 + d = c at *
      refine swp_skip ?_
      refine then_n ?_
      refine swp_seq ?_
      refine swp_block ?_
      refine swp_seq ?_
      refine swp_region ?_
      refine s_pu (pu_assign rfl) ?_
      refine swl_sub _ (.cons (t := 0) rfl (.cons (t := 7) rfl (.cons (t := 8) rfl (.cons (t := 9) rfl .nil)))) ?_
      refine swl_nil ?_
      refine then_n ?_
      refine swp_block ?_
      have e0 : rbs G.length S = rbs G.length (fun j => S j || (decide (j = c) && (x.2.take 0).any fun p => S p.toNat)) := rbs_ext fun j _ => by simp
      rw [e0]
      refine swp_loop (ι := Nat) (fun i env L => env = [(0, .slice (some ⟨gb, off, none⟩) G.length cap), (7, .slice (some ⟨b10, 0, none⟩) G.length G.length), (8, .int .i64 (c : Nat)), (9, .int .i64 (i : Nat))] ∧ L = [blk b10 4 (rbs G.length (fun j => S j || (decide (j = c) && (x.2.take i).any fun p => S p.toNat))), ro μ] ∧ i ≤ x.2.length) (fun i => x.2.length - i) 0 ⟨rfl, rfl, Nat.zero_le _⟩ ?_
      rintro i env L ⟨rfl, rfl, hi2⟩
      refine swp_seq ?_
      refine swp_seq ?_
      refine swp_region ?_
      refine s_pu (pu_move rfl) ?_
      refine s_pu (pu_move rfl) ?_
      refine s_pu (pu_move rfl) ?_
      refine s_pu (pu_indexAddr (off + c * 1) rfl rfl (by omega) (by omega) (by rw [Int.toNat_natCast])) ?_
      refine s_rd (rd_ro rfl hxc) ?_
      refine s_pu (pu_len_row hxr rfl) ?_
      refine s_pu (pu_lss rfl rfl) ?_
      refine swl_sub _ (.cons (t := 0) rfl (.cons (t := 7) rfl (.cons (t := 8) rfl (.cons (t := 9) rfl (.cons (t := 37) rfl .nil))))) ?_
      refine swl_nil ?_
      refine then_n ?_
      refine swp_cond (b := _) rfl (fun h37 => ?_) (fun h37 => ?_)
      · skip   -- 37 T
        have h37' : i < x.2.length := by have := of_decide_eq_true h37; omega
        obtain ⟨pb, poff, pcap, hpv, p1, p2, hpr⟩ := hxr.pos (by omega)
        obtain ⟨p, hp⟩ : ∃ p, x.2[i]? = some p := ⟨_, List.getElem?_eq_getElem h37'⟩
        have hpk := hpr.elem (icsk_len .i64) hp
        have hpg := hxg p (List.mem_of_getElem? hp)
        obtain ⟨k, rfl⟩ : ∃ k : Nat, p = k := ⟨p.toNat, by omega⟩
        have hkc : k ≠ c := by omega
        have hget : (rbs G.length (fun j => S j || (decide (j = c) && (x.2.take i).any fun p => S p.toNat)))[k]? = some (.bool (S k)) := by
          rw [rbs_get _ (by omega), decide_eq_false hkc, Bool.false_and, Bool.or_false]
        refine swp_skip ?_
        refine then_n ?_
        refine swp_seq ?_
        refine swp_block ?_
        refine swp_seq ?_
        refine swp_region ?_
        refine s_pu (pu_move rfl) ?_
        refine s_pu (pu_move rfl) ?_
        refine s_pu (pu_move rfl) ?_
        refine s_pu (pu_indexAddr (off + c * 1) rfl rfl (by omega) (by omega) (by rw [Int.toNat_natCast])) ?_
        refine s_rd (rd_ro rfl (hpv ▸ hxc)) ?_
        refine s_pu (pu_move rfl) ?_
        refine s_pu (pu_indexAddr (poff + i * 1) rfl rfl (by omega) (by omega) (by rw [Int.toNat_natCast])) ?_
        refine s_rd (rd_ro rfl hpk.cell) ?_
        refine s_pu (pu_indexAddr k rfl rfl (by omega) (by omega) (by omega)) ?_
        refine s_rd (rd_load rfl hget) ?_
        refine swl_sub _ (.cons (t := 0) rfl (.cons (t := 7) rfl (.cons (t := 8) rfl (.cons (t := 9) rfl (.cons (t := 49) rfl .nil))))) ?_
        refine swl_nil ?_
        refine then_n ?_
        refine swp_cond (b := _) rfl (fun h49 => ?_) (fun h49 => ?_)
        · skip   -- 49 T
          refine swp_region ?_
          refine s_pu (pu_move rfl) ?_
          refine s_pu (pu_move rfl) ?_
          refine s_pu (pu_indexAddr c rfl rfl (by omega) (by omega) (by omega)) ?_
          refine s_ef0 (ef_storeP rfl rfl rfl (by rw [rbs_len]; omega)) ?_
          refine swl_sub _ (.cons (t := 0) rfl (.cons (t := 7) rfl (.cons (t := 8) rfl (.cons (t := 9) rfl .nil)))) ?_
          rw [rbs_set (T := fun j => S j || (decide (j = c) && (x.2.take (i + 1)).any fun p => S p.toNat)) (fun y hy => by
            rw [List.take_add_one, hp]
            by_cases e : y = c
            · subst e; simp [h49]
            · simp [e])]
          refine swl_nil ?_
          refine block_n ?_
          refine then_n ?_
          refine swp_region ?_
          refine s_pu (pu_move rfl) ?_
          refine s_pu (pu_add_as ((i + 1 : Nat) : Int) rfl rfl (by omega) (by omega) (by omega)) ?_
          refine s_pu (pu_assign rfl) ?_
          refine swl_sub _ (.cons (t := 0) rfl (.cons (t := 7) rfl (.cons (t := 8) rfl (.cons (t := 9) rfl .nil)))) ?_
          refine swl_nil ?_
          exact then_n ⟨i + 1, ⟨rfl, rfl, h37'⟩, by omega⟩
        · skip   -- 49 F
          have e1 : rbs G.length (fun j => S j || (decide (j = c) && (x.2.take i).any fun p => S p.toNat)) = rbs G.length (fun j => S j || (decide (j = c) && (x.2.take (i + 1)).any fun p => S p.toNat)) := rbs_ext fun j _ => by
            rw [List.take_add_one, hp]; simp [h49]
          rw [e1]
          refine swp_skip ?_
          refine block_n ?_
          refine then_n ?_
          refine swp_region ?_
          refine s_pu (pu_move rfl) ?_
          refine s_pu (pu_add_as ((i + 1 : Nat) : Int) rfl rfl (by omega) (by omega) (by omega)) ?_
          refine s_pu (pu_assign rfl) ?_
          refine swl_sub _ (.cons (t := 0) rfl (.cons (t := 7) rfl (.cons (t := 8) rfl (.cons (t := 9) rfl .nil)))) ?_
          refine swl_nil ?_
          exact then_n ⟨i + 1, ⟨rfl, rfl, h37'⟩, by omega⟩
      · skip   -- 37 F
        have h37' := of_decide_eq_false h37
        obtain rfl : i = x.2.length := by omega
        have e1 : rbs G.length (fun j => S j || (decide (j = c) && (x.2.take x.2.length).any fun p => S p.toNat)) = rbs G.length (dnF (nums G) (fun j => decide (j = ia)) (ia + 1) (d + 1)) := rbs_ext fun j _ => by
          rw [hS1]; unfold stepDn; rw [hxo, List.take_length]
        rw [e1]
        refine swp_exit ?_
        refine then_x ?_
        refine then_x ?_
        refine block_hit rfl ?_
        refine block_n ?_
        refine then_n ?_
        refine swp_region ?_
        refine s_pu (pu_move rfl) ?_
        refine s_pu (pu_add_as ((ia + 1 + (d + 1) : Nat) : Int) rfl rfl (by omega) (by omega) (by omega)) ?_
        refine s_pu (pu_assign rfl) ?_
        refine swl_sub _ (.cons (t := 0) rfl (.cons (t := 7) rfl (.cons (t := 8) rfl .nil))) ?_
        refine swl_nil ?_
        exact then_n ⟨d + 1, ⟨rfl, rfl, by omega⟩, by omega⟩
    · skip   -- 28 F
      have h28' := of_decide_eq_false h28
      have e1 : dnF (nums G) (fun j => decide (j = ia)) (ia + 1) d = dn (nums G) ia := by unfold dn; rw [hln, show G.length - (ia + 1) = d by omega]
      rw [e1]
      refine swp_exit ?_
      refine then_x ?_
      refine then_x ?_
      refine block_hit rfl ?_
      refine then_n ?_
      refine swp_seq ?_
      refine swp_region ?_
      refine s_pu (pu_move rfl) ?_
      refine s_ef (ef_fn (rlistb_spec b10 G.length _ hbig) rfl rfl (by repeat (first | exact Split.nil | (apply Split.cons; (repeat (first | with_reducible exact Take.here | apply Take.there)))))) ?_
      rintro v2 L1 rfl
      refine swl_app ?_
      refine s_pu (pu_assign rfl) ?_
      refine s_pu (pu_assign rfl) ?_
      refine swl_sub _ (.cons (t := 4) rfl (.cons (t := 5) rfl .nil)) ?_
      refine swl_nil ?_
      refine then_n ?_
      refine swp_ret ?_
      refine done_ret [own 3 1 v2 (elsTo G.length (dn (nums G) ia)).length ((elsTo G.length (dn (nums G) ia)).flatMap (icsk .i64)), ro μ] (.tmp rfl (.tmp rfl .nil)) ⟨v2, by rw [h0]; rfl, by unfold desL; rw [if_pos h0, hln, Int.toNat_natCast]⟩ (by repeat (first | exact Split.nil | (apply Split.cons; (repeat (first | with_reducible exact Take.here | apply Take.there)))))
theorem rheads_spec (μ : PH) (v : Value) (G : List (Value × List Int)) (hG : Graph μ v G) (hbig : G.length ≤ 1099511627776) : Spec Tryd.prog 77 [v] [ro μ] (Ans μ (heaE (nums G)) (heaL (nums G))) := by
  have hln : (nums G).length = G.length := List.length_map _
  obtain ⟨A, cap, hv⟩ := hG.1.form'
  subst hv
  refine Spec.of 24 Tryd.func77 rfl rfl rfl ?_
  refine swp_seq ?_
  refine swp_region ?_
  refine s_pu (pu_assign rfl) ?_
  refine s_pu (pu_assign rfl) ?_
  refine swl_sub _ (.cons (t := 0) rfl .nil) ?_
  refine swl_nil ?_
  refine then_n ?_
  refine swp_seq ?_
  refine swp_seq ?_
  refine swp_region ?_
  refine s_pu (pu_move rfl) ?_
  refine s_ef (ef_fn (rcheck_spec μ _ G hG hbig) rfl rfl (by repeat (first | exact Split.nil | (apply Split.cons; (repeat (first | with_reducible exact Take.here | apply Take.there)))))) ?_
  rintro v1 L1 ⟨rfl, rfl⟩
  refine swl_app ?_
  refine s_pu (pu_neq rfl rfl) ?_
  refine swl_sub _ (.cons (t := 0) rfl (.cons (t := 8) rfl .nil)) ?_
  refine swl_nil ?_
  refine then_n ?_
  refine swp_cond (b := _) rfl (fun h8 => ?_) (fun h8 => ?_)
  · skip   -- 8 T
    refine swp_seq ?_
    refine swp_region ?_
    refine s_pu (pu_assign rfl) ?_
    refine s_pu (pu_assign rfl) ?_
    refine swl_sub _ (.cons (t := 2) rfl (.cons (t := 3) rfl .nil)) ?_
    refine swl_nil ?_
    refine then_n ?_
    refine swp_ret ?_
    refine then_r ?_
    have h0 : ¬ chkFrom 0 (nums G) = 0 := by simpa using h8
    refine done_retE (own 3 1 (.slice none 0 0) 0 [] :: [ro μ]) (.tmp rfl (.tmp rfl .nil)) ⟨.slice none 0 0, by unfold heaE; rw [if_neg h0]; rfl, by unfold heaL; rw [if_neg h0]; rfl⟩ own_nil_ent
  · skip   -- 8 F
    have h0 : chkFrom 0 (nums G) = 0 := by simpa using h8
    have hg := chk_good h0
    refine swp_skip ?_
    refine then_n ?_
    refine swp_seq ?_
    refine swp_region ?_
    refine s_pu (pu_move rfl) ?_
    refine s_pu (pu_len_row hG.1 rfl) ?_
    refine s_ef (ef_make1 G.length rfl rfl rfl (by omega) (by simp only [maxLen]; omega)) ?_
    rintro b10
    skip
    refine s_pu (pu_assign rfl) ?_
    refine swl_sub _ (.cons (t := 0) rfl (.cons (t := 4) rfl .nil)) ?_
    refine swl_nil ?_
    refine then_n ?_
    refine swp_seq ?_
    refine swp_seq ?_
    refine swp_region ?_
    refine s_pu (pu_assign rfl) ?_
    refine swl_sub _ (.cons (t := 0) rfl (.cons (t := 4) rfl (.cons (t := 5) rfl .nil))) ?_
    rw [rbs_false, rbs_ext (S := fun _ => false) (T := fun j => decide (j < 0)) (fun j _ => by simp)]
    refine swl_nil ?_
    refine then_n ?_
    refine swp_block ?_
    refine swp_loop (ι := Nat) (fun i env L => env = [(0, .slice A G.length cap), (4, .slice (some ⟨b10, 0, none⟩) G.length G.length), (5, .int .i64 (i : Nat))] ∧ L = [blk b10 4 (rbs G.length (fun j => decide (j < i))), ro μ] ∧ i ≤ G.length) (fun i => G.length - i) 0 ⟨rfl, rfl, Nat.zero_le _⟩ ?_
    rintro i env L ⟨rfl, rfl, hi⟩
    refine swp_seq ?_
    refine swp_seq ?_
    refine swp_region ?_
    refine s_pu (pu_move rfl) ?_
    refine s_pu (pu_move rfl) ?_
    refine s_pu (pu_len rfl) ?_
    refine s_pu (pu_lss rfl rfl) ?_
    refine swl_sub _ (.cons (t := 0) rfl (.cons (t := 4) rfl (.cons (t := 5) rfl (.cons (t := 15) rfl .nil)))) ?_
    refine swl_nil ?_
    refine then_n ?_
    refine swp_cond (b := _) rfl (fun h15 => ?_) (fun h15 => ?_)
    · skip   -- 15 T
      have h15' : i < G.length := by have := of_decide_eq_true h15; omega
      refine swp_skip ?_
      refine then_n ?_
      refine swp_seq ?_
      refine swp_block ?_
      refine swp_region ?_
      refine s_pu (pu_move rfl) ?_
      refine s_pu (pu_move rfl) ?_
      refine s_pu (pu_indexAddr i rfl rfl (by omega) (by omega) (by omega)) ?_
      refine s_ef0 (ef_storeP rfl rfl rfl (by rw [rbs_len]; omega)) ?_
      refine swl_sub _ (.cons (t := 0) rfl (.cons (t := 4) rfl (.cons (t := 5) rfl .nil))) ?_
      rw [rbs_set (T := fun j => decide (j < i + 1)) (fun y hy => by
        by_cases e : y = i
        · subst e; simp
        · simp [e]; omega)]
      refine swl_nil ?_
      refine block_n ?_
      refine then_n ?_
      refine swp_region ?_
      refine s_pu (pu_move rfl) ?_
      refine s_pu (pu_add_as ((i + 1 : Nat) : Int) rfl rfl (by omega) (by omega) (by omega)) ?_
      refine s_pu (pu_assign rfl) ?_
      refine swl_sub _ (.cons (t := 0) rfl (.cons (t := 4) rfl (.cons (t := 5) rfl .nil))) ?_
      refine swl_nil ?_
      exact then_n ⟨i + 1, ⟨rfl, rfl, h15'⟩, by omega⟩
    · skip   -- 15 F
      have h15' := of_decide_eq_false h15
      obtain rfl : i = G.length := by omega
      refine swp_exit ?_
      refine then_x ?_
      refine then_x ?_
      refine block_hit rfl ?_
      refine then_n ?_
      refine swp_seq ?_
      refine swp_region ?_
      refine s_pu (pu_move rfl) ?_
      refine s_pu (pu_move rfl) ?_
      refine s_ef (ef_fn (rbest_spec μ A cap b10 G _ hG hbig hg) rfl rfl (by repeat (first | exact Split.nil | (apply Split.cons; (repeat (first | with_reducible exact Take.here | apply Take.there)))))) ?_
      rintro v2 L1 rfl
      refine swl_app ?_
      refine s_pu (pu_assign rfl) ?_
      refine s_pu (pu_assign rfl) ?_
      refine swl_sub _ (.cons (t := 2) rfl (.cons (t := 3) rfl .nil)) ?_
      refine swl_nil ?_
      refine then_n ?_
      refine swp_ret ?_
      refine done_ret [own 3 1 v2 (elsTo G.length (bestT (nums G) (fun j => decide (j < G.length)) G.length)).length ((elsTo G.length (bestT (nums G) (fun j => decide (j < G.length)) G.length)).flatMap (icsk .i64)), ro μ] (.tmp rfl (.tmp rfl .nil)) ⟨v2, by unfold heaE; rw [if_pos h0]; rfl, by unfold heaL; rw [if_pos h0, hln]⟩ (by repeat (first | exact Split.nil | (apply Split.cons; (repeat (first | with_reducible exact Take.here | apply Take.there)))))
end SX
namespace SX
open Go Go.Proofs

/-- a set of a graph's commits: one part -/
abbrev bset (bb : Nat) (ex : List Value) (p n : Nat) (S : Nat → Bool) : List Assn := [blk bb 25 (.pointer (some ⟨p, 0, none⟩) :: ex), mset p n S]
theorem bput_spec (bb c : Nat) (ex : List Value) (p n : Nat) (S : Nat → Bool) (k : Nat) (hk : k < n) (hn : n ≤ 1048576) : Spec Tryd.prog 69 [.slice (some ⟨bb, 0, none⟩) 1 c, .int .i64 (k : Nat)] [blk bb 25 (.pointer (some ⟨p, 0, none⟩) :: ex), mset p n S]
    (fun r L => r = .tuple #[] ∧ L = [blk bb 25 (.pointer (some ⟨p, 0, none⟩) :: ex), mset p n (fun j => S j || decide (j = k))]) := by
  have hp : Spec Tryd.prog 31 [.pointer (some ⟨p, 0, none⟩), .int .i64 (k : Nat)] [mset p n S] (fun r L => L = [mset p n (fun j => S j || decide (j = k))]) := by
    refine Spec.mono (put_m p n S k) ?_
    rintro r L ⟨_, rfl⟩
    congr 2
    funext j
    rw [Int.toNat_natCast, decide_eq_true (show (0 : Int) ≤ k ∧ (k : Int) < n by omega), Bool.true_and]
  refine Spec.of 12 Tryd.func69 rfl rfl rfl ?_
  refine swp_region ?_
  refine s_pu (pu_move rfl) ?_
  refine s_pu (pu_move rfl) ?_
  refine s_pu (pu_quo_as ((0 : Nat) : Int) rfl rfl (by omega) (by omega) (by omega) (by omega)) ?_
  refine s_pu (pu_indexAddr 0 rfl rfl (by omega) (by omega) (by omega)) ?_
  refine s_rd (rd_load rfl rfl) ?_
  refine s_pu (pu_move rfl) ?_
  refine s_pu (pu_rem_as ((k : Nat) : Int) rfl rfl (by omega) (by omega) (by omega)) ?_
  refine s_ef (ef_fn hp rfl rfl (by repeat (first | exact Split.nil | (apply Split.cons; (repeat (first | with_reducible exact Take.here | apply Take.there)))))) ?_
  rintro v1 L1 rfl
  refine swl_app ?_
  refine swl_sub _ .nil ?_
  refine swl_nil ?_
  exact done_end [blk bb 25 (.pointer (some ⟨p, 0, none⟩) :: ex), mset p n (fun j => S j || decide (j = k))] .nil ⟨rfl, rfl⟩ (by repeat (first | exact Split.nil | (apply Split.cons; (repeat (first | with_reducible exact Take.here | apply Take.there)))))
theorem bhas_spec (bb c : Nat) (ex : List Value) (p n : Nat) (S : Nat → Bool) (k : Nat) (hk : k < n) (hn : n ≤ 1048576) : Spec Tryd.prog 64 [.slice (some ⟨bb, 0, none⟩) 1 c, .int .i64 (k : Nat)] [blk bb 25 (.pointer (some ⟨p, 0, none⟩) :: ex), mset p n S]
    (fun r L => r = .bool (S k) ∧ L = [blk bb 25 (.pointer (some ⟨p, 0, none⟩) :: ex), mset p n S]) := by
  refine Spec.of 13 Tryd.func64 rfl rfl rfl ?_
  refine swp_seq ?_
  refine swp_region ?_
  refine s_pu (pu_assign rfl) ?_
  refine swl_sub _ (.cons (t := 0) rfl (.cons (t := 1) rfl .nil)) ?_
  refine swl_nil ?_
  refine then_n ?_
  refine swp_seq ?_
  refine swp_region ?_
  refine s_pu (pu_move rfl) ?_
  refine s_pu (pu_move rfl) ?_
  refine s_pu (pu_quo_as ((0 : Nat) : Int) rfl rfl (by omega) (by omega) (by omega) (by omega)) ?_
  refine s_pu (pu_indexAddr 0 rfl rfl (by omega) (by omega) (by omega)) ?_
  refine s_rd (rd_load rfl rfl) ?_
  refine s_pu (pu_move rfl) ?_
  refine s_pu (pu_rem_as ((k : Nat) : Int) rfl rfl (by omega) (by omega) (by omega)) ?_
  refine s_ef (ef_fn (has_c p n S k _ rfl) rfl rfl (by repeat (first | exact Split.nil | (apply Split.cons; (repeat (first | with_reducible exact Take.here | apply Take.there)))))) ?_
  rintro v1 L1 ⟨rfl, rfl⟩
  refine swl_app ?_
  refine s_pu (pu_assign rfl) ?_
  refine swl_sub _ (.cons (t := 4) rfl .nil) ?_
  refine swl_nil ?_
  refine then_n ?_
  refine swp_ret ?_
  exact done_ret [blk bb 25 (.pointer (some ⟨p, 0, none⟩) :: ex), mset p n S] (.tmp rfl .nil) ⟨rfl, rfl⟩ (by repeat (first | exact Split.nil | (apply Split.cons; (repeat (first | with_reducible exact Take.here | apply Take.there)))))
theorem bdrop_spec (bb c : Nat) (ex : List Value) (p n : Nat) (S : Nat → Bool) (k : Nat) (hk : k < n) (hn : n ≤ 1048576) : Spec Tryd.prog 82 [.slice (some ⟨bb, 0, none⟩) 1 c, .int .i64 (k : Nat)] [blk bb 25 (.pointer (some ⟨p, 0, none⟩) :: ex), mset p n S]
    (fun r L => r = .tuple #[] ∧ L = [blk bb 25 (.pointer (some ⟨p, 0, none⟩) :: ex), mset p n (fun j => S j && !decide (j = k))]) := by
  have hp : Spec Tryd.prog 32 [.pointer (some ⟨p, 0, none⟩), .int .i64 (k : Nat)] [mset p n S] (fun r L => L = [mset p n (fun j => S j && !decide (j = k))]) := by
    refine Spec.mono (drop_m p n S k) ?_
    rintro r L ⟨_, rfl⟩
    have e : (fun j => S j && !(decide ((0 : Int) ≤ (k : Nat)) && decide (j = ((k : Nat) : Int).toNat))) = fun j => S j && !decide (j = k) := by
      funext j
      rw [Int.toNat_natCast, decide_eq_true (show (0 : Int) ≤ k by omega), Bool.true_and]
    rw [e]
  refine Spec.of 12 Tryd.func82 rfl rfl rfl ?_
  refine swp_region ?_
  refine s_pu (pu_move rfl) ?_
  refine s_pu (pu_move rfl) ?_
  refine s_pu (pu_quo_as ((0 : Nat) : Int) rfl rfl (by omega) (by omega) (by omega) (by omega)) ?_
  refine s_pu (pu_indexAddr 0 rfl rfl (by omega) (by omega) (by omega)) ?_
  refine s_rd (rd_load rfl rfl) ?_
  refine s_pu (pu_move rfl) ?_
  refine s_pu (pu_rem_as ((k : Nat) : Int) rfl rfl (by omega) (by omega) (by omega)) ?_
  refine s_ef (ef_fn hp rfl rfl (by repeat (first | exact Split.nil | (apply Split.cons; (repeat (first | with_reducible exact Take.here | apply Take.there)))))) ?_
  rintro v1 L1 rfl
  refine swl_app ?_
  refine swl_sub _ .nil ?_
  refine swl_nil ?_
  exact done_end [blk bb 25 (.pointer (some ⟨p, 0, none⟩) :: ex), mset p n (fun j => S j && !decide (j = k))] .nil ⟨rfl, rfl⟩ (by repeat (first | exact Split.nil | (apply Split.cons; (repeat (first | with_reducible exact Take.here | apply Take.there)))))
end SX
namespace SX
open Go Go.Proofs

def pts (ps : List Nat) : List Value := ps.map fun p => .pointer (some ⟨p, 0, none⟩)
def msets (n : Nat) (S : Nat → Bool) (ps : List Nat) : List Assn := ps.map fun p => mset p n S
theorem newbits_spec (n : Nat) (h0 : 0 < n) (hn : n ≤ 1048576) : Spec Tryd.prog 68 [.int .i64 (n : Nat)] []
    (fun r L => ∃ bb c ex p, r = .slice (some ⟨bb, 0, none⟩) 1 c ∧ L = [blk bb 25 (.pointer (some ⟨p, 0, none⟩) :: ex), mset p n (fun _ => false)]) := by
  refine Spec.of 15 Tryd.func68 rfl rfl rfl ?_
  refine swp_seq ?_
  refine swp_region ?_
  refine s_pu (pu_assign rfl) ?_
  refine swl_sub _ (.cons (t := 0) rfl .nil) ?_
  refine swl_nil ?_
  refine then_n ?_
  refine swp_seq ?_
  refine swp_region ?_
  refine s_pu (pu_assign rfl) ?_
  refine swl_sub _ (.cons (t := 0) rfl (.cons (t := 3) rfl .nil)) ?_
  refine swl_ent (own_nil_ent (e := 25) (n := 1)) ?_
  refine swl_nil ?_
  refine then_n ?_
  refine swp_seq ?_
  refine swp_block ?_
  refine swp_loop (ι := Value × List Nat) (fun k env L => env = [(0, .int .i64 ((n : Int) - 1048576 * (k.2.length : Nat))), (3, k.1)] ∧ L = own 25 1 k.1 k.2.length (pts k.2) :: msets n (fun _ => false) k.2 ∧ k.2.length ≤ 1) (fun k => 1 - k.2.length) (.slice none 0 0, []) ⟨by simp, rfl, by simp⟩ ?_
  rintro ⟨v, ps⟩ env L ⟨rfl, rfl, hl⟩
  dsimp only at hl ⊢
  refine swp_seq ?_
  refine swp_seq ?_
  refine swp_region ?_
  refine s_pu (pu_move rfl) ?_
  refine s_pu (pu_gtr rfl rfl) ?_
  refine swl_sub _ (.cons (t := 0) rfl (.cons (t := 3) rfl (.cons (t := 5) rfl .nil))) ?_
  refine swl_nil ?_
  refine then_n ?_
  refine swp_cond (b := _) rfl (fun h5 => ?_) (fun h5 => ?_)
  · skip   -- 5 T
    have h5' := of_decide_eq_true h5
    obtain rfl : ps = [] := List.eq_nil_of_length_eq_zero (by omega)
    rw [show (n : Int) - 1048576 * (([] : List Nat).length : Nat) = n by simp]
    dsimp only [pts, msets, List.map, List.length_nil]
    refine swp_skip ?_
    refine then_n ?_
    refine swp_seq ?_
    refine swp_block ?_
    refine swp_region ?_
    refine s_pu (pu_move rfl) ?_
    refine s_pu (pu_move rfl) ?_
    refine s_pu (pu_min2 rfl rfl) ?_
    rw [show min (n : Int) 1048576 = n by omega]
    refine s_ef (ef_fn (new_c n n rfl hn) rfl rfl (by repeat (first | exact Split.nil | (apply Split.cons; (repeat (first | with_reducible exact Take.here | apply Take.there)))))) ?_
    rintro v1 L1 ⟨p, rfl, rfl⟩
    refine swl_app ?_
    refine s_ef (ef_bldS (qs := [(0, _)]) rfl rfl rfl) ?_
    intro b12
    refine s_ef (ef_append_lit (l := 0) (m := 1) rfl rfl (by repeat (first | exact Split.nil | (apply Split.cons; (repeat (first | with_reducible exact Take.here | apply Take.there))))) (by decide) (by decide)) ?_
    rintro v' hv'
    skip
    refine s_pu (pu_assign rfl) ?_
    refine swl_sub _ (.cons (t := 0) rfl (.cons (t := 3) rfl .nil)) ?_
    refine swl_nil ?_
    refine block_n ?_
    refine then_n ?_
    refine swp_region ?_
    refine s_pu (pu_move rfl) ?_
    refine s_pu (pu_sub_as ((n : Int) - 1048576 * (([p] : List Nat).length : Nat)) rfl rfl (by simp) (by simp; omega) (by simp; omega)) ?_
    refine s_pu (pu_assign rfl) ?_
    refine swl_sub _ (.cons (t := 0) rfl (.cons (t := 3) rfl .nil)) ?_
    rw [Nat.zero_add, List.nil_append]
    refine swl_ent (Split.ent' (K := [own 25 1 v' 1 [.pointer (some ⟨p, 0, none⟩)], mset p n (fun _ => false)]) (by repeat (first | exact Split.nil | (apply Split.cons; (repeat (first | with_reducible exact Take.here | apply Take.there)))))) ?_
    refine swl_nil ?_
    exact then_n ⟨(v', [p]), ⟨rfl, rfl, Nat.le_refl _⟩, by show 1 - 1 < 1 - 0; omega⟩
  · skip   -- 5 F
    have h5' := of_decide_eq_false h5
    obtain ⟨p, rfl⟩ : ∃ p, ps = [p] := by
      cases ps with
      | nil => simp at h5'; omega
      | cons p l => cases l with
        | nil => exact ⟨p, rfl⟩
        | cons _ _ => simp at hl
    dsimp only [pts, msets, List.map, List.length_singleton]
    refine swp_own (fun h0 l0 _ => by omega) (fun bb c ex hv k1 k2 k3 k4 => ?_)
    subst hv
    rw [show [Value.pointer (some ⟨p, 0, none⟩)] ++ ex = .pointer (some ⟨p, 0, none⟩) :: ex from rfl]
    refine swp_exit ?_
    refine then_x ?_
    refine then_x ?_
    refine block_hit rfl ?_
    refine then_n ?_
    refine swp_seq ?_
    refine swp_region ?_
    refine s_pu (pu_move rfl) ?_
    refine s_pu (pu_assign rfl) ?_
    refine swl_sub _ (.cons (t := 2) rfl .nil) ?_
    refine swl_nil ?_
    refine then_n ?_
    refine swp_ret ?_
    exact done_ret [blk bb 25 (.pointer (some ⟨p, 0, none⟩) :: ex), mset p n (fun _ => false)] (.tmp rfl .nil) ⟨bb, c, ex, p, rfl, rfl⟩ (by repeat (first | exact Split.nil | (apply Split.cons; (repeat (first | with_reducible exact Take.here | apply Take.there)))))
end SX
namespace SX
open Go Go.Proofs

theorem elsTo_mem {n : Nat} {S : Nat → Bool} {x : Int} (h : x ∈ elsTo n S) : ∃ k : Nat, x = k ∧ k < n ∧ S k = true := by
  unfold elsTo numsI at h
  obtain ⟨k, hk, rfl⟩ := List.mem_map.1 h
  obtain ⟨h1, h2⟩ := List.mem_filter.1 hk
  exact ⟨k, rfl, List.mem_range.1 h1, h2⟩
def curL (E : List Int) (i : Nat) : List Int := if i = 0 then [] else E
theorem blist_spec (μ : PH) (bb c : Nat) (ex : List Value) (p n : Nat) (S : Nat → Bool) (hT : RowAt μ 0 0 tabV) (hn : n ≤ 1048576) : Spec Tryd.prog 67 [.slice (some ⟨bb, 0, none⟩) 1 c] [blk bb 25 (.pointer (some ⟨p, 0, none⟩) :: ex), mset p n S, ro μ]
    (fun r L => L = [own 3 1 r (elsTo n S).length ((elsTo n S).flatMap (icsk .i64)), blk bb 25 (.pointer (some ⟨p, 0, none⟩) :: ex), mset p n S, ro μ]) := by
  have hE := elsTo_len n S
  have hEm : ∀ x ∈ elsTo n S, ∃ k : Nat, x = k ∧ k < n := fun x hx => by
    obtain ⟨k, h1, h2, _⟩ := elsTo_mem hx; exact ⟨k, h1, h2⟩
  have hlm := list_m μ p n S hT
  generalize elsTo n S = E at *
  refine Spec.of 32 Tryd.func67 rfl rfl rfl ?_
  refine swp_seq ?_
  refine swp_region ?_
  refine s_pu (pu_assign rfl) ?_
  refine swl_sub _ (.cons (t := 0) rfl .nil) ?_
  refine swl_nil ?_
  refine then_n ?_
  refine swp_seq ?_
  refine swp_region ?_
  refine s_pu (pu_assign rfl) ?_
  refine swl_sub _ (.cons (t := 0) rfl (.cons (t := 3) rfl .nil)) ?_
  refine swl_ent (own_nil_ent (e := 3) (n := 1)) ?_
  refine swl_nil ?_
  refine then_n ?_
  refine swp_seq ?_
  refine swp_seq ?_
  refine swp_region ?_
  refine s_pu (pu_move rfl) ?_
  refine s_pu (pu_len rfl) ?_
  refine s_pu (pu_move rfl) ?_
  refine swl_sub _ (.cons (t := 3) rfl (.cons (t := 8) rfl (.cons (t := 9) rfl (.cons (t := 10) rfl .nil)))) ?_
  refine swl_nil ?_
  refine then_n ?_
  refine swp_block ?_
  refine swp_loop (ι := Nat × Value) (fun k env L => env = [(3, k.2), (8, .slice (some ⟨bb, 0, none⟩) 1 c), (9, .int .i64 1), (10, .int .i64 (k.1 : Nat))] ∧ L = [own 3 1 k.2 (curL E k.1).length ((curL E k.1).flatMap (icsk .i64)), blk bb 25 (.pointer (some ⟨p, 0, none⟩) :: ex), mset p n S, ro μ] ∧ k.1 ≤ 1) (fun k => 1 - k.1) (0, .slice none 0 0) ⟨rfl, rfl, by decide⟩ ?_
  rintro ⟨i, v⟩ env L ⟨rfl, rfl, hi⟩
  dsimp only at hi ⊢
  refine swp_seq ?_
  refine swp_region ?_
  refine s_pu (pu_lss rfl rfl) ?_
  refine swl_sub _ (.cons (t := 3) rfl (.cons (t := 8) rfl (.cons (t := 9) rfl (.cons (t := 10) rfl (.cons (t := 11) rfl .nil))))) ?_
  refine swl_nil ?_
  refine then_n ?_
  refine swp_seq ?_
  refine swp_cond (b := _) rfl (fun h11 => ?_) (fun h11 => ?_)
  · skip   -- 11 T
    have h11' := of_decide_eq_true h11
    obtain rfl : i = 0 := by omega
    rw [show curL E 0 = [] from rfl]
    refine swp_skip ?_
    refine then_n ?_
    refine swp_seq ?_
    refine swp_block ?_
    refine swp_seq ?_
    refine swp_region ?_
    refine s_pu (pu_move rfl) ?_
    refine s_pu (pu_indexAddr 0 rfl rfl (by omega) (by omega) (by omega)) ?_
    refine s_rd (rd_load rfl rfl) ?_
    refine s_pu (pu_assign rfl) ?_
    refine s_pu (pu_assign rfl) ?_
    refine swl_sub _ (.cons (t := 3) rfl (.cons (t := 4) rfl (.cons (t := 5) rfl (.cons (t := 8) rfl (.cons (t := 9) rfl (.cons (t := 10) rfl .nil)))))) ?_
    refine swl_nil ?_
    refine then_n ?_
    refine swp_seq ?_
    refine swp_region ?_
    refine s_pu (pu_move rfl) ?_
    refine s_ef (ef_fn hlm rfl rfl (by repeat (first | exact Split.nil | (apply Split.cons; (repeat (first | with_reducible exact Take.here | apply Take.there)))))) ?_
    rintro ls L1 rfl
    refine swl_app ?_
    refine swl_fact (fun m h => own_form h) fun hform => ?_
    refine s_pu (pu_len_own hform rfl) ?_
    refine s_pu (pu_move rfl) ?_
    refine swl_sub _ (.cons (t := 3) rfl (.cons (t := 4) rfl (.cons (t := 8) rfl (.cons (t := 9) rfl (.cons (t := 10) rfl (.cons (t := 16) rfl (.cons (t := 17) rfl (.cons (t := 18) rfl .nil)))))))) ?_
    refine swl_ent (Split.ent' (K := [own 3 1 v ([] : List Int).length (([] : List Int).flatMap (icsk .i64)), own 3 1 ls E.length (E.flatMap (icsk .i64)), blk bb 25 (.pointer (some ⟨p, 0, none⟩) :: ex), mset p n S, ro μ]) (by repeat (first | exact Split.nil | (apply Split.cons; (repeat (first | with_reducible exact Take.here | apply Take.there)))))) ?_
    refine swl_nil ?_
    refine then_n ?_
    refine swp_block ?_
    refine swp_loop (ι := Nat × Value) (fun k env L => env = [(3, k.2), (4, .int .i64 0), (8, .slice (some ⟨bb, 0, none⟩) 1 c), (9, .int .i64 1), (10, .int .i64 0), (16, ls), (17, .int .i64 (E.length : Nat)), (18, .int .i64 (k.1 : Nat))] ∧ L = [own 3 1 k.2 (E.take k.1).length ((E.take k.1).flatMap (icsk .i64)), own 3 1 ls E.length (E.flatMap (icsk .i64)), blk bb 25 (.pointer (some ⟨p, 0, none⟩) :: ex), mset p n S, ro μ] ∧ k.1 ≤ E.length) (fun k => E.length - k.1) (0, v) ⟨rfl, rfl, Nat.zero_le _⟩ ?_
    rintro ⟨j, v2⟩ env L ⟨rfl, rfl, hj⟩
    dsimp only at hj ⊢
    refine swp_seq ?_
    refine swp_region ?_
    refine s_pu (pu_lss rfl rfl) ?_
    refine swl_sub _ (.cons (t := 3) rfl (.cons (t := 4) rfl (.cons (t := 8) rfl (.cons (t := 9) rfl (.cons (t := 10) rfl (.cons (t := 16) rfl (.cons (t := 17) rfl (.cons (t := 18) rfl (.cons (t := 19) rfl .nil))))))))) ?_
    refine swl_nil ?_
    refine then_n ?_
    refine swp_seq ?_
    refine swp_cond (b := _) rfl (fun h19 => ?_) (fun h19 => ?_)
    · skip   -- 19 T
      have h19' : j < E.length := by have := of_decide_eq_true h19; omega
      obtain ⟨x, hx⟩ : ∃ x, E[j]? = some x := ⟨_, List.getElem?_eq_getElem h19'⟩
      obtain ⟨k, rfl, hk⟩ := hEm x (List.mem_of_getElem? hx)
      refine swp_front (A := own 3 1 ls E.length (E.flatMap (icsk .i64))) (by repeat (first | with_reducible exact Take.here | apply Take.there)) ?_
      refine swp_own (fun h0 l0 _ => by omega) (fun b1 c1 ex1 hv1 h1 h2 h3 h4 => ?_)
      subst hv1
      have htl : (E.take j).length ≤ E.length := by rw [List.length_take]; omega
      refine swp_skip ?_
      refine then_n ?_
      refine swp_seq ?_
      refine swp_block ?_
      refine swp_seq ?_
      refine swp_region ?_
      refine s_pu (pu_indexAddr j rfl rfl (by omega) (by omega) (by omega)) ?_
      refine s_rd (rd_load rfl (icells_get hx)) ?_
      refine s_pu (pu_assign rfl) ?_
      refine swl_sub _ (.cons (t := 3) rfl (.cons (t := 4) rfl (.cons (t := 7) rfl (.cons (t := 8) rfl (.cons (t := 9) rfl (.cons (t := 10) rfl (.cons (t := 16) rfl (.cons (t := 17) rfl (.cons (t := 18) rfl .nil))))))))) ?_
      refine swl_nil ?_
      refine then_n ?_
      refine swp_region ?_
      refine s_pu (pu_move rfl) ?_
      refine s_pu (pu_move rfl) ?_
      refine s_pu (pu_mul_as ((0 : Nat) : Int) rfl rfl (by omega) (by omega) (by omega)) ?_
      refine s_pu (pu_move rfl) ?_
      refine s_pu (pu_add_as ((k : Nat) : Int) rfl rfl (by omega) (by omega) (by omega)) ?_
      refine s_ef (ef_bldS (qs := [(0, _)]) rfl rfl rfl) ?_
      intro b27
      refine s_ef (ef_append_lit (l := (E.take j).length) (m := 1) rfl rfl (by repeat (first | exact Split.nil | (apply Split.cons; (repeat (first | with_reducible exact Take.here | apply Take.there))))) (by simp only [maxLen]; omega) (by omega)) ?_
      rintro v' hv'
      skip
      refine s_pu (pu_assign rfl) ?_
      refine swl_sub _ (.cons (t := 3) rfl (.cons (t := 4) rfl (.cons (t := 8) rfl (.cons (t := 9) rfl (.cons (t := 10) rfl (.cons (t := 16) rfl (.cons (t := 17) rfl (.cons (t := 18) rfl .nil)))))))) ?_
      have e0 : E.take (j + 1) = E.take j ++ [(k : Int)] := by rw [List.take_add_one, hx]; rfl
      have e1 : (E.take j).length + 1 = (E.take (j + 1)).length := by rw [e0, List.length_append]; rfl
      have e2 : (E.take j).flatMap (icsk .i64) ++ [.int .i64 (k : Nat)] = (E.take (j + 1)).flatMap (icsk .i64) := by rw [e0, List.flatMap_append]; rfl
      rw [e1, e2]
      refine swl_nil ?_
      refine block_n ?_
      refine then_n ?_
      refine swp_region ?_
      refine s_pu (pu_add_as ((j + 1 : Nat) : Int) rfl rfl (by omega) (by omega) (by omega)) ?_
      refine s_pu (pu_move rfl) ?_
      refine swl_sub _ (.cons (t := 3) rfl (.cons (t := 4) rfl (.cons (t := 8) rfl (.cons (t := 9) rfl (.cons (t := 10) rfl (.cons (t := 16) rfl (.cons (t := 17) rfl (.cons (t := 18) rfl .nil)))))))) ?_
      refine swl_ent ((Split.ent' (K := [blk b1 3 (E.flatMap (icsk .i64) ++ ex1), own 3 1 v' (E.take (j + 1)).length ((E.take (j + 1)).flatMap (icsk .i64)), blk bb 25 (.pointer (some ⟨p, 0, none⟩) :: ex), mset p n S, ro μ]) (by repeat (first | exact Split.nil | (apply Split.cons; (repeat (first | with_reducible exact Take.here | apply Take.there)))))).trans ((iown_close h1 h2 h4).trans Ent.swap)) ?_
      refine swl_nil ?_
      exact then_n ⟨(j + 1, v'), ⟨rfl, rfl, h19'⟩, by show E.length - (j + 1) < E.length - j; omega⟩
    · skip   -- 19 F
      have h19' := of_decide_eq_false h19
      obtain rfl : j = E.length := by omega
      rw [List.take_length]
      refine swp_exit ?_
      refine then_x ?_
      refine then_x ?_
      refine block_hit rfl ?_
      refine block_n ?_
      refine then_n ?_
      refine swp_region ?_
      refine s_pu (pu_add_as ((0 + 1 : Nat) : Int) rfl rfl (by omega) (by omega) (by omega)) ?_
      refine s_pu (pu_move rfl) ?_
      refine swl_sub _ (.cons (t := 3) rfl (.cons (t := 8) rfl (.cons (t := 9) rfl (.cons (t := 10) rfl .nil)))) ?_
      refine swl_ent (Split.ent' (K := [own 3 1 v2 E.length (E.flatMap (icsk .i64)), blk bb 25 (.pointer (some ⟨p, 0, none⟩) :: ex), mset p n S, ro μ]) (by repeat (first | exact Split.nil | (apply Split.cons; (repeat (first | with_reducible exact Take.here | apply Take.there)))))) ?_
      refine swl_nil ?_
      exact then_n ⟨(0 + 1, v2), ⟨rfl, rfl, Nat.le_refl _⟩, by show 1 - (0 + 1) < 1 - 0; omega⟩
  · skip   -- 11 F
    have h11' := of_decide_eq_false h11
    obtain rfl : i = 1 := by omega
    rw [show curL E 1 = E from rfl]
    refine swp_exit ?_
    refine then_x ?_
    refine then_x ?_
    refine block_hit rfl ?_
    refine then_n ?_
    refine swp_seq ?_
    refine swp_region ?_
    refine s_pu (pu_move rfl) ?_
    refine s_pu (pu_assign rfl) ?_
    refine swl_sub _ (.cons (t := 2) rfl .nil) ?_
    refine swl_nil ?_
    refine then_n ?_
    refine swp_ret ?_
    exact done_ret [own 3 1 v E.length (E.flatMap (icsk .i64)), blk bb 25 (.pointer (some ⟨p, 0, none⟩) :: ex), mset p n S, ro μ] (.tmp rfl .nil) rfl (by repeat (first | exact Split.nil | (apply Split.cons; (repeat (first | with_reducible exact Take.here | apply Take.there)))))
end SX
namespace SX
open Go Go.Proofs

theorem mset_ext {p n : Nat} {S T : Nat → Bool} {L : List Assn} (h : (∀ k, n ≤ k → S k = false) → ∀ k, S k = T k) : Ent (mset p n S :: L) (mset p n T :: L) := fun m hm => by
  have hz := (mset_fact hm).2
  rw [← show S = T from funext (h hz)]
  exact hm
set_option maxHeartbeats 1000000 in
theorem up_spec (μ : PH) (v : Value) (G : List (Value × List Int)) (a : Nat) (hG : Graph μ v G) (hn : G.length ≤ 1048576) (hg : Good (nums G)) (ha : a < G.length) : Spec Tryd.prog 63 [v, .int .i64 (a : Nat)] [ro μ]
    (fun r L => ∃ bb c ex p, r = .slice (some ⟨bb, 0, none⟩) 1 c ∧ L = [blk bb 25 (.pointer (some ⟨p, 0, none⟩) :: ex), mset p G.length (up (nums G) a), ro μ]) := by
  obtain ⟨gb, off, cap, hv, c1, c2, hr⟩ := hG.1.pos (by omega)
  subst hv
  have hrow := graph_rows hG hg hr
  refine Spec.of 37 Tryd.func63 rfl rfl rfl ?_
  refine swp_seq ?_
  refine swp_region ?_
  refine s_pu (pu_assign rfl) ?_
  refine swl_sub _ (.cons (t := 0) rfl (.cons (t := 1) rfl .nil)) ?_
  refine swl_nil ?_
  refine then_n ?_
  refine swp_seq ?_
  refine swp_region ?_
  refine s_pu (pu_move rfl) ?_
  refine s_pu (pu_len_row hG.1 rfl) ?_
  refine s_ef (ef_fn (newbits_spec G.length (by omega) hn) rfl rfl (by repeat (first | exact Split.nil | (apply Split.cons; (repeat (first | with_reducible exact Take.here | apply Take.there)))))) ?_
  rintro v1 L1 ⟨bb, c, ex, p, rfl, rfl⟩
  refine swl_app ?_
  refine s_pu (pu_assign rfl) ?_
  refine swl_sub _ (.cons (t := 0) rfl (.cons (t := 1) rfl (.cons (t := 5) rfl .nil))) ?_
  refine swl_nil ?_
  refine then_n ?_
  refine swp_seq ?_
  refine swp_region ?_
  refine s_pu (pu_move rfl) ?_
  refine s_pu (pu_move rfl) ?_
  refine s_ef (ef_fn (bput_spec bb c ex p G.length (fun _ => false) a ha hn) rfl rfl (by repeat (first | exact Split.nil | (apply Split.cons; (repeat (first | with_reducible exact Take.here | apply Take.there)))))) ?_
  rintro v1 L1 ⟨rfl, rfl⟩
  refine swl_app ?_
  refine swl_sub _ (.cons (t := 0) rfl (.cons (t := 1) rfl (.cons (t := 5) rfl .nil))) ?_
  rw [show (fun j => false || decide (j = a)) = (fun j => decide (j = a)) from funext fun j => Bool.false_or _]
  refine swl_nil ?_
  refine then_n ?_
  refine swp_seq ?_
  refine swp_seq ?_
  refine swp_region ?_
  refine s_pu (pu_move rfl) ?_
  refine s_pu (pu_assign rfl) ?_
  refine swl_sub _ (.cons (t := 0) rfl (.cons (t := 5) rfl (.cons (t := 6) rfl .nil))) ?_
  refine swl_nil ?_
  refine then_n ?_
  refine swp_block ?_
  refine swp_loop (ι := Nat × (Nat → Bool)) (fun k env L => env = [(0, .slice (some ⟨gb, off, none⟩) G.length cap), (5, .slice (some ⟨bb, 0, none⟩) 1 c), (6, .int .i64 ((k.1 : Nat) - 1 : Int))] ∧ L = [blk bb 25 (.pointer (some ⟨p, 0, none⟩) :: ex), mset p G.length k.2, ro μ] ∧ k.1 ≤ a + 1 ∧ upF (nums G) k.1 k.2 = up (nums G) a) (fun k => k.1) (a + 1, fun j => decide (j = a)) ⟨?_, rfl, Nat.le_refl _, rfl⟩ ?_
  · rw [show (((a + 1 : Nat) : Int) - 1) = a by omega]
  rintro ⟨k, S⟩ env L ⟨rfl, rfl, hk, hup⟩
  dsimp only at hk hup ⊢
  refine swp_seq ?_
  refine swp_seq ?_
  refine swp_region ?_
  refine s_pu (pu_move rfl) ?_
  refine s_pu (pu_geq rfl rfl) ?_
  refine swl_sub _ (.cons (t := 0) rfl (.cons (t := 5) rfl (.cons (t := 6) rfl (.cons (t := 17) rfl .nil)))) ?_
  refine swl_nil ?_
  refine then_n ?_
  refine swp_cond (b := _) rfl (fun h17 => ?_) (fun h17 => ?_)
  · skip   -- 17 T
    have h17' := of_decide_eq_true h17
    obtain ⟨cc, rfl⟩ : ∃ cc, k = cc + 1 := ⟨k - 1, by omega⟩
    rw [show (((cc + 1 : Nat) : Int) - 1) = cc by omega]
    obtain ⟨x, hx, hxc, hxr, hxo, hxg⟩ := hrow cc (by omega)
    have hxs := hxr.small
    replace hup : upF (nums G) cc (stepUp (nums G) cc S) = up (nums G) a := hup
    refine swp_skip ?_
    refine then_n ?_
    refine swp_seq ?_
    refine swp_block ?_
    refine swp_seq ?_
    refine swp_region ?_
    refine s_pu (pu_move rfl) ?_
    refine s_pu (pu_move rfl) ?_
    refine s_ef (ef_fn (bhas_spec bb c ex p G.length S cc (by omega) hn) rfl rfl (by repeat (first | exact Split.nil | (apply Split.cons; (repeat (first | with_reducible exact Take.here | apply Take.there)))))) ?_
    rintro v1 L1 ⟨rfl, rfl⟩
    refine swl_app ?_
    refine swl_sub _ (.cons (t := 0) rfl (.cons (t := 5) rfl (.cons (t := 6) rfl (.cons (t := 22) rfl .nil)))) ?_
    refine swl_nil ?_
    refine then_n ?_
    refine swp_cond (b := _) rfl (fun h22 => ?_) (fun h22 => ?_)
    · skip   -- 22 T
      refine swp_seq ?_
      refine swp_region ?_
      refine s_pu (pu_move rfl) ?_
      refine s_pu (pu_move rfl) ?_
      refine s_pu (pu_indexAddr (off + cc * 1) rfl rfl (by omega) (by omega) (by rw [Int.toNat_natCast])) ?_
      refine s_rd (rd_ro rfl hxc) ?_
      refine s_pu (pu_len_row hxr rfl) ?_
      refine s_pu (pu_move rfl) ?_
      refine swl_sub _ (.cons (t := 0) rfl (.cons (t := 5) rfl (.cons (t := 6) rfl (.cons (t := 26) rfl (.cons (t := 27) rfl (.cons (t := 28) rfl .nil)))))) ?_
      refine swl_nil ?_
      refine then_n ?_
      refine swp_block ?_
      refine swp_sub _ (.cons (t := 0) rfl (.cons (t := 5) rfl (.cons (t := 6) rfl (.cons (t := 26) rfl (.cons (t := 27) rfl (.cons (t := 28) rfl .nil)))))) ?_
      have e0 : (fun y => S y || decide ((y : Int) ∈ x.2.take 0)) = S := funext fun j => by simp
      rw [← e0]
      refine swp_loop (ι := Nat) (fun j env L => env = [(0, .slice (some ⟨gb, off, none⟩) G.length cap), (5, .slice (some ⟨bb, 0, none⟩) 1 c), (6, .int .i64 (cc : Nat)), (26, x.1), (27, .int .i64 (x.2.length : Nat)), (28, .int .i64 (j : Nat))] ∧ L = [blk bb 25 (.pointer (some ⟨p, 0, none⟩) :: ex), mset p G.length (fun y => S y || decide ((y : Int) ∈ x.2.take j)), ro μ] ∧ j ≤ x.2.length) (fun j => x.2.length - j) 0 ⟨rfl, rfl, Nat.zero_le _⟩ ?_
      rintro j env L ⟨rfl, rfl, hj⟩
      refine swp_seq ?_
      refine swp_region ?_
      refine s_pu (pu_lss rfl rfl) ?_
      refine swl_sub _ (.cons (t := 0) rfl (.cons (t := 5) rfl (.cons (t := 6) rfl (.cons (t := 26) rfl (.cons (t := 27) rfl (.cons (t := 28) rfl (.cons (t := 29) rfl .nil))))))) ?_
      refine swl_nil ?_
      refine then_n ?_
      refine swp_seq ?_
      refine swp_cond (b := _) rfl (fun h29 => ?_) (fun h29 => ?_)
      · skip   -- 29 T
        have h29' : j < x.2.length := by have := of_decide_eq_true h29; omega
        obtain ⟨pb, poff, pcap, hpv, p1, p2, hpr⟩ := hxr.pos (by omega)
        obtain ⟨q, hp⟩ : ∃ q, x.2[j]? = some q := ⟨_, List.getElem?_eq_getElem h29'⟩
        have hpk := hpr.elem (icsk_len .i64) hp
        have hpg := hxg q (List.mem_of_getElem? hp)
        obtain ⟨i, rfl⟩ : ∃ i : Nat, q = i := ⟨q.toNat, by omega⟩
        rw [hpv]
        refine swp_skip ?_
        refine then_n ?_
        refine swp_seq ?_
        refine swp_block ?_
        refine swp_seq ?_
        refine swp_region ?_
        refine s_pu (pu_indexAddr (poff + j * 1) rfl rfl (by omega) (by omega) (by rw [Int.toNat_natCast])) ?_
        refine s_rd (rd_ro rfl hpk.cell) ?_
        refine s_pu (pu_assign rfl) ?_
        refine swl_sub _ (.cons (t := 0) rfl (.cons (t := 5) rfl (.cons (t := 6) rfl (.cons (t := 8) rfl (.cons (t := 26) rfl (.cons (t := 27) rfl (.cons (t := 28) rfl .nil))))))) ?_
        refine swl_nil ?_
        refine then_n ?_
        refine swp_region ?_
        refine s_pu (pu_move rfl) ?_
        refine s_pu (pu_move rfl) ?_
        refine s_ef (ef_fn (bput_spec bb c ex p G.length _ i (by omega) hn) rfl rfl (by repeat (first | exact Split.nil | (apply Split.cons; (repeat (first | with_reducible exact Take.here | apply Take.there)))))) ?_
        rintro v1 L1 ⟨rfl, rfl⟩
        refine swl_app ?_
        refine swl_sub _ (.cons (t := 0) rfl (.cons (t := 5) rfl (.cons (t := 6) rfl (.cons (t := 26) rfl (.cons (t := 27) rfl (.cons (t := 28) rfl .nil)))))) ?_
        have e1 : (fun y => (S y || decide ((y : Int) ∈ x.2.take j)) || decide (y = i)) = fun y => S y || decide ((y : Int) ∈ x.2.take (j + 1)) := funext fun y => by
          rw [List.take_add_one, hp]
          by_cases e : y = i
          · subst e; simp
          · have : (y : Int) ≠ i := by omega
            simp [e, this]
        rw [e1]
        refine swl_nil ?_
        refine block_n ?_
        refine then_n ?_
        refine swp_region ?_
        refine s_pu (pu_add_as ((j + 1 : Nat) : Int) rfl rfl (by omega) (by omega) (by omega)) ?_
        refine s_pu (pu_move rfl) ?_
        refine swl_sub _ (.cons (t := 0) rfl (.cons (t := 5) rfl (.cons (t := 6) rfl (.cons (t := 26) rfl (.cons (t := 27) rfl (.cons (t := 28) rfl .nil)))))) ?_
        refine swl_nil ?_
        exact then_n ⟨j + 1, ⟨rfl, rfl, h29'⟩, by omega⟩
      · skip   -- 29 F
        have h29' := of_decide_eq_false h29
        obtain rfl : j = x.2.length := by omega
        have e1 : (fun y => S y || decide ((y : Int) ∈ x.2.take x.2.length)) = stepUp (nums G) cc S := funext fun j => by
          unfold stepUp; rw [h22, hxo, List.take_length, Bool.true_and]
        rw [e1]
        refine swp_exit ?_
        refine then_x ?_
        refine then_x ?_
        refine block_hit rfl ?_
        refine block_n ?_
        refine then_n ?_
        refine swp_region ?_
        refine s_pu (pu_move rfl) ?_
        refine s_pu (pu_sub_as ((cc : Nat) - 1 : Int) rfl rfl (by omega) (by omega) (by omega)) ?_
        refine s_pu (pu_assign rfl) ?_
        refine swl_sub _ (.cons (t := 0) rfl (.cons (t := 5) rfl (.cons (t := 6) rfl .nil))) ?_
        refine swl_nil ?_
        exact then_n ⟨(cc, stepUp (nums G) cc S), ⟨rfl, rfl, by omega, hup⟩, by show cc < cc + 1; omega⟩
    · skip   -- 22 F
      have e1 : S = stepUp (nums G) cc S := funext fun j => by unfold stepUp; rw [h22, Bool.false_and, Bool.or_false]
      rw [show mset p G.length S = mset p G.length (stepUp (nums G) cc S) by rw [← e1]]
      refine swp_skip ?_
      refine block_n ?_
      refine then_n ?_
      refine swp_region ?_
      refine s_pu (pu_move rfl) ?_
      refine s_pu (pu_sub_as ((cc : Nat) - 1 : Int) rfl rfl (by omega) (by omega) (by omega)) ?_
      refine s_pu (pu_assign rfl) ?_
      refine swl_sub _ (.cons (t := 0) rfl (.cons (t := 5) rfl (.cons (t := 6) rfl .nil))) ?_
      refine swl_nil ?_
      exact then_n ⟨(cc, stepUp (nums G) cc S), ⟨rfl, rfl, by omega, hup⟩, by show cc < cc + 1; omega⟩
  · skip   -- 17 F
    refine swp_exit ?_
    refine then_x ?_
    refine then_x ?_
    refine block_hit rfl ?_
    refine then_n ?_
    refine swp_seq ?_
    refine swp_region ?_
    refine s_pu (pu_move rfl) ?_
    refine s_pu (pu_assign rfl) ?_
    refine swl_sub _ (.cons (t := 4) rfl .nil) ?_
    refine swl_nil ?_
    refine then_n ?_
    refine swp_ret ?_
    have h17' := of_decide_eq_false h17
    obtain rfl : k = 0 := by omega
    replace hup : S = up (nums G) a := hup
    subst hup
    exact done_ret [blk bb 25 (.pointer (some ⟨p, 0, none⟩) :: ex), mset p G.length (up (nums G) a), ro μ] (.tmp rfl .nil) ⟨bb, c, ex, p, rfl, rfl⟩ (by repeat (first | exact Split.nil | (apply Split.cons; (repeat (first | with_reducible exact Take.here | apply Take.there)))))
end SX
namespace SX
open Go Go.Proofs

theorem Split.all : ∀ {L : List Assn}, Split L L []
  | [] => .nil
  | _ :: _ => .cons .here Split.all
theorem Split.skip {A : Assn} {L K R : List Assn} (h : Split L K R) : Split (A :: L) K (A :: R) := by
  induction h with
  | nil => exact .nil
  | cons h _ ih => exact .cons (.there h) ih
theorem Ld.weak {P : Program} {A : Assn} {L : List Assn} {t : TypeId} {ad : Addr} {v : Value} (h : Ld P L t ad v) : Ld P (A :: L) t ad v := fun E w hh => h ⟨E.w, E.X ++ [A]⟩ w (H.hide (L := L) (R := [A]) (hh.ent (Ent.perm (List.perm_append_comm (l₁ := [A])))))
/-- a slice of integers may be read -/
def Ints (L : List Assn) (v : Value) (xs : List Int) : Prop := ∃ A cap, v = .slice A xs.length cap ∧ xs.length ≤ 9223372036854775807 ∧ (0 < xs.length → ∃ b off, A = some ⟨b, off, none⟩ ∧ ∀ (j : Nat) (x : Int), xs[j]? = some x → Ld Tryd.prog L 3 ⟨b, off + j, none⟩ (.int .i64 x))
theorem Ints.weak {A : Assn} {L : List Assn} {v : Value} {xs : List Int} (h : Ints L v xs) : Ints (A :: L) v xs := by
  obtain ⟨B, cap, h1, h2, h3⟩ := h
  refine ⟨B, cap, h1, h2, fun h => ?_⟩
  obtain ⟨b, off, e, k⟩ := h3 h
  exact ⟨b, off, e, fun j x hx => (k j x hx).weak⟩
theorem Ints.row {μ : PH} {v : Value} {xs : List Int} {L : List Assn} [InR L μ] (h : Row μ v 1 xs.length (xs.flatMap (icsk .i64))) : Ints L v xs := by
  obtain ⟨A, cap, hv⟩ := h.form'
  refine ⟨A, cap, hv, h.small, fun h0 => ?_⟩
  obtain ⟨b, off, cap', hv', c1, c2, hr⟩ := h.pos h0
  subst hv
  injection hv' with e1 _ _
  exact ⟨b, off, e1, fun j x hx => by
    have := (hr.elem (icsk_len .i64) hx).cell
    rw [Nat.mul_one] at this
    exact ld_ro this⟩
theorem find_at {xs : List Int} {p : Int → Bool} {j : Nat} {x : Int} (h : xs[j]? = some x) (h0 : ∀ y ∈ xs.take j, p y = false) (hx : p x = true) : xs.findIdx p = j := by
  have hl := (List.getElem?_eq_some_iff.1 h).1
  have e : xs[j] = x := (List.getElem?_eq_some_iff.1 h).2
  refine (List.findIdx_eq hl).2 ⟨by rw [e]; exact hx, fun i hi => ?_⟩
  have hm : xs[i]'(by omega) ∈ xs.take j := List.mem_take_iff_getElem.2 ⟨i, by omega, rfl⟩
  exact Bool.eq_false_iff.1 (h0 _ hm) |> fun h => by simpa using h

theorem indexf_spec (v : Value) (xs : List Int) (L0 : List Assn) (fn : FuncId) [Body Tryd.prog fn] (fi ca : List Value) (p : Int → Bool) (hv : Ints L0 v xs)
    (hf : ∀ x ∈ xs, Spec Tryd.prog fn (fi ++ [.int .i64 x] ++ ca) L0 (fun r L => r = .bool (p x) ∧ L = L0)) : Spec Tryd.prog 83 [v, .func (.func fn) fi.toArray ca.toArray] L0
    (fun r L => (∃ k : Int, r = .int .i64 k ∧ (decide (0 ≤ k) = xs.any p) ∧ -1 ≤ k) ∧ L = L0) := by
  obtain ⟨A, cap, hv1, hv2, hv3⟩ := hv
  subst hv1
  refine Spec.of 19 Tryd.func83 rfl rfl rfl ?_
  refine swp_seq ?_
  refine swp_region ?_
  refine s_pu (pu_assign rfl) ?_
  refine swl_sub _ (.cons (t := 0) rfl (.cons (t := 1) rfl .nil)) ?_
  refine swl_nil ?_
  refine then_n ?_
  refine swp_seq ?_
  refine swp_seq ?_
  refine swp_region ?_
  refine s_pu (pu_move rfl) ?_
  refine s_pu (pu_len rfl) ?_
  refine s_pu (pu_move rfl) ?_
  refine swl_sub _ (.cons (t := 0) rfl (.cons (t := 1) rfl (.cons (t := 7) rfl (.cons (t := 8) rfl .nil)))) ?_
  refine swl_nil ?_
  refine then_n ?_
  refine swp_block ?_
  refine swp_loop (ι := Nat) (fun k env L => env = [(0, .slice A xs.length cap), (1, .func (.func fn) fi.toArray ca.toArray), (7, .int .i64 (xs.length : Nat)), (8, .int .i64 (k : Nat))] ∧ L = L0 ∧ k ≤ xs.length ∧ ∀ y ∈ xs.take k, p y = false) (fun k => xs.length - k) 0 ⟨rfl, rfl, Nat.zero_le _, fun y hy => by simp at hy⟩ ?_
  rintro k env L ⟨rfl, rfl, hk, hno⟩
  refine swp_seq ?_
  refine swp_region ?_
  refine s_pu (pu_lss rfl rfl) ?_
  refine swl_sub _ (.cons (t := 0) rfl (.cons (t := 1) rfl (.cons (t := 7) rfl (.cons (t := 8) rfl (.cons (t := 9) rfl .nil))))) ?_
  refine swl_nil ?_
  refine then_n ?_
  refine swp_seq ?_
  refine swp_cond (b := _) rfl (fun h9 => ?_) (fun h9 => ?_)
  · skip   -- 9 T
    have h9' : k < xs.length := by have := of_decide_eq_true h9; omega
    obtain ⟨b, off, rfl, hld⟩ := hv3 (by omega)
    obtain ⟨x, hx⟩ : ∃ x, xs[k]? = some x := ⟨_, List.getElem?_eq_getElem h9'⟩
    refine swp_skip ?_
    refine then_n ?_
    refine swp_seq ?_
    refine swp_block ?_
    refine swp_seq ?_
    refine swp_region ?_
    refine s_pu (pu_move rfl) ?_
    refine s_pu (pu_assign rfl) ?_
    refine swl_sub _ (.cons (t := 0) rfl (.cons (t := 1) rfl (.cons (t := 5) rfl (.cons (t := 7) rfl (.cons (t := 8) rfl .nil))))) ?_
    refine swl_nil ?_
    refine then_n ?_
    refine swp_seq ?_
    refine swp_region ?_
    refine s_pu (pu_move rfl) ?_
    refine s_pu (pu_move rfl) ?_
    refine s_pu (pu_move rfl) ?_
    refine s_pu (pu_indexAddr (off + k * 1) rfl rfl (by omega) (by omega) (by rw [Int.toNat_natCast])) ?_
    refine s_rd (rd_of_ld rfl (by rw [Nat.mul_one]; exact hld k x hx)) ?_
    refine s_ef (ef_clo (R := []) (hf x (List.mem_of_getElem? hx)) rfl rfl (Split.all)) ?_
    rintro v1 L1 ⟨rfl, rfl⟩
    rw [List.append_nil]
    refine swl_sub _ (.cons (t := 0) rfl (.cons (t := 1) rfl (.cons (t := 5) rfl (.cons (t := 7) rfl (.cons (t := 8) rfl (.cons (t := 16) rfl .nil)))))) ?_
    refine swl_nil ?_
    refine then_n ?_
    refine swp_cond (b := _) rfl (fun h16 => ?_) (fun h16 => ?_)
    · skip   -- 16 T
      refine swp_seq ?_
      refine swp_region ?_
      refine s_pu (pu_move rfl) ?_
      refine s_pu (pu_assign rfl) ?_
      refine swl_sub _ (.cons (t := 4) rfl .nil) ?_
      refine swl_nil ?_
      refine then_n ?_
      refine swp_ret ?_
      refine block_r ?_
      refine then_r ?_
      refine then_r ?_
      refine block_r ?_
      refine then_r ?_
      exact done_ret _ (.tmp rfl .nil) ⟨⟨k, rfl, by rw [decide_eq_true (by omega)]; exact (List.any_eq_true.2 ⟨x, List.mem_of_getElem? hx, h16⟩).symm, by omega⟩, rfl⟩ Split.all
    · skip   -- 16 F
      refine swp_skip ?_
      refine block_n ?_
      refine then_n ?_
      refine swp_region ?_
      refine s_pu (pu_add_as ((k + 1 : Nat) : Int) rfl rfl (by omega) (by omega) (by omega)) ?_
      refine s_pu (pu_move rfl) ?_
      refine swl_sub _ (.cons (t := 0) rfl (.cons (t := 1) rfl (.cons (t := 7) rfl (.cons (t := 8) rfl .nil)))) ?_
      refine swl_nil ?_
      exact then_n ⟨k + 1, ⟨rfl, rfl, h9', fun y hy => by
        rw [List.take_add_one, hx] at hy
        rcases List.mem_append.1 hy with hy | hy
        · exact hno y hy
        · obtain rfl : y = x := by simpa using hy
          exact h16⟩, by omega⟩
  · skip   -- 9 F
    have h9' := of_decide_eq_false h9
    obtain rfl : k = xs.length := by omega
    refine swp_exit ?_
    refine then_x ?_
    refine then_x ?_
    refine block_hit rfl ?_
    refine then_n ?_
    refine swp_seq ?_
    refine swp_region ?_
    refine s_pu (pu_assign rfl) ?_
    refine swl_sub _ (.cons (t := 4) rfl .nil) ?_
    refine swl_nil ?_
    refine then_n ?_
    refine swp_ret ?_
    refine done_ret _ (.tmp rfl .nil) ⟨⟨-1, rfl, ?_, by omega⟩, rfl⟩ Split.all
    rw [List.take_length] at hno
    rw [decide_eq_false (by omega)]
    symm
    rw [List.any_eq_false]
    exact fun x hx => by rw [hno x hx]; simp
theorem containsf_spec (v : Value) (xs : List Int) (L0 : List Assn) (fn : FuncId) [Body Tryd.prog fn] (fi ca : List Value) (p : Int → Bool) (hv : Ints L0 v xs)
    (hf : ∀ x ∈ xs, Spec Tryd.prog fn (fi ++ [.int .i64 x] ++ ca) L0 (fun r L => r = .bool (p x) ∧ L = L0)) : Spec Tryd.prog 70 [v, .func (.func fn) fi.toArray ca.toArray] L0
    (fun r L => r = .bool (xs.any p) ∧ L = L0) := by
  refine Spec.of 9 Tryd.func70 rfl rfl rfl ?_
  refine swp_seq ?_
  refine swp_region ?_
  refine s_pu (pu_assign rfl) ?_
  refine swl_sub _ (.cons (t := 0) rfl (.cons (t := 1) rfl .nil)) ?_
  refine swl_nil ?_
  refine then_n ?_
  refine swp_seq ?_
  refine swp_region ?_
  refine s_pu (pu_move rfl) ?_
  refine s_pu (pu_move rfl) ?_
  refine s_ef (ef_fn (R := []) (indexf_spec v xs L0 fn fi ca p hv hf) rfl rfl (Split.all)) ?_
  rintro v1 L1 ⟨⟨k, rfl, hk, hk1⟩, rfl⟩
  rw [List.append_nil]
  refine s_pu (pu_geq rfl rfl) ?_
  refine s_pu (pu_assign rfl) ?_
  refine swl_sub _ (.cons (t := 4) rfl .nil) ?_
  refine swl_nil ?_
  refine then_n ?_
  refine swp_ret ?_
  exact done_ret _ (.tmp rfl .nil) ⟨congrArg Value.bool hk, rfl⟩ Split.all
def outG (n : Nat) (x : Int) : Bool := decide (x < 0) || decide ((n : Int) ≤ x)
theorem asked1_spec (gb : Nat) (A : Option Addr) (n cap : Nat) (hn : n ≤ 9223372036854775807) (K : List Assn) (x : Int) : Spec Tryd.prog 81 [.int .i64 x, .pointer (some ⟨gb, 0, none⟩)] (blk gb 54 [.slice A n cap] :: K) (fun r L => r = .bool (outG n x) ∧ L = blk gb 54 [.slice A n cap] :: K) := by
  refine Spec.of 12 Tryd.func81 rfl rfl rfl ?_
  refine swp_seq ?_
  refine swp_region ?_
  refine s_pu (pu_assign rfl) ?_
  refine swl_sub _ (.cons (t := 0) rfl (.cons (t := 1) rfl .nil)) ?_
  refine swl_nil ?_
  refine then_n ?_
  refine swp_seq ?_
  refine swp_region ?_
  refine s_pu (pu_move rfl) ?_
  refine s_pu (pu_lss rfl rfl) ?_
  refine s_pu (pu_move rfl) ?_
  refine s_split 6 rfl (fun h6 => ?_) (fun h6 => ?_)
  · skip   -- 6 T
    refine s_off rfl rfl rfl ?_
    refine s_off rfl rfl rfl ?_
    refine s_off rfl rfl rfl ?_
    refine s_off rfl rfl rfl ?_
    first | refine s_pu (pu_pick_t rfl rfl) ?_ | refine s_pu (pu_pick_f rfl rfl) ?_
    refine s_pu (pu_assign rfl) ?_
    refine swl_sub _ (.cons (t := 3) rfl .nil) ?_
    refine swl_nil ?_
    refine then_n ?_
    refine swp_ret ?_
    exact done_ret _ (.tmp rfl .nil) ⟨by unfold outG; rw [h6]; rfl, rfl⟩ Split.all
  · skip   -- 6 F
    refine s_on rfl rfl ?_
    refine s_pu (pu_move rfl) ?_
    refine s_on rfl rfl ?_
    refine s_rd (rd_load rfl rfl) ?_
    refine s_on rfl rfl ?_
    refine s_pu (pu_len rfl) ?_
    refine s_on rfl rfl ?_
    refine s_pu (pu_geq rfl rfl) ?_
    first | refine s_pu (pu_pick_t rfl rfl) ?_ | refine s_pu (pu_pick_f rfl rfl) ?_
    refine s_pu (pu_assign rfl) ?_
    refine swl_sub _ (.cons (t := 3) rfl .nil) ?_
    refine swl_nil ?_
    refine then_n ?_
    refine swp_ret ?_
    exact done_ret _ (.tmp rfl .nil) ⟨by unfold outG; rw [h6]; rfl, rfl⟩ Split.all
end SX
namespace SX
open Go Go.Proofs

/-- the errors that come first, of any commits -/
def askS (g : List (List Int)) (cs : List Int) : Int := if chkFrom 0 g ≠ 0 then 1 else if cs.any (outG g.length) then 9 else 0
theorem askS_two (g : List (List Int)) (a b : Int) : askS g [a, b] = askE g a b := by
  unfold askS askE
  split
  · rfl
  · simp only [List.any_cons, List.any_nil, Bool.or_false, outG, Bool.or_eq_true, decide_eq_true_eq]
    by_cases h : a < 0 ∨ (g.length : Int) ≤ a ∨ b < 0 ∨ (g.length : Int) ≤ b
    · rw [if_pos (by omega), if_pos h]
    · rw [if_neg (by omega), if_neg h]
theorem askS_one (g : List (List Int)) (a : Int) : askS g [a] = askE g a a := by
  unfold askS askE
  split
  · rfl
  · simp only [List.any_cons, List.any_nil, Bool.or_false, outG, Bool.or_eq_true, decide_eq_true_eq]
    by_cases h : a < 0 ∨ (g.length : Int) ≤ a ∨ a < 0 ∨ (g.length : Int) ≤ a
    · rw [if_pos (by omega), if_pos h]
    · rw [if_neg (by omega), if_neg h]
theorem askS_none (g : List (List Int)) : askS g [] = heaE g := by
  unfold askS heaE
  by_cases h : chkFrom 0 g = 0 <;> simp [h]

theorem asked_spec (μ : PH) (v cv : Value) (G : List (Value × List Int)) (cs : List Int) (K : List Assn) (hG : Graph μ v G) (hc : Ints (ro μ :: K) cv cs) : Spec Tryd.prog 62 [v, cv] (ro μ :: K) (fun r L => r = .int .i64 (askS (nums G) cs) ∧ L = ro μ :: K) := by
  have hln : (nums G).length = G.length := List.length_map _
  obtain ⟨A, cap, hv⟩ := hG.1.form'
  subst hv
  have hsm := hG.1.small
  refine Spec.of 11 Tryd.func62 rfl rfl rfl ?_
  refine swp_seq ?_
  refine swp_region ?_
  refine s_ef (ef_box rfl rfl) ?_
  intro b2
  refine s_pu (pu_assign rfl) ?_
  refine swl_sub _ (.cons (t := 1) rfl (.cons (t := 2) rfl .nil)) ?_
  refine swl_nil ?_
  refine then_n ?_
  refine swp_seq ?_
  refine swp_seq ?_
  refine swp_region ?_
  refine s_rd (rd_load rfl rfl) ?_
  refine s_ef (ef_fn (check_spec μ _ G hG) rfl rfl (by repeat (first | exact Split.nil | (apply Split.cons; (repeat (first | with_reducible exact Take.here | apply Take.there)))))) ?_
  rintro v1 L1 ⟨rfl, rfl⟩
  refine swl_app ?_
  refine s_pu (pu_neq rfl rfl) ?_
  refine swl_sub _ (.cons (t := 1) rfl (.cons (t := 2) rfl (.cons (t := 7) rfl .nil))) ?_
  refine swl_nil ?_
  refine then_n ?_
  refine swp_cond (b := _) rfl (fun h7 => ?_) (fun h7 => ?_)
  · skip   -- 7 T
    refine swp_seq ?_
    refine swp_region ?_
    refine s_pu (pu_assign rfl) ?_
    refine swl_sub _ (.cons (t := 4) rfl .nil) ?_
    refine swl_nil ?_
    refine then_n ?_
    refine swp_ret ?_
    refine then_r ?_
    have h0 : chkFrom 0 (nums G) ≠ 0 := by simpa using h7
    refine done_ret (ro μ :: K) (.tmp rfl .nil) ⟨by unfold askS; rw [if_pos h0]; rfl, rfl⟩ (.cons .here (Split.skip Split.all))
  · skip   -- 7 F
    have h0 : chkFrom 0 (nums G) = 0 := by simpa using h7
    refine swp_skip ?_
    refine then_n ?_
    refine swp_seq ?_
    refine swp_seq ?_
    refine swp_region ?_
    refine s_pu (pu_move rfl) ?_
    refine s_pu (pu_func (vs := []) (us := [_]) rfl rfl) ?_
    refine swl_ent (L' := blk b2 54 [.slice A G.length cap] :: ro μ :: K) Ent.swap ?_
    refine s_ef (ef_fn (R := []) (containsf_spec cv cs _ 81 [] [.pointer (some ⟨b2, 0, none⟩)] (outG G.length) (Ints.weak hc) (fun x _ => asked1_spec b2 A G.length cap (by omega) (ro μ :: K) x)) rfl rfl Split.all) ?_
    rintro v1 L1 ⟨rfl, rfl⟩
    rw [List.append_nil]
    refine swl_sub _ (.cons (t := 10) rfl .nil) ?_
    refine swl_nil ?_
    refine then_n ?_
    refine swp_cond (b := _) rfl (fun h10 => ?_) (fun h10 => ?_)
    · skip   -- 10 T
      refine swp_seq ?_
      refine swp_region ?_
      refine s_pu (pu_assign rfl) ?_
      refine swl_sub _ (.cons (t := 4) rfl .nil) ?_
      refine swl_nil ?_
      refine then_n ?_
      refine swp_ret ?_
      refine then_r ?_
      refine done_ret (ro μ :: K) (.tmp rfl .nil) ⟨by unfold askS; rw [if_neg (not_not_intro h0), hln, if_pos h10]; rfl, rfl⟩ (Split.skip Split.all)
    · skip   -- 10 F
      refine swp_skip ?_
      refine then_n ?_
      refine swp_seq ?_
      refine swp_region ?_
      refine s_pu (pu_assign rfl) ?_
      refine swl_sub _ (.cons (t := 4) rfl .nil) ?_
      refine swl_nil ?_
      refine then_n ?_
      refine swp_ret ?_
      refine done_ret (ro μ :: K) (.tmp rfl .nil) ⟨by unfold askS; rw [if_neg (not_not_intro h0), hln, if_neg (by rw [h10]; simp)]; rfl, rfl⟩ (Split.skip Split.all)
theorem ints_blk {b : Nat} {cs : List Int} {n : Nat} (hn : n = cs.length) (hs : cs.length ≤ 9223372036854775807) {L : List Assn} [InB b L 3 (cs.flatMap (icsk .i64))] : Ints L (.slice (some ⟨b, 0, none⟩) n n) cs := by
  subst hn
  refine ⟨_, _, rfl, hs, fun _ => ⟨b, 0, rfl, fun j x hx => ld_one (ty := 3) (cs := cs.flatMap (icsk .i64)) ?_⟩⟩
  have := flat_get (icsk_len .i64) cs [] j x hx 0 (.int .i64 x) rfl
  rw [List.append_nil, Nat.mul_one] at this
  rw [Nat.zero_add]; exact this
theorem ints_nil {L : List Assn} : Ints L (.slice none 0 0) [] := ⟨none, 0, rfl, by decide, fun h => by simp at h⟩

def both1 (f : Bool → Bool → Bool) (S T : Nat → Bool) (k : Nat) : Nat → Bool := fun j => if k = 0 then S j else f (S j) (T j)
theorem both1_one {f : Bool → Bool → Bool} {S T : Nat → Bool} : both1 f S T 1 = fun j => f (S j) (T j) := funext fun j => by unfold both1; rw [if_neg (by omega)]
theorem both1_zero {f : Bool → Bool → Bool} {S T : Nat → Bool} : both1 f S T 0 = S := funext fun j => by unfold both1; rw [if_pos rfl]
set_option maxHeartbeats 1000000 in
theorem common_spec (μ : PH) (v : Value) (G : List (Value × List Int)) (a b : Nat) (hG : Graph μ v G) (hn : G.length ≤ 1048576) (hg : Good (nums G)) (ha : a < G.length) (hb : b < G.length) : Spec Tryd.prog 66 [v, .int .i64 (a : Nat), .int .i64 (b : Nat)] [ro μ]
    (fun r L => ∃ bb c ex p, r = .slice (some ⟨bb, 0, none⟩) 1 c ∧ L = [blk bb 25 (.pointer (some ⟨p, 0, none⟩) :: ex), mset p G.length (fun j => up (nums G) a j && up (nums G) b j), ro μ]) := by
  refine Spec.of 32 Tryd.func66 rfl rfl rfl ?_
  refine swp_seq ?_
  refine swp_region ?_
  refine s_pu (pu_assign rfl) ?_
  refine swl_sub _ (.cons (t := 0) rfl (.cons (t := 1) rfl (.cons (t := 2) rfl .nil))) ?_
  refine swl_nil ?_
  refine then_n ?_
  refine swp_seq ?_
  refine swp_region ?_
  refine s_pu (pu_move rfl) ?_
  refine s_pu (pu_move rfl) ?_
  refine s_ef (ef_fn (up_spec μ v G a hG hn hg ha) rfl rfl (by repeat (first | exact Split.nil | (apply Split.cons; (repeat (first | with_reducible exact Take.here | apply Take.there)))))) ?_
  rintro v1 L1 ⟨ba, ca, ea, pa, rfl, rfl⟩
  refine swl_app ?_
  refine s_pu (pu_move rfl) ?_
  refine s_pu (pu_move rfl) ?_
  refine s_ef (ef_fn (up_spec μ v G b hG hn hg hb) rfl rfl (by repeat (first | exact Split.nil | (apply Split.cons; (repeat (first | with_reducible exact Take.here | apply Take.there)))))) ?_
  rintro v1 L1 ⟨bb, cb, eb, pb, rfl, rfl⟩
  refine swl_app ?_
  refine s_pu (pu_assign rfl) ?_
  refine s_pu (pu_assign rfl) ?_
  refine swl_sub _ (.cons (t := 7) rfl (.cons (t := 8) rfl .nil)) ?_
  refine swl_ent (Split.ent' (K := [blk ba 25 (.pointer (some ⟨pa, 0, none⟩) :: ea), mset pa G.length (up (nums G) a), blk bb 25 (.pointer (some ⟨pb, 0, none⟩) :: eb), mset pb G.length (up (nums G) b), ro μ]) (by repeat (first | exact Split.nil | (apply Split.cons; (repeat (first | with_reducible exact Take.here | apply Take.there)))))) ?_
  refine swl_nil ?_
  refine then_n ?_
  refine swp_seq ?_
  refine swp_seq ?_
  refine swp_region ?_
  refine s_pu (pu_move rfl) ?_
  refine s_pu (pu_len rfl) ?_
  refine s_pu (pu_move rfl) ?_
  refine swl_sub _ (.cons (t := 7) rfl (.cons (t := 8) rfl (.cons (t := 17) rfl (.cons (t := 18) rfl (.cons (t := 19) rfl .nil))))) ?_
  refine swl_nil ?_
  refine then_n ?_
  refine swp_block ?_
  refine swp_loop (ι := Nat) (fun k env L => env = [(7, .slice (some ⟨ba, 0, none⟩) 1 ca), (8, .slice (some ⟨bb, 0, none⟩) 1 cb), (17, .slice (some ⟨ba, 0, none⟩) 1 ca), (18, .int .i64 1), (19, .int .i64 (k : Nat))] ∧ L = [blk ba 25 (.pointer (some ⟨pa, 0, none⟩) :: ea), mset pa G.length (both1 and (up (nums G) a) (up (nums G) b) k), blk bb 25 (.pointer (some ⟨pb, 0, none⟩) :: eb), mset pb G.length (up (nums G) b), ro μ] ∧ k ≤ 1) (fun k => 1 - k) 0 ⟨rfl, by rw [both1_zero], by omega⟩ ?_
  rintro k env L ⟨rfl, rfl, hk⟩
  refine swp_seq ?_
  refine swp_region ?_
  refine s_pu (pu_lss rfl rfl) ?_
  refine swl_sub _ (.cons (t := 7) rfl (.cons (t := 8) rfl (.cons (t := 17) rfl (.cons (t := 18) rfl (.cons (t := 19) rfl (.cons (t := 20) rfl .nil)))))) ?_
  refine swl_nil ?_
  refine then_n ?_
  refine swp_seq ?_
  refine swp_cond (b := _) rfl (fun h20 => ?_) (fun h20 => ?_)
  · skip   -- 20 T
    have h20' := of_decide_eq_true h20
    obtain rfl : k = 0 := by omega
    rw [both1_zero]
    refine swp_skip ?_
    refine then_n ?_
    refine swp_seq ?_
    refine swp_block ?_
    refine swp_seq ?_
    refine swp_region ?_
    refine s_pu (pu_move rfl) ?_
    refine s_pu (pu_indexAddr 0 rfl rfl (by omega) (by omega) (by omega)) ?_
    refine s_rd (rd_load rfl rfl) ?_
    refine s_pu (pu_assign rfl) ?_
    refine s_pu (pu_assign rfl) ?_
    refine swl_sub _ (.cons (t := 7) rfl (.cons (t := 8) rfl (.cons (t := 9) rfl (.cons (t := 10) rfl (.cons (t := 17) rfl (.cons (t := 18) rfl (.cons (t := 19) rfl .nil))))))) ?_
    refine swl_nil ?_
    refine then_n ?_
    refine swp_region ?_
    refine s_pu (pu_move rfl) ?_
    refine s_pu (pu_move rfl) ?_
    refine s_pu (pu_move rfl) ?_
    refine s_pu (pu_indexAddr 0 rfl rfl (by omega) (by omega) (by omega)) ?_
    refine s_rd (rd_load rfl rfl) ?_
    refine s_ef (ef_fn (and_m' pa G.length pb G.length (up (nums G) a) (up (nums G) b)) rfl rfl (by repeat (first | exact Split.nil | (apply Split.cons; (repeat (first | with_reducible exact Take.here | apply Take.there)))))) ?_
    rintro v1 L1 ⟨rfl, rfl⟩
    refine swl_app ?_
    refine swl_sub _ (.cons (t := 7) rfl (.cons (t := 8) rfl (.cons (t := 17) rfl (.cons (t := 18) rfl (.cons (t := 19) rfl .nil))))) ?_
    refine swl_ent (Split.ent' (K := [blk ba 25 (.pointer (some ⟨pa, 0, none⟩) :: ea), mset pa G.length (fun j => up (nums G) a j && up (nums G) b j), blk bb 25 (.pointer (some ⟨pb, 0, none⟩) :: eb), mset pb G.length (up (nums G) b), ro μ]) (by repeat (first | exact Split.nil | (apply Split.cons; (repeat (first | with_reducible exact Take.here | apply Take.there)))))) ?_
    refine swl_nil ?_
    refine block_n ?_
    refine then_n ?_
    refine swp_region ?_
    refine s_pu (pu_add_as ((1 : Nat) : Int) rfl rfl (by omega) (by omega) (by omega)) ?_
    refine s_pu (pu_move rfl) ?_
    refine swl_sub _ (.cons (t := 7) rfl (.cons (t := 8) rfl (.cons (t := 17) rfl (.cons (t := 18) rfl (.cons (t := 19) rfl .nil))))) ?_
    refine swl_nil ?_
    exact then_n ⟨1, ⟨rfl, by rw [both1_one], by omega⟩, by omega⟩
  · skip   -- 20 F
    have h20' := of_decide_eq_false h20
    obtain rfl : k = 1 := by omega
    rw [both1_one]
    refine swp_exit ?_
    refine then_x ?_
    refine then_x ?_
    refine block_hit rfl ?_
    refine then_n ?_
    refine swp_seq ?_
    refine swp_region ?_
    refine s_pu (pu_move rfl) ?_
    refine s_pu (pu_assign rfl) ?_
    refine swl_sub _ (.cons (t := 6) rfl .nil) ?_
    refine swl_nil ?_
    refine then_n ?_
    refine swp_ret ?_
    exact done_ret [blk ba 25 (.pointer (some ⟨pa, 0, none⟩) :: ea), mset pa G.length (fun j => up (nums G) a j && up (nums G) b j), ro μ] (.tmp rfl .nil) ⟨ba, ca, ea, pa, rfl, rfl⟩ (by repeat (first | exact Split.nil | (apply Split.cons; (repeat (first | with_reducible exact Take.here | apply Take.there)))))
end SX
namespace SX
open Go Go.Proofs

theorem own_empty {e n b : Nat} {L : List Assn} : Ent (blk b e [] :: L) (own e n (.slice (some ⟨b, 0, none⟩) 0 0) 0 [] :: L) := by
  have := own_close (e := e) (n := n) (b := b) (l := 0) (cap := 0) (xs := []) (ex := []) (by simp) (by simp) (Nat.le_refl _) (Nat.zero_le _) (L := L)
  exact this
def bst (k : Nat) (v5 : Value) (b12 q n : Nat) (S : Nat → Bool) : List Assn := if k = 0 then [own 25 1 (.slice (some ⟨b12, 0, none⟩) 0 0) 0 []] else [own 25 1 v5 1 [.pointer (some ⟨q, 0, none⟩)], mset q n S]

set_option maxHeartbeats 2000000 in
theorem best_spec (μ : PH) (v : Value) (bb c : Nat) (ex : List Value) (p : Nat) (G : List (Value × List Int)) (S : Nat → Bool) (hT : RowAt μ 0 0 tabV) (hG : Graph μ v G) (hn : G.length ≤ 1048576) (hg : Good (nums G)) (h0 : 0 < G.length) :
    Spec Tryd.prog 65 [v, .slice (some ⟨bb, 0, none⟩) 1 c] [blk bb 25 (.pointer (some ⟨p, 0, none⟩) :: ex), mset p G.length S, ro μ]
    (fun r L => L = [own 3 1 r (elsTo G.length (bestT (nums G) S G.length)).length ((elsTo G.length (bestT (nums G) S G.length)).flatMap (icsk .i64)), ro μ]) := by
  obtain ⟨gb, off, cap, hv, c1, c2, hr⟩ := hG.1.pos h0
  subst hv
  have hrow := graph_rows hG hg hr
  refine Spec.of 48 Tryd.func65 rfl rfl rfl ?_
  refine swp_seq ?_
  refine swp_region ?_
  refine s_pu (pu_assign rfl) ?_
  refine swl_sub _ (.cons (t := 0) rfl (.cons (t := 1) rfl .nil)) ?_
  refine swl_nil ?_
  refine then_n ?_
  refine swp_seq ?_
  refine swp_region ?_
  refine s_ef (ef_bldS (qs := []) rfl rfl rfl) ?_
  intro b12
  refine s_pu (pu_assign rfl) ?_
  refine swl_sub _ (.cons (t := 0) rfl (.cons (t := 1) rfl (.cons (t := 5) rfl .nil))) ?_
  refine swl_ent (own_empty (n := 1)) ?_
  refine swl_nil ?_
  refine then_n ?_
  refine swp_seq ?_
  refine swp_seq ?_
  refine swp_region ?_
  refine s_pu (pu_move rfl) ?_
  refine s_pu (pu_len rfl) ?_
  refine s_pu (pu_move rfl) ?_
  refine swl_sub _ (.cons (t := 0) rfl (.cons (t := 1) rfl (.cons (t := 5) rfl (.cons (t := 13) rfl (.cons (t := 14) rfl (.cons (t := 15) rfl .nil)))))) ?_
  refine swl_nil ?_
  refine then_n ?_
  refine swp_block ?_
  refine swp_loop (ι := Nat × Value × Nat) (fun k env L => env = [(0, .slice (some ⟨gb, off, none⟩) G.length cap), (1, .slice (some ⟨bb, 0, none⟩) 1 c), (5, if k.1 = 0 then .slice (some ⟨b12, 0, none⟩) 0 0 else k.2.1), (13, .slice (some ⟨bb, 0, none⟩) 1 c), (14, .int .i64 1), (15, .int .i64 (k.1 : Nat))] ∧ L = bst k.1 k.2.1 b12 k.2.2 G.length S ++ [blk bb 25 (.pointer (some ⟨p, 0, none⟩) :: ex), mset p G.length S, ro μ] ∧ k.1 ≤ 1) (fun k => 1 - k.1) (0, .slice none 0 0, 0) ⟨rfl, rfl, by omega⟩ ?_
  rintro ⟨k, v5, q⟩ env L ⟨rfl, rfl, hk⟩
  dsimp only at hk ⊢
  refine swp_seq ?_
  refine swp_region ?_
  refine s_pu (pu_lss rfl rfl) ?_
  refine swl_sub _ (.cons (t := 0) rfl (.cons (t := 1) rfl (.cons (t := 5) rfl (.cons (t := 13) rfl (.cons (t := 14) rfl (.cons (t := 15) rfl (.cons (t := 16) rfl .nil))))))) ?_
  refine swl_nil ?_
  refine then_n ?_
  refine swp_seq ?_
  refine swp_cond (b := _) rfl (fun h16 => ?_) (fun h16 => ?_)
  · skip   -- 16 T
    have h16' := of_decide_eq_true h16
    obtain rfl : k = 0 := by omega
    rw [if_pos rfl]
    show swp _ _ _ _ _ _ [own 25 1 (.slice (some ⟨b12, 0, none⟩) 0 0) 0 [], blk bb 25 (.pointer (some ⟨p, 0, none⟩) :: ex), mset p G.length S, ro μ]
    refine swp_skip ?_
    refine then_n ?_
    refine swp_seq ?_
    refine swp_block ?_
    refine swp_seq ?_
    refine swp_region ?_
    refine s_pu (pu_indexAddr 0 rfl rfl (by omega) (by omega) (by omega)) ?_
    refine s_rd (rd_load rfl rfl) ?_
    refine s_pu (pu_assign rfl) ?_
    refine swl_sub _ (.cons (t := 0) rfl (.cons (t := 1) rfl (.cons (t := 5) rfl (.cons (t := 7) rfl (.cons (t := 13) rfl (.cons (t := 14) rfl (.cons (t := 15) rfl .nil))))))) ?_
    refine swl_nil ?_
    refine then_n ?_
    refine swp_region ?_
    refine s_pu (pu_move rfl) ?_
    refine s_pu (pu_move rfl) ?_
    refine s_ef (ef_fn (copy_m p G.length S) rfl rfl (by repeat (first | exact Split.nil | (apply Split.cons; (repeat (first | with_reducible exact Take.here | apply Take.there)))))) ?_
    rintro v1 L1 ⟨q, rfl, rfl⟩
    refine swl_app ?_
    refine s_ef (ef_bldS (qs := [(0, _)]) rfl rfl rfl) ?_
    intro b22
    refine s_ef (ef_append_lit (l := 0) (m := 1) rfl rfl (by repeat (first | exact Split.nil | (apply Split.cons; (repeat (first | with_reducible exact Take.here | apply Take.there))))) (by decide) (by decide)) ?_
    rintro v' hv'
    skip
    refine s_pu (pu_assign rfl) ?_
    refine swl_sub _ (.cons (t := 0) rfl (.cons (t := 1) rfl (.cons (t := 5) rfl (.cons (t := 13) rfl (.cons (t := 14) rfl (.cons (t := 15) rfl .nil)))))) ?_
    rw [Nat.zero_add, List.nil_append]
    refine swl_ent (Split.ent' (K := [own 25 1 v' 1 [.pointer (some ⟨q, 0, none⟩)], mset q G.length S, blk bb 25 (.pointer (some ⟨p, 0, none⟩) :: ex), mset p G.length S, ro μ]) (by repeat (first | exact Split.nil | (apply Split.cons; (repeat (first | with_reducible exact Take.here | apply Take.there)))))) ?_
    refine swl_nil ?_
    refine block_n ?_
    refine then_n ?_
    refine swp_region ?_
    refine s_pu (pu_add_as ((1 : Nat) : Int) rfl rfl (by omega) (by omega) (by omega)) ?_
    refine s_pu (pu_move rfl) ?_
    refine swl_sub _ (.cons (t := 0) rfl (.cons (t := 1) rfl (.cons (t := 5) rfl (.cons (t := 13) rfl (.cons (t := 14) rfl (.cons (t := 15) rfl .nil)))))) ?_
    refine swl_nil ?_
    exact then_n ⟨(1, v', q), ⟨rfl, rfl, by simp⟩, by show 1 - 1 < 1 - 0; omega⟩
  · skip   -- 16 F
    have h16' := of_decide_eq_false h16
    obtain rfl : k = 1 := by omega
    rw [if_neg (by omega)]
    show swp _ _ _ _ _ _ [own 25 1 v5 1 [.pointer (some ⟨q, 0, none⟩)], mset q G.length S, blk bb 25 (.pointer (some ⟨p, 0, none⟩) :: ex), mset p G.length S, ro μ]
    refine swp_own (fun h0 l0 _ => by omega) (fun ob oc oex hv k1 k2 k3 k4 => ?_)
    subst hv
    rw [show [Value.pointer (some ⟨q, 0, none⟩)] ++ oex = .pointer (some ⟨q, 0, none⟩) :: oex from rfl]
    refine swp_exit ?_
    refine then_x ?_
    refine then_x ?_
    refine block_hit rfl ?_
    refine then_n ?_
    refine swp_seq ?_
    refine swp_seq ?_
    refine swp_region ?_
    refine s_pu (pu_move rfl) ?_
    refine s_pu (pu_len_row hG.1 rfl) ?_
    refine s_pu (pu_move rfl) ?_
    refine swl_sub _ (.cons (t := 1) rfl (.cons (t := 5) rfl (.cons (t := 25) rfl (.cons (t := 26) rfl (.cons (t := 27) rfl .nil))))) ?_
    refine swl_nil ?_
    refine then_n ?_
    refine swp_block ?_
    have e0 : mset q G.length S = mset q G.length (bestT (nums G) S 0) := by congr 1; funext j; unfold bestT; simp
    rw [e0]
    refine swp_loop (ι := Nat) (fun k env L => env = [(1, .slice (some ⟨bb, 0, none⟩) 1 c), (5, .slice (some ⟨ob, 0, none⟩) 1 oc), (25, .slice (some ⟨gb, off, none⟩) G.length cap), (26, .int .i64 (G.length : Nat)), (27, .int .i64 (k : Nat))] ∧ L = [blk ob 25 (.pointer (some ⟨q, 0, none⟩) :: oex), mset q G.length (bestT (nums G) S k), blk bb 25 (.pointer (some ⟨p, 0, none⟩) :: ex), mset p G.length S, ro μ] ∧ k ≤ G.length) (fun k => G.length - k) 0 ⟨rfl, rfl, by omega⟩ ?_
    rintro k env L ⟨rfl, rfl, hk⟩
    refine swp_seq ?_
    refine swp_region ?_
    refine s_pu (pu_lss rfl rfl) ?_
    refine swl_sub _ (.cons (t := 1) rfl (.cons (t := 5) rfl (.cons (t := 25) rfl (.cons (t := 26) rfl (.cons (t := 27) rfl (.cons (t := 28) rfl .nil)))))) ?_
    refine swl_nil ?_
    refine then_n ?_
    refine swp_seq ?_
    refine swp_cond (b := _) rfl (fun h28 => ?_) (fun h28 => ?_)
    · skip   -- 28 T
      have h28' : k < G.length := by have := of_decide_eq_true h28; omega
      obtain ⟨x, hx, hxc, hxr, hxo, hxg⟩ := hrow k (by omega)
      have hxs := hxr.small
      refine swp_skip ?_
      refine then_n ?_
      refine swp_seq ?_
      refine swp_block ?_
      refine swp_seq ?_
      refine swp_region ?_
      refine s_pu (pu_move rfl) ?_
      refine s_pu (pu_indexAddr (off + k * 1) rfl rfl (by omega) (by omega) (by rw [Int.toNat_natCast])) ?_
      refine s_rd (rd_ro rfl hxc) ?_
      refine s_pu (pu_assign rfl) ?_
      refine s_pu (pu_assign rfl) ?_
      refine swl_sub _ (.cons (t := 1) rfl (.cons (t := 5) rfl (.cons (t := 8) rfl (.cons (t := 9) rfl (.cons (t := 25) rfl (.cons (t := 26) rfl (.cons (t := 27) rfl .nil))))))) ?_
      refine swl_nil ?_
      refine then_n ?_
      refine swp_seq ?_
      refine swp_region ?_
      refine s_pu (pu_move rfl) ?_
      refine s_pu (pu_move rfl) ?_
      refine s_ef (ef_fn (bhas_spec bb c ex p G.length S k (by omega) hn) rfl rfl (by repeat (first | exact Split.nil | (apply Split.cons; (repeat (first | with_reducible exact Take.here | apply Take.there)))))) ?_
      rintro v1 L1 ⟨rfl, rfl⟩
      refine swl_app ?_
      refine swl_sub _ (.cons (t := 1) rfl (.cons (t := 5) rfl (.cons (t := 9) rfl (.cons (t := 25) rfl (.cons (t := 26) rfl (.cons (t := 27) rfl (.cons (t := 34) rfl .nil))))))) ?_
      refine swl_ent (Split.ent' (K := [blk ob 25 (.pointer (some ⟨q, 0, none⟩) :: oex), mset q G.length (bestT (nums G) S k), blk bb 25 (.pointer (some ⟨p, 0, none⟩) :: ex), mset p G.length S, ro μ]) (by repeat (first | exact Split.nil | (apply Split.cons; (repeat (first | with_reducible exact Take.here | apply Take.there)))))) ?_
      refine swl_nil ?_
      refine then_n ?_
      refine swp_cond (b := _) rfl (fun h34 => ?_) (fun h34 => ?_)
      · skip   -- 34 T
        refine swp_seq ?_
        refine swp_region ?_
        refine s_pu (pu_move rfl) ?_
        refine s_pu (pu_len_row hxr rfl) ?_
        refine s_pu (pu_move rfl) ?_
        refine swl_sub _ (.cons (t := 1) rfl (.cons (t := 5) rfl (.cons (t := 25) rfl (.cons (t := 26) rfl (.cons (t := 27) rfl (.cons (t := 35) rfl (.cons (t := 36) rfl (.cons (t := 37) rfl .nil)))))))) ?_
        refine swl_nil ?_
        refine then_n ?_
        refine swp_block ?_
        refine swp_sub _ (.cons (t := 1) rfl (.cons (t := 5) rfl (.cons (t := 25) rfl (.cons (t := 26) rfl (.cons (t := 27) rfl (.cons (t := 35) rfl (.cons (t := 36) rfl (.cons (t := 37) rfl .nil)))))))) ?_
        have e0 : (bestT (nums G) S k) = fun j => bestT (nums G) S k j && !decide ((j : Int) ∈ x.2.take 0) := funext fun j => by simp
        rw [e0]
        refine swp_loop (ι := Nat) (fun i env L => env = [(1, .slice (some ⟨bb, 0, none⟩) 1 c), (5, .slice (some ⟨ob, 0, none⟩) 1 oc), (25, .slice (some ⟨gb, off, none⟩) G.length cap), (26, .int .i64 (G.length : Nat)), (27, .int .i64 (k : Nat)), (35, x.1), (36, .int .i64 (x.2.length : Nat)), (37, .int .i64 (i : Nat))] ∧ L = [blk ob 25 (.pointer (some ⟨q, 0, none⟩) :: oex), mset q G.length (fun j => bestT (nums G) S k j && !decide ((j : Int) ∈ x.2.take i)), blk bb 25 (.pointer (some ⟨p, 0, none⟩) :: ex), mset p G.length S, ro μ] ∧ i ≤ x.2.length) (fun i => x.2.length - i) 0 ⟨rfl, rfl, by omega⟩ ?_
        rintro i env L ⟨rfl, rfl, hi⟩
        refine swp_seq ?_
        refine swp_region ?_
        refine s_pu (pu_lss rfl rfl) ?_
        refine swl_sub _ (.cons (t := 1) rfl (.cons (t := 5) rfl (.cons (t := 25) rfl (.cons (t := 26) rfl (.cons (t := 27) rfl (.cons (t := 35) rfl (.cons (t := 36) rfl (.cons (t := 37) rfl (.cons (t := 38) rfl .nil))))))))) ?_
        refine swl_nil ?_
        refine then_n ?_
        refine swp_seq ?_
        refine swp_cond (b := _) rfl (fun h38 => ?_) (fun h38 => ?_)
        · skip   -- 38 T
          have h38' : i < x.2.length := by have := of_decide_eq_true h38; omega
          obtain ⟨pb, poff, pcap, hpv, p1, p2, hpr⟩ := hxr.pos (by omega)
          obtain ⟨y, hp⟩ : ∃ q, x.2[i]? = some q := ⟨_, List.getElem?_eq_getElem h38'⟩
          have hpk := hpr.elem (icsk_len .i64) hp
          have hpg := hxg y (List.mem_of_getElem? hp)
          obtain ⟨m, rfl⟩ : ∃ i : Nat, y = i := ⟨y.toNat, by omega⟩
          rw [hpv]
          refine swp_skip ?_
          refine then_n ?_
          refine swp_seq ?_
          refine swp_block ?_
          refine swp_seq ?_
          refine swp_region ?_
          refine s_pu (pu_indexAddr (poff + i * 1) rfl rfl (by omega) (by omega) (by rw [Int.toNat_natCast])) ?_
          refine s_rd (rd_ro rfl hpk.cell) ?_
          refine s_pu (pu_assign rfl) ?_
          refine swl_sub _ (.cons (t := 1) rfl (.cons (t := 5) rfl (.cons (t := 11) rfl (.cons (t := 25) rfl (.cons (t := 26) rfl (.cons (t := 27) rfl (.cons (t := 35) rfl (.cons (t := 36) rfl (.cons (t := 37) rfl .nil))))))))) ?_
          refine swl_nil ?_
          refine then_n ?_
          refine swp_region ?_
          refine s_pu (pu_move rfl) ?_
          refine s_pu (pu_move rfl) ?_
          refine s_ef (ef_fn (bdrop_spec ob oc oex q G.length _ m (by omega) hn) rfl rfl (by repeat (first | exact Split.nil | (apply Split.cons; (repeat (first | with_reducible exact Take.here | apply Take.there)))))) ?_
          rintro v1 L1 ⟨rfl, rfl⟩
          refine swl_app ?_
          refine swl_sub _ (.cons (t := 1) rfl (.cons (t := 5) rfl (.cons (t := 25) rfl (.cons (t := 26) rfl (.cons (t := 27) rfl (.cons (t := 35) rfl (.cons (t := 36) rfl (.cons (t := 37) rfl .nil)))))))) ?_
          have e1 : (fun j => (bestT (nums G) S k j && !decide ((j : Int) ∈ x.2.take i)) && !decide (j = m)) = fun j => bestT (nums G) S k j && !decide ((j : Int) ∈ x.2.take (i + 1)) := funext fun j => by
            rw [List.take_add_one, hp]
            by_cases e : j = m
            · subst e; simp
            · have : (j : Int) ≠ m := by omega
              simp [e, this]
          rw [e1]
          refine swl_ent (Split.ent' (K := [blk ob 25 (.pointer (some ⟨q, 0, none⟩) :: oex), mset q G.length (fun j => bestT (nums G) S k j && !decide ((j : Int) ∈ x.2.take (i + 1))), blk bb 25 (.pointer (some ⟨p, 0, none⟩) :: ex), mset p G.length S, ro μ]) (by repeat (first | exact Split.nil | (apply Split.cons; (repeat (first | with_reducible exact Take.here | apply Take.there)))))) ?_
          refine swl_nil ?_
          refine block_n ?_
          refine then_n ?_
          refine swp_region ?_
          refine s_pu (pu_add_as ((i + 1 : Nat) : Int) rfl rfl (by omega) (by omega) (by omega)) ?_
          refine s_pu (pu_move rfl) ?_
          refine swl_sub _ (.cons (t := 1) rfl (.cons (t := 5) rfl (.cons (t := 25) rfl (.cons (t := 26) rfl (.cons (t := 27) rfl (.cons (t := 35) rfl (.cons (t := 36) rfl (.cons (t := 37) rfl .nil)))))))) ?_
          refine swl_nil ?_
          exact then_n ⟨i + 1, ⟨rfl, rfl, h38'⟩, by omega⟩
        · skip   -- 38 F
          have h38' := of_decide_eq_false h38
          obtain rfl : i = x.2.length := by omega
          have e1 : (fun j => bestT (nums G) S k j && !decide ((j : Int) ∈ x.2.take x.2.length)) = bestT (nums G) S (k + 1) := funext fun j => by
            rw [bestT_succ, hxo, List.take_length, h34, Bool.true_and]
          rw [e1]
          refine swp_exit ?_
          refine then_x ?_
          refine then_x ?_
          refine block_hit rfl ?_
          refine block_n ?_
          refine then_n ?_
          refine swp_region ?_
          refine s_pu (pu_add_as ((k + 1 : Nat) : Int) rfl rfl (by omega) (by omega) (by omega)) ?_
          refine s_pu (pu_move rfl) ?_
          refine swl_sub _ (.cons (t := 1) rfl (.cons (t := 5) rfl (.cons (t := 25) rfl (.cons (t := 26) rfl (.cons (t := 27) rfl .nil))))) ?_
          refine swl_nil ?_
          exact then_n ⟨k + 1, ⟨rfl, rfl, h28'⟩, by omega⟩
      · skip   -- 34 F
        have e1 : bestT (nums G) S k = bestT (nums G) S (k + 1) := funext fun j => by
          rw [bestT_succ, h34, Bool.false_and]; simp
        rw [e1]
        refine swp_skip ?_
        refine block_n ?_
        refine then_n ?_
        refine swp_region ?_
        refine s_pu (pu_add_as ((k + 1 : Nat) : Int) rfl rfl (by omega) (by omega) (by omega)) ?_
        refine s_pu (pu_move rfl) ?_
        refine swl_sub _ (.cons (t := 1) rfl (.cons (t := 5) rfl (.cons (t := 25) rfl (.cons (t := 26) rfl (.cons (t := 27) rfl .nil))))) ?_
        refine swl_nil ?_
        exact then_n ⟨k + 1, ⟨rfl, rfl, h28'⟩, by omega⟩
    · skip   -- 28 F
      have h28' := of_decide_eq_false h28
      obtain rfl : k = G.length := by omega
      refine swp_exit ?_
      refine then_x ?_
      refine then_x ?_
      refine block_hit rfl ?_
      refine then_n ?_
      refine swp_seq ?_
      refine swp_region ?_
      refine s_pu (pu_move rfl) ?_
      refine s_ef (ef_fn (blist_spec μ ob oc oex q G.length _ hT hn) rfl rfl (by repeat (first | exact Split.nil | (apply Split.cons; (repeat (first | with_reducible exact Take.here | apply Take.there)))))) ?_
      rintro v2 L1 rfl
      refine swl_app ?_
      refine s_pu (pu_assign rfl) ?_
      refine swl_sub _ (.cons (t := 4) rfl .nil) ?_
      refine swl_nil ?_
      refine then_n ?_
      refine swp_ret ?_
      exact done_ret [own 3 1 v2 (elsTo G.length (bestT (nums G) S G.length)).length ((elsTo G.length (bestT (nums G) S G.length)).flatMap (icsk .i64)), ro μ] (.tmp rfl .nil) rfl (by repeat (first | exact Split.nil | (apply Split.cons; (repeat (first | with_reducible exact Take.here | apply Take.there)))))
end SX
namespace SX
open Go Go.Proofs

theorem ints1 {μ : PH} {b : Nat} {a : Int} : Ints [ro μ, blk b 3 [.int .i64 a]] (.slice (some ⟨b, 0, none⟩) 1 1) [a] := by
  refine ⟨_, _, rfl, by simp, fun _ => ⟨b, 0, rfl, fun j x hx => ld_one (ty := 3) (cs := [.int .i64 a]) ?_⟩⟩
  cases j with
  | zero => obtain rfl : a = x := by simpa using hx
            rfl
  | succ j => simp at hx
theorem ints2 {μ : PH} {b : Nat} {a c : Int} : Ints [ro μ, blk b 3 [.int .i64 a, .int .i64 c]] (.slice (some ⟨b, 0, none⟩) 2 2) [a, c] := by
  refine ⟨_, _, rfl, by simp, fun _ => ⟨b, 0, rfl, fun j x hx => ld_one (ty := 3) (cs := [.int .i64 a, .int .i64 c]) ?_⟩⟩
  cases j with
  | zero => obtain rfl : a = x := by simpa using hx
            rfl
  | succ j => cases j with
    | zero => obtain rfl : c = x := by simpa using hx
              rfl
    | succ j => simp at hx

theorem anc_spec (μ : PH) (v : Value) (G : List (Value × List Int)) (a : Int) (hT : RowAt μ 0 0 tabV) (hG : Graph μ v G) (hn : G.length ≤ 1048576) : Spec Tryd.prog 40 [v, .int .i64 a] [ro μ] (Ans μ (askE (nums G) a a) (ancL (nums G) a)) := by
  have hln : (nums G).length = G.length := List.length_map _
  refine Spec.of 18 Tryd.func40 rfl rfl rfl ?_
  refine swp_seq ?_
  refine swp_region ?_
  refine s_pu (pu_assign rfl) ?_
  refine s_pu (pu_assign rfl) ?_
  refine swl_sub _ (.cons (t := 0) rfl (.cons (t := 1) rfl .nil)) ?_
  refine swl_nil ?_
  refine then_n ?_
  refine swp_seq ?_
  refine swp_seq ?_
  refine swp_region ?_
  refine s_pu (pu_move rfl) ?_
  refine s_pu (pu_move rfl) ?_
  refine s_ef (ef_bldS (qs := [(0, _)]) rfl rfl rfl) ?_
  intro b9
  refine s_ef (ef_fn (asked_spec μ v _ G [a] [blk b9 3 [.int .i64 a]] hG ints1) rfl rfl (by repeat (first | exact Split.nil | (apply Split.cons; (repeat (first | with_reducible exact Take.here | apply Take.there)))))) ?_
  rintro v1 L1 ⟨rfl, rfl⟩
  refine swl_app ?_
  rw [askS_one]
  refine s_pu (pu_assign rfl) ?_
  refine swl_sub _ (.cons (t := 0) rfl (.cons (t := 1) rfl (.cons (t := 6) rfl .nil))) ?_
  refine swl_nil ?_
  refine then_n ?_
  refine swp_seq ?_
  refine swp_region ?_
  refine s_pu (pu_move rfl) ?_
  refine s_pu (pu_neq rfl rfl) ?_
  refine swl_sub _ (.cons (t := 0) rfl (.cons (t := 1) rfl (.cons (t := 6) rfl (.cons (t := 12) rfl .nil)))) ?_
  refine swl_nil ?_
  refine then_n ?_
  refine swp_cond (b := _) rfl (fun h12 => ?_) (fun h12 => ?_)
  · skip   -- 12 T
    refine swp_seq ?_
    refine swp_region ?_
    refine s_pu (pu_move rfl) ?_
    refine s_pu (pu_assign rfl) ?_
    refine s_pu (pu_assign rfl) ?_
    refine swl_sub _ (.cons (t := 4) rfl (.cons (t := 5) rfl .nil)) ?_
    refine swl_nil ?_
    refine then_n ?_
    refine swp_ret ?_
    refine then_r ?_
    have h0 : ¬ askE (nums G) a a = 0 := by simpa using h12
    refine done_retE (own 3 1 (.slice none 0 0) 0 [] :: [ro μ]) (.tmp rfl (.tmp rfl .nil)) ⟨.slice none 0 0, rfl, by unfold ancL; rw [if_neg h0]; rfl⟩ ((Split.ent' (K := [ro μ]) (by repeat (first | exact Split.nil | (apply Split.cons; (repeat (first | with_reducible exact Take.here | apply Take.there)))))).trans own_nil_ent)
  · skip   -- 12 F
    have h0 : askE (nums G) a a = 0 := by simpa using h12
    obtain ⟨hg, i, -, rfl, -, hi, -⟩ := askE_ok h0
    rw [hln] at hi
    refine swp_skip ?_
    refine then_n ?_
    refine swp_seq ?_
    refine swp_region ?_
    refine s_pu (pu_move rfl) ?_
    refine s_pu (pu_move rfl) ?_
    refine s_ef (ef_fn (up_spec μ v G i hG hn hg hi) rfl rfl (by repeat (first | exact Split.nil | (apply Split.cons; (repeat (first | with_reducible exact Take.here | apply Take.there)))))) ?_
    rintro v1 L1 ⟨ba, ca, ea, pa, rfl, rfl⟩
    refine swl_app ?_
    refine s_ef (ef_fn (blist_spec μ ba ca ea pa G.length _ hT hn) rfl rfl (by repeat (first | exact Split.nil | (apply Split.cons; (repeat (first | with_reducible exact Take.here | apply Take.there)))))) ?_
    rintro v2 L1 rfl
    refine swl_app ?_
    refine s_pu (pu_assign rfl) ?_
    refine s_pu (pu_assign rfl) ?_
    refine swl_sub _ (.cons (t := 4) rfl (.cons (t := 5) rfl .nil)) ?_
    refine swl_nil ?_
    refine then_n ?_
    refine swp_ret ?_
    refine done_ret [own 3 1 v2 (elsTo G.length (up (nums G) i)).length ((elsTo G.length (up (nums G) i)).flatMap (icsk .i64)), ro μ] (.tmp rfl (.tmp rfl .nil)) ⟨v2, by rw [h0]; rfl, by unfold ancL; rw [if_pos h0, hln, Int.toNat_natCast]⟩ (by repeat (first | exact Split.nil | (apply Split.cons; (repeat (first | with_reducible exact Take.here | apply Take.there)))))
theorem reach_spec (μ : PH) (v : Value) (G : List (Value × List Int)) (a b : Int) (hG : Graph μ v G) (hn : G.length ≤ 1048576) : Spec Tryd.prog 37 [v, .int .i64 a, .int .i64 b] [ro μ]
    (fun r L => r = .tuple #[.bool (decide (askE (nums G) a b = 0) && up (nums G) a.toNat b.toNat), .int .i64 (askE (nums G) a b)] ∧ L = [ro μ]) := by
  have hln : (nums G).length = G.length := List.length_map _
  refine Spec.of 22 Tryd.func37 rfl rfl rfl ?_
  refine swp_seq ?_
  refine swp_region ?_
  refine s_pu (pu_assign rfl) ?_
  refine s_pu (pu_assign rfl) ?_
  refine swl_sub _ (.cons (t := 0) rfl (.cons (t := 1) rfl (.cons (t := 2) rfl .nil))) ?_
  refine swl_nil ?_
  refine then_n ?_
  refine swp_seq ?_
  refine swp_seq ?_
  refine swp_region ?_
  refine s_pu (pu_move rfl) ?_
  refine s_pu (pu_move rfl) ?_
  refine s_pu (pu_move rfl) ?_
  refine s_ef (ef_bldS (qs := [(0, _), (1, _)]) rfl rfl rfl) ?_
  intro b12
  refine s_ef (ef_fn (asked_spec μ v _ G [a, b] [blk b12 3 [.int .i64 a, .int .i64 b]] hG ints2) rfl rfl (by repeat (first | exact Split.nil | (apply Split.cons; (repeat (first | with_reducible exact Take.here | apply Take.there)))))) ?_
  rintro v1 L1 ⟨rfl, rfl⟩
  refine swl_app ?_
  rw [askS_two]
  refine s_pu (pu_assign rfl) ?_
  refine swl_sub _ (.cons (t := 0) rfl (.cons (t := 1) rfl (.cons (t := 2) rfl (.cons (t := 8) rfl .nil)))) ?_
  refine swl_nil ?_
  refine then_n ?_
  refine swp_seq ?_
  refine swp_region ?_
  refine s_pu (pu_move rfl) ?_
  refine s_pu (pu_neq rfl rfl) ?_
  refine swl_sub _ (.cons (t := 0) rfl (.cons (t := 1) rfl (.cons (t := 2) rfl (.cons (t := 8) rfl (.cons (t := 15) rfl .nil))))) ?_
  refine swl_nil ?_
  refine then_n ?_
  refine swp_cond (b := _) rfl (fun h15 => ?_) (fun h15 => ?_)
  · skip   -- 15 T
    refine swp_seq ?_
    refine swp_region ?_
    refine s_pu (pu_move rfl) ?_
    refine s_pu (pu_assign rfl) ?_
    refine s_pu (pu_assign rfl) ?_
    refine swl_sub _ (.cons (t := 6) rfl (.cons (t := 7) rfl .nil)) ?_
    refine swl_nil ?_
    refine then_n ?_
    refine swp_ret ?_
    refine then_r ?_
    have h0 : ¬ askE (nums G) a b = 0 := by simpa using h15
    exact done_ret [ro μ] (.tmp rfl (.tmp rfl .nil)) ⟨by rw [decide_eq_false h0]; rfl, rfl⟩ (by repeat (first | exact Split.nil | (apply Split.cons; (repeat (first | with_reducible exact Take.here | apply Take.there)))))
  · skip   -- 15 F
    have h0 : askE (nums G) a b = 0 := by simpa using h15
    obtain ⟨hg, i, j, rfl, rfl, hi, hj⟩ := askE_ok h0
    rw [hln] at hi hj
    refine swp_skip ?_
    refine then_n ?_
    refine swp_seq ?_
    refine swp_region ?_
    refine s_pu (pu_move rfl) ?_
    refine s_pu (pu_move rfl) ?_
    refine s_ef (ef_fn (up_spec μ v G i hG hn hg hi) rfl rfl (by repeat (first | exact Split.nil | (apply Split.cons; (repeat (first | with_reducible exact Take.here | apply Take.there)))))) ?_
    rintro v1 L1 ⟨ba, ca, ea, pa, rfl, rfl⟩
    refine swl_app ?_
    refine s_pu (pu_move rfl) ?_
    refine s_ef (ef_fn (bhas_spec ba ca ea pa G.length _ j hj hn) rfl rfl (by repeat (first | exact Split.nil | (apply Split.cons; (repeat (first | with_reducible exact Take.here | apply Take.there)))))) ?_
    rintro v1 L1 ⟨rfl, rfl⟩
    refine swl_app ?_
    refine s_pu (pu_assign rfl) ?_
    refine s_pu (pu_assign rfl) ?_
    refine swl_sub _ (.cons (t := 6) rfl (.cons (t := 7) rfl .nil)) ?_
    refine swl_nil ?_
    refine then_n ?_
    refine swp_ret ?_
    exact done_ret [ro μ] (.tmp rfl (.tmp rfl .nil)) ⟨by rw [h0, decide_eq_true rfl, Bool.true_and, Int.toNat_natCast, Int.toNat_natCast]; rfl, rfl⟩ (by repeat (first | exact Split.nil | (apply Split.cons; (repeat (first | with_reducible exact Take.here | apply Take.there)))))
theorem com_spec (μ : PH) (v : Value) (G : List (Value × List Int)) (a b : Int) (hT : RowAt μ 0 0 tabV) (hG : Graph μ v G) (hn : G.length ≤ 1048576) : Spec Tryd.prog 39 [v, .int .i64 a, .int .i64 b] [ro μ] (Ans μ (askE (nums G) a b) (comL (nums G) a b)) := by
  have hln : (nums G).length = G.length := List.length_map _
  refine Spec.of 22 Tryd.func39 rfl rfl rfl ?_
  refine swp_seq ?_
  refine swp_region ?_
  refine s_pu (pu_assign rfl) ?_
  refine s_pu (pu_assign rfl) ?_
  refine swl_sub _ (.cons (t := 0) rfl (.cons (t := 1) rfl (.cons (t := 2) rfl .nil))) ?_
  refine swl_nil ?_
  refine then_n ?_
  refine swp_seq ?_
  refine swp_seq ?_
  refine swp_region ?_
  refine s_pu (pu_move rfl) ?_
  refine s_pu (pu_move rfl) ?_
  refine s_pu (pu_move rfl) ?_
  refine s_ef (ef_bldS (qs := [(0, _), (1, _)]) rfl rfl rfl) ?_
  intro b12
  refine s_ef (ef_fn (asked_spec μ v _ G [a, b] [blk b12 3 [.int .i64 a, .int .i64 b]] hG ints2) rfl rfl (by repeat (first | exact Split.nil | (apply Split.cons; (repeat (first | with_reducible exact Take.here | apply Take.there)))))) ?_
  rintro v1 L1 ⟨rfl, rfl⟩
  refine swl_app ?_
  rw [askS_two]
  refine s_pu (pu_assign rfl) ?_
  refine swl_sub _ (.cons (t := 0) rfl (.cons (t := 1) rfl (.cons (t := 2) rfl (.cons (t := 8) rfl .nil)))) ?_
  refine swl_nil ?_
  refine then_n ?_
  refine swp_seq ?_
  refine swp_region ?_
  refine s_pu (pu_move rfl) ?_
  refine s_pu (pu_neq rfl rfl) ?_
  refine swl_sub _ (.cons (t := 0) rfl (.cons (t := 1) rfl (.cons (t := 2) rfl (.cons (t := 8) rfl (.cons (t := 15) rfl .nil))))) ?_
  refine swl_nil ?_
  refine then_n ?_
  refine swp_cond (b := _) rfl (fun h15 => ?_) (fun h15 => ?_)
  · skip   -- 15 T
    refine swp_seq ?_
    refine swp_region ?_
    refine s_pu (pu_move rfl) ?_
    refine s_pu (pu_assign rfl) ?_
    refine s_pu (pu_assign rfl) ?_
    refine swl_sub _ (.cons (t := 6) rfl (.cons (t := 7) rfl .nil)) ?_
    refine swl_nil ?_
    refine then_n ?_
    refine swp_ret ?_
    refine then_r ?_
    have h0 : ¬ askE (nums G) a b = 0 := by simpa using h15
    refine done_retE (own 3 1 (.slice none 0 0) 0 [] :: [ro μ]) (.tmp rfl (.tmp rfl .nil)) ⟨.slice none 0 0, rfl, by unfold comL; rw [if_neg h0]; rfl⟩ ((Split.ent' (K := [ro μ]) (by repeat (first | exact Split.nil | (apply Split.cons; (repeat (first | with_reducible exact Take.here | apply Take.there)))))).trans own_nil_ent)
  · skip   -- 15 F
    have h0 : askE (nums G) a b = 0 := by simpa using h15
    obtain ⟨hg, i, j, rfl, rfl, hi, hj⟩ := askE_ok h0
    rw [hln] at hi hj
    refine swp_skip ?_
    refine then_n ?_
    refine swp_seq ?_
    refine swp_region ?_
    refine s_pu (pu_move rfl) ?_
    refine s_pu (pu_move rfl) ?_
    refine s_pu (pu_move rfl) ?_
    refine s_ef (ef_fn (common_spec μ v G i j hG hn hg hi hj) rfl rfl (by repeat (first | exact Split.nil | (apply Split.cons; (repeat (first | with_reducible exact Take.here | apply Take.there)))))) ?_
    rintro v1 L1 ⟨ba, ca, ea, pa, rfl, rfl⟩
    refine swl_app ?_
    refine s_ef (ef_fn (blist_spec μ ba ca ea pa G.length _ hT hn) rfl rfl (by repeat (first | exact Split.nil | (apply Split.cons; (repeat (first | with_reducible exact Take.here | apply Take.there)))))) ?_
    rintro v2 L1 rfl
    refine swl_app ?_
    refine s_pu (pu_assign rfl) ?_
    refine s_pu (pu_assign rfl) ?_
    refine swl_sub _ (.cons (t := 6) rfl (.cons (t := 7) rfl .nil)) ?_
    refine swl_nil ?_
    refine then_n ?_
    refine swp_ret ?_
    refine done_ret [own 3 1 v2 (elsTo G.length (fun k => up (nums G) i k && up (nums G) j k)).length ((elsTo G.length (fun k => up (nums G) i k && up (nums G) j k)).flatMap (icsk .i64)), ro μ] (.tmp rfl (.tmp rfl .nil)) ⟨v2, by rw [h0]; rfl, by unfold comL; rw [if_pos h0, hln, Int.toNat_natCast, Int.toNat_natCast]⟩ (by repeat (first | exact Split.nil | (apply Split.cons; (repeat (first | with_reducible exact Take.here | apply Take.there)))))
theorem bases_spec (μ : PH) (v : Value) (G : List (Value × List Int)) (a b : Int) (hT : RowAt μ 0 0 tabV) (hG : Graph μ v G) (hn : G.length ≤ 1048576) : Spec Tryd.prog 38 [v, .int .i64 a, .int .i64 b] [ro μ] (Ans μ (askE (nums G) a b) (basL (nums G) a b)) := by
  have hln : (nums G).length = G.length := List.length_map _
  refine Spec.of 23 Tryd.func38 rfl rfl rfl ?_
  refine swp_seq ?_
  refine swp_region ?_
  refine s_pu (pu_assign rfl) ?_
  refine s_pu (pu_assign rfl) ?_
  refine swl_sub _ (.cons (t := 0) rfl (.cons (t := 1) rfl (.cons (t := 2) rfl .nil))) ?_
  refine swl_nil ?_
  refine then_n ?_
  refine swp_seq ?_
  refine swp_seq ?_
  refine swp_region ?_
  refine s_pu (pu_move rfl) ?_
  refine s_pu (pu_move rfl) ?_
  refine s_pu (pu_move rfl) ?_
  refine s_ef (ef_bldS (qs := [(0, _), (1, _)]) rfl rfl rfl) ?_
  intro b12
  refine s_ef (ef_fn (asked_spec μ v _ G [a, b] [blk b12 3 [.int .i64 a, .int .i64 b]] hG ints2) rfl rfl (by repeat (first | exact Split.nil | (apply Split.cons; (repeat (first | with_reducible exact Take.here | apply Take.there)))))) ?_
  rintro v1 L1 ⟨rfl, rfl⟩
  refine swl_app ?_
  rw [askS_two]
  refine s_pu (pu_assign rfl) ?_
  refine swl_sub _ (.cons (t := 0) rfl (.cons (t := 1) rfl (.cons (t := 2) rfl (.cons (t := 8) rfl .nil)))) ?_
  refine swl_nil ?_
  refine then_n ?_
  refine swp_seq ?_
  refine swp_region ?_
  refine s_pu (pu_move rfl) ?_
  refine s_pu (pu_neq rfl rfl) ?_
  refine swl_sub _ (.cons (t := 0) rfl (.cons (t := 1) rfl (.cons (t := 2) rfl (.cons (t := 8) rfl (.cons (t := 15) rfl .nil))))) ?_
  refine swl_nil ?_
  refine then_n ?_
  refine swp_cond (b := _) rfl (fun h15 => ?_) (fun h15 => ?_)
  · skip   -- 15 T
    refine swp_seq ?_
    refine swp_region ?_
    refine s_pu (pu_move rfl) ?_
    refine s_pu (pu_assign rfl) ?_
    refine s_pu (pu_assign rfl) ?_
    refine swl_sub _ (.cons (t := 6) rfl (.cons (t := 7) rfl .nil)) ?_
    refine swl_nil ?_
    refine then_n ?_
    refine swp_ret ?_
    refine then_r ?_
    have h0 : ¬ askE (nums G) a b = 0 := by simpa using h15
    refine done_retE (own 3 1 (.slice none 0 0) 0 [] :: [ro μ]) (.tmp rfl (.tmp rfl .nil)) ⟨.slice none 0 0, rfl, by unfold basL; rw [if_neg h0]; rfl⟩ ((Split.ent' (K := [ro μ]) (by repeat (first | exact Split.nil | (apply Split.cons; (repeat (first | with_reducible exact Take.here | apply Take.there)))))).trans own_nil_ent)
  · skip   -- 15 F
    have h0 : askE (nums G) a b = 0 := by simpa using h15
    obtain ⟨hg, i, j, rfl, rfl, hi, hj⟩ := askE_ok h0
    rw [hln] at hi hj
    refine swp_skip ?_
    refine then_n ?_
    refine swp_seq ?_
    refine swp_region ?_
    refine s_pu (pu_move rfl) ?_
    refine s_pu (pu_move rfl) ?_
    refine s_pu (pu_move rfl) ?_
    refine s_pu (pu_move rfl) ?_
    refine s_ef (ef_fn (common_spec μ v G i j hG hn hg hi hj) rfl rfl (by repeat (first | exact Split.nil | (apply Split.cons; (repeat (first | with_reducible exact Take.here | apply Take.there)))))) ?_
    rintro v1 L1 ⟨ba, ca, ea, pa, rfl, rfl⟩
    refine swl_app ?_
    refine s_ef (ef_fn (best_spec μ v ba ca ea pa G _ hT hG hn hg (by omega)) rfl rfl (by repeat (first | exact Split.nil | (apply Split.cons; (repeat (first | with_reducible exact Take.here | apply Take.there)))))) ?_
    rintro v2 L1 rfl
    refine swl_app ?_
    refine s_pu (pu_assign rfl) ?_
    refine s_pu (pu_assign rfl) ?_
    refine swl_sub _ (.cons (t := 6) rfl (.cons (t := 7) rfl .nil)) ?_
    refine swl_nil ?_
    refine then_n ?_
    refine swp_ret ?_
    refine done_ret [own 3 1 v2 (elsTo G.length (bestT (nums G) (fun k => up (nums G) i k && up (nums G) j k) G.length)).length ((elsTo G.length (bestT (nums G) (fun k => up (nums G) i k && up (nums G) j k) G.length)).flatMap (icsk .i64)), ro μ] (.tmp rfl (.tmp rfl .nil)) ⟨v2, by rw [h0]; rfl, by unfold basL; rw [if_pos h0, hln, Int.toNat_natCast, Int.toNat_natCast]⟩ (by repeat (first | exact Split.nil | (apply Split.cons; (repeat (first | with_reducible exact Take.here | apply Take.there)))))
theorem only_spec (μ : PH) (v : Value) (G : List (Value × List Int)) (a b : Int) (hT : RowAt μ 0 0 tabV) (hG : Graph μ v G) (hn : G.length ≤ 1048576) : Spec Tryd.prog 41 [v, .int .i64 a, .int .i64 b] [ro μ] (Ans μ (askE (nums G) a b) (onlL (nums G) a b)) := by
  have hln : (nums G).length = G.length := List.length_map _
  refine Spec.of 43 Tryd.func41 rfl rfl rfl ?_
  refine swp_seq ?_
  refine swp_region ?_
  refine s_pu (pu_assign rfl) ?_
  refine s_pu (pu_assign rfl) ?_
  refine swl_sub _ (.cons (t := 0) rfl (.cons (t := 1) rfl (.cons (t := 2) rfl .nil))) ?_
  refine swl_nil ?_
  refine then_n ?_
  refine swp_seq ?_
  refine swp_seq ?_
  refine swp_region ?_
  refine s_pu (pu_move rfl) ?_
  refine s_pu (pu_move rfl) ?_
  refine s_pu (pu_move rfl) ?_
  refine s_ef (ef_bldS (qs := [(0, _), (1, _)]) rfl rfl rfl) ?_
  intro b16
  refine s_ef (ef_fn (asked_spec μ v _ G [a, b] [blk b16 3 [.int .i64 a, .int .i64 b]] hG ints2) rfl rfl (by repeat (first | exact Split.nil | (apply Split.cons; (repeat (first | with_reducible exact Take.here | apply Take.there)))))) ?_
  rintro v1 L1 ⟨rfl, rfl⟩
  refine swl_app ?_
  rw [askS_two]
  refine s_pu (pu_assign rfl) ?_
  refine swl_sub _ (.cons (t := 0) rfl (.cons (t := 1) rfl (.cons (t := 2) rfl (.cons (t := 8) rfl .nil)))) ?_
  refine swl_nil ?_
  refine then_n ?_
  refine swp_seq ?_
  refine swp_region ?_
  refine s_pu (pu_move rfl) ?_
  refine s_pu (pu_neq rfl rfl) ?_
  refine swl_sub _ (.cons (t := 0) rfl (.cons (t := 1) rfl (.cons (t := 2) rfl (.cons (t := 8) rfl (.cons (t := 19) rfl .nil))))) ?_
  refine swl_nil ?_
  refine then_n ?_
  refine swp_cond (b := _) rfl (fun h19 => ?_) (fun h19 => ?_)
  · skip   -- 19 T
    refine swp_seq ?_
    refine swp_region ?_
    refine s_pu (pu_move rfl) ?_
    refine s_pu (pu_assign rfl) ?_
    refine s_pu (pu_assign rfl) ?_
    refine swl_sub _ (.cons (t := 6) rfl (.cons (t := 7) rfl .nil)) ?_
    refine swl_nil ?_
    refine then_n ?_
    refine swp_ret ?_
    refine then_r ?_
    have h0 : ¬ askE (nums G) a b = 0 := by simpa using h19
    refine done_retE (own 3 1 (.slice none 0 0) 0 [] :: [ro μ]) (.tmp rfl (.tmp rfl .nil)) ⟨.slice none 0 0, rfl, by unfold onlL; rw [if_neg h0]; rfl⟩ ((Split.ent' (K := [ro μ]) (by repeat (first | exact Split.nil | (apply Split.cons; (repeat (first | with_reducible exact Take.here | apply Take.there)))))).trans own_nil_ent)
  · skip   -- 19 F
    have h0 : askE (nums G) a b = 0 := by simpa using h19
    obtain ⟨hg, i, j, rfl, rfl, hi, hj⟩ := askE_ok h0
    rw [hln] at hi hj
    refine swp_skip ?_
    refine then_n ?_
    refine swp_seq ?_
    refine swp_region ?_
    refine s_pu (pu_move rfl) ?_
    refine s_pu (pu_move rfl) ?_
    refine s_ef (ef_fn (up_spec μ v G i hG hn hg hi) rfl rfl (by repeat (first | exact Split.nil | (apply Split.cons; (repeat (first | with_reducible exact Take.here | apply Take.there)))))) ?_
    rintro v1 L1 ⟨ba, ca, ea, pa, rfl, rfl⟩
    refine swl_app ?_
    refine s_pu (pu_move rfl) ?_
    refine s_pu (pu_move rfl) ?_
    refine s_ef (ef_fn (up_spec μ v G j hG hn hg hj) rfl rfl (by repeat (first | exact Split.nil | (apply Split.cons; (repeat (first | with_reducible exact Take.here | apply Take.there)))))) ?_
    rintro v1 L1 ⟨bb, cb, eb, pb, rfl, rfl⟩
    refine swl_app ?_
    refine s_pu (pu_assign rfl) ?_
    refine s_pu (pu_assign rfl) ?_
    refine swl_sub _ (.cons (t := 9) rfl (.cons (t := 10) rfl .nil)) ?_
    refine swl_ent (Split.ent' (K := [blk ba 25 (.pointer (some ⟨pa, 0, none⟩) :: ea), mset pa G.length (up (nums G) i), blk bb 25 (.pointer (some ⟨pb, 0, none⟩) :: eb), mset pb G.length (up (nums G) j), ro μ]) (by repeat (first | exact Split.nil | (apply Split.cons; (repeat (first | with_reducible exact Take.here | apply Take.there)))))) ?_
    refine swl_nil ?_
    refine then_n ?_
    refine swp_seq ?_
    refine swp_seq ?_
    refine swp_region ?_
    refine s_pu (pu_move rfl) ?_
    refine s_pu (pu_len rfl) ?_
    refine s_pu (pu_move rfl) ?_
    refine swl_sub _ (.cons (t := 9) rfl (.cons (t := 10) rfl (.cons (t := 27) rfl (.cons (t := 28) rfl (.cons (t := 29) rfl .nil))))) ?_
    refine swl_nil ?_
    refine then_n ?_
    refine swp_block ?_
    refine swp_loop (ι := Nat) (fun k env L => env = [(9, .slice (some ⟨ba, 0, none⟩) 1 ca), (10, .slice (some ⟨bb, 0, none⟩) 1 cb), (27, .slice (some ⟨ba, 0, none⟩) 1 ca), (28, .int .i64 1), (29, .int .i64 (k : Nat))] ∧ L = [blk ba 25 (.pointer (some ⟨pa, 0, none⟩) :: ea), mset pa G.length (both1 (fun x y => x && !y) (up (nums G) i) (up (nums G) j) k), blk bb 25 (.pointer (some ⟨pb, 0, none⟩) :: eb), mset pb G.length (up (nums G) j), ro μ] ∧ k ≤ 1) (fun k => 1 - k) 0 ⟨rfl, by rw [both1_zero], by omega⟩ ?_
    rintro k env L ⟨rfl, rfl, hk⟩
    refine swp_seq ?_
    refine swp_region ?_
    refine s_pu (pu_lss rfl rfl) ?_
    refine swl_sub _ (.cons (t := 9) rfl (.cons (t := 10) rfl (.cons (t := 27) rfl (.cons (t := 28) rfl (.cons (t := 29) rfl (.cons (t := 30) rfl .nil)))))) ?_
    refine swl_nil ?_
    refine then_n ?_
    refine swp_seq ?_
    refine swp_cond (b := _) rfl (fun h30 => ?_) (fun h30 => ?_)
    · skip   -- 30 T
      have h30' := of_decide_eq_true h30
      obtain rfl : k = 0 := by omega
      rw [both1_zero]
      refine swp_skip ?_
      refine then_n ?_
      refine swp_seq ?_
      refine swp_block ?_
      refine swp_seq ?_
      refine swp_region ?_
      refine s_pu (pu_move rfl) ?_
      refine s_pu (pu_indexAddr 0 rfl rfl (by omega) (by omega) (by omega)) ?_
      refine s_rd (rd_load rfl rfl) ?_
      refine s_pu (pu_assign rfl) ?_
      refine s_pu (pu_assign rfl) ?_
      refine swl_sub _ (.cons (t := 9) rfl (.cons (t := 10) rfl (.cons (t := 11) rfl (.cons (t := 12) rfl (.cons (t := 27) rfl (.cons (t := 28) rfl (.cons (t := 29) rfl .nil))))))) ?_
      refine swl_nil ?_
      refine then_n ?_
      refine swp_region ?_
      refine s_pu (pu_move rfl) ?_
      refine s_pu (pu_move rfl) ?_
      refine s_pu (pu_move rfl) ?_
      refine s_pu (pu_indexAddr 0 rfl rfl (by omega) (by omega) (by omega)) ?_
      refine s_rd (rd_load rfl rfl) ?_
      refine s_ef (ef_fn (less_m' pa G.length pb G.length (up (nums G) i) (up (nums G) j)) rfl rfl (by repeat (first | exact Split.nil | (apply Split.cons; (repeat (first | with_reducible exact Take.here | apply Take.there)))))) ?_
      rintro v1 L1 ⟨rfl, rfl⟩
      refine swl_app ?_
      refine swl_sub _ (.cons (t := 9) rfl (.cons (t := 10) rfl (.cons (t := 27) rfl (.cons (t := 28) rfl (.cons (t := 29) rfl .nil))))) ?_
      refine swl_ent (Split.ent' (K := [blk ba 25 (.pointer (some ⟨pa, 0, none⟩) :: ea), mset pa G.length (fun k => up (nums G) i k && !up (nums G) j k), blk bb 25 (.pointer (some ⟨pb, 0, none⟩) :: eb), mset pb G.length (up (nums G) j), ro μ]) (by repeat (first | exact Split.nil | (apply Split.cons; (repeat (first | with_reducible exact Take.here | apply Take.there)))))) ?_
      refine swl_nil ?_
      refine block_n ?_
      refine then_n ?_
      refine swp_region ?_
      refine s_pu (pu_add_as ((1 : Nat) : Int) rfl rfl (by omega) (by omega) (by omega)) ?_
      refine s_pu (pu_move rfl) ?_
      refine swl_sub _ (.cons (t := 9) rfl (.cons (t := 10) rfl (.cons (t := 27) rfl (.cons (t := 28) rfl (.cons (t := 29) rfl .nil))))) ?_
      refine swl_nil ?_
      exact then_n ⟨1, ⟨rfl, by rw [both1_one], by omega⟩, by omega⟩
    · skip   -- 30 F
      have h30' := of_decide_eq_false h30
      obtain rfl : k = 1 := by omega
      rw [both1_one]
      refine swp_exit ?_
      refine then_x ?_
      refine then_x ?_
      refine block_hit rfl ?_
      refine then_n ?_
      refine swp_seq ?_
      refine swp_region ?_
      refine s_pu (pu_move rfl) ?_
      refine s_ef (ef_fn (blist_spec μ ba ca ea pa G.length _ hT hn) rfl rfl (by repeat (first | exact Split.nil | (apply Split.cons; (repeat (first | with_reducible exact Take.here | apply Take.there)))))) ?_
      rintro v2 L1 rfl
      refine swl_app ?_
      refine s_pu (pu_assign rfl) ?_
      refine s_pu (pu_assign rfl) ?_
      refine swl_sub _ (.cons (t := 6) rfl (.cons (t := 7) rfl .nil)) ?_
      refine swl_nil ?_
      refine then_n ?_
      refine swp_ret ?_
      refine done_ret [own 3 1 v2 (elsTo G.length (fun k => up (nums G) i k && !up (nums G) j k)).length ((elsTo G.length (fun k => up (nums G) i k && !up (nums G) j k)).flatMap (icsk .i64)), ro μ] (.tmp rfl (.tmp rfl .nil)) ⟨v2, by rw [h0]; rfl, by unfold onlL; rw [if_pos h0, hln, Int.toNat_natCast, Int.toNat_natCast]⟩ (by repeat (first | exact Split.nil | (apply Split.cons; (repeat (first | with_reducible exact Take.here | apply Take.there)))))
end SX
namespace SX
open Go Go.Proofs

theorem Spec.fr {P : Program} {f : FuncId} {args : List Value} {pre : List Assn} {post : Value → List Assn → Prop} (h : Spec P f args pre post) (R : List Assn) : Spec P f args (pre ++ R) (fun v L => ∃ L', post v L' ∧ L = L' ++ R) :=
  fun _ _ hw => (h.frame hw).mono fun _ _ ⟨v, L', e, p, k⟩ => ⟨v, _, e, ⟨L', p, rfl⟩, k⟩
set_option maxHeartbeats 1000000 in
theorem desc_spec (μ : PH) (v : Value) (G : List (Value × List Int)) (a : Int) (hT : RowAt μ 0 0 tabV) (hG : Graph μ v G) (hn : G.length ≤ 1048576) : Spec Tryd.prog 42 [v, .int .i64 a] [ro μ] (Ans μ (askE (nums G) a a) (desL (nums G) a)) := by
  have hln : (nums G).length = G.length := List.length_map _
  refine Spec.of 42 Tryd.func42 rfl rfl rfl ?_
  refine swp_seq ?_
  refine swp_region ?_
  refine s_pu (pu_assign rfl) ?_
  refine s_pu (pu_assign rfl) ?_
  refine swl_sub _ (.cons (t := 0) rfl (.cons (t := 1) rfl .nil)) ?_
  refine swl_nil ?_
  refine then_n ?_
  refine swp_seq ?_
  refine swp_seq ?_
  refine swp_region ?_
  refine s_pu (pu_move rfl) ?_
  refine s_pu (pu_move rfl) ?_
  refine s_ef (ef_bldS (qs := [(0, _)]) rfl rfl rfl) ?_
  intro b11
  refine s_ef (ef_fn (asked_spec μ v _ G [a] [blk b11 3 [.int .i64 a]] hG ints1) rfl rfl (by repeat (first | exact Split.nil | (apply Split.cons; (repeat (first | with_reducible exact Take.here | apply Take.there)))))) ?_
  rintro v1 L1 ⟨rfl, rfl⟩
  refine swl_app ?_
  rw [askS_one]
  refine s_pu (pu_assign rfl) ?_
  refine swl_sub _ (.cons (t := 0) rfl (.cons (t := 1) rfl (.cons (t := 6) rfl .nil))) ?_
  refine swl_nil ?_
  refine then_n ?_
  refine swp_seq ?_
  refine swp_region ?_
  refine s_pu (pu_move rfl) ?_
  refine s_pu (pu_neq rfl rfl) ?_
  refine swl_sub _ (.cons (t := 0) rfl (.cons (t := 1) rfl (.cons (t := 6) rfl (.cons (t := 14) rfl .nil)))) ?_
  refine swl_nil ?_
  refine then_n ?_
  refine swp_cond (b := _) rfl (fun h14 => ?_) (fun h14 => ?_)
  · skip   -- 14 T
    refine swp_seq ?_
    refine swp_region ?_
    refine s_pu (pu_move rfl) ?_
    refine s_pu (pu_assign rfl) ?_
    refine s_pu (pu_assign rfl) ?_
    refine swl_sub _ (.cons (t := 4) rfl (.cons (t := 5) rfl .nil)) ?_
    refine swl_nil ?_
    refine then_n ?_
    refine swp_ret ?_
    refine then_r ?_
    have h0 : ¬ askE (nums G) a a = 0 := by simpa using h14
    refine done_retE (own 3 1 (.slice none 0 0) 0 [] :: [ro μ]) (.tmp rfl (.tmp rfl .nil)) ⟨.slice none 0 0, rfl, by unfold desL; rw [if_neg h0]; rfl⟩ ((Split.ent' (K := [ro μ]) (by repeat (first | exact Split.nil | (apply Split.cons; (repeat (first | with_reducible exact Take.here | apply Take.there)))))).trans own_nil_ent)
  · skip   -- 14 F
    have h0 : askE (nums G) a a = 0 := by simpa using h14
    obtain ⟨hg, ia, -, rfl, -, hi, -⟩ := askE_ok h0
    rw [hln] at hi
    obtain ⟨gb, off, cap, hv, c1, c2, hr⟩ := hG.1.pos (by omega)
    subst hv
    have hrow := graph_rows hG hg hr
    refine swp_skip ?_
    refine then_n ?_
    refine swp_seq ?_
    refine swp_region ?_
    refine s_pu (pu_move rfl) ?_
    refine s_pu (pu_len_row hG.1 rfl) ?_
    refine s_ef (ef_fn (newbits_spec G.length (by omega) hn) rfl rfl (by repeat (first | exact Split.nil | (apply Split.cons; (repeat (first | with_reducible exact Take.here | apply Take.there)))))) ?_
    rintro v1 L1 ⟨bb, c, ex, p, rfl, rfl⟩
    refine swl_app ?_
    refine s_pu (pu_assign rfl) ?_
    refine swl_sub _ (.cons (t := 0) rfl (.cons (t := 1) rfl (.cons (t := 7) rfl .nil))) ?_
    refine swl_nil ?_
    refine then_n ?_
    refine swp_seq ?_
    refine swp_region ?_
    refine s_pu (pu_move rfl) ?_
    refine s_pu (pu_move rfl) ?_
    refine s_ef (ef_fn (bput_spec bb c ex p G.length (fun _ => false) ia hi hn) rfl rfl (by repeat (first | exact Split.nil | (apply Split.cons; (repeat (first | with_reducible exact Take.here | apply Take.there)))))) ?_
    rintro v1 L1 ⟨rfl, rfl⟩
    refine swl_app ?_
    refine swl_sub _ (.cons (t := 0) rfl (.cons (t := 1) rfl (.cons (t := 7) rfl .nil))) ?_
    rw [show (fun j => false || decide (j = ia)) = (fun j => decide (j = ia)) from funext fun j => Bool.false_or _]
    refine swl_ent (Split.ent' (K := [blk bb 25 (.pointer (some ⟨p, 0, none⟩) :: ex), mset p G.length (fun j => decide (j = ia)), ro μ]) (by repeat (first | exact Split.nil | (apply Split.cons; (repeat (first | with_reducible exact Take.here | apply Take.there)))))) ?_
    refine swl_nil ?_
    refine then_n ?_
    refine swp_seq ?_
    refine swp_seq ?_
    refine swp_region ?_
    refine s_pu (pu_move rfl) ?_
    refine s_pu (pu_add_as ((ia + 1 + 0 : Nat) : Int) rfl rfl (by omega) (by omega) (by omega)) ?_
    refine s_pu (pu_assign rfl) ?_
    refine swl_sub _ (.cons (t := 0) rfl (.cons (t := 7) rfl (.cons (t := 8) rfl .nil))) ?_
    refine swl_nil ?_
    refine then_n ?_
    refine swp_block ?_
    refine swp_loop (ι := Nat) (fun d env L => env = [(0, .slice (some ⟨gb, off, none⟩) G.length cap), (7, .slice (some ⟨bb, 0, none⟩) 1 c), (8, .int .i64 (ia + 1 + d : Nat))] ∧ L = [blk bb 25 (.pointer (some ⟨p, 0, none⟩) :: ex), mset p G.length (dnF (nums G) (fun j => decide (j = ia)) (ia + 1) d), ro μ] ∧ ia + 1 + d ≤ G.length) (fun d => G.length - d) 0 ⟨rfl, rfl, by omega⟩ ?_
    rintro d env L ⟨rfl, rfl, hd⟩
    refine swp_seq ?_
    refine swp_seq ?_
    refine swp_region ?_
    refine s_pu (pu_move rfl) ?_
    refine s_pu (pu_move rfl) ?_
    refine s_pu (pu_len_row hG.1 rfl) ?_
    refine s_pu (pu_lss rfl rfl) ?_
    refine swl_sub _ (.cons (t := 0) rfl (.cons (t := 7) rfl (.cons (t := 8) rfl (.cons (t := 27) rfl .nil)))) ?_
    refine swl_nil ?_
    refine then_n ?_
    refine swp_cond (b := _) rfl (fun h27 => ?_) (fun h27 => ?_)
    · skip   -- 27 T
      have h27' : ia + 1 + d < G.length := by have := of_decide_eq_true h27; omega
      obtain ⟨x, hx, hxc, hxr, hxo, hxg⟩ := hrow (ia + 1 + d) h27'
      have hxs := hxr.small
      have hS1 : dnF (nums G) (fun j => decide (j = ia)) (ia + 1) (d + 1) = stepDn (nums G) (ia + 1 + d) (dnF (nums G) (fun j => decide (j = ia)) (ia + 1) d) := rfl
      generalize hS : dnF (nums G) (fun j => decide (j = ia)) (ia + 1) d = S at *
      have hunf : stepDn (nums G) (ia + 1 + d) S = fun j => S j || (decide (j = ia + 1 + d) && x.2.any fun p => S p.toNat) := funext fun j => by unfold stepDn; rw [hxo]
      refine swp_skip ?_
      refine then_n ?_
      refine swp_seq ?_
      refine swp_block ?_
      refine swp_seq ?_
      refine swp_region ?_
      refine s_pu (pu_move rfl) ?_
      refine s_pu (pu_move rfl) ?_
      refine s_pu (pu_indexAddr (off + (ia + 1 + d) * 1) rfl rfl (by omega) (by omega) (by rw [Int.toNat_natCast])) ?_
      refine s_rd (rd_ro rfl hxc) ?_
      refine s_pu (pu_move rfl) ?_
      refine s_pu (pu_func (vs := [_]) (us := []) rfl rfl) ?_
      have hcl : ∀ y ∈ x.2, Spec Tryd.prog 64 ([.slice (some ⟨bb, 0, none⟩) 1 c] ++ [.int .i64 y] ++ []) [blk bb 25 (.pointer (some ⟨p, 0, none⟩) :: ex), mset p G.length S, ro μ] (fun r L => r = .bool (S y.toNat) ∧ L = [blk bb 25 (.pointer (some ⟨p, 0, none⟩) :: ex), mset p G.length S, ro μ]) := fun y hy => by
        have hyg := hxg y hy
        obtain ⟨k, rfl⟩ : ∃ k : Nat, y = k := ⟨y.toNat, by omega⟩
        have := Spec.fr (bhas_spec bb c ex p G.length S k (by omega) hn) [ro μ]
        refine Spec.mono this ?_
        rintro r L ⟨L', ⟨rfl, rfl⟩, rfl⟩
        exact ⟨by rw [Int.toNat_natCast], rfl⟩
      refine s_ef (ef_fn (containsf_spec x.1 x.2 [blk bb 25 (.pointer (some ⟨p, 0, none⟩) :: ex), mset p G.length S, ro μ] 64 [.slice (some ⟨bb, 0, none⟩) 1 c] [] (fun y => S y.toNat) (Ints.row hxr) hcl) rfl rfl (by repeat (first | exact Split.nil | (apply Split.cons; (repeat (first | with_reducible exact Take.here | apply Take.there)))))) ?_
      rintro v1 L1 ⟨rfl, rfl⟩
      refine swl_app ?_
      refine swl_sub _ (.cons (t := 0) rfl (.cons (t := 7) rfl (.cons (t := 8) rfl (.cons (t := 36) rfl .nil)))) ?_
      refine swl_nil ?_
      refine then_n ?_
      refine swp_cond (b := _) rfl (fun h36 => ?_) (fun h36 => ?_)
      · skip   -- 36 T
        have e1 : (fun j => S j || decide (j = ia + 1 + d)) = dnF (nums G) (fun j => decide (j = ia)) (ia + 1) (d + 1) := by
          rw [hS1, hunf, h36]; funext j; rw [Bool.and_true]
        refine swp_region ?_
        refine s_pu (pu_move rfl) ?_
        refine s_pu (pu_move rfl) ?_
        refine s_ef (ef_fn (bput_spec bb c ex p G.length S (ia + 1 + d) h27' hn) rfl rfl (by repeat (first | exact Split.nil | (apply Split.cons; (repeat (first | with_reducible exact Take.here | apply Take.there)))))) ?_
        rintro v1 L1 ⟨rfl, rfl⟩
        refine swl_app ?_
        refine swl_sub _ (.cons (t := 0) rfl (.cons (t := 7) rfl (.cons (t := 8) rfl .nil))) ?_
        rw [e1]
        refine swl_nil ?_
        refine block_n ?_
        refine then_n ?_
        refine swp_region ?_
        refine s_pu (pu_move rfl) ?_
        refine s_pu (pu_add_as ((ia + 1 + (d + 1) : Nat) : Int) rfl rfl (by omega) (by omega) (by omega)) ?_
        refine s_pu (pu_assign rfl) ?_
        refine swl_sub _ (.cons (t := 0) rfl (.cons (t := 7) rfl (.cons (t := 8) rfl .nil))) ?_
        refine swl_nil ?_
        exact then_n ⟨d + 1, ⟨rfl, rfl, by omega⟩, by omega⟩
      · skip   -- 36 F
        have e1 : S = dnF (nums G) (fun j => decide (j = ia)) (ia + 1) (d + 1) := by
          rw [hS1, hunf, h36]; funext j; rw [Bool.and_false, Bool.or_false]
        rw [show mset p G.length S = mset p G.length (dnF (nums G) (fun j => decide (j = ia)) (ia + 1) (d + 1)) by rw [← e1]]
        refine swp_skip ?_
        refine block_n ?_
        refine then_n ?_
        refine swp_region ?_
        refine s_pu (pu_move rfl) ?_
        refine s_pu (pu_add_as ((ia + 1 + (d + 1) : Nat) : Int) rfl rfl (by omega) (by omega) (by omega)) ?_
        refine s_pu (pu_assign rfl) ?_
        refine swl_sub _ (.cons (t := 0) rfl (.cons (t := 7) rfl (.cons (t := 8) rfl .nil))) ?_
        refine swl_nil ?_
        exact then_n ⟨d + 1, ⟨rfl, rfl, by omega⟩, by omega⟩
    · skip   -- 27 F
      have h27' := of_decide_eq_false h27
      have e1 : dnF (nums G) (fun j => decide (j = ia)) (ia + 1) d = dn (nums G) ia := by unfold dn; rw [hln, show G.length - (ia + 1) = d by omega]
      rw [e1]
      refine swp_exit ?_
      refine then_x ?_
      refine then_x ?_
      refine block_hit rfl ?_
      refine then_n ?_
      refine swp_seq ?_
      refine swp_region ?_
      refine s_pu (pu_move rfl) ?_
      refine s_ef (ef_fn (blist_spec μ bb c ex p G.length _ hT hn) rfl rfl (by repeat (first | exact Split.nil | (apply Split.cons; (repeat (first | with_reducible exact Take.here | apply Take.there)))))) ?_
      rintro v2 L1 rfl
      refine swl_app ?_
      refine s_pu (pu_assign rfl) ?_
      refine s_pu (pu_assign rfl) ?_
      refine swl_sub _ (.cons (t := 4) rfl (.cons (t := 5) rfl .nil)) ?_
      refine swl_nil ?_
      refine then_n ?_
      refine swp_ret ?_
      refine done_ret [own 3 1 v2 (elsTo G.length (dn (nums G) ia)).length ((elsTo G.length (dn (nums G) ia)).flatMap (icsk .i64)), ro μ] (.tmp rfl (.tmp rfl .nil)) ⟨v2, by rw [h0]; rfl, by unfold desL; rw [if_pos h0, hln, Int.toNat_natCast]⟩ (by repeat (first | exact Split.nil | (apply Split.cons; (repeat (first | with_reducible exact Take.here | apply Take.there)))))
theorem newbits0_spec : Spec Tryd.prog 68 [.int .i64 0] [] (fun r L => r = .slice none 0 0 ∧ L = []) := by
  refine Spec.of 15 Tryd.func68 rfl rfl rfl ?_
  refine swp_seq ?_
  refine swp_region ?_
  refine s_pu (pu_assign rfl) ?_
  refine swl_sub _ (.cons (t := 0) rfl .nil) ?_
  refine swl_nil ?_
  refine then_n ?_
  refine swp_seq ?_
  refine swp_region ?_
  refine s_pu (pu_assign rfl) ?_
  refine swl_sub _ (.cons (t := 0) rfl (.cons (t := 3) rfl .nil)) ?_
  refine swl_nil ?_
  refine then_n ?_
  refine swp_seq ?_
  refine swp_block ?_
  refine swp_loop (ι := Nat) (fun k env L => env = [(0, .int .i64 0), (3, .slice none 0 0)] ∧ L = []) (fun k => 0) 0 ⟨rfl, rfl⟩ ?_
  rintro k env L ⟨rfl, rfl⟩
  refine swp_seq ?_
  refine swp_seq ?_
  refine swp_region ?_
  refine s_pu (pu_move rfl) ?_
  refine s_pu (pu_gtr rfl rfl) ?_
  refine swl_sub _ (.cons (t := 0) rfl (.cons (t := 3) rfl (.cons (t := 5) rfl .nil))) ?_
  refine swl_nil ?_
  refine then_n ?_
  refine swp_cond (b := _) rfl (fun h5 => (by have := of_decide_eq_true h5; omega)) (fun h5 => ?_)
  refine swp_exit ?_
  refine then_x ?_
  refine then_x ?_
  refine block_hit rfl ?_
  refine then_n ?_
  refine swp_seq ?_
  refine swp_region ?_
  refine s_pu (pu_move rfl) ?_
  refine s_pu (pu_assign rfl) ?_
  refine swl_sub _ (.cons (t := 2) rfl .nil) ?_
  refine swl_nil ?_
  refine then_n ?_
  refine swp_ret ?_
  exact done_ret [] (.tmp rfl .nil) ⟨rfl, rfl⟩ (by repeat (first | exact Split.nil | (apply Split.cons; (repeat (first | with_reducible exact Take.here | apply Take.there)))))
theorem blist0_spec (b c : Nat) : Spec Tryd.prog 67 [.slice (some ⟨b, 0, none⟩) 0 c] [] (fun r L => r = .slice none 0 0 ∧ L = []) := by
  refine Spec.of 32 Tryd.func67 rfl rfl rfl ?_
  refine swp_seq ?_
  refine swp_region ?_
  refine s_pu (pu_assign rfl) ?_
  refine swl_sub _ (.cons (t := 0) rfl .nil) ?_
  refine swl_nil ?_
  refine then_n ?_
  refine swp_seq ?_
  refine swp_region ?_
  refine s_pu (pu_assign rfl) ?_
  refine swl_sub _ (.cons (t := 0) rfl (.cons (t := 3) rfl .nil)) ?_
  refine swl_nil ?_
  refine then_n ?_
  refine swp_seq ?_
  refine swp_seq ?_
  refine swp_region ?_
  refine s_pu (pu_move rfl) ?_
  refine s_pu (pu_len rfl) ?_
  refine s_pu (pu_move rfl) ?_
  refine swl_sub _ (.cons (t := 3) rfl (.cons (t := 8) rfl (.cons (t := 9) rfl (.cons (t := 10) rfl .nil)))) ?_
  refine swl_nil ?_
  refine then_n ?_
  refine swp_block ?_
  refine swp_loop (ι := Nat) (fun k env L => env = [(3, .slice none 0 0), (8, .slice (some ⟨b, 0, none⟩) 0 c), (9, .int .i64 0), (10, .int .i64 0)] ∧ L = []) (fun k => 0) 0 ⟨rfl, rfl⟩ ?_
  rintro k env L ⟨rfl, rfl⟩
  refine swp_seq ?_
  refine swp_region ?_
  refine s_pu (pu_lss rfl rfl) ?_
  refine swl_sub _ (.cons (t := 3) rfl (.cons (t := 8) rfl (.cons (t := 9) rfl (.cons (t := 10) rfl (.cons (t := 11) rfl .nil))))) ?_
  refine swl_nil ?_
  refine then_n ?_
  refine swp_seq ?_
  refine swp_cond (b := _) rfl (fun h11 => (by have := of_decide_eq_true h11; omega)) (fun h11 => ?_)
  refine swp_exit ?_
  refine then_x ?_
  refine then_x ?_
  refine block_hit rfl ?_
  refine then_n ?_
  refine swp_seq ?_
  refine swp_region ?_
  refine s_pu (pu_move rfl) ?_
  refine s_pu (pu_assign rfl) ?_
  refine swl_sub _ (.cons (t := 2) rfl .nil) ?_
  refine swl_nil ?_
  refine then_n ?_
  refine swp_ret ?_
  exact done_ret [] (.tmp rfl .nil) ⟨rfl, rfl⟩ (by repeat (first | exact Split.nil | (apply Split.cons; (repeat (first | with_reducible exact Take.here | apply Take.there)))))
theorem best0_spec (μ : PH) (v : Value) (hG : Graph μ v []) : Spec Tryd.prog 65 [v, .slice none 0 0] [ro μ] (fun r L => r = .slice none 0 0 ∧ L = [ro μ]) := by
  refine Spec.of 48 Tryd.func65 rfl rfl rfl ?_
  refine swp_seq ?_
  refine swp_region ?_
  refine s_pu (pu_assign rfl) ?_
  refine swl_sub _ (.cons (t := 0) rfl (.cons (t := 1) rfl .nil)) ?_
  refine swl_nil ?_
  refine then_n ?_
  refine swp_seq ?_
  refine swp_region ?_
  refine s_ef (ef_bldS (qs := []) rfl rfl rfl) ?_
  intro b12
  refine s_pu (pu_assign rfl) ?_
  refine swl_sub _ (.cons (t := 0) rfl (.cons (t := 1) rfl (.cons (t := 5) rfl .nil))) ?_
  refine swl_nil ?_
  refine then_n ?_
  refine swp_seq ?_
  refine swp_seq ?_
  refine swp_region ?_
  refine s_pu (pu_move rfl) ?_
  refine s_pu (pu_len rfl) ?_
  refine s_pu (pu_move rfl) ?_
  refine swl_sub _ (.cons (t := 0) rfl (.cons (t := 1) rfl (.cons (t := 5) rfl (.cons (t := 13) rfl (.cons (t := 14) rfl (.cons (t := 15) rfl .nil)))))) ?_
  refine swl_nil ?_
  refine then_n ?_
  refine swp_block ?_
  refine swp_loop (ι := Nat) (fun k env L => env = [(0, v), (1, .slice none 0 0), (5, .slice (some ⟨b12, 0, none⟩) 0 0), (13, .slice none 0 0), (14, .int .i64 0), (15, .int .i64 0)] ∧ L = [blk b12 25 [], ro μ]) (fun k => 0) 0 ⟨rfl, rfl⟩ ?_
  rintro k env L ⟨rfl, rfl⟩
  refine swp_seq ?_
  refine swp_region ?_
  refine s_pu (pu_lss rfl rfl) ?_
  refine swl_sub _ (.cons (t := 0) rfl (.cons (t := 1) rfl (.cons (t := 5) rfl (.cons (t := 13) rfl (.cons (t := 14) rfl (.cons (t := 15) rfl (.cons (t := 16) rfl .nil))))))) ?_
  refine swl_nil ?_
  refine then_n ?_
  refine swp_seq ?_
  refine swp_cond (b := _) rfl (fun h16 => (by have := of_decide_eq_true h16; omega)) (fun h16 => ?_)
  refine swp_exit ?_
  refine then_x ?_
  refine then_x ?_
  refine block_hit rfl ?_
  refine then_n ?_
  refine swp_seq ?_
  refine swp_seq ?_
  refine swp_region ?_
  refine s_pu (pu_move rfl) ?_
  refine s_pu (pu_len_row hG.1 rfl) ?_
  refine s_pu (pu_move rfl) ?_
  refine swl_sub _ (.cons (t := 1) rfl (.cons (t := 5) rfl (.cons (t := 25) rfl (.cons (t := 26) rfl (.cons (t := 27) rfl .nil))))) ?_
  refine swl_nil ?_
  refine then_n ?_
  refine swp_block ?_
  refine swp_loop (ι := Nat) (fun k env L => env = [(1, .slice none 0 0), (5, .slice (some ⟨b12, 0, none⟩) 0 0), (25, v), (26, .int .i64 0), (27, .int .i64 0)] ∧ L = [blk b12 25 [], ro μ]) (fun k => 0) 0 ⟨rfl, rfl⟩ ?_
  rintro k env L ⟨rfl, rfl⟩
  refine swp_seq ?_
  refine swp_region ?_
  refine s_pu (pu_lss rfl rfl) ?_
  refine swl_sub _ (.cons (t := 1) rfl (.cons (t := 5) rfl (.cons (t := 25) rfl (.cons (t := 26) rfl (.cons (t := 27) rfl (.cons (t := 28) rfl .nil)))))) ?_
  refine swl_nil ?_
  refine then_n ?_
  refine swp_seq ?_
  refine swp_cond (b := _) rfl (fun h28 => (by have := of_decide_eq_true h28; omega)) (fun h28 => ?_)
  refine swp_exit ?_
  refine then_x ?_
  refine then_x ?_
  refine block_hit rfl ?_
  refine then_n ?_
  refine swp_seq ?_
  refine swp_region ?_
  refine s_pu (pu_move rfl) ?_
  refine s_ef (ef_fn (blist0_spec b12 0) rfl rfl (by repeat (first | exact Split.nil | (apply Split.cons; (repeat (first | with_reducible exact Take.here | apply Take.there)))))) ?_
  rintro v2 L1 ⟨rfl, rfl⟩
  refine swl_app ?_
  refine s_pu (pu_assign rfl) ?_
  refine swl_sub _ (.cons (t := 4) rfl .nil) ?_
  refine swl_nil ?_
  refine then_n ?_
  refine swp_ret ?_
  exact done_ret [ro μ] (.tmp rfl .nil) ⟨rfl, rfl⟩ (by repeat (first | exact Split.nil | (apply Split.cons; (repeat (first | with_reducible exact Take.here | apply Take.there)))))
theorem heads_spec0 (μ : PH) (v : Value) (hG : Graph μ v []) : Spec Tryd.prog 76 [v] [ro μ] (Ans μ 0 []) := by
  refine Spec.of 27 Tryd.func76 rfl rfl rfl ?_
  refine swp_seq ?_
  refine swp_region ?_
  refine s_pu (pu_assign rfl) ?_
  refine s_pu (pu_assign rfl) ?_
  refine swl_sub _ (.cons (t := 0) rfl .nil) ?_
  refine swl_nil ?_
  refine then_n ?_
  refine swp_seq ?_
  refine swp_seq ?_
  refine swp_region ?_
  refine s_pu (pu_move rfl) ?_
  refine s_ef (ef_fn (asked_spec μ v _ [] [] [] hG ints_nil) rfl rfl (by repeat (first | exact Split.nil | (apply Split.cons; (repeat (first | with_reducible exact Take.here | apply Take.there)))))) ?_
  rintro v1 L1 ⟨rfl, rfl⟩
  refine swl_app ?_
  refine s_pu (pu_assign rfl) ?_
  refine swl_sub _ (.cons (t := 0) rfl (.cons (t := 4) rfl .nil)) ?_
  refine swl_nil ?_
  refine then_n ?_
  refine swp_seq ?_
  refine swp_region ?_
  refine s_pu (pu_move rfl) ?_
  refine s_pu (pu_neq rfl rfl) ?_
  refine swl_sub _ (.cons (t := 0) rfl (.cons (t := 4) rfl (.cons (t := 10) rfl .nil))) ?_
  refine swl_nil ?_
  refine then_n ?_
  refine swp_cond (b := _) rfl (fun h10 => (by cases h10)) (fun h10 => ?_)
  refine swp_skip ?_
  refine then_n ?_
  refine swp_seq ?_
  refine swp_region ?_
  refine s_pu (pu_move rfl) ?_
  refine s_pu (pu_len_row hG.1 rfl) ?_
  refine s_ef (ef_fn newbits0_spec rfl rfl (by repeat (first | exact Split.nil | (apply Split.cons; (repeat (first | with_reducible exact Take.here | apply Take.there)))))) ?_
  rintro v1 L1 ⟨rfl, rfl⟩
  refine swl_app ?_
  refine s_pu (pu_assign rfl) ?_
  refine swl_sub _ (.cons (t := 0) rfl (.cons (t := 5) rfl .nil)) ?_
  refine swl_nil ?_
  refine then_n ?_
  refine swp_seq ?_
  refine swp_seq ?_
  refine swp_region ?_
  refine s_pu (pu_move rfl) ?_
  refine s_pu (pu_len_row hG.1 rfl) ?_
  refine s_pu (pu_move rfl) ?_
  refine swl_sub _ (.cons (t := 0) rfl (.cons (t := 5) rfl (.cons (t := 16) rfl (.cons (t := 17) rfl .nil)))) ?_
  refine swl_nil ?_
  refine then_n ?_
  refine swp_block ?_
  refine swp_loop (ι := Nat) (fun k env L => env = [(0, v), (5, .slice none 0 0), (16, .int .i64 0), (17, .int .i64 0)] ∧ L = [ro μ]) (fun k => 0) 0 ⟨rfl, rfl⟩ ?_
  rintro k env L ⟨rfl, rfl⟩
  refine swp_seq ?_
  refine swp_region ?_
  refine s_pu (pu_lss rfl rfl) ?_
  refine swl_sub _ (.cons (t := 0) rfl (.cons (t := 5) rfl (.cons (t := 16) rfl (.cons (t := 17) rfl (.cons (t := 18) rfl .nil))))) ?_
  refine swl_nil ?_
  refine then_n ?_
  refine swp_seq ?_
  refine swp_cond (b := _) rfl (fun h18 => (by have := of_decide_eq_true h18; omega)) (fun h18 => ?_)
  refine swp_exit ?_
  refine then_x ?_
  refine then_x ?_
  refine block_hit rfl ?_
  refine then_n ?_
  refine swp_seq ?_
  refine swp_region ?_
  refine s_pu (pu_move rfl) ?_
  refine s_pu (pu_move rfl) ?_
  refine s_ef (ef_fn (best0_spec μ v hG) rfl rfl (by repeat (first | exact Split.nil | (apply Split.cons; (repeat (first | with_reducible exact Take.here | apply Take.there)))))) ?_
  rintro v2 L1 ⟨rfl, rfl⟩
  refine swl_app ?_
  refine s_pu (pu_assign rfl) ?_
  refine s_pu (pu_assign rfl) ?_
  refine swl_sub _ (.cons (t := 2) rfl (.cons (t := 3) rfl .nil)) ?_
  refine swl_nil ?_
  refine then_n ?_
  refine swp_ret ?_
  exact done_retE [own 3 1 (.slice none 0 0) 0 [], ro μ] (.tmp rfl (.tmp rfl .nil)) ⟨_, rfl, rfl⟩ ((Split.ent' (K := [ro μ]) (by repeat (first | exact Split.nil | (apply Split.cons; (repeat (first | with_reducible exact Take.here | apply Take.there)))))).trans own_nil_ent)
set_option maxHeartbeats 1000000 in
theorem heads_spec1 (μ : PH) (v : Value) (G : List (Value × List Int)) (hT : RowAt μ 0 0 tabV) (hG : Graph μ v G) (hn : G.length ≤ 1048576) (h0 : 0 < G.length) : Spec Tryd.prog 76 [v] [ro μ] (Ans μ (heaE (nums G)) (heaL (nums G))) := by
  have hln : (nums G).length = G.length := List.length_map _
  refine Spec.of 27 Tryd.func76 rfl rfl rfl ?_
  refine swp_seq ?_
  refine swp_region ?_
  refine s_pu (pu_assign rfl) ?_
  refine s_pu (pu_assign rfl) ?_
  refine swl_sub _ (.cons (t := 0) rfl .nil) ?_
  refine swl_nil ?_
  refine then_n ?_
  refine swp_seq ?_
  refine swp_seq ?_
  refine swp_region ?_
  refine s_pu (pu_move rfl) ?_
  refine s_ef (ef_fn (asked_spec μ v _ G [] [] hG ints_nil) rfl rfl (by repeat (first | exact Split.nil | (apply Split.cons; (repeat (first | with_reducible exact Take.here | apply Take.there)))))) ?_
  rintro v1 L1 ⟨rfl, rfl⟩
  refine swl_app ?_
  rw [askS_none]
  refine s_pu (pu_assign rfl) ?_
  refine swl_sub _ (.cons (t := 0) rfl (.cons (t := 4) rfl .nil)) ?_
  refine swl_nil ?_
  refine then_n ?_
  refine swp_seq ?_
  refine swp_region ?_
  refine s_pu (pu_move rfl) ?_
  refine s_pu (pu_neq rfl rfl) ?_
  refine swl_sub _ (.cons (t := 0) rfl (.cons (t := 4) rfl (.cons (t := 10) rfl .nil))) ?_
  refine swl_nil ?_
  refine then_n ?_
  refine swp_cond (b := _) rfl (fun h10 => ?_) (fun h10 => ?_)
  · skip   -- 10 T
    refine swp_seq ?_
    refine swp_region ?_
    refine s_pu (pu_move rfl) ?_
    refine s_pu (pu_assign rfl) ?_
    refine s_pu (pu_assign rfl) ?_
    refine swl_sub _ (.cons (t := 2) rfl (.cons (t := 3) rfl .nil)) ?_
    refine swl_nil ?_
    refine then_n ?_
    refine swp_ret ?_
    refine then_r ?_
    have h0 : ¬ heaE (nums G) = 0 := by simpa using h10
    have h1 : ¬ chkFrom 0 (nums G) = 0 := fun h => h0 (by unfold heaE; rw [if_pos h])
    refine done_retE (own 3 1 (.slice none 0 0) 0 [] :: [ro μ]) (.tmp rfl (.tmp rfl .nil)) ⟨.slice none 0 0, rfl, by unfold heaL; rw [if_neg h1]; rfl⟩ ((Split.ent' (K := [ro μ]) (by repeat (first | exact Split.nil | (apply Split.cons; (repeat (first | with_reducible exact Take.here | apply Take.there)))))).trans own_nil_ent)
  · skip   -- 10 F
    have hE : heaE (nums G) = 0 := by simpa using h10
    have h1 : chkFrom 0 (nums G) = 0 := Decidable.byContradiction fun h => by unfold heaE at hE; rw [if_neg h] at hE; cases hE
    have hg := chk_good h1
    refine swp_skip ?_
    refine then_n ?_
    refine swp_seq ?_
    refine swp_region ?_
    refine s_pu (pu_move rfl) ?_
    refine s_pu (pu_len_row hG.1 rfl) ?_
    refine s_ef (ef_fn (newbits_spec G.length (by omega) hn) rfl rfl (by repeat (first | exact Split.nil | (apply Split.cons; (repeat (first | with_reducible exact Take.here | apply Take.there)))))) ?_
    rintro v1 L1 ⟨bb, c, ex, p, rfl, rfl⟩
    refine swl_app ?_
    refine s_pu (pu_assign rfl) ?_
    refine swl_sub _ (.cons (t := 0) rfl (.cons (t := 5) rfl .nil)) ?_
    refine swl_nil ?_
    refine then_n ?_
    refine swp_seq ?_
    refine swp_seq ?_
    refine swp_region ?_
    refine s_pu (pu_move rfl) ?_
    refine s_pu (pu_len_row hG.1 rfl) ?_
    refine s_pu (pu_move rfl) ?_
    refine swl_sub _ (.cons (t := 0) rfl (.cons (t := 5) rfl (.cons (t := 16) rfl (.cons (t := 17) rfl .nil)))) ?_
    refine swl_nil ?_
    refine then_n ?_
    refine swp_block ?_
    refine swp_loop (ι := Nat) (fun k env L => env = [(0, v), (5, .slice (some ⟨bb, 0, none⟩) 1 c), (16, .int .i64 (G.length : Nat)), (17, .int .i64 (k : Nat))] ∧ L = [blk bb 25 (.pointer (some ⟨p, 0, none⟩) :: ex), mset p G.length (fun j => decide (j < k)), ro μ] ∧ k ≤ G.length) (fun k => G.length - k) 0 ⟨rfl, by simp only [Nat.not_lt_zero, decide_false], by omega⟩ ?_
    rintro k env L ⟨rfl, rfl, hk⟩
    refine swp_seq ?_
    refine swp_region ?_
    refine s_pu (pu_lss rfl rfl) ?_
    refine swl_sub _ (.cons (t := 0) rfl (.cons (t := 5) rfl (.cons (t := 16) rfl (.cons (t := 17) rfl (.cons (t := 18) rfl .nil))))) ?_
    refine swl_nil ?_
    refine then_n ?_
    refine swp_seq ?_
    refine swp_cond (b := _) rfl (fun h18 => ?_) (fun h18 => ?_)
    · skip   -- 18 T
      have h18' : k < G.length := by have := of_decide_eq_true h18; omega
      refine swp_skip ?_
      refine then_n ?_
      refine swp_seq ?_
      refine swp_block ?_
      refine swp_seq ?_
      refine swp_region ?_
      refine s_pu (pu_move rfl) ?_
      refine s_pu (pu_assign rfl) ?_
      refine swl_sub _ (.cons (t := 0) rfl (.cons (t := 5) rfl (.cons (t := 6) rfl (.cons (t := 16) rfl (.cons (t := 17) rfl .nil))))) ?_
      refine swl_nil ?_
      refine then_n ?_
      refine swp_region ?_
      refine s_pu (pu_move rfl) ?_
      refine s_pu (pu_move rfl) ?_
      refine s_ef (ef_fn (bput_spec bb c ex p G.length (fun j => decide (j < k)) k h18' hn) rfl rfl (by repeat (first | exact Split.nil | (apply Split.cons; (repeat (first | with_reducible exact Take.here | apply Take.there)))))) ?_
      rintro v1 L1 ⟨rfl, rfl⟩
      refine swl_app ?_
      refine swl_sub _ (.cons (t := 0) rfl (.cons (t := 5) rfl (.cons (t := 16) rfl (.cons (t := 17) rfl .nil)))) ?_
      rw [show (fun j => decide (j < k) || decide (j = k)) = fun j => decide (j < k + 1) from funext fun j => by rw [Bool.eq_iff_iff]; simp; omega]
      refine swl_nil ?_
      refine block_n ?_
      refine then_n ?_
      refine swp_region ?_
      refine s_pu (pu_add_as ((k + 1 : Nat) : Int) rfl rfl (by omega) (by omega) (by omega)) ?_
      refine s_pu (pu_move rfl) ?_
      refine swl_sub _ (.cons (t := 0) rfl (.cons (t := 5) rfl (.cons (t := 16) rfl (.cons (t := 17) rfl .nil)))) ?_
      refine swl_nil ?_
      exact then_n ⟨k + 1, ⟨rfl, rfl, h18'⟩, by omega⟩
    · skip   -- 18 F
      have h18' := of_decide_eq_false h18
      obtain rfl : k = G.length := by omega
      refine swp_exit ?_
      refine then_x ?_
      refine then_x ?_
      refine block_hit rfl ?_
      refine then_n ?_
      refine swp_seq ?_
      refine swp_region ?_
      refine s_pu (pu_move rfl) ?_
      refine s_pu (pu_move rfl) ?_
      refine s_ef (ef_fn (best_spec μ v bb c ex p G _ hT hG hn hg h0) rfl rfl (by repeat (first | exact Split.nil | (apply Split.cons; (repeat (first | with_reducible exact Take.here | apply Take.there)))))) ?_
      rintro v2 L1 rfl
      refine swl_app ?_
      refine s_pu (pu_assign rfl) ?_
      refine s_pu (pu_assign rfl) ?_
      refine swl_sub _ (.cons (t := 2) rfl (.cons (t := 3) rfl .nil)) ?_
      refine swl_nil ?_
      refine then_n ?_
      refine swp_ret ?_
      refine done_ret [own 3 1 v2 (elsTo G.length (bestT (nums G) (fun j => decide (j < G.length)) G.length)).length ((elsTo G.length (bestT (nums G) (fun j => decide (j < G.length)) G.length)).flatMap (icsk .i64)), ro μ] (.tmp rfl (.tmp rfl .nil)) ⟨v2, by rw [hE]; rfl, by unfold heaL; rw [if_pos h1, hln]⟩ (by repeat (first | exact Split.nil | (apply Split.cons; (repeat (first | with_reducible exact Take.here | apply Take.there)))))
theorem heads_spec (μ : PH) (v : Value) (G : List (Value × List Int)) (hT : RowAt μ 0 0 tabV) (hG : Graph μ v G) (hn : G.length ≤ 1048576) : Spec Tryd.prog 76 [v] [ro μ] (Ans μ (heaE (nums G)) (heaL (nums G))) := by
  cases G with
  | nil => exact heads_spec0 μ v hG
  | cons x l => exact heads_spec1 μ v _ hT hG hn (Nat.succ_pos _)
end SX
namespace SX
open Go Go.Proofs

def Shape (v : Value) (l : Nat) : Prop := (v = .slice none 0 0 ∧ l = 0) ∨ ∃ b cap, v = .slice (some ⟨b, 0, none⟩) l cap ∧ l ≤ cap ∧ cap ≤ maxLen
theorem own_shape {e n : Nat} {v : Value} {l : Nat} {xs : List Value} {L L' : List Assn} (ht : Take (own e n v l xs) L L') {m : PH} (h : Sat L m) : Shape v l := by
  have h := Sat.perm ht.perm _ h
  rcases own_open h with ⟨rfl, rfl, _⟩ | ⟨b, cap, ex, rfl, h1, h2, _⟩
  · exact .inl ⟨rfl, rfl⟩
  · exact .inr ⟨b, cap, rfl, h1, h2⟩
theorem H.take {A : Assn} {E : Ctx} {w : World} {L L' : List Assn} (h : H E w L) (t : Take A L L') : H E w (A :: L') := h.ent (Ent.perm t.perm)
theorem ld_own {L L' : List Assn} {b cap l : Nat} {xs : List Value} {e : TypeId} (t : Take (own e 1 (.slice (some ⟨b, 0, none⟩) l cap) l xs) L L') {ty : TypeId} [TOne Tryd.prog ty] {j : Nat} {v : Value} (hv : xs[j]? = some v) : Ld Tryd.prog L ty ⟨b, j, none⟩ v := by
  intro E w hh
  obtain ⟨k1, k2, k3, k4, k5⟩ := hh.take t
  have k6 : Sat (own e 1 (.slice (some ⟨b, 0, none⟩) l cap) l xs :: (E.X ++ L')) (fun b => w.heap[b]?) := Sat.perm (perm_out (.refl _)) _ k5
  rcases own_open k6 with ⟨a1, a2, a3⟩ | ⟨b', cap', ex, a1, a2, a3, a4, a5, a6⟩
  · cases a1
  · injection a1 with e1 e2 e3
    injection e1 with e1
    injection e1 with e1
    subst e1
    exact ld_one (L := blk b e (xs ++ ex) :: L') (ty := e) (cs := xs ++ ex) (by rw [List.getElem?_append_left (List.getElem?_eq_some_iff.1 hv).1]; exact hv) E w ⟨k1, k2, k3, k4, Sat.perm (perm_out (.refl _)).symm _ a6⟩
theorem ints_own {L L' : List Assn} {v : Value} {xs : List Int} (hs : Shape v xs.length) (t : Take (own 3 1 v xs.length (xs.flatMap (icsk .i64))) L L') : Ints L v xs := by
  rcases hs with ⟨rfl, h0⟩ | ⟨b, cap, rfl, h1, h2⟩
  · obtain rfl := List.eq_nil_of_length_eq_zero h0
    exact ints_nil
  · simp only [maxLen] at h2
    refine ⟨_, _, rfl, by omega, fun _ => ⟨b, 0, rfl, fun j x hx => ?_⟩⟩
    rw [Nat.zero_add]
    refine ld_own t ?_
    have := flat_get (icsk_len .i64) xs [] j x hx 0 (.int .i64 x) rfl
    rwa [List.append_nil, Nat.mul_one] at this

theorem samelist_i (u v : Value) (xs ys : List Int) (L0 : List Assn) (hu : Ints L0 u xs) (hv : Ints L0 v ys) : Spec Tryd.prog 21 [u, v] L0 (fun r L => r = .bool (decide (xs = ys)) ∧ L = L0) := by
  obtain ⟨A, ca, rfl, hla, ha⟩ := hu
  obtain ⟨B, cb, rfl, hlb, hb⟩ := hv
  refine Spec.of 26 Tryd.func21 rfl rfl rfl ?_
  refine swp_seq ?_
  refine swp_region ?_
  refine s_pu (pu_assign rfl) ?_
  refine swl_sub _ (.cons (t := 0) rfl (.cons (t := 1) rfl .nil)) ?_
  refine swl_nil ?_
  refine then_n ?_
  refine swp_seq ?_
  refine swp_seq ?_
  refine swp_region ?_
  refine s_pu (pu_move rfl) ?_
  refine s_pu (pu_len rfl) ?_
  refine s_pu (pu_move rfl) ?_
  refine s_pu (pu_len rfl) ?_
  refine s_pu (pu_neq rfl rfl) ?_
  refine swl_sub _ (.cons (t := 0) rfl (.cons (t := 1) rfl (.cons (t := 10) rfl .nil))) ?_
  refine swl_nil ?_
  refine then_n ?_
  refine swp_cond (b := _) rfl (fun h10 => ?_) (fun h10 => ?_)
  · skip   -- 10 T
    refine swp_seq ?_
    refine swp_region ?_
    refine s_pu (pu_assign rfl) ?_
    refine swl_sub _ (.cons (t := 4) rfl .nil) ?_
    refine swl_nil ?_
    refine then_n ?_
    refine swp_ret ?_
    refine then_r ?_
    simp only [Bool.not_eq_true', decide_eq_false_iff_not] at h10
    exact done_ret _ (.tmp rfl .nil) ⟨by rw [decide_eq_false (fun e => h10 (by rw [e]))]; rfl, rfl⟩ Split.all
  · skip   -- 10 F
    refine swp_skip ?_
    refine then_n ?_
    refine swp_seq ?_
    refine swp_seq ?_
    refine swp_region ?_
    refine s_pu (pu_assign rfl) ?_
    refine swl_sub _ (.cons (t := 0) rfl (.cons (t := 1) rfl (.cons (t := 5) rfl .nil))) ?_
    refine swl_nil ?_
    refine then_n ?_
    refine swp_block ?_
    have hlen : xs.length = ys.length := by
      simp only [Bool.not_eq_false', decide_eq_true_eq] at h10; omega
    refine swp_sub _ (.cons (t := 0) rfl (.cons (t := 1) rfl (.cons (t := 5) rfl .nil))) ?_
    refine swp_loop (ι := Nat) (fun i env L => env = [(0, .slice A xs.length ca), (1, .slice B ys.length cb), (5, .int .i64 (i : Nat))] ∧ L = L0 ∧ i ≤ xs.length ∧ ∀ j, j < i → xs[j]? = ys[j]?) (fun i => xs.length - i) 0 ⟨rfl, rfl, Nat.zero_le _, fun j h => by omega⟩ ?_
    rintro i env L ⟨rfl, rfl, hi, hlo⟩
    refine swp_seq ?_
    refine swp_seq ?_
    refine swp_region ?_
    refine s_pu (pu_move rfl) ?_
    refine s_pu (pu_move rfl) ?_
    refine s_pu (pu_len rfl) ?_
    refine s_pu (pu_lss rfl rfl) ?_
    refine swl_sub _ (.cons (t := 0) rfl (.cons (t := 1) rfl (.cons (t := 5) rfl (.cons (t := 14) rfl .nil)))) ?_
    refine swl_nil ?_
    refine then_n ?_
    refine swp_cond (b := _) rfl (fun h14 => ?_) (fun h14 => ?_)
    · skip   -- 14 T
      have h14' : i < xs.length := by have := of_decide_eq_true h14; omega
      obtain ⟨x, hx⟩ : ∃ x, xs[i]? = some x := ⟨_, List.getElem?_eq_getElem h14'⟩
      obtain ⟨y, hy⟩ : ∃ y, ys[i]? = some y := ⟨_, List.getElem?_eq_getElem (by omega)⟩
      obtain ⟨ab, ao, rfl, hxl⟩ := ha (by omega)
      obtain ⟨bb, bo, rfl, hyl⟩ := hb (by omega)
      refine swp_skip ?_
      refine then_n ?_
      refine swp_seq ?_
      refine swp_block ?_
      refine swp_seq ?_
      refine swp_draw [3, 7] _ [] (by simp only [List.append_nil]; exact Ent.refl _) (by kernel_rfl) ?_
      refine d_pu 0 rfl (pu_move rfl) (by kernel_rfl) (by kernel_rfl) (by kernel_rfl) ?_
      refine d_pu 1 rfl (pu_move rfl) (by kernel_rfl) (by kernel_rfl) (by kernel_rfl) ?_
      refine d_pu 2 rfl (pu_indexAddr (ao + i * 1) rfl rfl (by omega) (by omega) (by rw [Int.toNat_natCast])) (by kernel_rfl) (by kernel_rfl) (by kernel_rfl) ?_
      refine d_rd 3 rfl (rd_of_ld rfl (by rw [Nat.mul_one]; exact hxl i x hx)) rfl (by kernel_rfl) (by kernel_rfl) (by kernel_rfl) ?_
      refine d_pu 4 rfl (pu_move rfl) (by kernel_rfl) (by kernel_rfl) (by kernel_rfl) ?_
      refine d_pu 5 rfl (pu_move rfl) (by kernel_rfl) (by kernel_rfl) (by kernel_rfl) ?_
      refine d_pu 6 rfl (pu_indexAddr (bo + i * 1) rfl rfl (by omega) (by omega) (by rw [Int.toNat_natCast])) (by kernel_rfl) (by kernel_rfl) (by kernel_rfl) ?_
      refine d_rd 7 rfl (rd_of_ld rfl (by rw [Nat.mul_one]; exact hyl i y hy)) rfl (by kernel_rfl) (by kernel_rfl) (by kernel_rfl) ?_
      refine d_pu 8 rfl (pu_neq rfl rfl) (by kernel_rfl) (by kernel_rfl) (by kernel_rfl) ?_
      refine d_sub _ (.cons (t := 0) rfl (.cons (t := 1) rfl (.cons (t := 5) rfl (.cons (t := 25) rfl .nil)))) ?_
      first | refine d_nilt (by kernel_rfl) ?_ | refine d_nilf (by kernel_rfl) ?_
      rw [List.append_nil]
      refine then_n ?_
      refine swp_cond (b := _) rfl (fun h25 => ?_) (fun h25 => ?_)
      · skip   -- 25 T
        refine swp_seq ?_
        refine swp_region ?_
        refine s_pu (pu_assign rfl) ?_
        refine swl_sub _ (.cons (t := 4) rfl .nil) ?_
        refine swl_nil ?_
        refine then_n ?_
        refine swp_ret ?_
        refine block_r ?_
        refine then_r ?_
        refine then_r ?_
        refine block_r ?_
        refine then_r ?_
        simp only [Bool.not_eq_true', decide_eq_false_iff_not] at h25
        exact done_ret _ (.tmp rfl .nil) ⟨by rw [decide_eq_false (fun e => h25 (by subst e; rw [hx] at hy; exact Option.some.inj hy))]; rfl, rfl⟩ Split.all
      · skip   -- 25 F
        refine swp_skip ?_
        refine block_n ?_
        refine then_n ?_
        refine swp_region ?_
        refine s_pu (pu_move rfl) ?_
        refine s_pu (pu_add_as ((i + 1 : Nat) : Int) rfl rfl (by omega) (by omega) (by omega)) ?_
        refine s_pu (pu_assign rfl) ?_
        refine swl_sub _ (.cons (t := 0) rfl (.cons (t := 1) rfl (.cons (t := 5) rfl .nil))) ?_
        refine swl_nil ?_
        simp only [Bool.not_eq_false', decide_eq_true_eq] at h25
        exact then_n ⟨i + 1, ⟨rfl, rfl, h14', fun j hj => by
          by_cases e : j = i
          · subst e; rw [hx, hy, h25]
          · exact hlo j (by omega)⟩, by omega⟩
    · skip   -- 14 F
      have h14' := of_decide_eq_false h14
      obtain rfl : i = xs.length := by omega
      refine swp_exit ?_
      refine then_x ?_
      refine then_x ?_
      refine block_hit rfl ?_
      refine then_n ?_
      refine swp_seq ?_
      refine swp_region ?_
      refine s_pu (pu_assign rfl) ?_
      refine swl_sub _ (.cons (t := 4) rfl .nil) ?_
      refine swl_nil ?_
      refine then_n ?_
      refine swp_ret ?_
      exact done_ret _ (.tmp rfl .nil) ⟨by rw [decide_eq_true (List.ext_getElem? fun j => by
        by_cases hj : j < xs.length
        · exact hlo j hj
        · rw [List.getElem?_eq_none (by omega), List.getElem?_eq_none (by omega)])]; rfl, rfl⟩ Split.all
theorem samegraph_spec (μ : PH) (u v : Value) (G G' : List (Value × List Int)) (hG : Graph μ u G) (hG' : Graph μ v G') : Spec Tryd.prog 44 [u, v] [ro μ] (fun r L => r = .bool (decide (nums G = nums G')) ∧ L = [ro μ]) := by
  have hs1 := hG.1.small
  have hs2 := hG'.1.small
  obtain ⟨A, ca, hv⟩ := hG.1.form'
  subst hv
  obtain ⟨B, cb, hv⟩ := hG'.1.form'
  subst hv
  refine Spec.of 27 Tryd.func44 rfl rfl rfl ?_
  refine swp_seq ?_
  refine swp_region ?_
  refine s_pu (pu_assign rfl) ?_
  refine swl_sub _ (.cons (t := 0) rfl (.cons (t := 1) rfl .nil)) ?_
  refine swl_nil ?_
  refine then_n ?_
  refine swp_seq ?_
  refine swp_seq ?_
  refine swp_region ?_
  refine s_pu (pu_move rfl) ?_
  refine s_pu (pu_len rfl) ?_
  refine s_pu (pu_move rfl) ?_
  refine s_pu (pu_len rfl) ?_
  refine s_pu (pu_neq rfl rfl) ?_
  refine swl_sub _ (.cons (t := 0) rfl (.cons (t := 1) rfl (.cons (t := 10) rfl .nil))) ?_
  refine swl_nil ?_
  refine then_n ?_
  refine swp_cond (b := _) rfl (fun h10 => ?_) (fun h10 => ?_)
  · skip   -- 10 T
    refine swp_seq ?_
    refine swp_region ?_
    refine s_pu (pu_assign rfl) ?_
    refine swl_sub _ (.cons (t := 4) rfl .nil) ?_
    refine swl_nil ?_
    refine then_n ?_
    refine swp_ret ?_
    refine then_r ?_
    simp only [Bool.not_eq_true', decide_eq_false_iff_not] at h10
    exact done_ret [ro μ] (.tmp rfl .nil) ⟨by rw [decide_eq_false (fun e => h10 (by have := congrArg List.length e; rw [List.length_map, List.length_map] at this; rw [this]))]; rfl, rfl⟩ (by repeat (first | exact Split.nil | (apply Split.cons; (repeat (first | with_reducible exact Take.here | apply Take.there)))))
  · skip   -- 10 F
    refine swp_skip ?_
    refine then_n ?_
    refine swp_seq ?_
    refine swp_seq ?_
    refine swp_region ?_
    refine s_pu (pu_assign rfl) ?_
    refine swl_sub _ (.cons (t := 0) rfl (.cons (t := 1) rfl (.cons (t := 5) rfl .nil))) ?_
    refine swl_nil ?_
    refine then_n ?_
    refine swp_block ?_
    have hlen : G.length = G'.length := by
      simp only [Bool.not_eq_false', decide_eq_true_eq] at h10; omega
    refine swp_sub _ (.cons (t := 0) rfl (.cons (t := 1) rfl (.cons (t := 5) rfl .nil))) ?_
    refine swp_loop (ι := Nat) (fun i env L => env = [(0, .slice A G.length ca), (1, .slice B G'.length cb), (5, .int .i64 (i : Nat))] ∧ L = [ro μ] ∧ i ≤ G.length ∧ ∀ j, j < i → (nums G)[j]? = (nums G')[j]?) (fun i => G.length - i) 0 ⟨rfl, rfl, Nat.zero_le _, fun j h => by omega⟩ ?_
    rintro i env L ⟨rfl, rfl, hi, hlo⟩
    refine swp_seq ?_
    refine swp_seq ?_
    refine swp_region ?_
    refine s_pu (pu_move rfl) ?_
    refine s_pu (pu_move rfl) ?_
    refine s_pu (pu_len rfl) ?_
    refine s_pu (pu_lss rfl rfl) ?_
    refine swl_sub _ (.cons (t := 0) rfl (.cons (t := 1) rfl (.cons (t := 5) rfl (.cons (t := 14) rfl .nil)))) ?_
    refine swl_nil ?_
    refine then_n ?_
    refine swp_cond (b := _) rfl (fun h14 => ?_) (fun h14 => ?_)
    · skip   -- 14 T
      have h14' : i < G.length := by have := of_decide_eq_true h14; omega
      obtain ⟨x, hx⟩ : ∃ x, G[i]? = some x := ⟨_, List.getElem?_eq_getElem h14'⟩
      obtain ⟨y, hy⟩ : ∃ y, G'[i]? = some y := ⟨_, List.getElem?_eq_getElem (by omega)⟩
      obtain ⟨ab, ao, cap1, hv1, _, _, hr1⟩ := hG.1.pos (by omega)
      obtain ⟨bb, bo, cap2, hv2, _, _, hr2⟩ := hG'.1.pos (by omega)
      injection hv1 with e1 _ _
      injection hv2 with e2 _ _
      subst e1 e2
      have hxr := hG.2 _ (List.mem_of_getElem? hx)
      have hyr := hG'.2 _ (List.mem_of_getElem? hy)
      have hnx : (nums G)[i]? = some x.2 := by rw [List.getElem?_map, hx]; rfl
      have hny : (nums G')[i]? = some y.2 := by rw [List.getElem?_map, hy]; rfl
      refine swp_skip ?_
      refine then_n ?_
      refine swp_seq ?_
      refine swp_block ?_
      refine swp_seq ?_
      refine swp_draw [3, 7] _ [] (by simp only [List.append_nil]; exact Ent.refl _) (by kernel_rfl) ?_
      refine d_pu 0 rfl (pu_move rfl) (by kernel_rfl) (by kernel_rfl) (by kernel_rfl) ?_
      refine d_pu 1 rfl (pu_move rfl) (by kernel_rfl) (by kernel_rfl) (by kernel_rfl) ?_
      refine d_pu 2 rfl (pu_indexAddr (ao + i * 1) rfl rfl (by omega) (by omega) (by rw [Int.toNat_natCast])) (by kernel_rfl) (by kernel_rfl) (by kernel_rfl) ?_
      refine d_rd 3 rfl (rd_ro rfl (hr1.elem gcs_len hx).cell) rfl (by kernel_rfl) (by kernel_rfl) (by kernel_rfl) ?_
      refine d_pu 4 rfl (pu_move rfl) (by kernel_rfl) (by kernel_rfl) (by kernel_rfl) ?_
      refine d_pu 5 rfl (pu_move rfl) (by kernel_rfl) (by kernel_rfl) (by kernel_rfl) ?_
      refine d_pu 6 rfl (pu_indexAddr (bo + i * 1) rfl rfl (by omega) (by omega) (by rw [Int.toNat_natCast])) (by kernel_rfl) (by kernel_rfl) (by kernel_rfl) ?_
      refine d_rd 7 rfl (rd_ro rfl (hr2.elem gcs_len hy).cell) rfl (by kernel_rfl) (by kernel_rfl) (by kernel_rfl) ?_
      first | refine d_fint 8 rfl (by kernel_rfl) (by kernel_rfl) (ef_fn (samelist_i x.1 y.1 x.2 y.2 [ro μ] (Ints.row hxr) (Ints.row hyr)) rfl rfl (by repeat (first | exact Split.nil | (apply Split.cons; (repeat (first | with_reducible exact Take.here | apply Take.there)))))) ?_ | refine d_finf 8 rfl (by kernel_rfl) (by kernel_rfl) (ef_fn (samelist_i x.1 y.1 x.2 y.2 [ro μ] (Ints.row hxr) (Ints.row hyr)) rfl rfl (by repeat (first | exact Split.nil | (apply Split.cons; (repeat (first | with_reducible exact Take.here | apply Take.there)))))) ?_
      rintro v1 L1 ⟨rfl, rfl⟩
      refine swd_app ?_
      refine d_pu 9 rfl (pu_not rfl) (by kernel_rfl) (by kernel_rfl) (by kernel_rfl) ?_
      refine d_sub _ (.cons (t := 0) rfl (.cons (t := 1) rfl (.cons (t := 5) rfl (.cons (t := 26) rfl .nil)))) ?_
      first | refine d_nilt (by kernel_rfl) ?_ | refine d_nilf (by kernel_rfl) ?_
      refine then_n ?_
      refine swp_cond (b := _) rfl (fun h26 => ?_) (fun h26 => ?_)
      · skip   -- 26 T
        refine swp_seq ?_
        refine swp_region ?_
        refine s_pu (pu_assign rfl) ?_
        refine swl_sub _ (.cons (t := 4) rfl .nil) ?_
        refine swl_nil ?_
        refine then_n ?_
        refine swp_ret ?_
        refine block_r ?_
        refine then_r ?_
        refine then_r ?_
        refine block_r ?_
        refine then_r ?_
        have h26' : ¬ x.2 = y.2 := by simpa using h26
        exact done_ret [ro μ] (.tmp rfl .nil) ⟨by rw [decide_eq_false (fun e => h26' (by rw [e, hny] at hnx; exact (Option.some.inj hnx).symm))]; rfl, rfl⟩ (by repeat (first | exact Split.nil | (apply Split.cons; (repeat (first | with_reducible exact Take.here | apply Take.there)))))
      · skip   -- 26 F
        refine swp_skip ?_
        refine block_n ?_
        refine then_n ?_
        refine swp_region ?_
        refine s_pu (pu_move rfl) ?_
        refine s_pu (pu_add_as ((i + 1 : Nat) : Int) rfl rfl (by omega) (by omega) (by omega)) ?_
        refine s_pu (pu_assign rfl) ?_
        refine swl_sub _ (.cons (t := 0) rfl (.cons (t := 1) rfl (.cons (t := 5) rfl .nil))) ?_
        refine swl_nil ?_
        have h26' : x.2 = y.2 := by simpa using h26
        exact then_n ⟨i + 1, ⟨rfl, rfl, h14', fun j hj => by
          by_cases e : j = i
          · subst e; rw [hnx, hny, h26']
          · exact hlo j (by omega)⟩, by omega⟩
    · skip   -- 14 F
      have h14' := of_decide_eq_false h14
      obtain rfl : i = G.length := by omega
      refine swp_exit ?_
      refine then_x ?_
      refine then_x ?_
      refine block_hit rfl ?_
      refine then_n ?_
      refine swp_seq ?_
      refine swp_region ?_
      refine s_pu (pu_assign rfl) ?_
      refine swl_sub _ (.cons (t := 4) rfl .nil) ?_
      refine swl_nil ?_
      refine then_n ?_
      refine swp_ret ?_
      exact done_ret [ro μ] (.tmp rfl .nil) ⟨by rw [decide_eq_true (List.ext_getElem? fun j => by
        by_cases hj : j < G.length
        · exact hlo j hj
        · rw [List.getElem?_eq_none (by rw [List.length_map]; omega), List.getElem?_eq_none (by rw [List.length_map]; omega)])]; rfl, rfl⟩ (by repeat (first | exact Split.nil | (apply Split.cons; (repeat (first | with_reducible exact Take.here | apply Take.there)))))
theorem spoilt_spec (v : Value) (xs : List Int) (hn : xs.length ≤ 1048576) : Spec Tryd.prog 78 [v] [own 3 1 v xs.length (xs.flatMap (icsk .i64))] (fun r L => L = []) := by
  refine Spec.of 15 Tryd.func78 rfl rfl rfl ?_
  refine swp_fact (fun m h => own_shape .here h) fun hs => ?_
  have hform : ∃ A cap, v = .slice A xs.length cap := by
    rcases hs with ⟨h1, h2⟩ | ⟨b, cap, h1, _⟩
    · exact ⟨none, 0, by rw [h1, h2]⟩
    · exact ⟨_, _, h1⟩
  refine swp_seq ?_
  refine swp_seq ?_
  refine swp_region ?_
  refine s_pu (pu_move rfl) ?_
  refine s_pu (pu_len_own hform rfl) ?_
  refine s_pu (pu_move rfl) ?_
  refine swl_sub _ (.cons (t := 0) rfl (.cons (t := 4) rfl (.cons (t := 5) rfl .nil))) ?_
  refine swl_nil ?_
  refine then_n ?_
  refine swp_block ?_
  refine swp_loop (ι := Nat × List Int) (fun k env L => env = [(0, v), (4, .int .i64 (xs.length : Nat)), (5, .int .i64 (k.1 : Nat))] ∧ L = [own 3 1 v xs.length (k.2.flatMap (icsk .i64))] ∧ k.1 ≤ xs.length ∧ k.2.length = xs.length) (fun k => xs.length - k.1) (0, xs) ⟨rfl, rfl, Nat.zero_le _, rfl⟩ ?_
  rintro ⟨k, ys⟩ env L ⟨rfl, rfl, hk, hys⟩
  dsimp only at hk hys ⊢
  refine swp_seq ?_
  refine swp_region ?_
  refine s_pu (pu_lss rfl rfl) ?_
  refine swl_sub _ (.cons (t := 0) rfl (.cons (t := 4) rfl (.cons (t := 5) rfl (.cons (t := 6) rfl .nil)))) ?_
  refine swl_nil ?_
  refine then_n ?_
  refine swp_seq ?_
  refine swp_cond (b := _) rfl (fun h6 => ?_) (fun h6 => ?_)
  · skip   -- 6 T
    have h6' : k < xs.length := by have := of_decide_eq_true h6; omega
    obtain ⟨y, hy⟩ : ∃ y, ys[k]? = some y := ⟨_, List.getElem?_eq_getElem (by omega)⟩
    refine swp_own (fun h0 l0 _ => by omega) (fun b1 c1 ex1 hv1 h1 h2 h3 h4 => ?_)
    subst hv1
    refine swp_skip ?_
    refine then_n ?_
    refine swp_seq ?_
    refine swp_block ?_
    refine swp_seq ?_
    refine swp_region ?_
    refine s_pu (pu_move rfl) ?_
    refine s_pu (pu_assign rfl) ?_
    refine swl_sub _ (.cons (t := 0) rfl (.cons (t := 2) rfl (.cons (t := 4) rfl (.cons (t := 5) rfl .nil)))) ?_
    refine swl_nil ?_
    refine then_n ?_
    refine swp_region ?_
    refine s_pu (pu_move rfl) ?_
    refine s_pu (pu_move rfl) ?_
    refine s_pu (pu_indexAddr k rfl rfl (by omega) (by omega) (by omega)) ?_
    refine s_ef0 (ef_storeP rfl rfl rfl (by rw [List.length_append, icells_len]; omega)) ?_
    refine swl_sub _ (.cons (t := 0) rfl (.cons (t := 4) rfl (.cons (t := 5) rfl .nil))) ?_
    have e1 : (ys.flatMap (icsk .i64) ++ ex1).set k (.int .i64 (-3)) = (ys.set k (-3)).flatMap (icsk .i64) ++ ex1 := by
      have hf : ∀ l : List Int, l.flatMap (icsk .i64) = l.map (Value.int .i64) := fun l => by
        induction l with
        | nil => rfl
        | cons a l ih => rw [List.flatMap_cons, List.map_cons, ih]; rfl
      rw [hf, hf, List.set_append_left (h := by rw [List.length_map]; omega), List.map_set]
    rw [e1]
    refine swl_ent (own_close (n := 1) (by rw [icells_len, List.length_set, hys]) h4 h1 h2) ?_
    refine swl_nil ?_
    refine block_n ?_
    refine then_n ?_
    refine swp_region ?_
    refine s_pu (pu_add_as ((k + 1 : Nat) : Int) rfl rfl (by omega) (by omega) (by omega)) ?_
    refine s_pu (pu_move rfl) ?_
    refine swl_sub _ (.cons (t := 0) rfl (.cons (t := 4) rfl (.cons (t := 5) rfl .nil))) ?_
    refine swl_nil ?_
    exact then_n ⟨(k + 1, ys.set k (-3)), ⟨rfl, rfl, h6', by rw [List.length_set, hys]⟩, by show xs.length - (k + 1) < xs.length - k; omega⟩
  · skip   -- 6 F
    refine swp_exit ?_
    refine then_x ?_
    refine then_x ?_
    refine block_hit rfl ?_
    refine then_n ?_
    refine swp_region ?_
    refine s_pu (pu_move rfl) ?_
    refine s_ef (ef_bldS (qs := [(0, _), (1, _)]) rfl rfl rfl) ?_
    intro b13
    refine s_ef (ef_append_lit (l := xs.length) (m := 2) rfl rfl (by repeat (first | exact Split.nil | (apply Split.cons; (repeat (first | with_reducible exact Take.here | apply Take.there))))) (by simp only [maxLen]; omega) (by omega)) ?_
    rintro v' hv'
    skip
    refine swl_sub _ .nil ?_
    refine swl_nil ?_
    exact done_end [] .nil rfl (by repeat (first | exact Split.nil | (apply Split.cons; (repeat (first | with_reducible exact Take.here | apply Take.there)))))
end SX
namespace SX
open Go Go.Proofs

theorem flat_take {β : Type} {f : β → List Value} (hf : ∀ e, (f e).length = 1) : ∀ (es : List β) (k : Nat), (es.flatMap f).take k = (es.take k).flatMap f
  | [], k => by simp
  | e :: es, 0 => by simp
  | e :: es, k + 1 => by
    rw [List.flatMap_cons, List.take_succ_cons, List.flatMap_cons, ← flat_take hf es k]
    have := hf e
    rw [List.take_append, this, Nat.add_sub_cancel, List.take_of_length_le (by omega)]
theorem graph_take {μ : PH} {v : Value} {G : List (Value × List Int)} (hG : Graph μ v G) (k : Nat) (hk : k ≤ G.length) :
    ∃ v', Graph μ v' (G.take k) ∧ ∀ (env : Env) (x y : Operand) (ki : IntKind) (hi : Int), evalE env x = some v → evalE env y = some (.int ki hi) → hi = (k : Int) → Pu Tryd.prog env (.slice 54 x none (some y) none) v' := by
  obtain ⟨v', hr, hp⟩ := Row.hi (P := Tryd.prog) (t := 54) hG.1 k hk
  refine ⟨v', ⟨?_, fun x hx => hG.2 x (List.mem_of_mem_take hx)⟩, hp⟩
  rw [Nat.mul_one, flat_take gcs_len] at hr
  rwa [List.length_take, Nat.min_eq_left hk]
/-- a copy, wherever it lies -/
def Copied (μ : PH) (g : List (List Int)) (r : Value) (L : List Assn) : Prop := ∃ μ' G', Le μ μ' ∧ Graph μ' r G' ∧ nums G' = g ∧ L = [ro μ']
theorem icsk_one (xs : List Int) : (xs.flatMap (icsk .i64)).all Value.oneCell' = true := by
  rw [List.all_flatMap]; simp [icsk, Value.oneCell']
theorem pointer_one (G : List (Value × List Int)) (h : ∀ x ∈ G, ∃ A l c, x.1 = .slice A l c) : (G.flatMap gcs).all Value.oneCell' = true := by
  rw [List.all_flatMap, List.all_eq_true]
  intro x hx
  obtain ⟨A, l, c, e⟩ := h x hx
  simp [gcs, e, Value.oneCell']

set_option maxHeartbeats 1000000 in
theorem few_spec (μ : PH) (v : Value) (G : List (Value × List Int)) (n : Nat) (hG : Graph μ v G) (hn : G.length ≤ 1048576) (hrows : ∀ x ∈ G, x.2.length ≤ 1048576) (hnb : n ≤ 1048576) : Spec Tryd.prog 34 [v, .int .i64 (n : Nat)] [ro μ] (Copied μ ((nums G).take n)) := by
  have hlen : (G.take (min G.length n)).length = min G.length n := by rw [List.length_take]; omega
  obtain ⟨v', hG1, hsl⟩ := graph_take hG (min G.length n) (Nat.min_le_left _ _)
  have hmn : (min (G.length : Int) (n : Int)) = ((min G.length n : Nat) : Int) := by omega
  have hnum : nums (G.take (min G.length n)) = (nums G).take n := by
    rw [nums, List.map_take, Nat.min_comm, List.take_eq_take_iff, List.length_map]; omega
  have hrows1 : ∀ x ∈ G.take (min G.length n), x.2.length ≤ 1048576 := fun x hx => hrows x (List.mem_of_mem_take hx)
  have hm : min G.length n ≤ 1048576 := by omega
  refine Spec.of 30 Tryd.func34 rfl rfl rfl ?_
  refine swp_seq ?_
  refine swp_region ?_
  refine s_pu (pu_assign rfl) ?_
  refine swl_sub _ (.cons (t := 0) rfl (.cons (t := 1) rfl .nil)) ?_
  refine swl_nil ?_
  refine then_n ?_
  refine swp_seq ?_
  refine swp_region ?_
  refine s_pu (pu_assign rfl) ?_
  refine swl_sub _ (.cons (t := 0) rfl (.cons (t := 1) rfl (.cons (t := 5) rfl .nil))) ?_
  refine swl_nil ?_
  refine then_n ?_
  refine swp_seq ?_
  refine swp_seq ?_
  refine swp_region ?_
  refine s_pu (pu_move rfl) ?_
  refine s_pu (pu_move rfl) ?_
  refine s_pu (pu_len_row hG.1 rfl) ?_
  refine s_pu (pu_move rfl) ?_
  refine s_pu (pu_min2 rfl rfl) ?_
  rw [hmn]
  generalize min G.length n = m at *
  refine s_pu (hsl _ _ _ .i64 _ rfl rfl rfl) ?_
  refine s_pu (pu_len_row hG1.1 rfl) ?_
  refine s_pu (pu_move rfl) ?_
  refine swl_sub _ (.cons (t := 5) rfl (.cons (t := 13) rfl (.cons (t := 14) rfl (.cons (t := 15) rfl .nil)))) ?_
  rw [hlen]
  generalize G.take m = Gm at *
  refine swl_ent (own_nil_ent (e := 23) (n := 1)) ?_
  refine swl_nil ?_
  refine then_n ?_
  refine swp_block ?_
  subst hlen
  refine swp_loop (ι := Nat × Value × List (Value × List Int) × PH) (fun k env L => env = [(5, k.2.1), (13, v'), (14, .int .i64 (Gm.length : Nat)), (15, .int .i64 (k.1 : Nat))] ∧ L = [own 23 1 k.2.1 k.1 (k.2.2.1.flatMap gcs), ro k.2.2.2] ∧ k.1 ≤ Gm.length ∧ Le μ k.2.2.2 ∧ nums k.2.2.1 = (nums Gm).take k.1 ∧ ∀ x ∈ k.2.2.1, Row k.2.2.2 x.1 1 x.2.length (x.2.flatMap (icsk .i64))) (fun k => Gm.length - k.1) (0, .slice none 0 0, [], μ) ⟨rfl, rfl, Nat.zero_le _, Le.refl _, rfl, fun x hx => by cases hx⟩ ?_
  rintro ⟨k, v5, Gk, μk⟩ env L ⟨rfl, rfl, hk, hle, hnk, hrk⟩
  dsimp only at hk hle hnk hrk ⊢
  refine swp_seq ?_
  refine swp_region ?_
  refine s_pu (pu_lss rfl rfl) ?_
  refine swl_sub _ (.cons (t := 5) rfl (.cons (t := 13) rfl (.cons (t := 14) rfl (.cons (t := 15) rfl (.cons (t := 16) rfl .nil))))) ?_
  refine swl_nil ?_
  refine then_n ?_
  refine swp_seq ?_
  refine swp_cond (b := _) rfl (fun h16 => ?_) (fun h16 => ?_)
  · skip   -- 16 T
    have h16' : k < Gm.length := by have := of_decide_eq_true h16; omega
    obtain ⟨x, hx⟩ : ∃ x, Gm[k]? = some x := ⟨_, List.getElem?_eq_getElem h16'⟩
    obtain ⟨gb, off, cap, rfl, c1, c2, hr⟩ := (hG1.1.le hle).pos (by omega)
    have hxm := List.mem_of_getElem? hx
    have hxr := (hG1.2 _ hxm).le hle
    have hxl := hrows1 _ hxm
    refine swp_skip ?_
    refine then_n ?_
    refine swp_seq ?_
    refine swp_block ?_
    refine swp_seq ?_
    refine swp_region ?_
    refine s_pu (pu_indexAddr (off + k * 1) rfl rfl (by omega) (by omega) (by rw [Int.toNat_natCast])) ?_
    refine s_rd (rd_ro rfl (hr.elem gcs_len hx).cell) ?_
    refine s_pu (pu_assign rfl) ?_
    refine swl_sub _ (.cons (t := 5) rfl (.cons (t := 7) rfl (.cons (t := 13) rfl (.cons (t := 14) rfl (.cons (t := 15) rfl .nil))))) ?_
    refine swl_nil ?_
    refine then_n ?_
    refine swp_region ?_
    refine s_pu (pu_move rfl) ?_
    refine s_pu (pu_move rfl) ?_
    refine s_pu (pu_len_row hxr rfl) ?_
    first | refine s_pu (pu_add_in rfl rfl (by omega) (by omega)) ?_ | refine s_pu (pu_add rfl rfl) ?_
    refine s_ef (ef_make0 (e := 3) (n := 1) rfl rfl (by omega) (by omega) (by simp only [maxLen]; omega)) ?_
    rintro v23
    skip
    refine s_pu (pu_move rfl) ?_
    refine s_ef (ef_append_ro hxr rfl rfl (by repeat (first | exact Split.nil | (apply Split.cons; (repeat (first | with_reducible exact Take.here | apply Take.there))))) (icsk_one _) (by simp only [maxLen]; omega) (by omega)) ?_
    rintro v25 -
    rw [Nat.zero_add, List.nil_append]
    refine swl_share_own (μ := μk) (by repeat (first | exact Split.nil | (apply Split.cons; (repeat (first | with_reducible exact Take.here | apply Take.there))))) fun μ' hle' hrow' => ?_
    have hform : ∃ A cap, v25 = .slice A x.2.length cap := hrow'.form'
    obtain ⟨A25, cap25, rfl⟩ := hform
    refine s_ef (ef_bldS (qs := [(0, _)]) rfl rfl rfl) ?_
    intro b26
    refine s_ef (ef_append_lit (l := k) (m := 1) (news := [.slice A25 x.2.length cap25]) rfl rfl (by repeat (first | exact Split.nil | (apply Split.cons; (repeat (first | with_reducible exact Take.here | apply Take.there))))) (by simp only [maxLen]; omega) (by omega)) ?_
    rintro v' hv'
    skip
    refine s_pu (pu_assign rfl) ?_
    refine swl_sub _ (.cons (t := 5) rfl (.cons (t := 13) rfl (.cons (t := 14) rfl (.cons (t := 15) rfl .nil)))) ?_
    refine swl_nil ?_
    refine block_n ?_
    refine then_n ?_
    refine swp_region ?_
    refine s_pu (pu_add_as ((k + 1 : Nat) : Int) rfl rfl (by omega) (by omega) (by omega)) ?_
    refine s_pu (pu_move rfl) ?_
    refine swl_sub _ (.cons (t := 5) rfl (.cons (t := 13) rfl (.cons (t := 14) rfl (.cons (t := 15) rfl .nil)))) ?_
    refine swl_nil ?_
    refine then_n ⟨(k + 1, v', Gk ++ [(.slice A25 x.2.length cap25, x.2)], μ'), ⟨rfl, by rw [List.flatMap_append]; rfl, h16', hle.trans hle', ?_, fun y hy => ?_⟩, by show Gm.length - (k + 1) < Gm.length - k; omega⟩
    · have e1 : (nums Gm)[k]? = some x.2 := by rw [List.getElem?_map, hx]; rfl
      show List.map (·.2) (Gk ++ [(_, x.2)]) = _
      rw [List.map_append, List.take_add_one, e1, ← hnk]; rfl
    · rcases List.mem_append.1 hy with hy | hy
      · exact (hrk y hy).le hle'
      · obtain rfl : y = (.slice A25 x.2.length cap25, x.2) := by simpa using hy
        exact hrow'
  · skip   -- 16 F
    have h16' := of_decide_eq_false h16
    obtain rfl : k = Gm.length := by omega
    refine swp_share_own (μ := μk) (by repeat (first | exact Split.nil | (apply Split.cons; (repeat (first | with_reducible exact Take.here | apply Take.there))))) fun μ' hle' hrow' => ?_
    refine swp_exit ?_
    refine then_x ?_
    refine then_x ?_
    refine block_hit rfl ?_
    refine then_n ?_
    refine swp_seq ?_
    refine swp_region ?_
    refine s_pu (pu_move rfl) ?_
    refine s_pu (pu_assign rfl) ?_
    refine swl_sub _ (.cons (t := 4) rfl .nil) ?_
    refine swl_nil ?_
    refine then_n ?_
    refine swp_ret ?_
    have hg : nums Gk = nums Gm := by rw [hnk, List.take_of_length_le (by rw [List.length_map]; exact Nat.le_refl _)]
    have hl : Gk.length = Gm.length := by have := congrArg List.length hg; rwa [List.length_map, List.length_map] at this
    refine done_ret [ro μ'] (.tmp rfl .nil) ⟨μ', Gk, hle.trans hle', ⟨by rw [hl]; exact hrow', fun x hx => (hrk x hx).le hle'⟩, by rw [hg, hnum], rfl⟩ (by repeat (first | exact Split.nil | (apply Split.cons; (repeat (first | with_reducible exact Take.here | apply Take.there)))))
end SX
namespace SX
open Go Go.Proofs

theorem row_of_blk {μ : PH} {b t n l : Nat} {cs : List Value} (h : μ b = some (.cells cs.toArray t (0, 0))) (hl : cs.length = l * n) (hm : l ≤ maxLen) : Row μ (.slice (some ⟨b, 0, none⟩) l l) n l cs :=
  ⟨hl, _, _, rfl, Nat.le_refl _, hm, fun h => (by cases h), fun _ => ⟨b, 0, rfl, fun j u hj => ⟨cs.toArray, t, (0, 0), h, by rw [Nat.zero_add]; simpa using hj⟩⟩⟩
theorem ints2b {L : List Assn} {b : Nat} {a c : Int} [InB b L 3 [.int .i64 a, .int .i64 c]] : Ints L (.slice (some ⟨b, 0, none⟩) 2 2) [a, c] := by
  refine ⟨_, _, rfl, by simp, fun _ => ⟨b, 0, rfl, fun j x hx => ld_one (ty := 3) (cs := [.int .i64 a, .int .i64 c]) ?_⟩⟩
  cases j with
  | zero => obtain rfl : a = x := by simpa using hx
            rfl
  | succ j => cases j with
    | zero => obtain rfl : c = x := by simpa using hx
              rfl
    | succ j => simp at hx
def crossN : List (List Int) := [[], [0], [0], [1, 2], [2, 1]]
set_option maxHeartbeats 1000000 in
theorem crossed_spec (μ : PH) : Spec Tryd.prog 61 [] [ro μ] (Copied μ crossN) := by
  refine Spec.of 6 Tryd.func61 rfl rfl rfl ?_
  refine swp_seq ?_
  refine swp_region ?_
  refine s_pu (pu_assign rfl) ?_
  refine swl_sub _ .nil ?_
  refine swl_nil ?_
  refine then_n ?_
  refine swp_seq ?_
  refine swp_region ?_
  refine s_ef (ef_bldS (qs := [(0, _)]) rfl rfl rfl) ?_
  intro b1
  refine s_ef (ef_bldS (qs := [(0, _)]) rfl rfl rfl) ?_
  intro b2
  refine s_ef (ef_bldS (qs := [(0, _), (1, _)]) rfl rfl rfl) ?_
  intro b3
  refine s_ef (ef_bldS (qs := [(0, _), (1, _)]) rfl rfl rfl) ?_
  intro b4
  refine s_ef (ef_bldS (qs := [(0, _), (1, _), (2, _), (3, _), (4, _)]) rfl rfl rfl) ?_
  intro b5
  refine s_pu (pu_assign rfl) ?_
  refine swl_sub _ (.cons (t := 0) rfl .nil) ?_
  refine swl_share (b := b1) (μ := μ) (by repeat (first | exact Split.nil | (apply Split.cons; (repeat (first | with_reducible exact Take.here | apply Take.there))))) fun μ1 h1 k1 => ?_
  refine swl_share (b := b2) (μ := μ1) (by repeat (first | exact Split.nil | (apply Split.cons; (repeat (first | with_reducible exact Take.here | apply Take.there))))) fun μ2 h2 k2 => ?_
  refine swl_share (b := b3) (μ := μ2) (by repeat (first | exact Split.nil | (apply Split.cons; (repeat (first | with_reducible exact Take.here | apply Take.there))))) fun μ3 h3 k3 => ?_
  refine swl_share (b := b4) (μ := μ3) (by repeat (first | exact Split.nil | (apply Split.cons; (repeat (first | with_reducible exact Take.here | apply Take.there))))) fun μ4 h4 k4 => ?_
  refine swl_share (b := b5) (μ := μ4) (by repeat (first | exact Split.nil | (apply Split.cons; (repeat (first | with_reducible exact Take.here | apply Take.there))))) fun μ5 h5 k5 => ?_
  refine swl_nil ?_
  refine then_n ?_
  refine swp_ret ?_
  have r1 := (row_of_blk (n := 1) (l := 1) (cs := [0].flatMap (icsk .i64)) k1 (by rfl) (by decide)).le (h2.trans (h3.trans (h4.trans h5)))
  have r2 := (row_of_blk (n := 1) (l := 1) (cs := [0].flatMap (icsk .i64)) k2 (by rfl) (by decide)).le (h3.trans (h4.trans h5))
  have r3 := (row_of_blk (n := 1) (l := 2) (cs := [1, 2].flatMap (icsk .i64)) k3 (by rfl) (by decide)).le (h4.trans h5)
  have r4 := (row_of_blk (n := 1) (l := 2) (cs := [2, 1].flatMap (icsk .i64)) k4 (by rfl) (by decide)).le h5
  refine done_ret [ro μ5] (.tmp rfl .nil) ⟨μ5, [(.slice none 0 0, []), (.slice (some ⟨b1, 0, none⟩) 1 1, [0]), (.slice (some ⟨b2, 0, none⟩) 1 1, [0]), (.slice (some ⟨b3, 0, none⟩) 2 2, [1, 2]), (.slice (some ⟨b4, 0, none⟩) 2 2, [2, 1])], h1.trans (h2.trans (h3.trans (h4.trans h5))), ⟨row_of_blk k5 (by rfl) (by decide), fun x hx => ?_⟩, rfl, rfl⟩ (by repeat (first | exact Split.nil | (apply Split.cons; (repeat (first | with_reducible exact Take.here | apply Take.there)))))
  rcases List.mem_cons.1 hx with rfl | hx
  · exact Row.nil _ _
  rcases List.mem_cons.1 hx with rfl | hx
  · exact r1
  rcases List.mem_cons.1 hx with rfl | hx
  · exact r2
  rcases List.mem_cons.1 hx with rfl | hx
  · exact r3
  obtain rfl := List.mem_singleton.1 hx
  exact r4
theorem cross_bas : basL crossN 3 4 = [1, 2] := by decide +kernel
theorem cross_ask : askE crossN 3 4 = 0 ∧ askE crossN 3 1 = 0 ∧ askE crossN 1 3 = 0 := by decide +kernel
theorem cross_up : up crossN 3 1 = true ∧ up crossN 1 3 = false := by decide +kernel
def Ro1 (μ : PH) (L : List Assn) : Prop := ∃ μ' R, Le μ μ' ∧ L = ro μ' :: R
set_option maxHeartbeats 1000000 in
theorem descends_spec (μ : PH) (hT : RowAt μ 0 0 tabV) : Spec Tryd.prog 33 [] [ro μ] (fun r L => r = .bool true ∧ ∃ μ', Le μ μ' ∧ L = [ro μ']) := by
  refine Spec.of 44 Tryd.func33 rfl rfl rfl ?_
  refine swp_seq ?_
  refine swp_region ?_
  refine s_pu (pu_assign rfl) ?_
  refine swl_sub _ .nil ?_
  refine swl_nil ?_
  refine then_n ?_
  refine swp_seq ?_
  refine swp_region ?_
  refine s_ef (ef_fn (crossed_spec μ) rfl rfl (by repeat (first | exact Split.nil | (apply Split.cons; (repeat (first | with_reducible exact Take.here | apply Take.there)))))) ?_
  rintro v8 L1 ⟨μ1, G1, l1, g1, e1, rfl⟩
  have hl1 : G1.length = 5 := by have := congrArg List.length e1; rwa [List.length_map] at this
  refine swl_app ?_
  refine s_ef (ef_fn (bases_spec μ1 v8 G1 3 4 (hT.le l1) g1 (by omega)) rfl rfl (by repeat (first | exact Split.nil | (apply Split.cons; (repeat (first | with_reducible exact Take.here | apply Take.there)))))) ?_
  rintro v9 L1 ⟨lv, rfl, rfl⟩
  rw [e1, cross_bas, cross_ask.1]
  refine swl_app ?_
  refine swl_fact (fun m h => own_shape .here h) fun hs => ?_
  refine s_pu (pu_move rfl) ?_
  refine s_pu (pu_extract rfl rfl) ?_
  refine s_pu (pu_extract rfl rfl) ?_
  refine s_pu (pu_assign rfl) ?_
  refine s_pu (pu_assign rfl) ?_
  refine swl_sub _ (.cons (t := 1) rfl (.cons (t := 2) rfl .nil)) ?_
  refine swl_nil ?_
  refine then_n ?_
  refine swp_seq ?_
  refine swp_region ?_
  refine s_ef (ef_fn (crossed_spec μ1) rfl rfl (by repeat (first | exact Split.nil | (apply Split.cons; (repeat (first | with_reducible exact Take.here | apply Take.there)))))) ?_
  rintro v13 L1 ⟨μ2, G2, l2, g2, e2, rfl⟩
  have hl2 : G2.length = 5 := by have := congrArg List.length e2; rwa [List.length_map] at this
  refine swl_app ?_
  refine s_ef (ef_fn (reach_spec μ2 v13 G2 3 1 g2 (by omega)) rfl rfl (by repeat (first | exact Split.nil | (apply Split.cons; (repeat (first | with_reducible exact Take.here | apply Take.there)))))) ?_
  rintro v14 L1 ⟨rfl, rfl⟩
  rw [e2, cross_ask.2.1, show up crossN (Int.toNat 3) (Int.toNat 1) = true from cross_up.1]
  refine swl_app ?_
  refine s_pu (pu_move rfl) ?_
  refine s_pu (pu_extract rfl rfl) ?_
  refine s_pu (pu_extract rfl rfl) ?_
  refine s_pu (pu_assign rfl) ?_
  refine s_pu (pu_assign rfl) ?_
  refine swl_sub _ (.cons (t := 1) rfl (.cons (t := 2) rfl (.cons (t := 3) rfl (.cons (t := 4) rfl .nil)))) ?_
  refine swl_nil ?_
  refine then_n ?_
  refine swp_seq ?_
  refine swp_region ?_
  refine s_ef (ef_fn (crossed_spec μ2) rfl rfl (by repeat (first | exact Split.nil | (apply Split.cons; (repeat (first | with_reducible exact Take.here | apply Take.there)))))) ?_
  rintro v18 L1 ⟨μ3, G3, l3, g3, e3, rfl⟩
  have hl3 : G3.length = 5 := by have := congrArg List.length e3; rwa [List.length_map] at this
  refine swl_app ?_
  refine s_ef (ef_fn (reach_spec μ3 v18 G3 1 3 g3 (by omega)) rfl rfl (by repeat (first | exact Split.nil | (apply Split.cons; (repeat (first | with_reducible exact Take.here | apply Take.there)))))) ?_
  rintro v19 L1 ⟨rfl, rfl⟩
  rw [e3, cross_ask.2.2, show up crossN (Int.toNat 1) (Int.toNat 3) = false from cross_up.2]
  refine swl_app ?_
  refine s_pu (pu_move rfl) ?_
  refine s_pu (pu_extract rfl rfl) ?_
  refine s_pu (pu_extract rfl rfl) ?_
  refine s_pu (pu_assign rfl) ?_
  refine s_pu (pu_assign rfl) ?_
  refine swl_sub _ (.cons (t := 1) rfl (.cons (t := 2) rfl (.cons (t := 3) rfl (.cons (t := 4) rfl (.cons (t := 5) rfl (.cons (t := 6) rfl .nil)))))) ?_
  refine swl_nil ?_
  refine then_n ?_
  refine swp_seq ?_
  refine swp_region ?_
  refine s_pu (pu_move rfl) ?_
  refine s_pu (pu_eql rfl rfl) ?_
  refine s_pu (pu_move rfl) ?_
  refine s_on rfl rfl ?_
  refine s_pu (pu_move rfl) ?_
  refine s_on rfl rfl ?_
  refine s_pu (pu_eql rfl rfl) ?_
  first | refine s_pu (pu_pick_t rfl rfl) ?_ | refine s_pu (pu_pick_f rfl rfl) ?_
  refine s_pu (pu_move rfl) ?_
  refine s_on rfl rfl ?_
  refine s_pu (pu_move rfl) ?_
  refine s_on rfl rfl ?_
  refine s_pu (pu_eql rfl rfl) ?_
  first | refine s_pu (pu_pick_t rfl rfl) ?_ | refine s_pu (pu_pick_f rfl rfl) ?_
  refine s_pu (pu_move rfl) ?_
  refine s_on rfl rfl ?_
  refine s_pu (pu_move rfl) ?_
  refine s_on rfl rfl ?_
  refine s_ef (ef_bldS (qs := [(0, _), (1, _)]) rfl rfl rfl) ?_
  intro b34
  refine swl_ent (Split.ent' (K := [own 3 1 lv ([1, 2] : List Int).length (([1, 2] : List Int).flatMap (icsk .i64)), blk b34 3 [.int .i64 1, .int .i64 2], ro μ3]) (by repeat (first | exact Split.nil | (apply Split.cons; (repeat (first | with_reducible exact Take.here | apply Take.there)))))) ?_
  refine s_on rfl rfl ?_
  refine s_ef (ef_fn (samelist_i lv _ [1, 2] [1, 2] [own 3 1 lv ([1, 2] : List Int).length (([1, 2] : List Int).flatMap (icsk .i64)), blk b34 3 [.int .i64 1, .int .i64 2], ro μ3] (ints_own hs .here) ints2b) rfl rfl (by repeat (first | exact Split.nil | (apply Split.cons; (repeat (first | with_reducible exact Take.here | apply Take.there)))))) ?_
  rintro v35 L1 ⟨rfl, rfl⟩
  refine swl_app ?_
  first | refine s_pu (pu_pick_t rfl rfl) ?_ | refine s_pu (pu_pick_f rfl rfl) ?_
  refine s_pu (pu_move rfl) ?_
  refine s_on rfl rfl ?_
  refine s_pu (pu_move rfl) ?_
  first | refine s_pu (pu_pick_t rfl rfl) ?_ | refine s_pu (pu_pick_f rfl rfl) ?_
  refine s_pu (pu_move rfl) ?_
  refine s_on rfl rfl ?_
  refine s_pu (pu_move rfl) ?_
  refine s_on rfl rfl ?_
  refine s_pu (pu_not rfl) ?_
  first | refine s_pu (pu_pick_t rfl rfl) ?_ | refine s_pu (pu_pick_f rfl rfl) ?_
  refine s_pu (pu_assign rfl) ?_
  refine swl_sub _ (.cons (t := 0) rfl .nil) ?_
  refine swl_nil ?_
  refine then_n ?_
  refine swp_ret ?_
  exact done_ret [ro μ3] (.tmp rfl .nil) ⟨rfl, μ3, l1.trans (l2.trans l3), rfl⟩ (by repeat (first | exact Split.nil | (apply Split.cons; (repeat (first | with_reducible exact Take.here | apply Take.there)))))
end SX
