/- A part of the proof: walks of the program's functions, and the rules by which they go. -/
import Derived.Test.YtakdmomhhjnolaaB78ff696c
import Derived.Test.YtakdmomhhjnolaaB731fab98
import Derived.Test.YtakdmomhhjnolaaRows
namespace SX
open Go Go.Proofs

theorem ncs_of (a : List Int) : a.flatMap (icsk .i64) = ncs a.length (fun j => a.getD j 0) := by
  apply List.ext_getElem?
  intro j
  by_cases h : j < a.length
  · rw [icells_get' (List.getElem?_eq_getElem h), ncs_get _ h, List.getD_eq_getElem?_getD, List.getElem?_eq_getElem h]; rfl
  · rw [List.getElem?_eq_none (by rw [icells_len']; omega), List.getElem?_eq_none (by rw [ncs_len]; omega)]
theorem ncs_cut (k : Nat) (a : List Int) : (cutG k a).flatMap (icsk .i64) = ncs a.length (fun j => if j < k then a.getD j 0 else 1024) := by
  unfold cutG ncs
  rw [List.flatMap_map]
  generalize List.range a.length = l
  induction l with
  | nil => rfl
  | cons x l ih => rw [List.flatMap_cons, List.map_cons, ih]; rfl
theorem ncs_ext {n : Nat} {c d : Nat → Int} (h : ∀ j, j < n → c j = d j) : ncs n c = ncs n d := by
  unfold ncs
  apply List.map_congr_left
  intro j hj
  rw [h j (List.mem_range.1 hj)]
theorem may_small {x y : Int} (hx : (1 ≤ x ∧ x ≤ 1000) ∨ x = 1024) (hy : (1 ≤ y ∧ y ≤ 1000) ∨ y = 1024) : mayG x y = (decide (x = 1024) || (!decide (y = 1024) && decide (y < x))) := by
  have cx : cnt x = x := cnt_id (by omega) (by omega)
  have cy : cnt y = y := cnt_id (by omega) (by omega)
  unfold mayG
  rw [cx, cy]
  by_cases h1 : x = 1024
  · simp [h1]
  · by_cases h2 : y = 1024
    · simp [h1, h2]
    · have h3 : x ≠ 1023 := by omega
      simp [h1, h2, h3]
set_option maxHeartbeats 4000000 in
theorem genreach_spec (μ : PH) (v : Value) (G : List (Value × List Int)) (kn : Int) (hG : Graph μ v G) (hn : G.length ≤ 1048576) (hrows : ∀ x ∈ G, x.2.length ≤ 1048576) (hkn : 0 ≤ kn ∧ kn ≤ 255) : Spec Try.prog 8 [v, .int .u8 kn] [ro μ] (LawOk μ) := by
  refine Spec.of 119 Try.func8 rfl rfl rfl ?_
  refine swp_seq ?_
  refine swp_region ?_
  refine s_pu (pu_assign rfl) ?_
  refine swl_sub _ (.cons (t := 0) rfl (.cons (t := 1) rfl .nil)) ?_
  refine swl_nil ?_
  refine then_n ?_
  refine swp_seq ?_
  refine swp_seq ?_
  refine swp_region ?_
  refine s_ef (ef_fn (counts_spec μ) rfl rfl (by repeat (first | exact Split.nil | (apply Split.cons; (repeat (first | with_reducible exact Take.here | apply Take.there)))))) ?_
  rintro v11 L1 ⟨rfl, μ1, h1, rfl⟩
  refine swl_app ?_
  refine s_pu (pu_not rfl) ?_
  refine swl_sub _ (.cons (t := 0) rfl (.cons (t := 1) rfl (.cons (t := 12) rfl .nil))) ?_
  refine swl_nil ?_
  refine then_n ?_
  refine swp_cond (b := _) rfl (fun h12 => by cases h12) (fun h12 => ?_)
  refine swp_skip ?_
  refine then_n ?_
  refine swp_seq ?_
  obtain ⟨v', hG1, hsl⟩ := graph_take (P := Try.prog) (tG := 30) (hG.le h1) (min G.length 30) (Nat.min_le_left _ _)
  have hmn : (min (G.length : Int) 30) = ((min G.length 30 : Nat) : Int) := by omega
  have hrows1 : ∀ x ∈ G.take (min G.length 30), x.2.length ≤ 1048576 := fun x hx => hrows x (List.mem_of_mem_take hx)
  have hlen1 : (G.take (min G.length 30)).length ≤ 30 := by rw [List.length_take]; omega
  generalize G.take (min G.length 30) = Gm at *
  refine swp_region ?_
  refine s_pu (pu_move rfl) ?_
  refine s_pu (pu_move rfl) ?_
  refine s_pu (pu_len_row hG.1 rfl) ?_
  refine s_pu (pu_min2 rfl rfl) ?_
  rw [hmn]
  refine s_pu (hsl _ _ _ .i64 _ rfl rfl rfl) ?_
  refine s_pu (pu_assign rfl) ?_
  refine swl_sub _ (.cons (t := 0) rfl (.cons (t := 1) rfl .nil)) ?_
  refine swl_nil ?_
  refine then_n ?_
  refine swp_seq ?_
  refine swp_region ?_
  refine s_pu (pu_move rfl) ?_
  refine s_ef (ef_fn (all_spec sort_ok μ1 v' Gm hG1 (by omega) hrows1) rfl rfl (by repeat (first | exact Split.nil | (apply Split.cons; (repeat (first | with_reducible exact Take.here | apply Take.there)))))) ?_
  rintro v22 L1 ⟨lv, μ3, rfl, h3, rfl⟩
  refine swl_app ?_
  have hG3 := hG1.le h3
  have hec := more0_chk (nums Gm)
  refine s_pu (pu_move rfl) ?_
  first | refine s_pu (pu_extractL rfl) ?_ | refine s_pu (pu_extract rfl rfl) ?_
  first | refine s_pu (pu_extractL rfl) ?_ | refine s_pu (pu_extract rfl rfl) ?_
  refine s_pu (pu_assign rfl) ?_
  refine s_pu (pu_assign rfl) ?_
  refine swl_sub _ (.cons (t := 0) rfl (.cons (t := 1) rfl (.cons (t := 5) rfl (.cons (t := 6) rfl .nil)))) ?_
  refine swl_nil ?_
  refine then_n ?_
  refine swp_seq ?_
  refine swp_seq ?_
  refine swp_region ?_
  refine s_pu (pu_move rfl) ?_
  refine s_ef (ef_fn (rcheck_spec μ3 v' Gm hG3 (by omega)) rfl rfl (by repeat (first | exact Split.nil | (apply Split.cons; (repeat (first | with_reducible exact Take.here | apply Take.there)))))) ?_
  rintro v24 L1 ⟨rfl, rfl⟩
  refine swl_app ?_
  refine s_pu (pu_neq rfl rfl) ?_
  refine swl_sub _ (.cons (t := 0) rfl (.cons (t := 1) rfl (.cons (t := 5) rfl (.cons (t := 6) rfl (.cons (t := 25) rfl .nil))))) ?_
  refine swl_nil ?_
  refine then_n ?_
  refine swp_cond (b := _) rfl (fun h25 => ?_) (fun h25 => ?_)
  · skip   -- 25 T
    refine swp_seq ?_
    refine swp_region ?_
    refine s_pu (pu_move rfl) ?_
    refine s_pu (pu_eql rfl rfl) ?_
    refine s_pu (pu_assign rfl) ?_
    refine swl_sub _ (.cons (t := 4) rfl .nil) ?_
    refine swl_nil ?_
    refine then_n ?_
    refine swp_ret ?_
    refine then_r ?_
    have hc : ¬ chkFrom 0 (nums Gm) = 0 := by simpa using h25
    have hE : moreE [] (nums Gm) = 1 := by
      have := fun h => hc (hec.1 h)
      unfold moreE at this ⊢
      cases hm : moreG [] (nums Gm) with
      | none => rfl
      | some a => rw [hm] at this; exact absurd rfl this
    exact done_ret [ro μ3] (.tmp rfl .nil) ⟨by rw [hE]; rfl, μ3, [], h1.trans h3, rfl⟩ (by repeat (first | exact Split.nil | (apply Split.cons; (repeat (first | with_reducible exact Take.here | apply Take.there)))))
  · skip   -- 25 F
    have hc : chkFrom 0 (nums Gm) = 0 := by simpa using h25
    obtain ⟨a, ha⟩ : ∃ a, moreG [] (nums Gm) = some a := by
      have hs : (moreG [] (nums Gm)).isSome = true ↔ chkFrom 0 (nums Gm) = 0 := moreG_chk (all := [])
      exact Option.isSome_iff_exists.1 (hs.2 hc)
    have hal : a.length = Gm.length := by rw [gens_len ha, List.length_map]
    have hyes := moreL_some ha
    rw [hyes.1, hyes.2, show a.drop ([] : List Int).length = a from rfl]
    refine swp_ent (Split.ent' (K := [own 3 1 lv a.length (a.flatMap (icsk .i64)), ro μ3]) (by repeat (first | exact Split.nil | (apply Split.cons; (repeat (first | with_reducible exact Take.here | apply Take.there)))))) ?_
    refine swp_fact (fun m h => own_shape .here h) fun hs1 => ?_
    have hform := shape_len hs1
    have hg := gens_good ha
    have hln : (nums Gm).length = Gm.length := List.length_map _
    refine swp_skip ?_
    refine then_n ?_
    refine swp_seq ?_
    refine swp_seq ?_
    refine swp_region ?_
    refine s_pu (pu_move rfl) ?_
    refine s_pu (pu_neq rfl rfl) ?_
    refine s_pu (pu_move rfl) ?_
    refine s_split 30 rfl (fun h30 => by cases h30) (fun h30 => ?_)
    refine s_on rfl rfl ?_
    refine s_pu (pu_move rfl) ?_
    refine s_on rfl rfl ?_
    refine s_pu (pu_len_own hform rfl) ?_
    refine s_on rfl rfl ?_
    refine s_pu (pu_move rfl) ?_
    refine s_on rfl rfl ?_
    refine s_pu (pu_len_row hG3.1 rfl) ?_
    refine s_on rfl rfl ?_
    refine s_pu (pu_neq rfl rfl) ?_
    first | refine s_pu (pu_pick_t rfl rfl) ?_ | refine s_pu (pu_pick_f rfl rfl) ?_
    refine swl_sub _ (.cons (t := 0) rfl (.cons (t := 1) rfl (.cons (t := 5) rfl (.cons (t := 36) rfl .nil)))) ?_
    refine swl_nil ?_
    refine then_n ?_
    refine swp_cond (b := _) rfl (fun h36 => by exfalso; rw [hal] at h36; simp at h36) (fun h36 => ?_)
    refine swp_skip ?_
    refine then_n ?_
    refine swp_seq ?_
    refine swp_seq ?_
    refine swp_region ?_
    refine s_pu (pu_move rfl) ?_
    refine s_pu (pu_conv_i64 rfl (by omega) (by omega)) ?_
    refine s_pu (pu_assign rfl) ?_
    refine swl_sub _ (.cons (t := 0) rfl (.cons (t := 5) rfl (.cons (t := 7) rfl .nil))) ?_
    refine swl_nil ?_
    refine then_n ?_
    refine swp_block ?_
    obtain ⟨kk, rfl⟩ : ∃ k : Nat, kn = k := ⟨kn.toNat, by omega⟩
    rw [ncs_of, ncs_ext (d := fun j => if kk ≤ j ∧ j < kk then 1024 else a.getD j 0) (fun j _ => (if_neg (by omega)).symm)]
    refine swp_sub _ (.cons (t := 0) rfl (.cons (t := 5) rfl (.cons (t := 7) rfl .nil))) ?_
    refine swp_loop (ι := Nat) (fun i env L => env = [(0, v'), (5, lv), (7, .int .i64 (i : Nat))] ∧ L = [own 3 1 lv a.length (ncs a.length (fun j => if kk ≤ j ∧ j < i then 1024 else a.getD j 0)), ro μ3] ∧ kk ≤ i) (fun i => a.length - i) kk ⟨rfl, rfl, Nat.le_refl _⟩ ?_
    rintro i env L ⟨rfl, rfl, hi⟩
    refine swp_seq ?_
    refine swp_seq ?_
    refine swp_region ?_
    refine s_pu (pu_move rfl) ?_
    refine s_pu (pu_move rfl) ?_
    refine s_pu (pu_len_own hform rfl) ?_
    refine s_pu (pu_lss rfl rfl) ?_
    refine swl_sub _ (.cons (t := 0) rfl (.cons (t := 5) rfl (.cons (t := 7) rfl (.cons (t := 42) rfl .nil)))) ?_
    refine swl_nil ?_
    refine then_n ?_
    refine swp_cond (b := _) rfl (fun h42 => ?_) (fun h42 => ?_)
    · skip   -- 42 T
      have h42' : i < a.length := by have := of_decide_eq_true h42; omega
      refine swp_own (fun h0 l0 _ => by omega) (fun b1 c1 ex1 hv1 w1 w2 w3 w4 => ?_)
      subst hv1
      refine swp_skip ?_
      refine then_n ?_
      refine swp_seq ?_
      refine swp_block ?_
      refine swp_region ?_
      refine s_pu (pu_move rfl) ?_
      refine s_pu (pu_move rfl) ?_
      refine s_pu (pu_indexAddr i rfl rfl (by omega) (by omega) (by omega)) ?_
      refine s_ef0 (ef_storeP rfl rfl rfl (by rw [List.length_append, ncs_len]; omega)) ?_
      refine swl_sub _ (.cons (t := 0) rfl (.cons (t := 5) rfl (.cons (t := 7) rfl .nil))) ?_
      rw [List.set_append_left (h := by rw [ncs_len]; exact h42'), ncs_set (d := fun j => if kk ≤ j ∧ j < i + 1 then 1024 else a.getD j 0) (fun j => by
        by_cases e : j = i
        · subst e; rw [if_pos rfl, if_pos ⟨hi, Nat.lt_succ_self _⟩]
        · rw [if_neg e]
          by_cases h : kk ≤ j ∧ j < i
          · rw [if_pos h, if_pos (by omega)]
          · rw [if_neg h, if_neg (by omega)])]
      refine swl_ent (own_close (n := 1) (by rw [ncs_len]; omega) w4 w1 w2) ?_
      refine swl_nil ?_
      refine block_n ?_
      refine then_n ?_
      refine swp_region ?_
      refine s_pu (pu_move rfl) ?_
      refine s_pu (pu_add_as ((i + 1 : Nat) : Int) rfl rfl (by omega) (by omega) (by omega)) ?_
      refine s_pu (pu_assign rfl) ?_
      refine swl_sub _ (.cons (t := 0) rfl (.cons (t := 5) rfl (.cons (t := 7) rfl .nil))) ?_
      refine swl_nil ?_
      exact then_n ⟨i + 1, ⟨rfl, rfl, by omega⟩, by omega⟩
    · skip   -- 42 F
      have h42' := of_decide_eq_false h42
      rw [ncs_ext (d := fun j => if j < kk then a.getD j 0 else 1024) (fun j hj => by
        by_cases h : j < kk
        · rw [if_pos h, if_neg (by omega)]
        · rw [if_neg h, if_pos (by omega)]), ← ncs_cut]
      have hcl := cutG_len kk a
      rw [← hcl]
      refine swp_share_own (μ := μ3) (by repeat (first | exact Split.nil | (apply Split.cons; (repeat (first | with_reducible exact Take.here | apply Take.there))))) fun μ4 h4 r4 => ?_
      have hG4 := hG3.le h4
      refine swp_exit ?_
      refine then_x ?_
      refine then_x ?_
      refine block_hit rfl ?_
      refine then_n ?_
      refine swp_seq ?_
      refine swp_seq ?_
      refine swp_region ?_
      refine s_pu (pu_move rfl) ?_
      refine s_pu (pu_len_row hG4.1 rfl) ?_
      refine s_pu (pu_move rfl) ?_
      refine swl_sub _ (.cons (t := 0) rfl (.cons (t := 5) rfl (.cons (t := 49) rfl (.cons (t := 50) rfl .nil)))) ?_
      refine swl_nil ?_
      refine then_n ?_
      refine swp_block ?_
      refine swp_sub _ (.cons (t := 0) rfl (.cons (t := 5) rfl (.cons (t := 49) rfl (.cons (t := 50) rfl .nil)))) ?_
      refine swp_loop (ι := Nat) (fun x env L => env = [(0, v'), (5, lv), (49, .int .i64 (Gm.length : Nat)), (50, .int .i64 (x : Nat))] ∧ L = [ro μ4] ∧ x ≤ Gm.length) (fun x => Gm.length - x) 0 ⟨rfl, rfl, Nat.zero_le _⟩ ?_
      rintro x env L ⟨rfl, rfl, hx⟩
      refine swp_seq ?_
      refine swp_region ?_
      refine s_pu (pu_lss rfl rfl) ?_
      refine swl_sub _ (.cons (t := 0) rfl (.cons (t := 5) rfl (.cons (t := 49) rfl (.cons (t := 50) rfl (.cons (t := 51) rfl .nil))))) ?_
      refine swl_nil ?_
      refine then_n ?_
      refine swp_seq ?_
      refine swp_cond (b := _) rfl (fun h51 => ?_) (fun h51 => ?_)
      · skip   -- 51 T
        have h51' : x < Gm.length := by have := of_decide_eq_true h51; omega
        have hlow : ∀ (j : Nat) (z : Int), (cutG kk a)[j]? = some z → (1 ≤ z ∧ z ≤ 1000) ∨ z = 1024 := fun j z hz => by
          have hjl := (List.getElem?_eq_some_iff.1 hz).1
          rw [hcl] at hjl
          have hja := List.getElem?_eq_getElem hjl
          have hr := gens_range ha j _ hja
          rw [cutG_at hja] at hz
          obtain rfl := Option.some.inj hz
          by_cases h : j < kk
          · rw [if_pos h]; omega
          · rw [if_neg h]; exact .inr rfl
        obtain ⟨gx, hgx⟩ : ∃ z, (cutG kk a)[x]? = some z := ⟨_, List.getElem?_eq_getElem (by omega)⟩
        obtain ⟨xb, xo, xc, hxv, hxc⟩ := r4.at_ hgx
        refine swp_skip ?_
        refine then_n ?_
        refine swp_seq ?_
        refine swp_block ?_
        refine swp_seq ?_
        refine swp_region ?_
        refine s_pu (pu_move rfl) ?_
        refine s_pu (pu_assign rfl) ?_
        refine swl_sub _ (.cons (t := 0) rfl (.cons (t := 5) rfl (.cons (t := 8) rfl (.cons (t := 49) rfl (.cons (t := 50) rfl .nil))))) ?_
        refine swl_nil ?_
        refine then_n ?_
        refine swp_seq ?_
        refine swp_region ?_
        refine s_pu (pu_move rfl) ?_
        refine s_pu (pu_move rfl) ?_
        refine s_ef (ef_fn (rup_spec μ4 v' Gm x hG4 (by omega) hg (by omega)) rfl rfl (by repeat (first | exact Split.nil | (apply Split.cons; (repeat (first | with_reducible exact Take.here | apply Take.there)))))) ?_
        rintro v55 L1 ⟨b9, rfl, rfl⟩
        refine swl_app ?_
        refine s_pu (pu_assign rfl) ?_
        refine swl_sub _ (.cons (t := 0) rfl (.cons (t := 5) rfl (.cons (t := 8) rfl (.cons (t := 9) rfl (.cons (t := 49) rfl (.cons (t := 50) rfl .nil)))))) ?_
        refine swl_nil ?_
        refine then_n ?_
        refine swp_seq ?_
        refine swp_region ?_
        refine s_pu (pu_move rfl) ?_
        refine s_pu (pu_len_row hG4.1 rfl) ?_
        refine s_pu (pu_move rfl) ?_
        refine swl_sub _ (.cons (t := 0) rfl (.cons (t := 5) rfl (.cons (t := 8) rfl (.cons (t := 9) rfl (.cons (t := 49) rfl (.cons (t := 50) rfl (.cons (t := 57) rfl (.cons (t := 58) rfl .nil)))))))) ?_
        refine swl_nil ?_
        refine then_n ?_
        refine swp_block ?_
        refine swp_loop (ι := Nat) (fun y env L => env = [(0, v'), (5, lv), (8, .int .i64 (x : Nat)), (9, .slice (some ⟨b9, 0, none⟩) Gm.length Gm.length), (49, .int .i64 (Gm.length : Nat)), (50, .int .i64 (x : Nat)), (57, .int .i64 (Gm.length : Nat)), (58, .int .i64 (y : Nat))] ∧ L = [blk b9 4 (rbs Gm.length (up (nums Gm) x)), ro μ4] ∧ y ≤ Gm.length) (fun y => Gm.length - y) 0 ⟨rfl, rfl, Nat.zero_le _⟩ ?_
        rintro y env L ⟨rfl, rfl, hy⟩
        refine swp_seq ?_
        refine swp_region ?_
        refine s_pu (pu_lss rfl rfl) ?_
        refine swl_sub _ (.cons (t := 0) rfl (.cons (t := 5) rfl (.cons (t := 8) rfl (.cons (t := 9) rfl (.cons (t := 49) rfl (.cons (t := 50) rfl (.cons (t := 57) rfl (.cons (t := 58) rfl (.cons (t := 59) rfl .nil))))))))) ?_
        refine swl_nil ?_
        refine then_n ?_
        refine swp_seq ?_
        refine swp_cond (b := _) rfl (fun h59 => ?_) (fun h59 => ?_)
        · skip   -- 59 T
          have h59' : y < Gm.length := by have := of_decide_eq_true h59; omega
          obtain ⟨gy, hgy⟩ : ∃ z, (cutG kk a)[y]? = some z := ⟨_, List.getElem?_eq_getElem (by omega)⟩
          obtain ⟨yb, yo, yc, hyv, hyc⟩ := r4.at_ hgy
          obtain ⟨e1, e2, e3⟩ : yb = xb ∧ yo = xo ∧ yc = xc := by
            rw [hxv] at hyv; injection hyv with q1 q2 q3; injection q1 with q1; injection q1 with q1 q4; exact ⟨q1.symm, q4.symm, q3.symm⟩
          subst e1 e2 e3
          have hmay := may_small (hlow x gx hgx) (hlow y gy hgy)
          have hrm : x ≠ y → up (nums Gm) x y = true → mayG gx gy = true := fun hne hu => reach_may ha ((up_iff hg x y).1 hu) hne hgx hgy
          refine swp_skip ?_
          refine then_n ?_
          refine swp_seq ?_
          refine swp_block ?_
          refine swp_seq ?_
          refine swp_region ?_
          refine s_pu (pu_move rfl) ?_
          refine s_pu (pu_assign rfl) ?_
          refine swl_sub _ (.cons (t := 0) rfl (.cons (t := 5) rfl (.cons (t := 8) rfl (.cons (t := 9) rfl (.cons (t := 10) rfl (.cons (t := 49) rfl (.cons (t := 50) rfl (.cons (t := 57) rfl (.cons (t := 58) rfl .nil))))))))) ?_
          refine swl_nil ?_
          refine then_n ?_
          refine swp_cut (fun env L => (∃ b : Bool, env = [(0, v'), (5, lv), (8, .int .i64 (x : Nat)), (9, .slice (some ⟨b9, 0, none⟩) Gm.length Gm.length), (49, .int .i64 (Gm.length : Nat)), (50, .int .i64 (x : Nat)), (57, .int .i64 (Gm.length : Nat)), (58, .int .i64 (y : Nat)), (116, .bool b)] ∧ b = false) ∧ L = [blk b9 4 (rbs Gm.length (up (nums Gm) x)), ro μ4]) ?_ ?_
          · skip
            refine swp_draw [7, 13, 17, 25, 29, 34, 40, 46, 50] _ [] (by simp only [List.append_nil]; exact Ent.refl _) (by kernel_rfl) ?_
            refine d_pu 0 rfl (pu_move rfl) (by kernel_rfl) (by kernel_rfl) (by kernel_rfl) ?_
            refine d_pu 1 rfl (pu_move rfl) (by kernel_rfl) (by kernel_rfl) (by kernel_rfl) ?_
            refine d_pu 2 rfl (pu_neq rfl rfl) (by kernel_rfl) (by kernel_rfl) (by kernel_rfl) ?_
            refine d_pu 3 rfl (pu_move rfl) (by kernel_rfl) (by kernel_rfl) (by kernel_rfl) ?_
            refine d_split 64 rfl (fun h64 => ?_) (fun h64 => ?_)
            · skip   -- 64 T
              refine d_pu_on 4 rfl rfl rfl (pu_move rfl) (by kernel_rfl) (by kernel_rfl) (by kernel_rfl) ?_
              refine d_pu_on 5 rfl rfl rfl (pu_move rfl) (by kernel_rfl) (by kernel_rfl) (by kernel_rfl) ?_
              refine d_pu_on 6 rfl rfl rfl (pu_indexAddr y rfl rfl (by omega) (by omega) (by omega)) (by kernel_rfl) (by kernel_rfl) (by kernel_rfl) ?_
              refine d_rd_on 7 rfl rfl rfl (rd_load rfl (rbs_get _ h59')) rfl (by kernel_rfl) (by kernel_rfl) (by kernel_rfl) ?_
              first | refine d_pu 8 rfl (pu_pick_t rfl rfl) (by kernel_rfl) (by kernel_rfl) (by kernel_rfl) ?_ | refine d_pu 8 rfl (pu_pick_f rfl rfl) (by kernel_rfl) (by kernel_rfl) (by kernel_rfl) ?_
              refine d_pu 9 rfl (pu_move rfl) (by kernel_rfl) (by kernel_rfl) (by kernel_rfl) ?_
              refine d_split 70 rfl (fun h70 => ?_) (fun h70 => ?_)
              · skip   -- 70 T
                refine d_pu_on 10 rfl rfl rfl (pu_move rfl) (by kernel_rfl) (by kernel_rfl) (by kernel_rfl) ?_
                refine d_pu_on 11 rfl rfl rfl (pu_move rfl) (by kernel_rfl) (by kernel_rfl) (by kernel_rfl) ?_
                refine d_pu_on 12 rfl rfl rfl (pu_indexAddr (yo + x * 1) (congrArg some hxv) rfl (by omega) (by omega) (by rw [Int.toNat_natCast])) (by kernel_rfl) (by kernel_rfl) (by kernel_rfl) ?_
                refine d_rd_on 13 rfl rfl rfl (rd_ro rfl hxc) rfl (by kernel_rfl) (by kernel_rfl) (by kernel_rfl) ?_
                refine d_pu_on 14 rfl rfl rfl (pu_move rfl) (by kernel_rfl) (by kernel_rfl) (by kernel_rfl) ?_
                refine d_pu_on 15 rfl rfl rfl (pu_move rfl) (by kernel_rfl) (by kernel_rfl) (by kernel_rfl) ?_
                refine d_pu_on 16 rfl rfl rfl (pu_indexAddr (yo + y * 1) (congrArg some hxv) rfl (by omega) (by omega) (by rw [Int.toNat_natCast])) (by kernel_rfl) (by kernel_rfl) (by kernel_rfl) ?_
                refine d_rd_on 17 rfl rfl rfl (rd_ro rfl hyc) rfl (by kernel_rfl) (by kernel_rfl) (by kernel_rfl) ?_
                refine d_amb [18] (by kernel_rfl) rfl ?_
                refine dA_ef 18 rfl (GOn.some rfl rfl) (ef_fn (may_spec gx gy) rfl rfl (by repeat (first | exact Split.nil | (apply Split.cons; (repeat (first | with_reducible exact Take.here | apply Take.there)))))) ?_
                rintro v79 L1 ⟨rfl, rfl⟩
                refine ⟨_, ent_appC (Split.ent (by repeat (first | exact Split.nil | (apply Split.cons; (repeat (first | with_reducible exact Take.here | apply Take.there)))))), ?_⟩
                refine d_pu_on 19 rfl rfl rfl (pu_not rfl) (by kernel_rfl) (by kernel_rfl) (by kernel_rfl) ?_
                first | refine d_pu 20 rfl (pu_pick_t rfl rfl) (by kernel_rfl) (by kernel_rfl) (by kernel_rfl) ?_ | refine d_pu 20 rfl (pu_pick_f rfl rfl) (by kernel_rfl) (by kernel_rfl) (by kernel_rfl) ?_
                refine d_pu 21 rfl (pu_move rfl) (by kernel_rfl) (by kernel_rfl) (by kernel_rfl) ?_
                refine d_split 82 rfl (fun h82 => by exfalso; rw [hrm (by have h := h64; simp at h; omega) h70] at h82; cases h82) (fun h82 => ?_)
                refine d_pu_on 22 rfl rfl rfl (pu_move rfl) (by kernel_rfl) (by kernel_rfl) (by kernel_rfl) ?_
                refine d_pu_on 23 rfl rfl rfl (pu_move rfl) (by kernel_rfl) (by kernel_rfl) (by kernel_rfl) ?_
                refine d_pu_on 24 rfl rfl rfl (pu_indexAddr (yo + x * 1) (congrArg some hxv) rfl (by omega) (by omega) (by rw [Int.toNat_natCast])) (by kernel_rfl) (by kernel_rfl) (by kernel_rfl) ?_
                refine d_rd_on 25 rfl rfl rfl (rd_ro rfl hxc) rfl (by kernel_rfl) (by kernel_rfl) (by kernel_rfl) ?_
                refine d_pu_on 26 rfl rfl rfl (pu_move rfl) (by kernel_rfl) (by kernel_rfl) (by kernel_rfl) ?_
                refine d_pu_on 27 rfl rfl rfl (pu_move rfl) (by kernel_rfl) (by kernel_rfl) (by kernel_rfl) ?_
                refine d_pu_on 28 rfl rfl rfl (pu_indexAddr (yo + y * 1) (congrArg some hxv) rfl (by omega) (by omega) (by rw [Int.toNat_natCast])) (by kernel_rfl) (by kernel_rfl) (by kernel_rfl) ?_
                refine d_rd_on 29 rfl rfl rfl (rd_ro rfl hyc) rfl (by kernel_rfl) (by kernel_rfl) (by kernel_rfl) ?_
                refine d_pu_on 31 rfl rfl rfl (pu_move rfl) (by kernel_rfl) (by kernel_rfl) (by kernel_rfl) ?_
                refine d_pu_on 32 rfl rfl rfl (pu_move rfl) (by kernel_rfl) (by kernel_rfl) (by kernel_rfl) ?_
                refine d_pu_on 33 rfl rfl rfl (pu_indexAddr (yo + x * 1) (congrArg some hxv) rfl (by omega) (by omega) (by rw [Int.toNat_natCast])) (by kernel_rfl) (by kernel_rfl) (by kernel_rfl) ?_
                refine d_rd_on 34 rfl rfl rfl (rd_ro rfl hxc) rfl (by kernel_rfl) (by kernel_rfl) (by kernel_rfl) ?_
                refine d_pu_on 35 rfl rfl rfl (pu_eql rfl rfl) (by kernel_rfl) (by kernel_rfl) (by kernel_rfl) ?_
                refine d_amb [30] (by kernel_rfl) rfl ?_
                refine dA_ef 30 rfl (GOn.some rfl rfl) (ef_fn (may_spec gx gy) rfl rfl (by repeat (first | exact Split.nil | (apply Split.cons; (repeat (first | with_reducible exact Take.here | apply Take.there)))))) ?_
                rintro v91 L1 ⟨rfl, rfl⟩
                refine ⟨_, ent_appC (Split.ent (by repeat (first | exact Split.nil | (apply Split.cons; (repeat (first | with_reducible exact Take.here | apply Take.there)))))), ?_⟩
                refine d_pu_on 36 rfl rfl rfl (pu_move rfl) (by kernel_rfl) (by kernel_rfl) (by kernel_rfl) ?_
                refine d_split 97 rfl (fun h97 => ?_) (fun h97 => ?_)
                · skip   -- 97 T
                  refine d_off 37 rfl rfl rfl rfl (by kernel_rfl) (by kernel_rfl) (by kernel_rfl) ?_
                  refine d_off 38 rfl rfl rfl rfl (by kernel_rfl) (by kernel_rfl) (by kernel_rfl) ?_
                  refine d_off 39 rfl rfl rfl rfl (by kernel_rfl) (by kernel_rfl) (by kernel_rfl) ?_
                  refine d_off 40 rfl rfl rfl rfl (by kernel_rfl) (by kernel_rfl) (by kernel_rfl) ?_
                  refine d_off 41 rfl rfl rfl rfl (by kernel_rfl) (by kernel_rfl) (by kernel_rfl) ?_
                  refine d_off 42 rfl rfl rfl rfl (by kernel_rfl) (by kernel_rfl) (by kernel_rfl) ?_
                  refine d_off 43 rfl rfl rfl rfl (by kernel_rfl) (by kernel_rfl) (by kernel_rfl) ?_
                  refine d_off 44 rfl rfl rfl rfl (by kernel_rfl) (by kernel_rfl) (by kernel_rfl) ?_
                  refine d_off 45 rfl rfl rfl rfl (by kernel_rfl) (by kernel_rfl) (by kernel_rfl) ?_
                  refine d_off 46 rfl rfl rfl rfl (by kernel_rfl) (by kernel_rfl) (by kernel_rfl) ?_
                  refine d_off 47 rfl rfl rfl rfl (by kernel_rfl) (by kernel_rfl) (by kernel_rfl) ?_
                  refine d_off 48 rfl rfl rfl rfl (by kernel_rfl) (by kernel_rfl) (by kernel_rfl) ?_
                  refine d_off 49 rfl rfl rfl rfl (by kernel_rfl) (by kernel_rfl) (by kernel_rfl) ?_
                  refine d_off 50 rfl rfl rfl rfl (by kernel_rfl) (by kernel_rfl) (by kernel_rfl) ?_
                  refine d_off 51 rfl rfl rfl rfl (by kernel_rfl) (by kernel_rfl) (by kernel_rfl) ?_
                  refine d_off 52 rfl rfl rfl rfl (by kernel_rfl) (by kernel_rfl) (by kernel_rfl) ?_
                  first | refine d_pu_on 53 rfl rfl rfl (pu_pick_t rfl rfl) (by kernel_rfl) (by kernel_rfl) (by kernel_rfl) ?_ | refine d_pu_on 53 rfl rfl rfl (pu_pick_f rfl rfl) (by kernel_rfl) (by kernel_rfl) (by kernel_rfl) ?_
                  refine d_pu_on 54 rfl rfl rfl (pu_bool_ne rfl rfl) (by kernel_rfl) (by kernel_rfl) (by kernel_rfl) ?_
                  first | refine d_pu 55 rfl (pu_pick_t rfl rfl) (by kernel_rfl) (by kernel_rfl) (by kernel_rfl) ?_ | refine d_pu 55 rfl (pu_pick_f rfl rfl) (by kernel_rfl) (by kernel_rfl) (by kernel_rfl) ?_
                  refine d_sub _ (.cons (t := 0) rfl (.cons (t := 5) rfl (.cons (t := 8) rfl (.cons (t := 9) rfl (.cons (t := 49) rfl (.cons (t := 50) rfl (.cons (t := 57) rfl (.cons (t := 58) rfl (.cons (t := 116) rfl .nil))))))))) ?_
                  first | refine d_nilt (by kernel_rfl) ?_ | refine d_nilf (by kernel_rfl) ?_
                  exact then_n ⟨⟨_, rfl, by clear hlow hrm; simp_all⟩, rfl⟩
                · skip   -- 97 F
                  refine d_pu_on 37 rfl rfl rfl (pu_move rfl) (by kernel_rfl) (by kernel_rfl) (by kernel_rfl) ?_
                  refine d_pu_on 38 rfl rfl rfl (pu_move rfl) (by kernel_rfl) (by kernel_rfl) (by kernel_rfl) ?_
                  refine d_pu_on 39 rfl rfl rfl (pu_indexAddr (yo + y * 1) (congrArg some hxv) rfl (by omega) (by omega) (by rw [Int.toNat_natCast])) (by kernel_rfl) (by kernel_rfl) (by kernel_rfl) ?_
                  refine d_rd_on 40 rfl rfl rfl (rd_ro rfl hyc) rfl (by kernel_rfl) (by kernel_rfl) (by kernel_rfl) ?_
                  refine d_pu_on 41 rfl rfl rfl (pu_neq rfl rfl) (by kernel_rfl) (by kernel_rfl) (by kernel_rfl) ?_
                  refine d_pu_on 42 rfl rfl rfl (pu_move rfl) (by kernel_rfl) (by kernel_rfl) (by kernel_rfl) ?_
                  refine d_split 103 rfl (fun h103 => ?_) (fun h103 => ?_)
                  · skip   -- 103 T
                    refine d_pu_on 43 rfl rfl rfl (pu_move rfl) (by kernel_rfl) (by kernel_rfl) (by kernel_rfl) ?_
                    refine d_pu_on 44 rfl rfl rfl (pu_move rfl) (by kernel_rfl) (by kernel_rfl) (by kernel_rfl) ?_
                    refine d_pu_on 45 rfl rfl rfl (pu_indexAddr (yo + x * 1) (congrArg some hxv) rfl (by omega) (by omega) (by rw [Int.toNat_natCast])) (by kernel_rfl) (by kernel_rfl) (by kernel_rfl) ?_
                    refine d_rd_on 46 rfl rfl rfl (rd_ro rfl hxc) rfl (by kernel_rfl) (by kernel_rfl) (by kernel_rfl) ?_
                    refine d_pu_on 47 rfl rfl rfl (pu_move rfl) (by kernel_rfl) (by kernel_rfl) (by kernel_rfl) ?_
                    refine d_pu_on 48 rfl rfl rfl (pu_move rfl) (by kernel_rfl) (by kernel_rfl) (by kernel_rfl) ?_
                    refine d_pu_on 49 rfl rfl rfl (pu_indexAddr (yo + y * 1) (congrArg some hxv) rfl (by omega) (by omega) (by rw [Int.toNat_natCast])) (by kernel_rfl) (by kernel_rfl) (by kernel_rfl) ?_
                    refine d_rd_on 50 rfl rfl rfl (rd_ro rfl hyc) rfl (by kernel_rfl) (by kernel_rfl) (by kernel_rfl) ?_
                    refine d_pu_on 51 rfl rfl rfl (pu_gtr rfl rfl) (by kernel_rfl) (by kernel_rfl) (by kernel_rfl) ?_
                    first | refine d_pu_on 52 rfl rfl rfl (pu_pick_t rfl rfl) (by kernel_rfl) (by kernel_rfl) (by kernel_rfl) ?_ | refine d_pu_on 52 rfl rfl rfl (pu_pick_f rfl rfl) (by kernel_rfl) (by kernel_rfl) (by kernel_rfl) ?_
                    first | refine d_pu_on 53 rfl rfl rfl (pu_pick_t rfl rfl) (by kernel_rfl) (by kernel_rfl) (by kernel_rfl) ?_ | refine d_pu_on 53 rfl rfl rfl (pu_pick_f rfl rfl) (by kernel_rfl) (by kernel_rfl) (by kernel_rfl) ?_
                    refine d_pu_on 54 rfl rfl rfl (pu_bool_ne rfl rfl) (by kernel_rfl) (by kernel_rfl) (by kernel_rfl) ?_
                    first | refine d_pu 55 rfl (pu_pick_t rfl rfl) (by kernel_rfl) (by kernel_rfl) (by kernel_rfl) ?_ | refine d_pu 55 rfl (pu_pick_f rfl rfl) (by kernel_rfl) (by kernel_rfl) (by kernel_rfl) ?_
                    refine d_sub _ (.cons (t := 0) rfl (.cons (t := 5) rfl (.cons (t := 8) rfl (.cons (t := 9) rfl (.cons (t := 49) rfl (.cons (t := 50) rfl (.cons (t := 57) rfl (.cons (t := 58) rfl (.cons (t := 116) rfl .nil))))))))) ?_
                    first | refine d_nilt (by kernel_rfl) ?_ | refine d_nilf (by kernel_rfl) ?_
                    exact then_n ⟨⟨_, rfl, by clear hlow hrm; simp_all⟩, rfl⟩
                  · skip   -- 103 F
                    refine d_off 43 rfl rfl rfl rfl (by kernel_rfl) (by kernel_rfl) (by kernel_rfl) ?_
                    refine d_off 44 rfl rfl rfl rfl (by kernel_rfl) (by kernel_rfl) (by kernel_rfl) ?_
                    refine d_off 45 rfl rfl rfl rfl (by kernel_rfl) (by kernel_rfl) (by kernel_rfl) ?_
                    refine d_off 46 rfl rfl rfl rfl (by kernel_rfl) (by kernel_rfl) (by kernel_rfl) ?_
                    refine d_off 47 rfl rfl rfl rfl (by kernel_rfl) (by kernel_rfl) (by kernel_rfl) ?_
                    refine d_off 48 rfl rfl rfl rfl (by kernel_rfl) (by kernel_rfl) (by kernel_rfl) ?_
                    refine d_off 49 rfl rfl rfl rfl (by kernel_rfl) (by kernel_rfl) (by kernel_rfl) ?_
                    refine d_off 50 rfl rfl rfl rfl (by kernel_rfl) (by kernel_rfl) (by kernel_rfl) ?_
                    refine d_off 51 rfl rfl rfl rfl (by kernel_rfl) (by kernel_rfl) (by kernel_rfl) ?_
                    first | refine d_pu_on 52 rfl rfl rfl (pu_pick_t rfl rfl) (by kernel_rfl) (by kernel_rfl) (by kernel_rfl) ?_ | refine d_pu_on 52 rfl rfl rfl (pu_pick_f rfl rfl) (by kernel_rfl) (by kernel_rfl) (by kernel_rfl) ?_
                    first | refine d_pu_on 53 rfl rfl rfl (pu_pick_t rfl rfl) (by kernel_rfl) (by kernel_rfl) (by kernel_rfl) ?_ | refine d_pu_on 53 rfl rfl rfl (pu_pick_f rfl rfl) (by kernel_rfl) (by kernel_rfl) (by kernel_rfl) ?_
                    refine d_pu_on 54 rfl rfl rfl (pu_bool_ne rfl rfl) (by kernel_rfl) (by kernel_rfl) (by kernel_rfl) ?_
                    first | refine d_pu 55 rfl (pu_pick_t rfl rfl) (by kernel_rfl) (by kernel_rfl) (by kernel_rfl) ?_ | refine d_pu 55 rfl (pu_pick_f rfl rfl) (by kernel_rfl) (by kernel_rfl) (by kernel_rfl) ?_
                    refine d_sub _ (.cons (t := 0) rfl (.cons (t := 5) rfl (.cons (t := 8) rfl (.cons (t := 9) rfl (.cons (t := 49) rfl (.cons (t := 50) rfl (.cons (t := 57) rfl (.cons (t := 58) rfl (.cons (t := 116) rfl .nil))))))))) ?_
                    first | refine d_nilt (by kernel_rfl) ?_ | refine d_nilf (by kernel_rfl) ?_
                    exact then_n ⟨⟨_, rfl, by clear hlow hrm; simp_all⟩, rfl⟩
              · skip   -- 70 F
                refine d_off 10 rfl rfl rfl rfl (by kernel_rfl) (by kernel_rfl) (by kernel_rfl) ?_
                refine d_off 11 rfl rfl rfl rfl (by kernel_rfl) (by kernel_rfl) (by kernel_rfl) ?_
                refine d_off 12 rfl rfl rfl rfl (by kernel_rfl) (by kernel_rfl) (by kernel_rfl) ?_
                refine d_off 13 rfl rfl rfl rfl (by kernel_rfl) (by kernel_rfl) (by kernel_rfl) ?_
                refine d_off 14 rfl rfl rfl rfl (by kernel_rfl) (by kernel_rfl) (by kernel_rfl) ?_
                refine d_off 15 rfl rfl rfl rfl (by kernel_rfl) (by kernel_rfl) (by kernel_rfl) ?_
                refine d_off 16 rfl rfl rfl rfl (by kernel_rfl) (by kernel_rfl) (by kernel_rfl) ?_
                refine d_off 17 rfl rfl rfl rfl (by kernel_rfl) (by kernel_rfl) (by kernel_rfl) ?_
                refine d_off 18 rfl rfl rfl rfl (by kernel_rfl) (by kernel_rfl) (by kernel_rfl) ?_
                refine d_off 19 rfl rfl rfl rfl (by kernel_rfl) (by kernel_rfl) (by kernel_rfl) ?_
                first | refine d_pu 20 rfl (pu_pick_t rfl rfl) (by kernel_rfl) (by kernel_rfl) (by kernel_rfl) ?_ | refine d_pu 20 rfl (pu_pick_f rfl rfl) (by kernel_rfl) (by kernel_rfl) (by kernel_rfl) ?_
                refine d_pu 21 rfl (pu_move rfl) (by kernel_rfl) (by kernel_rfl) (by kernel_rfl) ?_
                refine d_split 82 rfl (fun h82 => by cases h82) (fun h82 => ?_)
                refine d_pu_on 22 rfl rfl rfl (pu_move rfl) (by kernel_rfl) (by kernel_rfl) (by kernel_rfl) ?_
                refine d_pu_on 23 rfl rfl rfl (pu_move rfl) (by kernel_rfl) (by kernel_rfl) (by kernel_rfl) ?_
                refine d_pu_on 24 rfl rfl rfl (pu_indexAddr (yo + x * 1) (congrArg some hxv) rfl (by omega) (by omega) (by rw [Int.toNat_natCast])) (by kernel_rfl) (by kernel_rfl) (by kernel_rfl) ?_
                refine d_rd_on 25 rfl rfl rfl (rd_ro rfl hxc) rfl (by kernel_rfl) (by kernel_rfl) (by kernel_rfl) ?_
                refine d_pu_on 26 rfl rfl rfl (pu_move rfl) (by kernel_rfl) (by kernel_rfl) (by kernel_rfl) ?_
                refine d_pu_on 27 rfl rfl rfl (pu_move rfl) (by kernel_rfl) (by kernel_rfl) (by kernel_rfl) ?_
                refine d_pu_on 28 rfl rfl rfl (pu_indexAddr (yo + y * 1) (congrArg some hxv) rfl (by omega) (by omega) (by rw [Int.toNat_natCast])) (by kernel_rfl) (by kernel_rfl) (by kernel_rfl) ?_
                refine d_rd_on 29 rfl rfl rfl (rd_ro rfl hyc) rfl (by kernel_rfl) (by kernel_rfl) (by kernel_rfl) ?_
                refine d_pu_on 31 rfl rfl rfl (pu_move rfl) (by kernel_rfl) (by kernel_rfl) (by kernel_rfl) ?_
                refine d_pu_on 32 rfl rfl rfl (pu_move rfl) (by kernel_rfl) (by kernel_rfl) (by kernel_rfl) ?_
                refine d_pu_on 33 rfl rfl rfl (pu_indexAddr (yo + x * 1) (congrArg some hxv) rfl (by omega) (by omega) (by rw [Int.toNat_natCast])) (by kernel_rfl) (by kernel_rfl) (by kernel_rfl) ?_
                refine d_rd_on 34 rfl rfl rfl (rd_ro rfl hxc) rfl (by kernel_rfl) (by kernel_rfl) (by kernel_rfl) ?_
                refine d_pu_on 35 rfl rfl rfl (pu_eql rfl rfl) (by kernel_rfl) (by kernel_rfl) (by kernel_rfl) ?_
                refine d_amb [30] (by kernel_rfl) rfl ?_
                refine dA_ef 30 rfl (GOn.some rfl rfl) (ef_fn (may_spec gx gy) rfl rfl (by repeat (first | exact Split.nil | (apply Split.cons; (repeat (first | with_reducible exact Take.here | apply Take.there)))))) ?_
                rintro v91 L1 ⟨rfl, rfl⟩
                refine ⟨_, ent_appC (Split.ent (by repeat (first | exact Split.nil | (apply Split.cons; (repeat (first | with_reducible exact Take.here | apply Take.there)))))), ?_⟩
                refine d_pu_on 36 rfl rfl rfl (pu_move rfl) (by kernel_rfl) (by kernel_rfl) (by kernel_rfl) ?_
                refine d_split 97 rfl (fun h97 => ?_) (fun h97 => ?_)
                · skip   -- 97 T
                  refine d_off 37 rfl rfl rfl rfl (by kernel_rfl) (by kernel_rfl) (by kernel_rfl) ?_
                  refine d_off 38 rfl rfl rfl rfl (by kernel_rfl) (by kernel_rfl) (by kernel_rfl) ?_
                  refine d_off 39 rfl rfl rfl rfl (by kernel_rfl) (by kernel_rfl) (by kernel_rfl) ?_
                  refine d_off 40 rfl rfl rfl rfl (by kernel_rfl) (by kernel_rfl) (by kernel_rfl) ?_
                  refine d_off 41 rfl rfl rfl rfl (by kernel_rfl) (by kernel_rfl) (by kernel_rfl) ?_
                  refine d_off 42 rfl rfl rfl rfl (by kernel_rfl) (by kernel_rfl) (by kernel_rfl) ?_
                  refine d_off 43 rfl rfl rfl rfl (by kernel_rfl) (by kernel_rfl) (by kernel_rfl) ?_
                  refine d_off 44 rfl rfl rfl rfl (by kernel_rfl) (by kernel_rfl) (by kernel_rfl) ?_
                  refine d_off 45 rfl rfl rfl rfl (by kernel_rfl) (by kernel_rfl) (by kernel_rfl) ?_
                  refine d_off 46 rfl rfl rfl rfl (by kernel_rfl) (by kernel_rfl) (by kernel_rfl) ?_
                  refine d_off 47 rfl rfl rfl rfl (by kernel_rfl) (by kernel_rfl) (by kernel_rfl) ?_
                  refine d_off 48 rfl rfl rfl rfl (by kernel_rfl) (by kernel_rfl) (by kernel_rfl) ?_
                  refine d_off 49 rfl rfl rfl rfl (by kernel_rfl) (by kernel_rfl) (by kernel_rfl) ?_
                  refine d_off 50 rfl rfl rfl rfl (by kernel_rfl) (by kernel_rfl) (by kernel_rfl) ?_
                  refine d_off 51 rfl rfl rfl rfl (by kernel_rfl) (by kernel_rfl) (by kernel_rfl) ?_
                  refine d_off 52 rfl rfl rfl rfl (by kernel_rfl) (by kernel_rfl) (by kernel_rfl) ?_
                  first | refine d_pu_on 53 rfl rfl rfl (pu_pick_t rfl rfl) (by kernel_rfl) (by kernel_rfl) (by kernel_rfl) ?_ | refine d_pu_on 53 rfl rfl rfl (pu_pick_f rfl rfl) (by kernel_rfl) (by kernel_rfl) (by kernel_rfl) ?_
                  refine d_pu_on 54 rfl rfl rfl (pu_bool_ne rfl rfl) (by kernel_rfl) (by kernel_rfl) (by kernel_rfl) ?_
                  first | refine d_pu 55 rfl (pu_pick_t rfl rfl) (by kernel_rfl) (by kernel_rfl) (by kernel_rfl) ?_ | refine d_pu 55 rfl (pu_pick_f rfl rfl) (by kernel_rfl) (by kernel_rfl) (by kernel_rfl) ?_
                  refine d_sub _ (.cons (t := 0) rfl (.cons (t := 5) rfl (.cons (t := 8) rfl (.cons (t := 9) rfl (.cons (t := 49) rfl (.cons (t := 50) rfl (.cons (t := 57) rfl (.cons (t := 58) rfl (.cons (t := 116) rfl .nil))))))))) ?_
                  first | refine d_nilt (by kernel_rfl) ?_ | refine d_nilf (by kernel_rfl) ?_
                  exact then_n ⟨⟨_, rfl, by clear hlow hrm; simp_all⟩, rfl⟩
                · skip   -- 97 F
                  refine d_pu_on 37 rfl rfl rfl (pu_move rfl) (by kernel_rfl) (by kernel_rfl) (by kernel_rfl) ?_
                  refine d_pu_on 38 rfl rfl rfl (pu_move rfl) (by kernel_rfl) (by kernel_rfl) (by kernel_rfl) ?_
                  refine d_pu_on 39 rfl rfl rfl (pu_indexAddr (yo + y * 1) (congrArg some hxv) rfl (by omega) (by omega) (by rw [Int.toNat_natCast])) (by kernel_rfl) (by kernel_rfl) (by kernel_rfl) ?_
                  refine d_rd_on 40 rfl rfl rfl (rd_ro rfl hyc) rfl (by kernel_rfl) (by kernel_rfl) (by kernel_rfl) ?_
                  refine d_pu_on 41 rfl rfl rfl (pu_neq rfl rfl) (by kernel_rfl) (by kernel_rfl) (by kernel_rfl) ?_
                  refine d_pu_on 42 rfl rfl rfl (pu_move rfl) (by kernel_rfl) (by kernel_rfl) (by kernel_rfl) ?_
                  refine d_split 103 rfl (fun h103 => ?_) (fun h103 => ?_)
                  · skip   -- 103 T
                    refine d_pu_on 43 rfl rfl rfl (pu_move rfl) (by kernel_rfl) (by kernel_rfl) (by kernel_rfl) ?_
                    refine d_pu_on 44 rfl rfl rfl (pu_move rfl) (by kernel_rfl) (by kernel_rfl) (by kernel_rfl) ?_
                    refine d_pu_on 45 rfl rfl rfl (pu_indexAddr (yo + x * 1) (congrArg some hxv) rfl (by omega) (by omega) (by rw [Int.toNat_natCast])) (by kernel_rfl) (by kernel_rfl) (by kernel_rfl) ?_
                    refine d_rd_on 46 rfl rfl rfl (rd_ro rfl hxc) rfl (by kernel_rfl) (by kernel_rfl) (by kernel_rfl) ?_
                    refine d_pu_on 47 rfl rfl rfl (pu_move rfl) (by kernel_rfl) (by kernel_rfl) (by kernel_rfl) ?_
                    refine d_pu_on 48 rfl rfl rfl (pu_move rfl) (by kernel_rfl) (by kernel_rfl) (by kernel_rfl) ?_
                    refine d_pu_on 49 rfl rfl rfl (pu_indexAddr (yo + y * 1) (congrArg some hxv) rfl (by omega) (by omega) (by rw [Int.toNat_natCast])) (by kernel_rfl) (by kernel_rfl) (by kernel_rfl) ?_
                    refine d_rd_on 50 rfl rfl rfl (rd_ro rfl hyc) rfl (by kernel_rfl) (by kernel_rfl) (by kernel_rfl) ?_
                    refine d_pu_on 51 rfl rfl rfl (pu_gtr rfl rfl) (by kernel_rfl) (by kernel_rfl) (by kernel_rfl) ?_
                    first | refine d_pu_on 52 rfl rfl rfl (pu_pick_t rfl rfl) (by kernel_rfl) (by kernel_rfl) (by kernel_rfl) ?_ | refine d_pu_on 52 rfl rfl rfl (pu_pick_f rfl rfl) (by kernel_rfl) (by kernel_rfl) (by kernel_rfl) ?_
                    first | refine d_pu_on 53 rfl rfl rfl (pu_pick_t rfl rfl) (by kernel_rfl) (by kernel_rfl) (by kernel_rfl) ?_ | refine d_pu_on 53 rfl rfl rfl (pu_pick_f rfl rfl) (by kernel_rfl) (by kernel_rfl) (by kernel_rfl) ?_
                    refine d_pu_on 54 rfl rfl rfl (pu_bool_ne rfl rfl) (by kernel_rfl) (by kernel_rfl) (by kernel_rfl) ?_
                    first | refine d_pu 55 rfl (pu_pick_t rfl rfl) (by kernel_rfl) (by kernel_rfl) (by kernel_rfl) ?_ | refine d_pu 55 rfl (pu_pick_f rfl rfl) (by kernel_rfl) (by kernel_rfl) (by kernel_rfl) ?_
                    refine d_sub _ (.cons (t := 0) rfl (.cons (t := 5) rfl (.cons (t := 8) rfl (.cons (t := 9) rfl (.cons (t := 49) rfl (.cons (t := 50) rfl (.cons (t := 57) rfl (.cons (t := 58) rfl (.cons (t := 116) rfl .nil))))))))) ?_
                    first | refine d_nilt (by kernel_rfl) ?_ | refine d_nilf (by kernel_rfl) ?_
                    exact then_n ⟨⟨_, rfl, by clear hlow hrm; simp_all⟩, rfl⟩
                  · skip   -- 103 F
                    refine d_off 43 rfl rfl rfl rfl (by kernel_rfl) (by kernel_rfl) (by kernel_rfl) ?_
                    refine d_off 44 rfl rfl rfl rfl (by kernel_rfl) (by kernel_rfl) (by kernel_rfl) ?_
                    refine d_off 45 rfl rfl rfl rfl (by kernel_rfl) (by kernel_rfl) (by kernel_rfl) ?_
                    refine d_off 46 rfl rfl rfl rfl (by kernel_rfl) (by kernel_rfl) (by kernel_rfl) ?_
                    refine d_off 47 rfl rfl rfl rfl (by kernel_rfl) (by kernel_rfl) (by kernel_rfl) ?_
                    refine d_off 48 rfl rfl rfl rfl (by kernel_rfl) (by kernel_rfl) (by kernel_rfl) ?_
                    refine d_off 49 rfl rfl rfl rfl (by kernel_rfl) (by kernel_rfl) (by kernel_rfl) ?_
                    refine d_off 50 rfl rfl rfl rfl (by kernel_rfl) (by kernel_rfl) (by kernel_rfl) ?_
                    refine d_off 51 rfl rfl rfl rfl (by kernel_rfl) (by kernel_rfl) (by kernel_rfl) ?_
                    first | refine d_pu_on 52 rfl rfl rfl (pu_pick_t rfl rfl) (by kernel_rfl) (by kernel_rfl) (by kernel_rfl) ?_ | refine d_pu_on 52 rfl rfl rfl (pu_pick_f rfl rfl) (by kernel_rfl) (by kernel_rfl) (by kernel_rfl) ?_
                    first | refine d_pu_on 53 rfl rfl rfl (pu_pick_t rfl rfl) (by kernel_rfl) (by kernel_rfl) (by kernel_rfl) ?_ | refine d_pu_on 53 rfl rfl rfl (pu_pick_f rfl rfl) (by kernel_rfl) (by kernel_rfl) (by kernel_rfl) ?_
                    refine d_pu_on 54 rfl rfl rfl (pu_bool_ne rfl rfl) (by kernel_rfl) (by kernel_rfl) (by kernel_rfl) ?_
                    first | refine d_pu 55 rfl (pu_pick_t rfl rfl) (by kernel_rfl) (by kernel_rfl) (by kernel_rfl) ?_ | refine d_pu 55 rfl (pu_pick_f rfl rfl) (by kernel_rfl) (by kernel_rfl) (by kernel_rfl) ?_
                    refine d_sub _ (.cons (t := 0) rfl (.cons (t := 5) rfl (.cons (t := 8) rfl (.cons (t := 9) rfl (.cons (t := 49) rfl (.cons (t := 50) rfl (.cons (t := 57) rfl (.cons (t := 58) rfl (.cons (t := 116) rfl .nil))))))))) ?_
                    first | refine d_nilt (by kernel_rfl) ?_ | refine d_nilf (by kernel_rfl) ?_
                    exact then_n ⟨⟨_, rfl, by clear hlow hrm; simp_all⟩, rfl⟩
            · skip   -- 64 F
              refine d_off 4 rfl rfl rfl rfl (by kernel_rfl) (by kernel_rfl) (by kernel_rfl) ?_
              refine d_off 5 rfl rfl rfl rfl (by kernel_rfl) (by kernel_rfl) (by kernel_rfl) ?_
              refine d_off 6 rfl rfl rfl rfl (by kernel_rfl) (by kernel_rfl) (by kernel_rfl) ?_
              refine d_off 7 rfl rfl rfl rfl (by kernel_rfl) (by kernel_rfl) (by kernel_rfl) ?_
              first | refine d_pu 8 rfl (pu_pick_t rfl rfl) (by kernel_rfl) (by kernel_rfl) (by kernel_rfl) ?_ | refine d_pu 8 rfl (pu_pick_f rfl rfl) (by kernel_rfl) (by kernel_rfl) (by kernel_rfl) ?_
              refine d_pu 9 rfl (pu_move rfl) (by kernel_rfl) (by kernel_rfl) (by kernel_rfl) ?_
              refine d_split 70 rfl (fun h70 => by cases h70) (fun h70 => ?_)
              refine d_off 10 rfl rfl rfl rfl (by kernel_rfl) (by kernel_rfl) (by kernel_rfl) ?_
              refine d_off 11 rfl rfl rfl rfl (by kernel_rfl) (by kernel_rfl) (by kernel_rfl) ?_
              refine d_off 12 rfl rfl rfl rfl (by kernel_rfl) (by kernel_rfl) (by kernel_rfl) ?_
              refine d_off 13 rfl rfl rfl rfl (by kernel_rfl) (by kernel_rfl) (by kernel_rfl) ?_
              refine d_off 14 rfl rfl rfl rfl (by kernel_rfl) (by kernel_rfl) (by kernel_rfl) ?_
              refine d_off 15 rfl rfl rfl rfl (by kernel_rfl) (by kernel_rfl) (by kernel_rfl) ?_
              refine d_off 16 rfl rfl rfl rfl (by kernel_rfl) (by kernel_rfl) (by kernel_rfl) ?_
              refine d_off 17 rfl rfl rfl rfl (by kernel_rfl) (by kernel_rfl) (by kernel_rfl) ?_
              refine d_off 18 rfl rfl rfl rfl (by kernel_rfl) (by kernel_rfl) (by kernel_rfl) ?_
              refine d_off 19 rfl rfl rfl rfl (by kernel_rfl) (by kernel_rfl) (by kernel_rfl) ?_
              first | refine d_pu 20 rfl (pu_pick_t rfl rfl) (by kernel_rfl) (by kernel_rfl) (by kernel_rfl) ?_ | refine d_pu 20 rfl (pu_pick_f rfl rfl) (by kernel_rfl) (by kernel_rfl) (by kernel_rfl) ?_
              refine d_pu 21 rfl (pu_move rfl) (by kernel_rfl) (by kernel_rfl) (by kernel_rfl) ?_
              refine d_split 82 rfl (fun h82 => by cases h82) (fun h82 => ?_)
              refine d_pu_on 22 rfl rfl rfl (pu_move rfl) (by kernel_rfl) (by kernel_rfl) (by kernel_rfl) ?_
              refine d_pu_on 23 rfl rfl rfl (pu_move rfl) (by kernel_rfl) (by kernel_rfl) (by kernel_rfl) ?_
              refine d_pu_on 24 rfl rfl rfl (pu_indexAddr (yo + x * 1) (congrArg some hxv) rfl (by omega) (by omega) (by rw [Int.toNat_natCast])) (by kernel_rfl) (by kernel_rfl) (by kernel_rfl) ?_
              refine d_rd_on 25 rfl rfl rfl (rd_ro rfl hxc) rfl (by kernel_rfl) (by kernel_rfl) (by kernel_rfl) ?_
              refine d_pu_on 26 rfl rfl rfl (pu_move rfl) (by kernel_rfl) (by kernel_rfl) (by kernel_rfl) ?_
              refine d_pu_on 27 rfl rfl rfl (pu_move rfl) (by kernel_rfl) (by kernel_rfl) (by kernel_rfl) ?_
              refine d_pu_on 28 rfl rfl rfl (pu_indexAddr (yo + y * 1) (congrArg some hxv) rfl (by omega) (by omega) (by rw [Int.toNat_natCast])) (by kernel_rfl) (by kernel_rfl) (by kernel_rfl) ?_
              refine d_rd_on 29 rfl rfl rfl (rd_ro rfl hyc) rfl (by kernel_rfl) (by kernel_rfl) (by kernel_rfl) ?_
              refine d_pu_on 31 rfl rfl rfl (pu_move rfl) (by kernel_rfl) (by kernel_rfl) (by kernel_rfl) ?_
              refine d_pu_on 32 rfl rfl rfl (pu_move rfl) (by kernel_rfl) (by kernel_rfl) (by kernel_rfl) ?_
              refine d_pu_on 33 rfl rfl rfl (pu_indexAddr (yo + x * 1) (congrArg some hxv) rfl (by omega) (by omega) (by rw [Int.toNat_natCast])) (by kernel_rfl) (by kernel_rfl) (by kernel_rfl) ?_
              refine d_rd_on 34 rfl rfl rfl (rd_ro rfl hxc) rfl (by kernel_rfl) (by kernel_rfl) (by kernel_rfl) ?_
              refine d_pu_on 35 rfl rfl rfl (pu_eql rfl rfl) (by kernel_rfl) (by kernel_rfl) (by kernel_rfl) ?_
              refine d_amb [30] (by kernel_rfl) rfl ?_
              refine dA_ef 30 rfl (GOn.some rfl rfl) (ef_fn (may_spec gx gy) rfl rfl (by repeat (first | exact Split.nil | (apply Split.cons; (repeat (first | with_reducible exact Take.here | apply Take.there)))))) ?_
              rintro v91 L1 ⟨rfl, rfl⟩
              refine ⟨_, ent_appC (Split.ent (by repeat (first | exact Split.nil | (apply Split.cons; (repeat (first | with_reducible exact Take.here | apply Take.there)))))), ?_⟩
              refine d_pu_on 36 rfl rfl rfl (pu_move rfl) (by kernel_rfl) (by kernel_rfl) (by kernel_rfl) ?_
              refine d_split 97 rfl (fun h97 => ?_) (fun h97 => ?_)
              · skip   -- 97 T
                refine d_off 37 rfl rfl rfl rfl (by kernel_rfl) (by kernel_rfl) (by kernel_rfl) ?_
                refine d_off 38 rfl rfl rfl rfl (by kernel_rfl) (by kernel_rfl) (by kernel_rfl) ?_
                refine d_off 39 rfl rfl rfl rfl (by kernel_rfl) (by kernel_rfl) (by kernel_rfl) ?_
                refine d_off 40 rfl rfl rfl rfl (by kernel_rfl) (by kernel_rfl) (by kernel_rfl) ?_
                refine d_off 41 rfl rfl rfl rfl (by kernel_rfl) (by kernel_rfl) (by kernel_rfl) ?_
                refine d_off 42 rfl rfl rfl rfl (by kernel_rfl) (by kernel_rfl) (by kernel_rfl) ?_
                refine d_off 43 rfl rfl rfl rfl (by kernel_rfl) (by kernel_rfl) (by kernel_rfl) ?_
                refine d_off 44 rfl rfl rfl rfl (by kernel_rfl) (by kernel_rfl) (by kernel_rfl) ?_
                refine d_off 45 rfl rfl rfl rfl (by kernel_rfl) (by kernel_rfl) (by kernel_rfl) ?_
                refine d_off 46 rfl rfl rfl rfl (by kernel_rfl) (by kernel_rfl) (by kernel_rfl) ?_
                refine d_off 47 rfl rfl rfl rfl (by kernel_rfl) (by kernel_rfl) (by kernel_rfl) ?_
                refine d_off 48 rfl rfl rfl rfl (by kernel_rfl) (by kernel_rfl) (by kernel_rfl) ?_
                refine d_off 49 rfl rfl rfl rfl (by kernel_rfl) (by kernel_rfl) (by kernel_rfl) ?_
                refine d_off 50 rfl rfl rfl rfl (by kernel_rfl) (by kernel_rfl) (by kernel_rfl) ?_
                refine d_off 51 rfl rfl rfl rfl (by kernel_rfl) (by kernel_rfl) (by kernel_rfl) ?_
                refine d_off 52 rfl rfl rfl rfl (by kernel_rfl) (by kernel_rfl) (by kernel_rfl) ?_
                first | refine d_pu_on 53 rfl rfl rfl (pu_pick_t rfl rfl) (by kernel_rfl) (by kernel_rfl) (by kernel_rfl) ?_ | refine d_pu_on 53 rfl rfl rfl (pu_pick_f rfl rfl) (by kernel_rfl) (by kernel_rfl) (by kernel_rfl) ?_
                refine d_pu_on 54 rfl rfl rfl (pu_bool_ne rfl rfl) (by kernel_rfl) (by kernel_rfl) (by kernel_rfl) ?_
                first | refine d_pu 55 rfl (pu_pick_t rfl rfl) (by kernel_rfl) (by kernel_rfl) (by kernel_rfl) ?_ | refine d_pu 55 rfl (pu_pick_f rfl rfl) (by kernel_rfl) (by kernel_rfl) (by kernel_rfl) ?_
                refine d_sub _ (.cons (t := 0) rfl (.cons (t := 5) rfl (.cons (t := 8) rfl (.cons (t := 9) rfl (.cons (t := 49) rfl (.cons (t := 50) rfl (.cons (t := 57) rfl (.cons (t := 58) rfl (.cons (t := 116) rfl .nil))))))))) ?_
                first | refine d_nilt (by kernel_rfl) ?_ | refine d_nilf (by kernel_rfl) ?_
                exact then_n ⟨⟨_, rfl, by clear hlow hrm; simp_all⟩, rfl⟩
              · skip   -- 97 F
                refine d_pu_on 37 rfl rfl rfl (pu_move rfl) (by kernel_rfl) (by kernel_rfl) (by kernel_rfl) ?_
                refine d_pu_on 38 rfl rfl rfl (pu_move rfl) (by kernel_rfl) (by kernel_rfl) (by kernel_rfl) ?_
                refine d_pu_on 39 rfl rfl rfl (pu_indexAddr (yo + y * 1) (congrArg some hxv) rfl (by omega) (by omega) (by rw [Int.toNat_natCast])) (by kernel_rfl) (by kernel_rfl) (by kernel_rfl) ?_
                refine d_rd_on 40 rfl rfl rfl (rd_ro rfl hyc) rfl (by kernel_rfl) (by kernel_rfl) (by kernel_rfl) ?_
                refine d_pu_on 41 rfl rfl rfl (pu_neq rfl rfl) (by kernel_rfl) (by kernel_rfl) (by kernel_rfl) ?_
                refine d_pu_on 42 rfl rfl rfl (pu_move rfl) (by kernel_rfl) (by kernel_rfl) (by kernel_rfl) ?_
                refine d_split 103 rfl (fun h103 => ?_) (fun h103 => ?_)
                · skip   -- 103 T
                  refine d_pu_on 43 rfl rfl rfl (pu_move rfl) (by kernel_rfl) (by kernel_rfl) (by kernel_rfl) ?_
                  refine d_pu_on 44 rfl rfl rfl (pu_move rfl) (by kernel_rfl) (by kernel_rfl) (by kernel_rfl) ?_
                  refine d_pu_on 45 rfl rfl rfl (pu_indexAddr (yo + x * 1) (congrArg some hxv) rfl (by omega) (by omega) (by rw [Int.toNat_natCast])) (by kernel_rfl) (by kernel_rfl) (by kernel_rfl) ?_
                  refine d_rd_on 46 rfl rfl rfl (rd_ro rfl hxc) rfl (by kernel_rfl) (by kernel_rfl) (by kernel_rfl) ?_
                  refine d_pu_on 47 rfl rfl rfl (pu_move rfl) (by kernel_rfl) (by kernel_rfl) (by kernel_rfl) ?_
                  refine d_pu_on 48 rfl rfl rfl (pu_move rfl) (by kernel_rfl) (by kernel_rfl) (by kernel_rfl) ?_
                  refine d_pu_on 49 rfl rfl rfl (pu_indexAddr (yo + y * 1) (congrArg some hxv) rfl (by omega) (by omega) (by rw [Int.toNat_natCast])) (by kernel_rfl) (by kernel_rfl) (by kernel_rfl) ?_
                  refine d_rd_on 50 rfl rfl rfl (rd_ro rfl hyc) rfl (by kernel_rfl) (by kernel_rfl) (by kernel_rfl) ?_
                  refine d_pu_on 51 rfl rfl rfl (pu_gtr rfl rfl) (by kernel_rfl) (by kernel_rfl) (by kernel_rfl) ?_
                  first | refine d_pu_on 52 rfl rfl rfl (pu_pick_t rfl rfl) (by kernel_rfl) (by kernel_rfl) (by kernel_rfl) ?_ | refine d_pu_on 52 rfl rfl rfl (pu_pick_f rfl rfl) (by kernel_rfl) (by kernel_rfl) (by kernel_rfl) ?_
                  first | refine d_pu_on 53 rfl rfl rfl (pu_pick_t rfl rfl) (by kernel_rfl) (by kernel_rfl) (by kernel_rfl) ?_ | refine d_pu_on 53 rfl rfl rfl (pu_pick_f rfl rfl) (by kernel_rfl) (by kernel_rfl) (by kernel_rfl) ?_
                  refine d_pu_on 54 rfl rfl rfl (pu_bool_ne rfl rfl) (by kernel_rfl) (by kernel_rfl) (by kernel_rfl) ?_
                  first | refine d_pu 55 rfl (pu_pick_t rfl rfl) (by kernel_rfl) (by kernel_rfl) (by kernel_rfl) ?_ | refine d_pu 55 rfl (pu_pick_f rfl rfl) (by kernel_rfl) (by kernel_rfl) (by kernel_rfl) ?_
                  refine d_sub _ (.cons (t := 0) rfl (.cons (t := 5) rfl (.cons (t := 8) rfl (.cons (t := 9) rfl (.cons (t := 49) rfl (.cons (t := 50) rfl (.cons (t := 57) rfl (.cons (t := 58) rfl (.cons (t := 116) rfl .nil))))))))) ?_
                  first | refine d_nilt (by kernel_rfl) ?_ | refine d_nilf (by kernel_rfl) ?_
                  exact then_n ⟨⟨_, rfl, by clear hlow hrm; simp_all⟩, rfl⟩
                · skip   -- 103 F
                  refine d_off 43 rfl rfl rfl rfl (by kernel_rfl) (by kernel_rfl) (by kernel_rfl) ?_
                  refine d_off 44 rfl rfl rfl rfl (by kernel_rfl) (by kernel_rfl) (by kernel_rfl) ?_
                  refine d_off 45 rfl rfl rfl rfl (by kernel_rfl) (by kernel_rfl) (by kernel_rfl) ?_
                  refine d_off 46 rfl rfl rfl rfl (by kernel_rfl) (by kernel_rfl) (by kernel_rfl) ?_
                  refine d_off 47 rfl rfl rfl rfl (by kernel_rfl) (by kernel_rfl) (by kernel_rfl) ?_
                  refine d_off 48 rfl rfl rfl rfl (by kernel_rfl) (by kernel_rfl) (by kernel_rfl) ?_
                  refine d_off 49 rfl rfl rfl rfl (by kernel_rfl) (by kernel_rfl) (by kernel_rfl) ?_
                  refine d_off 50 rfl rfl rfl rfl (by kernel_rfl) (by kernel_rfl) (by kernel_rfl) ?_
                  refine d_off 51 rfl rfl rfl rfl (by kernel_rfl) (by kernel_rfl) (by kernel_rfl) ?_
                  first | refine d_pu_on 52 rfl rfl rfl (pu_pick_t rfl rfl) (by kernel_rfl) (by kernel_rfl) (by kernel_rfl) ?_ | refine d_pu_on 52 rfl rfl rfl (pu_pick_f rfl rfl) (by kernel_rfl) (by kernel_rfl) (by kernel_rfl) ?_
                  first | refine d_pu_on 53 rfl rfl rfl (pu_pick_t rfl rfl) (by kernel_rfl) (by kernel_rfl) (by kernel_rfl) ?_ | refine d_pu_on 53 rfl rfl rfl (pu_pick_f rfl rfl) (by kernel_rfl) (by kernel_rfl) (by kernel_rfl) ?_
                  refine d_pu_on 54 rfl rfl rfl (pu_bool_ne rfl rfl) (by kernel_rfl) (by kernel_rfl) (by kernel_rfl) ?_
                  first | refine d_pu 55 rfl (pu_pick_t rfl rfl) (by kernel_rfl) (by kernel_rfl) (by kernel_rfl) ?_ | refine d_pu 55 rfl (pu_pick_f rfl rfl) (by kernel_rfl) (by kernel_rfl) (by kernel_rfl) ?_
                  refine d_sub _ (.cons (t := 0) rfl (.cons (t := 5) rfl (.cons (t := 8) rfl (.cons (t := 9) rfl (.cons (t := 49) rfl (.cons (t := 50) rfl (.cons (t := 57) rfl (.cons (t := 58) rfl (.cons (t := 116) rfl .nil))))))))) ?_
                  first | refine d_nilt (by kernel_rfl) ?_ | refine d_nilf (by kernel_rfl) ?_
                  exact then_n ⟨⟨_, rfl, by clear hlow hrm; simp_all⟩, rfl⟩
          rintro env L ⟨⟨b, rfl, rfl⟩, rfl⟩
          refine swp_cond (b := _) rfl (fun h116 => by cases h116) (fun h116 => ?_)
          refine swp_skip ?_
          refine block_n ?_
          refine then_n ?_
          refine swp_region ?_
          refine s_pu (pu_add_as ((y + 1 : Nat) : Int) rfl rfl (by omega) (by omega) (by omega)) ?_
          refine s_pu (pu_move rfl) ?_
          refine swl_sub _ (.cons (t := 0) rfl (.cons (t := 5) rfl (.cons (t := 8) rfl (.cons (t := 9) rfl (.cons (t := 49) rfl (.cons (t := 50) rfl (.cons (t := 57) rfl (.cons (t := 58) rfl .nil)))))))) ?_
          refine swl_nil ?_
          exact then_n ⟨y + 1, ⟨rfl, rfl, h59'⟩, by omega⟩
        · skip   -- 59 F
          refine swp_ent (Split.ent' (K := [ro μ4]) (by repeat (first | exact Split.nil | (apply Split.cons; (repeat (first | with_reducible exact Take.here | apply Take.there)))))) ?_
          refine swp_exit ?_
          refine then_x ?_
          refine then_x ?_
          refine block_hit rfl ?_
          refine block_n ?_
          refine then_n ?_
          refine swp_region ?_
          refine s_pu (pu_add_as ((x + 1 : Nat) : Int) rfl rfl (by omega) (by omega) (by omega)) ?_
          refine s_pu (pu_move rfl) ?_
          refine swl_sub _ (.cons (t := 0) rfl (.cons (t := 5) rfl (.cons (t := 49) rfl (.cons (t := 50) rfl .nil)))) ?_
          refine swl_nil ?_
          exact then_n ⟨x + 1, ⟨rfl, rfl, h51'⟩, by omega⟩
      · skip   -- 51 F
        refine swp_exit ?_
        refine then_x ?_
        refine then_x ?_
        refine block_hit rfl ?_
        refine then_n ?_
        refine swp_seq ?_
        refine swp_region ?_
        refine s_pu (pu_assign rfl) ?_
        refine swl_sub _ (.cons (t := 4) rfl .nil) ?_
        refine swl_nil ?_
        refine then_n ?_
        refine swp_ret ?_
        exact done_ret [ro μ4] (.tmp rfl .nil) ⟨rfl, μ4, [], h1.trans (h3.trans h4), rfl⟩ (by repeat (first | exact Split.nil | (apply Split.cons; (repeat (first | with_reducible exact Take.here | apply Take.there)))))
end SX
namespace SX
open Go Go.Proofs

theorem pu_rem_k {k : IntKind} {env : Env} {t u : TypeId} {x y : Operand} {a b : Int} (c : Int) (hx : evalE env x = some (.int k a)) (hy : evalE env y = some (.int k b)) (ha : 0 ≤ a) (hb : 1 ≤ b) (hc : a % b = c) : Pu Try.prog env (.binOp .rem t x y u) (.int k c) := by
  have := pu_rem (P := Try.prog) (t := t) (u := u) hx hy (by omega)
  rwa [Int.tmod_eq_emod_of_nonneg ha, hc] at this
set_option maxHeartbeats 4000000 in
theorem genlong_spec (μ : PH) (more branch : Int) (h1 : 0 ≤ more ∧ more ≤ 65535) (h2 : 0 ≤ branch ∧ branch ≤ 65535) : Spec Try.prog 9 [.int .u16 more, .int .u16 branch] [ro μ] (LawOk μ) := by
  obtain ⟨am, rfl⟩ : ∃ k : Nat, more = k := ⟨more.toNat, by omega⟩
  obtain ⟨ab, rfl⟩ : ∃ k : Nat, branch = k := ⟨branch.toNat, by omega⟩
  have hm : am % 1500 < 1500 := Nat.mod_lt _ (by decide)
  refine Spec.of 104 Try.func9 rfl rfl rfl ?_
  refine swp_seq ?_
  refine swp_region ?_
  refine s_pu (pu_assign rfl) ?_
  refine swl_sub _ (.cons (t := 0) rfl (.cons (t := 1) rfl .nil)) ?_
  refine swl_nil ?_
  refine then_n ?_
  refine swp_seq ?_
  refine swp_seq ?_
  refine swp_region ?_
  refine s_ef (ef_fn (counts_spec μ) rfl rfl (by repeat (first | exact Split.nil | (apply Split.cons; (repeat (first | with_reducible exact Take.here | apply Take.there)))))) ?_
  rintro v11 L1 ⟨rfl, μ1, h1, rfl⟩
  refine swl_app ?_
  refine s_pu (pu_not rfl) ?_
  refine swl_sub _ (.cons (t := 0) rfl (.cons (t := 1) rfl (.cons (t := 13) rfl .nil))) ?_
  refine swl_nil ?_
  refine then_n ?_
  refine swp_cond (b := _) rfl (fun h13 => by cases h13) (fun h13 => ?_)
  refine swp_skip ?_
  refine then_n ?_
  refine swp_seq ?_
  refine swp_region ?_
  refine s_pu (pu_move rfl) ?_
  refine s_pu (pu_rem_k ((am % 1500 : Nat) : Int) rfl rfl (by omega) (by omega) (by omega)) ?_
  refine s_pu (pu_conv_i64 rfl (by omega) (by omega)) ?_
  refine s_pu (pu_add_as ((1020 + am % 1500 : Nat) : Int) rfl rfl (by omega) (by omega) (by omega)) ?_
  refine s_pu (pu_assign rfl) ?_
  refine swl_sub _ (.cons (t := 1) rfl (.cons (t := 5) rfl .nil)) ?_
  refine swl_nil ?_
  refine then_n ?_
  refine swp_seq ?_
  obtain ⟨n, hn⟩ : ∃ n, n = 1020 + am % 1500 := ⟨_, rfl⟩
  rw [← hn]
  have hn1 : 1020 ≤ n ∧ n ≤ 2519 := by omega
  refine swp_region ?_
  refine s_ef (ef_bldS (qs := [(0, _)]) rfl rfl rfl) ?_
  intro b18
  refine s_pu (pu_assign rfl) ?_
  refine swl_sub _ (.cons (t := 1) rfl (.cons (t := 5) rfl (.cons (t := 6) rfl .nil))) ?_
  refine swl_ent (own_close (n := 1) (l := 1) (cap := 1) (xs := [.slice none 0 0]) (ex := []) (e := 22) rfl rfl (Nat.le_refl _) (by decide)) ?_
  refine swl_nil ?_
  refine then_n ?_
  refine swp_seq ?_
  refine swp_seq ?_
  refine swp_region ?_
  refine s_pu (pu_assign rfl) ?_
  refine swl_sub _ (.cons (t := 1) rfl (.cons (t := 5) rfl (.cons (t := 6) rfl (.cons (t := 7) rfl .nil)))) ?_
  refine swl_nil ?_
  refine then_n ?_
  refine swp_block ?_
  refine swp_loop (ι := Nat × Value × List (Value × List Int) × PH) (fun k env L => env = [(1, .int .u16 (ab : Nat)), (5, .int .i64 (n : Nat)), (6, k.2.1), (7, .int .i64 (k.1 : Nat))] ∧ L = [own 22 1 k.2.1 k.1 (k.2.2.1.flatMap gcs), ro k.2.2.2] ∧ 1 ≤ k.1 ∧ k.1 ≤ n ∧ Le μ k.2.2.2 ∧ nums k.2.2.1 = lineG k.1 ∧ ∀ x ∈ k.2.2.1, Row k.2.2.2 x.1 1 x.2.length (x.2.flatMap (icsk .i64))) (fun k => n - k.1) (1, _, [(.slice none 0 0, [])], μ1) ⟨rfl, rfl, Nat.le_refl _, by omega, h1, rfl, fun x hx => by obtain rfl := List.mem_singleton.1 hx; exact Row.nil _ _⟩ ?_
  rintro ⟨k, v5, Gk, μk⟩ env L ⟨rfl, rfl, hk0, hk, hle, hnk, hrk⟩
  dsimp only at hk0 hk hle hnk hrk ⊢
  refine swp_seq ?_
  refine swp_seq ?_
  refine swp_region ?_
  refine s_pu (pu_move rfl) ?_
  refine s_pu (pu_move rfl) ?_
  refine s_pu (pu_lss rfl rfl) ?_
  refine swl_sub _ (.cons (t := 1) rfl (.cons (t := 5) rfl (.cons (t := 6) rfl (.cons (t := 7) rfl (.cons (t := 21) rfl .nil))))) ?_
  refine swl_nil ?_
  refine then_n ?_
  refine swp_cond (b := _) rfl (fun h21 => ?_) (fun h21 => ?_)
  · skip   -- 21 T
    have h21' : k < n := by have := of_decide_eq_true h21; omega
    refine swp_skip ?_
    refine then_n ?_
    refine swp_seq ?_
    refine swp_block ?_
    refine swp_region ?_
    refine s_pu (pu_move rfl) ?_
    refine s_pu (pu_move rfl) ?_
    refine s_pu (pu_sub_as ((k : Int) - 1) rfl rfl (by omega) (by omega) (by omega)) ?_
    refine s_ef (ef_bldS (qs := [(0, _)]) rfl rfl rfl) ?_
    intro b27
    refine s_ef (ef_bldS (qs := [(0, _)]) rfl rfl rfl) ?_
    intro b28
    refine swl_share (b := b27) (μ := μk) (by repeat (first | exact Split.nil | (apply Split.cons; (repeat (first | with_reducible exact Take.here | apply Take.there))))) fun μ' hle' k1 => ?_
    have hrow' := row_of_blk (n := 1) (l := 1) (cs := [(k : Int) - 1].flatMap (icsk .i64)) k1 (by rfl) (by decide)
    refine s_ef (ef_append_lit (l := k) (m := 1) (news := [.slice (some ⟨b27, 0, none⟩) 1 1]) rfl rfl (by repeat (first | exact Split.nil | (apply Split.cons; (repeat (first | with_reducible exact Take.here | apply Take.there))))) (by simp only [maxLen]; omega) (by omega)) ?_
    rintro v' hv'
    skip
    refine s_pu (pu_assign rfl) ?_
    refine swl_sub _ (.cons (t := 1) rfl (.cons (t := 5) rfl (.cons (t := 6) rfl (.cons (t := 7) rfl .nil)))) ?_
    refine swl_nil ?_
    refine block_n ?_
    refine then_n ?_
    refine swp_region ?_
    refine s_pu (pu_move rfl) ?_
    refine s_pu (pu_add_as ((k + 1 : Nat) : Int) rfl rfl (by omega) (by omega) (by omega)) ?_
    refine s_pu (pu_assign rfl) ?_
    refine swl_sub _ (.cons (t := 1) rfl (.cons (t := 5) rfl (.cons (t := 6) rfl (.cons (t := 7) rfl .nil)))) ?_
    refine swl_nil ?_
    refine then_n ⟨(k + 1, v', Gk ++ [(.slice (some ⟨b27, 0, none⟩) 1 1, [(k : Int) - 1])], μ'), ⟨rfl, by rw [List.flatMap_append]; rfl, by omega, h21', hle.trans hle', ?_, fun y hy => ?_⟩, by show n - (k + 1) < n - k; omega⟩
    · show List.map (·.2) (Gk ++ [(_, [(k : Int) - 1])]) = _
      rw [List.map_append, lineG_succ, ← hnk, lineR, if_neg (by omega)]; rfl
    · rcases List.mem_append.1 hy with hy | hy
      · exact (hrk y hy).le hle'
      · obtain rfl : y = (.slice (some ⟨b27, 0, none⟩) 1 1, [(k : Int) - 1]) := by simpa using hy
        exact hrow'
  · skip   -- 21 F
    have h21' := of_decide_eq_false h21
    obtain rfl : k = n := by omega
    refine swp_exit ?_
    refine then_x ?_
    refine then_x ?_
    refine block_hit rfl ?_
    refine then_n ?_
    refine swp_seq ?_
    refine swp_region ?_
    refine s_pu (pu_move rfl) ?_
    refine s_pu (pu_conv_i64 rfl (by omega) (by omega)) ?_
    refine s_pu (pu_move rfl) ?_
    refine s_pu (pu_rem_as ((ab % k : Nat) : Int) rfl rfl (by omega) (by omega) (by omega)) ?_
    refine s_pu (pu_assign rfl) ?_
    refine swl_sub _ (.cons (t := 5) rfl (.cons (t := 6) rfl (.cons (t := 8) rfl .nil))) ?_
    refine swl_nil ?_
    refine then_n ?_
    refine swp_seq ?_
    have hs : ab % k < k := Nat.mod_lt _ (by omega)
    generalize ab % k = s at *
    refine swp_region ?_
    refine s_pu (pu_move rfl) ?_
    refine s_pu (pu_move rfl) ?_
    refine s_pu (pu_sub_as ((k : Int) - 1) rfl rfl (by omega) (by omega) (by omega)) ?_
    refine s_pu (pu_move rfl) ?_
    refine s_ef (ef_bldS (qs := [(0, _), (1, _)]) rfl rfl rfl) ?_
    intro b38
    refine s_pu (pu_move rfl) ?_
    refine s_pu (pu_move rfl) ?_
    refine s_pu (pu_sub_as ((k - s : Nat) : Int) rfl rfl (by omega) (by omega) (by omega)) ?_
    refine s_pu (pu_min2 rfl rfl) ?_
    refine swl_share (b := b38) (μ := μk) (by repeat (first | exact Split.nil | (apply Split.cons; (repeat (first | with_reducible exact Take.here | apply Take.there))))) fun μ2 h2 k2 => ?_
    have hrow2 := row_of_blk (n := 1) (l := 2) (cs := [(k : Int) - 1, (s : Int)].flatMap (icsk .i64)) k2 (by rfl) (by decide)
    have hmn : (min 2 ((k - s : Nat) : Int)) = ((min 2 (k - s) : Nat) : Int) := by omega
    obtain ⟨vr, hvr, hsl⟩ := row_take hrow2 (min 2 (k - s)) (Nat.min_le_left _ _)
    obtain ⟨A44, cap44, rfl⟩ := hvr.sl
    refine s_pu (hsl _ _ _ .i64 _ rfl rfl hmn) ?_
    refine s_ef (ef_bldS (qs := [(0, _)]) rfl rfl rfl) ?_
    intro b44
    refine s_ef (ef_append_lit (l := k) (m := 1) (news := [.slice A44 ([(k : Int) - 1, (s : Int)].take (min 2 (k - s))).length cap44]) rfl rfl (by repeat (first | exact Split.nil | (apply Split.cons; (repeat (first | with_reducible exact Take.here | apply Take.there))))) (by simp only [maxLen]; omega) (by omega)) ?_
    rintro v' hv'
    skip
    refine s_pu (pu_assign rfl) ?_
    refine swl_sub _ (.cons (t := 5) rfl (.cons (t := 6) rfl (.cons (t := 8) rfl .nil))) ?_
    refine swl_nil ?_
    refine then_n ?_
    refine swp_seq ?_
    refine swp_share_own (μ := μ2) (by repeat (first | exact Split.nil | (apply Split.cons; (repeat (first | with_reducible exact Take.here | apply Take.there))))) fun μ3 h3 hrow3 => ?_
    have hlk : Gk.length = k := by have := congrArg List.length hnk; rwa [lineG_len, List.length_map] at this
    have hG : Graph μ3 v' (Gk ++ [(.slice A44 ([(k : Int) - 1, (s : Int)].take (min 2 (k - s))).length cap44, [(k : Int) - 1, (s : Int)].take (min 2 (k - s)))]) := by
      refine ⟨by rw [List.length_append, List.flatMap_append, hlk]; exact hrow3, fun x hx => ?_⟩
      rcases List.mem_append.1 hx with hx | hx
      · exact (hrk x hx).le (h2.trans h3)
      · obtain rfl := List.mem_singleton.1 hx
        exact hvr.le h3
    have hnG : nums (Gk ++ [(Value.slice A44 ([(k : Int) - 1, (s : Int)].take (min 2 (k - s))).length cap44, [(k : Int) - 1, (s : Int)].take (min 2 (k - s)))]) = lineG k ++ [[(k : Int) - 1, (s : Int)].take (min 2 (k - s))] := by
      rw [← hnk]; unfold nums; rw [List.map_append]; rfl
    have ha := line_last hs
    rw [← hnG] at ha
    have hlG : (Gk ++ [(Value.slice A44 ([(k : Int) - 1, (s : Int)].take (min 2 (k - s))).length cap44, [(k : Int) - 1, (s : Int)].take (min 2 (k - s)))]).length = k + 1 := by rw [List.length_append, hlk]; rfl
    have hrow1 : ∀ x ∈ Gk ++ [(Value.slice A44 ([(k : Int) - 1, (s : Int)].take (min 2 (k - s))).length cap44, [(k : Int) - 1, (s : Int)].take (min 2 (k - s)))], x.2.length ≤ 1048576 := fun x hx => by
      have hx' : x.2 ∈ lineG k ++ [[(k : Int) - 1, (s : Int)].take (min 2 (k - s))] := by rw [← hnG]; exact List.mem_map_of_mem hx
      rcases List.mem_append.1 hx' with h | h
      · obtain ⟨i, _, e⟩ := List.mem_map.1 h
        rw [← e]; unfold lineR; split <;> simp
      · rw [List.mem_singleton.1 h, List.length_take]; simp; omega
    generalize Gk ++ [(Value.slice A44 ([(k : Int) - 1, (s : Int)].take (min 2 (k - s))).length cap44, [(k : Int) - 1, (s : Int)].take (min 2 (k - s)))] = Gm at *
    refine swp_region ?_
    refine s_pu (pu_move rfl) ?_
    refine s_ef (ef_fn (all_spec sort_ok μ3 v' Gm hG (by omega) hrow1) rfl rfl (by repeat (first | exact Split.nil | (apply Split.cons; (repeat (first | with_reducible exact Take.here | apply Take.there)))))) ?_
    rintro v48 L1 ⟨lv, μ4, rfl, h4, rfl⟩
    refine swl_app ?_
    have hyes := moreL_some ha
    rw [hyes.1, hyes.2, show (lineV k ++ [lineX k]).drop ([] : List Int).length = lineV k ++ [lineX k] from rfl]
    refine swl_share_own (μ := μ4) (by repeat (first | exact Split.nil | (apply Split.cons; (repeat (first | with_reducible exact Take.here | apply Take.there))))) fun μ5 h5 r5 => ?_
    have hal : (lineV k ++ [lineX k]).length = k + 1 := by rw [List.length_append, lineV_len]; rfl
    refine s_pu (pu_move rfl) ?_
    first | refine s_pu (pu_extractL rfl) ?_ | refine s_pu (pu_extract rfl rfl) ?_
    first | refine s_pu (pu_extractL rfl) ?_ | refine s_pu (pu_extract rfl rfl) ?_
    refine s_pu (pu_assign rfl) ?_
    refine s_pu (pu_assign rfl) ?_
    refine swl_sub _ (.cons (t := 5) rfl (.cons (t := 8) rfl (.cons (t := 9) rfl (.cons (t := 10) rfl .nil)))) ?_
    refine swl_nil ?_
    refine then_n ?_
    refine swp_seq ?_
    refine swp_seq ?_
    refine swp_region ?_
    refine s_pu (pu_move rfl) ?_
    refine s_pu (pu_neq rfl rfl) ?_
    refine s_pu (pu_move rfl) ?_
    refine s_on rfl rfl ?_
    refine s_pu (pu_move rfl) ?_
    refine s_on rfl rfl ?_
    refine s_pu (pu_len_row r5 rfl) ?_
    refine s_on rfl rfl ?_
    refine s_pu (pu_move rfl) ?_
    refine s_on rfl rfl ?_
    refine s_pu (pu_add_as ((k + 1 : Nat) : Int) rfl rfl (by omega) (by omega) (by omega)) ?_
    refine s_on rfl rfl ?_
    refine s_pu (pu_neq rfl rfl) ?_
    first | refine s_pu (pu_pick_t rfl rfl) ?_ | refine s_pu (pu_pick_f rfl rfl) ?_
    refine swl_sub _ (.cons (t := 5) rfl (.cons (t := 8) rfl (.cons (t := 9) rfl (.cons (t := 59) rfl .nil)))) ?_
    refine swl_nil ?_
    refine then_n ?_
    refine swp_cond (b := _) rfl (fun h59 => by exfalso; rw [hal] at h59; simp at h59) (fun h59 => ?_)
    refine swp_skip ?_
    refine then_n ?_
    refine swp_seq ?_
    refine swp_seq ?_
    refine swp_region ?_
    refine s_pu (pu_move rfl) ?_
    refine s_pu (pu_move rfl) ?_
    refine swl_sub _ (.cons (t := 5) rfl (.cons (t := 8) rfl (.cons (t := 9) rfl (.cons (t := 60) rfl (.cons (t := 61) rfl .nil))))) ?_
    refine swl_nil ?_
    refine then_n ?_
    refine swp_block ?_
    refine swp_loop (ι := Nat) (fun c env L => env = [(5, .int .i64 (k : Nat)), (8, .int .i64 (s : Nat)), (9, lv), (60, .int .i64 (k : Nat)), (61, .int .i64 (c : Nat))] ∧ L = [ro μ5] ∧ c ≤ k) (fun c => k - c) 0 ⟨rfl, rfl, Nat.zero_le _⟩ ?_
    rintro c env L ⟨rfl, rfl, hc⟩
    refine swp_seq ?_
    refine swp_region ?_
    refine s_pu (pu_lss rfl rfl) ?_
    refine swl_sub _ (.cons (t := 5) rfl (.cons (t := 8) rfl (.cons (t := 9) rfl (.cons (t := 60) rfl (.cons (t := 61) rfl (.cons (t := 62) rfl .nil)))))) ?_
    refine swl_nil ?_
    refine then_n ?_
    refine swp_seq ?_
    refine swp_cond (b := _) rfl (fun h62 => ?_) (fun h62 => ?_)
    · skip   -- 62 T
      have h62' : c < k := by have := of_decide_eq_true h62; omega
      obtain ⟨cb, co, cc, hcv, hcc⟩ := r5.at_ (line_all (Nat.le_of_lt h62'))
      refine swp_skip ?_
      refine then_n ?_
      refine swp_seq ?_
      refine swp_block ?_
      refine swp_seq ?_
      refine swp_region ?_
      refine s_pu (pu_move rfl) ?_
      refine s_pu (pu_assign rfl) ?_
      refine swl_sub _ (.cons (t := 5) rfl (.cons (t := 8) rfl (.cons (t := 9) rfl (.cons (t := 11) rfl (.cons (t := 60) rfl (.cons (t := 61) rfl .nil)))))) ?_
      refine swl_nil ?_
      refine then_n ?_
      refine swp_seq ?_
      refine swp_region ?_
      refine s_pu (pu_move rfl) ?_
      refine s_pu (pu_move rfl) ?_
      refine s_pu (pu_indexAddr (co + c * 1) (congrArg some hcv) rfl (by omega) (by omega) (by rw [Int.toNat_natCast])) ?_
      refine s_rd (rd_ro rfl hcc) ?_
      refine s_pu (pu_move rfl) ?_
      refine s_pu (pu_add_as ((c : Int) + 1) rfl rfl (by omega) (by omega) (by omega)) ?_
      refine s_pu (pu_min2 rfl rfl) ?_
      refine s_pu (pu_neq rfl rfl) ?_
      refine swl_sub _ (.cons (t := 5) rfl (.cons (t := 8) rfl (.cons (t := 9) rfl (.cons (t := 60) rfl (.cons (t := 61) rfl (.cons (t := 71) rfl .nil)))))) ?_
      refine swl_nil ?_
      refine then_n ?_
      refine swp_cond (b := _) rfl (fun h71 => by exfalso; exact absurd h71 (by rw [show lineX c = min ((c : Int) + 1) 1023 from rfl, decide_eq_true rfl]; decide)) (fun h71 => ?_)
      refine swp_skip ?_
      refine block_n ?_
      refine then_n ?_
      refine swp_region ?_
      refine s_pu (pu_add_as ((c + 1 : Nat) : Int) rfl rfl (by omega) (by omega) (by omega)) ?_
      refine s_pu (pu_move rfl) ?_
      refine swl_sub _ (.cons (t := 5) rfl (.cons (t := 8) rfl (.cons (t := 9) rfl (.cons (t := 60) rfl (.cons (t := 61) rfl .nil))))) ?_
      refine swl_nil ?_
      exact then_n ⟨c + 1, ⟨rfl, rfl, h62'⟩, by omega⟩
    · skip   -- 62 F
      obtain ⟨xb, xo, xc, hxv, hxc⟩ := r5.at_ (line_all (Nat.le_refl k))
      obtain ⟨yb, yo, yc, hyv, hyc⟩ := r5.at_ (line_all (i := k - 1) (n := k) (by omega))
      obtain ⟨zb, zo, zc, hzv, hzc⟩ := r5.at_ (line_all (i := s) (n := k) (by omega))
      refine swp_exit ?_
      refine then_x ?_
      refine then_x ?_
      refine block_hit rfl ?_
      refine then_n ?_
      refine swp_seq ?_
      refine swp_draw [3, 12, 17, 24, 28] _ [] (by simp only [List.append_nil]; exact Ent.refl _) (by kernel_rfl) ?_
      refine d_pu 0 rfl (pu_move rfl) (by kernel_rfl) (by kernel_rfl) (by kernel_rfl) ?_
      refine d_pu 1 rfl (pu_move rfl) (by kernel_rfl) (by kernel_rfl) (by kernel_rfl) ?_
      refine d_pu 2 rfl (pu_indexAddr (xo + k * 1) (congrArg some hxv) rfl (by omega) (by omega) (by rw [Int.toNat_natCast])) (by kernel_rfl) (by kernel_rfl) (by kernel_rfl) ?_
      refine d_rd 3 rfl (rd_ro rfl hxc) rfl (by kernel_rfl) (by kernel_rfl) (by kernel_rfl) ?_
      refine d_pu 4 rfl (pu_move rfl) (by kernel_rfl) (by kernel_rfl) (by kernel_rfl) ?_
      refine d_pu 5 rfl (pu_add_as ((k : Int) + 1) rfl rfl (by omega) (by omega) (by omega)) (by kernel_rfl) (by kernel_rfl) (by kernel_rfl) ?_
      refine d_pu 6 rfl (pu_min2 rfl rfl) (by kernel_rfl) (by kernel_rfl) (by kernel_rfl) ?_
      refine d_pu 7 rfl (pu_eql rfl rfl) (by kernel_rfl) (by kernel_rfl) (by kernel_rfl) ?_
      refine d_pu 8 rfl (pu_move rfl) (by kernel_rfl) (by kernel_rfl) (by kernel_rfl) ?_
      refine d_split 81 rfl (fun h81 => ?_) (fun h81 => by exfalso; exact absurd h81 (by rw [show lineX k = min ((k : Int) + 1) 1023 from rfl, decide_eq_true rfl]; decide))
      refine d_pu_on 9 rfl rfl rfl (pu_move rfl) (by kernel_rfl) (by kernel_rfl) (by kernel_rfl) ?_
      refine d_pu_on 10 rfl rfl rfl (pu_move rfl) (by kernel_rfl) (by kernel_rfl) (by kernel_rfl) ?_
      refine d_pu_on 11 rfl rfl rfl (pu_indexAddr (xo + k * 1) (congrArg some hxv) rfl (by omega) (by omega) (by rw [Int.toNat_natCast])) (by kernel_rfl) (by kernel_rfl) (by kernel_rfl) ?_
      refine d_rd_on 12 rfl rfl rfl (rd_ro rfl hxc) rfl (by kernel_rfl) (by kernel_rfl) (by kernel_rfl) ?_
      refine d_pu_on 13 rfl rfl rfl (pu_move rfl) (by kernel_rfl) (by kernel_rfl) (by kernel_rfl) ?_
      refine d_pu_on 14 rfl rfl rfl (pu_move rfl) (by kernel_rfl) (by kernel_rfl) (by kernel_rfl) ?_
      refine d_pu_on 15 rfl rfl rfl (pu_sub_as ((k - 1 : Nat) : Int) rfl rfl (by omega) (by omega) (by omega)) (by kernel_rfl) (by kernel_rfl) (by kernel_rfl) ?_
      refine d_pu_on 16 rfl rfl rfl (pu_indexAddr (yo + (k - 1) * 1) (congrArg some hyv) rfl (by omega) (by omega) (by rw [Int.toNat_natCast])) (by kernel_rfl) (by kernel_rfl) (by kernel_rfl) ?_
      refine d_rd_on 17 rfl rfl rfl (rd_ro rfl hyc) rfl (by kernel_rfl) (by kernel_rfl) (by kernel_rfl) ?_
      refine d_amb [18] (by kernel_rfl) rfl ?_
      refine dA_ef 18 rfl (GOn.some rfl rfl) (ef_fn (may_spec _ _) rfl rfl (by repeat (first | exact Split.nil | (apply Split.cons; (repeat (first | with_reducible exact Take.here | apply Take.there)))))) ?_
      rintro v91 L1 ⟨rfl, rfl⟩
      refine ⟨_, ent_appC (Split.ent (by repeat (first | exact Split.nil | (apply Split.cons; (repeat (first | with_reducible exact Take.here | apply Take.there)))))), ?_⟩
      first | refine d_pu 19 rfl (pu_pick_t rfl rfl) (by kernel_rfl) (by kernel_rfl) (by kernel_rfl) ?_ | refine d_pu 19 rfl (pu_pick_f rfl rfl) (by kernel_rfl) (by kernel_rfl) (by kernel_rfl) ?_
      refine d_pu 20 rfl (pu_move rfl) (by kernel_rfl) (by kernel_rfl) (by kernel_rfl) ?_
      refine d_split 93 rfl (fun h93 => ?_) (fun h93 => by exfalso; rw [may_line (by omega)] at h93; cases h93)
      refine d_pu_on 21 rfl rfl rfl (pu_move rfl) (by kernel_rfl) (by kernel_rfl) (by kernel_rfl) ?_
      refine d_pu_on 22 rfl rfl rfl (pu_move rfl) (by kernel_rfl) (by kernel_rfl) (by kernel_rfl) ?_
      refine d_pu_on 23 rfl rfl rfl (pu_indexAddr (xo + k * 1) (congrArg some hxv) rfl (by omega) (by omega) (by rw [Int.toNat_natCast])) (by kernel_rfl) (by kernel_rfl) (by kernel_rfl) ?_
      refine d_rd_on 24 rfl rfl rfl (rd_ro rfl hxc) rfl (by kernel_rfl) (by kernel_rfl) (by kernel_rfl) ?_
      refine d_pu_on 25 rfl rfl rfl (pu_move rfl) (by kernel_rfl) (by kernel_rfl) (by kernel_rfl) ?_
      refine d_pu_on 26 rfl rfl rfl (pu_move rfl) (by kernel_rfl) (by kernel_rfl) (by kernel_rfl) ?_
      refine d_pu_on 27 rfl rfl rfl (pu_indexAddr (zo + s * 1) (congrArg some hzv) rfl (by omega) (by omega) (by rw [Int.toNat_natCast])) (by kernel_rfl) (by kernel_rfl) (by kernel_rfl) ?_
      refine d_rd_on 28 rfl rfl rfl (rd_ro rfl hzc) rfl (by kernel_rfl) (by kernel_rfl) (by kernel_rfl) ?_
      refine d_amb [29] (by kernel_rfl) rfl ?_
      first | refine dA_fint 29 rfl (GOn.some rfl rfl) (by kernel_rfl) (ef_fn (may_spec _ _) rfl rfl (by repeat (first | exact Split.nil | (apply Split.cons; (repeat (first | with_reducible exact Take.here | apply Take.there)))))) ?_ | refine dA_finf 29 rfl (GOn.some rfl rfl) (by kernel_rfl) (ef_fn (may_spec _ _) rfl rfl (by repeat (first | exact Split.nil | (apply Split.cons; (repeat (first | with_reducible exact Take.here | apply Take.there)))))) ?_
      rintro v102 L1 ⟨rfl, rfl⟩
      refine swd_app ?_
      first | refine d_pu 30 rfl (pu_pick_t rfl rfl) (by kernel_rfl) (by kernel_rfl) (by kernel_rfl) ?_ | refine d_pu 30 rfl (pu_pick_f rfl rfl) (by kernel_rfl) (by kernel_rfl) (by kernel_rfl) ?_
      refine d_pu 31 rfl (pu_assign rfl) (by kernel_rfl) (by kernel_rfl) (by kernel_rfl) ?_
      refine d_sub _ (.cons (t := 4) rfl .nil) ?_
      first | refine d_nilt (by kernel_rfl) ?_ | refine d_nilf (by kernel_rfl) ?_
      refine then_n ?_
      refine swp_ret ?_
      exact done_ret [ro μ5] (.tmp rfl .nil) ⟨congrArg Value.bool (may_line hs), μ5, [], hle.trans (h2.trans (h3.trans (h4.trans h5))), rfl⟩ (by repeat (first | exact Split.nil | (apply Split.cons; (repeat (first | with_reducible exact Take.here | apply Take.there)))))
end SX
namespace SX
open Go Go.Proofs

set_option maxHeartbeats 4000000 in
theorem genpieces_spec (μ : PH) (v vc : Value) (G : List (Value × List Int)) (cs : List Int) (hG : Graph μ v G) (hn : G.length ≤ 1048576) (hrows : ∀ x ∈ G, x.2.length ≤ 1048576)
    (hc : Row μ vc 1 cs.length (cs.flatMap (icsk .u8))) (hcs : cs.length ≤ 1048576) (hcw : ∀ c ∈ cs, 0 ≤ c ∧ c ≤ 255) : Spec Try.prog 7 [v, vc] [ro μ] (LawOk μ) := by
  refine Spec.of 137 Try.func7 rfl rfl rfl ?_
  refine swp_seq ?_
  refine swp_region ?_
  refine s_pu (pu_assign rfl) ?_
  refine swl_sub _ (.cons (t := 0) rfl (.cons (t := 1) rfl .nil)) ?_
  refine swl_nil ?_
  refine then_n ?_
  refine swp_seq ?_
  refine swp_seq ?_
  refine swp_region ?_
  refine s_ef (ef_fn (counts_spec μ) rfl rfl (by repeat (first | exact Split.nil | (apply Split.cons; (repeat (first | with_reducible exact Take.here | apply Take.there)))))) ?_
  rintro v19 L1 ⟨rfl, μ1, h1, rfl⟩
  refine swl_app ?_
  refine s_pu (pu_not rfl) ?_
  refine swl_sub _ (.cons (t := 0) rfl (.cons (t := 1) rfl (.cons (t := 20) rfl .nil))) ?_
  refine swl_nil ?_
  refine then_n ?_
  refine swp_cond (b := _) rfl (fun h20 => by cases h20) (fun h20 => ?_)
  refine swp_skip ?_
  refine then_n ?_
  refine swp_seq ?_
  obtain ⟨v', hG1, hsl⟩ := graph_take (P := Try.prog) (tG := 30) (hG.le h1) (min G.length 2000) (Nat.min_le_left _ _)
  have hmn : (min (G.length : Int) 2000) = ((min G.length 2000 : Nat) : Int) := by omega
  have hrows1 : ∀ x ∈ G.take (min G.length 2000), x.2.length ≤ 1048576 := fun x hx => hrows x (List.mem_of_mem_take hx)
  have hlen1 : (G.take (min G.length 2000)).length ≤ 2000 := by rw [List.length_take]; omega
  generalize G.take (min G.length 2000) = Gm at *
  refine swp_region ?_
  refine s_pu (pu_move rfl) ?_
  refine s_pu (pu_move rfl) ?_
  refine s_pu (pu_len_row hG.1 rfl) ?_
  refine s_pu (pu_min2 rfl rfl) ?_
  rw [hmn]
  refine s_pu (hsl _ _ _ .i64 _ rfl rfl rfl) ?_
  refine s_pu (pu_assign rfl) ?_
  refine swl_sub _ (.cons (t := 0) rfl (.cons (t := 1) rfl .nil)) ?_
  refine swl_nil ?_
  refine then_n ?_
  refine swp_seq ?_
  refine swp_region ?_
  refine s_pu (pu_move rfl) ?_
  refine s_ef (ef_fn (all_spec sort_ok μ1 v' Gm hG1 (by omega) hrows1) rfl rfl (by repeat (first | exact Split.nil | (apply Split.cons; (repeat (first | with_reducible exact Take.here | apply Take.there)))))) ?_
  rintro v28 L1 ⟨lv, μ3, rfl, h3, rfl⟩
  refine swl_app ?_
  have hG3 := hG1.le h3
  have hec := more0_chk (nums Gm)
  refine s_pu (pu_move rfl) ?_
  first | refine s_pu (pu_extractL rfl) ?_ | refine s_pu (pu_extract rfl rfl) ?_
  first | refine s_pu (pu_extractL rfl) ?_ | refine s_pu (pu_extract rfl rfl) ?_
  refine s_pu (pu_assign rfl) ?_
  refine s_pu (pu_assign rfl) ?_
  refine swl_sub _ (.cons (t := 0) rfl (.cons (t := 1) rfl (.cons (t := 5) rfl (.cons (t := 6) rfl .nil)))) ?_
  refine swl_nil ?_
  refine then_n ?_
  refine swp_seq ?_
  refine swp_seq ?_
  refine swp_region ?_
  refine s_pu (pu_move rfl) ?_
  refine s_ef (ef_fn (rcheck_spec μ3 v' Gm hG3 (by omega)) rfl rfl (by repeat (first | exact Split.nil | (apply Split.cons; (repeat (first | with_reducible exact Take.here | apply Take.there)))))) ?_
  rintro v32 L1 ⟨rfl, rfl⟩
  refine swl_app ?_
  refine s_pu (pu_neq rfl rfl) ?_
  refine swl_sub _ (.cons (t := 0) rfl (.cons (t := 1) rfl (.cons (t := 5) rfl (.cons (t := 6) rfl (.cons (t := 33) rfl .nil))))) ?_
  refine swl_nil ?_
  refine then_n ?_
  refine swp_cond (b := _) rfl (fun h33 => ?_) (fun h33 => ?_)
  · skip   -- 33 T
    have hc0 : ¬ chkFrom 0 (nums Gm) = 0 := by simpa using h33
    have hE : moreE [] (nums Gm) = 1 ∧ moreL [] (nums Gm) = [] := by
      have := fun h => hc0 (hec.1 h)
      unfold moreE at this ⊢
      cases hm : moreG [] (nums Gm) with
      | none => exact ⟨rfl, (moreL_none hm).1⟩
      | some a => rw [hm] at this; exact absurd rfl this
    rw [hE.1, hE.2]
    refine swp_fact (fun m h => own_shape (by repeat (first | with_reducible exact Take.here | apply Take.there)) h) fun hs1 => ?_
    have hform := shape_len hs1
    refine swp_seq ?_
    refine swp_region ?_
    refine s_pu (pu_move rfl) ?_
    refine s_pu (pu_eql rfl rfl) ?_
    refine s_pu (pu_move rfl) ?_
    refine s_on rfl rfl ?_
    refine s_pu (pu_move rfl) ?_
    refine s_on rfl rfl ?_
    refine s_pu (pu_len_own hform rfl) ?_
    refine s_on rfl rfl ?_
    refine s_pu (pu_eql rfl rfl) ?_
    first | refine s_pu (pu_pick_t rfl rfl) ?_ | refine s_pu (pu_pick_f rfl rfl) ?_
    refine s_pu (pu_assign rfl) ?_
    refine swl_sub _ (.cons (t := 4) rfl .nil) ?_
    refine swl_nil ?_
    refine then_n ?_
    refine swp_ret ?_
    refine then_r ?_
    exact done_ret [ro μ3] (.tmp rfl .nil) ⟨rfl, μ3, [], h1.trans h3, rfl⟩ (by repeat (first | exact Split.nil | (apply Split.cons; (repeat (first | with_reducible exact Take.here | apply Take.there)))))
  · skip   -- 33 F
    have hc0 : chkFrom 0 (nums Gm) = 0 := by simpa using h33
    obtain ⟨gs, ha⟩ : ∃ a, moreG [] (nums Gm) = some a := by
      have hs : (moreG [] (nums Gm)).isSome = true ↔ chkFrom 0 (nums Gm) = 0 := moreG_chk (all := [])
      exact Option.isSome_iff_exists.1 (hs.2 hc0)
    have hln : (nums Gm).length = Gm.length := List.length_map _
    have hal : gs.length = Gm.length := by rw [gens_len ha, hln]
    have hyes := moreL_some ha
    rw [hyes.1, hyes.2, show gs.drop ([] : List Int).length = gs from rfl]
    refine swp_share_own (v := lv) (μ := μ3) (by repeat (first | exact Split.nil | (apply Split.cons; (repeat (first | with_reducible exact Take.here | apply Take.there))))) fun μ4 h4 ra => ?_
    have hG4 := hG3.le h4
    have hc4 := hc.le (h1.trans (h3.trans h4))
    refine swp_skip ?_
    refine then_n ?_
    refine swp_seq ?_
    refine swp_seq ?_
    refine swp_region ?_
    refine s_pu (pu_move rfl) ?_
    refine s_pu (pu_neq rfl rfl) ?_
    refine s_pu (pu_move rfl) ?_
    refine s_on rfl rfl ?_
    refine s_pu (pu_move rfl) ?_
    refine s_on rfl rfl ?_
    refine s_pu (pu_len_row ra rfl) ?_
    refine s_on rfl rfl ?_
    refine s_pu (pu_move rfl) ?_
    refine s_on rfl rfl ?_
    refine s_pu (pu_len_row hG4.1 rfl) ?_
    refine s_on rfl rfl ?_
    refine s_pu (pu_neq rfl rfl) ?_
    first | refine s_pu (pu_pick_t rfl rfl) ?_ | refine s_pu (pu_pick_f rfl rfl) ?_
    refine swl_sub _ (.cons (t := 0) rfl (.cons (t := 1) rfl (.cons (t := 5) rfl (.cons (t := 49) rfl .nil)))) ?_
    refine swl_nil ?_
    refine then_n ?_
    refine swp_cond (b := _) rfl (fun h49 => by exfalso; rw [hal] at h49; simp at h49) (fun h49 => ?_)
    refine swp_skip ?_
    refine then_n ?_
    refine swp_seq ?_
    refine swp_region ?_
    refine s_pu (pu_assign rfl) ?_
    refine swl_sub _ (.cons (t := 0) rfl (.cons (t := 1) rfl (.cons (t := 5) rfl (.cons (t := 7) rfl .nil)))) ?_
    refine swl_nil ?_
    refine then_n ?_
    refine swp_seq ?_
    refine swp_seq ?_
    refine swp_region ?_
    refine s_pu (pu_move rfl) ?_
    refine s_pu (pu_len_row hc4 rfl) ?_
    refine s_pu (pu_move rfl) ?_
    refine swl_sub _ (.cons (t := 0) rfl (.cons (t := 5) rfl (.cons (t := 7) rfl (.cons (t := 50) rfl (.cons (t := 51) rfl (.cons (t := 52) rfl .nil)))))) ?_
    refine swl_ent (own_nil_ent (e := 3) (n := 1)) ?_
    refine swl_nil ?_
    refine then_n ?_
    refine swp_block ?_
    refine swp_loop (ι := Nat × Value × List Int × PH) (fun k env L => env = [(0, v'), (5, lv), (7, k.2.1), (50, vc), (51, .int .i64 (cs.length : Nat)), (52, .int .i64 (k.1 : Nat))] ∧ L = [own 3 1 k.2.1 k.2.2.1.length (k.2.2.1.flatMap (icsk .i64)), ro k.2.2.2] ∧ k.1 ≤ cs.length ∧ k.2.2.1.length ≤ Gm.length ∧ Le μ4 k.2.2.2 ∧ moreG [] ((nums Gm).take k.2.2.1.length) = some k.2.2.1) (fun k => cs.length - k.1) (0, .slice none 0 0, [], μ4) ⟨rfl, rfl, Nat.zero_le _, Nat.zero_le _, Le.refl _, rfl⟩ ?_
    rintro ⟨i, kv, a, μk⟩ env L ⟨rfl, rfl, hi, hla, hle, hak⟩
    dsimp only at hi hla hle hak ⊢
    have hGk := hG4.le hle
    refine swp_seq ?_
    refine swp_region ?_
    refine s_pu (pu_lss rfl rfl) ?_
    refine swl_sub _ (.cons (t := 0) rfl (.cons (t := 5) rfl (.cons (t := 7) rfl (.cons (t := 50) rfl (.cons (t := 51) rfl (.cons (t := 52) rfl (.cons (t := 53) rfl .nil))))))) ?_
    refine swl_nil ?_
    refine then_n ?_
    refine swp_seq ?_
    refine swp_cond (b := _) rfl (fun h53 => ?_) (fun h53 => ?_)
    · skip   -- 53 T
      have h53' : i < cs.length := by have := of_decide_eq_true h53; omega
      obtain ⟨cb, co, cc, hcv, hcc⟩ := (hc4.le hle).atk (List.getElem?_eq_getElem h53')
      have hcr := hcw _ (List.getElem_mem h53')
      generalize cs[i] = ci at *
      obtain ⟨ci, rfl⟩ : ∃ k : Nat, ci = k := ⟨ci.toNat, by omega⟩
      obtain ⟨n, hnn⟩ : ∃ n, n = min ci (Gm.length - a.length) := ⟨_, rfl⟩
      have hmin : min (ci : Int) ((Gm.length - a.length : Nat) : Int) = (n : Int) := by omega
      obtain ⟨vs, hGs, hsm⟩ := graph_mid (P := Try.prog) (tG := 30) hGk a.length n (by omega)
      obtain ⟨a', p1, p2, p3, p4⟩ := more_piece ha hak n
      have hdm : nums ((Gm.drop a.length).take n) = ((nums Gm).drop a.length).take n := by unfold nums; rw [List.map_take, List.map_drop]
      have hsn : ((Gm.drop a.length).take n).length = n := by rw [List.length_take, List.length_drop]; omega
      have hsr : ∀ x ∈ (Gm.drop a.length).take n, x.2.length ≤ 1048576 := fun x hx => hrows1 x (List.mem_of_mem_drop (List.mem_of_mem_take hx))
      rw [← hdm] at p2 p3
      have p3' : a'.length = a.length + n := by rw [p3, List.length_map, hsn]
      generalize (Gm.drop a.length).take n = Gs at *
      refine swp_skip ?_
      refine then_n ?_
      refine swp_seq ?_
      refine swp_block ?_
      refine swp_seq ?_
      refine swp_region ?_
      refine s_pu (pu_indexAddr (co + i * 1) (congrArg some hcv) rfl (by omega) (by omega) (by rw [Int.toNat_natCast])) ?_
      refine s_rd (rd_ro rfl hcc) ?_
      refine s_pu (pu_assign rfl) ?_
      refine swl_sub _ (.cons (t := 0) rfl (.cons (t := 5) rfl (.cons (t := 7) rfl (.cons (t := 9) rfl (.cons (t := 50) rfl (.cons (t := 51) rfl (.cons (t := 52) rfl .nil))))))) ?_
      refine swl_nil ?_
      refine then_n ?_
      refine swp_seq ?_
      refine swp_region ?_
      refine swl_lend_own (v := kv) (μ := μk) (by repeat (first | exact Split.nil | (apply Split.cons; (repeat (first | with_reducible exact Take.here | apply Take.there))))) fun μ5 h5 rk hback => ?_
      refine s_pu (pu_move rfl) ?_
      refine s_pu (pu_conv_i64 rfl (by omega) (by omega)) ?_
      refine s_pu (pu_move rfl) ?_
      refine s_pu (pu_len_row hGk.1 rfl) ?_
      refine s_pu (pu_move rfl) ?_
      refine s_pu (pu_len_row rk rfl) ?_
      refine s_pu (pu_sub_as ((Gm.length - a.length : Nat) : Int) rfl rfl (by omega) (by omega) (by omega)) ?_
      refine s_pu (pu_min2 rfl rfl) ?_
      rw [hmin]
      refine s_pu (pu_assign rfl) ?_
      refine swl_sub _ (.cons (t := 0) rfl (.cons (t := 5) rfl (.cons (t := 7) rfl (.cons (t := 10) rfl (.cons (t := 50) rfl (.cons (t := 51) rfl (.cons (t := 52) rfl .nil))))))) ?_
      refine swl_nil ?_
      refine then_n ?_
      refine swp_seq ?_
      refine swp_region ?_
      refine s_pu (pu_move rfl) ?_
      refine s_pu (pu_move rfl) ?_
      refine s_pu (pu_move rfl) ?_
      refine s_pu (pu_len_row rk rfl) ?_
      refine s_pu (pu_move rfl) ?_
      refine s_pu (pu_len_row rk rfl) ?_
      refine s_pu (pu_move rfl) ?_
      refine s_pu (pu_add_as ((a.length + n : Nat) : Int) rfl rfl (by omega) (by omega) (by omega)) ?_
      refine s_pu (hsm _ _ _ _ .i64 .i64 _ _ rfl rfl rfl rfl rfl) ?_
      refine s_ef (ef_fn (more_spec sort_ok μ5 kv vs a Gs rk (hGs.le h5) (by omega) (by omega) hsr) rfl rfl (by repeat (first | exact Split.nil | (apply Split.cons; (repeat (first | with_reducible exact Take.here | apply Take.there)))))) ?_
      rintro v74 L1 ⟨pv, μ6, rfl, h6, rfl⟩
      refine swl_app ?_
      obtain ⟨μ7, h7, hb⟩ := hback μ6 h6
      have hy2 := moreL_some p2
      rw [hy2.1, hy2.2]
      refine swl_ent (Split.ent' (K := [ro μ6, own 3 1 pv (a'.drop a.length).length ((a'.drop a.length).flatMap (icsk .i64))]) (by repeat (first | exact Split.nil | (apply Split.cons; (repeat (first | with_reducible exact Take.here | apply Take.there)))))) ?_
      refine swl_ent (hb _) ?_
      refine swl_share_own (v := pv) (μ := μ7) (by repeat (first | exact Split.nil | (apply Split.cons; (repeat (first | with_reducible exact Take.here | apply Take.there))))) fun μ8 h8 r8 => ?_
      refine s_pu (pu_move rfl) ?_
      first | refine s_pu (pu_extractL rfl) ?_ | refine s_pu (pu_extract rfl rfl) ?_
      first | refine s_pu (pu_extractL rfl) ?_ | refine s_pu (pu_extract rfl rfl) ?_
      refine s_pu (pu_assign rfl) ?_
      refine s_pu (pu_assign rfl) ?_
      refine swl_sub _ (.cons (t := 0) rfl (.cons (t := 5) rfl (.cons (t := 7) rfl (.cons (t := 10) rfl (.cons (t := 11) rfl (.cons (t := 12) rfl (.cons (t := 50) rfl (.cons (t := 51) rfl (.cons (t := 52) rfl .nil))))))))) ?_
      refine swl_nil ?_
      refine then_n ?_
      refine swp_seq ?_
      refine swp_seq ?_
      refine swp_region ?_
      refine s_pu (pu_move rfl) ?_
      refine s_pu (pu_neq rfl rfl) ?_
      refine s_pu (pu_move rfl) ?_
      refine s_on rfl rfl ?_
      refine s_pu (pu_move rfl) ?_
      refine s_on rfl rfl ?_
      refine s_pu (pu_len_row r8 rfl) ?_
      refine s_on rfl rfl ?_
      refine s_pu (pu_move rfl) ?_
      refine s_on rfl rfl ?_
      refine s_pu (pu_neq rfl rfl) ?_
      first | refine s_pu (pu_pick_t rfl rfl) ?_ | refine s_pu (pu_pick_f rfl rfl) ?_
      refine swl_sub _ (.cons (t := 0) rfl (.cons (t := 5) rfl (.cons (t := 7) rfl (.cons (t := 11) rfl (.cons (t := 50) rfl (.cons (t := 51) rfl (.cons (t := 52) rfl (.cons (t := 84) rfl .nil)))))))) ?_
      refine swl_nil ?_
      refine then_n ?_
      refine swp_cond (b := _) rfl (fun h84 => by exfalso; rw [List.length_drop, p3', Nat.add_sub_cancel_left] at h84; simp at h84) (fun h84 => ?_)
      refine swp_skip ?_
      refine then_n ?_
      refine swp_region ?_
      refine s_pu (pu_move rfl) ?_
      refine s_pu (pu_move rfl) ?_
      refine s_ef (ef_append_ro r8 rfl rfl (by repeat (first | exact Split.nil | (apply Split.cons; (repeat (first | with_reducible exact Take.here | apply Take.there))))) (icsk_one _) (by simp only [maxLen]; rw [List.length_drop]; omega) (by rw [List.length_drop]; omega)) ?_
      rintro v87 -
      rw [← List.flatMap_append, p4, show a.length + (a'.drop a.length).length = a'.length by rw [List.length_drop]; omega]
      refine s_pu (pu_assign rfl) ?_
      refine swl_sub _ (.cons (t := 0) rfl (.cons (t := 5) rfl (.cons (t := 7) rfl (.cons (t := 50) rfl (.cons (t := 51) rfl (.cons (t := 52) rfl .nil)))))) ?_
      refine swl_nil ?_
      refine block_n ?_
      refine then_n ?_
      refine swp_region ?_
      refine s_pu (pu_add_as ((i + 1 : Nat) : Int) rfl rfl (by omega) (by omega) (by omega)) ?_
      refine s_pu (pu_move rfl) ?_
      refine swl_sub _ (.cons (t := 0) rfl (.cons (t := 5) rfl (.cons (t := 7) rfl (.cons (t := 50) rfl (.cons (t := 51) rfl (.cons (t := 52) rfl .nil)))))) ?_
      refine swl_nil ?_
      exact then_n ⟨(i + 1, v87, a', μ8), ⟨rfl, rfl, h53', by show a'.length ≤ _; omega, hle.trans (h7.trans h8), by show moreG [] ((nums Gm).take a'.length) = _; rw [p3']; exact p1⟩, by show cs.length - (i + 1) < cs.length - i; omega⟩
    · skip   -- 53 F
      obtain ⟨vs, hGs, hsm⟩ := graph_drop (P := Try.prog) (tG := 30) hGk a.length hla
      obtain ⟨a', p1, p2, p3, p4⟩ := more_piece ha hak (Gm.length - a.length)
      have p5 : a' = gs := by
        rw [List.take_of_length_le (by rw [List.length_map]; omega), ha] at p1
        exact (Option.some.inj p1).symm
      subst p5
      have hdm : nums (Gm.drop a.length) = ((nums Gm).drop a.length).take (Gm.length - a.length) := by unfold nums; rw [List.map_drop, List.take_of_length_le (by rw [List.length_drop, List.length_map]; omega)]
      have hsn : (Gm.drop a.length).length ≤ 2000 := by rw [List.length_drop]; omega
      have hsr : ∀ x ∈ Gm.drop a.length, x.2.length ≤ 1048576 := fun x hx => hrows1 x (List.mem_of_mem_drop hx)
      rw [← hdm] at p2 p3
      generalize Gm.drop a.length = Gs at *
      refine swp_lend_own (v := kv) (μ := μk) (by repeat (first | exact Split.nil | (apply Split.cons; (repeat (first | with_reducible exact Take.here | apply Take.there))))) fun μ5 h5 rk hback => ?_
      refine swp_exit ?_
      refine then_x ?_
      refine then_x ?_
      refine block_hit rfl ?_
      refine then_n ?_
      refine swp_seq ?_
      refine swp_region ?_
      refine s_pu (pu_move rfl) ?_
      refine s_pu (pu_move rfl) ?_
      refine s_pu (pu_move rfl) ?_
      refine s_pu (pu_len_row rk rfl) ?_
      refine s_pu (hsm _ _ _ .i64 _ rfl rfl rfl) ?_
      refine s_ef (ef_fn (more_spec sort_ok μ5 kv vs a Gs rk (hGs.le h5) (by omega) (by omega) hsr) rfl rfl (by repeat (first | exact Split.nil | (apply Split.cons; (repeat (first | with_reducible exact Take.here | apply Take.there)))))) ?_
      rintro v95 L1 ⟨pv, μ6, rfl, h6, rfl⟩
      refine swl_app ?_
      obtain ⟨μ7, h7, hb⟩ := hback μ6 h6
      have hy2 := moreL_some p2
      rw [hy2.1, hy2.2]
      refine swl_ent (Split.ent' (K := [ro μ6, own 3 1 pv (a'.drop a.length).length ((a'.drop a.length).flatMap (icsk .i64))]) (by repeat (first | exact Split.nil | (apply Split.cons; (repeat (first | with_reducible exact Take.here | apply Take.there)))))) ?_
      refine swl_ent (hb _) ?_
      refine swl_share_own (v := pv) (μ := μ7) (by repeat (first | exact Split.nil | (apply Split.cons; (repeat (first | with_reducible exact Take.here | apply Take.there))))) fun μ8 h8 r8 => ?_
      refine s_pu (pu_move rfl) ?_
      first | refine s_pu (pu_extractL rfl) ?_ | refine s_pu (pu_extract rfl rfl) ?_
      first | refine s_pu (pu_extractL rfl) ?_ | refine s_pu (pu_extract rfl rfl) ?_
      refine s_pu (pu_assign rfl) ?_
      refine s_pu (pu_assign rfl) ?_
      refine swl_sub _ (.cons (t := 0) rfl (.cons (t := 5) rfl (.cons (t := 6) rfl (.cons (t := 7) rfl (.cons (t := 13) rfl .nil))))) ?_
      refine swl_nil ?_
      refine then_n ?_
      refine swp_seq ?_
      refine swp_seq ?_
      refine swp_region ?_
      refine s_pu (pu_move rfl) ?_
      refine s_pu (pu_neq rfl rfl) ?_
      refine s_pu (pu_move rfl) ?_
      refine s_on rfl rfl ?_
      refine s_pu (pu_move rfl) ?_
      refine s_on rfl rfl ?_
      refine s_pu (pu_move rfl) ?_
      refine s_on rfl rfl ?_
      refine s_ef (ef_append_ro r8 rfl rfl (by repeat (first | exact Split.nil | (apply Split.cons; (repeat (first | with_reducible exact Take.here | apply Take.there))))) (icsk_one _) (by simp only [maxLen]; rw [List.length_drop]; omega) (by rw [List.length_drop]; omega)) ?_
      rintro v103 -
      rw [← List.flatMap_append, p4, show a.length + (a'.drop a.length).length = a'.length by rw [List.length_drop]; omega]
      refine swl_fact (fun m h => own_shape .here h) fun hs1 => ?_
      have hle8 := hle.trans (h7.trans h8)
      refine s_on rfl rfl ?_
      refine s_pu (pu_move rfl) ?_
      refine s_on rfl rfl ?_
      refine s_ef (ef_fn (samelist_i v103 lv a' a' [own 3 1 v103 a'.length (a'.flatMap (icsk .i64)), ro μ8] (ints_own hs1 .here) (Ints.row (ra.le hle8))) rfl rfl (by repeat (first | exact Split.nil | (apply Split.cons; (repeat (first | with_reducible exact Take.here | apply Take.there)))))) ?_
      rintro v105 L1 ⟨rfl, rfl⟩
      refine swl_app ?_
      refine s_on rfl rfl ?_
      refine s_pu (pu_not rfl) ?_
      first | refine s_pu (pu_pick_t rfl rfl) ?_ | refine s_pu (pu_pick_f rfl rfl) ?_
      refine swl_sub _ (.cons (t := 0) rfl (.cons (t := 5) rfl (.cons (t := 107) rfl .nil))) ?_
      refine swl_nil ?_
      refine then_n ?_
      refine swp_cond (b := _) rfl (fun h107 => by exfalso; simp at h107) (fun h107 => ?_)
      refine swp_skip ?_
      refine then_n ?_
      refine swp_seq ?_
      refine swp_seq ?_
      refine swp_ent (Split.ent' (K := [ro μ8]) (by repeat (first | exact Split.nil | (apply Split.cons; (repeat (first | with_reducible exact Take.here | apply Take.there)))))) ?_
      have hG8 := hG4.le hle8
      have ra8 := ra.le hle8
      refine swp_region ?_
      refine s_pu (pu_move rfl) ?_
      refine s_pu (pu_len_row hG8.1 rfl) ?_
      refine s_pu (pu_move rfl) ?_
      refine swl_sub _ (.cons (t := 5) rfl (.cons (t := 108) rfl (.cons (t := 109) rfl (.cons (t := 110) rfl .nil)))) ?_
      refine swl_nil ?_
      refine then_n ?_
      refine swp_block ?_
      refine swp_loop (ι := Nat) (fun c env L => env = [(5, lv), (108, v'), (109, .int .i64 (Gm.length : Nat)), (110, .int .i64 (c : Nat))] ∧ L = [ro μ8] ∧ c ≤ Gm.length) (fun c => Gm.length - c) 0 ⟨rfl, rfl, Nat.zero_le _⟩ ?_
      rintro c env L ⟨rfl, rfl, hcl⟩
      refine swp_seq ?_
      refine swp_region ?_
      refine s_pu (pu_lss rfl rfl) ?_
      refine swl_sub _ (.cons (t := 5) rfl (.cons (t := 108) rfl (.cons (t := 109) rfl (.cons (t := 110) rfl (.cons (t := 111) rfl .nil))))) ?_
      refine swl_nil ?_
      refine then_n ?_
      refine swp_seq ?_
      refine swp_cond (b := _) rfl (fun h111 => ?_) (fun h111 => ?_)
      · skip   -- 111 T
        have h111' : c < Gm.length := by have := of_decide_eq_true h111; omega
        obtain ⟨gb, off, cap, x, hv, hx, hxc, hxr, hnx⟩ := row_at hG8 h111'
        have hxl := hrows1 x (List.mem_of_getElem? hx)
        have hgc := gens_min ha hnx
        have hgo := (okRow_iff.1 (gens_at ha hnx).2).1
        obtain ⟨ab, ao, ac, hav, hac⟩ := ra8.at_ hgc
        refine swp_skip ?_
        refine then_n ?_
        refine swp_seq ?_
        refine swp_block ?_
        refine swp_seq ?_
        refine swp_region ?_
        refine s_pu (pu_move rfl) ?_
        refine s_pu (pu_indexAddr (off + c * 1) (congrArg some hv) rfl (by omega) (by omega) (by rw [Int.toNat_natCast])) ?_
        refine s_rd (rd_ro rfl hxc) ?_
        refine s_pu (pu_assign rfl) ?_
        refine s_pu (pu_assign rfl) ?_
        refine swl_sub _ (.cons (t := 5) rfl (.cons (t := 14) rfl (.cons (t := 15) rfl (.cons (t := 108) rfl (.cons (t := 109) rfl (.cons (t := 110) rfl .nil)))))) ?_
        refine swl_nil ?_
        refine then_n ?_
        refine swp_seq ?_
        refine swp_region ?_
        refine s_pu (pu_assign rfl) ?_
        refine swl_sub _ (.cons (t := 5) rfl (.cons (t := 14) rfl (.cons (t := 15) rfl (.cons (t := 16) rfl (.cons (t := 108) rfl (.cons (t := 109) rfl (.cons (t := 110) rfl .nil))))))) ?_
        refine swl_nil ?_
        refine then_n ?_
        refine swp_seq ?_
        refine swp_seq ?_
        refine swp_region ?_
        refine s_pu (pu_move rfl) ?_
        refine s_pu (pu_len_row hxr rfl) ?_
        refine s_pu (pu_move rfl) ?_
        refine swl_sub _ (.cons (t := 5) rfl (.cons (t := 14) rfl (.cons (t := 16) rfl (.cons (t := 108) rfl (.cons (t := 109) rfl (.cons (t := 110) rfl (.cons (t := 115) rfl (.cons (t := 116) rfl (.cons (t := 117) rfl .nil))))))))) ?_
        refine swl_nil ?_
        refine then_n ?_
        refine swp_block ?_
        refine swp_loop (ι := Nat) (fun j env L => env = [(5, lv), (14, .int .i64 (c : Nat)), (16, .int .i64 (hiG (valsG a' (x.2.take j)))), (108, v'), (109, .int .i64 (Gm.length : Nat)), (110, .int .i64 (c : Nat)), (115, x.1), (116, .int .i64 (x.2.length : Nat)), (117, .int .i64 (j : Nat))] ∧ L = [ro μ8] ∧ j ≤ x.2.length) (fun j => x.2.length - j) 0 ⟨rfl, rfl, Nat.zero_le _⟩ ?_
        rintro j env L ⟨rfl, rfl, hj⟩
        refine swp_seq ?_
        refine swp_region ?_
        refine s_pu (pu_lss rfl rfl) ?_
        refine swl_sub _ (.cons (t := 5) rfl (.cons (t := 14) rfl (.cons (t := 16) rfl (.cons (t := 108) rfl (.cons (t := 109) rfl (.cons (t := 110) rfl (.cons (t := 115) rfl (.cons (t := 116) rfl (.cons (t := 117) rfl (.cons (t := 118) rfl .nil)))))))))) ?_
        refine swl_nil ?_
        refine then_n ?_
        refine swp_seq ?_
        refine swp_cond (b := _) rfl (fun h118 => ?_) (fun h118 => ?_)
        · skip   -- 118 T
          have h118' : j < x.2.length := by have := of_decide_eq_true h118; omega
          obtain ⟨pb, po, pc, hpv, hpc⟩ := hxr.at_ (List.getElem?_eq_getElem h118')
          have hpo := hgo _ (List.getElem_mem h118')
          have htk : x.2.take (j + 1) = x.2.take j ++ [x.2[j]] := by rw [List.take_add_one, List.getElem?_eq_getElem h118']; rfl
          generalize x.2[j] = p at *
          obtain ⟨p, rfl⟩ : ∃ q : Nat, p = q := ⟨p.toNat, by omega⟩
          have hpl : p < a'.length := by omega
          obtain ⟨qb, qo, qc, hqv, hqc⟩ := ra8.at_ (List.getElem?_eq_getElem hpl)
          have hqr := gens_range ha p _ (List.getElem?_eq_getElem hpl)
          have hst : max (hiG (valsG a' (x.2.take j))) a'[p] = hiG (valsG a' (x.2.take (j + 1))) := by
            rw [htk, valsG_append, hiG_append, Int.toNat_natCast, List.getD_eq_getElem?_getD, List.getElem?_eq_getElem hpl]
            show _ = max _ (cnt a'[p])
            rw [cnt_id (by omega) (by omega)]
          refine swp_skip ?_
          refine then_n ?_
          refine swp_seq ?_
          refine swp_block ?_
          refine swp_seq ?_
          refine swp_region ?_
          refine s_pu (pu_indexAddr (po + j * 1) (congrArg some hpv) rfl (by omega) (by omega) (by rw [Int.toNat_natCast])) ?_
          refine s_rd (rd_ro rfl hpc) ?_
          refine s_pu (pu_assign rfl) ?_
          refine swl_sub _ (.cons (t := 5) rfl (.cons (t := 14) rfl (.cons (t := 16) rfl (.cons (t := 18) rfl (.cons (t := 108) rfl (.cons (t := 109) rfl (.cons (t := 110) rfl (.cons (t := 115) rfl (.cons (t := 116) rfl (.cons (t := 117) rfl .nil)))))))))) ?_
          refine swl_nil ?_
          refine then_n ?_
          refine swp_region ?_
          refine s_pu (pu_move rfl) ?_
          refine s_pu (pu_move rfl) ?_
          refine s_pu (pu_move rfl) ?_
          refine s_pu (pu_indexAddr (qo + p * 1) (congrArg some hqv) rfl (by omega) (by omega) (by rw [Int.toNat_natCast])) ?_
          refine s_rd (rd_ro rfl hqc) ?_
          refine s_pu (pu_max2 rfl rfl) ?_
          rw [hst]
          refine s_pu (pu_assign rfl) ?_
          refine swl_sub _ (.cons (t := 5) rfl (.cons (t := 14) rfl (.cons (t := 16) rfl (.cons (t := 108) rfl (.cons (t := 109) rfl (.cons (t := 110) rfl (.cons (t := 115) rfl (.cons (t := 116) rfl (.cons (t := 117) rfl .nil))))))))) ?_
          refine swl_nil ?_
          refine block_n ?_
          refine then_n ?_
          refine swp_region ?_
          refine s_pu (pu_add_as ((j + 1 : Nat) : Int) rfl rfl (by omega) (by omega) (by omega)) ?_
          refine s_pu (pu_move rfl) ?_
          refine swl_sub _ (.cons (t := 5) rfl (.cons (t := 14) rfl (.cons (t := 16) rfl (.cons (t := 108) rfl (.cons (t := 109) rfl (.cons (t := 110) rfl (.cons (t := 115) rfl (.cons (t := 116) rfl (.cons (t := 117) rfl .nil))))))))) ?_
          refine swl_nil ?_
          exact then_n ⟨j + 1, ⟨rfl, rfl, h118'⟩, by omega⟩
        · skip   -- 118 F
          have h118' := of_decide_eq_false h118
          obtain rfl : j = x.2.length := by omega
          rw [List.take_length]
          have hhr := hiG_range (valsG a' x.2)
          refine swp_exit ?_
          refine then_x ?_
          refine then_x ?_
          refine block_hit rfl ?_
          refine then_n ?_
          refine swp_seq ?_
          refine swp_region ?_
          refine s_pu (pu_move rfl) ?_
          refine s_pu (pu_move rfl) ?_
          refine s_pu (pu_indexAddr (ao + c * 1) (congrArg some hav) rfl (by omega) (by omega) (by rw [Int.toNat_natCast])) ?_
          refine s_rd (rd_ro rfl hac) ?_
          refine s_pu (pu_move rfl) ?_
          refine s_pu (pu_add_as (hiG (valsG a' x.2) + 1) rfl rfl (by omega) (by omega) (by omega)) ?_
          refine s_pu (pu_min2 rfl rfl) ?_
          refine s_pu (pu_neq rfl rfl) ?_
          refine swl_sub _ (.cons (t := 5) rfl (.cons (t := 108) rfl (.cons (t := 109) rfl (.cons (t := 110) rfl (.cons (t := 135) rfl .nil))))) ?_
          refine swl_nil ?_
          refine then_n ?_
          refine swp_cond (b := _) rfl (fun h135 => by exfalso; simp at h135) (fun h135 => ?_)
          refine swp_skip ?_
          refine block_n ?_
          refine then_n ?_
          refine swp_region ?_
          refine s_pu (pu_add_as ((c + 1 : Nat) : Int) rfl rfl (by omega) (by omega) (by omega)) ?_
          refine s_pu (pu_move rfl) ?_
          refine swl_sub _ (.cons (t := 5) rfl (.cons (t := 108) rfl (.cons (t := 109) rfl (.cons (t := 110) rfl .nil)))) ?_
          refine swl_nil ?_
          exact then_n ⟨c + 1, ⟨rfl, rfl, h111'⟩, by omega⟩
      · skip   -- 111 F
        refine swp_exit ?_
        refine then_x ?_
        refine then_x ?_
        refine block_hit rfl ?_
        refine then_n ?_
        refine swp_seq ?_
        refine swp_region ?_
        refine s_pu (pu_assign rfl) ?_
        refine swl_sub _ (.cons (t := 4) rfl .nil) ?_
        refine swl_nil ?_
        refine then_n ?_
        refine swp_ret ?_
        exact done_ret [ro μ8] (.tmp rfl .nil) ⟨rfl, μ8, [], h1.trans (h3.trans (h4.trans hle8)), rfl⟩ (by repeat (first | exact Split.nil | (apply Split.cons; (repeat (first | with_reducible exact Take.here | apply Take.there)))))
end SX
namespace Go.Proofs.Ytakdmomhhjnolaa
open Go Go.ChangeShapes Go.WideShapes Go.ChangeAt Go.RowKit
theorem bulk_pos {H : Type} : ∀ d : DataW H, 1 ≤ Rows.uptoBulk d := fun d => by
  cases d with
  | lit l => cases l <;> simp only [Rows.uptoBulk] <;> omega
  | _ => simp only [Rows.uptoBulk] <;> omega
theorem bulk_len {H : Type} : ∀ ds : List (DataW H), ds.length ≤ Rows.uptoBulkAll ds
  | [] => by simp
  | d :: r => by
    have := bulk_pos d
    have := bulk_len r
    simp only [Rows.uptoBulkAll, List.length_cons]; omega
theorem bulk_at {H : Type} : ∀ {ds : List (DataW H)} {i : Nat} {d : DataW H}, ds[i]? = some d → Rows.uptoBulk d ≤ Rows.uptoBulkAll ds
  | [], _, _, h => by simp at h
  | x :: r, 0, d, h => by
    obtain rfl : x = d := by simpa using h
    simp only [Rows.uptoBulkAll]; omega
  | x :: r, i + 1, d, h => by
    have := bulk_at (ds := r) (i := i) (d := d) (by simpa using h)
    simp only [Rows.uptoBulkAll]; omega
/-- a graph is short, and so are its rows -/
theorem graph_short {H : Type} {xs : List (Value × List Int)} {d : DataW H} {ds : List (DataW H)} {i : Nat} (hi : ds[i]? = some d) (hk : Rows.uptoSmall H ds = true)
    (hd : (d = .nil ∧ xs = []) ∨ ∃ (Ds sp : List (DataW H)), d = .slice Ds sp ∧ Ds.length = xs.length ∧ ∀ (i : Nat) (a : Value × List Int) (D : DataW H), xs[i]? = some a → Ds[i]? = some D → (D = .nil ∧ a.2 = []) ∨ ∃ (Ds sp : List (DataW H)), D = .slice Ds sp ∧ Ds.length = a.2.length) :
    xs.length ≤ 1048576 ∧ ∀ x ∈ xs, x.2.length ≤ 1048576 := by
  have h : Rows.uptoBulkAll ds ≤ 1048576 := of_decide_eq_true hk
  have h1 := bulk_at hi
  rcases hd with ⟨_, rfl⟩ | ⟨Ds, sp, rfl, hl, hr⟩
  · exact ⟨by simp, fun x hx => by cases hx⟩
  · have hb := bulk_len Ds
    simp only [Rows.uptoBulk] at h1
    refine ⟨by omega, fun x hx => ?_⟩
    obtain ⟨i, hi⟩ := List.getElem?_of_mem hx
    obtain ⟨D, hD⟩ : ∃ D, Ds[i]? = some D := ⟨_, List.getElem?_eq_getElem (by rw [hl]; exact (List.getElem?_eq_some_iff.1 hi).1)⟩
    have hba := bulk_at hD
    rcases hr i x D hi hD with ⟨_, h2⟩ | ⟨D2, s2, rfl, h3⟩
    · rw [h2]; simp
    · have := bulk_len D2
      simp only [Rows.uptoBulk] at hba
      omega
/-- a list is short -/
theorem ints_short {H : Type} {k : IntKind} {xs : List Int} {d : DataW H} {ds : List (DataW H)} {i : Nat} (hi : ds[i]? = some d) (hk : Rows.uptoSmall H ds = true) (hd : (d = .nil ∧ xs = []) ∨ ∃ spare, d = .slice (lits k xs) spare) : xs.length ≤ 1048576 := by
  have h : Rows.uptoBulkAll ds ≤ 1048576 := of_decide_eq_true hk
  have hb := bulk_at hi
  rcases hd with ⟨_, rfl⟩ | ⟨spare, rfl⟩
  · simp
  · have hl : ∀ ys : List Int, ys.length ≤ Rows.uptoBulkAll (lits (H := H) k ys) := fun ys => by
      have := bulk_len (lits (H := H) k ys)
      unfold lits at this ⊢
      rwa [List.length_map] at this
    have := hl xs
    simp only [Rows.uptoBulk] at hb
    omega
end Go.Proofs.Ytakdmomhhjnolaa
